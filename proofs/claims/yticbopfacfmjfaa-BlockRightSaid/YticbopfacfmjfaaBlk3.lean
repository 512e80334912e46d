/-
  A block's item, without a sum.
-/
import Derived.Test.YticbopfacfmjfaaBlk1
import Derived.Test.YticbopfacfmjfaaItCode
import Derived.Test.YticbopfacfmjfaaItMk
import Derived.Test.YticbopfacfmjfaaSet5
import Derived.Test.YticbopfacfmjfaaItOwn
import Derived.Test.YticbopfacfmjfaaQx
namespace Go.Proofs.Yticbopfacfmjfaa
open Go.RowKit
set_option linter.unusedVariables false

/-- Its item: five parts, or six. -/
def blkT (ty num fl crc : Nat) (data sum : List UInt8) : T := T.mk 4 0 [] false (if crc = 0 then 5 else 6) fun i => if i = 0 then numT ty else if i = 1 then numT num else if i = 2 then numT fl else if i = 3 then numT crc else if i = 4 then strT data else if i = 5 then strT sum else T.nil

/-- The cells of its first five parts. -/
abbrev blk5 (ty num fl crc : Nat) (data : List UInt8) : Array Value := #[.int .i64 0, .int .u64 (ty : Int), str [], .slice none 0 0, .bool false, .int .i64 0, .int .u64 (num : Int), str [], .slice none 0 0, .bool false, .int .i64 0, .int .u64 (fl : Int), str [], .slice none 0 0, .bool false, .int .i64 0, .int .u64 (crc : Int), str [], .slice none 0 0, .bool false, .int .i64 2, .int .u64 0, str data, .slice none 0 0, .bool false]

theorem blk5_IsL {W : World} {Q : Nat → Prop} {g : Nat} {ty num fl : Nat} {data sum : List UInt8} (q : Q g) (h : Blk W g 32 (blk5 ty num fl 0 data)) : IsL W Q (blkT ty num fl 0 data sum) (some ⟨g, 0, none⟩) := fun _ => ⟨g, 0, rfl, h.lt, q, fun j hj => by
  have hj2 : j = 0 ∨ j = 1 ∨ j = 2 ∨ j = 3 ∨ j = 4 := by simp at hj; omega
  rcases hj2 with rfl | rfl | rfl | rfl | rfl
  · exact ⟨none, 0, ⟨h.cell 0, h.cell 1, h.cell 2, h.cell 3, h.cell 4⟩, fun h => absurd h (by decide)⟩
  · exact ⟨none, 0, ⟨h.cell 5, h.cell 6, h.cell 7, h.cell 8, h.cell 9⟩, fun h => absurd h (by decide)⟩
  · exact ⟨none, 0, ⟨h.cell 10, h.cell 11, h.cell 12, h.cell 13, h.cell 14⟩, fun h => absurd h (by decide)⟩
  · exact ⟨none, 0, ⟨h.cell 15, h.cell 16, h.cell 17, h.cell 18, h.cell 19⟩, fun h => absurd h (by decide)⟩
  · exact ⟨none, 0, ⟨h.cell 20, h.cell 21, h.cell 22, h.cell 23, h.cell 24⟩, fun h => absurd h (by decide)⟩⟩
theorem blk6_IsL {W : World} {Q : Nat → Prop} {base g c : Nat} {ty num fl crc : Nat} {data sum : List UInt8} (hc : ¬ crc = 0) (q : Q g) (hlt : g < W.heap.size) (h : W.ownsRow base 32 5 (.slice (some ⟨g, 0, none⟩) (5 + 1) c) (5 + 1) ((blk5 ty num fl crc data).toList ++ [Value.int .i64 (strT sum).kind, .int .u64 ((strT sum).n : Int), str (strT sum).s, .slice none (strT sum).k 0, .bool (strT sum).op])) : IsL W Q (blkT ty num fl crc data sum) (some ⟨g, 0, none⟩) := by
  unfold blkT
  rw [if_neg hc]
  refine fun _ => ⟨g, 0, rfl, hlt, q, fun j hj => ?_⟩
  have hj2 : j = 0 ∨ j = 1 ∨ j = 2 ∨ j = 3 ∨ j = 4 ∨ j = 5 := by omega
  rcases hj2 with rfl | rfl | rfl | rfl | rfl | rfl
  · exact ⟨none, 0, ⟨own_cells (j := 0) h rfl, own_cells (j := 1) h rfl, own_cells (j := 2) h rfl, own_cells (j := 3) h rfl, own_cells (j := 4) h rfl⟩, fun h => absurd h (by decide)⟩
  · exact ⟨none, 0, ⟨own_cells (j := 5) h rfl, own_cells (j := 6) h rfl, own_cells (j := 7) h rfl, own_cells (j := 8) h rfl, own_cells (j := 9) h rfl⟩, fun h => absurd h (by decide)⟩
  · exact ⟨none, 0, ⟨own_cells (j := 10) h rfl, own_cells (j := 11) h rfl, own_cells (j := 12) h rfl, own_cells (j := 13) h rfl, own_cells (j := 14) h rfl⟩, fun h => absurd h (by decide)⟩
  · exact ⟨none, 0, ⟨own_cells (j := 15) h rfl, own_cells (j := 16) h rfl, own_cells (j := 17) h rfl, own_cells (j := 18) h rfl, own_cells (j := 19) h rfl⟩, fun h => absurd h (by decide)⟩
  · exact ⟨none, 0, ⟨own_cells (j := 20) h rfl, own_cells (j := 21) h rfl, own_cells (j := 22) h rfl, own_cells (j := 23) h rfl, own_cells (j := 24) h rfl⟩, fun h => absurd h (by decide)⟩
  · exact ⟨none, 0, ⟨own_cells (j := 25) h rfl, own_cells (j := 26) h rfl, own_cells (j := 27) h rfl, own_cells (j := 28) h rfl, own_cells (j := 29) h rfl⟩, fun h => absurd h (by decide)⟩
set_option maxRecDepth 20000 in
set_option maxHeartbeats 800000 in
theorem with_any (ty num fl crc : Nat) (data sum : List UInt8) (h1 : ty ≤ 65535) (h2 : num ≤ 65535) (h3 : crc ≤ 2) (w : World) : Calls Try.prog 17 #[BV.v ⟨ty, num, fl, crc, data⟩, str sum] w (fun e w' => ∃ A c, e = .returned (itemV (blkT ty num fl crc data sum) A c) ∧ Ext w w' ∧ IsL w' (fun b => w.heap.size ≤ b) (blkT ty num fl crc data sum) A) := by
  have HB := hid ((Blk.new w 24 (BV.c ⟨ty, num, fl, crc, data⟩)).alloc (.cells #[.int .i64 0, .int .u64 0, .string ⟨#[]⟩, .slice none 0 0, .bool false] 32))
  have HR : Hid (Blk ((w.alloc (.cells (BV.c ⟨ty, num, fl, crc, data⟩) 24)).alloc (.cells #[.int .i64 0, .int .u64 0, .string ⟨#[]⟩, .slice none 0 0, .bool false] 32)) (w.heap.size + 1) 32 #[.int .i64 0, .int .u64 0, .string ⟨#[]⟩, .slice none 0 0, .bool false]) := by
    have := Blk.new (w.alloc (.cells (BV.c ⟨ty, num, fl, crc, data⟩) 24)) 32 #[.int .i64 0, .int .u64 0, .string ⟨#[]⟩, .slice none 0 0, .bool false]
    unfold Hid
    simpa using this
  have HE := hid (((Mod.refl [] w).alloc (.cells (BV.c ⟨ty, num, fl, crc, data⟩) 24)).alloc (.cells #[.int .i64 0, .int .u64 0, .string ⟨#[]⟩, .slice none 0 0, .bool false] 32))
  have t1 : IntKind.u64.wrap (ty : Int) = (ty : Int) := IntWalk.u64_in _ (by omega)
  have t2 : IntKind.u64.wrap (num : Int) = (num : Int) := IntWalk.u64_in _ (by omega)
  have t3 : IntKind.u64.wrap (crc : Int) = (crc : Int) := IntWalk.u64_in _ (by omega)
  go_enter Try.func17, Try.ntmps17
  go_upto_region 1 with fail
  generalize ((w.alloc (.cells (BV.c ⟨ty, num, fl, crc, data⟩) 24)).alloc (.cells #[.int .i64 0, .int .u64 0, .string ⟨#[]⟩, .slice none 0 0, .bool false] 32)) = V at *
  have HS : Hid (∀ w', Ext V w' → w'.cell? ⟨w.heap.size, 0, none⟩ = some (.int .i64 (ty : Int)) ∧ w'.cell? ⟨w.heap.size, 1, none⟩ = some (.int .i64 (num : Int)) ∧ w'.cell? ⟨w.heap.size, 2, none⟩ = some (.int .u64 (fl : Int)) ∧ w'.cell? ⟨w.heap.size, 3, none⟩ = some (.int .i64 (crc : Int)) ∧ w'.cell? ⟨w.heap.size, 4, none⟩ = some (str data)) := fun W hW => by
    have b1 := HB.out.ext hW
    exact ⟨b1.cell 0, b1.cell 1, b1.cell 2, b1.cell 3, b1.cell 4⟩
  obtain ⟨p0, p1, p2, p3, p4⟩ := HS.out V (Mod.refl _ _)
  go_cut [5] (fun s3 wx => ∃ g3, s3 = .slice (some ⟨g3, 0, none⟩) 5 5 ∧ Hid (Ext V wx ∧ Blk wx g3 32 (blk5 ty num fl crc data) ∧ w.heap.size + 2 ≤ g3))
  case first =>
    go_region_held3 (fun w' => w'.cell? ⟨w.heap.size, 0, none⟩ = some (.int .i64 (ty : Int)) ∧ w'.cell? ⟨w.heap.size, 1, none⟩ = some (.int .i64 (num : Int)) ∧ w'.cell? ⟨w.heap.size, 2, none⟩ = some (.int .u64 (fl : Int)) ∧ w'.cell? ⟨w.heap.size, 3, none⟩ = some (.int .i64 (crc : Int)) ∧ w'.cell? ⟨w.heap.size, 4, none⟩ = some (str data)) (go_keep)
        (first
          | (go_at_call 33; (try rw [t1]); (try rw [t2]); (try rw [t3]); refine (NumI_any _ _).mono ?_; rintro x w3 ⟨rfl, hb3⟩; have hx : Ext V w3 := (by (with_reducible refine Mod.trans ?_ hb3); (repeat (first | with_reducible assumption | with_reducible exact Mod.refl _ _ | with_reducible refine Mod.drew ?_ | with_reducible refine Mod.alloc ?_ _))); have z := HS.out w3 hx)
          | (go_at_call 28; refine (StrV_any _ _).mono ?_; rintro x w3 ⟨rfl, hb3⟩; have hx : Ext V w3 := (by (with_reducible refine Mod.trans ?_ hb3); (repeat (first | with_reducible assumption | with_reducible exact Mod.refl _ _ | with_reducible refine Mod.drew ?_ | with_reducible refine Mod.alloc ?_ _))); have z := HS.out w3 hx))
    all_goals go_wp2_with fail
    all_goals go_meet
    all_goals exact ⟨_, rfl, Mod.alloc hx _, Blk.new _ _ _, Nat.le_trans (Nat.succ_le_of_lt HR.out.lt) (Mod.size (S := []) (w := V) (by assumption))⟩
  obtain ⟨g3, rfl, hG⟩ := hcut
  have HE1 := hid (HE.out.trans hG.out.1)
  have HB1 := hid (HB.out.ext hG.out.1)
  have HR1 := hid (HR.out.ext hG.out.1)
  have q3 : wc.cell? ⟨w.heap.size, 3, none⟩ = some (.int .i64 (crc : Int)) := HB1.out.cell 3
  clear p0 p1 p2 p3 p4 HS t1 t2 t3 HE HB HR
  by_cases hc : crc = 0
  · subst hc
    go_wp2_with fail
    refine (ListV_any 5 _ 5 _).mono ?_
    rintro e w8 ⟨rfl, hb8⟩
    have HE8 := hid (HE1.out.trans hb8)
    have HR8 : Hid (Blk w8 (w.heap.size + 1) 32 (itemC (T.mk 0 0 [] false 0 fun _ => T.nil) none 0)) := hid (HR1.out.ext hb8)
    have HG8 := hid (hG.out.2.1.ext hb8)
    obtain ⟨c0, c1, c2, c3, c4⟩ := cells5 HR8.out
    have f0 := Blk.frozen HR8.out 0
    have f1 := Blk.frozen HR8.out 1
    have f2 := Blk.frozen HR8.out 2
    have f3 := Blk.frozen HR8.out 3
    have f4 := Blk.frozen HR8.out 4
    clear hb8 q3
    go_wp2_with fail
    obtain ⟨d0, d1, d2, d3, d4⟩ := cells5 (set5_blk (t := blkT ty num fl 0 data sum) (A := some ⟨g3, 0, none⟩) (c := 5) HR8.out)
    clear c0 c1 c2 c3 c4 f0 f1 f2 f3 f4
    show bodyPost _ _ _ _ _ (set5 w8 (w.heap.size + 1) (blkT ty num fl 0 data sum) (some ⟨g3, 0, none⟩) 5)
    refine bodyPost_ret (v := itemV (blkT ty num fl 0 data sum) (some ⟨g3, 0, none⟩) 5) (by simp [results, Try.results17, go_sem, d0, d1, d2, d3, d4]) rfl ?_
    refine ⟨_, 5, rfl, set5_mod HE8.out (by omega), IsL.weak (fun _ _ h => by have : w.heap.size + 2 ≤ _ := h; omega) _ (IsL.mod (Q := fun b => w.heap.size + 2 ≤ b) set5_modb (fun k hq hk hm => by rw [List.mem_singleton] at hm; have : w.heap.size + 2 ≤ k := hq; omega) _ (blk5_IsL hG.out.2.2 HG8.out))⟩
  · have hc2 : ((crc : Int) = 0) = False := by simp [hc]
    have hc3 : ((crc : Int) == 0) = false := by simp [hc]
    obtain ⟨i0, hi, hz0, hz1, hz2⟩ := info_parts infoItem
    go_wp2_with fail
    refine (StrV_any sum _).mono ?_
    rintro e w8 ⟨rfl, hb8⟩
    have HE8 := hid (HE1.out.trans hb8)
    have HR8 := hid (HR1.out.ext hb8)
    have hown8 := own_of_blk (base := w.heap.size + 2) (n := 5) (size := 5) (hG.out.2.1.ext hb8) hG.out.2.2 (by decide) rfl
    clear hb8 q3
    go_wp2_with (at_builtin; refine wpList_append_own _ rfl _ _ 30 rfl (w.heap.size + 2) 32 i0 _ 5 64 Try.underlying30 hi hz0 hz1 hz2 rfl (by decide) _ _ _ rfl (hown8.alloc _) ⟨w8.heap.size, 0, none⟩ 1 1 [Value.int .i64 (strT sum).kind, .int .u64 ((strT sum).n : Int), str (strT sum).s, .slice none (strT sum).k 0, .bool (strT sum).op] rfl rfl (news5 w8 (strT sum) none 0) (one5 (strT sum) none 0) (by decide) (by decide) (by have := HR8.out.lt; simp; omega) ?_; intro v' w9 hown' hgrow _)
    obtain ⟨g4, k4, rfl, hg4, hlt4⟩ := own_form hown'
    have HE9 := hid ((HE8.out.alloc _).grown hgrow (fun k hk => by obtain rfl : g3 = k := Option.some.inj hk; right; have := hG.out.2.2; omega))
    have HR9 := hid ((HR8.out.alloc _).mod (Mod.grown (S := [g3]) (Mod.refl _ _) hgrow (fun k hk => by obtain rfl : g3 = k := Option.some.inj hk; left; simp)) (by have := hG.out.2.2; simp; omega))
    have HL9 := hid (blk6_IsL (sum := sum) (Q := fun b => w.heap.size + 2 ≤ b) hc (show w.heap.size + 2 ≤ g4 by omega) hlt4 hown')
    clear hown8 hown' hgrow hlt4 hz0 hz1 hz2 hi
    go_wp2_with fail
    refine (ListV_any 6 _ k4 _).mono ?_
    rintro e wA ⟨rfl, hbA⟩
    have HEA := hid (HE9.out.trans hbA)
    have HRA : Hid (Blk wA (w.heap.size + 1) 32 (itemC (T.mk 0 0 [] false 0 fun _ => T.nil) none 0)) := hid (HR9.out.ext hbA)
    have HLA := hid (HL9.out.ext hbA)
    obtain ⟨c0, c1, c2, c3, c4⟩ := cells5 HRA.out
    have f0 := Blk.frozen HRA.out 0
    have f1 := Blk.frozen HRA.out 1
    have f2 := Blk.frozen HRA.out 2
    have f3 := Blk.frozen HRA.out 3
    have f4 := Blk.frozen HRA.out 4
    clear hbA
    go_wp2_with fail
    obtain ⟨d0, d1, d2, d3, d4⟩ := cells5 (set5_blk (t := T.mk 4 0 [] false 6 fun _ => T.nil) (A := some ⟨g4, 0, none⟩) (c := k4) HRA.out)
    clear c0 c1 c2 c3 c4 f0 f1 f2 f3 f4
    show bodyPost _ _ _ _ _ (set5 wA (w.heap.size + 1) (T.mk 4 0 [] false 6 fun _ => T.nil) (some ⟨g4, 0, none⟩) k4)
    refine bodyPost_ret (v := itemV (T.mk 4 0 [] false 6 fun _ => T.nil) (some ⟨g4, 0, none⟩) k4) (by simp [results, Try.results17, go_sem, d0, d1, d2, d3, d4]) rfl ?_
    refine ⟨some ⟨g4, 0, none⟩, k4, ?_, set5_mod HEA.out (by omega), IsL.weak (fun _ _ h => by have : w.heap.size + 2 ≤ _ := h; omega) _ (IsL.mod (Q := fun b => w.heap.size + 2 ≤ b) set5_modb (fun k hq hk hm => by rw [List.mem_singleton] at hm; have : w.heap.size + 2 ≤ k := hq; omega) _ HLA.out)⟩
    simp only [blkT, if_neg hc]
    rfl
end Go.Proofs.Yticbopfacfmjfaa
