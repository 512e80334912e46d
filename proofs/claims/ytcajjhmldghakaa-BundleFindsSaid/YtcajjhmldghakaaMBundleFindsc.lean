/-
  A block without a sum: its item, its bytes; the block that the laws wake the program by.
  A block's bytes; the block that the laws wake the program by.
  An item with the right sum as its last part.
  A block's item and bytes, whatever its sum.
  Bundles: the first block of a type, as the code finds it.
  An argument api.Bundle, opened: its primary's cells; its blocks lie in memory.
  Which names, primaries and bundles are of a size that is looked at.
  The reference's sums.
  The reference's sums, whole.
  The reference's blocks: bytes, header.
  The reference's blocks, built.
  Primaries: flags; why one is not right, as the reference tells it.
  Primaries: why one is not right, as the code tells it.
-/
import Derived.Test.YtcajjhmldghakaaMBundleFindsb
import Derived.Laws.BitsAllLaws

namespace Go.Proofs.Ytcajjhmldghakaa
open Go.RowKit
set_option linter.unusedVariables false
set_option linter.unusedSimpArgs false

theorem blkT_ok {ty num fl crc : Nat} {data sum : List UInt8} (h1 : ty ≤ 65535) (h2 : num ≤ 65535) (h3 : fl ≤ 255) (h4 : crc ≤ 2) (h5 : data.length ≤ 4000) (h6 : sum.length ≤ 4000) : (blkT ty num fl crc data sum).ok := by
  unfold blkT T.ok
  refine ⟨by omega, by omega, by simp, by split <;> omega, fun i hi => ?_⟩
  dsimp only
  split
  · exact num_ok (by omega)
  · split
    · exact num_ok (by omega)
    · split
      · exact num_ok (by omega)
      · split
        · exact num_ok (by omega)
        · split
          · exact str_ok (by omega)
          · split
            · exact str_ok (by omega)
            · have : i < 6 := by split at hi <;> omega
              omega

set_option maxRecDepth 20000 in
theorem summed_0 (t : T) (A : Option Addr) (c : Nat) (w : World) : Calls Try.prog 44 #[.int .i64 0, itemV t A c] w (Ret (itemV t A c) w) := by
  have HB := hid (Blk.new w 60 (itemC t A c))
  go_enter Try.func44, Try.ntmps44
  go_wp2_with fail
  refine bodyPost_ret (v := itemV t A c) (by simp [results, Try.results44, go_sem]) rfl (Ret.mk rfl (((Mod.refl _ _).alloc _).alloc _))

set_option maxRecDepth 20000 in
set_option maxHeartbeats 800000 in
theorem Item_bad (b : BV) (hb : b.right ≠ 0) (w : World) : Calls Try.prog 36 #[b.v] w (Ret (.tuple #[itemV (numT 0) none 0, .int .i64 b.right]) w) := by
  have HB := hid (Blk.new w 33 b.c)
  have HE0 := hid (((Mod.refl [] w).alloc (.cells b.c 33)).alloc (.cells #[.int .i64 0, .int .u64 0, .string ⟨#[]⟩, .slice none 0 0, .bool false] 60))
  have HR : Hid (Blk ((w.alloc (.cells b.c 33)).alloc (.cells #[.int .i64 0, .int .u64 0, .string ⟨#[]⟩, .slice none 0 0, .bool false] 60)) (w.heap.size + 1) 60 (itemC (numT 0) none 0)) := by
    have := Blk.new (w.alloc (.cells b.c 33)) 60 (itemC (numT 0) none 0)
    unfold Hid
    simpa [itemC, numT, T.kind, T.n, T.s, T.k, T.op] using this
  have k1 : Hid (∀ W, Calls Try.prog 23 #[b.v] W (Ret (.int .i64 b.right) W)) := fun W => cbRight_any b W
  generalize b.right = r at *
  have e1 : (r = 0) = False := by simp [hb]
  have e2 : (r == 0) = false := by simp [hb]
  go_enter Try.func36, Try.ntmps36
  go_wp2_with fail
  refine (k1.out _).mono ?_
  rintro e w1 ⟨rfl, hb1⟩
  have HE1 := hid (HE0.out.trans hb1)
  have HR1 := hid (HR.out.ext hb1)
  obtain ⟨c0, c1, c2, c3, c4⟩ := cells5 HR1.out
  have f0 := Blk.frozen HR1.out 0
  have f1 := Blk.frozen HR1.out 1
  have f2 := Blk.frozen HR1.out 2
  have f3 := Blk.frozen HR1.out 3
  have f4 := Blk.frozen HR1.out 4
  clear hb1
  go_wp2_with fail
  obtain ⟨d0, d1, d2, d3, d4⟩ := cells5 (set5_blk (t := numT 0) (A := none) (c := 0) HR1.out)
  clear c0 c1 c2 c3 c4 f0 f1 f2 f3 f4
  show bodyPost _ _ _ _ _ (set5 w1 (w.heap.size + 1) (numT 0) none 0)
  refine bodyPost_ret (v := .tuple #[itemV (numT 0) none 0, .int .i64 r]) (by simp [results, Try.results36, go_sem, d0, d1, d2, d3, d4]) rfl ?_
  exact Ret.mk rfl (set5_mod HE1.out (by omega))
set_option maxRecDepth 20000 in
set_option maxHeartbeats 800000 in
theorem Item_ok (ty num fl crc : Nat) (data : List UInt8) (hb : BV.right ⟨ty, num, fl, crc, data⟩ = 0) (t : T) (KS : Hid (∀ N A c W, N ≤ W.heap.size → IsL W (fun b => N ≤ b) (blkT ty num fl crc data []) A → Calls Try.prog 44 #[.int .i64 (crc : Int), itemV (blkT ty num fl crc data []) A c] W (fun e w' => ∃ A c, e = .returned (itemV t A c) ∧ Ext W w' ∧ IsL w' (fun b => N ≤ b) t A))) (w : World) : Calls Try.prog 36 #[BV.v ⟨ty, num, fl, crc, data⟩] w (fun e w' => ∃ A c, e = .returned (.tuple #[itemV t A c, .int .i64 0]) ∧ Ext w w' ∧ IsL w' (fun b => w.heap.size ≤ b) t A) := by
  have h := BV.right_zero hb
  simp only [] at h
  have HB := hid ((Blk.new w 33 (BV.c ⟨ty, num, fl, crc, data⟩)).alloc (.cells #[.int .i64 0, .int .u64 0, .string ⟨#[]⟩, .slice none 0 0, .bool false] 60))
  have HE0 := hid (((Mod.refl [] w).alloc (.cells (BV.c ⟨ty, num, fl, crc, data⟩) 33)).alloc (.cells #[.int .i64 0, .int .u64 0, .string ⟨#[]⟩, .slice none 0 0, .bool false] 60))
  have HR : Hid (Blk ((w.alloc (.cells (BV.c ⟨ty, num, fl, crc, data⟩) 33)).alloc (.cells #[.int .i64 0, .int .u64 0, .string ⟨#[]⟩, .slice none 0 0, .bool false] 60)) (w.heap.size + 1) 60 (itemC (numT 0) none 0)) := by
    have := Blk.new (w.alloc (.cells (BV.c ⟨ty, num, fl, crc, data⟩) 33)) 60 (itemC (numT 0) none 0)
    unfold Hid
    simpa [itemC, numT, T.kind, T.n, T.s, T.k, T.op] using this
  have k1 : Hid (∀ W, Calls Try.prog 23 #[BV.v ⟨ty, num, fl, crc, data⟩] W (Ret (.int .i64 0) W)) := fun W => by have := cbRight_any ⟨ty, num, fl, crc, data⟩ W; rw [hb] at this; exact this
  go_enter Try.func36, Try.ntmps36
  go_wp2_with fail
  refine (k1.out _).mono ?_
  rintro e w1 ⟨rfl, hb1⟩
  have HE1 := hid (HE0.out.trans hb1)
  have HR1 := hid (HR.out.ext hb1)
  have HC := hid (HB.out.ext hb1)
  obtain ⟨c0, c1, c2, c3, c4⟩ : w1.cell? ⟨w.heap.size, 0, none⟩ = some (.int .i64 (ty : Int)) ∧ w1.cell? ⟨w.heap.size, 1, none⟩ = some (.int .i64 (num : Int)) ∧ w1.cell? ⟨w.heap.size, 2, none⟩ = some (.int .u64 (fl : Int)) ∧ w1.cell? ⟨w.heap.size, 3, none⟩ = some (.int .i64 (crc : Int)) ∧ w1.cell? ⟨w.heap.size, 4, none⟩ = some (str data) := ⟨HC.out.cell 0, HC.out.cell 1, HC.out.cell 2, HC.out.cell 3, HC.out.cell 4⟩
  clear hb1
  have HN : Hid (w.heap.size + 2 ≤ w1.heap.size) := Nat.succ_le_of_lt HR1.out.lt
  go_upto_region 4 with fail
  have HS : Hid (∀ w', Ext w1 w' → w'.cell? ⟨w.heap.size, 0, none⟩ = some (.int .i64 (ty : Int)) ∧ w'.cell? ⟨w.heap.size, 1, none⟩ = some (.int .i64 (num : Int)) ∧ w'.cell? ⟨w.heap.size, 2, none⟩ = some (.int .u64 (fl : Int)) ∧ w'.cell? ⟨w.heap.size, 3, none⟩ = some (.int .i64 (crc : Int)) ∧ w'.cell? ⟨w.heap.size, 4, none⟩ = some (str data)) := fun W hW => by
    have b1 := HC.out.ext hW
    exact ⟨b1.cell 0, b1.cell 1, b1.cell 2, b1.cell 3, b1.cell 4⟩
  obtain ⟨g0, g1, g2, g3, g4⟩ := cells5 HR1.out
  have f0 := Blk.frozen HR1.out 0
  have f1 := Blk.frozen HR1.out 1
  have f2 := Blk.frozen HR1.out 2
  have f3 := Blk.frozen HR1.out 3
  have f4 := Blk.frozen HR1.out 4
  go_region_held3 (fun w' => w'.cell? ⟨w.heap.size, 0, none⟩ = some (.int .i64 (ty : Int)) ∧ w'.cell? ⟨w.heap.size, 1, none⟩ = some (.int .i64 (num : Int)) ∧ w'.cell? ⟨w.heap.size, 2, none⟩ = some (.int .u64 (fl : Int)) ∧ w'.cell? ⟨w.heap.size, 3, none⟩ = some (.int .i64 (crc : Int)) ∧ w'.cell? ⟨w.heap.size, 4, none⟩ = some (str data)) (go_keep)
      (first
        | (go_at_call 45; refine (with_any ty num fl crc data [] (by omega) (by omega) (by omega) _).mono ?_; rintro x w3 ⟨A, c, rfl, hb3, hl3⟩; have hl3 := IsL.weak (R := fun b => w.heap.size + 2 ≤ b) (fun k _ hq => Nat.le_trans (Nat.le_trans HN.out (Mod.size (S := []) (by first | with_reducible exact Mod.refl _ _ | with_reducible exact (Mod.refl _ _).drew))) hq) _ hl3; have hx : Ext w1 w3 := (by (with_reducible refine Mod.trans ?_ hb3); (repeat (first | with_reducible assumption | with_reducible exact Mod.refl _ _ | with_reducible refine Mod.drew ?_ | with_reducible refine Mod.alloc ?_ _))); have z := HS.out w3 hx)
        | (go_at_call 44; refine (KS.out (w.heap.size + 2) _ _ _ (Nat.le_trans HN.out (Mod.size hx)) hl3).mono ?_; rintro x w4 ⟨A2, c2, rfl, hb4, hl4⟩; have hx : Ext w1 w4 := (by (with_reducible refine Mod.trans ?_ hb4); (repeat (first | with_reducible assumption | with_reducible exact Mod.refl _ _ | with_reducible refine Mod.drew ?_ | with_reducible refine Mod.alloc ?_ _))); have z := HS.out w4 hx; have HR4 := hid (HR1.out.ext hx); obtain ⟨g0, g1, g2, g3, g4⟩ := cells5 HR4.out; have f0 := Blk.frozen HR4.out 0; have f1 := Blk.frozen HR4.out 1; have f2 := Blk.frozen HR4.out 2; have f3 := Blk.frozen HR4.out 3; have f4 := Blk.frozen HR4.out 4))
  all_goals go_wp2_with fail
  all_goals obtain ⟨d0, d1, d2, d3, d4⟩ := cells5 (set5_blk (t := t) (A := A2) (c := c2) HR4.out)
  all_goals clear g0 g1 g2 g3 g4 f0 f1 f2 f3 f4
  all_goals show bodyPost _ _ _ _ _ (set5 w4 (w.heap.size + 1) t A2 c2)
  all_goals refine bodyPost_ret (v := .tuple #[itemV t A2 c2, .int .i64 0]) (by simp [results, Try.results36, go_sem, d0, d1, d2, d3, d4]) rfl ?_
  all_goals exact ⟨A2, c2, rfl, set5_mod (HE1.out.trans hx) (by omega), IsL.weak (fun _ _ h => by have : w.heap.size + 2 ≤ _ := h; omega) _ (IsL.mod (Q := fun b => w.heap.size + 2 ≤ b) set5_modb (fun k hq hk hm => by rw [List.mem_singleton] at hm; have : w.heap.size + 2 ≤ k := hq; omega) _ hl4)⟩
end Go.Proofs.Ytcajjhmldghakaa


namespace Go.Proofs.Ytcajjhmldghakaa
open Go.RowKit
set_option linter.unusedVariables false
set_option linter.unusedSimpArgs false

set_option maxRecDepth 20000 in
set_option maxHeartbeats 800000 in
theorem Build_bad (b : BV) (hb : b.right ≠ 0) (w : World) : Calls Try.prog 29 #[b.v] w (Ret (.tuple #[str [], .int .i64 b.right]) w) := by
  have HE0 := hid ((Mod.refl [] w).alloc (.cells b.c 33))
  have k1 : Hid (∀ W, Calls Try.prog 36 #[b.v] W (Ret (.tuple #[itemV (numT 0) none 0, .int .i64 b.right]) W)) := fun W => Item_bad b hb W
  generalize b.right = r at *
  have e1 : (r = 0) = False := by simp [hb]
  have e2 : (r == 0) = false := by simp [hb]
  go_enter Try.func29, Try.ntmps29
  go_wp2_with fail
  refine (k1.out _).mono ?_
  rintro e w1 ⟨rfl, hb1⟩
  have HE1 := hid (HE0.out.trans hb1)
  clear hb1
  go_wp2_with fail
  refine bodyPost_ret (v := .tuple #[str [], .int .i64 r]) (by simp [results, Try.results29, go_sem]) rfl (Ret.mk rfl (HE1.out.alloc _))
set_option maxRecDepth 20000 in
set_option maxHeartbeats 800000 in
theorem Build_ok (ty num fl crc : Nat) (data : List UInt8) (hb : BV.right ⟨ty, num, fl, crc, data⟩ = 0) (t : T) (hok : t.ok) (hsz : t.size ≤ 100000) (KS : Hid (∀ N A c W, N ≤ W.heap.size → IsL W (fun b => N ≤ b) (blkT ty num fl crc data []) A → Calls Try.prog 44 #[.int .i64 (crc : Int), itemV (blkT ty num fl crc data []) A c] W (fun e w' => ∃ A c, e = .returned (itemV t A c) ∧ Ext W w' ∧ IsL w' (fun b => N ≤ b) t A))) (w : World) : Calls Try.prog 29 #[BV.v ⟨ty, num, fl, crc, data⟩] w (Ret (buildV t) w) := by
  have HE0 := hid ((Mod.refl [] w).alloc (.cells (BV.c ⟨ty, num, fl, crc, data⟩) 33))
  go_enter Try.func29, Try.ntmps29
  go_wp2_with fail
  refine (Item_ok ty num fl crc data hb t KS _).mono ?_
  rintro e w1 ⟨A, c, rfl, hb1, hl1⟩
  have HE1 := hid (HE0.out.trans hb1)
  have HL1 := hid hl1
  clear hb1 hl1
  go_wp2_with fail
  refine (iBuild_any t hok hsz A c _ (IsL.ext (IsL.weak (fun _ _ _ => trivial) _ HL1.out) ((Mod.refl _ _).alloc _))).mono ?_
  rintro e w2 ⟨rfl, hb2⟩
  have HE2 := hid ((HE1.out.alloc _).trans hb2)
  clear hb2
  obtain ⟨s, E, hV⟩ : ∃ s E, buildV t = .tuple #[str s, .int .i64 E] := by unfold buildV; split; exact ⟨_, _, rfl⟩; exact ⟨_, _, rfl⟩
  rw [hV]
  go_wp2_with fail
  refine bodyPost_ret (v := .tuple #[str s, .int .i64 E]) (by simp [results, Try.results29, go_sem]) rfl (Ret.mk hV.symm HE2.out)

end Go.Proofs.Ytcajjhmldghakaa


namespace Go.Proofs.Ytcajjhmldghakaa
open Go.RowKit
set_option linter.unusedVariables false
set_option linter.unusedSimpArgs false

/-- An array of six, with another last part. -/
def lastT (ch : Nat → T) (s : List UInt8) : T := T.mk 4 0 [] false 6 fun i => if i = 5 then strT s else ch i
/-- Its bytes, as they are built. -/
def bldL (t : T) : List UInt8 := if t.right 8 then t.bytes else []
theorem buildV_bld (t : T) : ∃ E, buildV t = .tuple #[str (bldL t), .int .i64 E] := by
  unfold buildV bldL
  split
  · exact ⟨_, rfl⟩
  · exact ⟨_, rfl⟩
theorem lastK {W W' : World} {g : Nat} {Q : Nat → Prop} {ch : Nat → T} {ac : Nat → Option Addr × Nat} (hm : Mod [g] W W') (hq : ∀ b, Q b → b ≠ g) (h : ∀ i, i < 6 → IsL W Q (ch i) (ac i).1) (s : List UInt8) :
    ∀ i, i < 6 → IsL W' Q ((fun i => if i = 5 then strT s else ch i) i) ((fun i => if i = 5 then ((none : Option Addr), 0) else ac i) i).1 := by
  intro i hi
  by_cases e : i = 5
  · subst e; simp only [if_true]; exact fun h => absurd h (by decide)
  · simp only [if_neg e]
    exact IsL.mod hm (fun k hk _ hm => by rw [List.mem_singleton] at hm; exact hq k hk hm) _ (h i hi)

set_option maxRecDepth 20000 in
set_option maxHeartbeats 1600000 in
theorem summed_any (ch : Nat → T) (kind : Nat) (k1 : Hid (1 ≤ kind)) (k2 : Hid (kind ≤ 2)) (hok : Hid ((lastT ch (List.replicate (2 * kind) 0)).ok ∧ (lastT ch (List.replicate (2 * kind) 0)).size ≤ 100000)) (hbl : Hid ((bldL (lastT ch (List.replicate (2 * kind) 0))).length < 1000000)) (N : Nat) (A : Option Addr) (c : Nat) (w : World) (hN : Hid (N ≤ w.heap.size)) (h : IsL w (fun b => N ≤ b) (T.mk 4 0 [] false 6 ch) A) :
    Calls Try.prog 44 #[.int .i64 (kind : Int), .agg #[.int .i64 4, .int .u64 0, str [], .slice A 6 c, .bool false]] w (fun e w' => ∃ A c, e = .returned (itemV (lastT ch (Crc.sumL kind (bldL (lastT ch (List.replicate (2 * kind) 0))))) A c) ∧ Ext w w' ∧ IsL w' (fun b => N ≤ b) (lastT ch (Crc.sumL kind (bldL (lastT ch (List.replicate (2 * kind) 0))))) A) := by
  have e1 : ((kind : Int) = 0) = False := by have := k1.out; simp; omega
  have e2 : ((kind : Int) == 0) = false := by have := k1.out; simp; omega
  have HI : Hid (IsL w (fun b => N ≤ b ∧ b < w.heap.size) (T.mk 4 0 [] false 6 ch) A) := IsL.weak (fun k hk hq => ⟨hq, hk⟩) _ h
  clear h
  have KR := hid (fun W => Repeat_zero (2 * kind) (by have := k2.out; omega) W)
  have KS := hid (fun W => Sum_any kind k1.out k2.out (bldL (lastT ch (List.replicate (2 * kind) 0))) hbl W)
  obtain ⟨E, hE⟩ := buildV_bld (lastT ch (List.replicate (2 * kind) 0))
  have HV := hid hE; clear hE
  have hTk : (lastT ch (List.replicate (2 * kind) 0)) = T.mk 4 0 [] false 6 (fun i => if i = 5 then strT (List.replicate (2 * kind) 0) else ch i) := rfl
  have HT := hid hTk; clear hTk
  generalize bldL (lastT ch (List.replicate (2 * kind) 0)) = B at *
  have HU : Hid (lastT ch (Crc.sumL kind B) = T.mk 4 0 [] false 6 (fun i => if i = 5 then strT (Crc.sumL kind B) else if i = 5 then strT (List.replicate (2 * kind) 0) else ch i)) := by
    unfold Hid lastT
    congr 1
    funext i
    split <;> rfl
  generalize lastT ch (Crc.sumL kind B) = U at *
  generalize lastT ch (List.replicate (2 * kind) 0) = Y at *
  generalize List.replicate (2 * kind) (0 : UInt8) = Z at *
  generalize Crc.sumL kind B = S at *
  have HE := hid (((Mod.refl [] w).alloc (.cells #[.int .i64 4, .int .u64 0, str [], .slice A 6 c, .bool false] 60)).alloc (.cells #[.int .i64 0, .int .u64 0, .string ⟨#[]⟩, .slice none 0 0, .bool false] 60))
  have HR : Hid (Blk ((w.alloc (.cells #[.int .i64 4, .int .u64 0, str [], .slice A 6 c, .bool false] 60)).alloc (.cells #[.int .i64 0, .int .u64 0, .string ⟨#[]⟩, .slice none 0 0, .bool false] 60)) (w.heap.size + 1) 60 (itemC (numT 0) none 0)) := by
    have := Blk.new (w.alloc (.cells #[.int .i64 4, .int .u64 0, str [], .slice A 6 c, .bool false] 60)) 60 (itemC (numT 0) none 0)
    unfold Hid
    simpa [itemC, numT, T.kind, T.n, T.s, T.k, T.op] using this
  go_enter Try.func44, Try.ntmps44
  go_wp2_with fail
  refine (CloneI_any ch 6 (by unfold Hid; omega) A c _ (HI.out.ext HE.out)).mono ?_
  rintro e w1 ⟨g, c', ac, rfl, hb1, hg1, hlt1, hown1, hk1⟩
  have HE1 := hid (HE.out.trans hb1)
  have HR1 := hid (HR.out.ext hb1)
  have HO1 := hid hown1
  have HK1 := hid hk1
  have HG : Hid (w.heap.size + 2 ≤ g) := by unfold Hid; simpa using hg1
  have HL1 := hid hlt1
  clear hb1 hg1 hlt1 hown1 hk1 HE HR HI
  go_wp2_with fail
  refine (Size_any kind k2.out _).mono ?_
  rintro e w2 ⟨rfl, hb2⟩
  have HE2 := hid (HE1.out.trans hb2)
  have HR2 := hid (HR1.out.ext hb2)
  have HO2 := hid (ownsRow_mod HO1.out hb2 (by simp))
  have HK2 : Hid (∀ i, i < 6 → IsL w2 (fun b => N ≤ b ∧ b < w.heap.size) (ch i) (ac i).1) := fun i hi => (HK1.out i hi).ext hb2
  have HL2 := hid (Nat.lt_of_lt_of_le HL1.out hb2.size)
  clear hb2 HE1 HR1 HO1 HK1 HL1
  go_wp2_with fail
  refine (KR.out _).mono ?_
  rintro e w3 ⟨rfl, hb3⟩
  have HE3 := hid (HE2.out.trans hb3)
  have HR3 := hid (HR2.out.ext hb3)
  have HO3 := hid (ownsRow_mod HO2.out hb3 (by simp))
  have HK3 : Hid (∀ i, i < 6 → IsL w3 (fun b => N ≤ b ∧ b < w.heap.size) (ch i) (ac i).1) := fun i hi => (HK2.out i hi).ext hb3
  have HL3 := hid (Nat.lt_of_lt_of_le HL2.out hb3.size)
  clear hb3 HE2 HR2 HO2 HK2 HL2
  go_wp2_with fail
  refine (StrV_any _ _).mono ?_
  rintro e w4 ⟨rfl, hb4⟩
  have HE4 := hid (HE3.out.trans hb4)
  have HR4 := hid (HR3.out.ext hb4)
  have HO4 := hid (ownsRow_mod HO3.out hb4 (by simp))
  have HK4 : Hid (∀ i, i < 6 → IsL w4 (fun b => N ≤ b ∧ b < w.heap.size) (ch i) (ac i).1) := fun i hi => (HK3.out i hi).ext hb4
  have HL4 := hid (Nat.lt_of_lt_of_le HL3.out hb4.size)
  clear hb4 HE3 HR3 HO3 HK3 HL3
  obtain ⟨x0, x1, x2, x3, x4⟩ := flatC_get ch ac 6 5 (by omega)
  have y0 := own_cells HO4.out x0
  have y1 := own_cells HO4.out x1
  have y2 := own_cells HO4.out x2
  have y3 := own_cells HO4.out x3
  have y4 := own_cells HO4.out x4
  clear x0 x1 x2 x3 x4
  have z0 := HO4.out.frozenAt 25
  have z1 := HO4.out.frozenAt 26
  have z2 := HO4.out.frozenAt 27
  have z3 := HO4.out.frozenAt 28
  have z4 := HO4.out.frozenAt 29
  go_wp2_with fail
  clear y0 y1 y2 y3 y4 z0 z1 z2 z3 z4
  have HO5 := hid (own_last (n := 5) (strT Z) none 0 HO4.out)
  have HM5 := hid (((((((Mod.refl [g] w4).setCell (p := ⟨g, 25, none⟩) (.inl (by simp)) (.int .i64 2)).setCell (p := ⟨g, 26, none⟩) (.inl (by simp)) (.int .u64 0)).setCell (p := ⟨g, 27, none⟩) (.inl (by simp)) (str Z)).setCell (p := ⟨g, 28, none⟩) (.inl (by simp)) (.slice none 0 0)).setCell (p := ⟨g, 29, none⟩) (.inl (by simp)) (.bool false)))
  have HE5 := hid (((((HE4.out.setCell (p := ⟨g, 25, none⟩) (.inr (by have := HG.out; show w.heap.size ≤ g; omega)) (.int .i64 2)).setCell (p := ⟨g, 26, none⟩) (.inr (by have := HG.out; show w.heap.size ≤ g; omega)) (.int .u64 0)).setCell (p := ⟨g, 27, none⟩) (.inr (by have := HG.out; show w.heap.size ≤ g; omega)) (str Z)).setCell (p := ⟨g, 28, none⟩) (.inr (by have := HG.out; show w.heap.size ≤ g; omega)) (.slice none 0 0)).setCell (p := ⟨g, 29, none⟩) (.inr (by have := HG.out; show w.heap.size ≤ g; omega)) (.bool false))
  change Hid (World.ownsRow (((((w4.setCell ⟨g, 25, none⟩ (.int .i64 2)).setCell ⟨g, 26, none⟩ (.int .u64 0)).setCell ⟨g, 27, none⟩ (str Z)).setCell ⟨g, 28, none⟩ (.slice none 0 0)).setCell ⟨g, 29, none⟩ (.bool false)) _ _ _ _ _ _) at HO5
  change Hid (Mod [g] w4 (((((w4.setCell ⟨g, 25, none⟩ (.int .i64 2)).setCell ⟨g, 26, none⟩ (.int .u64 0)).setCell ⟨g, 27, none⟩ (str Z)).setCell ⟨g, 28, none⟩ (.slice none 0 0)).setCell ⟨g, 29, none⟩ (.bool false))) at HM5
  change Hid (Mod [] w (((((w4.setCell ⟨g, 25, none⟩ (.int .i64 2)).setCell ⟨g, 26, none⟩ (.int .u64 0)).setCell ⟨g, 27, none⟩ (str Z)).setCell ⟨g, 28, none⟩ (.slice none 0 0)).setCell ⟨g, 29, none⟩ (.bool false))) at HE5
  generalize (((((w4.setCell ⟨g, 25, none⟩ (.int .i64 2)).setCell ⟨g, 26, none⟩ (.int .u64 0)).setCell ⟨g, 27, none⟩ (str Z)).setCell ⟨g, 28, none⟩ (.slice none 0 0)).setCell ⟨g, 29, none⟩ (.bool false)) = w5 at *
  have HR5 := hid (HR4.out.mod HM5.out (by have := HG.out; simp; omega))
  have HK5 := hid (lastK HM5.out (fun b hb => by have := HG.out; omega) HK4.out Z)
  have HL5 := hid (Nat.lt_of_lt_of_le HL4.out HM5.out.size)
  clear HE4 HR4 HO4 HK4 HL4 HM5
  generalize hch : (fun i => if i = 5 then strT Z else ch i) = ch5 at *
  generalize hac : (fun i => if i = 5 then ((none : Option Addr), 0) else ac i) = ac5 at *
  have Hch5 := hid hch; clear hch; clear hac
  refine (ListV_any 6 _ c' _).mono ?_
  rintro e w6 ⟨rfl, hb6⟩
  have HE6 := hid (HE5.out.trans hb6)
  have HR6 := hid (HR5.out.ext hb6)
  have HO6 := hid (ownsRow_mod HO5.out hb6 (by simp))
  have HK6 : Hid (∀ i, i < 6 → IsL w6 (fun b => N ≤ b ∧ b < w.heap.size) (ch5 i) (ac5 i).1) := fun i hi => (HK5.out i hi).ext hb6
  have HL6 := hid (Nat.lt_of_lt_of_le HL5.out hb6.size)
  clear hb6 HE5 HR5 HO5 HK5 HL5
  have HY : Hid (Y = T.mk 4 0 [] false 6 ch5) := HT.out
  have HIY : Hid (IsL w6 (fun _ => True) Y (some ⟨g, 0, none⟩)) := by
    rw [HY.out]
    exact own_IsL HL6.out trivial HO6.out (fun i hi => IsL.weak (fun _ _ _ => trivial) _ (HK6.out i hi))
  have HBY : Hid (∀ W, IsL W (fun _ => True) Y (some ⟨g, 0, none⟩) → Calls Try.prog 34 #[.agg #[.int .i64 4, .int .u64 0, str [], .slice (some ⟨g, 0, none⟩) 6 c', .bool false]] W (Ret (.tuple #[str B, .int .i64 E]) W)) := fun W hW => by
    have := iBuild_any Y hok.out.1 hok.out.2 (some ⟨g, 0, none⟩) c' W hW
    rw [HV.out, HY.out] at this
    exact this
  go_wp2_with fail
  refine (HBY.out _ HIY.out).mono ?_
  rintro e w7 ⟨rfl, hb7⟩
  have HE7 := hid (HE6.out.trans hb7)
  have HR7 := hid (HR6.out.ext hb7)
  have HO7 := hid (ownsRow_mod HO6.out hb7 (by simp))
  have HK7 : Hid (∀ i, i < 6 → IsL w7 (fun b => N ≤ b ∧ b < w.heap.size) (ch5 i) (ac5 i).1) := fun i hi => (HK6.out i hi).ext hb7
  have HL7 := hid (Nat.lt_of_lt_of_le HL6.out hb7.size)
  clear hb7 HE6 HR6 HO6 HK6 HL6
  clear HIY HBY HV
  go_wp2_with fail
  refine (KS.out _).mono ?_
  rintro e w8 ⟨rfl, hb8⟩
  have HE8 := hid (HE7.out.trans hb8)
  have HR8 := hid (HR7.out.ext hb8)
  have HO8 := hid (ownsRow_mod HO7.out hb8 (by simp))
  have HK8 : Hid (∀ i, i < 6 → IsL w8 (fun b => N ≤ b ∧ b < w.heap.size) (ch5 i) (ac5 i).1) := fun i hi => (HK7.out i hi).ext hb8
  have HL8 := hid (Nat.lt_of_lt_of_le HL7.out hb8.size)
  clear hb8 HE7 HR7 HO7 HK7 HL7
  go_wp2_with fail
  refine (StrV_any _ _).mono ?_
  rintro e w9 ⟨rfl, hb9⟩
  have HE9 := hid (HE8.out.trans hb9)
  have HR9 := hid (HR8.out.ext hb9)
  have HO9 := hid (ownsRow_mod HO8.out hb9 (by simp))
  have HK9 : Hid (∀ i, i < 6 → IsL w9 (fun b => N ≤ b ∧ b < w.heap.size) (ch5 i) (ac5 i).1) := fun i hi => (HK8.out i hi).ext hb9
  have HL9 := hid (Nat.lt_of_lt_of_le HL8.out hb9.size)
  clear hb9 HE8 HR8 HO8 HK8 HL8
  obtain ⟨x0, x1, x2, x3, x4⟩ := flatC_get ch5 ac5 6 5 (by omega)
  have y0 := own_cells HO9.out x0
  have y1 := own_cells HO9.out x1
  have y2 := own_cells HO9.out x2
  have y3 := own_cells HO9.out x3
  have y4 := own_cells HO9.out x4
  clear x0 x1 x2 x3 x4
  have z0 := HO9.out.frozenAt 25
  have z1 := HO9.out.frozenAt 26
  have z2 := HO9.out.frozenAt 27
  have z3 := HO9.out.frozenAt 28
  have z4 := HO9.out.frozenAt 29
  go_wp2_with fail
  clear y0 y1 y2 y3 y4 z0 z1 z2 z3 z4
  have HO10 := hid (own_last (n := 5) (strT S) none 0 HO9.out)
  have HM10 := hid (((((((Mod.refl [g] w9).setCell (p := ⟨g, 25, none⟩) (.inl (by simp)) (.int .i64 2)).setCell (p := ⟨g, 26, none⟩) (.inl (by simp)) (.int .u64 0)).setCell (p := ⟨g, 27, none⟩) (.inl (by simp)) (str S)).setCell (p := ⟨g, 28, none⟩) (.inl (by simp)) (.slice none 0 0)).setCell (p := ⟨g, 29, none⟩) (.inl (by simp)) (.bool false)))
  have HE10 := hid (((((HE9.out.setCell (p := ⟨g, 25, none⟩) (.inr (by have := HG.out; show w.heap.size ≤ g; omega)) (.int .i64 2)).setCell (p := ⟨g, 26, none⟩) (.inr (by have := HG.out; show w.heap.size ≤ g; omega)) (.int .u64 0)).setCell (p := ⟨g, 27, none⟩) (.inr (by have := HG.out; show w.heap.size ≤ g; omega)) (str S)).setCell (p := ⟨g, 28, none⟩) (.inr (by have := HG.out; show w.heap.size ≤ g; omega)) (.slice none 0 0)).setCell (p := ⟨g, 29, none⟩) (.inr (by have := HG.out; show w.heap.size ≤ g; omega)) (.bool false))
  change Hid (World.ownsRow (((((w9.setCell ⟨g, 25, none⟩ (.int .i64 2)).setCell ⟨g, 26, none⟩ (.int .u64 0)).setCell ⟨g, 27, none⟩ (str S)).setCell ⟨g, 28, none⟩ (.slice none 0 0)).setCell ⟨g, 29, none⟩ (.bool false)) _ _ _ _ _ _) at HO10
  change Hid (Mod [g] w9 (((((w9.setCell ⟨g, 25, none⟩ (.int .i64 2)).setCell ⟨g, 26, none⟩ (.int .u64 0)).setCell ⟨g, 27, none⟩ (str S)).setCell ⟨g, 28, none⟩ (.slice none 0 0)).setCell ⟨g, 29, none⟩ (.bool false))) at HM10
  change Hid (Mod [] w (((((w9.setCell ⟨g, 25, none⟩ (.int .i64 2)).setCell ⟨g, 26, none⟩ (.int .u64 0)).setCell ⟨g, 27, none⟩ (str S)).setCell ⟨g, 28, none⟩ (.slice none 0 0)).setCell ⟨g, 29, none⟩ (.bool false))) at HE10
  generalize (((((w9.setCell ⟨g, 25, none⟩ (.int .i64 2)).setCell ⟨g, 26, none⟩ (.int .u64 0)).setCell ⟨g, 27, none⟩ (str S)).setCell ⟨g, 28, none⟩ (.slice none 0 0)).setCell ⟨g, 29, none⟩ (.bool false)) = w10 at *
  have HR10 := hid (HR9.out.mod HM10.out (by have := HG.out; simp; omega))
  have HK10 := hid (lastK HM10.out (fun b hb => by have := HG.out; omega) HK9.out S)
  have HL10 := hid (Nat.lt_of_lt_of_le HL9.out HM10.out.size)
  clear HE9 HR9 HO9 HK9 HL9 HM10
  generalize hch : (fun i => if i = 5 then strT S else ch5 i) = ch10 at *
  generalize hac : (fun i => if i = 5 then ((none : Option Addr), 0) else ac5 i) = ac10 at *
  have Hch10 := hid hch; clear hch; clear hac
  refine (ListV_any 6 _ c' _).mono ?_
  rintro e w11 ⟨rfl, hb11⟩
  have HE11 := hid (HE10.out.trans hb11)
  have HR11 := hid (HR10.out.ext hb11)
  have HO11 := hid (ownsRow_mod HO10.out hb11 (by simp))
  have HK11 : Hid (∀ i, i < 6 → IsL w11 (fun b => N ≤ b ∧ b < w.heap.size) (ch10 i) (ac10 i).1) := fun i hi => (HK10.out i hi).ext hb11
  have HL11 := hid (Nat.lt_of_lt_of_le HL10.out hb11.size)
  clear hb11 HE10 HR10 HO10 HK10 HL10
  have HU2 : U = T.mk 4 0 [] false 6 ch10 := by rw [HU.out, ← Hch10.out, ← Hch5.out]
  have HIU : Hid (IsL w11 (fun b => b ≠ w.heap.size + 1 ∧ N ≤ b) U (some ⟨g, 0, none⟩)) := by
    rw [HU2]
    exact own_IsL HL11.out (by have := HG.out; have := hN.out; omega) HO11.out (fun i hi => IsL.weak (fun k _ hq => ⟨by omega, hq.1⟩) _ (HK11.out i hi))
  obtain ⟨c0, c1, c2, c3, c4⟩ := cells5 HR11.out
  have f0 := Blk.frozen HR11.out 0
  have f1 := Blk.frozen HR11.out 1
  have f2 := Blk.frozen HR11.out 2
  have f3 := Blk.frozen HR11.out 3
  have f4 := Blk.frozen HR11.out 4
  go_wp2_with fail
  obtain ⟨d0, d1, d2, d3, d4⟩ := cells5 (set5_blk (t := T.mk 4 0 [] false 6 ch10) (A := some ⟨g, 0, none⟩) (c := c') HR11.out)
  clear c0 c1 c2 c3 c4 f0 f1 f2 f3 f4
  show bodyPost _ _ _ _ _ (set5 w11 (w.heap.size + 1) (T.mk 4 0 [] false 6 ch10) (some ⟨g, 0, none⟩) c')
  refine bodyPost_ret (v := itemV (T.mk 4 0 [] false 6 ch10) (some ⟨g, 0, none⟩) c') (by simp [results, Try.results44, go_sem, d0, d1, d2, d3, d4]) rfl ?_
  refine ⟨some ⟨g, 0, none⟩, c', by rw [HU2], set5_mod HE11.out (by omega), ?_⟩
  refine IsL.weak (fun _ _ h => h.2) _ (IsL.mod (Q := fun b => b ≠ w.heap.size + 1 ∧ N ≤ b) set5_modb (fun k hq hk hm => by rw [List.mem_singleton] at hm; exact hq.1 hm) _ HIU.out)
end Go.Proofs.Ytcajjhmldghakaa


namespace Go.Proofs.Ytcajjhmldghakaa
open Go.RowKit
set_option linter.unusedVariables false
set_option linter.unusedSimpArgs false

theorem blkT_last {ty num fl crc : Nat} {data s t : List UInt8} (hc : ¬ crc = 0) (ch : Nat → T) (hch : blkT ty num fl crc data s = T.mk 4 0 [] false 6 ch) : lastT ch t = blkT ty num fl crc data t := by
  unfold blkT at hch ⊢
  rw [if_neg hc] at hch ⊢
  have h := (T.mk.inj hch).2.2.2.2.2
  subst h
  unfold lastT
  congr 1
  funext i
  by_cases e : i = 5
  · subst e; simp
  · simp [e]
theorem blkT_right {ty num fl crc : Nat} {data s : List UInt8} (d : Nat) (hd : 2 ≤ d) : (blkT ty num fl crc data s).right d = true := by
  unfold blkT T.right
  rw [if_neg (by omega)]
  simp only [Bool.and_eq_true]
  constructor
  · split <;> rfl
  · rw [T.all_iff]
    intro i hi
    have hi6 : i < 6 := by split at hi <;> omega
    have hd1 : ¬ d - 1 < 1 := by omega
    have h6 : i = 0 ∨ i = 1 ∨ i = 2 ∨ i = 3 ∨ i = 4 ∨ i = 5 := by omega
    rcases h6 with rfl | rfl | rfl | rfl | rfl | rfl <;> simp [numT, strT, T.right, hd1, T.node, T.all]
theorem blkT_plain {ty num fl crc : Nat} {data s : List UInt8} : (blkT ty num fl crc data s).plain = true := by
  unfold blkT T.plain
  simp only [Bool.and_eq_true]
  constructor
  · split <;> rfl
  · rw [T.all_iff]
    intro i hi
    have hi6 : i < 6 := by split at hi <;> omega
    have h6 : i = 0 ∨ i = 1 ∨ i = 2 ∨ i = 3 ∨ i = 4 ∨ i = 5 := by omega
    rcases h6 with rfl | rfl | rfl | rfl | rfl | rfl <;> simp [numT, strT, T.plain, T.node, T.all]
theorem sum_le {f : Nat → Nat} {B : Nat} (h : ∀ i, f i ≤ B) : ∀ k, T.sum f k ≤ k * B
  | 0 => by simp [T.sum]
  | k + 1 => by have := sum_le h k; have := h k; rw [T.sum, Nat.succ_mul]; omega
theorem blkT_size {ty num fl crc : Nat} {data s : List UInt8} (h5 : data.length ≤ 4000) (h6 : s.length ≤ 4000) : (blkT ty num fl crc data s).size ≤ 100000 := by
  have hs : ∀ k, k ≤ 6 → ∀ f : Nat → Nat, (∀ i, f i ≤ 4001) → 1 + ([] : List UInt8).length + T.sum f k ≤ 100000 := fun k hk f hf => by
    have := sum_le hf k
    have : k * 4001 ≤ 6 * 4001 := Nat.mul_le_mul_right _ hk
    simp
    omega
  unfold blkT T.size
  refine hs _ (by split <;> omega) _ (fun i => ?_)
  dsimp only
  split
  · simp [numT, T.size, T.sum]
  · split
    · simp [numT, T.size, T.sum]
    · split
      · simp [numT, T.size, T.sum]
      · split
        · simp [numT, T.size, T.sum]
        · split
          · simp [strT, T.size, T.sum]; omega
          · split
            · simp [strT, T.size, T.sum]; omega
            · simp [T.size]

/-- A block's item's bytes. -/
def blkB (ty num fl crc : Nat) (data sum : List UInt8) : List UInt8 :=
  headL 4 (if crc = 0 then 5 else 6) ++ headL 0 ty ++ headL 0 num ++ headL 0 fl ++ headL 0 crc ++ (headL 2 data.length ++ data) ++ (if crc = 0 then [] else headL 2 sum.length ++ sum)
theorem blkT_bytes (ty num fl crc : Nat) (data sum : List UInt8) : (blkT ty num fl crc data sum).bytes = blkB ty num fl crc data sum := by
  unfold blkT blkB
  by_cases hc : crc = 0
  · subst hc
    simp [T.bytes, T.cat, numT, strT]
  · simp [hc, T.bytes, T.cat, numT, strT]
theorem blkB_length {ty num fl crc : Nat} {data sum : List UInt8} (h5 : data.length ≤ 4000) (h6 : sum.length ≤ 4000) : (blkB ty num fl crc data sum).length < 1000000 := by
  have a1 := headL_le 4 5
  have a0 := headL_le 4 6
  have a2 := headL_le 0 ty
  have a3 := headL_le 0 num
  have a4 := headL_le 0 fl
  have a5 := headL_le 0 crc
  have a6 := headL_le 2 data.length
  have a7 := headL_le 2 sum.length
  unfold blkB
  simp only [List.length_append]
  split <;> simp <;> omega
/-- The right sum of a block. -/
def sumB (ty num fl crc : Nat) (data : List UInt8) : List UInt8 := if crc = 0 then [] else Crc.sumL crc (blkB ty num fl crc data (List.replicate (2 * crc) 0))
def finT (ty num fl crc : Nat) (data : List UInt8) : T := blkT ty num fl crc data (sumB ty num fl crc data)
theorem sumB_length {ty num fl crc : Nat} {data : List UInt8} (hc : crc ≤ 2) : (sumB ty num fl crc data).length = 2 * crc := by
  unfold sumB
  split
  · subst crc; rfl
  · exact Crc.sumL_length (by omega) hc _
theorem sumOf {ty num fl crc : Nat} {data : List UInt8} (h1 : ty ≤ 65535) (h2 : num ≤ 65535) (h3 : fl ≤ 255) (h4 : crc ≤ 2) (h5 : data.length ≤ 4000) :
    Hid (∀ N A c W, N ≤ W.heap.size → IsL W (fun b => N ≤ b) (blkT ty num fl crc data []) A → Calls Try.prog 44 #[.int .i64 (crc : Int), itemV (blkT ty num fl crc data []) A c] W (fun e w' => ∃ A c, e = .returned (itemV (finT ty num fl crc data) A c) ∧ Ext W w' ∧ IsL w' (fun b => N ≤ b) (finT ty num fl crc data) A)) := by
  intro N A c W hN hI
  by_cases hc : crc = 0
  · subst hc
    exact (summed_0 _ A c W).mono fun e w' ⟨he, hb⟩ => ⟨A, c, he, hb, hI.ext hb⟩
  · obtain ⟨ch, hch⟩ : ∃ ch, blkT ty num fl crc data [] = T.mk 4 0 [] false 6 ch := ⟨_, by unfold blkT; rw [if_neg hc]⟩
    have hl : ∀ t, lastT ch t = blkT ty num fl crc data t := fun t => blkT_last hc ch hch
    have hZ : (List.replicate (2 * crc) (0 : UInt8)).length ≤ 4000 := by simp; omega
    have hB : bldL (lastT ch (List.replicate (2 * crc) 0)) = blkB ty num fl crc data (List.replicate (2 * crc) 0) := by
      rw [hl, bldL, blkT_right 8 (by omega), if_pos rfl, blkT_bytes]
    have h := summed_any ch crc (by unfold Hid; omega) h4 (by rw [hl]; exact ⟨blkT_ok h1 h2 h3 h4 h5 hZ, blkT_size h5 hZ⟩) (by rw [hB]; exact blkB_length h5 hZ) N A c W hN (by rw [hch] at hI; exact hI)
    rw [hB, hl] at h
    have he : finT ty num fl crc data = blkT ty num fl crc data (Crc.sumL crc (blkB ty num fl crc data (List.replicate (2 * crc) 0))) := by unfold finT sumB; rw [if_neg hc]
    rw [← he] at h
    rw [hch]
    exact h
theorem finV {ty num fl crc : Nat} {data : List UInt8} : buildV (finT ty num fl crc data) = .tuple #[str (blkB ty num fl crc data (sumB ty num fl crc data)), .int .i64 0] := by
  unfold buildV finT
  rw [blkT_right 8 (by omega), if_pos rfl, blkT_bytes]
theorem Build_any (ty num fl crc : Nat) (data : List UInt8) (hb : BV.right ⟨ty, num, fl, crc, data⟩ = 0) (w : World) : Calls Try.prog 29 #[BV.v ⟨ty, num, fl, crc, data⟩] w (Ret (.tuple #[str (blkB ty num fl crc data (sumB ty num fl crc data)), .int .i64 0]) w) := by
  have h := BV.right_zero hb
  simp only [] at h
  have hs := sumB_length (ty := ty) (num := num) (fl := fl) (data := data) (show crc ≤ 2 by omega)
  rw [← finV]
  exact Build_ok ty num fl crc data hb (finT ty num fl crc data) (blkT_ok (by omega) (by omega) (by omega) (by omega) (by omega) (by omega)) (blkT_size (by omega) (by omega)) (sumOf (by omega) (by omega) (by omega) (by omega) (by omega)) w
theorem Item_any (ty num fl crc : Nat) (data : List UInt8) (hb : BV.right ⟨ty, num, fl, crc, data⟩ = 0) (w : World) : Calls Try.prog 36 #[BV.v ⟨ty, num, fl, crc, data⟩] w (fun e w' => ∃ A c, e = .returned (.tuple #[itemV (finT ty num fl crc data) A c, .int .i64 0]) ∧ Ext w w' ∧ IsL w' (fun b => w.heap.size ≤ b) (finT ty num fl crc data) A) := by
  have h := BV.right_zero hb
  simp only [] at h
  exact Item_ok ty num fl crc data hb _ (sumOf (by omega) (by omega) (by omega) (by omega) (by omega)) w
end Go.Proofs.Ytcajjhmldghakaa


namespace Go.Proofs.Ytcajjhmldghakaa
open Go.RowKit
set_option linter.unusedVariables false
set_option linter.unusedSimpArgs false

def tyB (bs : Nat → BV) (typ : Int) (i : Nat) : Bool := decide ((bs i).ty = typ)
theorem tyB_no {bs : Nat → BV} {typ : Int} {i : Nat} (h : (bs i).ty ≠ typ) : tyB bs typ i = false := by unfold tyB; simp [h]
theorem tyB_yes {bs : Nat → BV} {typ : Int} {i : Nat} (h : (bs i).ty = typ) : tyB bs typ i = true := by unfold tyB; simp [h]
/-- A block's five cells, stored anew. -/
def setB (W : World) (g : Nat) (b : BV) : World := ((((W.setCell ⟨g, 0, none⟩ (.int .i64 b.ty)).setCell ⟨g, 1, none⟩ (.int .i64 b.num)).setCell ⟨g, 2, none⟩ (.int .u64 (b.fl : Int))).setCell ⟨g, 3, none⟩ (.int .i64 b.crc)).setCell ⟨g, 4, none⟩ (str b.data)
section
variable {W : World} {g : Nat} {b0 b : BV}
theorem setB_blk (h : Blk W g 33 b0.c) : Blk (setB W g b) g 33 b.c := by
  have := ((((h.set_ 0 (.int .i64 b.ty)).set_ 1 (.int .i64 b.num)).set_ 2 (.int .u64 (b.fl : Int))).set_ 3 (.int .i64 b.crc)).set_ 4 (str b.data)
  unfold setB
  simpa using this
theorem setB_mod {w : World} {S : List Nat} (h : Mod S w W) (hb : w.heap.size ≤ g) : Mod S w (setB W g b) :=
  ((((h.setCell (.inr hb) _).setCell (.inr hb) _).setCell (.inr hb) _).setCell (.inr hb) _).setCell (.inr hb) _
theorem cellsB (h : Blk W g 33 b.c) : W.cell? ⟨g, 0, none⟩ = some (.int .i64 b.ty) ∧ W.cell? ⟨g, 1, none⟩ = some (.int .i64 b.num) ∧ W.cell? ⟨g, 2, none⟩ = some (.int .u64 (b.fl : Int)) ∧
    W.cell? ⟨g, 3, none⟩ = some (.int .i64 b.crc) ∧ W.cell? ⟨g, 4, none⟩ = some (str b.data) := ⟨h.cell 0, h.cell 1, h.cell 2, h.cell 3, h.cell 4⟩
end
/-- What Find hands back. -/
def findV (bs : Nat → BV) (typ : Int) (k : Nat) : Value := match firstOf (tyB bs typ) k with | some i => .tuple #[(bs i).v, .bool true] | none => .tuple #[zeroB.v, .bool false]
set_option maxRecDepth 20000 in
set_option maxHeartbeats 800000 in
theorem Find_any (p : PV) (bs : Nat → BV) (k c : Nat) (A : Option Addr) (typ : Int) (hk : k < 4611686018427387904) (w : World) (h : BsL w A k bs) : Calls Try.prog 8 #[bunV p A k c, .int .i64 typ] w (Ret (findV bs typ k) w) := by
  have HE := hid (((Mod.refl [] w).alloc (.cells (bunC p A k c) 29)).alloc (.cells #[.int .i64 0, .int .i64 0, .int .u64 0, .int .i64 0, .string ⟨#[]⟩] 33))
  have HB := hid ((Blk.new w 29 (bunC p A k c)).alloc (.cells #[.int .i64 0, .int .i64 0, .int .u64 0, .int .i64 0, .string ⟨#[]⟩] 33))
  have HR : Hid (Blk ((w.alloc (.cells (bunC p A k c) 29)).alloc (.cells #[.int .i64 0, .int .i64 0, .int .u64 0, .int .i64 0, .string ⟨#[]⟩] 33)) (w.heap.size + 1) 33 zeroB.c) := Blk.newL _ _ _ (by simp)
  have HL := hid (BsL.ext h HE.out)
  have k1 : (k : Int) < 4611686018427387904 := by omega
  have HK := hid hk
  clear h hk
  go_enter Try.func8, Try.ntmps8
  go_upto_region 1 with fail
  generalize (w.alloc (.cells (bunC p A k c) 29)).alloc (.cells #[.int .i64 0, .int .i64 0, .int .u64 0, .int .i64 0, .string ⟨#[]⟩] 33) = V at *
  have b19 : ∀ e : Later V, e.x.cell? ⟨w.heap.size, 19, none⟩ = some (.slice A k c) := HB.out.cellL 19 rfl
  have b19v : V.cell? ⟨w.heap.size, 19, none⟩ = some (.slice A k c) := HB.out.cell 19
  go_wp2_with fail
  clear b19v
  obtain ⟨e0, he0⟩ := Later.self V
  go_loopw [11] (fun s11 wr => ∃ i : Nat, s11 = .int .i64 (i : Int) ∧ Hid (i ≤ k ∧ ∀ j, j < i → tyB bs typ j = false) ∧ ∃ e : Later V, wr = e.x) (fun s11 _ => k - (intOf s11).toNat)
  case atStart => exact ⟨0, rfl, (show Hid _ from ⟨by omega, fun j hj => by omega⟩), e0, he0⟩
  case round =>
    clear he0 e0
    obtain ⟨i, rfl, hi, e, rfl⟩ := hrel
    have i0 : (0 : Int) ≤ (i : Int) := by omega
    by_cases hlt : i < k
    · obtain ⟨b, o, rfl, hb, q0, q1, q2, q3, q4⟩ := HL.out.cells hlt
      have tc : decide (i < k) = true := by simp [hlt]
      have i1 : (i : Int) < (k : Int) := by omega
      have HLT := hid hlt
      have HRA := hid ((HR.out.later e).alloc (.cells (BV.c (bs i)) 33))
      have HEA := hid (HE.out.trans ((Later.h e).alloc (.cells (BV.c (bs i)) 33)))
      clear hlt
      by_cases ht : (bs i).ty = typ
      · have HF : Hid (findV bs typ k = .tuple #[(bs i).v, .bool true]) := by unfold Hid findV; rw [firstOf_some HLT.out (tyB_yes ht) hi.out.2]
        have t1 : ((bs i).ty == typ) = true := by simpa using ht
        have t2 : ((bs i).ty = typ) = True := by simpa using ht
        clear ht
        obtain ⟨c0, c1, c2, c3, c4⟩ := cellsB (b := zeroB) HRA.out
        have f0 := HRA.out.frozen 0
        have f1 := HRA.out.frozen 1
        have f2 := HRA.out.frozen 2
        have f3 := HRA.out.frozen 3
        have f4 := HRA.out.frozen 4
        go_wp2_with fail
        obtain ⟨d0, d1, d2, d3, d4⟩ := cellsB (setB_blk (b := bs i) HRA.out)
        clear c0 c1 c2 c3 c4 f0 f1 f2 f3 f4
        show bodyPost _ _ _ _ _ (setB (e.x.alloc (.cells (BV.c (bs i)) 33)) (w.heap.size + 1) (bs i))
        refine bodyPost_ret (v := .tuple #[(bs i).v, .bool true]) (by simp [results, Try.results8, go_sem, d0, d1, d2, d3, d4]) rfl (Ret.mk HF.out.symm (setB_mod HEA.out (by omega)))
      · have HN := hid (tyB_no ht)
        have t1 : ((bs i).ty == typ) = false := by simpa using ht
        have t2 : ((bs i).ty = typ) = False := by simpa using ht
        clear ht
        go_wp2_with fail
        go_roundw
        case rel => exact ⟨i + 1, by go_num, (show Hid _ from ⟨HLT.out, fun j hj => by
          by_cases hji : j = i
          · subst hji; exact HN.out
          · exact hi.out.2 j (by omega)⟩), Later.go e ((Mod.refl [] _).alloc _)⟩
        case measure => have := HLT.out; simp [intOf]; omega
    · obtain rfl : i = k := by have := hi.out.1; omega
      have tc : decide (i < i) = false := by simp
      have HF : Hid (findV bs typ i = .tuple #[zeroB.v, .bool false]) := by unfold Hid findV; rw [firstOf_none hi.out.2]
      have HRA := hid (HR.out.later e)
      obtain ⟨c0, c1, c2, c3, c4⟩ := cellsB (b := zeroB) HRA.out
      have f0 := HRA.out.frozen 0
      have f1 := HRA.out.frozen 1
      have f2 := HRA.out.frozen 2
      have f3 := HRA.out.frozen 3
      have f4 := HRA.out.frozen 4
      go_wp2_with fail
      obtain ⟨d0, d1, d2, d3, d4⟩ := cellsB (setB_blk (b := zeroB) HRA.out)
      clear c0 c1 c2 c3 c4 f0 f1 f2 f3 f4
      show bodyPost _ _ _ _ _ (setB e.x (w.heap.size + 1) zeroB)
      refine bodyPost_ret (v := .tuple #[zeroB.v, .bool false]) (by simp [results, Try.results8, go_sem, d0, d1, d2, d3, d4]) rfl (Ret.mk HF.out.symm (setB_mod (HE.out.trans e.h) (by omega)))
end Go.Proofs.Ytcajjhmldghakaa


namespace Go.Proofs.Ytcajjhmldghakaa
open Go.ChangeShapes Go.WideShapes Go.ChangeAt Go.RowKit Go.Deep
set_option linter.unusedVariables false
set_option linter.unusedSimpArgs false

def EV.wf (e : EV) : Prop := (-9223372036854775808 ≤ e.sch ∧ e.sch ≤ 9223372036854775807) ∧ e.node < 18446744073709551616 ∧ e.svc < 18446744073709551616
def PV.wf (p : PV) : Prop := p.fl < 18446744073709551616 ∧ (-9223372036854775808 ≤ p.crc ∧ p.crc ≤ 9223372036854775807) ∧ p.d.wf ∧ p.s.wf ∧ p.r.wf ∧ p.t < 18446744073709551616 ∧ p.q < 18446744073709551616 ∧ p.l < 18446744073709551616 ∧ p.o < 18446744073709551616 ∧ p.n < 18446744073709551616
def BV.wf (b : BV) : Prop := (-9223372036854775808 ≤ b.ty ∧ b.ty ≤ 9223372036854775807) ∧ (-9223372036854775808 ≤ b.num ∧ b.num ≤ 9223372036854775807) ∧ b.fl < 18446744073709551616 ∧ (-9223372036854775808 ≤ b.crc ∧ b.crc ≤ 9223372036854775807)
section
variable {H : Type} {enc : TypeId × Value → H} {w : World} {base b0 : Nat} {spare : Nat → Bool} {held : Bool} {r : Reach}
theorem fldB {P : Program} {n k : Nat} {ty : TypeId} {l : List Value} {off : Nat} {y : Option (DataW H × List MemPlace)} (hk : P.cellsOf ty = k) (h : DataW.trod enc P w base spare held n ty ((l.drop off).take (P.cellsOf ty)) = y) : DataW.trod enc P w base spare held n ty ((l.drop off).take k) = y := by rw [hk] at h; exact h
set_option maxRecDepth 100000 in
theorem trod_blkC {fuel : Nat} {L : List Value} {x : DataW H × List MemPlace} (h : DataW.trod enc Try.prog w base spare held fuel 33 L = some x) : ∃ b : BV, L = [.int .i64 b.ty, .int .i64 b.num, .int .u64 (b.fl : Int), .int .i64 b.crc, str b.data] ∧ b.wf := by
  obtain ⟨ys, n', hn', hy, hlen, hyl, hfl⟩ := DataW.trod_struct Try.underlying33 h
  clear h
  match L, hlen with
  | [c0, c1, c2, c3, c4], _ =>
    have h0 := field_at (by kernel_rfl) hfl (i := 0) rfl rfl
    have h1 := field_at (by kernel_rfl) hfl (i := 1) rfl rfl
    have h2 := field_at (by kernel_rfl) hfl (i := 2) rfl rfl
    have h3 := field_at (by kernel_rfl) hfl (i := 3) rfl rfl
    have h4 := field_at (by kernel_rfl) hfl (i := 4) rfl rfl
    clear hfl
    match ys, hyl with
    | [y0, y1, y2, y3, y4], _ =>
      obtain ⟨ty, e0, _, w0⟩ := DataW.trod_int (k := .i64) (by kernel_rfl) h0
      obtain ⟨num, e1, _, w1⟩ := DataW.trod_int (k := .i64) (by kernel_rfl) h1
      obtain ⟨fl, e2, _, w2⟩ := DataW.trod_int (k := .u64) (by kernel_rfl) h2
      obtain ⟨crc, e3, _, w3⟩ := DataW.trod_int (k := .i64) (by kernel_rfl) h3
      obtain ⟨s, e4, _, _⟩ := DataW.trod_string (by kernel_rfl) h4
      have q0 : c0 = .int .i64 ty := by have : [c0] = [Value.int .i64 ty] := e0; simpa using this
      have q1 : c1 = .int .i64 num := by have : [c1] = [Value.int .i64 num] := e1; simpa using this
      have q2 : c2 = .int .u64 fl := by have : [c2] = [Value.int .u64 fl] := e2; simpa using this
      have q3 : c3 = .int .i64 crc := by have : [c3] = [Value.int .i64 crc] := e3; simpa using this
      have q4 : c4 = .string s := by have : [c4] = [Value.string s] := e4; simpa using this
      subst q0 q1 q2 q3 q4
      have b0 : -9223372036854775808 ≤ ty ∧ ty ≤ 9223372036854775807 := by simpa [Lit.wf, IntKind.min, IntKind.max, IntKind.signed, IntKind.bits] using w0
      have b1 : -9223372036854775808 ≤ num ∧ num ≤ 9223372036854775807 := by simpa [Lit.wf, IntKind.min, IntKind.max, IntKind.signed, IntKind.bits] using w1
      have b2 : 0 ≤ fl ∧ fl ≤ 18446744073709551615 := by simpa [Lit.wf, IntKind.min, IntKind.max, IntKind.signed, IntKind.bits] using w2
      have b3 : -9223372036854775808 ≤ crc ∧ crc ≤ 9223372036854775807 := by simpa [Lit.wf, IntKind.min, IntKind.max, IntKind.signed, IntKind.bits] using w3
      obtain ⟨fl, rfl⟩ := Int.eq_ofNat_of_zero_le b2.1
      exact ⟨⟨ty, num, fl, crc, s.data.toList⟩, rfl, b0, b1, by show fl < _; omega, b3⟩
set_option maxRecDepth 100000 in
theorem trod_priC {fuel : Nat} {L : List Value} {x : DataW H × List MemPlace} (h : DataW.trod enc Try.prog w base spare held fuel 26 L = some x) : ∃ p : PV, L = p.c.toList ∧ p.wf := by
  obtain ⟨ys, n', hn', hy, hlen, hyl, hfl⟩ := DataW.trod_struct Try.underlying26 h
  clear h
  have k1 : Try.prog.cellsOf 22 = 1 := by kernel_rfl
  have k2 : Try.prog.cellsOf 3 = 1 := by kernel_rfl
  have k3 : Try.prog.cellsOf 24 = 4 := by kernel_rfl
  match L, hlen with
  | [c0, c1, c2, c3, c4, c5, c6, c7, c8, c9, c10, c11, c12, c13, c14, c15, c16, c17, c18], _ =>
    match ys, hyl with
    | [y0, y1, y2, y3, y4, y5, y6, y7, y8, y9], _ =>
      have h0 : DataW.trod enc Try.prog w base spare held n' 22 [c0] = some y0 := fldB k1 (hfl 0 _ rfl)
      have h1 : DataW.trod enc Try.prog w base spare held n' 3 [c1] = some y1 := fldB k2 (hfl 1 _ rfl)
      have h2 : DataW.trod enc Try.prog w base spare held n' 24 [c2, c3, c4, c5] = some y2 := fldB k3 (hfl 2 _ rfl)
      have h3 : DataW.trod enc Try.prog w base spare held n' 24 [c6, c7, c8, c9] = some y3 := fldB k3 (hfl 3 _ rfl)
      have h4 : DataW.trod enc Try.prog w base spare held n' 24 [c10, c11, c12, c13] = some y4 := fldB k3 (hfl 4 _ rfl)
      have h5 : DataW.trod enc Try.prog w base spare held n' 22 [c14] = some y5 := fldB k1 (hfl 5 _ rfl)
      have h6 : DataW.trod enc Try.prog w base spare held n' 22 [c15] = some y6 := fldB k1 (hfl 6 _ rfl)
      have h7 : DataW.trod enc Try.prog w base spare held n' 22 [c16] = some y7 := fldB k1 (hfl 7 _ rfl)
      have h8 : DataW.trod enc Try.prog w base spare held n' 22 [c17] = some y8 := fldB k1 (hfl 8 _ rfl)
      have h9 : DataW.trod enc Try.prog w base spare held n' 22 [c18] = some y9 := fldB k1 (hfl 9 _ rfl)
      clear hfl
      obtain ⟨z1, e1, _, w1⟩ := DataW.trod_int (k := .i64) (by kernel_rfl) h1
      have b1 : -9223372036854775808 ≤ z1 ∧ z1 ≤ 9223372036854775807 := by simpa [Lit.wf, IntKind.min, IntKind.max, IntKind.signed, IntKind.bits] using w1
      obtain ⟨E2, e2, n2, s2, x2⟩ := trod_eid h2
      obtain ⟨E3, e3, n3, s3, x3⟩ := trod_eid h3
      obtain ⟨E4, e4, n4, s4, x4⟩ := trod_eid h4
      obtain ⟨z0, e0, _, w0⟩ := DataW.trod_int (k := .u64) (by kernel_rfl) h0
      have b0 : 0 ≤ z0 ∧ z0 ≤ 18446744073709551615 := by simpa [Lit.wf, IntKind.min, IntKind.max, IntKind.signed, IntKind.bits] using w0
      obtain ⟨z0, rfl⟩ := Int.eq_ofNat_of_zero_le b0.1
      obtain ⟨z5, e5, _, w5⟩ := DataW.trod_int (k := .u64) (by kernel_rfl) h5
      have b5 : 0 ≤ z5 ∧ z5 ≤ 18446744073709551615 := by simpa [Lit.wf, IntKind.min, IntKind.max, IntKind.signed, IntKind.bits] using w5
      obtain ⟨z5, rfl⟩ := Int.eq_ofNat_of_zero_le b5.1
      obtain ⟨z6, e6, _, w6⟩ := DataW.trod_int (k := .u64) (by kernel_rfl) h6
      have b6 : 0 ≤ z6 ∧ z6 ≤ 18446744073709551615 := by simpa [Lit.wf, IntKind.min, IntKind.max, IntKind.signed, IntKind.bits] using w6
      obtain ⟨z6, rfl⟩ := Int.eq_ofNat_of_zero_le b6.1
      obtain ⟨z7, e7, _, w7⟩ := DataW.trod_int (k := .u64) (by kernel_rfl) h7
      have b7 : 0 ≤ z7 ∧ z7 ≤ 18446744073709551615 := by simpa [Lit.wf, IntKind.min, IntKind.max, IntKind.signed, IntKind.bits] using w7
      obtain ⟨z7, rfl⟩ := Int.eq_ofNat_of_zero_le b7.1
      obtain ⟨z8, e8, _, w8⟩ := DataW.trod_int (k := .u64) (by kernel_rfl) h8
      have b8 : 0 ≤ z8 ∧ z8 ≤ 18446744073709551615 := by simpa [Lit.wf, IntKind.min, IntKind.max, IntKind.signed, IntKind.bits] using w8
      obtain ⟨z8, rfl⟩ := Int.eq_ofNat_of_zero_le b8.1
      obtain ⟨z9, e9, _, w9⟩ := DataW.trod_int (k := .u64) (by kernel_rfl) h9
      have b9 : 0 ≤ z9 ∧ z9 ≤ 18446744073709551615 := by simpa [Lit.wf, IntKind.min, IntKind.max, IntKind.signed, IntKind.bits] using w9
      obtain ⟨z9, rfl⟩ := Int.eq_ofNat_of_zero_le b9.1
      simp only [List.cons.injEq, and_true] at e0 e1 e2 e3 e4 e5 e6 e7 e8 e9
      obtain ⟨rfl, rfl, rfl, rfl⟩ := e2
      obtain ⟨rfl, rfl, rfl, rfl⟩ := e3
      obtain ⟨rfl, rfl, rfl, rfl⟩ := e4
      subst e0 e1 e5 e6 e7 e8 e9
      exact ⟨⟨z0, z1, E2, E3, E4, z5, z6, z7, z8, z9⟩, rfl, by show z0 < _; omega, b1, ⟨x2, n2, s2⟩, ⟨x3, n3, s3⟩, ⟨x4, n4, s4⟩, by show z5 < _; omega, by show z6 < _; omega, by show z7 < _; omega, by show z8 < _; omega, by show z9 < _; omega⟩
/-- A slice of blocks. -/
theorem trod_blks {fuel : Nat} {c3 : Value} {y : DataW H × List MemPlace} (h3 : DataW.trod enc Try.prog w base spare held fuel 27 [c3] = some y) (hz : ∀ n ∈ y.1.weights Try.prog 27, n ≤ reachBytes) :
    ∃ (A : Option Addr) (k c : Nat) (bs : Nat → BV), c3 = .slice A k c ∧ k < 4611686018427387904 ∧ BsL w A k bs ∧ ∀ i, i < k → (bs i).wf := by
  have hR : reachBytes < 140737488355328 := by decide
  rcases DataW.trod_slice (e := 33) (by kernel_rfl) h3 with ⟨hcs, _⟩ | ⟨a, len, cap', elems, rest, f, hf, hcs, hx, hb, hl, hm, hlen, hel, _, _⟩
  · have e3 : c3 = .slice none 0 0 := by simpa using hcs
    subst e3
    exact ⟨none, 0, 0, fun _ => zeroB, rfl, by omega, fun h => by omega, fun i hi => by omega⟩
  · have e3 : c3 = .slice (some a) len cap' := by simpa using hcs
    subst e3
    have hC : Try.prog.cellsOf 33 = 5 := by kernel_rfl
    have hBy : Try.prog.bytesOf 33 = 48 := by kernel_rfl
    have hzs := hz
    rw [hx] at hzs
    simp only [DataW.weights, Try.underlying27] at hzs
    have bl : len < 4611686018427387904 := by
      have h8 := hzs _ List.mem_cons_self
      rw [hBy, List.length_map, hlen] at h8
      have h9 : len * 48 ≤ (len + (List.map (fun x => x.1) rest).length) * 48 := Nat.mul_le_mul_right _ (Nat.le_add_right _ _)
      omega
    have key : ∀ i, i < len → ∃ t : BV, (w.cell? ((a.add (i * 5)).add 0) = some (.int .i64 t.ty) ∧ w.cell? ((a.add (i * 5)).add 1) = some (.int .i64 t.num) ∧ w.cell? ((a.add (i * 5)).add 2) = some (.int .u64 (t.fl : Int)) ∧ w.cell? ((a.add (i * 5)).add 3) = some (.int .i64 t.crc) ∧ w.cell? ((a.add (i * 5)).add 4) = some (str t.data)) ∧ t.wf := by
      intro i hin
      have hi := hel i hin
      rw [List.getElem?_eq_getElem (by omega)] at hi
      obtain ⟨cs', hc, ht⟩ := Option.bind_eq_some_iff.1 hi
      obtain ⟨t, rfl, hw⟩ := trod_blkC ht
      rw [hC] at hc
      obtain ⟨_, hcl, hat⟩ := World.cells?_some hc
      exact ⟨t, ⟨hat 0 (by simp), hat 1 (by simp), hat 2 (by simp), hat 3 (by simp), hat 4 (by simp)⟩, hw⟩
    have key2 : ∀ i, ∃ t : BV, i < len → (w.cell? ((a.add (i * 5)).add 0) = some (.int .i64 t.ty) ∧ w.cell? ((a.add (i * 5)).add 1) = some (.int .i64 t.num) ∧ w.cell? ((a.add (i * 5)).add 2) = some (.int .u64 (t.fl : Int)) ∧ w.cell? ((a.add (i * 5)).add 3) = some (.int .i64 t.crc) ∧ w.cell? ((a.add (i * 5)).add 4) = some (str t.data)) ∧ t.wf := fun i => by
      by_cases hin : i < len
      · obtain ⟨t, h5⟩ := key i hin
        exact ⟨t, fun _ => h5⟩
      · exact ⟨zeroB, fun h => absurd h hin⟩
    obtain ⟨g, hg⟩ : ∃ g : Nat → BV, ∀ i, i < len → (w.cell? ((a.add (i * 5)).add 0) = some (.int .i64 (g i).ty) ∧ w.cell? ((a.add (i * 5)).add 1) = some (.int .i64 (g i).num) ∧ w.cell? ((a.add (i * 5)).add 2) = some (.int .u64 ((g i).fl : Int)) ∧ w.cell? ((a.add (i * 5)).add 3) = some (.int .i64 (g i).crc) ∧ w.cell? ((a.add (i * 5)).add 4) = some (str (g i).data)) ∧ (g i).wf :=
      ⟨fun i => Classical.choose (key2 i), fun i => Classical.choose_spec (key2 i)⟩
    refine ⟨some a, len, cap', g, rfl, bl, fun h0 => ?_, fun i hi => (hg i hi).2⟩
    obtain ⟨⟨z0, _⟩, _⟩ := hg 0 h0
    have z1 : w.cell? a = some (.int .i64 (g 0).ty) := by simpa [Addr.add] using z0
    have hsp := World.cell?_spot z1
    obtain ⟨ab, ao, sp⟩ := a
    simp only at hsp
    subst hsp
    refine ⟨ab, ao, rfl, World.block_lt_of_cell? w _ z1, fun i hin => ?_⟩
    obtain ⟨⟨g0, g1, g2, g3, g4⟩, _⟩ := hg i hin
    rw [addr_add, addr_add] at g0 g1 g2 g3 g4
    exact ⟨g0, g1, g2, g3, g4⟩
set_option maxRecDepth 100000 in
theorem open_bundle {v : Value} {d : DataW H} {q : List MemPlace} (hval : Value.okWide Try.prog w r b0 29 v) (h : DataW.Trod enc Try.prog w base spare held 29 v d q) (hz : ∀ n ∈ d.weights Try.prog 29, n ≤ reachBytes) :
    ∃ (p : PV) (A : Option Addr) (k c : Nat) (bs : Nat → BV), v = bunV p A k c ∧ p.wf ∧ k < 4611686018427387904 ∧ BsL w A k bs ∧ ∀ i, i < k → (bs i).wf := by
  obtain ⟨cs, rfl, hsz⟩ := okWide_struct Try.underlying29 hval
  obtain ⟨fuel, hf⟩ := h
  obtain ⟨ys, n', hn', hy, hlen, hyl, hfl⟩ := DataW.trod_struct Try.underlying29 hf
  have hcs : (Value.agg cs).cells.toList = cs.toList := rfl
  rw [hcs] at hlen hfl
  obtain ⟨L, hL⟩ : ∃ L, L = cs.toList := ⟨_, rfl⟩
  rw [← hL] at hlen hfl
  have hcsL : cs = L.toArray := by rw [hL]
  subst hcsL
  have hd : d = .agg (ys.map (·.1)) := by simpa using congrArg Prod.fst hy
  have hz' : ∀ n ∈ DataW.weightsEach Try.prog [26, 27] (ys.map (·.1)), n ≤ reachBytes := by
    intro n hn
    apply hz
    rw [hd]
    simp only [DataW.weights, Try.underlying29]
    exact hn
  clear hL hcs hf hval hsz hz
  have k1 : Try.prog.cellsOf 26 = 19 := by kernel_rfl
  have k2 : Try.prog.cellsOf 27 = 1 := by kernel_rfl
  match L, hlen with
  | [c0, c1, c2, c3, c4, c5, c6, c7, c8, c9, c10, c11, c12, c13, c14, c15, c16, c17, c18, c19], _ =>
    obtain ⟨y0, y1, rfl⟩ : ∃ y0 y1, ys = [y0, y1] := by clear hd hz' hy hfl; match ys, hyl with | [a, b], _ => exact ⟨a, b, rfl⟩
    · have h0 : DataW.trod enc Try.prog w base spare held n' 26 [c0, c1, c2, c3, c4, c5, c6, c7, c8, c9, c10, c11, c12, c13, c14, c15, c16, c17, c18] = some y0 := fldB k1 (hfl 0 _ rfl)
      have h1 : DataW.trod enc Try.prog w base spare held n' 27 [c19] = some y1 := fldB k2 (hfl 1 _ rfl)
      clear hfl
      obtain ⟨p, hp, hw⟩ := trod_priC h0
      obtain ⟨A, k, c, bs, rfl, hk, hL, hbw⟩ := trod_blks h1 (fun n hn => hz' n (DataW.weights_mem_each (j := 1) rfl rfl n hn))
      refine ⟨p, A, k, c, bs, ?_, hw, hk, hL, hbw⟩
      simp only [PV.c, List.cons.injEq, and_true] at hp
      obtain ⟨rfl, rfl, rfl, rfl, rfl, rfl, rfl, rfl, rfl, rfl, rfl, rfl, rfl, rfl, rfl, rfl, rfl, rfl, rfl⟩ := hp
      rfl
end
end Go.Proofs.Ytcajjhmldghakaa


namespace Go.Proofs.Ytcajjhmldghakaa
open Go.RowKit
set_option linter.unusedVariables false
set_option linter.unusedSimpArgs false

theorem few10L_any (e : EV) (w : World) : Calls Try.prog 16 #[.agg #[.int .i64 e.sch, str e.name, .int .u64 (e.node : Int), .int .u64 (e.svc : Int)]] w (Ret (.bool (decide (e.name.length ≤ 100))) w) := by
  go_enter Try.func16, Try.ntmps16
  go_wp2
  go_ret
  refine Ret.mk ?_ ((Mod.refl _ _).alloc _)
  simp
  omega
def PV.few (p : PV) : Bool := decide (p.d.name.length ≤ 100) && decide (p.s.name.length ≤ 100) && decide (p.r.name.length ≤ 100)
set_option maxRecDepth 20000 in
set_option maxHeartbeats 800000 in
theorem few11P_any (p : PV) (w : World) : Calls Try.prog 13 #[.agg p.c] w (Ret (.bool p.few) w) := by
  have HE := hid ((Mod.refl [] w).alloc (.cells p.c 26))
  have HB := hid (Blk.new w 26 p.c)
  have HF : Hid (p.few = (decide (p.d.name.length ≤ 100) && decide (p.s.name.length ≤ 100) && decide (p.r.name.length ≤ 100))) := rfl
  have K1 := hid (fun W => few10L_any p.d W)
  have K2 := hid (fun W => few10L_any p.s W)
  have K3 := hid (fun W => few10L_any p.r W)
  cases h1 : decide (p.d.name.length ≤ 100)
  all_goals cases h2 : decide (p.s.name.length ≤ 100)
  all_goals cases h3 : decide (p.r.name.length ≤ 100)
  all_goals rw [h1] at K1 HF
  all_goals rw [h2] at K2 HF
  all_goals rw [h3] at K3 HF
  all_goals clear h1 h2 h3
  all_goals go_enter Try.func13, Try.ntmps13
  all_goals go_upto_region 1 with fail
  all_goals generalize w.alloc (.cells p.c 26) = V at *
  all_goals have b2 : ∀ e : Later V, e.x.cell? ⟨w.heap.size, 2, none⟩ = some (.int .i64 p.d.sch) := HB.out.cellL 2 rfl
  all_goals have b3 : ∀ e : Later V, e.x.cell? ⟨w.heap.size, 3, none⟩ = some (str p.d.name) := HB.out.cellL 3 rfl
  all_goals have b4 : ∀ e : Later V, e.x.cell? ⟨w.heap.size, 4, none⟩ = some (.int .u64 (p.d.node : Int)) := HB.out.cellL 4 rfl
  all_goals have b5 : ∀ e : Later V, e.x.cell? ⟨w.heap.size, 5, none⟩ = some (.int .u64 (p.d.svc : Int)) := HB.out.cellL 5 rfl
  all_goals have b6 : ∀ e : Later V, e.x.cell? ⟨w.heap.size, 6, none⟩ = some (.int .i64 p.s.sch) := HB.out.cellL 6 rfl
  all_goals have b7 : ∀ e : Later V, e.x.cell? ⟨w.heap.size, 7, none⟩ = some (str p.s.name) := HB.out.cellL 7 rfl
  all_goals have b8 : ∀ e : Later V, e.x.cell? ⟨w.heap.size, 8, none⟩ = some (.int .u64 (p.s.node : Int)) := HB.out.cellL 8 rfl
  all_goals have b9 : ∀ e : Later V, e.x.cell? ⟨w.heap.size, 9, none⟩ = some (.int .u64 (p.s.svc : Int)) := HB.out.cellL 9 rfl
  all_goals have b10 : ∀ e : Later V, e.x.cell? ⟨w.heap.size, 10, none⟩ = some (.int .i64 p.r.sch) := HB.out.cellL 10 rfl
  all_goals have b11 : ∀ e : Later V, e.x.cell? ⟨w.heap.size, 11, none⟩ = some (str p.r.name) := HB.out.cellL 11 rfl
  all_goals have b12 : ∀ e : Later V, e.x.cell? ⟨w.heap.size, 12, none⟩ = some (.int .u64 (p.r.node : Int)) := HB.out.cellL 12 rfl
  all_goals have b13 : ∀ e : Later V, e.x.cell? ⟨w.heap.size, 13, none⟩ = some (.int .u64 (p.r.svc : Int)) := HB.out.cellL 13 rfl
  all_goals obtain ⟨e0, he0⟩ := Later.self V
  all_goals rw [he0]
  all_goals clear he0
  all_goals go_wp2_with (go_at_call 16; first | ((with_reducible refine (Ret.later (K1.out _)).mono ?_); rintro x _ ⟨rfl, e1, rfl⟩) | ((with_reducible refine (Ret.later (K2.out _)).mono ?_); rintro x _ ⟨rfl, e1, rfl⟩) | ((with_reducible refine (Ret.later (K3.out _)).mono ?_); rintro x _ ⟨rfl, e1, rfl⟩))
  all_goals go_ret
  all_goals exact Ret.mk (by rw [HF.out]; rfl) (HE.out.trans e1.h)
def bsFew (bs : Nat → BV) (i : Nat) : Bool := decide (4100 < (bs i).data.length)
def bunFew (p : PV) (bs : Nat → BV) (k : Nat) : Bool := decide (k ≤ 20) && ((firstOf (bsFew bs) k).isNone && p.few)
theorem bunFew_spec {p : PV} {bs : Nat → BV} {k : Nat} (h : bunFew p bs k = true) : k ≤ 20 ∧ p.few = true ∧ ∀ i, i < k → (bs i).data.length ≤ 4100 := by
  unfold bunFew at h
  simp only [Bool.and_eq_true, decide_eq_true_eq] at h
  refine ⟨h.1, h.2.2, fun i hi => ?_⟩
  cases hf : firstOf (bsFew bs) k with
  | some x => rw [hf] at h; simp at h
  | none =>
    have := firstOf_no hf i hi
    unfold bsFew at this
    simp at this
    exact this
theorem bunFew_long {p : PV} {bs : Nat → BV} {k i : Nat} (hi : i < k) (h : 4100 < (bs i).data.length) : bunFew p bs k = false := by
  cases hb : bunFew p bs k with
  | false => rfl
  | true => have := (bunFew_spec hb).2.2 i hi; omega
set_option maxRecDepth 20000 in
set_option maxHeartbeats 800000 in
theorem few13_any (p : PV) (bs : Nat → BV) (k c : Nat) (A : Option Addr) (hk : k < 4611686018427387904) (w : World) (h : BsL w A k bs) : Calls Try.prog 5 #[bunV p A k c] w (Ret (.bool (bunFew p bs k)) w) := by
  have KF := hid (fun W => few11P_any p W)
  have HE := hid ((Mod.refl [] w).alloc (.cells (bunC p A k c) 29))
  have HB := hid (Blk.new w 29 (bunC p A k c))
  have HL := hid (BsL.ext h HE.out)
  have k1 : (k : Int) < 4611686018427387904 := by omega
  have HK := hid hk
  clear h hk
  go_enter Try.func5, Try.ntmps5
  go_wp2_with fail
  generalize w.alloc (.cells (bunC p A k c) 29) = V at *
  have b19 : ∀ e : Later V, e.x.cell? ⟨w.heap.size, 19, none⟩ = some (.slice A k c) := HB.out.cellL 19 rfl
  obtain ⟨e0, he0⟩ := Later.self V
  go_loopw [3] (fun s3 wr => ∃ i : Nat, s3 = .int .i64 (i : Int) ∧ Hid (i ≤ k ∧ i ≤ 30 ∧ ∀ j, j < i → (bs j).data.length ≤ 4100) ∧ ∃ e : Later V, wr = e.x) (fun s3 _ => 30 - (intOf s3).toNat)
  case atStart => exact ⟨0, rfl, (show Hid _ from ⟨by omega, by omega, fun j hj => by omega⟩), e0, he0⟩
  case round =>
    clear he0 e0
    obtain ⟨i, rfl, hi, e, rfl⟩ := hrel
    have i0 : (0 : Int) ≤ (i : Int) := by omega
    by_cases hlt : i < k ∧ i < 30
    · obtain ⟨hlt, hl30⟩ := hlt
      obtain ⟨b, o, rfl, hb, q0, q1, q2, q3, q4⟩ := HL.out.cells hlt
      have tc : decide (i < k) = true := by simp [hlt]
      have tc3 : decide ((i : Int) < 30) = true := by simp; omega
      have i1 : (i : Int) < (k : Int) := by omega
      have HLT := hid hlt
      have HL30 := hid hl30
      clear hlt hl30 q0 q1 q2 q3
      by_cases ht : 4100 < (bs i).data.length
      · have t1 : decide (4100 < ((bs i).data.length : Int)) = true := by simp; omega
        have t2 : (4100 < (bs i).data.length) = True := by simp; omega
        have HF := hid (bunFew_long (p := p) HLT.out ht)
        clear ht
        go_wp2_with fail
        go_ret
        exact Ret.mk (by rw [HF.out]; rfl) (HE.out.trans e.h)
      · have t1 : decide (4100 < ((bs i).data.length : Int)) = false := by simp; omega
        have t2 : (4100 < (bs i).data.length) = False := by simp; omega
        have HN := hid ht
        clear ht
        go_wp2_with fail
        go_roundw
        case rel => exact ⟨i + 1, by go_num, (show Hid _ from ⟨HLT.out, HL30.out, fun j hj => by
          by_cases hji : j = i
          · subst hji; have := HN.out; omega
          · exact hi.out.2.2 j (by omega)⟩), e, rfl⟩
        case measure => have := HL30.out; simp [intOf]; omega
    · by_cases hk20 : k ≤ 20
      · obtain rfl : i = k := by have := hi.out; omega
        have tc : decide (i < i) = false := by simp
        have t20 : decide ((i : Int) ≤ 20) = true := by simp; omega
        have HF : Hid (bunFew p bs i = p.few) := by
          unfold Hid bunFew
          rw [firstOf_none (fun j hj => by unfold bsFew; have := hi.out.2.2 j hj; simp; omega)]
          simp [hk20]
        clear hlt hk20
        have HPR : Hid (∀ e : Later V, e.x.rangeAt w.heap.size 0 p.c.toList) := HB.out.range 0 19 (by rw [Array.toList_extract]; rfl)
        go_wp2_with (first | (refine wpList_mid (by rfl) 26 _ rfl _ 0 rfl _ _ (HPR.out e) Try.underlying26 rfl (by kernel_rfl) ?_) | (go_at_call 13; refine (Ret.later (KF.out _)).mono ?_; rintro x _ ⟨rfl, e1, rfl⟩))
        go_ret
        exact Ret.mk (by rw [HF.out]; rfl) (HE.out.trans e1.h)
      · have t20 : decide ((k : Int) ≤ 20) = false := by simp; omega
        have HF : Hid (bunFew p bs k = false) := by unfold Hid bunFew; simp [hk20]
        by_cases hik : i < k
        · have tc : decide (i < k) = true := by simp [hik]
          have tc3 : decide ((i : Int) < 30) = false := by have := hi.out; simp; omega
          clear hlt hk20 hik
          go_wp2_with fail
          go_ret
          exact Ret.mk (by rw [HF.out]; rfl) (HE.out.trans e.h)
        · obtain rfl : i = k := by have := hi.out; omega
          have tc : decide (i < i) = false := by simp
          clear hlt hk20 hik
          go_wp2_with fail
          go_ret
          exact Ret.mk (by rw [HF.out]; rfl) (HE.out.trans e.h)
end Go.Proofs.Ytcajjhmldghakaa


namespace Go.Proofs.Ytcajjhmldghakaa
open Go.RowKit
set_option linter.unusedVariables false
set_option linter.unusedSimpArgs false

theorem Crc.rv_succ : ∀ (i n : Nat), Crc.rv (i + 1) n = 2 * Crc.rv i n + n / 2 ^ i % 2
  | 0, n => by simp [Crc.rv]
  | i + 1, n => by
    have h := Crc.rv_succ i (n / 2)
    have e : n / 2 / 2 ^ i = n / 2 ^ (i + 1) := by rw [Nat.div_div_eq_div_mul, Nat.pow_succ, Nat.mul_comm]
    have e2 : 2 ^ (i + 1) * (n % 2) = 2 * (2 ^ i * (n % 2)) := by rw [Nat.pow_succ, Nat.mul_comm (2 ^ i) 2, Nat.mul_assoc]
    have e3 : Crc.rv (i + 1 + 1) n = 2 ^ (i + 1) * (n % 2) + Crc.rv (i + 1) (n / 2) := rfl
    have e4 : Crc.rv (i + 1) n = 2 ^ i * (n % 2) + Crc.rv i (n / 2) := rfl
    rw [e3, h, e4, e, e2]
    omega

def Crc.tab : List Nat := [28, 27, 26, 25, 23, 22, 20, 19, 18, 14, 13, 11, 10, 9, 8, 6, 0]
def Crc.dv (j : Nat) : Nat := ((Crc.tab.take j).map (2 ^ ·)).sum
theorem Crc.dv_succ : ∀ j : Fin 17, Crc.dv (j.val + 1) = Crc.dv j.val + 2 ^ (Crc.tab.getD j.val 0) ∧ Crc.dv j.val ≤ 517762881 ∧ Crc.tab.getD j.val 0 ≤ 28 := by decide
end Go.Proofs.Ytcajjhmldghakaa


namespace Go.Proofs.Ytcajjhmldghakaa
open Go.RowKit
set_option linter.unusedVariables false
set_option linter.unusedSimpArgs false

theorem Crc.stepR_lt {m d r b : Nat} (hd : d < 2 ^ m) : Crc.stepR (2 ^ m) d r b < 2 ^ m := by
  have := Nat.mod_lt (r * 2) (Nat.two_pow_pos m)
  unfold Crc.stepR
  split
  · exact this
  · exact Nat.xor_lt_two_pow this hd

theorem Crc.x_16 (l : List UInt8) : Crc.rv 16 (65535 - Crc.divR 65536 4129 65535 l) = Crc.x25 l := Crc.sums (m := 15) (p := 33800) (by decide) l
theorem Crc.r_16 {r c : Nat} : Crc.stepR 65536 4129 r c = if r / 32768 = c then r * 2 % 65536 else (r * 2 % 65536) ^^^ 4129 := rfl
theorem Crc.x_32 (l : List UInt8) : Crc.rv 32 (4294967295 - Crc.divR 4294967296 517762881 4294967295 l) = Crc.cast l := Crc.sums (m := 31) (p := 2197175160) (by decide) l
theorem Crc.r_32 {r c : Nat} : Crc.stepR 4294967296 517762881 r c = if r / 2147483648 = c then r * 2 % 4294967296 else (r * 2 % 4294967296) ^^^ 517762881 := rfl
end Go.Proofs.Ytcajjhmldghakaa


namespace Go.Proofs.Ytcajjhmldghakaa
open Go.RowKit
set_option linter.unusedVariables false
set_option linter.unusedSimpArgs false

abbrev numsV (ty num fl crc : Nat) : Value := .agg #[.int .u64 (ty : Int), .int .u64 (num : Int), .int .u64 (fl : Int), .int .u64 (crc : Int)]
def num4 (ty num fl crc i : Nat) : Nat := if i = 0 then ty else if i = 1 then num else if i = 2 then fl else crc
def cat4 (ty num fl crc : Nat) (j : Nat) : List UInt8 := T.cat (fun i => headL 0 (num4 ty num fl crc i)) j
theorem cat4_le (ty num fl crc : Nat) : ∀ j, (cat4 ty num fl crc j).length ≤ 9 * j
  | 0 => by simp [cat4, T.cat]
  | j + 1 => by
    have h := cat4_le ty num fl crc j
    have := headL_le 0 (num4 ty num fl crc j)
    unfold cat4 at h ⊢
    rw [T.cat, List.length_append]
    omega
end Go.Proofs.Ytcajjhmldghakaa


namespace Go.Proofs.Ytcajjhmldghakaa
open Go.RowKit
set_option linter.unusedVariables false
set_option linter.unusedSimpArgs false

theorem infoByte8 : (Try.prog.info? 5).map (fun i => (i.zero, i.size, i.bytes)) = some (some (.int .u8 0), 1, 1) := by kernel_rfl
/-- Bytes made, as a string. -/
theorem conv_made (k c : Nat) (W : World) : (convert 65 9 (.slice (some ⟨W.heap.size, 0, none⟩) k c)).run Try.prog (W.alloc (.cells (madeCells #[.int .u8 0] k) 5)) = .ok (str (List.replicate k 0)) (W.alloc (.cells (madeCells #[.int .u8 0] k) 5)) := by
  have h := run_convert_bytes_back (P := Try.prog) (W.alloc (.cells (madeCells #[.int .u8 0] k) 5)) 65 9 5 ⟨W.heap.size, 0, none⟩ c (List.replicate k 0) Try.underlying65 Try.underlying5 Try.underlying9 (fun j hj => by
    rw [addr_add, Nat.zero_add, (Blk.new W 5 _).cell j]
    rw [List.length_replicate] at hj
    have := toList_madeCells_one (.int .u8 0) k
    rw [← Array.getElem?_toList, this, List.getElem?_replicate, if_pos hj]
    simp)
  rw [List.length_replicate] at h
  exact h
end Go.Proofs.Ytcajjhmldghakaa


namespace Go.Proofs.Ytcajjhmldghakaa
open Go.RowKit
set_option linter.unusedVariables false
set_option linter.unusedSimpArgs false

theorem quo_remP {f c x : Nat} (hf : f < 18446744073709551616) (h : f / c % 2 = x) : (IntKind.u64.wrap ((f : Int) / (c : Int))).tmod 2 = (x : Int) := by
  have h1 : (f : Int) / (c : Int) = ((f / c : Nat) : Int) := by simp
  have h2 : f / c ≤ f := Nat.div_le_self _ _
  rw [h1]
  generalize f / c = y at *
  rw [IntWalk.u64_in _ (by omega), Int.tmod_eq_emod_of_nonneg (by omega)]
  omega
def has (f c : Nat) : Bool := decide (f / c % 2 = 1)
end Go.Proofs.Ytcajjhmldghakaa


namespace Go.Proofs.Ytcajjhmldghakaa
open Go.RowKit
set_option linter.unusedVariables false
set_option linter.unusedSimpArgs false

set_option maxRecDepth 20000 in
theorem eidNoneP_any (w : World) : Calls Try.prog 31 #[] w (Ret (.agg #[.int .i64 1, str [110, 111, 110, 101], .int .u64 0, .int .u64 0]) w) := by
  go_enter Try.func31, Try.ntmps31
  go_wp2
  refine bodyPost_ret (v := .agg #[.int .i64 1, str [110, 111, 110, 101], .int .u64 0, .int .u64 0]) ?_ rfl (Ret.mk rfl ((Mod.refl _ _).alloc _))
  simp [results, Try.results31, go_sem]
theorem and_powP (f k : Nat) : f &&& 2 ^ k = if f.testBit k = true then 2 ^ k else 0 := by
  apply Nat.eq_of_testBit_eq
  intro i
  rw [Nat.testBit_and, Nat.testBit_two_pow]
  by_cases h : k = i
  · subst h
    cases f.testBit k <;> simp
  · cases f.testBit k <;> simp [h]
theorem u64_and_powP (f k : Nat) (hf : f < 18446744073709551616) (hk : k < 64) : bits .and .u64 (f : Int) ((2 ^ k : Nat) : Int) = if f / 2 ^ k % 2 = 1 then ((2 ^ k : Nat) : Int) else 0 := by
  have h2 : 2 ^ k < 18446744073709551616 := by
    have : 2 ^ k < 2 ^ 64 := Nat.pow_lt_pow_right (by omega) hk
    omega
  have h1 : bits .and .u64 (f : Int) ((2 ^ k : Nat) : Int) = ((f &&& 2 ^ k : Nat) : Int) := u64_and_nat f (2 ^ k) hf h2
  rw [h1, and_powP, Nat.testBit_eq_decide_div_mod_eq]
  by_cases h : f / 2 ^ k % 2 = 1 <;> simp [h]
theorem andP_no {f k : Nat} (hf : f < 18446744073709551616) (hk : k < 64) (h : f / 2 ^ k % 2 = 0) : bits .and .u64 (f : Int) ((2 ^ k : Nat) : Int) = 0 := by rw [u64_and_powP f k hf hk, if_neg (by omega)]
theorem andP_yes {f k : Nat} (hf : f < 18446744073709551616) (hk : k < 64) (h : f / 2 ^ k % 2 = 1) : bits .and .u64 (f : Int) ((2 ^ k : Nat) : Int) = ((2 ^ k : Nat) : Int) := by rw [u64_and_powP f k hf hk, if_pos h]
/-- Either of the two flags that ask for reports. -/
theorem and_tells {f : Nat} (hf : f < 18446744073709551616) : ∃ r : Int, bits .and .u64 (f : Int) 278528 = r ∧ (r = 0 ↔ ¬ (f / 16384 % 2 = 1 ∨ f / 262144 % 2 = 1)) := by
  refine ⟨_, rfl, ?_⟩
  have h := u64_and_nat f 278528 hf (by omega)
  have e : f &&& 278528 = (f &&& 2 ^ 14) ||| (f &&& 2 ^ 18) := by rw [← Nat.and_or_distrib_left]; rfl
  rw [e, and_powP, and_powP, Nat.testBit_eq_decide_div_mod_eq, Nat.testBit_eq_decide_div_mod_eq] at h
  have h2 : bits .and .u64 (f : Int) 278528 = bits .and .u64 (f : Int) ((278528 : Nat) : Int) := rfl
  rw [h2, h]
  by_cases a : f / 16384 % 2 = 1 <;> by_cases b : f / 262144 % 2 = 1 <;> simp [a, b]
set_option maxRecDepth 20000 in
set_option maxHeartbeats 1600000 in
theorem ranged_any (p : PV) (hnl : Hid (p.d.name.length < 4611686018427387904 ∧ p.s.name.length < 4611686018427387904 ∧ p.r.name.length < 4611686018427387904)) (w : World) : Calls Try.prog 30 #[.agg p.c] w (Ret (.bool p.ranged) w) := by
  have KD := hid (fun W => eidRight_any p.d hnl.out.1 W)
  have KS := hid (fun W => eidRight_any p.s hnl.out.2.1 W)
  have KR := hid (fun W => eidRight_any p.r hnl.out.2.2 W)
  have HE := hid ((Mod.refl [] w).alloc (.cells p.c 26))
  have HB := hid (Blk.new w 26 p.c)
  go_enter Try.func30, Try.ntmps30
  go_upto_region 1 with fail
  have HA := hid (Blk.new (w.alloc (.cells p.c 26)) 22 #[.int .u64 (p.t : Int), .int .u64 (p.q : Int), .int .u64 (p.l : Int), .int .u64 (p.o : Int), .int .u64 (p.n : Int)])
  go_wp2_with fail
  have HB2 := hid (HB.out.alloc (.cells #[.int .u64 (p.t : Int), .int .u64 (p.q : Int), .int .u64 (p.l : Int), .int .u64 (p.o : Int), .int .u64 (p.n : Int)] 22))
  have HE2 := hid (HE.out.alloc (.cells #[.int .u64 (p.t : Int), .int .u64 (p.q : Int), .int .u64 (p.l : Int), .int .u64 (p.o : Int), .int .u64 (p.n : Int)] 22))
  have HG : Hid ((w.alloc (.cells p.c 26)).heap.size = w.heap.size + 1) := hid (by simp)
  rw [HG.out] at HA
  generalize (w.alloc (.cells p.c 26)).alloc (.cells #[.int .u64 (p.t : Int), .int .u64 (p.q : Int), .int .u64 (p.l : Int), .int .u64 (p.o : Int), .int .u64 (p.n : Int)] 22) = V2 at *
  clear HB HE HG
  have b0 : ∀ e : Later V2, e.x.cell? ⟨w.heap.size, 0, none⟩ = some (.int .u64 (p.fl : Int)) := HB2.out.cellL 0 rfl
  have b1 : ∀ e : Later V2, e.x.cell? ⟨w.heap.size, 1, none⟩ = some (.int .i64 p.crc) := HB2.out.cellL 1 rfl
  have b2 : ∀ e : Later V2, e.x.cell? ⟨w.heap.size, 2, none⟩ = some (.int .i64 p.d.sch) := HB2.out.cellL 2 rfl
  have b3 : ∀ e : Later V2, e.x.cell? ⟨w.heap.size, 3, none⟩ = some (str p.d.name) := HB2.out.cellL 3 rfl
  have b4 : ∀ e : Later V2, e.x.cell? ⟨w.heap.size, 4, none⟩ = some (.int .u64 (p.d.node : Int)) := HB2.out.cellL 4 rfl
  have b5 : ∀ e : Later V2, e.x.cell? ⟨w.heap.size, 5, none⟩ = some (.int .u64 (p.d.svc : Int)) := HB2.out.cellL 5 rfl
  have b6 : ∀ e : Later V2, e.x.cell? ⟨w.heap.size, 6, none⟩ = some (.int .i64 p.s.sch) := HB2.out.cellL 6 rfl
  have b7 : ∀ e : Later V2, e.x.cell? ⟨w.heap.size, 7, none⟩ = some (str p.s.name) := HB2.out.cellL 7 rfl
  have b8 : ∀ e : Later V2, e.x.cell? ⟨w.heap.size, 8, none⟩ = some (.int .u64 (p.s.node : Int)) := HB2.out.cellL 8 rfl
  have b9 : ∀ e : Later V2, e.x.cell? ⟨w.heap.size, 9, none⟩ = some (.int .u64 (p.s.svc : Int)) := HB2.out.cellL 9 rfl
  have b10 : ∀ e : Later V2, e.x.cell? ⟨w.heap.size, 10, none⟩ = some (.int .i64 p.r.sch) := HB2.out.cellL 10 rfl
  have b11 : ∀ e : Later V2, e.x.cell? ⟨w.heap.size, 11, none⟩ = some (str p.r.name) := HB2.out.cellL 11 rfl
  have b12 : ∀ e : Later V2, e.x.cell? ⟨w.heap.size, 12, none⟩ = some (.int .u64 (p.r.node : Int)) := HB2.out.cellL 12 rfl
  have b13 : ∀ e : Later V2, e.x.cell? ⟨w.heap.size, 13, none⟩ = some (.int .u64 (p.r.svc : Int)) := HB2.out.cellL 13 rfl
  have b14 : ∀ e : Later V2, e.x.cell? ⟨w.heap.size, 14, none⟩ = some (.int .u64 (p.t : Int)) := HB2.out.cellL 14 rfl
  have b15 : ∀ e : Later V2, e.x.cell? ⟨w.heap.size, 15, none⟩ = some (.int .u64 (p.q : Int)) := HB2.out.cellL 15 rfl
  have b16 : ∀ e : Later V2, e.x.cell? ⟨w.heap.size, 16, none⟩ = some (.int .u64 (p.l : Int)) := HB2.out.cellL 16 rfl
  have b17 : ∀ e : Later V2, e.x.cell? ⟨w.heap.size, 17, none⟩ = some (.int .u64 (p.o : Int)) := HB2.out.cellL 17 rfl
  have b18 : ∀ e : Later V2, e.x.cell? ⟨w.heap.size, 18, none⟩ = some (.int .u64 (p.n : Int)) := HB2.out.cellL 18 rfl
  obtain ⟨e0, he0⟩ := Later.self V2
  have HAJ : Hid (∀ (e : Later V2) (i : Nat), i < 5 → e.x.cell? ⟨w.heap.size + 1, i, none⟩ = some (.int .u64 ((([p.t, p.q, p.l, p.o, p.n][i]?).getD 0 : Nat) : Int))) := fun e i hi => by
    rw [(HA.out.later e).cell i]
    match i, hi with
    | 0, _ => rfl
    | 1, _ => rfl
    | 2, _ => rfl
    | 3, _ => rfl
    | 4, _ => rfl
  go_loopw [17] (fun s17 wr => ∃ i : Nat, s17 = .int .i64 (i : Int) ∧ Hid (i ≤ 5 ∧ ∀ j, j < i → ([p.t, p.q, p.l, p.o, p.n][j]?).getD 0 ≤ 1099511627776) ∧ ∃ e : Later V2, wr = e.x) (fun s17 _ => 5 - (intOf s17).toNat)
  case atStart => exact ⟨0, rfl, (show Hid _ from ⟨by omega, fun j hj => by omega⟩), e0, he0⟩
  case round =>
    clear he0 e0
    obtain ⟨i, rfl, hi, e, rfl⟩ := hrel
    have HE := HE2
    have i0 : (0 : Int) ≤ (i : Int) := by omega
    have i5 : (i : Int) ≤ 5 := by have := hi.out.1; omega
    by_cases hlt : i < 5
    · have tc : decide ((i : Int) < 5) = true := decide_eq_true (by omega)
      have i1 : (i : Int) < 5 := by omega
      have HJ := fun e => HAJ.out e i hlt
      obtain ⟨x, hx⟩ : ∃ x, ([p.t, p.q, p.l, p.o, p.n][i]?).getD 0 = x := ⟨_, rfl⟩
      rw [hx] at HJ
      have HX := hid hx
      have HLT := hid hlt
      clear hx hlt
      by_cases hx : 1099511627776 < x
      · have ya : decide ((1099511627776 : Int) < (x : Int)) = true := decide_eq_true (by omega)
        have yb : ((1099511627776 : Int) < (x : Int)) = True := eq_true (by omega)
        have HR : Hid (p.ranged = false) := by
          unfold Hid PV.ranged
          have h5 := HLT.out
          have hX := HX.out
          match i, h5 with
          | 0, _ => have hX : p.t = x := hX; simp; omega
          | 1, _ => have hX : p.q = x := hX; simp; omega
          | 2, _ => have hX : p.l = x := hX; simp; omega
          | 3, _ => have hX : p.o = x := hX; simp; omega
          | 4, _ => have hX : p.n = x := hX; simp; omega
        clear hx
        go_wp2_with fail
        go_ret
        exact Ret.mk (by rw [HR.out]; rfl) (HE.out.trans e.h)
      · have ya : decide ((1099511627776 : Int) < (x : Int)) = false := decide_eq_false (by omega)
        have yb : ((1099511627776 : Int) < (x : Int)) = False := eq_false (by omega)
        have HN := hid hx
        clear hx
        go_wp2_with fail
        go_roundw
        case rel => exact ⟨i + 1, by go_num, (show Hid _ from ⟨HLT.out, fun j hj => by
          by_cases hji : j = i
          · subst hji; rw [HX.out]; have := HN.out; omega
          · exact hi.out.2 j (by omega)⟩), e, rfl⟩
        case measure => have := HLT.out; simp [intOf]; omega
    · obtain rfl : i = 5 := by have := hi.out.1; omega
      have HL : Hid (p.t ≤ 1099511627776 ∧ p.q ≤ 1099511627776 ∧ p.l ≤ 1099511627776 ∧ p.o ≤ 1099511627776 ∧ p.n ≤ 1099511627776) := by
        have h := hi.out.2
        have a0 : p.t ≤ _ := h 0 (by omega)
        have a1 : p.q ≤ _ := h 1 (by omega)
        have a2 : p.l ≤ _ := h 2 (by omega)
        have a3 : p.o ≤ _ := h 3 (by omega)
        have a4 : p.n ≤ _ := h 4 (by omega)
        exact ⟨a0, a1, a2, a3, a4⟩
      clear hlt HAJ i0 i5 hi
      go_upto_region 7 with fail
      cases hx : p.d.ok with
      | false =>
        rw [hx] at KD
        have HX := hid hx
        clear hx
        have HS : Hid (p.ranged = false) := by
          unfold Hid PV.ranged
          rw [HX.out]; simp
        go_wp2_with (go_at_call 37; first | ((with_reducible refine (Ret.later (KD.out _)).mono ?_); rintro x _ ⟨rfl, e, rfl⟩) | ((with_reducible refine (Ret.later (KS.out _)).mono ?_); rintro x _ ⟨rfl, e, rfl⟩) | ((with_reducible refine (Ret.later (KR.out _)).mono ?_); rintro x _ ⟨rfl, e, rfl⟩))
        go_ret
        exact Ret.mk (by rw [HS.out]; rfl) (HE.out.trans e.h)
      | true =>
        rw [hx] at KD
        have Xd := hid hx
        clear hx
        cases hx : p.s.ok with
        | false =>
          rw [hx] at KS
          have HX := hid hx
          clear hx
          have HS : Hid (p.ranged = false) := by
            unfold Hid PV.ranged
            rw [HX.out]; simp
          go_wp2_with (go_at_call 37; first | ((with_reducible refine (Ret.later (KD.out _)).mono ?_); rintro x _ ⟨rfl, e, rfl⟩) | ((with_reducible refine (Ret.later (KS.out _)).mono ?_); rintro x _ ⟨rfl, e, rfl⟩) | ((with_reducible refine (Ret.later (KR.out _)).mono ?_); rintro x _ ⟨rfl, e, rfl⟩))
          go_ret
          exact Ret.mk (by rw [HS.out]; rfl) (HE.out.trans e.h)
        | true =>
          rw [hx] at KS
          have Xs := hid hx
          clear hx
          cases hx : p.r.ok with
          | false =>
            rw [hx] at KR
            have HX := hid hx
            clear hx
            have HS : Hid (p.ranged = false) := by
              unfold Hid PV.ranged
              rw [HX.out]; simp
            go_wp2_with (go_at_call 37; first | ((with_reducible refine (Ret.later (KD.out _)).mono ?_); rintro x _ ⟨rfl, e, rfl⟩) | ((with_reducible refine (Ret.later (KS.out _)).mono ?_); rintro x _ ⟨rfl, e, rfl⟩) | ((with_reducible refine (Ret.later (KR.out _)).mono ?_); rintro x _ ⟨rfl, e, rfl⟩))
            go_ret
            exact Ret.mk (by rw [HS.out]; rfl) (HE.out.trans e.h)
          | true =>
            rw [hx] at KR
            have Xr := hid hx
            clear hx
            by_cases hx : p.crc < 0
            · have ua : decide (0 ≤ p.crc) = false := decide_eq_false (by omega)
              have ub : (0 ≤ p.crc) = False := eq_false (by omega)
              have HX := hid hx
              clear hx
              have HS : Hid (p.ranged = false) := by
                unfold Hid PV.ranged
                have := HX.out; simp; omega
              go_wp2_with (go_at_call 37; first | ((with_reducible refine (Ret.later (KD.out _)).mono ?_); rintro x _ ⟨rfl, e, rfl⟩) | ((with_reducible refine (Ret.later (KS.out _)).mono ?_); rintro x _ ⟨rfl, e, rfl⟩) | ((with_reducible refine (Ret.later (KR.out _)).mono ?_); rintro x _ ⟨rfl, e, rfl⟩))
              go_ret
              exact Ret.mk (by rw [HS.out]; rfl) (HE.out.trans e.h)
            have ua : decide (0 ≤ p.crc) = true := decide_eq_true (by omega)
            have ub : (0 ≤ p.crc) = True := eq_true (by omega)
            have X1 := hid hx
            clear hx
            by_cases hx : 2 < p.crc
            · have va : decide (p.crc ≤ 2) = false := decide_eq_false (by omega)
              have vb : (p.crc ≤ 2) = False := eq_false (by omega)
              have HX := hid hx
              clear hx
              have HS : Hid (p.ranged = false) := by
                unfold Hid PV.ranged
                have := HX.out; simp; omega
              go_wp2_with (go_at_call 37; first | ((with_reducible refine (Ret.later (KD.out _)).mono ?_); rintro x _ ⟨rfl, e, rfl⟩) | ((with_reducible refine (Ret.later (KS.out _)).mono ?_); rintro x _ ⟨rfl, e, rfl⟩) | ((with_reducible refine (Ret.later (KR.out _)).mono ?_); rintro x _ ⟨rfl, e, rfl⟩))
              go_ret
              exact Ret.mk (by rw [HS.out]; rfl) (HE.out.trans e.h)
            have va : decide (p.crc ≤ 2) = true := decide_eq_true (by omega)
            have vb : (p.crc ≤ 2) = True := eq_true (by omega)
            have X2 := hid hx
            clear hx
            by_cases hx : 2097152 ≤ p.fl
            · have xa : decide ((p.fl : Int) < 2097152) = false := decide_eq_false (by omega)
              have xb : ((p.fl : Int) < 2097152) = False := eq_false (by omega)
              have HX := hid hx
              clear hx
              have HS : Hid (p.ranged = false) := by
                unfold Hid PV.ranged
                have := HX.out; simp; omega
              go_wp2_with (go_at_call 37; first | ((with_reducible refine (Ret.later (KD.out _)).mono ?_); rintro x _ ⟨rfl, e, rfl⟩) | ((with_reducible refine (Ret.later (KS.out _)).mono ?_); rintro x _ ⟨rfl, e, rfl⟩) | ((with_reducible refine (Ret.later (KR.out _)).mono ?_); rintro x _ ⟨rfl, e, rfl⟩))
              go_ret
              exact Ret.mk (by rw [HS.out]; rfl) (HE.out.trans e.h)
            have xa : decide ((p.fl : Int) < 2097152) = true := decide_eq_true (by omega)
            have xb : ((p.fl : Int) < 2097152) = True := eq_true (by omega)
            have X3 := hid hx
            clear hx
            have HS : Hid (p.ranged = true) := by
              unfold Hid PV.ranged
              rw [Xd.out, Xs.out, Xr.out]; have := X1.out; have := X2.out; have := X3.out; have := HL.out; simp; omega
            go_wp2_with (go_at_call 37; first | ((with_reducible refine (Ret.later (KD.out _)).mono ?_); rintro x _ ⟨rfl, e, rfl⟩) | ((with_reducible refine (Ret.later (KS.out _)).mono ?_); rintro x _ ⟨rfl, e, rfl⟩) | ((with_reducible refine (Ret.later (KR.out _)).mono ?_); rintro x _ ⟨rfl, e, rfl⟩))
            go_ret
            exact Ret.mk (by rw [HS.out]; rfl) (HE.out.trans e.h)
set_option maxRecDepth 20000 in
set_option maxHeartbeats 1600000 in
theorem cPriRight_any (p : PV) (hnl : Hid (p.d.name.length < 4611686018427387904 ∧ p.s.name.length < 4611686018427387904 ∧ p.r.name.length < 4611686018427387904)) (hf : p.fl < 18446744073709551616) (w : World) : Calls Try.prog 22 #[.agg p.c] w (Ret (.int .i64 p.right) w) := by
  have KR := hid (fun W => ranged_any p hnl W)
  have hfl := hid hf
  have HNZ : Hid (p.ranged = true → p.none → p.s.node = 0 ∧ p.s.svc = 0) := fun hr hn => by
    have ho := (PV.ranged_spec hr).2.1
    unfold EV.ok at ho
    rw [if_pos hn.1] at ho
    simp only [Bool.and_eq_true, decide_eq_true_eq] at ho
    exact ⟨ho.1.1, ho.1.2⟩
  have HE := hid ((Mod.refl [] w).alloc (.cells p.c 26))
  have HB := hid (Blk.new w 26 p.c)
  have f0 : (0 : Int) ≤ (p.fl : Int) := by omega
  clear hf
  go_enter Try.func22, Try.ntmps22
  go_upto_region 1 with fail
  generalize w.alloc (.cells p.c 26) = V at *
  have b0 : ∀ e : Later V, e.x.cell? ⟨w.heap.size, 0, none⟩ = some (.int .u64 (p.fl : Int)) := HB.out.cellL 0 rfl
  have b1 : ∀ e : Later V, e.x.cell? ⟨w.heap.size, 1, none⟩ = some (.int .i64 p.crc) := HB.out.cellL 1 rfl
  have b2 : ∀ e : Later V, e.x.cell? ⟨w.heap.size, 2, none⟩ = some (.int .i64 p.d.sch) := HB.out.cellL 2 rfl
  have b3 : ∀ e : Later V, e.x.cell? ⟨w.heap.size, 3, none⟩ = some (str p.d.name) := HB.out.cellL 3 rfl
  have b4 : ∀ e : Later V, e.x.cell? ⟨w.heap.size, 4, none⟩ = some (.int .u64 (p.d.node : Int)) := HB.out.cellL 4 rfl
  have b5 : ∀ e : Later V, e.x.cell? ⟨w.heap.size, 5, none⟩ = some (.int .u64 (p.d.svc : Int)) := HB.out.cellL 5 rfl
  have b6 : ∀ e : Later V, e.x.cell? ⟨w.heap.size, 6, none⟩ = some (.int .i64 p.s.sch) := HB.out.cellL 6 rfl
  have b7 : ∀ e : Later V, e.x.cell? ⟨w.heap.size, 7, none⟩ = some (str p.s.name) := HB.out.cellL 7 rfl
  have b8 : ∀ e : Later V, e.x.cell? ⟨w.heap.size, 8, none⟩ = some (.int .u64 (p.s.node : Int)) := HB.out.cellL 8 rfl
  have b9 : ∀ e : Later V, e.x.cell? ⟨w.heap.size, 9, none⟩ = some (.int .u64 (p.s.svc : Int)) := HB.out.cellL 9 rfl
  have b10 : ∀ e : Later V, e.x.cell? ⟨w.heap.size, 10, none⟩ = some (.int .i64 p.r.sch) := HB.out.cellL 10 rfl
  have b11 : ∀ e : Later V, e.x.cell? ⟨w.heap.size, 11, none⟩ = some (str p.r.name) := HB.out.cellL 11 rfl
  have b12 : ∀ e : Later V, e.x.cell? ⟨w.heap.size, 12, none⟩ = some (.int .u64 (p.r.node : Int)) := HB.out.cellL 12 rfl
  have b13 : ∀ e : Later V, e.x.cell? ⟨w.heap.size, 13, none⟩ = some (.int .u64 (p.r.svc : Int)) := HB.out.cellL 13 rfl
  have b14 : ∀ e : Later V, e.x.cell? ⟨w.heap.size, 14, none⟩ = some (.int .u64 (p.t : Int)) := HB.out.cellL 14 rfl
  have b15 : ∀ e : Later V, e.x.cell? ⟨w.heap.size, 15, none⟩ = some (.int .u64 (p.q : Int)) := HB.out.cellL 15 rfl
  have b16 : ∀ e : Later V, e.x.cell? ⟨w.heap.size, 16, none⟩ = some (.int .u64 (p.l : Int)) := HB.out.cellL 16 rfl
  have b17 : ∀ e : Later V, e.x.cell? ⟨w.heap.size, 17, none⟩ = some (.int .u64 (p.o : Int)) := HB.out.cellL 17 rfl
  have b18 : ∀ e : Later V, e.x.cell? ⟨w.heap.size, 18, none⟩ = some (.int .u64 (p.n : Int)) := HB.out.cellL 18 rfl
  have HBL : Hid (∀ e : Later V, Blk e.x w.heap.size 26 p.c) := fun e => HB.out.later e
  obtain ⟨e, he0⟩ := Later.self V
  rw [he0]
  clear he0
  obtain ⟨r, hr, hrT⟩ := and_tells hfl.out
  have HTB : Hid ((r != 0) = true ↔ (p.fl / 16384 % 2 = 1 ∨ p.fl / 262144 % 2 = 1)) := by unfold Hid; rw [bne_iff_ne, Ne, hrT, Classical.not_not]
  clear hrT
  by_cases hx : p.fl % 2 = 1
  all_goals first | (have a1 : bits .and .u64 (p.fl : Int) 1 = 1 := by (have h := andP_yes (k := 0) hfl.out (by omega) (by simpa using hx); simpa using h)) | (have a1 : bits .and .u64 (p.fl : Int) 1 = 0 := by (have h := andP_no (k := 0) hfl.out (by omega) (by have : p.fl % 2 = 0 := (by omega); simpa using this); simpa using h))
  all_goals have F1 := hid hx
  all_goals clear hx
  all_goals refine wp_region_later (by kernel_rfl) (by kernel_rfl) ?_
  all_goals repeat (go_big_quiet_step (fail))
  all_goals refine wpQuiet_nil ?_
  all_goals rintro _ ⟨e, rfl⟩
  all_goals generalize (r != 0) = TB at *
  all_goals clear hr
  all_goals cases hR : p.ranged
  all_goals rw [hR] at KR
  all_goals have HR := hid hR
  all_goals clear hR
  all_goals go_upto_if 13 with (first | (refine wpList_row (by rfl) 26 _ rfl _ rfl (HBL.out _) Try.underlying26 rfl (by kernel_rfl) ?_) | (go_at_call 30; (with_reducible refine (Ret.later (KR.out _)).mono ?_); rintro x _ ⟨rfl, e, rfl⟩))
  · have HS : Hid (p.right = 1) := by
      unfold Hid PV.right
      rw [if_pos HR.out]
    go_wp2_with fail
    go_ret
    exact Ret.mk (by rw [HS.out]; rfl) (HE.out.trans e.h)
  · have HNZ := hid (HNZ.out HR.out)
    by_cases hx : p.fl / 4 % 2 = 1
    · have a4 : bits .and .u64 (p.fl : Int) 4 = 4 := by have h := andP_yes (k := 2) hfl.out (by omega) (by simpa using hx); simpa using h
      have X4 := hid hx
      clear hx
      have HS : Hid (p.right = 8) := by
        unfold Hid PV.right
        rw [if_neg (by rw [HR.out]; decide), if_pos (.inl ⟨F1.out, .inl X4.out⟩)]
      go_wp2_with fail
      go_ret
      exact Ret.mk (by rw [HS.out]; rfl) (HE.out.trans e.h)
    have a4 : bits .and .u64 (p.fl : Int) 4 = 0 := by have h := andP_no (k := 2) hfl.out (by omega) (by have : p.fl / 4 % 2 = 0 := (by omega); simpa using this); simpa using h
    have X4 := hid hx
    clear hx
    by_cases hy : p.n ≤ p.o
    · have za : decide (p.n ≤ p.o) = true := decide_eq_true (by omega)
      have zb : (p.n ≤ p.o) = True := eq_true (by omega)
      have Y := hid hy
      clear hy
      have HS : Hid (p.right = 8) := by
        unfold Hid PV.right
        rw [if_neg (by rw [HR.out]; decide), if_pos (.inl ⟨F1.out, .inr Y.out⟩)]
      go_wp2_with fail
      go_ret
      exact Ret.mk (by rw [HS.out]; rfl) (HE.out.trans e.h)
    have za : decide (p.n ≤ p.o) = false := decide_eq_false (by omega)
    have zb : (p.n ≤ p.o) = False := eq_false (by omega)
    have G0 : Hid (¬ ((p.fl % 2 = 1 ∧ (p.fl / 4 % 2 = 1 ∨ p.n ≤ p.o)) ∨ (¬ p.fl % 2 = 1 ∧ (0 < p.o ∨ 0 < p.n)))) := by have := F1.out; have := X4.out; unfold Hid; omega
    clear hy
    go_upto_region 9 with fail
    by_cases hN : p.none
    · have n1 : p.s.sch = 1 := hN.1
      have n2 : p.s.name = [110, 111, 110, 101] := hN.2
      obtain ⟨n3, n4⟩ := HNZ.out hN
      rw [n1] at b6
      rw [n2] at b7
      rw [n3] at b8
      rw [n4] at b9
      clear n1 n2 n3 n4
      have HN := hid hN
      clear hN
      cases hT : TB with
      | true =>
        have XT : Hid (p.fl / 16384 % 2 = 1 ∨ p.fl / 262144 % 2 = 1) := HTB.out.1 hT
        subst hT
        refine wp_region_later (by kernel_rfl) (by kernel_rfl) ?_
        repeat (go_big_quiet_step ((go_at_call 31; exact Ret.later (eidNoneP_any _))))
        refine wpQuiet_nil ?_
        rintro _ ⟨e, rfl⟩
        have HS : Hid (p.right = 8) := by
          unfold Hid PV.right
          rw [if_neg (by rw [HR.out]; decide), if_neg (by have := G0.out; omega), if_pos (.inl ⟨XT.out, .inl HN.out⟩)]
        go_wp2_with fail
        go_ret
        exact Ret.mk (by rw [HS.out]; rfl) (HE.out.trans e.h)
      | false =>
        have XT : Hid (¬ (p.fl / 16384 % 2 = 1 ∨ p.fl / 262144 % 2 = 1)) := fun h => by have := HTB.out.2 h; rw [hT] at this; cases this
        subst hT
        refine wp_region_later (by kernel_rfl) (by kernel_rfl) ?_
        repeat (go_big_quiet_step ((go_at_call 31; exact Ret.later (eidNoneP_any _))))
        refine wpQuiet_nil ?_
        rintro _ ⟨e, rfl⟩
        have HS : Hid (p.right = 8) := by
          unfold Hid PV.right
          rw [if_neg (by rw [HR.out]; decide), if_neg (by have := G0.out; omega), if_pos (.inr ⟨HN.out, X4.out⟩)]
        go_wp2_with fail
        go_ret
        exact Ret.mk (by rw [HS.out]; rfl) (HE.out.trans e.h)
    · have HN := hid hN
      by_cases hS : p.s.sch = 1
      · have hM : ¬ p.s.name = [110, 111, 110, 101] := fun h => hN ⟨hS, h⟩
        rw [hS] at b6
        have ma : ((p.s.name) == ([110, 111, 110, 101])) = false := by rw [beq_eq_false_iff_ne]; exact hM
        have mb : ((p.s.name) = ([110, 111, 110, 101])) = False := eq_false (by exact hM)
        have mc : ((p.s.name) != ([110, 111, 110, 101])) = true := by rw [bne_iff_ne]; exact hM
        clear hM hS hN
        refine wp_region_later (by kernel_rfl) (by kernel_rfl) ?_
        repeat (go_big_quiet_step ((go_at_call 31; exact Ret.later (eidNoneP_any _))))
        refine wpQuiet_nil ?_
        rintro _ ⟨e, rfl⟩
        cases hT : TB with
        | true =>
          have XT : Hid (p.fl / 16384 % 2 = 1 ∨ p.fl / 262144 % 2 = 1) := HTB.out.1 hT
          subst hT
          by_cases hx : p.fl / 2 % 2 = 1
          · have a2 : bits .and .u64 (p.fl : Int) 2 = 2 := by have h := andP_yes (k := 1) hfl.out (by omega) (by simpa using hx); simpa using h
            have X2 := hid hx
            clear hx
            have HS : Hid (p.right = 8) := by
              unfold Hid PV.right
              rw [if_neg (by rw [HR.out]; decide), if_neg (by have := G0.out; omega), if_pos (.inl ⟨XT.out, .inr X2.out⟩)]
            go_wp2_with fail
            go_ret
            exact Ret.mk (by rw [HS.out]; rfl) (HE.out.trans e.h)
          · have a2 : bits .and .u64 (p.fl : Int) 2 = 0 := by have h := andP_no (k := 1) hfl.out (by omega) (by have : p.fl / 2 % 2 = 0 := (by omega); simpa using this); simpa using h
            have X2 := hid hx
            clear hx
            have HS : Hid (p.right = 0) := by
              unfold Hid PV.right
              rw [if_neg (by rw [HR.out]; decide), if_neg (by have := G0.out; omega), if_neg (fun h => h.elim (fun h => h.2.elim HN.out X2.out) (fun h => HN.out h.1))]
            go_wp2_with fail
            go_ret
            exact Ret.mk (by rw [HS.out]; rfl) (HE.out.trans e.h)
        | false =>
          have XT : Hid (¬ (p.fl / 16384 % 2 = 1 ∨ p.fl / 262144 % 2 = 1)) := fun h => by have := HTB.out.2 h; rw [hT] at this; cases this
          subst hT
          have HS : Hid (p.right = 0) := by
            unfold Hid PV.right
            rw [if_neg (by rw [HR.out]; decide), if_neg (by have := G0.out; omega), if_neg (fun h => h.elim (fun h => XT.out h.1) (fun h => HN.out h.1))]
          go_wp2_with fail
          go_ret
          exact Ret.mk (by rw [HS.out]; rfl) (HE.out.trans e.h)
      · have ma : ((p.s.sch) == (1)) = false := by rw [beq_eq_false_iff_ne]; omega
        have mb : ((p.s.sch) = (1)) = False := eq_false (by omega)
        have mc : ((p.s.sch) != (1)) = true := by rw [bne_iff_ne]; omega
        clear hS hN
        refine wp_region_later (by kernel_rfl) (by kernel_rfl) ?_
        repeat (go_big_quiet_step ((go_at_call 31; exact Ret.later (eidNoneP_any _))))
        refine wpQuiet_nil ?_
        rintro _ ⟨e, rfl⟩
        cases hT : TB with
        | true =>
          have XT : Hid (p.fl / 16384 % 2 = 1 ∨ p.fl / 262144 % 2 = 1) := HTB.out.1 hT
          subst hT
          by_cases hx : p.fl / 2 % 2 = 1
          · have a2 : bits .and .u64 (p.fl : Int) 2 = 2 := by have h := andP_yes (k := 1) hfl.out (by omega) (by simpa using hx); simpa using h
            have X2 := hid hx
            clear hx
            have HS : Hid (p.right = 8) := by
              unfold Hid PV.right
              rw [if_neg (by rw [HR.out]; decide), if_neg (by have := G0.out; omega), if_pos (.inl ⟨XT.out, .inr X2.out⟩)]
            go_wp2_with fail
            go_ret
            exact Ret.mk (by rw [HS.out]; rfl) (HE.out.trans e.h)
          · have a2 : bits .and .u64 (p.fl : Int) 2 = 0 := by have h := andP_no (k := 1) hfl.out (by omega) (by have : p.fl / 2 % 2 = 0 := (by omega); simpa using this); simpa using h
            have X2 := hid hx
            clear hx
            have HS : Hid (p.right = 0) := by
              unfold Hid PV.right
              rw [if_neg (by rw [HR.out]; decide), if_neg (by have := G0.out; omega), if_neg (fun h => h.elim (fun h => h.2.elim HN.out X2.out) (fun h => HN.out h.1))]
            go_wp2_with fail
            go_ret
            exact Ret.mk (by rw [HS.out]; rfl) (HE.out.trans e.h)
        | false =>
          have XT : Hid (¬ (p.fl / 16384 % 2 = 1 ∨ p.fl / 262144 % 2 = 1)) := fun h => by have := HTB.out.2 h; rw [hT] at this; cases this
          subst hT
          have HS : Hid (p.right = 0) := by
            unfold Hid PV.right
            rw [if_neg (by rw [HR.out]; decide), if_neg (by have := G0.out; omega), if_neg (fun h => h.elim (fun h => XT.out h.1) (fun h => HN.out h.1))]
          go_wp2_with fail
          go_ret
          exact Ret.mk (by rw [HS.out]; rfl) (HE.out.trans e.h)
  · have HS : Hid (p.right = 1) := by
      unfold Hid PV.right
      rw [if_pos HR.out]
    go_wp2_with fail
    go_ret
    exact Ret.mk (by rw [HS.out]; rfl) (HE.out.trans e.h)
  · have HNZ := hid (HNZ.out HR.out)
    by_cases hx : p.o = 0
    · by_cases hy : p.n = 0
      · have G0 : Hid (¬ ((p.fl % 2 = 1 ∧ (p.fl / 4 % 2 = 1 ∨ p.n ≤ p.o)) ∨ (¬ p.fl % 2 = 1 ∧ (0 < p.o ∨ 0 < p.n)))) := by have := F1.out; unfold Hid; omega
        rw [hx] at b17
        rw [hy] at b18
        clear hx hy
        go_upto_region 9 with fail
        by_cases hN : p.none
        · have n1 : p.s.sch = 1 := hN.1
          have n2 : p.s.name = [110, 111, 110, 101] := hN.2
          obtain ⟨n3, n4⟩ := HNZ.out hN
          rw [n1] at b6
          rw [n2] at b7
          rw [n3] at b8
          rw [n4] at b9
          clear n1 n2 n3 n4
          have HN := hid hN
          clear hN
          cases hT : TB with
          | true =>
            have XT : Hid (p.fl / 16384 % 2 = 1 ∨ p.fl / 262144 % 2 = 1) := HTB.out.1 hT
            subst hT
            refine wp_region_later (by kernel_rfl) (by kernel_rfl) ?_
            repeat (go_big_quiet_step ((go_at_call 31; exact Ret.later (eidNoneP_any _))))
            refine wpQuiet_nil ?_
            rintro _ ⟨e, rfl⟩
            have HS : Hid (p.right = 8) := by
              unfold Hid PV.right
              rw [if_neg (by rw [HR.out]; decide), if_neg (by have := G0.out; omega), if_pos (.inl ⟨XT.out, .inl HN.out⟩)]
            go_wp2_with fail
            go_ret
            exact Ret.mk (by rw [HS.out]; rfl) (HE.out.trans e.h)
          | false =>
            have XT : Hid (¬ (p.fl / 16384 % 2 = 1 ∨ p.fl / 262144 % 2 = 1)) := fun h => by have := HTB.out.2 h; rw [hT] at this; cases this
            subst hT
            by_cases hx : p.fl / 4 % 2 = 1
            · have a4 : bits .and .u64 (p.fl : Int) 4 = 4 := by have h := andP_yes (k := 2) hfl.out (by omega) (by simpa using hx); simpa using h
              have X4 := hid hx
              clear hx
              refine wp_region_later (by kernel_rfl) (by kernel_rfl) ?_
              repeat (go_big_quiet_step ((go_at_call 31; exact Ret.later (eidNoneP_any _))))
              refine wpQuiet_nil ?_
              rintro _ ⟨e, rfl⟩
              have HS : Hid (p.right = 0) := by
                unfold Hid PV.right
                rw [if_neg (by rw [HR.out]; decide), if_neg (by have := G0.out; omega), if_neg (fun h => h.elim (fun h => XT.out h.1) (fun h => h.2 X4.out))]
              go_wp2_with fail
              go_ret
              exact Ret.mk (by rw [HS.out]; rfl) (HE.out.trans e.h)
            · have a4 : bits .and .u64 (p.fl : Int) 4 = 0 := by have h := andP_no (k := 2) hfl.out (by omega) (by have : p.fl / 4 % 2 = 0 := (by omega); simpa using this); simpa using h
              have X4 := hid hx
              clear hx
              refine wp_region_later (by kernel_rfl) (by kernel_rfl) ?_
              repeat (go_big_quiet_step ((go_at_call 31; exact Ret.later (eidNoneP_any _))))
              refine wpQuiet_nil ?_
              rintro _ ⟨e, rfl⟩
              have HS : Hid (p.right = 8) := by
                unfold Hid PV.right
                rw [if_neg (by rw [HR.out]; decide), if_neg (by have := G0.out; omega), if_pos (.inr ⟨HN.out, X4.out⟩)]
              go_wp2_with fail
              go_ret
              exact Ret.mk (by rw [HS.out]; rfl) (HE.out.trans e.h)
        · have HN := hid hN
          by_cases hS : p.s.sch = 1
          · have hM : ¬ p.s.name = [110, 111, 110, 101] := fun h => hN ⟨hS, h⟩
            rw [hS] at b6
            have ma : ((p.s.name) == ([110, 111, 110, 101])) = false := by rw [beq_eq_false_iff_ne]; exact hM
            have mb : ((p.s.name) = ([110, 111, 110, 101])) = False := eq_false (by exact hM)
            have mc : ((p.s.name) != ([110, 111, 110, 101])) = true := by rw [bne_iff_ne]; exact hM
            clear hM hS hN
            refine wp_region_later (by kernel_rfl) (by kernel_rfl) ?_
            repeat (go_big_quiet_step ((go_at_call 31; exact Ret.later (eidNoneP_any _))))
            refine wpQuiet_nil ?_
            rintro _ ⟨e, rfl⟩
            cases hT : TB with
            | true =>
              have XT : Hid (p.fl / 16384 % 2 = 1 ∨ p.fl / 262144 % 2 = 1) := HTB.out.1 hT
              subst hT
              by_cases hx : p.fl / 2 % 2 = 1
              · have a2 : bits .and .u64 (p.fl : Int) 2 = 2 := by have h := andP_yes (k := 1) hfl.out (by omega) (by simpa using hx); simpa using h
                have X2 := hid hx
                clear hx
                have HS : Hid (p.right = 8) := by
                  unfold Hid PV.right
                  rw [if_neg (by rw [HR.out]; decide), if_neg (by have := G0.out; omega), if_pos (.inl ⟨XT.out, .inr X2.out⟩)]
                go_wp2_with fail
                go_ret
                exact Ret.mk (by rw [HS.out]; rfl) (HE.out.trans e.h)
              · have a2 : bits .and .u64 (p.fl : Int) 2 = 0 := by have h := andP_no (k := 1) hfl.out (by omega) (by have : p.fl / 2 % 2 = 0 := (by omega); simpa using this); simpa using h
                have X2 := hid hx
                clear hx
                have HS : Hid (p.right = 0) := by
                  unfold Hid PV.right
                  rw [if_neg (by rw [HR.out]; decide), if_neg (by have := G0.out; omega), if_neg (fun h => h.elim (fun h => h.2.elim HN.out X2.out) (fun h => HN.out h.1))]
                go_wp2_with fail
                go_ret
                exact Ret.mk (by rw [HS.out]; rfl) (HE.out.trans e.h)
            | false =>
              have XT : Hid (¬ (p.fl / 16384 % 2 = 1 ∨ p.fl / 262144 % 2 = 1)) := fun h => by have := HTB.out.2 h; rw [hT] at this; cases this
              subst hT
              have HS : Hid (p.right = 0) := by
                unfold Hid PV.right
                rw [if_neg (by rw [HR.out]; decide), if_neg (by have := G0.out; omega), if_neg (fun h => h.elim (fun h => XT.out h.1) (fun h => HN.out h.1))]
              go_wp2_with fail
              go_ret
              exact Ret.mk (by rw [HS.out]; rfl) (HE.out.trans e.h)
          · have ma : ((p.s.sch) == (1)) = false := by rw [beq_eq_false_iff_ne]; omega
            have mb : ((p.s.sch) = (1)) = False := eq_false (by omega)
            have mc : ((p.s.sch) != (1)) = true := by rw [bne_iff_ne]; omega
            clear hS hN
            refine wp_region_later (by kernel_rfl) (by kernel_rfl) ?_
            repeat (go_big_quiet_step ((go_at_call 31; exact Ret.later (eidNoneP_any _))))
            refine wpQuiet_nil ?_
            rintro _ ⟨e, rfl⟩
            cases hT : TB with
            | true =>
              have XT : Hid (p.fl / 16384 % 2 = 1 ∨ p.fl / 262144 % 2 = 1) := HTB.out.1 hT
              subst hT
              by_cases hx : p.fl / 2 % 2 = 1
              · have a2 : bits .and .u64 (p.fl : Int) 2 = 2 := by have h := andP_yes (k := 1) hfl.out (by omega) (by simpa using hx); simpa using h
                have X2 := hid hx
                clear hx
                have HS : Hid (p.right = 8) := by
                  unfold Hid PV.right
                  rw [if_neg (by rw [HR.out]; decide), if_neg (by have := G0.out; omega), if_pos (.inl ⟨XT.out, .inr X2.out⟩)]
                go_wp2_with fail
                go_ret
                exact Ret.mk (by rw [HS.out]; rfl) (HE.out.trans e.h)
              · have a2 : bits .and .u64 (p.fl : Int) 2 = 0 := by have h := andP_no (k := 1) hfl.out (by omega) (by have : p.fl / 2 % 2 = 0 := (by omega); simpa using this); simpa using h
                have X2 := hid hx
                clear hx
                have HS : Hid (p.right = 0) := by
                  unfold Hid PV.right
                  rw [if_neg (by rw [HR.out]; decide), if_neg (by have := G0.out; omega), if_neg (fun h => h.elim (fun h => h.2.elim HN.out X2.out) (fun h => HN.out h.1))]
                go_wp2_with fail
                go_ret
                exact Ret.mk (by rw [HS.out]; rfl) (HE.out.trans e.h)
            | false =>
              have XT : Hid (¬ (p.fl / 16384 % 2 = 1 ∨ p.fl / 262144 % 2 = 1)) := fun h => by have := HTB.out.2 h; rw [hT] at this; cases this
              subst hT
              have HS : Hid (p.right = 0) := by
                unfold Hid PV.right
                rw [if_neg (by rw [HR.out]; decide), if_neg (by have := G0.out; omega), if_neg (fun h => h.elim (fun h => XT.out h.1) (fun h => HN.out h.1))]
              go_wp2_with fail
              go_ret
              exact Ret.mk (by rw [HS.out]; rfl) (HE.out.trans e.h)
      · have Y := hid hy
        rw [hx] at b17
        have ga : (((p.n : Int)) == (0)) = false := by rw [beq_eq_false_iff_ne]; omega
        have gb : (((p.n : Int)) = (0)) = False := eq_false (by omega)
        have gc : (((p.n : Int)) != (0)) = true := by rw [bne_iff_ne]; omega
        have ha : decide (p.n = 0) = false := decide_eq_false (by omega)
        have hb : (p.n = 0) = False := eq_false (by omega)
        clear hx hy
        have HS : Hid (p.right = 8) := by
          unfold Hid PV.right
          rw [if_neg (by rw [HR.out]; decide), if_pos (.inr ⟨F1.out, by have := Y.out; omega⟩)]
        go_wp2_with fail
        go_ret
        exact Ret.mk (by rw [HS.out]; rfl) (HE.out.trans e.h)
    · have Y := hid hx
      have ga : (((p.o : Int)) == (0)) = false := by rw [beq_eq_false_iff_ne]; omega
      have gb : (((p.o : Int)) = (0)) = False := eq_false (by omega)
      have gc : (((p.o : Int)) != (0)) = true := by rw [bne_iff_ne]; omega
      have ha : decide (p.o = 0) = false := decide_eq_false (by omega)
      have hb : (p.o = 0) = False := eq_false (by omega)
      clear hx
      have HS : Hid (p.right = 8) := by
        unfold Hid PV.right
        rw [if_neg (by rw [HR.out]; decide), if_pos (.inr ⟨F1.out, by have := Y.out; omega⟩)]
      go_wp2_with fail
      go_ret
      exact Ret.mk (by rw [HS.out]; rfl) (HE.out.trans e.h)
end Go.Proofs.Ytcajjhmldghakaa
