/-
  The law's edited behind Put, Set and Drop.
  The layer's own awake.
  The law BundleEdits, walked.
-/
import Derived.Test.YtkeabdfgacicaaaGreatMBundleEditsg

namespace Go.Proofs.YtkeabdfgacicaaaGreat
open Go.RowKit
set_option linter.unusedVariables false
set_option linter.unusedSimpArgs false

theorem one_BsL {w : World} {vb : Nat} {x : BV} (hv : Blk w vb 31 (BV.c x)) : BsL w (some ⟨vb, 0, none⟩) 1 (fun _ => x) := fun _ => ⟨vb, 0, rfl, hv.lt, fun j hj => by
  obtain rfl : j = 0 := by omega
  exact ⟨hv.cell 0, hv.cell 1, hv.cell 2, hv.cell 3, hv.cell 4⟩⟩
theorem one_SlA (vb : Nat) : SlA (some ⟨vb, 0, none⟩) 1 1 := ⟨fun h => (by cases h), Nat.le_refl _, by unfold maxLen; omega⟩
theorem set_with (bs : Nat → BV) (k i : Nat) (x : BV) (hi : i < k) : ∀ j, j < k → setAt bs i x j = withB bs i 1 1 (fun _ => x) j := fun j hj => by
  unfold withB catB setAt
  by_cases c0 : j = i
  · subst c0; rw [if_pos rfl, if_pos (by omega), if_neg (by omega)]
  · by_cases c1 : j < i
    · rw [if_neg c0, if_pos (by omega), if_pos c1]
    · rw [if_neg c0, if_neg (by omega)]
      show bs j = bs (i + 1 + (j - (i + 1)))
      rw [show i + 1 + (j - (i + 1)) = j by omega]
theorem del_with (bs : Nat → BV) (k i : Nat) (hi : i < k) : ∀ j, j < k - 1 → delB bs i j = withB bs i 1 0 (fun _ => zeroB) j := fun j hj => by
  unfold withB catB delB
  by_cases c1 : j < i
  · rw [if_pos c1, if_pos (by omega), if_pos c1]
  · rw [if_neg c1, if_neg (by omega)]
    show bs (j + 1) = bs (i + 1 + (j - (i + 0)))
    rw [show i + 1 + (j - (i + 0)) = j + 1 by omega]
theorem ed_put (p : PV) (bs : Nat → BV) (k c : Nat) (A : Option Addr) (x : BV) (hf : p.fl < 18446744073709551616) (hk : k ≤ 1000) (hS : SlA A k c) (hd : ∀ j, j < k → (bs j).data.length ≤ 100000) (hx : x.data.length ≤ 100000) (w : World) (zc : Array Value) (r : Int) (vb : Nat) (hrel : EdRel w (decide (0 < k)) 8 p (insB bs (k - 1) x) (k + 1) zc r) (hL : BsL w A k bs) (hv : Blk w vb 31 (BV.c x)) :
    Calls Tryz.prog 11 #[bunV p A k c, .bool (decide (0 < k)), .int .i64 ((k - 1 : Nat) : Int), .int .i64 0, .slice (some ⟨vb, 0, none⟩) 1 1, .agg zc, .int .i64 r, .int .i64 8] w (Ret (.bool true) w) := by
  have hi := fun hm : decide (0 < k) = true => ins_with bs k x (by simpa using hm)
  refine edited_rel p k c A (k - 1) 0 1 1 _ (decide (0 < k)) 8 (insB bs (k - 1) x) (if 0 < k then withB bs (k - 1) 0 1 (fun _ => x) else insB bs (k - 1) x) (k + 1) zc r hf (by omega) w hrel (fun hm W hW => ?_) (fun j hj => ?_) (fun j hj => ?_)
  · have h0 : 0 < k := by simpa using hm
    rw [if_pos h0]
    refine (With_some p bs k c A hS (k - 1) 0 (by omega) 1 1 _ (fun _ => x) (one_SlA vb) h0 (by omega) (by omega) W (hL.ext hW) (one_BsL (hv.ext hW))).mono fun e w' ⟨A', c', h1, h2, h3, _⟩ => ⟨_, A', c', ?_, rfl, h2, ?_⟩
    · rw [h1, show k - 1 + 1 + (k - (k - 1 + 0)) = k + 1 by omega]
    · rw [show k - 1 + 1 + (k - (k - 1 + 0)) = k + 1 by omega] at h3; exact h3
  · by_cases h0 : 0 < k
    · rw [if_pos h0]; exact (ins_with bs k x h0 j hj).symm
    · rw [if_neg h0]
  · have : (insB bs (k - 1) x j).data.length ≤ 100000 := by
      unfold insB
      split
      · exact hd j (by omega)
      · split
        · exact hx
        · exact hd _ (by omega)
    by_cases h0 : 0 < k
    · rw [if_pos h0, ins_with bs k x h0 j hj]; exact this
    · rw [if_neg h0]; exact this
theorem ed_set (p : PV) (bs : Nat → BV) (k c : Nat) (A : Option Addr) (x : BV) (hf : p.fl < 18446744073709551616) (hk : k ≤ 1000) (hS : SlA A k c) (hd : ∀ j, j < k → (bs j).data.length ≤ 100000) (hx : x.data.length ≤ 100000) (o : Option Nat) (ho : firstOf (numB bs x.num) k = o) (w : World) (zc : Array Value) (r : Int) (vb : Nat) (hrel : EdRel w o.isSome 15 p (setAt bs (o.getD 0) x) k zc r) (hL : BsL w A k bs) (hv : Blk w vb 31 (BV.c x)) :
    Calls Tryz.prog 11 #[bunV p A k c, .bool o.isSome, .int .i64 ((o.getD 0 : Nat) : Int), .int .i64 1, .slice (some ⟨vb, 0, none⟩) 1 1, .agg zc, .int .i64 r, .int .i64 15] w (Ret (.bool true) w) := by
  have hdd : ∀ j, j < k → (setAt bs (o.getD 0) x j).data.length ≤ 100000 := fun j hj => by
    unfold setAt
    split
    · exact hx
    · exact hd j hj
  cases o with
  | none => exact edited_rel p k c A 0 1 1 1 _ false 15 (setAt bs 0 x) (setAt bs 0 x) k zc r hf (by omega) w hrel (fun hm => by cases hm) (fun _ _ => rfl) hdd
  | some i =>
    have hi := (firstOf_spec ho).1
    refine edited_rel p k c A i 1 1 1 _ true 15 (setAt bs i x) (withB bs i 1 1 (fun _ => x)) k zc r hf (by omega) w hrel (fun hm W hW => ?_) (set_with bs k i x hi) (fun j hj => by rw [← set_with bs k i x hi j hj]; exact hdd j hj)
    refine (With_some p bs k c A hS i 1 (by omega) 1 1 _ (fun _ => x) (one_SlA vb) (by omega) (by omega) (by omega) W (hL.ext hW) (one_BsL (hv.ext hW))).mono fun e w' ⟨A', c', h1, h2, h3, _⟩ => ⟨_, A', c', ?_, rfl, h2, ?_⟩
    · rw [h1, show i + 1 + (k - (i + 1)) = k by omega]
    · rw [show i + 1 + (k - (i + 1)) = k by omega] at h3; exact h3
theorem ed_drop (p : PV) (bs : Nat → BV) (k c : Nat) (A : Option Addr) (n : Int) (hf : p.fl < 18446744073709551616) (hk : k ≤ 1000) (hS : SlA A k c) (hd : ∀ j, j < k → (bs j).data.length ≤ 100000) (o : Option Nat) (ho : firstOf (numB bs n) k = o) (w : World) (zc : Array Value) (r : Int) (hrel : EdRel w o.isSome 15 p (delB bs (o.getD 0)) (k - 1) zc r) (hL : BsL w A k bs) :
    Calls Tryz.prog 11 #[bunV p A k c, .bool o.isSome, .int .i64 ((o.getD 0 : Nat) : Int), .int .i64 1, .slice none 0 0, .agg zc, .int .i64 r, .int .i64 15] w (Ret (.bool true) w) := by
  have hdd : ∀ j, j < k - 1 → (delB bs (o.getD 0) j).data.length ≤ 100000 := fun j hj => by
    unfold delB
    split
    · exact hd j (by omega)
    · exact hd _ (by omega)
  cases o with
  | none => exact edited_rel p k c A 0 1 0 0 none false 15 (delB bs 0) (delB bs 0) (k - 1) zc r hf (by omega) w hrel (fun hm => by cases hm) (fun _ _ => rfl) hdd
  | some i =>
    have hi := (firstOf_spec ho).1
    refine edited_rel p k c A i 1 0 0 none true 15 (delB bs i) (withB bs i 1 0 (fun _ => zeroB)) (k - 1) zc r hf (by omega) w hrel (fun hm W hW => ?_) (del_with bs k i hi) (fun j hj => by rw [← del_with bs k i hi j hj]; exact hdd j hj)
    refine (With_some p bs k c A hS i 1 (by omega) 0 0 none (fun _ => zeroB) ⟨fun _ => ⟨rfl, rfl⟩, Nat.le_refl _, Nat.zero_le _⟩ (by omega) (by omega) (by omega) W (hL.ext hW) (fun h => by omega)).mono fun e w' ⟨A', c', h1, h2, h3, _⟩ => ⟨_, A', c', ?_, rfl, h2, ?_⟩
    · rw [h1, show i + 0 + (k - (i + 1)) = k - 1 by omega]
    · rw [show i + 0 + (k - (i + 1)) = k - 1 by omega] at h3; exact h3
end Go.Proofs.YtkeabdfgacicaaaGreat


namespace Go.Proofs.YtkeabdfgacicaaaGreat
open Go.RowKit
set_option linter.unusedVariables false
set_option linter.unusedSimpArgs false

theorem someBun : bunRight someP someB 1 = 0 ∧ (bunBytes someP someB 1).length = 32 := by decide +kernel
theorem someFree : freeN someB 1 = 2 := freeN_eq (by omega) (by decide +kernel) (fun j h1 h2 => by omega)
set_option maxRecDepth 20000 in
theorem awake13_any (w : World) : Calls Tryz.prog 5 #[] w (Ret (.bool true) w) := by
  have KS := hid (fun W => some_any W)
  have KB : Hid (∀ W g, BsL W (some ⟨g, 0, none⟩) 1 someB → Calls Tryz.prog 15 #[bunV someP (some ⟨g, 0, none⟩) 1 1] W (Ret (.tuple #[str (bunBytes someP someB 1), .int .i64 0]) W)) := fun W g hL => by
    have := cBunBuild_any someP someB 1 1 (some ⟨g, 0, none⟩) (by unfold Hid; decide) (by decide) (by omega) W hL
    unfold madeV at this
    rw [someBun.1, if_pos rfl] at this
    exact this
  have KF : Hid (∀ W g, BsL W (some ⟨g, 0, none⟩) 1 someB → Calls Tryz.prog 18 #[bunV someP (some ⟨g, 0, none⟩) 1 1] W (Ret (.int .i64 2) W)) := fun W g hL => by
    have := Free_any someP someB 1 1 (some ⟨g, 0, none⟩) (by omega) W hL
    rw [someFree] at this
    exact this
  have hl := someBun.2
  generalize bunBytes someP someB 1 = B at *
  have l1 : ((B.length : Int) == 32) = true := by rw [hl]; rfl
  have l2 : ((B.length : Int) = 32) = True := by rw [hl]; simp
  have l3 : (B.length = 32) = True := by rw [hl]; simp
  clear hl
  go_enter Tryz.func5, Tryz.ntmps5
  go_upto_region 2 with (first | (go_at_call 17; refine (KS.out _).mono ?_; rintro x w2 ⟨g, rfl, hx, hL⟩) | (go_at_call 15; refine (KB.out _ _ hL).mono ?_; rintro x w3 ⟨rfl, h3⟩))
  go_wp2_with (first | (go_at_call 17; refine (KS.out _).mono ?_; rintro x w4 ⟨g4, rfl, hx4, hL4⟩) | (go_at_call 18; refine (KF.out _ _ hL4).mono ?_; rintro x w5 ⟨rfl, h5⟩))
  go_ret
  exact Ret.mk rfl (((hx.trans h3).trans hx4).trans h5)
end Go.Proofs.YtkeabdfgacicaaaGreat


namespace Go.Proofs.YtkeabdfgacicaaaGreat
open Go.RowKit
set_option linter.unusedVariables false
set_option linter.unusedSimpArgs false

theorem few_names3 {p : PV} (h : p.few = true) : p.d.name.length < 4611686018427387904 ∧ p.s.name.length < 4611686018427387904 ∧ p.r.name.length < 4611686018427387904 := by
  unfold PV.few at h
  simp only [Bool.and_eq_true, decide_eq_true_eq] at h
  omega
set_option maxRecDepth 20000 in
set_option maxHeartbeats 1600000 in
theorem edits_few (p : PV) (x : BV) (n : Int) (bs : Nat → BV) (k c : Nat) (A : Option Addr) (hf : p.fl < 18446744073709551616) (hk : k < 4611686018427387904) (hF : bunFew p bs k = false) (w : World) (h : BsL w A k bs) : Calls Tryz.prog 3 #[bunV p A k c, x.v, .int .i64 n] w (Ret (.bool true) w) := by
  have KA := hid (fun W => awake13_any W)
  have KF := hid (fun W (hW : BsL W A k bs) => few13_any p bs k c A hk W hW)
  rw [hF] at KF
  clear hF
  have HE := hid (((Mod.refl [] w).alloc (.cells (bunC p A k c) 29)).alloc (.cells (BV.c x) 31))
  have HB0 : Hid (Blk ((w.alloc (.cells (bunC p A k c) 29)).alloc (.cells (BV.c x) 31)) w.heap.size 29 (bunC p A k c)) := hid ((Blk.new w 29 (bunC p A k c)).alloc (.cells (BV.c x) 31))
  have HB1 : Hid (Blk ((w.alloc (.cells (bunC p A k c) 29)).alloc (.cells (BV.c x) 31)) (w.heap.size + 1) 31 (BV.c x)) := by unfold Hid; exact Blk.newL _ _ _ (by simp)
  have HL := hid (BsL.ext h HE.out)
  clear h hf hk
  go_enter Tryz.func3, Tryz.ntmps3
  go_upto_region 1 with fail
  generalize ((w.alloc (.cells (bunC p A k c) 29)).alloc (.cells (BV.c x) 31)) = V at *
  have d4 : ∀ e : Later V, e.x.cell? ⟨w.heap.size + 1, 4, none⟩ = some (str x.data) := HB1.out.cellL 4 rfl
  obtain ⟨e, he⟩ := Later.self V
  rw [he]
  clear he
  go_wp2_with (first | (go_at_call 5; refine (Ret.later (KA.out _)).mono ?_; rintro x _ ⟨rfl, e, rfl⟩) | (go_at_call 6; refine (Ret.later (KF.out _ (HL.out.ext (Later.h _)))).mono ?_; rintro x _ ⟨rfl, e, rfl⟩) | (refine wpList_row (by rfl) 29 _ rfl _ rfl (HB0.out.later _) Tryz.underlying29 rfl (by kernel_rfl) ?_))
  go_ret
  exact Ret.mk rfl (HE.out.trans e.h)
set_option maxRecDepth 20000 in
set_option maxHeartbeats 1600000 in
theorem edits_long (p : PV) (x : BV) (n : Int) (bs : Nat → BV) (k c : Nat) (A : Option Addr) (hf : p.fl < 18446744073709551616) (hk : k < 4611686018427387904) (hF : bunFew p bs k = true) (hdat : ¬ x.data.length ≤ 4100) (w : World) (h : BsL w A k bs) : Calls Tryz.prog 3 #[bunV p A k c, x.v, .int .i64 n] w (Ret (.bool true) w) := by
  have KA := hid (fun W => awake13_any W)
  have KF := hid (fun W (hW : BsL W A k bs) => few13_any p bs k c A hk W hW)
  rw [hF] at KF
  clear hF
  have la : decide (4100 < x.data.length) = true := decide_eq_true (by omega)
  have lb : (4100 < x.data.length) = True := eq_true (by omega)
  have lc : decide ((4100 : Int) < (x.data.length : Int)) = true := decide_eq_true (by omega)
  clear hdat
  have HE := hid (((Mod.refl [] w).alloc (.cells (bunC p A k c) 29)).alloc (.cells (BV.c x) 31))
  have HB0 : Hid (Blk ((w.alloc (.cells (bunC p A k c) 29)).alloc (.cells (BV.c x) 31)) w.heap.size 29 (bunC p A k c)) := hid ((Blk.new w 29 (bunC p A k c)).alloc (.cells (BV.c x) 31))
  have HB1 : Hid (Blk ((w.alloc (.cells (bunC p A k c) 29)).alloc (.cells (BV.c x) 31)) (w.heap.size + 1) 31 (BV.c x)) := by unfold Hid; exact Blk.newL _ _ _ (by simp)
  have HL := hid (BsL.ext h HE.out)
  clear h hf hk
  go_enter Tryz.func3, Tryz.ntmps3
  go_upto_region 1 with fail
  generalize ((w.alloc (.cells (bunC p A k c) 29)).alloc (.cells (BV.c x) 31)) = V at *
  have d4 : ∀ e : Later V, e.x.cell? ⟨w.heap.size + 1, 4, none⟩ = some (str x.data) := HB1.out.cellL 4 rfl
  obtain ⟨e, he⟩ := Later.self V
  rw [he]
  clear he
  go_wp2_with (first | (go_at_call 5; refine (Ret.later (KA.out _)).mono ?_; rintro x _ ⟨rfl, e, rfl⟩) | (go_at_call 6; refine (Ret.later (KF.out _ (HL.out.ext (Later.h _)))).mono ?_; rintro x _ ⟨rfl, e, rfl⟩) | (refine wpList_row (by rfl) 29 _ rfl _ rfl (HB0.out.later _) Tryz.underlying29 rfl (by kernel_rfl) ?_))
  go_ret
  exact Ret.mk rfl (HE.out.trans e.h)
set_option maxRecDepth 20000 in
set_option maxHeartbeats 8000000 in
theorem edits_ok (p : PV) (x : BV) (n : Int) (bs : Nat → BV) (k c : Nat) (A : Option Addr) (hf : p.fl < 18446744073709551616) (hk : k < 4611686018427387904) (hS : SlA A k c) (hF : bunFew p bs k = true) (hdat : x.data.length ≤ 4100) (w : World) (h : BsL w A k bs) : Calls Tryz.prog 3 #[bunV p A k c, x.v, .int .i64 n] w (Ret (.bool true) w) := by
  have KA := hid (fun W => awake13_any W)
  have KF := hid (fun W (hW : BsL W A k bs) => few13_any p bs k c A hk W hW)
  rw [hF] at KF
  have hk20 : k ≤ 20 := (bunFew_spec hF).1
  have hd : ∀ j, j < k → (bs j).data.length ≤ 100000 := fun j hj => by have := (bunFew_spec hF).2.2 j hj; omega
  have hnl : Hid (p.d.name.length < 4611686018427387904 ∧ p.s.name.length < 4611686018427387904 ∧ p.r.name.length < 4611686018427387904) := few_names3 (bunFew_spec hF).2.1
  obtain ⟨o1, ho1⟩ : ∃ o, firstOf (numB bs x.num) k = o := ⟨_, rfl⟩
  obtain ⟨o2, ho2⟩ : ∃ o, firstOf (numB bs n) k = o := ⟨_, rfl⟩
  have KW : Hid (∀ W, BsL W A k bs → Calls Tryz.prog 7 #[bunV p A k c, .int .i64 0, .int .i64 0, .slice none 0 0] W (fun e w' => ∃ zc, e = .returned (.agg zc) ∧ Ext W w' ∧ ∃ A' c', zc = bunC p A' k c' ∧ BsL w' A' k bs)) := fun W hW => (With_same p bs k c A hS (by omega) W hW).mono fun e w' ⟨zc, A', c', h1, h2, h3, h4⟩ => ⟨zc, h1, h3, A', c', h2, h4⟩
  have KP : Hid (∀ W, BsL W A k bs → Calls Tryz.prog 8 #[bunV p A k c, x.v] W (fun e w' => ∃ zc r, e = .returned (.tuple #[.agg zc, .int .i64 r]) ∧ Ext W w' ∧ EdRel w' (decide (0 < k)) 8 p (insB bs (k - 1) x) (k + 1) zc r)) := fun W hW => Put_rel p bs k c A x hnl hf (by omega) W hW
  have KS : Hid (∀ W, BsL W A k bs → Calls Tryz.prog 9 #[bunV p A k c, x.v] W (fun e w' => ∃ zc r, e = .returned (.tuple #[.agg zc, .int .i64 r]) ∧ Ext W w' ∧ EdRel w' o1.isSome 15 p (setAt bs (o1.getD 0) x) k zc r)) := fun W hW => by have := Set_rel p bs k c A x hnl hf (by omega) W hW; rw [ho1] at this; exact this
  have KD : Hid (∀ W, BsL W A k bs → Calls Tryz.prog 10 #[bunV p A k c, .int .i64 n] W (fun e w' => ∃ zc r, e = .returned (.tuple #[.agg zc, .int .i64 r]) ∧ Ext W w' ∧ EdRel w' o2.isSome 15 p (delB bs (o2.getD 0)) (k - 1) zc r)) := fun W hW => by have := Drop_rel p bs k c A hnl hf (by omega) n W hW; rw [ho2] at this; exact this
  have KE1 : Hid (∀ W zc r vb b I, EdRel W (decide (0 < k)) 8 p (insB bs (k - 1) x) (k + 1) zc r → BsL W A k bs → Blk W vb 31 (BV.c x) → b = decide (0 < k) → I = ((k - 1 : Nat) : Int) → Calls Tryz.prog 11 #[bunV p A k c, .bool b, .int .i64 I, .int .i64 0, .slice (some ⟨vb, 0, none⟩) 1 1, .agg zc, .int .i64 r, .int .i64 8] W (Ret (.bool true) W)) := fun W zc r vb b I hr hL hv hb hI => by
    rw [hb, hI]; exact ed_put p bs k c A x hf (by omega) hS hd (by omega) W zc r vb hr hL hv
  have KE2 : Hid (∀ W zc r vb b I, EdRel W o1.isSome 15 p (setAt bs (o1.getD 0) x) k zc r → BsL W A k bs → Blk W vb 31 (BV.c x) → b = o1.isSome → I = ((o1.getD 0 : Nat) : Int) → Calls Tryz.prog 11 #[bunV p A k c, .bool b, .int .i64 I, .int .i64 1, .slice (some ⟨vb, 0, none⟩) 1 1, .agg zc, .int .i64 r, .int .i64 15] W (Ret (.bool true) W)) := fun W zc r vb b I hr hL hv hb hI => by
    rw [hb, hI]; exact ed_set p bs k c A x hf (by omega) hS hd (by omega) o1 ho1 W zc r vb hr hL hv
  have KE3 : Hid (∀ W zc r b I, EdRel W o2.isSome 15 p (delB bs (o2.getD 0)) (k - 1) zc r → BsL W A k bs → b = o2.isSome → I = ((o2.getD 0 : Nat) : Int) → Calls Tryz.prog 11 #[bunV p A k c, .bool b, .int .i64 I, .int .i64 1, .slice none 0 0, .agg zc, .int .i64 r, .int .i64 15] W (Ret (.bool true) W)) := fun W zc r b I hr hL hb hI => by
    rw [hb, hI]; exact ed_drop p bs k c A n hf (by omega) hS hd o2 ho2 W zc r hr hL
  have KM : Hid (∀ W zc, BsL W A k bs → (∃ A' c', zc = bunC p A' k c' ∧ BsL W A' k bs) → Calls Tryz.prog 13 #[bunV p A k c, .agg zc] W (Ret (.bool true) W)) := fun W zc hL ⟨A', c', hz, h2⟩ => by
    rw [hz]; exact Same_eq p bs bs k c c' A A' hk (fun _ _ => rfl) W hL h2
  have KX1 := hid (fun W (hW : BsL W A k bs) => At13_any p bs k c A x.num hk W hW)
  have KX2 := hid (fun W (hW : BsL W A k bs) => At13_any p bs k c A n hk W hW)
  have hI : ∀ (f : Nat → Bool) (o : Option Nat), firstOf f k = o → (firstI f k = -1 ∧ o = none) ∨ ∃ i : Nat, firstI f k = (i : Int) ∧ o = some i := fun f o ho => by
    unfold firstI
    rw [ho]
    cases o with
    | none => exact .inl ⟨rfl, rfl⟩
    | some i => exact .inr ⟨i, rfl, rfl⟩
  have HF1 := hid (hI _ _ ho1)
  have HF2 := hid (hI _ _ ho2)
  generalize firstI (numB bs x.num) k = F1 at *
  generalize firstI (numB bs n) k = F2 at *
  clear hI ho1 ho2
  have la : decide (4100 < x.data.length) = false := decide_eq_false (by omega)
  have lb : (4100 < x.data.length) = False := eq_false (by omega)
  have lc : decide ((4100 : Int) < (x.data.length : Int)) = false := decide_eq_false (by omega)
  have HI : Hid (∀ (A1 : Option Addr) (k1 c1 : Nat), (Tryz.prog.info? 29).map (·.size) = some (bunC p A1 k1 c1).size ∧ (bunC p A1 k1 c1).all (·.oneCell') = true ∧ (bunC p A1 k1 c1).size = 20) := hid (fun A1 k1 c1 => ⟨by kernel_rfl, by simp [Value.oneCell'], rfl⟩)
  have HE := hid (((Mod.refl [] w).alloc (.cells (bunC p A k c) 29)).alloc (.cells (BV.c x) 31))
  have HB0 : Hid (Blk ((w.alloc (.cells (bunC p A k c) 29)).alloc (.cells (BV.c x) 31)) w.heap.size 29 (bunC p A k c)) := hid ((Blk.new w 29 (bunC p A k c)).alloc (.cells (BV.c x) 31))
  have HB1 : Hid (Blk ((w.alloc (.cells (bunC p A k c) 29)).alloc (.cells (BV.c x) 31)) (w.heap.size + 1) 31 (BV.c x)) := by unfold Hid; exact Blk.newL _ _ _ (by simp)
  have HL := hid (BsL.ext h HE.out)
  have HK20 := hid hk20
  clear h hf hk hF hdat hnl hd hS hk20
  go_enter Tryz.func3, Tryz.ntmps3
  go_upto_region 1 with fail
  generalize ((w.alloc (.cells (bunC p A k c) 29)).alloc (.cells (BV.c x) 31)) = V at *
  have d4 : ∀ e : Later V, e.x.cell? ⟨w.heap.size + 1, 4, none⟩ = some (str x.data) := HB1.out.cellL 4 rfl
  obtain ⟨e, he⟩ := Later.self V
  rw [he]
  clear he
  go_upto_region 3 with (first | (go_at_call 5; refine (Ret.later (KA.out _)).mono ?_; rintro x _ ⟨rfl, e, rfl⟩) | (go_at_call 6; refine (Ret.later (KF.out _ (HL.out.ext (Later.h _)))).mono ?_; rintro x _ ⟨rfl, e, rfl⟩) | (refine wpList_row (by rfl) 29 _ rfl _ rfl (HB0.out.later _) Tryz.underlying29 rfl (by kernel_rfl) ?_))
  have HE00 := HE
  have HB0_0 := HB0
  have HB1_0 := HB1
  have HL_0 := HL
  clear HE HB0 HB1 HL KA KF d4 la lb lc
  go_upto_region 4 with (first | (refine wpList_row (by rfl) 29 _ rfl _ rfl (HB0_0.out.later _) Tryz.underlying29 rfl (by kernel_rfl) ?_) | (refine wpList_row (by rfl) 31 _ rfl _ rfl (HB1_0.out.later _) Tryz.underlying31 rfl (by kernel_rfl) ?_) | (go_at_call 7; refine (KW.out _ (HL_0.out.ext (Later.h _))).mono ?_; rintro y w1 ⟨z1, rfl, hE, hR⟩; have HEw := hid (e.h.trans hE); have HR1 := hid hR; have HZ1 : Hid ((Tryz.prog.info? 29).map (·.size) = some z1.size ∧ z1.all (·.oneCell') = true ∧ z1.size = 20) := hid (by obtain ⟨A1, c1, hz, _⟩ := hR; rw [hz]; exact HI.out _ _ _); clear hE hR) | (refine wpList_store_mid rfl 29 _ _ rfl w1.heap.size 0 z1 (by rfl) (by rfl) ((Blk.new _ _ _).there (by rw [HZ1.out.2.2]; exact Nat.le_refl 20)) HZ1.out.1 HZ1.out.2.1 ?_))
  generalize hZ : World.setCells _ _ _ _ = V1
  have HC1 : Hid (Blk V1 w1.heap.size 29 z1) := hid (by rw [← hZ]; exact setCells_all (ds := z1) (Blk.new _ _ _) (by rw [Array.length_toList, HZ1.out.2.2]; rfl))
  have HZU : Hid (Ext V V1) := hid (by rw [← hZ]; exact setCells_mod _ _ (HEw.out.alloc _) (.inr HEw.out.size))
  have HZw : Hid (Ext w1 V1) := hid (by rw [← hZ]; exact setCells_mod _ _ ((Mod.refl [] w1).alloc _) (.inr (Nat.le_refl _)))
  have HB0_1 := hid (HB0_0.out.ext HZU.out)
  have HB1_1 := hid (HB1_0.out.ext HZU.out)
  have HL_1 := hid (HL_0.out.ext HZU.out)
  have HE1 := hid (HE00.out.trans HZU.out)
  have HR1 : Hid (∃ A' c', z1 = bunC p A' k c' ∧ BsL V1 A' k bs) := hid (by obtain ⟨A1, c1, hz, hl⟩ := HR1.out; exact ⟨A1, c1, hz, hl.ext HZw.out⟩)
  clear hZ HB0_0 HB1_0 HL_0 HEw HZU HZw KW e
  generalize w1.heap.size = C1 at *
  obtain ⟨e1, he⟩ := Later.self V1
  rw [he]
  clear he
  go_upto_region 5 with (first | (refine wpList_row (by rfl) 29 _ rfl _ rfl (HB0_1.out.later _) Tryz.underlying29 rfl (by kernel_rfl) ?_) | (refine wpList_row (by rfl) 31 _ rfl _ rfl (HB1_1.out.later _) Tryz.underlying31 rfl (by kernel_rfl) ?_) | (go_at_call 8; refine (KP.out _ (HL_1.out.ext (Later.h _))).mono ?_; rintro y w2 ⟨z2, r2, rfl, hE, hR⟩; have HEw := hid (e1.h.trans hE); have HR2 := hid hR; have HZ2 : Hid ((Tryz.prog.info? 29).map (·.size) = some z2.size ∧ z2.all (·.oneCell') = true ∧ z2.size = 20) := hid (hR.cells); clear hE hR) | (refine wpList_store_mid rfl 29 _ _ rfl w2.heap.size 0 z2 (by rfl) (by rfl) ((Blk.new _ _ _).there (by rw [HZ2.out.2.2]; exact Nat.le_refl 20)) HZ2.out.1 HZ2.out.2.1 ?_))
  generalize hZ : World.setCells _ _ _ _ = V2
  have HC2 : Hid (Blk V2 w2.heap.size 29 z2) := hid (by rw [← hZ]; exact setCells_all (ds := z2) (Blk.new _ _ _) (by rw [Array.length_toList, HZ2.out.2.2]; rfl))
  have HZU : Hid (Ext V1 V2) := hid (by rw [← hZ]; exact setCells_mod _ _ (HEw.out.alloc _) (.inr HEw.out.size))
  have HZw : Hid (Ext w2 V2) := hid (by rw [← hZ]; exact setCells_mod _ _ ((Mod.refl [] w2).alloc _) (.inr (Nat.le_refl _)))
  have HB0_2 := hid (HB0_1.out.ext HZU.out)
  have HB1_2 := hid (HB1_1.out.ext HZU.out)
  have HL_2 := hid (HL_1.out.ext HZU.out)
  have HE2 := hid (HE1.out.trans HZU.out)
  have HC1 := hid (HC1.out.ext HZU.out)
  have HR1 : Hid (∃ A' c', z1 = bunC p A' k c' ∧ BsL V2 A' k bs) := hid (by obtain ⟨A1, c1, hz, hl⟩ := HR1.out; exact ⟨A1, c1, hz, hl.ext HZU.out⟩)
  have HR2 := hid (HR2.out.ext HZw.out)
  clear hZ HB0_1 HB1_1 HL_1 HEw HZU HZw KP e1
  generalize w2.heap.size = C2 at *
  obtain ⟨e2, he⟩ := Later.self V2
  rw [he]
  clear he
  go_upto_region 6 with (first | (refine wpList_row (by rfl) 29 _ rfl _ rfl (HB0_2.out.later _) Tryz.underlying29 rfl (by kernel_rfl) ?_) | (refine wpList_row (by rfl) 31 _ rfl _ rfl (HB1_2.out.later _) Tryz.underlying31 rfl (by kernel_rfl) ?_) | (go_at_call 9; refine (KS.out _ (HL_2.out.ext (Later.h _))).mono ?_; rintro y w3 ⟨z3, r3, rfl, hE, hR⟩; have HEw := hid (e2.h.trans hE); have HR3 := hid hR; have HZ3 : Hid ((Tryz.prog.info? 29).map (·.size) = some z3.size ∧ z3.all (·.oneCell') = true ∧ z3.size = 20) := hid (hR.cells); clear hE hR) | (refine wpList_store_mid rfl 29 _ _ rfl w3.heap.size 0 z3 (by rfl) (by rfl) ((Blk.new _ _ _).there (by rw [HZ3.out.2.2]; exact Nat.le_refl 20)) HZ3.out.1 HZ3.out.2.1 ?_))
  generalize hZ : World.setCells _ _ _ _ = V3
  have HC3 : Hid (Blk V3 w3.heap.size 29 z3) := hid (by rw [← hZ]; exact setCells_all (ds := z3) (Blk.new _ _ _) (by rw [Array.length_toList, HZ3.out.2.2]; rfl))
  have HZU : Hid (Ext V2 V3) := hid (by rw [← hZ]; exact setCells_mod _ _ (HEw.out.alloc _) (.inr HEw.out.size))
  have HZw : Hid (Ext w3 V3) := hid (by rw [← hZ]; exact setCells_mod _ _ ((Mod.refl [] w3).alloc _) (.inr (Nat.le_refl _)))
  have HB0_3 := hid (HB0_2.out.ext HZU.out)
  have HB1_3 := hid (HB1_2.out.ext HZU.out)
  have HL_3 := hid (HL_2.out.ext HZU.out)
  have HE3 := hid (HE2.out.trans HZU.out)
  have HC1 := hid (HC1.out.ext HZU.out)
  have HR1 : Hid (∃ A' c', z1 = bunC p A' k c' ∧ BsL V3 A' k bs) := hid (by obtain ⟨A1, c1, hz, hl⟩ := HR1.out; exact ⟨A1, c1, hz, hl.ext HZU.out⟩)
  have HC2 := hid (HC2.out.ext HZU.out)
  have HR2 := hid (HR2.out.ext HZU.out)
  have HR3 := hid (HR3.out.ext HZw.out)
  clear hZ HB0_2 HB1_2 HL_2 HEw HZU HZw KS e2
  generalize w3.heap.size = C3 at *
  obtain ⟨e3, he⟩ := Later.self V3
  rw [he]
  clear he
  go_upto_region 7 with (first | (refine wpList_row (by rfl) 29 _ rfl _ rfl (HB0_3.out.later _) Tryz.underlying29 rfl (by kernel_rfl) ?_) | (refine wpList_row (by rfl) 31 _ rfl _ rfl (HB1_3.out.later _) Tryz.underlying31 rfl (by kernel_rfl) ?_) | (go_at_call 10; refine (KD.out _ (HL_3.out.ext (Later.h _))).mono ?_; rintro y w4 ⟨z4, r4, rfl, hE, hR⟩; have HEw := hid (e3.h.trans hE); have HR4 := hid hR; have HZ4 : Hid ((Tryz.prog.info? 29).map (·.size) = some z4.size ∧ z4.all (·.oneCell') = true ∧ z4.size = 20) := hid (hR.cells); clear hE hR) | (refine wpList_store_mid rfl 29 _ _ rfl w4.heap.size 0 z4 (by rfl) (by rfl) ((Blk.new _ _ _).there (by rw [HZ4.out.2.2]; exact Nat.le_refl 20)) HZ4.out.1 HZ4.out.2.1 ?_))
  generalize hZ : World.setCells _ _ _ _ = V4
  have HC4 : Hid (Blk V4 w4.heap.size 29 z4) := hid (by rw [← hZ]; exact setCells_all (ds := z4) (Blk.new _ _ _) (by rw [Array.length_toList, HZ4.out.2.2]; rfl))
  have HZU : Hid (Ext V3 V4) := hid (by rw [← hZ]; exact setCells_mod _ _ (HEw.out.alloc _) (.inr HEw.out.size))
  have HZw : Hid (Ext w4 V4) := hid (by rw [← hZ]; exact setCells_mod _ _ ((Mod.refl [] w4).alloc _) (.inr (Nat.le_refl _)))
  have HB0_4 := hid (HB0_3.out.ext HZU.out)
  have HB1_4 := hid (HB1_3.out.ext HZU.out)
  have HL_4 := hid (HL_3.out.ext HZU.out)
  have HE4 := hid (HE3.out.trans HZU.out)
  have HC1 := hid (HC1.out.ext HZU.out)
  have HR1 : Hid (∃ A' c', z1 = bunC p A' k c' ∧ BsL V4 A' k bs) := hid (by obtain ⟨A1, c1, hz, hl⟩ := HR1.out; exact ⟨A1, c1, hz, hl.ext HZU.out⟩)
  have HC2 := hid (HC2.out.ext HZU.out)
  have HR2 := hid (HR2.out.ext HZU.out)
  have HC3 := hid (HC3.out.ext HZU.out)
  have HR3 := hid (HR3.out.ext HZU.out)
  have HR4 := hid (HR4.out.ext HZw.out)
  clear hZ HB0_3 HB1_3 HL_3 HEw HZU HZw KD e3
  generalize w4.heap.size = C4 at *
  obtain ⟨e4, he⟩ := Later.self V4
  rw [he]
  clear he
  have HB19 : Hid (∀ W, Ext V4 W → W.cell? ⟨w.heap.size, 19, none⟩ = some (.slice A k c)) := hid (fun W hW => (HB0_4.out.ext hW).cell 19)
  have HXN : Hid (∀ W, Ext V4 W → W.cell? ⟨w.heap.size + 1, 1, none⟩ = some (.int .i64 x.num)) := hid (fun W hW => (HB1_4.out.ext hW).cell 1)
  have kk0 : (0 : Int) ≤ (k : Int) := by omega
  have kk1 : (k : Int) ≤ 20 := by have := HK20.out; omega
  refine wp_region_held_drew (S := fun w' => Ext V4 w') (by kernel_rfl) e4.h.drew (fun hHeld => ?_)
  refine wpAnyH_take (i := 0) rfl (by kernel_rfl) (by kernel_rfl) (by kernel_rfl) (fun _ _ _ h => h) (yieldsIf_row (by rfl) 29 _ rfl _ rfl (fun W h => HB0_4.out.ext h) Tryz.underlying29 rfl (by kernel_rfl)) hHeld ?_
  (try simp only [Act.put, List.getElem_toArray, List.getElem_cons_zero, List.getElem_cons_succ, List.setIfInBounds_toArray, List.set_cons_zero, List.set_cons_succ])
  refine' wpAnyH_take (i := 1) (v := _) rfl (by kernel_rfl) (by kernel_rfl) (by kernel_rfl) (fun _ _ _ h => h) (Or.inl ⟨by rfl, ?hy1⟩) hHeld ?rest1
  case hy1 => (rintro W hM; go_simp; (try with_reducible rfl))
  case rest1 =>
  (try simp only [Act.put, List.getElem_toArray, List.getElem_cons_zero, List.getElem_cons_succ, List.setIfInBounds_toArray, List.set_cons_zero, List.set_cons_succ])
  refine' wpAnyH_take (i := 2) (v := _) rfl (by kernel_rfl) (by kernel_rfl) (by kernel_rfl) (fun _ _ _ h => h) (Or.inl ⟨by rfl, ?hy2⟩) hHeld ?rest2
  case hy2 => (rintro W hM; have x1 := HB19.out W hM; go_simp; (try with_reducible rfl))
  case rest2 =>
  (try simp only [Act.put, List.getElem_toArray, List.getElem_cons_zero, List.getElem_cons_succ, List.setIfInBounds_toArray, List.set_cons_zero, List.set_cons_succ])
  refine' wpAnyH_take (i := 3) (v := _) rfl (by kernel_rfl) (by kernel_rfl) (by kernel_rfl) (fun _ _ _ h => h) (Or.inl ⟨by rfl, ?hy3⟩) hHeld ?rest3
  case hy3 => (rintro W hM; go_simp; (try with_reducible rfl))
  case rest3 =>
  (try simp only [Act.put, List.getElem_toArray, List.getElem_cons_zero, List.getElem_cons_succ, List.setIfInBounds_toArray, List.set_cons_zero, List.set_cons_succ])
  refine' wpAnyH_take (i := 4) (v := _) rfl (by kernel_rfl) (by kernel_rfl) (by kernel_rfl) (fun _ _ _ h => h) (Or.inl ⟨by rfl, ?hy4⟩) hHeld ?rest4
  case hy4 => (rintro W hM; go_simp; (try with_reducible rfl))
  case rest4 =>
  (try simp only [Act.put, List.getElem_toArray, List.getElem_cons_zero, List.getElem_cons_succ, List.setIfInBounds_toArray, List.set_cons_zero, List.set_cons_succ])
  refine' wpAnyH_take (i := 5) (v := _) rfl (by kernel_rfl) (by kernel_rfl) (by kernel_rfl) (fun _ _ _ h => h) (Or.inl ⟨by rfl, ?hy5⟩) hHeld ?rest5
  case hy5 => (rintro W hM; go_simp; (try with_reducible rfl))
  case rest5 =>
  (try simp only [Act.put, List.getElem_toArray, List.getElem_cons_zero, List.getElem_cons_succ, List.setIfInBounds_toArray, List.set_cons_zero, List.set_cons_succ])
  refine' wpAnyH_take (i := 6) (v := _) rfl (by kernel_rfl) (by kernel_rfl) (by kernel_rfl) (fun _ _ _ h => h) (Or.inl ⟨by rfl, ?hy6⟩) hHeld ?rest6
  case hy6 => (rintro W hM; have x1 := HB19.out W hM; go_simp; (try with_reducible rfl))
  case rest6 =>
  (try simp only [Act.put, List.getElem_toArray, List.getElem_cons_zero, List.getElem_cons_succ, List.setIfInBounds_toArray, List.set_cons_zero, List.set_cons_succ])
  refine' wpAnyH_take (i := 7) (v := _) rfl (by kernel_rfl) (by kernel_rfl) (by kernel_rfl) (fun _ _ _ h => h) (Or.inl ⟨by rfl, ?hy7⟩) hHeld ?rest7
  case hy7 => (rintro W hM; go_simp; (try with_reducible rfl))
  case rest7 =>
  (try simp only [Act.put, List.getElem_toArray, List.getElem_cons_zero, List.getElem_cons_succ, List.setIfInBounds_toArray, List.set_cons_zero, List.set_cons_succ])
  refine' wpAnyH_take (i := 8) (v := _) rfl (by kernel_rfl) (by kernel_rfl) (by kernel_rfl) (fun _ _ _ h => h) (Or.inl ⟨by rfl, ?hy8⟩) hHeld ?rest8
  case hy8 => (rintro W hM; go_simp; (try with_reducible rfl))
  case rest8 =>
  (try simp only [Act.put, List.getElem_toArray, List.getElem_cons_zero, List.getElem_cons_succ, List.setIfInBounds_toArray, List.set_cons_zero, List.set_cons_succ])
  refine' wpAnyH_take (i := 9) (v := _) rfl (by kernel_rfl) (by kernel_rfl) (by kernel_rfl) (fun _ _ _ h => h) (Or.inl ⟨by rfl, ?hy9⟩) hHeld ?rest9
  case hy9 => (rintro W hM; go_simp; (try with_reducible rfl))
  case rest9 =>
  (try simp only [Act.put, List.getElem_toArray, List.getElem_cons_zero, List.getElem_cons_succ, List.setIfInBounds_toArray, List.set_cons_zero, List.set_cons_succ])
  refine wpAnyH_take (i := 10) rfl (by kernel_rfl) (by kernel_rfl) (by kernel_rfl) (fun _ _ _ h => h) (yieldsIf_row (by rfl) 31 _ rfl _ rfl (fun W h => HB1_4.out.ext h) Tryz.underlying31 rfl (by kernel_rfl)) hHeld ?_
  (try simp only [Act.put, List.getElem_toArray, List.getElem_cons_zero, List.getElem_cons_succ, List.setIfInBounds_toArray, List.set_cons_zero, List.set_cons_succ])
  refine wpAnyH_take (i := 12) rfl (by kernel_rfl) (by kernel_rfl) (by kernel_rfl) (fun _ _ _ h => h) (yieldsIf_row (by rfl) 29 _ rfl _ rfl (fun W h => HC2.out.ext h) Tryz.underlying29 rfl (HZ2.out.1)) hHeld ?_
  (try simp only [Act.put, List.getElem_toArray, List.getElem_cons_zero, List.getElem_cons_succ, List.setIfInBounds_toArray, List.set_cons_zero, List.set_cons_succ])
  refine' wpAnyH_take (i := 13) (v := _) rfl (by kernel_rfl) (by kernel_rfl) (by kernel_rfl) (fun _ _ _ h => h) (Or.inl ⟨by rfl, ?hy10⟩) hHeld ?rest10
  case hy10 => (rintro W hM; go_simp; (try with_reducible rfl))
  case rest10 =>
  (try simp only [Act.put, List.getElem_toArray, List.getElem_cons_zero, List.getElem_cons_succ, List.setIfInBounds_toArray, List.set_cons_zero, List.set_cons_succ])
  refine wpAnyH_ready (rs := [11]) (by kernel_rfl) (by simp) ?_
  refine AllReadyH.cons rfl (fun K hK => ?_) AllReadyH.nil
  have hv := Blk.new e4.x.drew 31 (BV.c x)
  go_simp
  
  refine hK.out _ _ (hHeld.alloc _) (fun hHeld => ?_)
  clear hK K
  (try simp only [Act.put, List.getElem_toArray, List.getElem_cons_zero, List.getElem_cons_succ, List.setIfInBounds_toArray, List.set_cons_zero, List.set_cons_succ])
  refine wpAnyH_ready (rs := [14]) (by kernel_rfl) (by simp) ?_
  refine AllReadyH.cons rfl (fun K hK => ?_) AllReadyH.nil
  go_simp
  (go_at_call 11; refine (KE1.out _ z2 r2 _ _ _ (HR2.out.ext hHeld) (HL_4.out.ext hHeld) hv (by first | rfl | (simp; done) | (apply decide_eq_decide.2; omega)) (by first | rfl | (rw [IntWalk.i64_in _ (by omega)]; omega) | omega)).mono ?_; rintro y v ⟨rfl, hb⟩)
  refine hK.out _ _ (hHeld.trans hb) (fun hHeld => ?_)
  clear hK K
  (try simp only [Act.put, List.getElem_toArray, List.getElem_cons_zero, List.getElem_cons_succ, List.setIfInBounds_toArray, List.set_cons_zero, List.set_cons_succ])
  refine' wpAnyH_take (i := 15) (v := _) rfl (by kernel_rfl) (by kernel_rfl) (by kernel_rfl) (fun _ _ _ h => h) (Or.inl ⟨by rfl, ?hy11⟩) hHeld ?rest11
  case hy11 => (rintro W hM; go_simp; (try with_reducible rfl))
  case rest11 =>
  (try simp only [Act.put, List.getElem_toArray, List.getElem_cons_zero, List.getElem_cons_succ, List.setIfInBounds_toArray, List.set_cons_zero, List.set_cons_succ])
  refine wpAnyH_take (i := 16) rfl (by kernel_rfl) (by kernel_rfl) (by kernel_rfl) (fun _ _ _ h => h) (yieldsIf_row (by rfl) 29 _ rfl _ rfl (fun W h => HB0_4.out.ext h) Tryz.underlying29 rfl (by kernel_rfl)) hHeld ?_
  (try simp only [Act.put, List.getElem_toArray, List.getElem_cons_zero, List.getElem_cons_succ, List.setIfInBounds_toArray, List.set_cons_zero, List.set_cons_succ])
  refine wpAnyH_take (i := 17) rfl (by kernel_rfl) (by kernel_rfl) (by kernel_rfl) (fun _ _ _ h => h) (yieldsIf_row (by rfl) 29 _ rfl _ rfl (fun W h => HB0_4.out.ext h) Tryz.underlying29 rfl (by kernel_rfl)) hHeld ?_
  (try simp only [Act.put, List.getElem_toArray, List.getElem_cons_zero, List.getElem_cons_succ, List.setIfInBounds_toArray, List.set_cons_zero, List.set_cons_succ])
  refine' wpAnyH_take (i := 18) (v := _) rfl (by kernel_rfl) (by kernel_rfl) (by kernel_rfl) (fun _ _ _ h => h) (Or.inl ⟨by rfl, ?hy12⟩) hHeld ?rest12
  case hy12 => (rintro W hM; go_simp; (try with_reducible rfl))
  case rest12 =>
  (try simp only [Act.put, List.getElem_toArray, List.getElem_cons_zero, List.getElem_cons_succ, List.setIfInBounds_toArray, List.set_cons_zero, List.set_cons_succ])
  refine' wpAnyH_take (i := 19) (v := _) rfl (by kernel_rfl) (by kernel_rfl) (by kernel_rfl) (fun _ _ _ h => h) (Or.inl ⟨by rfl, ?hy13⟩) hHeld ?rest13
  case hy13 => (rintro W hM; have x1 := HXN.out W hM; go_simp; (try with_reducible rfl))
  case rest13 =>
  (try simp only [Act.put, List.getElem_toArray, List.getElem_cons_zero, List.getElem_cons_succ, List.setIfInBounds_toArray, List.set_cons_zero, List.set_cons_succ])
  refine wpAnyH_take (i := 22) rfl (by kernel_rfl) (by kernel_rfl) (by kernel_rfl) (fun _ _ _ h => h) (yieldsIf_row (by rfl) 29 _ rfl _ rfl (fun W h => HB0_4.out.ext h) Tryz.underlying29 rfl (by kernel_rfl)) hHeld ?_
  (try simp only [Act.put, List.getElem_toArray, List.getElem_cons_zero, List.getElem_cons_succ, List.setIfInBounds_toArray, List.set_cons_zero, List.set_cons_succ])
  refine' wpAnyH_take (i := 23) (v := _) rfl (by kernel_rfl) (by kernel_rfl) (by kernel_rfl) (fun _ _ _ h => h) (Or.inl ⟨by rfl, ?hy14⟩) hHeld ?rest14
  case hy14 => (rintro W hM; go_simp; (try with_reducible rfl))
  case rest14 =>
  (try simp only [Act.put, List.getElem_toArray, List.getElem_cons_zero, List.getElem_cons_succ, List.setIfInBounds_toArray, List.set_cons_zero, List.set_cons_succ])
  refine' wpAnyH_take (i := 24) (v := _) rfl (by kernel_rfl) (by kernel_rfl) (by kernel_rfl) (fun _ _ _ h => h) (Or.inl ⟨by rfl, ?hy15⟩) hHeld ?rest15
  case hy15 => (rintro W hM; have x1 := HXN.out W hM; go_simp; (try with_reducible rfl))
  case rest15 =>
  (try simp only [Act.put, List.getElem_toArray, List.getElem_cons_zero, List.getElem_cons_succ, List.setIfInBounds_toArray, List.set_cons_zero, List.set_cons_succ])
  refine wpAnyH_take (i := 27) rfl (by kernel_rfl) (by kernel_rfl) (by kernel_rfl) (fun _ _ _ h => h) (yieldsIf_row (by rfl) 31 _ rfl _ rfl (fun W h => HB1_4.out.ext h) Tryz.underlying31 rfl (by kernel_rfl)) hHeld ?_
  (try simp only [Act.put, List.getElem_toArray, List.getElem_cons_zero, List.getElem_cons_succ, List.setIfInBounds_toArray, List.set_cons_zero, List.set_cons_succ])
  refine wpAnyH_take (i := 29) rfl (by kernel_rfl) (by kernel_rfl) (by kernel_rfl) (fun _ _ _ h => h) (yieldsIf_row (by rfl) 29 _ rfl _ rfl (fun W h => HC3.out.ext h) Tryz.underlying29 rfl (HZ3.out.1)) hHeld ?_
  (try simp only [Act.put, List.getElem_toArray, List.getElem_cons_zero, List.getElem_cons_succ, List.setIfInBounds_toArray, List.set_cons_zero, List.set_cons_succ])
  refine' wpAnyH_take (i := 30) (v := _) rfl (by kernel_rfl) (by kernel_rfl) (by kernel_rfl) (fun _ _ _ h => h) (Or.inl ⟨by rfl, ?hy16⟩) hHeld ?rest16
  case hy16 => (rintro W hM; go_simp; (try with_reducible rfl))
  case rest16 =>
  (try simp only [Act.put, List.getElem_toArray, List.getElem_cons_zero, List.getElem_cons_succ, List.setIfInBounds_toArray, List.set_cons_zero, List.set_cons_succ])
  clear hv
  refine wpAnyH_ready (rs := [20, 28]) (by kernel_rfl) (by simp) ?_
  refine AllReadyH.cons rfl (fun K hK => ?_) (AllReadyH.cons rfl (fun K hK => ?_) AllReadyH.nil)
  · go_simp
    (go_at_call 12; refine (KX1.out _ (HL_4.out.ext hHeld)).mono ?_; rintro y v ⟨rfl, hb⟩)
    refine hK.out _ _ (hHeld.trans hb) (fun hHeld => ?_)
    clear hK K
    (try simp only [Act.put, List.getElem_toArray, List.getElem_cons_zero, List.getElem_cons_succ, List.setIfInBounds_toArray, List.set_cons_zero, List.set_cons_succ])
    refine' wpAnyH_take (i := 21) (v := _) rfl (by kernel_rfl) (by kernel_rfl) (by kernel_rfl) (fun _ _ _ h => h) (Or.inl ⟨by rfl, ?hy17⟩) hHeld ?rest17
    case hy17 => (rintro W hM; go_simp; (try with_reducible rfl))
    case rest17 =>
    (try simp only [Act.put, List.getElem_toArray, List.getElem_cons_zero, List.getElem_cons_succ, List.setIfInBounds_toArray, List.set_cons_zero, List.set_cons_succ])
    refine wpAnyH_ready (rs := [25, 28]) (by kernel_rfl) (by simp) ?_
    refine AllReadyH.cons rfl (fun K hK => ?_) (AllReadyH.cons rfl (fun K hK => ?_) AllReadyH.nil)
    · go_simp
      (go_at_call 12; refine (KX1.out _ (HL_4.out.ext hHeld)).mono ?_; rintro y v ⟨rfl, hb⟩)
      refine hK.out _ _ (hHeld.trans hb) (fun hHeld => ?_)
      clear hK K
      (try simp only [Act.put, List.getElem_toArray, List.getElem_cons_zero, List.getElem_cons_succ, List.setIfInBounds_toArray, List.set_cons_zero, List.set_cons_succ])
      refine' wpAnyH_take (i := 26) (v := _) rfl (by kernel_rfl) (by kernel_rfl) (by kernel_rfl) (fun _ _ _ h => h) (Or.inl ⟨by rfl, ?hy18⟩) hHeld ?rest18
      case hy18 => (rintro W hM; go_simp; (try with_reducible rfl))
      case rest18 =>
      (try simp only [Act.put, List.getElem_toArray, List.getElem_cons_zero, List.getElem_cons_succ, List.setIfInBounds_toArray, List.set_cons_zero, List.set_cons_succ])
      refine wpAnyH_ready (rs := [28]) (by kernel_rfl) (by simp) ?_
      refine AllReadyH.cons rfl (fun K hK => ?_) AllReadyH.nil
      have hv := Blk.new v 31 (BV.c x)
      go_simp
      
      refine hK.out _ _ (hHeld.alloc _) (fun hHeld => ?_)
      clear hK K
      (try simp only [Act.put, List.getElem_toArray, List.getElem_cons_zero, List.getElem_cons_succ, List.setIfInBounds_toArray, List.set_cons_zero, List.set_cons_succ])
      refine wpAnyH_ready (rs := [31]) (by kernel_rfl) (by simp) ?_
      refine AllReadyH.cons rfl (fun K hK => ?_) AllReadyH.nil
      go_simp
      (go_at_call 11; refine (KE2.out _ z3 r3 _ _ _ (HR3.out.ext hHeld) (HL_4.out.ext hHeld) hv (by rcases HF1.out with ⟨e1, e2⟩ | ⟨i, e1, e2⟩ <;> rw [e1, e2] <;> simp) (by rcases HF1.out with ⟨e1, e2⟩ | ⟨i, e1, e2⟩ <;> rw [e1, e2] <;> first | (simp; done) | (simp; decide))).mono ?_; rintro y v ⟨rfl, hb⟩)
      refine hK.out _ _ (hHeld.trans hb) (fun hHeld => ?_)
      clear hK K
      (try simp only [Act.put, List.getElem_toArray, List.getElem_cons_zero, List.getElem_cons_succ, List.setIfInBounds_toArray, List.set_cons_zero, List.set_cons_succ])
      refine' wpAnyH_take (i := 32) (v := _) rfl (by kernel_rfl) (by kernel_rfl) (by kernel_rfl) (fun _ _ _ h => h) (Or.inl ⟨by rfl, ?hy19⟩) hHeld ?rest19
      case hy19 => (rintro W hM; go_simp; (try with_reducible rfl))
      case rest19 =>
      (try simp only [Act.put, List.getElem_toArray, List.getElem_cons_zero, List.getElem_cons_succ, List.setIfInBounds_toArray, List.set_cons_zero, List.set_cons_succ])
      refine' wpAnyH_take (i := 33) (v := _) rfl (by kernel_rfl) (by kernel_rfl) (by kernel_rfl) (fun _ _ _ h => h) (Or.inl ⟨by rfl, ?hy20⟩) hHeld ?rest20
      case hy20 => (rintro W hM; go_simp; (try with_reducible rfl))
      case rest20 =>
      (try simp only [Act.put, List.getElem_toArray, List.getElem_cons_zero, List.getElem_cons_succ, List.setIfInBounds_toArray, List.set_cons_zero, List.set_cons_succ])
      refine wpAnyH_take (i := 34) rfl (by kernel_rfl) (by kernel_rfl) (by kernel_rfl) (fun _ _ _ h => h) (yieldsIf_row (by rfl) 29 _ rfl _ rfl (fun W h => HB0_4.out.ext h) Tryz.underlying29 rfl (by kernel_rfl)) hHeld ?_
      (try simp only [Act.put, List.getElem_toArray, List.getElem_cons_zero, List.getElem_cons_succ, List.setIfInBounds_toArray, List.set_cons_zero, List.set_cons_succ])
      refine wpAnyH_take (i := 35) rfl (by kernel_rfl) (by kernel_rfl) (by kernel_rfl) (fun _ _ _ h => h) (yieldsIf_row (by rfl) 29 _ rfl _ rfl (fun W h => HB0_4.out.ext h) Tryz.underlying29 rfl (by kernel_rfl)) hHeld ?_
      (try simp only [Act.put, List.getElem_toArray, List.getElem_cons_zero, List.getElem_cons_succ, List.setIfInBounds_toArray, List.set_cons_zero, List.set_cons_succ])
      refine' wpAnyH_take (i := 36) (v := _) rfl (by kernel_rfl) (by kernel_rfl) (by kernel_rfl) (fun _ _ _ h => h) (Or.inl ⟨by rfl, ?hy21⟩) hHeld ?rest21
      case hy21 => (rintro W hM; go_simp; (try with_reducible rfl))
      case rest21 =>
      (try simp only [Act.put, List.getElem_toArray, List.getElem_cons_zero, List.getElem_cons_succ, List.setIfInBounds_toArray, List.set_cons_zero, List.set_cons_succ])
      refine wpAnyH_take (i := 39) rfl (by kernel_rfl) (by kernel_rfl) (by kernel_rfl) (fun _ _ _ h => h) (yieldsIf_row (by rfl) 29 _ rfl _ rfl (fun W h => HB0_4.out.ext h) Tryz.underlying29 rfl (by kernel_rfl)) hHeld ?_
      (try simp only [Act.put, List.getElem_toArray, List.getElem_cons_zero, List.getElem_cons_succ, List.setIfInBounds_toArray, List.set_cons_zero, List.set_cons_succ])
      refine' wpAnyH_take (i := 40) (v := _) rfl (by kernel_rfl) (by kernel_rfl) (by kernel_rfl) (fun _ _ _ h => h) (Or.inl ⟨by rfl, ?hy22⟩) hHeld ?rest22
      case hy22 => (rintro W hM; go_simp; (try with_reducible rfl))
      case rest22 =>
      (try simp only [Act.put, List.getElem_toArray, List.getElem_cons_zero, List.getElem_cons_succ, List.setIfInBounds_toArray, List.set_cons_zero, List.set_cons_succ])
      refine wpAnyH_take (i := 43) rfl (by kernel_rfl) (by kernel_rfl) (by kernel_rfl) (fun _ _ _ h => h) (yieldsIf_row (by rfl) 29 _ rfl _ rfl (fun W h => HC4.out.ext h) Tryz.underlying29 rfl (HZ4.out.1)) hHeld ?_
      (try simp only [Act.put, List.getElem_toArray, List.getElem_cons_zero, List.getElem_cons_succ, List.setIfInBounds_toArray, List.set_cons_zero, List.set_cons_succ])
      refine' wpAnyH_take (i := 44) (v := _) rfl (by kernel_rfl) (by kernel_rfl) (by kernel_rfl) (fun _ _ _ h => h) (Or.inl ⟨by rfl, ?hy23⟩) hHeld ?rest23
      case hy23 => (rintro W hM; go_simp; (try with_reducible rfl))
      case rest23 =>
      (try simp only [Act.put, List.getElem_toArray, List.getElem_cons_zero, List.getElem_cons_succ, List.setIfInBounds_toArray, List.set_cons_zero, List.set_cons_succ])
      refine wpAnyH_ready (rs := [37]) (by kernel_rfl) (by simp) ?_
      refine AllReadyH.cons rfl (fun K hK => ?_) AllReadyH.nil
      go_simp
      (go_at_call 12; refine (KX2.out _ (HL_4.out.ext hHeld)).mono ?_; rintro y v ⟨rfl, hb⟩)
      refine hK.out _ _ (hHeld.trans hb) (fun hHeld => ?_)
      clear hK K
      (try simp only [Act.put, List.getElem_toArray, List.getElem_cons_zero, List.getElem_cons_succ, List.setIfInBounds_toArray, List.set_cons_zero, List.set_cons_succ])
      refine' wpAnyH_take (i := 38) (v := _) rfl (by kernel_rfl) (by kernel_rfl) (by kernel_rfl) (fun _ _ _ h => h) (Or.inl ⟨by rfl, ?hy24⟩) hHeld ?rest24
      case hy24 => (rintro W hM; go_simp; (try with_reducible rfl))
      case rest24 =>
      (try simp only [Act.put, List.getElem_toArray, List.getElem_cons_zero, List.getElem_cons_succ, List.setIfInBounds_toArray, List.set_cons_zero, List.set_cons_succ])
      refine wpAnyH_ready (rs := [41]) (by kernel_rfl) (by simp) ?_
      refine AllReadyH.cons rfl (fun K hK => ?_) AllReadyH.nil
      go_simp
      (go_at_call 12; refine (KX2.out _ (HL_4.out.ext hHeld)).mono ?_; rintro y v ⟨rfl, hb⟩)
      refine hK.out _ _ (hHeld.trans hb) (fun hHeld => ?_)
      clear hK K
      (try simp only [Act.put, List.getElem_toArray, List.getElem_cons_zero, List.getElem_cons_succ, List.setIfInBounds_toArray, List.set_cons_zero, List.set_cons_succ])
      refine' wpAnyH_take (i := 42) (v := _) rfl (by kernel_rfl) (by kernel_rfl) (by kernel_rfl) (fun _ _ _ h => h) (Or.inl ⟨by rfl, ?hy25⟩) hHeld ?rest25
      case hy25 => (rintro W hM; go_simp; (try with_reducible rfl))
      case rest25 =>
      (try simp only [Act.put, List.getElem_toArray, List.getElem_cons_zero, List.getElem_cons_succ, List.setIfInBounds_toArray, List.set_cons_zero, List.set_cons_succ])
      refine wpAnyH_ready (rs := [45]) (by kernel_rfl) (by simp) ?_
      refine AllReadyH.cons rfl (fun K hK => ?_) AllReadyH.nil
      go_simp
      (go_at_call 11; refine (KE3.out _ z4 r4 _ _ (HR4.out.ext hHeld) (HL_4.out.ext hHeld) (by rcases HF2.out with ⟨e1, e2⟩ | ⟨i, e1, e2⟩ <;> rw [e1, e2] <;> simp) (by rcases HF2.out with ⟨e1, e2⟩ | ⟨i, e1, e2⟩ <;> rw [e1, e2] <;> first | (simp; done) | (simp; decide))).mono ?_; rintro y v ⟨rfl, hb⟩)
      refine hK.out _ _ (hHeld.trans hb) (fun hHeld => ?_)
      clear hK K
      (try simp only [Act.put, List.getElem_toArray, List.getElem_cons_zero, List.getElem_cons_succ, List.setIfInBounds_toArray, List.set_cons_zero, List.set_cons_succ])
      refine' wpAnyH_take (i := 46) (v := _) rfl (by kernel_rfl) (by kernel_rfl) (by kernel_rfl) (fun _ _ _ h => h) (Or.inl ⟨by rfl, ?hy26⟩) hHeld ?rest26
      case hy26 => (rintro W hM; go_simp; (try with_reducible rfl))
      case rest26 =>
      (try simp only [Act.put, List.getElem_toArray, List.getElem_cons_zero, List.getElem_cons_succ, List.setIfInBounds_toArray, List.set_cons_zero, List.set_cons_succ])
      refine' wpAnyH_take (i := 47) (v := _) rfl (by kernel_rfl) (by kernel_rfl) (by kernel_rfl) (fun _ _ _ h => h) (Or.inl ⟨by rfl, ?hy27⟩) hHeld ?rest27
      case hy27 => (rintro W hM; go_simp; (try with_reducible rfl))
      case rest27 =>
      (try simp only [Act.put, List.getElem_toArray, List.getElem_cons_zero, List.getElem_cons_succ, List.setIfInBounds_toArray, List.set_cons_zero, List.set_cons_succ])
      refine wpAnyH_take (i := 48) rfl (by kernel_rfl) (by kernel_rfl) (by kernel_rfl) (fun _ _ _ h => h) (yieldsIf_row (by rfl) 29 _ rfl _ rfl (fun W h => HB0_4.out.ext h) Tryz.underlying29 rfl (by kernel_rfl)) hHeld ?_
      (try simp only [Act.put, List.getElem_toArray, List.getElem_cons_zero, List.getElem_cons_succ, List.setIfInBounds_toArray, List.set_cons_zero, List.set_cons_succ])
      refine wpAnyH_take (i := 49) rfl (by kernel_rfl) (by kernel_rfl) (by kernel_rfl) (fun _ _ _ h => h) (yieldsIf_row (by rfl) 29 _ rfl _ rfl (fun W h => HC1.out.ext h) Tryz.underlying29 rfl (HZ1.out.1)) hHeld ?_
      (try simp only [Act.put, List.getElem_toArray, List.getElem_cons_zero, List.getElem_cons_succ, List.setIfInBounds_toArray, List.set_cons_zero, List.set_cons_succ])
      refine wpAnyH_ready (rs := [50]) (by kernel_rfl) (by simp) ?_
      refine AllReadyH.cons rfl (fun K hK => ?_) AllReadyH.nil
      go_simp
      (go_at_call 13; refine (KM.out _ z1 (HL_4.out.ext hHeld) (by obtain ⟨A', c', hz, hl⟩ := HR1.out; exact ⟨A', c', hz, hl.ext hHeld⟩)).mono ?_; rintro y v ⟨rfl, hb⟩)
      refine hK.out _ _ (hHeld.trans hb) (fun hHeld => ?_)
      clear hK K
      (try simp only [Act.put, List.getElem_toArray, List.getElem_cons_zero, List.getElem_cons_succ, List.setIfInBounds_toArray, List.set_cons_zero, List.set_cons_succ])
      refine' wpAnyH_take (i := 51) (v := _) rfl (by kernel_rfl) (by kernel_rfl) (by kernel_rfl) (fun _ _ _ h => h) (Or.inl ⟨by rfl, ?hy28⟩) hHeld ?rest28
      case hy28 => (rintro W hM; go_simp; (try with_reducible rfl))
      case rest28 =>
      (try simp only [Act.put, List.getElem_toArray, List.getElem_cons_zero, List.getElem_cons_succ, List.setIfInBounds_toArray, List.set_cons_zero, List.set_cons_succ])
      refine' wpAnyH_take (i := 52) (v := _) rfl (by kernel_rfl) (by kernel_rfl) (by kernel_rfl) (fun _ _ _ h => h) (Or.inl ⟨by rfl, ?hy29⟩) hHeld ?rest29
      case hy29 => (rintro W hM; go_simp; (try with_reducible rfl))
      case rest29 =>
      (try simp only [Act.put, List.getElem_toArray, List.getElem_cons_zero, List.getElem_cons_succ, List.setIfInBounds_toArray, List.set_cons_zero, List.set_cons_succ])
      refine wpAnyH_done (by kernel_rfl) ?_ _
      go_wp2_with fail
      go_ret
      exact Ret.mk rfl (HE4.out.trans hHeld)
    · have hv := Blk.new v 31 (BV.c x)
      go_simp
      
      refine hK.out _ _ (hHeld.alloc _) (fun hHeld => ?_)
      clear hK K
      (try simp only [Act.put, List.getElem_toArray, List.getElem_cons_zero, List.getElem_cons_succ, List.setIfInBounds_toArray, List.set_cons_zero, List.set_cons_succ])
      refine wpAnyH_ready (rs := [25]) (by kernel_rfl) (by simp) ?_
      refine AllReadyH.cons rfl (fun K hK => ?_) AllReadyH.nil
      go_simp
      (go_at_call 12; refine (KX1.out _ (HL_4.out.ext hHeld)).mono ?_; rintro y v ⟨rfl, hb⟩)
      have hv := hv.ext hb
      refine hK.out _ _ (hHeld.trans hb) (fun hHeld => ?_)
      clear hK K
      (try simp only [Act.put, List.getElem_toArray, List.getElem_cons_zero, List.getElem_cons_succ, List.setIfInBounds_toArray, List.set_cons_zero, List.set_cons_succ])
      refine' wpAnyH_take (i := 26) (v := _) rfl (by kernel_rfl) (by kernel_rfl) (by kernel_rfl) (fun _ _ _ h => h) (Or.inl ⟨by rfl, ?hy30⟩) hHeld ?rest30
      case hy30 => (rintro W hM; go_simp; (try with_reducible rfl))
      case rest30 =>
      (try simp only [Act.put, List.getElem_toArray, List.getElem_cons_zero, List.getElem_cons_succ, List.setIfInBounds_toArray, List.set_cons_zero, List.set_cons_succ])
      refine wpAnyH_ready (rs := [31]) (by kernel_rfl) (by simp) ?_
      refine AllReadyH.cons rfl (fun K hK => ?_) AllReadyH.nil
      go_simp
      (go_at_call 11; refine (KE2.out _ z3 r3 _ _ _ (HR3.out.ext hHeld) (HL_4.out.ext hHeld) hv (by rcases HF1.out with ⟨e1, e2⟩ | ⟨i, e1, e2⟩ <;> rw [e1, e2] <;> simp) (by rcases HF1.out with ⟨e1, e2⟩ | ⟨i, e1, e2⟩ <;> rw [e1, e2] <;> first | (simp; done) | (simp; decide))).mono ?_; rintro y v ⟨rfl, hb⟩)
      refine hK.out _ _ (hHeld.trans hb) (fun hHeld => ?_)
      clear hK K
      (try simp only [Act.put, List.getElem_toArray, List.getElem_cons_zero, List.getElem_cons_succ, List.setIfInBounds_toArray, List.set_cons_zero, List.set_cons_succ])
      refine' wpAnyH_take (i := 32) (v := _) rfl (by kernel_rfl) (by kernel_rfl) (by kernel_rfl) (fun _ _ _ h => h) (Or.inl ⟨by rfl, ?hy31⟩) hHeld ?rest31
      case hy31 => (rintro W hM; go_simp; (try with_reducible rfl))
      case rest31 =>
      (try simp only [Act.put, List.getElem_toArray, List.getElem_cons_zero, List.getElem_cons_succ, List.setIfInBounds_toArray, List.set_cons_zero, List.set_cons_succ])
      refine' wpAnyH_take (i := 33) (v := _) rfl (by kernel_rfl) (by kernel_rfl) (by kernel_rfl) (fun _ _ _ h => h) (Or.inl ⟨by rfl, ?hy32⟩) hHeld ?rest32
      case hy32 => (rintro W hM; go_simp; (try with_reducible rfl))
      case rest32 =>
      (try simp only [Act.put, List.getElem_toArray, List.getElem_cons_zero, List.getElem_cons_succ, List.setIfInBounds_toArray, List.set_cons_zero, List.set_cons_succ])
      refine wpAnyH_take (i := 34) rfl (by kernel_rfl) (by kernel_rfl) (by kernel_rfl) (fun _ _ _ h => h) (yieldsIf_row (by rfl) 29 _ rfl _ rfl (fun W h => HB0_4.out.ext h) Tryz.underlying29 rfl (by kernel_rfl)) hHeld ?_
      (try simp only [Act.put, List.getElem_toArray, List.getElem_cons_zero, List.getElem_cons_succ, List.setIfInBounds_toArray, List.set_cons_zero, List.set_cons_succ])
      refine wpAnyH_take (i := 35) rfl (by kernel_rfl) (by kernel_rfl) (by kernel_rfl) (fun _ _ _ h => h) (yieldsIf_row (by rfl) 29 _ rfl _ rfl (fun W h => HB0_4.out.ext h) Tryz.underlying29 rfl (by kernel_rfl)) hHeld ?_
      (try simp only [Act.put, List.getElem_toArray, List.getElem_cons_zero, List.getElem_cons_succ, List.setIfInBounds_toArray, List.set_cons_zero, List.set_cons_succ])
      refine' wpAnyH_take (i := 36) (v := _) rfl (by kernel_rfl) (by kernel_rfl) (by kernel_rfl) (fun _ _ _ h => h) (Or.inl ⟨by rfl, ?hy33⟩) hHeld ?rest33
      case hy33 => (rintro W hM; go_simp; (try with_reducible rfl))
      case rest33 =>
      (try simp only [Act.put, List.getElem_toArray, List.getElem_cons_zero, List.getElem_cons_succ, List.setIfInBounds_toArray, List.set_cons_zero, List.set_cons_succ])
      refine wpAnyH_take (i := 39) rfl (by kernel_rfl) (by kernel_rfl) (by kernel_rfl) (fun _ _ _ h => h) (yieldsIf_row (by rfl) 29 _ rfl _ rfl (fun W h => HB0_4.out.ext h) Tryz.underlying29 rfl (by kernel_rfl)) hHeld ?_
      (try simp only [Act.put, List.getElem_toArray, List.getElem_cons_zero, List.getElem_cons_succ, List.setIfInBounds_toArray, List.set_cons_zero, List.set_cons_succ])
      refine' wpAnyH_take (i := 40) (v := _) rfl (by kernel_rfl) (by kernel_rfl) (by kernel_rfl) (fun _ _ _ h => h) (Or.inl ⟨by rfl, ?hy34⟩) hHeld ?rest34
      case hy34 => (rintro W hM; go_simp; (try with_reducible rfl))
      case rest34 =>
      (try simp only [Act.put, List.getElem_toArray, List.getElem_cons_zero, List.getElem_cons_succ, List.setIfInBounds_toArray, List.set_cons_zero, List.set_cons_succ])
      refine wpAnyH_take (i := 43) rfl (by kernel_rfl) (by kernel_rfl) (by kernel_rfl) (fun _ _ _ h => h) (yieldsIf_row (by rfl) 29 _ rfl _ rfl (fun W h => HC4.out.ext h) Tryz.underlying29 rfl (HZ4.out.1)) hHeld ?_
      (try simp only [Act.put, List.getElem_toArray, List.getElem_cons_zero, List.getElem_cons_succ, List.setIfInBounds_toArray, List.set_cons_zero, List.set_cons_succ])
      refine' wpAnyH_take (i := 44) (v := _) rfl (by kernel_rfl) (by kernel_rfl) (by kernel_rfl) (fun _ _ _ h => h) (Or.inl ⟨by rfl, ?hy35⟩) hHeld ?rest35
      case hy35 => (rintro W hM; go_simp; (try with_reducible rfl))
      case rest35 =>
      (try simp only [Act.put, List.getElem_toArray, List.getElem_cons_zero, List.getElem_cons_succ, List.setIfInBounds_toArray, List.set_cons_zero, List.set_cons_succ])
      refine wpAnyH_ready (rs := [37]) (by kernel_rfl) (by simp) ?_
      refine AllReadyH.cons rfl (fun K hK => ?_) AllReadyH.nil
      go_simp
      (go_at_call 12; refine (KX2.out _ (HL_4.out.ext hHeld)).mono ?_; rintro y v ⟨rfl, hb⟩)
      refine hK.out _ _ (hHeld.trans hb) (fun hHeld => ?_)
      clear hK K
      (try simp only [Act.put, List.getElem_toArray, List.getElem_cons_zero, List.getElem_cons_succ, List.setIfInBounds_toArray, List.set_cons_zero, List.set_cons_succ])
      refine' wpAnyH_take (i := 38) (v := _) rfl (by kernel_rfl) (by kernel_rfl) (by kernel_rfl) (fun _ _ _ h => h) (Or.inl ⟨by rfl, ?hy36⟩) hHeld ?rest36
      case hy36 => (rintro W hM; go_simp; (try with_reducible rfl))
      case rest36 =>
      (try simp only [Act.put, List.getElem_toArray, List.getElem_cons_zero, List.getElem_cons_succ, List.setIfInBounds_toArray, List.set_cons_zero, List.set_cons_succ])
      refine wpAnyH_ready (rs := [41]) (by kernel_rfl) (by simp) ?_
      refine AllReadyH.cons rfl (fun K hK => ?_) AllReadyH.nil
      go_simp
      (go_at_call 12; refine (KX2.out _ (HL_4.out.ext hHeld)).mono ?_; rintro y v ⟨rfl, hb⟩)
      refine hK.out _ _ (hHeld.trans hb) (fun hHeld => ?_)
      clear hK K
      (try simp only [Act.put, List.getElem_toArray, List.getElem_cons_zero, List.getElem_cons_succ, List.setIfInBounds_toArray, List.set_cons_zero, List.set_cons_succ])
      refine' wpAnyH_take (i := 42) (v := _) rfl (by kernel_rfl) (by kernel_rfl) (by kernel_rfl) (fun _ _ _ h => h) (Or.inl ⟨by rfl, ?hy37⟩) hHeld ?rest37
      case hy37 => (rintro W hM; go_simp; (try with_reducible rfl))
      case rest37 =>
      (try simp only [Act.put, List.getElem_toArray, List.getElem_cons_zero, List.getElem_cons_succ, List.setIfInBounds_toArray, List.set_cons_zero, List.set_cons_succ])
      refine wpAnyH_ready (rs := [45]) (by kernel_rfl) (by simp) ?_
      refine AllReadyH.cons rfl (fun K hK => ?_) AllReadyH.nil
      go_simp
      (go_at_call 11; refine (KE3.out _ z4 r4 _ _ (HR4.out.ext hHeld) (HL_4.out.ext hHeld) (by rcases HF2.out with ⟨e1, e2⟩ | ⟨i, e1, e2⟩ <;> rw [e1, e2] <;> simp) (by rcases HF2.out with ⟨e1, e2⟩ | ⟨i, e1, e2⟩ <;> rw [e1, e2] <;> first | (simp; done) | (simp; decide))).mono ?_; rintro y v ⟨rfl, hb⟩)
      refine hK.out _ _ (hHeld.trans hb) (fun hHeld => ?_)
      clear hK K
      (try simp only [Act.put, List.getElem_toArray, List.getElem_cons_zero, List.getElem_cons_succ, List.setIfInBounds_toArray, List.set_cons_zero, List.set_cons_succ])
      refine' wpAnyH_take (i := 46) (v := _) rfl (by kernel_rfl) (by kernel_rfl) (by kernel_rfl) (fun _ _ _ h => h) (Or.inl ⟨by rfl, ?hy38⟩) hHeld ?rest38
      case hy38 => (rintro W hM; go_simp; (try with_reducible rfl))
      case rest38 =>
      (try simp only [Act.put, List.getElem_toArray, List.getElem_cons_zero, List.getElem_cons_succ, List.setIfInBounds_toArray, List.set_cons_zero, List.set_cons_succ])
      refine' wpAnyH_take (i := 47) (v := _) rfl (by kernel_rfl) (by kernel_rfl) (by kernel_rfl) (fun _ _ _ h => h) (Or.inl ⟨by rfl, ?hy39⟩) hHeld ?rest39
      case hy39 => (rintro W hM; go_simp; (try with_reducible rfl))
      case rest39 =>
      (try simp only [Act.put, List.getElem_toArray, List.getElem_cons_zero, List.getElem_cons_succ, List.setIfInBounds_toArray, List.set_cons_zero, List.set_cons_succ])
      refine wpAnyH_take (i := 48) rfl (by kernel_rfl) (by kernel_rfl) (by kernel_rfl) (fun _ _ _ h => h) (yieldsIf_row (by rfl) 29 _ rfl _ rfl (fun W h => HB0_4.out.ext h) Tryz.underlying29 rfl (by kernel_rfl)) hHeld ?_
      (try simp only [Act.put, List.getElem_toArray, List.getElem_cons_zero, List.getElem_cons_succ, List.setIfInBounds_toArray, List.set_cons_zero, List.set_cons_succ])
      refine wpAnyH_take (i := 49) rfl (by kernel_rfl) (by kernel_rfl) (by kernel_rfl) (fun _ _ _ h => h) (yieldsIf_row (by rfl) 29 _ rfl _ rfl (fun W h => HC1.out.ext h) Tryz.underlying29 rfl (HZ1.out.1)) hHeld ?_
      (try simp only [Act.put, List.getElem_toArray, List.getElem_cons_zero, List.getElem_cons_succ, List.setIfInBounds_toArray, List.set_cons_zero, List.set_cons_succ])
      refine wpAnyH_ready (rs := [50]) (by kernel_rfl) (by simp) ?_
      refine AllReadyH.cons rfl (fun K hK => ?_) AllReadyH.nil
      go_simp
      (go_at_call 13; refine (KM.out _ z1 (HL_4.out.ext hHeld) (by obtain ⟨A', c', hz, hl⟩ := HR1.out; exact ⟨A', c', hz, hl.ext hHeld⟩)).mono ?_; rintro y v ⟨rfl, hb⟩)
      refine hK.out _ _ (hHeld.trans hb) (fun hHeld => ?_)
      clear hK K
      (try simp only [Act.put, List.getElem_toArray, List.getElem_cons_zero, List.getElem_cons_succ, List.setIfInBounds_toArray, List.set_cons_zero, List.set_cons_succ])
      refine' wpAnyH_take (i := 51) (v := _) rfl (by kernel_rfl) (by kernel_rfl) (by kernel_rfl) (fun _ _ _ h => h) (Or.inl ⟨by rfl, ?hy40⟩) hHeld ?rest40
      case hy40 => (rintro W hM; go_simp; (try with_reducible rfl))
      case rest40 =>
      (try simp only [Act.put, List.getElem_toArray, List.getElem_cons_zero, List.getElem_cons_succ, List.setIfInBounds_toArray, List.set_cons_zero, List.set_cons_succ])
      refine' wpAnyH_take (i := 52) (v := _) rfl (by kernel_rfl) (by kernel_rfl) (by kernel_rfl) (fun _ _ _ h => h) (Or.inl ⟨by rfl, ?hy41⟩) hHeld ?rest41
      case hy41 => (rintro W hM; go_simp; (try with_reducible rfl))
      case rest41 =>
      (try simp only [Act.put, List.getElem_toArray, List.getElem_cons_zero, List.getElem_cons_succ, List.setIfInBounds_toArray, List.set_cons_zero, List.set_cons_succ])
      refine wpAnyH_done (by kernel_rfl) ?_ _
      go_wp2_with fail
      go_ret
      exact Ret.mk rfl (HE4.out.trans hHeld)
  · have hv := Blk.new v 31 (BV.c x)
    go_simp
    
    refine hK.out _ _ (hHeld.alloc _) (fun hHeld => ?_)
    clear hK K
    (try simp only [Act.put, List.getElem_toArray, List.getElem_cons_zero, List.getElem_cons_succ, List.setIfInBounds_toArray, List.set_cons_zero, List.set_cons_succ])
    refine wpAnyH_ready (rs := [20]) (by kernel_rfl) (by simp) ?_
    refine AllReadyH.cons rfl (fun K hK => ?_) AllReadyH.nil
    go_simp
    (go_at_call 12; refine (KX1.out _ (HL_4.out.ext hHeld)).mono ?_; rintro y v ⟨rfl, hb⟩)
    have hv := hv.ext hb
    refine hK.out _ _ (hHeld.trans hb) (fun hHeld => ?_)
    clear hK K
    (try simp only [Act.put, List.getElem_toArray, List.getElem_cons_zero, List.getElem_cons_succ, List.setIfInBounds_toArray, List.set_cons_zero, List.set_cons_succ])
    refine' wpAnyH_take (i := 21) (v := _) rfl (by kernel_rfl) (by kernel_rfl) (by kernel_rfl) (fun _ _ _ h => h) (Or.inl ⟨by rfl, ?hy42⟩) hHeld ?rest42
    case hy42 => (rintro W hM; go_simp; (try with_reducible rfl))
    case rest42 =>
    (try simp only [Act.put, List.getElem_toArray, List.getElem_cons_zero, List.getElem_cons_succ, List.setIfInBounds_toArray, List.set_cons_zero, List.set_cons_succ])
    refine wpAnyH_ready (rs := [25]) (by kernel_rfl) (by simp) ?_
    refine AllReadyH.cons rfl (fun K hK => ?_) AllReadyH.nil
    go_simp
    (go_at_call 12; refine (KX1.out _ (HL_4.out.ext hHeld)).mono ?_; rintro y v ⟨rfl, hb⟩)
    have hv := hv.ext hb
    refine hK.out _ _ (hHeld.trans hb) (fun hHeld => ?_)
    clear hK K
    (try simp only [Act.put, List.getElem_toArray, List.getElem_cons_zero, List.getElem_cons_succ, List.setIfInBounds_toArray, List.set_cons_zero, List.set_cons_succ])
    refine' wpAnyH_take (i := 26) (v := _) rfl (by kernel_rfl) (by kernel_rfl) (by kernel_rfl) (fun _ _ _ h => h) (Or.inl ⟨by rfl, ?hy43⟩) hHeld ?rest43
    case hy43 => (rintro W hM; go_simp; (try with_reducible rfl))
    case rest43 =>
    (try simp only [Act.put, List.getElem_toArray, List.getElem_cons_zero, List.getElem_cons_succ, List.setIfInBounds_toArray, List.set_cons_zero, List.set_cons_succ])
    refine wpAnyH_ready (rs := [31]) (by kernel_rfl) (by simp) ?_
    refine AllReadyH.cons rfl (fun K hK => ?_) AllReadyH.nil
    go_simp
    (go_at_call 11; refine (KE2.out _ z3 r3 _ _ _ (HR3.out.ext hHeld) (HL_4.out.ext hHeld) hv (by rcases HF1.out with ⟨e1, e2⟩ | ⟨i, e1, e2⟩ <;> rw [e1, e2] <;> simp) (by rcases HF1.out with ⟨e1, e2⟩ | ⟨i, e1, e2⟩ <;> rw [e1, e2] <;> first | (simp; done) | (simp; decide))).mono ?_; rintro y v ⟨rfl, hb⟩)
    refine hK.out _ _ (hHeld.trans hb) (fun hHeld => ?_)
    clear hK K
    (try simp only [Act.put, List.getElem_toArray, List.getElem_cons_zero, List.getElem_cons_succ, List.setIfInBounds_toArray, List.set_cons_zero, List.set_cons_succ])
    refine' wpAnyH_take (i := 32) (v := _) rfl (by kernel_rfl) (by kernel_rfl) (by kernel_rfl) (fun _ _ _ h => h) (Or.inl ⟨by rfl, ?hy44⟩) hHeld ?rest44
    case hy44 => (rintro W hM; go_simp; (try with_reducible rfl))
    case rest44 =>
    (try simp only [Act.put, List.getElem_toArray, List.getElem_cons_zero, List.getElem_cons_succ, List.setIfInBounds_toArray, List.set_cons_zero, List.set_cons_succ])
    refine' wpAnyH_take (i := 33) (v := _) rfl (by kernel_rfl) (by kernel_rfl) (by kernel_rfl) (fun _ _ _ h => h) (Or.inl ⟨by rfl, ?hy45⟩) hHeld ?rest45
    case hy45 => (rintro W hM; go_simp; (try with_reducible rfl))
    case rest45 =>
    (try simp only [Act.put, List.getElem_toArray, List.getElem_cons_zero, List.getElem_cons_succ, List.setIfInBounds_toArray, List.set_cons_zero, List.set_cons_succ])
    refine wpAnyH_take (i := 34) rfl (by kernel_rfl) (by kernel_rfl) (by kernel_rfl) (fun _ _ _ h => h) (yieldsIf_row (by rfl) 29 _ rfl _ rfl (fun W h => HB0_4.out.ext h) Tryz.underlying29 rfl (by kernel_rfl)) hHeld ?_
    (try simp only [Act.put, List.getElem_toArray, List.getElem_cons_zero, List.getElem_cons_succ, List.setIfInBounds_toArray, List.set_cons_zero, List.set_cons_succ])
    refine wpAnyH_take (i := 35) rfl (by kernel_rfl) (by kernel_rfl) (by kernel_rfl) (fun _ _ _ h => h) (yieldsIf_row (by rfl) 29 _ rfl _ rfl (fun W h => HB0_4.out.ext h) Tryz.underlying29 rfl (by kernel_rfl)) hHeld ?_
    (try simp only [Act.put, List.getElem_toArray, List.getElem_cons_zero, List.getElem_cons_succ, List.setIfInBounds_toArray, List.set_cons_zero, List.set_cons_succ])
    refine' wpAnyH_take (i := 36) (v := _) rfl (by kernel_rfl) (by kernel_rfl) (by kernel_rfl) (fun _ _ _ h => h) (Or.inl ⟨by rfl, ?hy46⟩) hHeld ?rest46
    case hy46 => (rintro W hM; go_simp; (try with_reducible rfl))
    case rest46 =>
    (try simp only [Act.put, List.getElem_toArray, List.getElem_cons_zero, List.getElem_cons_succ, List.setIfInBounds_toArray, List.set_cons_zero, List.set_cons_succ])
    refine wpAnyH_take (i := 39) rfl (by kernel_rfl) (by kernel_rfl) (by kernel_rfl) (fun _ _ _ h => h) (yieldsIf_row (by rfl) 29 _ rfl _ rfl (fun W h => HB0_4.out.ext h) Tryz.underlying29 rfl (by kernel_rfl)) hHeld ?_
    (try simp only [Act.put, List.getElem_toArray, List.getElem_cons_zero, List.getElem_cons_succ, List.setIfInBounds_toArray, List.set_cons_zero, List.set_cons_succ])
    refine' wpAnyH_take (i := 40) (v := _) rfl (by kernel_rfl) (by kernel_rfl) (by kernel_rfl) (fun _ _ _ h => h) (Or.inl ⟨by rfl, ?hy47⟩) hHeld ?rest47
    case hy47 => (rintro W hM; go_simp; (try with_reducible rfl))
    case rest47 =>
    (try simp only [Act.put, List.getElem_toArray, List.getElem_cons_zero, List.getElem_cons_succ, List.setIfInBounds_toArray, List.set_cons_zero, List.set_cons_succ])
    refine wpAnyH_take (i := 43) rfl (by kernel_rfl) (by kernel_rfl) (by kernel_rfl) (fun _ _ _ h => h) (yieldsIf_row (by rfl) 29 _ rfl _ rfl (fun W h => HC4.out.ext h) Tryz.underlying29 rfl (HZ4.out.1)) hHeld ?_
    (try simp only [Act.put, List.getElem_toArray, List.getElem_cons_zero, List.getElem_cons_succ, List.setIfInBounds_toArray, List.set_cons_zero, List.set_cons_succ])
    refine' wpAnyH_take (i := 44) (v := _) rfl (by kernel_rfl) (by kernel_rfl) (by kernel_rfl) (fun _ _ _ h => h) (Or.inl ⟨by rfl, ?hy48⟩) hHeld ?rest48
    case hy48 => (rintro W hM; go_simp; (try with_reducible rfl))
    case rest48 =>
    (try simp only [Act.put, List.getElem_toArray, List.getElem_cons_zero, List.getElem_cons_succ, List.setIfInBounds_toArray, List.set_cons_zero, List.set_cons_succ])
    refine wpAnyH_ready (rs := [37]) (by kernel_rfl) (by simp) ?_
    refine AllReadyH.cons rfl (fun K hK => ?_) AllReadyH.nil
    go_simp
    (go_at_call 12; refine (KX2.out _ (HL_4.out.ext hHeld)).mono ?_; rintro y v ⟨rfl, hb⟩)
    refine hK.out _ _ (hHeld.trans hb) (fun hHeld => ?_)
    clear hK K
    (try simp only [Act.put, List.getElem_toArray, List.getElem_cons_zero, List.getElem_cons_succ, List.setIfInBounds_toArray, List.set_cons_zero, List.set_cons_succ])
    refine' wpAnyH_take (i := 38) (v := _) rfl (by kernel_rfl) (by kernel_rfl) (by kernel_rfl) (fun _ _ _ h => h) (Or.inl ⟨by rfl, ?hy49⟩) hHeld ?rest49
    case hy49 => (rintro W hM; go_simp; (try with_reducible rfl))
    case rest49 =>
    (try simp only [Act.put, List.getElem_toArray, List.getElem_cons_zero, List.getElem_cons_succ, List.setIfInBounds_toArray, List.set_cons_zero, List.set_cons_succ])
    refine wpAnyH_ready (rs := [41]) (by kernel_rfl) (by simp) ?_
    refine AllReadyH.cons rfl (fun K hK => ?_) AllReadyH.nil
    go_simp
    (go_at_call 12; refine (KX2.out _ (HL_4.out.ext hHeld)).mono ?_; rintro y v ⟨rfl, hb⟩)
    refine hK.out _ _ (hHeld.trans hb) (fun hHeld => ?_)
    clear hK K
    (try simp only [Act.put, List.getElem_toArray, List.getElem_cons_zero, List.getElem_cons_succ, List.setIfInBounds_toArray, List.set_cons_zero, List.set_cons_succ])
    refine' wpAnyH_take (i := 42) (v := _) rfl (by kernel_rfl) (by kernel_rfl) (by kernel_rfl) (fun _ _ _ h => h) (Or.inl ⟨by rfl, ?hy50⟩) hHeld ?rest50
    case hy50 => (rintro W hM; go_simp; (try with_reducible rfl))
    case rest50 =>
    (try simp only [Act.put, List.getElem_toArray, List.getElem_cons_zero, List.getElem_cons_succ, List.setIfInBounds_toArray, List.set_cons_zero, List.set_cons_succ])
    refine wpAnyH_ready (rs := [45]) (by kernel_rfl) (by simp) ?_
    refine AllReadyH.cons rfl (fun K hK => ?_) AllReadyH.nil
    go_simp
    (go_at_call 11; refine (KE3.out _ z4 r4 _ _ (HR4.out.ext hHeld) (HL_4.out.ext hHeld) (by rcases HF2.out with ⟨e1, e2⟩ | ⟨i, e1, e2⟩ <;> rw [e1, e2] <;> simp) (by rcases HF2.out with ⟨e1, e2⟩ | ⟨i, e1, e2⟩ <;> rw [e1, e2] <;> first | (simp; done) | (simp; decide))).mono ?_; rintro y v ⟨rfl, hb⟩)
    refine hK.out _ _ (hHeld.trans hb) (fun hHeld => ?_)
    clear hK K
    (try simp only [Act.put, List.getElem_toArray, List.getElem_cons_zero, List.getElem_cons_succ, List.setIfInBounds_toArray, List.set_cons_zero, List.set_cons_succ])
    refine' wpAnyH_take (i := 46) (v := _) rfl (by kernel_rfl) (by kernel_rfl) (by kernel_rfl) (fun _ _ _ h => h) (Or.inl ⟨by rfl, ?hy51⟩) hHeld ?rest51
    case hy51 => (rintro W hM; go_simp; (try with_reducible rfl))
    case rest51 =>
    (try simp only [Act.put, List.getElem_toArray, List.getElem_cons_zero, List.getElem_cons_succ, List.setIfInBounds_toArray, List.set_cons_zero, List.set_cons_succ])
    refine' wpAnyH_take (i := 47) (v := _) rfl (by kernel_rfl) (by kernel_rfl) (by kernel_rfl) (fun _ _ _ h => h) (Or.inl ⟨by rfl, ?hy52⟩) hHeld ?rest52
    case hy52 => (rintro W hM; go_simp; (try with_reducible rfl))
    case rest52 =>
    (try simp only [Act.put, List.getElem_toArray, List.getElem_cons_zero, List.getElem_cons_succ, List.setIfInBounds_toArray, List.set_cons_zero, List.set_cons_succ])
    refine wpAnyH_take (i := 48) rfl (by kernel_rfl) (by kernel_rfl) (by kernel_rfl) (fun _ _ _ h => h) (yieldsIf_row (by rfl) 29 _ rfl _ rfl (fun W h => HB0_4.out.ext h) Tryz.underlying29 rfl (by kernel_rfl)) hHeld ?_
    (try simp only [Act.put, List.getElem_toArray, List.getElem_cons_zero, List.getElem_cons_succ, List.setIfInBounds_toArray, List.set_cons_zero, List.set_cons_succ])
    refine wpAnyH_take (i := 49) rfl (by kernel_rfl) (by kernel_rfl) (by kernel_rfl) (fun _ _ _ h => h) (yieldsIf_row (by rfl) 29 _ rfl _ rfl (fun W h => HC1.out.ext h) Tryz.underlying29 rfl (HZ1.out.1)) hHeld ?_
    (try simp only [Act.put, List.getElem_toArray, List.getElem_cons_zero, List.getElem_cons_succ, List.setIfInBounds_toArray, List.set_cons_zero, List.set_cons_succ])
    refine wpAnyH_ready (rs := [50]) (by kernel_rfl) (by simp) ?_
    refine AllReadyH.cons rfl (fun K hK => ?_) AllReadyH.nil
    go_simp
    (go_at_call 13; refine (KM.out _ z1 (HL_4.out.ext hHeld) (by obtain ⟨A', c', hz, hl⟩ := HR1.out; exact ⟨A', c', hz, hl.ext hHeld⟩)).mono ?_; rintro y v ⟨rfl, hb⟩)
    refine hK.out _ _ (hHeld.trans hb) (fun hHeld => ?_)
    clear hK K
    (try simp only [Act.put, List.getElem_toArray, List.getElem_cons_zero, List.getElem_cons_succ, List.setIfInBounds_toArray, List.set_cons_zero, List.set_cons_succ])
    refine' wpAnyH_take (i := 51) (v := _) rfl (by kernel_rfl) (by kernel_rfl) (by kernel_rfl) (fun _ _ _ h => h) (Or.inl ⟨by rfl, ?hy53⟩) hHeld ?rest53
    case hy53 => (rintro W hM; go_simp; (try with_reducible rfl))
    case rest53 =>
    (try simp only [Act.put, List.getElem_toArray, List.getElem_cons_zero, List.getElem_cons_succ, List.setIfInBounds_toArray, List.set_cons_zero, List.set_cons_succ])
    refine' wpAnyH_take (i := 52) (v := _) rfl (by kernel_rfl) (by kernel_rfl) (by kernel_rfl) (fun _ _ _ h => h) (Or.inl ⟨by rfl, ?hy54⟩) hHeld ?rest54
    case hy54 => (rintro W hM; go_simp; (try with_reducible rfl))
    case rest54 =>
    (try simp only [Act.put, List.getElem_toArray, List.getElem_cons_zero, List.getElem_cons_succ, List.setIfInBounds_toArray, List.set_cons_zero, List.set_cons_succ])
    refine wpAnyH_done (by kernel_rfl) ?_ _
    go_wp2_with fail
    go_ret
    exact Ret.mk rfl (HE4.out.trans hHeld)
theorem lawEdits_any (p : PV) (x : BV) (n : Int) (bs : Nat → BV) (k c : Nat) (A : Option Addr) (hf : p.fl < 18446744073709551616) (hk : k < 4611686018427387904) (hS : SlA A k c) (w : World) (h : BsL w A k bs) : Calls Tryz.prog 3 #[bunV p A k c, x.v, .int .i64 n] w (Ret (.bool true) w) := by
  cases hF : bunFew p bs k with
  | false => exact edits_few p x n bs k c A hf hk hF w h
  | true =>
    by_cases hdat : x.data.length ≤ 4100
    · exact edits_ok p x n bs k c A hf hk hS hF hdat w h
    · exact edits_long p x n bs k c A hf hk hF hdat w h
end Go.Proofs.YtkeabdfgacicaaaGreat
