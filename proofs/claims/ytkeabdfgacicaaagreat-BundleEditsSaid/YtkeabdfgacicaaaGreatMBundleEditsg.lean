/-
  Bundles: rules, whether one is right, and its bytes, as the code tells.
  A bundle with other blocks, if it is right.
  A bundle without one of its blocks.
  A bundle with one block more.
  A bundle with a block in the place of another.
  Two bundles that are the same, as the reference tells.
  Whether a bundle is another one with other blocks, as the law asks.
  A bundle of one block.
  The least number that is free.
  Bundles with one block more, and without it: plain.
  What Put, Set and Drop answer, and that the law's edited says so.
-/
import Derived.Test.YtkeabdfgacicaaaGreatMBundleEditsf

namespace Go.Proofs.YtkeabdfgacicaaaGreat
open Go.RowKit
set_option linter.unusedVariables false
set_option linter.unusedSimpArgs false

def rulesR (p : PV) (bs : Nat → BV) (k : Nat) : Int := if 16 < k then 4 else if bunRule1 bs k then 8 else if bunRule2 p bs k then 8 else if bunRule3 p bs k then 8 else 0
theorem find_age (bs : Nat → BV) (k : Nat) : ∃ x : BV, findV bs 7 k = .tuple #[x.v, .bool (decide (cntB bs 7 k ≠ 0))] := by
  have h := cntB_find (bs := bs) (typ := 7) (k := k)
  unfold findV
  cases hf : firstOf (tyB bs 7) k with
  | some i => rw [hf] at h; rw [← h]; exact ⟨bs i, rfl⟩
  | none => rw [hf] at h; rw [← h]; exact ⟨zeroB, rfl⟩
theorem rule1_once (bs : Nat → BV) (k : Nat) : bunRule1 bs k = (decide (k = 0) || !onceB bs k) := by
  unfold bunRule1 onceB
  rw [Bool.eq_iff_iff]
  cases dupB bs k <;> simp <;> omega
theorem right_wf {b : BV} (h : b.right = 0) : InI b.num ∧ InI b.ty := by
  have := BV.right_zero h
  unfold InI
  omega
set_option maxRecDepth 20000 in
theorem rules_16 (p : PV) (bs : Nat → BV) (k c : Nat) (A : Option Addr) (h16 : 16 < k) (w : World) (h : BsL w A k bs) : Calls Tryz.prog 45 #[bunV p A k c] w (Ret (.int .i64 4) w) := by
  have HE := hid ((Mod.refl [] w).alloc (.cells (bunC p A k c) 29))
  have HB0 : Hid (Blk (w.alloc (.cells (bunC p A k c) 29)) w.heap.size 29 (bunC p A k c)) := hid (Blk.new w 29 (bunC p A k c))
  have xa : decide ((16 : Int) < (k : Int)) = true := decide_eq_true (by omega)
  have xb : ((16 : Int) < (k : Int)) = True := eq_true (by omega)
  have xc : decide (16 < k) = true := decide_eq_true h16
  clear h h16
  go_enter Tryz.func45, Tryz.ntmps45
  go_upto_region 1 with fail
  generalize (w.alloc (.cells (bunC p A k c) 29)) = V at *
  have b19 : ∀ e : Later V, e.x.cell? ⟨w.heap.size, 19, none⟩ = some (.slice A k c) := HB0.out.cellL 19 rfl
  have b14 : ∀ e : Later V, e.x.cell? ⟨w.heap.size, 14, none⟩ = some (.int .u64 (p.t : Int)) := HB0.out.cellL 14 rfl
  obtain ⟨e, he⟩ := Later.self V
  rw [he]
  clear he
  go_wp2_with fail
  go_ret
  exact Ret.mk rfl (HE.out.trans e.h)
set_option maxRecDepth 20000 in
set_option maxHeartbeats 3200000 in
theorem rules_let (p : PV) (bs : Nat → BV) (k c : Nat) (A : Option Addr) (h16 : ¬ 16 < k) (x : BV) (L O G F : Bool) (KF : ∀ W, BsL W A k bs → Calls Tryz.prog 61 #[bunV p A k c, .int .i64 7] W (Ret (.tuple #[x.v, .bool G]) W)) (KL : ∀ W, BsL W A k bs → Calls Tryz.prog 62 #[.slice A k c] W (Ret (.bool L) W)) (KO : ∀ W, BsL W A k bs → Calls Tryz.prog 63 #[.slice A k c] W (Ret (.bool O) W)) (KG : L = true → ∀ W, BsL W A k bs → Calls Tryz.prog 64 #[bunV p A k c] W (Ret (.bool F) W)) (w : World) (h : BsL w A k bs) : Calls Tryz.prog 45 #[bunV p A k c] w (Ret (.int .i64 (if !L || !O || (decide (p.t = 0) && !G) || !F then 8 else 0)) w) := by
  generalize hRES : (if !L || !O || (decide (p.t = 0) && !G) || !F then (8 : Int) else 0) = RES
  have HRES := hid hRES.symm
  clear hRES
  have HE := hid ((Mod.refl [] w).alloc (.cells (bunC p A k c) 29))
  have HB0 : Hid (Blk (w.alloc (.cells (bunC p A k c) 29)) w.heap.size 29 (bunC p A k c)) := hid (Blk.new w 29 (bunC p A k c))
  have xa : decide ((16 : Int) < (k : Int)) = false := decide_eq_false (by omega)
  have xb : ((16 : Int) < (k : Int)) = False := eq_false (by omega)
  have xc : decide (16 < k) = false := decide_eq_false h16
  have HL := hid (BsL.ext h HE.out)
  have KF := hid KF
  have KL := hid KL
  have KO := hid KO
  have KG := hid KG
  clear h h16
  go_enter Tryz.func45, Tryz.ntmps45
  go_upto_region 1 with fail
  generalize (w.alloc (.cells (bunC p A k c) 29)) = V at *
  have b19 : ∀ e : Later V, e.x.cell? ⟨w.heap.size, 19, none⟩ = some (.slice A k c) := HB0.out.cellL 19 rfl
  have b14 : ∀ e : Later V, e.x.cell? ⟨w.heap.size, 14, none⟩ = some (.int .u64 (p.t : Int)) := HB0.out.cellL 14 rfl
  obtain ⟨e, he⟩ := Later.self V
  rw [he]
  clear he
  go_upto_region 4 with (first | (go_at_call 61; refine (Ret.later (KF.out _ (HL.out.ext (Later.h _)))).mono ?_; rintro x _ ⟨rfl, e, rfl⟩) | (refine wpList_row (by rfl) 29 _ rfl _ rfl (HB0.out.later _) Tryz.underlying29 rfl (by kernel_rfl) ?_))
  generalize hU : World.alloc e.x _ = U
  obtain ⟨e2, rfl⟩ : ∃ e2 : Later V, U = e2.x := ⟨⟨U, by rw [← hU]; exact (Later.h e).alloc _⟩, rfl⟩
  clear hU
  cases L with
  | false =>
    go_wp2_with (first | (go_at_call 62; refine (Ret.later (KL.out _ (HL.out.ext (Later.h _)))).mono ?_; rintro x _ ⟨rfl, e, rfl⟩))
    go_ret
    exact Ret.mk (by rw [HRES.out]; simp) (HE.out.trans (Later.h _))
  | true =>
    have KH := hid (KG.out rfl)
    clear KG
    cases O with
    | false =>
      go_wp2_with (first | (go_at_call 62; refine (Ret.later (KL.out _ (HL.out.ext (Later.h _)))).mono ?_; rintro x _ ⟨rfl, e, rfl⟩) | (go_at_call 63; refine (Ret.later (KO.out _ (HL.out.ext (Later.h _)))).mono ?_; rintro x _ ⟨rfl, e, rfl⟩))
      go_ret
      exact Ret.mk (by rw [HRES.out]; simp) (HE.out.trans (Later.h _))
    | true =>
      by_cases ht : p.t = 0
      · have HT := hid ht
        have ta : (((p.t : Int)) == (0)) = true := by rw [beq_iff_eq]; omega
        have tb : (((p.t : Int)) = (0)) = True := eq_true (by omega)
        have tc : (((p.t : Int)) != (0)) = false := by rw [bne_eq_false_iff_eq]; omega
        have ua : ((p.t) == (0)) = true := by rw [beq_iff_eq]; omega
        have ub : ((p.t) = (0)) = True := eq_true (by omega)
        have uc : ((p.t) != (0)) = false := by rw [bne_eq_false_iff_eq]; omega
        clear ht
        cases G with
        | false =>
          go_wp2_with (first | (go_at_call 62; refine (Ret.later (KL.out _ (HL.out.ext (Later.h _)))).mono ?_; rintro x _ ⟨rfl, e, rfl⟩) | (go_at_call 63; refine (Ret.later (KO.out _ (HL.out.ext (Later.h _)))).mono ?_; rintro x _ ⟨rfl, e, rfl⟩))
          go_ret
          exact Ret.mk (by rw [HRES.out]; simp [HT.out]) (HE.out.trans (Later.h _))
        | true =>
          cases F with
          | false =>
            go_wp2_with (first | (go_at_call 62; refine (Ret.later (KL.out _ (HL.out.ext (Later.h _)))).mono ?_; rintro x _ ⟨rfl, e, rfl⟩) | (go_at_call 63; refine (Ret.later (KO.out _ (HL.out.ext (Later.h _)))).mono ?_; rintro x _ ⟨rfl, e, rfl⟩) | (go_at_call 64; refine (Ret.later (KH.out _ (HL.out.ext (Later.h _)))).mono ?_; rintro x _ ⟨rfl, e, rfl⟩) | (refine wpList_row (by rfl) 29 _ rfl _ rfl (HB0.out.later _) Tryz.underlying29 rfl (by kernel_rfl) ?_))
            go_ret
            exact Ret.mk (by rw [HRES.out]; simp) (HE.out.trans (Later.h _))
          | true =>
            go_wp2_with (first | (go_at_call 62; refine (Ret.later (KL.out _ (HL.out.ext (Later.h _)))).mono ?_; rintro x _ ⟨rfl, e, rfl⟩) | (go_at_call 63; refine (Ret.later (KO.out _ (HL.out.ext (Later.h _)))).mono ?_; rintro x _ ⟨rfl, e, rfl⟩) | (go_at_call 64; refine (Ret.later (KH.out _ (HL.out.ext (Later.h _)))).mono ?_; rintro x _ ⟨rfl, e, rfl⟩) | (refine wpList_row (by rfl) 29 _ rfl _ rfl (HB0.out.later _) Tryz.underlying29 rfl (by kernel_rfl) ?_))
            go_ret
            exact Ret.mk (by rw [HRES.out]; simp) (HE.out.trans (Later.h _))
      · have HT := hid ht
        have ta : (((p.t : Int)) == (0)) = false := by rw [beq_eq_false_iff_ne]; omega
        have tb : (((p.t : Int)) = (0)) = False := eq_false (by omega)
        have tc : (((p.t : Int)) != (0)) = true := by rw [bne_iff_ne]; omega
        have ua : ((p.t) == (0)) = false := by rw [beq_eq_false_iff_ne]; omega
        have ub : ((p.t) = (0)) = False := eq_false (by omega)
        have uc : ((p.t) != (0)) = true := by rw [bne_iff_ne]; omega
        clear ht
        cases F with
        | false =>
          go_wp2_with (first | (go_at_call 62; refine (Ret.later (KL.out _ (HL.out.ext (Later.h _)))).mono ?_; rintro x _ ⟨rfl, e, rfl⟩) | (go_at_call 63; refine (Ret.later (KO.out _ (HL.out.ext (Later.h _)))).mono ?_; rintro x _ ⟨rfl, e, rfl⟩) | (go_at_call 64; refine (Ret.later (KH.out _ (HL.out.ext (Later.h _)))).mono ?_; rintro x _ ⟨rfl, e, rfl⟩) | (refine wpList_row (by rfl) 29 _ rfl _ rfl (HB0.out.later _) Tryz.underlying29 rfl (by kernel_rfl) ?_))
          go_ret
          exact Ret.mk (by rw [HRES.out]; simp [HT.out]) (HE.out.trans (Later.h _))
        | true =>
          go_wp2_with (first | (go_at_call 62; refine (Ret.later (KL.out _ (HL.out.ext (Later.h _)))).mono ?_; rintro x _ ⟨rfl, e, rfl⟩) | (go_at_call 63; refine (Ret.later (KO.out _ (HL.out.ext (Later.h _)))).mono ?_; rintro x _ ⟨rfl, e, rfl⟩) | (go_at_call 64; refine (Ret.later (KH.out _ (HL.out.ext (Later.h _)))).mono ?_; rintro x _ ⟨rfl, e, rfl⟩) | (refine wpList_row (by rfl) 29 _ rfl _ rfl (HB0.out.later _) Tryz.underlying29 rfl (by kernel_rfl) ?_))
          go_ret
          exact Ret.mk (by rw [HRES.out]; simp [HT.out]) (HE.out.trans (Later.h _))
theorem rules_any (p : PV) (bs : Nat → BV) (k c : Nat) (A : Option Addr) (hf : p.fl < 18446744073709551616) (hk : k < 4611686018427387904) (hp : p.right = 0) (hbs : ∀ i, i < k → (bs i).right = 0) (w : World) (h : BsL w A k bs) : Calls Tryz.prog 45 #[bunV p A k c] w (Ret (.int .i64 (rulesR p bs k)) w) := by
  have hrs := PV.ranged_spec (PV.right_ranged hp)
  unfold rulesR
  by_cases h16 : 16 < k
  · rw [if_pos h16]; exact rules_16 p bs k c A h16 w h
  · rw [if_neg h16, rule1_once]
    obtain ⟨x, hx⟩ := find_age bs k
    have KF : ∀ W, BsL W A k bs → Calls Tryz.prog 61 #[bunV p A k c, .int .i64 7] W (Ret (.tuple #[x.v, .bool (decide (cntB bs 7 k ≠ 0))]) W) := fun W hW => by rw [← hx]; exact Find_any p bs k c A 7 hk W hW
    have KO : ∀ W, BsL W A k bs → Calls Tryz.prog 63 #[.slice A k c] W (Ret (.bool (onceB bs k)) W) := fun W hW => once_any bs k c A (by omega) (fun i hi => right_wf (hbs i hi)) W hW
    cases k with
    | zero =>
      have := rules_let p bs 0 c A h16 x false (onceB bs 0) _ true KF (fun W hW => lasts_0 bs c A W) KO (fun e => by cases e) w h
      simpa using this
    | succ m =>
      have hm := hbs m (by omega)
      have hz := BV.right_zero hm
      have := rules_let p bs (m + 1) c A h16 x (decide ((bs m).ty = 1)) (onceB bs (m + 1)) _ (!(has p.fl 1 && decide (p.n < p.o + (bs m).data.length))) KF (fun W hW => lasts_S bs m c A (by omega) W hW) KO (fun _ W hW => fits_S p bs m c A (by omega) hf (by omega) (by omega) W hW) w h
      refine this.mono fun r w' hr => ?_
      have e : (if !decide ((bs m).ty = 1) || !onceB bs (m + 1) || (decide (p.t = 0) && !decide (cntB bs 7 (m + 1) ≠ 0)) || !!(has p.fl 1 && decide (p.n < p.o + (bs m).data.length)) then (8 : Int) else 0) =
          if (decide (m + 1 = 0) || !onceB bs (m + 1)) = true then 8 else if bunRule2 p bs (m + 1) = true then 8 else if bunRule3 p bs (m + 1) = true then 8 else 0 := by
        unfold bunRule2 bunRule3
        simp only [Nat.add_sub_cancel]
        cases onceB bs (m + 1) <;> by_cases ht : (bs m).ty = 1 <;> by_cases h0 : p.t = 0 <;> by_cases h7 : cntB bs 7 (m + 1) = 0 <;> cases has p.fl 1 <;> simp [ht, h0, h7]
      rw [← e]
      exact hr
set_option maxRecDepth 20000 in
set_option maxHeartbeats 1600000 in
theorem made_p (p : PV) (bs : Nat → BV) (k c : Nat) (A : Option Addr) (r : Int) (hr : r ≠ 0) (KP : Hid (∀ W, BsL W A k bs → Calls Tryz.prog 44 #[bunV p A k c] W (Ret (.int .i64 r) W))) (w : World) (h : BsL w A k bs) : Calls Tryz.prog 32 #[bunV p A k c] w (Ret (.tuple #[str [], .int .i64 r]) w) := by
  have HE := hid ((Mod.refl [] w).alloc (.cells (bunC p A k c) 29))
  have HB0 : Hid (Blk (w.alloc (.cells (bunC p A k c) 29)) w.heap.size 29 (bunC p A k c)) := hid (Blk.new w 29 (bunC p A k c))
  have HL := hid (BsL.ext h HE.out)
  clear h
  have ra : ((r) == (0)) = false := by rw [beq_eq_false_iff_ne]; exact hr
  have rb : ((r) = (0)) = False := eq_false (by exact hr)
  have rc : ((r) != (0)) = true := by rw [bne_iff_ne]; exact hr
  clear hr
  go_enter Tryz.func32, Tryz.ntmps32
  go_upto_region 1 with fail
  generalize (w.alloc (.cells (bunC p A k c) 29)) = V at *
  obtain ⟨e, he⟩ := Later.self V
  rw [he]
  clear he
  go_wp2_with (first | (refine wpList_row (by rfl) 29 _ rfl _ rfl (HB0.out.later _) Tryz.underlying29 rfl (by kernel_rfl) ?_) | (go_at_call 44; refine (Ret.later (KP.out _ (HL.out.ext (Later.h _)))).mono ?_; rintro x _ ⟨rfl, e, rfl⟩))
  go_ret2
  exact Ret.mk rfl (HE.out.trans (Later.h _))
set_option maxRecDepth 20000 in
set_option maxHeartbeats 1600000 in
theorem made_r (p : PV) (bs : Nat → BV) (k c : Nat) (A : Option Addr) (r : Int) (hr : r ≠ 0) (KP : Hid (∀ W, BsL W A k bs → Calls Tryz.prog 44 #[bunV p A k c] W (Ret (.int .i64 0) W))) (KR : Hid (∀ W, BsL W A k bs → Calls Tryz.prog 45 #[bunV p A k c] W (Ret (.int .i64 r) W))) (w : World) (h : BsL w A k bs) : Calls Tryz.prog 32 #[bunV p A k c] w (Ret (.tuple #[str [], .int .i64 r]) w) := by
  have HE := hid ((Mod.refl [] w).alloc (.cells (bunC p A k c) 29))
  have HB0 : Hid (Blk (w.alloc (.cells (bunC p A k c) 29)) w.heap.size 29 (bunC p A k c)) := hid (Blk.new w 29 (bunC p A k c))
  have HL := hid (BsL.ext h HE.out)
  clear h
  have ra : ((r) == (0)) = false := by rw [beq_eq_false_iff_ne]; exact hr
  have rb : ((r) = (0)) = False := eq_false (by exact hr)
  have rc : ((r) != (0)) = true := by rw [bne_iff_ne]; exact hr
  clear hr
  go_enter Tryz.func32, Tryz.ntmps32
  go_upto_region 1 with fail
  generalize (w.alloc (.cells (bunC p A k c) 29)) = V at *
  obtain ⟨e, he⟩ := Later.self V
  rw [he]
  clear he
  go_wp2_with (first | (refine wpList_row (by rfl) 29 _ rfl _ rfl (HB0.out.later _) Tryz.underlying29 rfl (by kernel_rfl) ?_) | (go_at_call 44; refine (Ret.later (KP.out _ (HL.out.ext (Later.h _)))).mono ?_; rintro x _ ⟨rfl, e, rfl⟩) | (go_at_call 45; refine (Ret.later (KR.out _ (HL.out.ext (Later.h _)))).mono ?_; rintro x _ ⟨rfl, e, rfl⟩))
  go_ret2
  exact Ret.mk rfl (HE.out.trans (Later.h _))
set_option maxRecDepth 20000 in
set_option maxHeartbeats 1600000 in
theorem made_l (p : PV) (bs : Nat → BV) (k c : Nat) (A : Option Addr) (BB : List UInt8) (hl : 4000 < BB.length) (KP : Hid (∀ W, BsL W A k bs → Calls Tryz.prog 44 #[bunV p A k c] W (Ret (.int .i64 0) W))) (KR : Hid (∀ W, BsL W A k bs → Calls Tryz.prog 45 #[bunV p A k c] W (Ret (.int .i64 0) W))) (KB : Hid (∀ W, BsL W A k bs → Calls Tryz.prog 46 #[bunV p A k c] W (Ret (str BB) W))) (w : World) (h : BsL w A k bs) : Calls Tryz.prog 32 #[bunV p A k c] w (Ret (.tuple #[str [], .int .i64 4]) w) := by
  have HE := hid ((Mod.refl [] w).alloc (.cells (bunC p A k c) 29))
  have HB0 : Hid (Blk (w.alloc (.cells (bunC p A k c) 29)) w.heap.size 29 (bunC p A k c)) := hid (Blk.new w 29 (bunC p A k c))
  have HL := hid (BsL.ext h HE.out)
  clear h
  have la : decide ((4000 : Int) < (BB.length : Int)) = true := decide_eq_true (by omega)
  have lb : ((4000 : Int) < (BB.length : Int)) = True := eq_true (by omega)
  have lc : decide (4000 < BB.length) = true := decide_eq_true hl
  clear hl
  go_enter Tryz.func32, Tryz.ntmps32
  go_upto_region 1 with fail
  generalize (w.alloc (.cells (bunC p A k c) 29)) = V at *
  obtain ⟨e, he⟩ := Later.self V
  rw [he]
  clear he
  go_wp2_with (first | (refine wpList_row (by rfl) 29 _ rfl _ rfl (HB0.out.later _) Tryz.underlying29 rfl (by kernel_rfl) ?_) | (go_at_call 44; refine (Ret.later (KP.out _ (HL.out.ext (Later.h _)))).mono ?_; rintro x _ ⟨rfl, e, rfl⟩) | (go_at_call 45; refine (Ret.later (KR.out _ (HL.out.ext (Later.h _)))).mono ?_; rintro x _ ⟨rfl, e, rfl⟩) | (go_at_call 46; refine (Ret.later (KB.out _ (HL.out.ext (Later.h _)))).mono ?_; rintro x _ ⟨rfl, e, rfl⟩))
  go_ret2
  exact Ret.mk rfl (HE.out.trans (Later.h _))
set_option maxRecDepth 20000 in
set_option maxHeartbeats 1600000 in
theorem made_0 (p : PV) (bs : Nat → BV) (k c : Nat) (A : Option Addr) (BB : List UInt8) (hl : ¬ 4000 < BB.length) (KP : Hid (∀ W, BsL W A k bs → Calls Tryz.prog 44 #[bunV p A k c] W (Ret (.int .i64 0) W))) (KR : Hid (∀ W, BsL W A k bs → Calls Tryz.prog 45 #[bunV p A k c] W (Ret (.int .i64 0) W))) (KB : Hid (∀ W, BsL W A k bs → Calls Tryz.prog 46 #[bunV p A k c] W (Ret (str BB) W))) (w : World) (h : BsL w A k bs) : Calls Tryz.prog 32 #[bunV p A k c] w (Ret (.tuple #[str BB, .int .i64 0]) w) := by
  have HE := hid ((Mod.refl [] w).alloc (.cells (bunC p A k c) 29))
  have HB0 : Hid (Blk (w.alloc (.cells (bunC p A k c) 29)) w.heap.size 29 (bunC p A k c)) := hid (Blk.new w 29 (bunC p A k c))
  have HL := hid (BsL.ext h HE.out)
  clear h
  have la : decide ((4000 : Int) < (BB.length : Int)) = false := decide_eq_false (by omega)
  have lb : ((4000 : Int) < (BB.length : Int)) = False := eq_false (by omega)
  have lc : decide (4000 < BB.length) = false := decide_eq_false hl
  clear hl
  go_enter Tryz.func32, Tryz.ntmps32
  go_upto_region 1 with fail
  generalize (w.alloc (.cells (bunC p A k c) 29)) = V at *
  obtain ⟨e, he⟩ := Later.self V
  rw [he]
  clear he
  go_wp2_with (first | (refine wpList_row (by rfl) 29 _ rfl _ rfl (HB0.out.later _) Tryz.underlying29 rfl (by kernel_rfl) ?_) | (go_at_call 44; refine (Ret.later (KP.out _ (HL.out.ext (Later.h _)))).mono ?_; rintro x _ ⟨rfl, e, rfl⟩) | (go_at_call 45; refine (Ret.later (KR.out _ (HL.out.ext (Later.h _)))).mono ?_; rintro x _ ⟨rfl, e, rfl⟩) | (go_at_call 46; refine (Ret.later (KB.out _ (HL.out.ext (Later.h _)))).mono ?_; rintro x _ ⟨rfl, e, rfl⟩))
  go_ret2
  exact Ret.mk rfl (HE.out.trans (Later.h _))
/-- What made hands back. -/
def madeV (p : PV) (bs : Nat → BV) (k : Nat) : Value := .tuple #[str (if bunRight p bs k = 0 then bunBytes p bs k else []), .int .i64 (bunRight p bs k)]
theorem made_any (p : PV) (bs : Nat → BV) (k c : Nat) (A : Option Addr) (hnl : Hid (p.d.name.length < 4611686018427387904 ∧ p.s.name.length < 4611686018427387904 ∧ p.r.name.length < 4611686018427387904)) (hf : p.fl < 18446744073709551616) (hk : k < 4611686018427387904) (w : World) (h : BsL w A k bs) : Calls Tryz.prog 32 #[bunV p A k c] w (Ret (madeV p bs k) w) := by
  have KP := hid (fun W (hW : BsL W A k bs) => bparts_any p bs k c A hnl hf hk W hW)
  unfold madeV
  by_cases hp : p.right = 0
  · cases hfo : firstOf (badAt bs) k with
    | some i =>
      have hb : (bs i).right ≠ 0 := by have := (firstOf_spec hfo).2.1; simpa [badAt] using this
      have e1 : partsR p bs k = (bs i).right := by unfold partsR; rw [if_neg (by simpa using hp), hfo]
      have e2 : bunRight p bs k = (bs i).right := by unfold bunRight; rw [if_neg (by simpa using hp), hfo]
      rw [e1] at KP
      rw [e2, if_neg hb]
      exact made_p p bs k c A _ hb KP w h
    | none =>
      have hbs : ∀ i, i < k → (bs i).right = 0 := fun i hi => bad_no (firstOf_no hfo i hi)
      have e1 : partsR p bs k = 0 := by unfold partsR; rw [if_neg (by simpa using hp), hfo]
      have e2 : bunRight p bs k = if rulesR p bs k ≠ 0 then rulesR p bs k else if 4000 < (bunBytes p bs k).length then 4 else 0 := by
        unfold bunRight rulesR
        rw [if_neg (show ¬ p.right ≠ 0 by simpa using hp), hfo]
        by_cases h16 : 16 < k
        · simp [h16]
        · cases bunRule1 bs k <;> cases bunRule2 p bs k <;> cases bunRule3 p bs k <;> simp [h16]
      rw [e1] at KP
      have KR := hid (fun W (hW : BsL W A k bs) => rules_any p bs k c A hf hk hp hbs W hW)
      by_cases hr : rulesR p bs k = 0
      · rw [hr] at KR
        have h16 : k ≤ 16 := by
          unfold rulesR at hr
          by_cases h16 : 16 < k
          · rw [if_pos h16] at hr; exact absurd hr (by decide)
          · omega
        have KB := hid (fun W (hW : BsL W A k bs) => bbuild_any p bs k c A hnl hf (by omega) hp hbs W hW)
        have e3 : bunRight p bs k = if 4000 < (bunBytes p bs k).length then 4 else 0 := by rw [e2, if_neg (show ¬ rulesR p bs k ≠ 0 by simpa using hr)]
        by_cases hl : 4000 < (bunBytes p bs k).length
        · rw [if_pos hl] at e3
          rw [e3, if_neg (show ¬ (4 : Int) = 0 by decide)]; exact made_l p bs k c A _ hl KP KR KB w h
        · rw [if_neg hl] at e3
          rw [e3, if_pos rfl]; exact made_0 p bs k c A _ hl KP KR KB w h
      · rw [e2, if_pos hr, if_neg hr]
        exact made_r p bs k c A _ hr KP KR w h
  · have e1 : partsR p bs k = p.right := by unfold partsR; rw [if_pos hp]
    have e2 : bunRight p bs k = p.right := by unfold bunRight; rw [if_pos hp]
    rw [e1] at KP
    rw [e2, if_neg hp]
    exact made_p p bs k c A _ hp KP w h
set_option maxRecDepth 20000 in
theorem cBunRight_any (p : PV) (bs : Nat → BV) (k c : Nat) (A : Option Addr) (hnl : Hid (p.d.name.length < 4611686018427387904 ∧ p.s.name.length < 4611686018427387904 ∧ p.r.name.length < 4611686018427387904)) (hf : p.fl < 18446744073709551616) (hk : k < 4611686018427387904) (w : World) (h : BsL w A k bs) : Calls Tryz.prog 35 #[bunV p A k c] w (Ret (.int .i64 (bunRight p bs k)) w) := by
  have KM := hid (fun W (hW : BsL W A k bs) => made_any p bs k c A hnl hf hk W hW)
  unfold madeV at KM
  generalize (if bunRight p bs k = 0 then bunBytes p bs k else []) = BB at *
  generalize bunRight p bs k = r at *
  have HE := hid ((Mod.refl [] w).alloc (.cells (bunC p A k c) 29))
  have HB0 : Hid (Blk (w.alloc (.cells (bunC p A k c) 29)) w.heap.size 29 (bunC p A k c)) := hid (Blk.new w 29 (bunC p A k c))
  have HL := hid (BsL.ext h HE.out)
  clear h
  go_enter Tryz.func35, Tryz.ntmps35
  go_upto_region 1 with fail
  generalize (w.alloc (.cells (bunC p A k c) 29)) = V at *
  obtain ⟨e, he⟩ := Later.self V
  rw [he]
  clear he
  go_wp2_with (first | (refine wpList_row (by rfl) 29 _ rfl _ rfl (HB0.out.later _) Tryz.underlying29 rfl (by kernel_rfl) ?_) | (go_at_call 32; refine (Ret.later (KM.out _ (HL.out.ext (Later.h _)))).mono ?_; rintro x _ ⟨rfl, e, rfl⟩))
  go_ret
  exact Ret.mk rfl (HE.out.trans (Later.h _))
set_option maxRecDepth 20000 in
theorem cBunBuild_any (p : PV) (bs : Nat → BV) (k c : Nat) (A : Option Addr) (hnl : Hid (p.d.name.length < 4611686018427387904 ∧ p.s.name.length < 4611686018427387904 ∧ p.r.name.length < 4611686018427387904)) (hf : p.fl < 18446744073709551616) (hk : k < 4611686018427387904) (w : World) (h : BsL w A k bs) : Calls Tryz.prog 15 #[bunV p A k c] w (Ret (madeV p bs k) w) := by
  have KM := hid (fun W (hW : BsL W A k bs) => made_any p bs k c A hnl hf hk W hW)
  unfold madeV at KM
  unfold madeV
  generalize (if bunRight p bs k = 0 then bunBytes p bs k else []) = BB at *
  generalize bunRight p bs k = r at *
  have HE := hid ((Mod.refl [] w).alloc (.cells (bunC p A k c) 29))
  have HB0 : Hid (Blk (w.alloc (.cells (bunC p A k c) 29)) w.heap.size 29 (bunC p A k c)) := hid (Blk.new w 29 (bunC p A k c))
  have HL := hid (BsL.ext h HE.out)
  clear h
  go_enter Tryz.func15, Tryz.ntmps15
  go_upto_region 1 with fail
  generalize (w.alloc (.cells (bunC p A k c) 29)) = V at *
  obtain ⟨e, he⟩ := Later.self V
  rw [he]
  clear he
  go_wp2_with (first | (refine wpList_row (by rfl) 29 _ rfl _ rfl (HB0.out.later _) Tryz.underlying29 rfl (by kernel_rfl) ?_) | (go_at_call 32; refine (Ret.later (KM.out _ (HL.out.ext (Later.h _)))).mono ?_; rintro x _ ⟨rfl, e, rfl⟩))
  go_ret2
  exact Ret.mk rfl (HE.out.trans (Later.h _))
end Go.Proofs.YtkeabdfgacicaaaGreat


namespace Go.Proofs.YtkeabdfgacicaaaGreat
open Go.RowKit
set_option linter.unusedVariables false
set_option linter.unusedSimpArgs false

/-- The zero bundle's cells. -/
def zeroBun : Array Value := #[.int .u64 0, .int .i64 0, .int .i64 0, .string ⟨#[]⟩, .int .u64 0, .int .u64 0, .int .i64 0, .string ⟨#[]⟩, .int .u64 0, .int .u64 0, .int .i64 0, .string ⟨#[]⟩, .int .u64 0, .int .u64 0, .int .u64 0, .int .u64 0, .int .u64 0, .int .u64 0, .int .u64 0, .slice none 0 0]
/-- What checked hands back. -/
def chkV (p : PV) (A : Option Addr) (k c : Nat) (r : Int) : Value := if r = 0 then .tuple #[bunV p A k c, .int .i64 0] else .tuple #[.agg zeroBun, .int .i64 r]
theorem chkV_0 {p : PV} {A : Option Addr} {k c : Nat} {r : Int} (h : r = 0) : chkV p A k c r = .tuple #[bunV p A k c, .int .i64 0] := if_pos h
theorem chkV_no {p : PV} {A : Option Addr} {k c : Nat} {r : Int} (h : r ≠ 0) : chkV p A k c r = .tuple #[.agg zeroBun, .int .i64 r] := if_neg h
set_option maxRecDepth 20000 in
set_option maxHeartbeats 1600000 in
theorem checked_ok (p : PV) (bs' : Nat → BV) (k c k' c' : Nat) (A A' : Option Addr) (hnl : Hid (p.d.name.length < 4611686018427387904 ∧ p.s.name.length < 4611686018427387904 ∧ p.r.name.length < 4611686018427387904)) (hf : p.fl < 18446744073709551616) (hk : k' < 4611686018427387904) (hr : bunRight p bs' k' = 0) (w : World) (h : BsL w A' k' bs') (hlt : ∀ kk o', A' = some ⟨kk, o', none⟩ → kk < w.heap.size) : Calls Tryz.prog 20 #[bunV p A k c, .slice A' k' c'] w (Ret ((.tuple #[bunV p A' k' c', .int .i64 0] : Value)) w) := by
  have KR := hid (fun W (hW : BsL W A' k' bs') => cBunRight_any p bs' k' c' A' hnl hf hk W hW)
  rw [hr] at KR
  clear hr
  have HLT := hid hlt
  clear hlt hk
  have HE := hid (((Mod.refl [] w).alloc (.cells (bunC p A k c) 29)).alloc (.cells #[.int .u64 0, .int .i64 0, .int .i64 0, .string ⟨#[]⟩, .int .u64 0, .int .u64 0, .int .i64 0, .string ⟨#[]⟩, .int .u64 0, .int .u64 0, .int .i64 0, .string ⟨#[]⟩, .int .u64 0, .int .u64 0, .int .u64 0, .int .u64 0, .int .u64 0, .int .u64 0, .int .u64 0, .slice none 0 0] 29))
  have HB0 : Hid (Blk ((w.alloc (.cells (bunC p A k c) 29)).alloc (.cells #[.int .u64 0, .int .i64 0, .int .i64 0, .string ⟨#[]⟩, .int .u64 0, .int .u64 0, .int .i64 0, .string ⟨#[]⟩, .int .u64 0, .int .u64 0, .int .i64 0, .string ⟨#[]⟩, .int .u64 0, .int .u64 0, .int .u64 0, .int .u64 0, .int .u64 0, .int .u64 0, .int .u64 0, .slice none 0 0] 29)) w.heap.size 29 (bunC p A k c)) := hid ((Blk.new w 29 (bunC p A k c)).alloc (.cells #[.int .u64 0, .int .i64 0, .int .i64 0, .string ⟨#[]⟩, .int .u64 0, .int .u64 0, .int .i64 0, .string ⟨#[]⟩, .int .u64 0, .int .u64 0, .int .i64 0, .string ⟨#[]⟩, .int .u64 0, .int .u64 0, .int .u64 0, .int .u64 0, .int .u64 0, .int .u64 0, .int .u64 0, .slice none 0 0] 29))
  have HB1 : Hid (Blk ((w.alloc (.cells (bunC p A k c) 29)).alloc (.cells #[.int .u64 0, .int .i64 0, .int .i64 0, .string ⟨#[]⟩, .int .u64 0, .int .u64 0, .int .i64 0, .string ⟨#[]⟩, .int .u64 0, .int .u64 0, .int .i64 0, .string ⟨#[]⟩, .int .u64 0, .int .u64 0, .int .u64 0, .int .u64 0, .int .u64 0, .int .u64 0, .int .u64 0, .slice none 0 0] 29)) (w.heap.size + 1) 29 #[.int .u64 0, .int .i64 0, .int .i64 0, .string ⟨#[]⟩, .int .u64 0, .int .u64 0, .int .i64 0, .string ⟨#[]⟩, .int .u64 0, .int .u64 0, .int .i64 0, .string ⟨#[]⟩, .int .u64 0, .int .u64 0, .int .u64 0, .int .u64 0, .int .u64 0, .int .u64 0, .int .u64 0, .slice none 0 0]) := by unfold Hid; exact Blk.newL _ _ _ (by simp)
  have HL := hid (BsL.ext h HE.out)
  clear h
  go_enter Tryz.func20, Tryz.ntmps20
  go_upto_region 1 with fail
  generalize ((w.alloc (.cells (bunC p A k c) 29)).alloc (.cells #[.int .u64 0, .int .i64 0, .int .i64 0, .string ⟨#[]⟩, .int .u64 0, .int .u64 0, .int .i64 0, .string ⟨#[]⟩, .int .u64 0, .int .u64 0, .int .i64 0, .string ⟨#[]⟩, .int .u64 0, .int .u64 0, .int .u64 0, .int .u64 0, .int .u64 0, .int .u64 0, .int .u64 0, .slice none 0 0] 29)) = V at *
  have b19 : V.cell? ⟨w.heap.size, 19, none⟩ = some (.slice A k c) := HB0.out.cell 19
  have b19f : V.frozen? ⟨w.heap.size, 19, none⟩ = false := HB0.out.frozen 19
  go_upto_region 2 with fail
  generalize hU : World.setCell V _ _ = U
  have HX : Hid (Blk U w.heap.size 29 (bunC p A' k' c')) := hid (by rw [← hU]; exact HB0.out.set_ 19 (.slice A' k' c'))
  have HR : Hid (Blk U (w.heap.size + 1) 29 #[.int .u64 0, .int .i64 0, .int .i64 0, .string ⟨#[]⟩, .int .u64 0, .int .u64 0, .int .i64 0, .string ⟨#[]⟩, .int .u64 0, .int .u64 0, .int .i64 0, .string ⟨#[]⟩, .int .u64 0, .int .u64 0, .int .u64 0, .int .u64 0, .int .u64 0, .int .u64 0, .int .u64 0, .slice none 0 0]) := hid (by rw [← hU]; exact HB1.out.far (by simp) _)
  have HU : Hid (Ext w U) := hid (by rw [← hU]; exact HE.out.setCell (.inr (Nat.le_refl _)) _)
  have HLU : Hid (BsL U A' k' bs') := hid (by
    intro hn
    obtain ⟨bb, oo, hA, hbl, hcc⟩ := HL.out hn
    have hlt := HLT.out bb oo hA
    rw [← hU]
    exact ⟨bb, oo, hA, Nat.lt_of_lt_of_le hbl (by simp [World.setCell]), fun j hj => (hcc j hj).mod (S := [w.heap.size]) (Mod.setCell (Mod.refl _ _) (.inl (by simp)) _) hbl (by simp; omega)⟩)
  clear hU b19 b19f HB0 HB1 HL HE
  obtain ⟨e, he⟩ := Later.self U
  rw [he]
  clear he
  go_wp2_with (first | (go_at_call 35; refine (Ret.later (KR.out _ (HLU.out.ext (Later.h _)))).mono ?_; rintro x _ ⟨rfl, e, rfl⟩) | (refine wpList_row (by rfl) 29 _ rfl _ rfl (HX.out.later _) Tryz.underlying29 rfl (by kernel_rfl) ?_) | (refine wpList_store_mid rfl 29 _ _ rfl (w.heap.size + 1) 0 (bunC p A' k' c') (by rfl) (by rfl) ((HR.out.later e).there (Nat.le_refl 20)) (by kernel_rfl) (by simp [Value.oneCell']) ?_))
  generalize hZ : World.setCells _ _ _ _ = Z
  have HZB : Hid (Blk Z (w.heap.size + 1) 29 (bunC p A' k' c')) := hid (by rw [← hZ]; exact setCells_all (ds := (bunC p A' k' c')) (HR.out.later e) rfl)
  have HZM : Hid (Ext w Z) := hid (by rw [← hZ]; exact setCells_mod _ _ (HU.out.trans e.h) (.inr (by simp)))
  clear hZ
  refine bodyPost_ret (v := (.tuple #[bunV p A' k' c', .int .i64 0] : Value)) (results_cell2 Tryz.results20 _ rfl rfl HZB.out Tryz.underlying29 rfl (by kernel_rfl)) rfl (Ret.mk rfl HZM.out)
set_option maxRecDepth 20000 in
set_option maxHeartbeats 1600000 in
theorem checked_no (p : PV) (bs' : Nat → BV) (k c k' c' : Nat) (A A' : Option Addr) (hnl : Hid (p.d.name.length < 4611686018427387904 ∧ p.s.name.length < 4611686018427387904 ∧ p.r.name.length < 4611686018427387904)) (hf : p.fl < 18446744073709551616) (hk : k' < 4611686018427387904) (r : Int) (hr : bunRight p bs' k' = r) (h0 : r ≠ 0) (w : World) (h : BsL w A' k' bs') (hlt : ∀ kk o', A' = some ⟨kk, o', none⟩ → kk < w.heap.size) : Calls Tryz.prog 20 #[bunV p A k c, .slice A' k' c'] w (Ret ((.tuple #[.agg #[.int .u64 0, .int .i64 0, .int .i64 0, .string ⟨#[]⟩, .int .u64 0, .int .u64 0, .int .i64 0, .string ⟨#[]⟩, .int .u64 0, .int .u64 0, .int .i64 0, .string ⟨#[]⟩, .int .u64 0, .int .u64 0, .int .u64 0, .int .u64 0, .int .u64 0, .int .u64 0, .int .u64 0, .slice none 0 0], .int .i64 r] : Value)) w) := by
  have KR := hid (fun W (hW : BsL W A' k' bs') => cBunRight_any p bs' k' c' A' hnl hf hk W hW)
  rw [hr] at KR
  have ra : ((r) == (0)) = false := by rw [beq_eq_false_iff_ne]; exact h0
  have rb : ((r) = (0)) = False := eq_false (by exact h0)
  have rc : ((r) != (0)) = true := by rw [bne_iff_ne]; exact h0
  clear hr h0
  have HLT := hid hlt
  clear hlt hk
  have HE := hid (((Mod.refl [] w).alloc (.cells (bunC p A k c) 29)).alloc (.cells #[.int .u64 0, .int .i64 0, .int .i64 0, .string ⟨#[]⟩, .int .u64 0, .int .u64 0, .int .i64 0, .string ⟨#[]⟩, .int .u64 0, .int .u64 0, .int .i64 0, .string ⟨#[]⟩, .int .u64 0, .int .u64 0, .int .u64 0, .int .u64 0, .int .u64 0, .int .u64 0, .int .u64 0, .slice none 0 0] 29))
  have HB0 : Hid (Blk ((w.alloc (.cells (bunC p A k c) 29)).alloc (.cells #[.int .u64 0, .int .i64 0, .int .i64 0, .string ⟨#[]⟩, .int .u64 0, .int .u64 0, .int .i64 0, .string ⟨#[]⟩, .int .u64 0, .int .u64 0, .int .i64 0, .string ⟨#[]⟩, .int .u64 0, .int .u64 0, .int .u64 0, .int .u64 0, .int .u64 0, .int .u64 0, .int .u64 0, .slice none 0 0] 29)) w.heap.size 29 (bunC p A k c)) := hid ((Blk.new w 29 (bunC p A k c)).alloc (.cells #[.int .u64 0, .int .i64 0, .int .i64 0, .string ⟨#[]⟩, .int .u64 0, .int .u64 0, .int .i64 0, .string ⟨#[]⟩, .int .u64 0, .int .u64 0, .int .i64 0, .string ⟨#[]⟩, .int .u64 0, .int .u64 0, .int .u64 0, .int .u64 0, .int .u64 0, .int .u64 0, .int .u64 0, .slice none 0 0] 29))
  have HB1 : Hid (Blk ((w.alloc (.cells (bunC p A k c) 29)).alloc (.cells #[.int .u64 0, .int .i64 0, .int .i64 0, .string ⟨#[]⟩, .int .u64 0, .int .u64 0, .int .i64 0, .string ⟨#[]⟩, .int .u64 0, .int .u64 0, .int .i64 0, .string ⟨#[]⟩, .int .u64 0, .int .u64 0, .int .u64 0, .int .u64 0, .int .u64 0, .int .u64 0, .int .u64 0, .slice none 0 0] 29)) (w.heap.size + 1) 29 #[.int .u64 0, .int .i64 0, .int .i64 0, .string ⟨#[]⟩, .int .u64 0, .int .u64 0, .int .i64 0, .string ⟨#[]⟩, .int .u64 0, .int .u64 0, .int .i64 0, .string ⟨#[]⟩, .int .u64 0, .int .u64 0, .int .u64 0, .int .u64 0, .int .u64 0, .int .u64 0, .int .u64 0, .slice none 0 0]) := by unfold Hid; exact Blk.newL _ _ _ (by simp)
  have HL := hid (BsL.ext h HE.out)
  clear h
  go_enter Tryz.func20, Tryz.ntmps20
  go_upto_region 1 with fail
  generalize ((w.alloc (.cells (bunC p A k c) 29)).alloc (.cells #[.int .u64 0, .int .i64 0, .int .i64 0, .string ⟨#[]⟩, .int .u64 0, .int .u64 0, .int .i64 0, .string ⟨#[]⟩, .int .u64 0, .int .u64 0, .int .i64 0, .string ⟨#[]⟩, .int .u64 0, .int .u64 0, .int .u64 0, .int .u64 0, .int .u64 0, .int .u64 0, .int .u64 0, .slice none 0 0] 29)) = V at *
  have b19 : V.cell? ⟨w.heap.size, 19, none⟩ = some (.slice A k c) := HB0.out.cell 19
  have b19f : V.frozen? ⟨w.heap.size, 19, none⟩ = false := HB0.out.frozen 19
  go_upto_region 2 with fail
  generalize hU : World.setCell V _ _ = U
  have HX : Hid (Blk U w.heap.size 29 (bunC p A' k' c')) := hid (by rw [← hU]; exact HB0.out.set_ 19 (.slice A' k' c'))
  have HR : Hid (Blk U (w.heap.size + 1) 29 #[.int .u64 0, .int .i64 0, .int .i64 0, .string ⟨#[]⟩, .int .u64 0, .int .u64 0, .int .i64 0, .string ⟨#[]⟩, .int .u64 0, .int .u64 0, .int .i64 0, .string ⟨#[]⟩, .int .u64 0, .int .u64 0, .int .u64 0, .int .u64 0, .int .u64 0, .int .u64 0, .int .u64 0, .slice none 0 0]) := hid (by rw [← hU]; exact HB1.out.far (by simp) _)
  have HU : Hid (Ext w U) := hid (by rw [← hU]; exact HE.out.setCell (.inr (Nat.le_refl _)) _)
  have HLU : Hid (BsL U A' k' bs') := hid (by
    intro hn
    obtain ⟨bb, oo, hA, hbl, hcc⟩ := HL.out hn
    have hlt := HLT.out bb oo hA
    rw [← hU]
    exact ⟨bb, oo, hA, Nat.lt_of_lt_of_le hbl (by simp [World.setCell]), fun j hj => (hcc j hj).mod (S := [w.heap.size]) (Mod.setCell (Mod.refl _ _) (.inl (by simp)) _) hbl (by simp; omega)⟩)
  clear hU b19 b19f HB0 HB1 HL HE
  obtain ⟨e, he⟩ := Later.self U
  rw [he]
  clear he
  go_wp2_with (first | (go_at_call 35; refine (Ret.later (KR.out _ (HLU.out.ext (Later.h _)))).mono ?_; rintro x _ ⟨rfl, e, rfl⟩) | (refine wpList_row (by rfl) 29 _ rfl _ rfl (HX.out.later _) Tryz.underlying29 rfl (by kernel_rfl) ?_) | (refine wpList_store_mid rfl 29 _ _ rfl (w.heap.size + 1) 0 #[.int .u64 0, .int .i64 0, .int .i64 0, .string ⟨#[]⟩, .int .u64 0, .int .u64 0, .int .i64 0, .string ⟨#[]⟩, .int .u64 0, .int .u64 0, .int .i64 0, .string ⟨#[]⟩, .int .u64 0, .int .u64 0, .int .u64 0, .int .u64 0, .int .u64 0, .int .u64 0, .int .u64 0, .slice none 0 0] (by rfl) (by rfl) ((HR.out.later e).there (Nat.le_refl 20)) (by kernel_rfl) (by simp [Value.oneCell']) ?_))
  generalize hZ : World.setCells _ _ _ _ = Z
  have HZB : Hid (Blk Z (w.heap.size + 1) 29 #[.int .u64 0, .int .i64 0, .int .i64 0, .string ⟨#[]⟩, .int .u64 0, .int .u64 0, .int .i64 0, .string ⟨#[]⟩, .int .u64 0, .int .u64 0, .int .i64 0, .string ⟨#[]⟩, .int .u64 0, .int .u64 0, .int .u64 0, .int .u64 0, .int .u64 0, .int .u64 0, .int .u64 0, .slice none 0 0]) := hid (by rw [← hZ]; exact setCells_all (ds := #[.int .u64 0, .int .i64 0, .int .i64 0, .string ⟨#[]⟩, .int .u64 0, .int .u64 0, .int .i64 0, .string ⟨#[]⟩, .int .u64 0, .int .u64 0, .int .i64 0, .string ⟨#[]⟩, .int .u64 0, .int .u64 0, .int .u64 0, .int .u64 0, .int .u64 0, .int .u64 0, .int .u64 0, .slice none 0 0]) (HR.out.later e) rfl)
  have HZM : Hid (Ext w Z) := hid (by rw [← hZ]; exact setCells_mod _ _ (HU.out.trans e.h) (.inr (by simp)))
  clear hZ
  refine bodyPost_ret (v := (.tuple #[.agg #[.int .u64 0, .int .i64 0, .int .i64 0, .string ⟨#[]⟩, .int .u64 0, .int .u64 0, .int .i64 0, .string ⟨#[]⟩, .int .u64 0, .int .u64 0, .int .i64 0, .string ⟨#[]⟩, .int .u64 0, .int .u64 0, .int .u64 0, .int .u64 0, .int .u64 0, .int .u64 0, .int .u64 0, .slice none 0 0], .int .i64 r] : Value)) (results_cell2 Tryz.results20 _ rfl rfl HZB.out Tryz.underlying29 rfl (by kernel_rfl)) rfl (Ret.mk rfl HZM.out)
theorem checked_any (p : PV) (bs' : Nat → BV) (k c k' c' : Nat) (A A' : Option Addr) (hnl : Hid (p.d.name.length < 4611686018427387904 ∧ p.s.name.length < 4611686018427387904 ∧ p.r.name.length < 4611686018427387904)) (hf : p.fl < 18446744073709551616) (hk : k' < 4611686018427387904) (w : World) (h : BsL w A' k' bs') (hlt : ∀ kk o', A' = some ⟨kk, o', none⟩ → kk < w.heap.size) : Calls Tryz.prog 20 #[bunV p A k c, .slice A' k' c'] w (Ret (chkV p A' k' c' (bunRight p bs' k')) w) := by
  by_cases hr : bunRight p bs' k' = 0
  · rw [chkV_0 hr]; exact checked_ok p bs' k c k' c' A A' hnl hf hk hr w h hlt
  · rw [chkV_no hr]; exact checked_no p bs' k c k' c' A A' hnl hf hk _ rfl hr w h hlt
end Go.Proofs.YtkeabdfgacicaaaGreat


namespace Go.Proofs.YtkeabdfgacicaaaGreat
open Go.RowKit
set_option linter.unusedVariables false
set_option linter.unusedSimpArgs false

/-- A struct result of 20 cells and an error. -/
theorem chk_cells (p : PV) (A : Option Addr) (k c : Nat) (r : Int) : ∃ (zc : Array Value) (r' : Int), chkV p A k c r = .tuple #[.agg zc, .int .i64 r'] ∧ (Tryz.prog.info? 29).map (·.size) = some zc.size ∧ zc.all (·.oneCell') = true ∧ zc.size = 20 := by
  by_cases h : r = 0
  · rw [chkV_0 h]; exact ⟨bunC p A k c, 0, rfl, by kernel_rfl, by simp [Value.oneCell'], rfl⟩
  · rw [chkV_no h]; exact ⟨zeroBun, r, rfl, by kernel_rfl, by simp [zeroBun, Value.oneCell'], rfl⟩
/-- What turned in a block that is new does not count. -/
theorem modg {V w1 w2 : World} {r g : Nat} (h1 : Mod [r] V w1) (h2 : Mod [g] w1 w2) (hg : V.heap.size ≤ g) : Mod [r] V w2 :=
  Mod.new (S := [r, g]) ((h1.mono (fun k hk => by simp at hk; simp [hk])).trans (h2.mono (fun k hk => by simp at hk; simp [hk]))) (fun k hk => by
    simp at hk
    rcases hk with rfl | rfl
    · exact .inl (by simp)
    · exact .inr hg)
set_option maxRecDepth 20000 in
set_option maxHeartbeats 1600000 in
theorem Drop_none (p : PV) (bs : Nat → BV) (k c : Nat) (A : Option Addr) (n : Int) (hk : k < 4611686018427387904) (hno : firstOf (numB bs n) k = none) (w : World) (h : BsL w A k bs) : Calls Tryz.prog 10 #[bunV p A k c, .int .i64 n] w (Ret (.tuple #[.agg zeroBun, .int .i64 15]) w) := by
  have KA := hid (fun W (hW : BsL W A k bs) => at_any p bs k c A n hk W hW)
  unfold firstI at KA
  rw [hno] at KA
  have HE := hid (((Mod.refl [] w).alloc (.cells (bunC p A k c) 29)).alloc (.cells #[.int .u64 0, .int .i64 0, .int .i64 0, .string ⟨#[]⟩, .int .u64 0, .int .u64 0, .int .i64 0, .string ⟨#[]⟩, .int .u64 0, .int .u64 0, .int .i64 0, .string ⟨#[]⟩, .int .u64 0, .int .u64 0, .int .u64 0, .int .u64 0, .int .u64 0, .int .u64 0, .int .u64 0, .slice none 0 0] 29))
  have HB0 : Hid (Blk ((w.alloc (.cells (bunC p A k c) 29)).alloc (.cells #[.int .u64 0, .int .i64 0, .int .i64 0, .string ⟨#[]⟩, .int .u64 0, .int .u64 0, .int .i64 0, .string ⟨#[]⟩, .int .u64 0, .int .u64 0, .int .i64 0, .string ⟨#[]⟩, .int .u64 0, .int .u64 0, .int .u64 0, .int .u64 0, .int .u64 0, .int .u64 0, .int .u64 0, .slice none 0 0] 29)) w.heap.size 29 (bunC p A k c)) := hid ((Blk.new w 29 (bunC p A k c)).alloc (.cells #[.int .u64 0, .int .i64 0, .int .i64 0, .string ⟨#[]⟩, .int .u64 0, .int .u64 0, .int .i64 0, .string ⟨#[]⟩, .int .u64 0, .int .u64 0, .int .i64 0, .string ⟨#[]⟩, .int .u64 0, .int .u64 0, .int .u64 0, .int .u64 0, .int .u64 0, .int .u64 0, .int .u64 0, .slice none 0 0] 29))
  have HB1 : Hid (Blk ((w.alloc (.cells (bunC p A k c) 29)).alloc (.cells #[.int .u64 0, .int .i64 0, .int .i64 0, .string ⟨#[]⟩, .int .u64 0, .int .u64 0, .int .i64 0, .string ⟨#[]⟩, .int .u64 0, .int .u64 0, .int .i64 0, .string ⟨#[]⟩, .int .u64 0, .int .u64 0, .int .u64 0, .int .u64 0, .int .u64 0, .int .u64 0, .int .u64 0, .slice none 0 0] 29)) (w.heap.size + 1) 29 #[.int .u64 0, .int .i64 0, .int .i64 0, .string ⟨#[]⟩, .int .u64 0, .int .u64 0, .int .i64 0, .string ⟨#[]⟩, .int .u64 0, .int .u64 0, .int .i64 0, .string ⟨#[]⟩, .int .u64 0, .int .u64 0, .int .u64 0, .int .u64 0, .int .u64 0, .int .u64 0, .int .u64 0, .slice none 0 0]) := by unfold Hid; exact Blk.newL _ _ _ (by simp)
  have HL := hid (BsL.ext h HE.out)
  clear h hno hk
  go_enter Tryz.func10, Tryz.ntmps10
  go_upto_region 1 with fail
  generalize ((w.alloc (.cells (bunC p A k c) 29)).alloc (.cells #[.int .u64 0, .int .i64 0, .int .i64 0, .string ⟨#[]⟩, .int .u64 0, .int .u64 0, .int .i64 0, .string ⟨#[]⟩, .int .u64 0, .int .u64 0, .int .i64 0, .string ⟨#[]⟩, .int .u64 0, .int .u64 0, .int .u64 0, .int .u64 0, .int .u64 0, .int .u64 0, .int .u64 0, .slice none 0 0] 29)) = V at *
  obtain ⟨e, he⟩ := Later.self V
  rw [he]
  clear he
  go_wp2_with (first | (go_at_call 23; refine (Ret.later (KA.out _ (HL.out.ext (Later.h _)))).mono ?_; rintro x _ ⟨rfl, e, rfl⟩) | (refine wpList_row (by rfl) 29 _ rfl _ rfl (HB0.out.later _) Tryz.underlying29 rfl (by kernel_rfl) ?_) | (refine wpList_store_mid rfl 29 _ _ rfl (w.heap.size + 1) 0 #[.int .u64 0, .int .i64 0, .int .i64 0, .string ⟨#[]⟩, .int .u64 0, .int .u64 0, .int .i64 0, .string ⟨#[]⟩, .int .u64 0, .int .u64 0, .int .i64 0, .string ⟨#[]⟩, .int .u64 0, .int .u64 0, .int .u64 0, .int .u64 0, .int .u64 0, .int .u64 0, .int .u64 0, .slice none 0 0] (by rfl) (by rfl) ((HB1.out.later e).there (Nat.le_refl 20)) (by kernel_rfl) (by simp [Value.oneCell']) ?_))
  generalize hZ : World.setCells _ _ _ _ = Z
  have HZB : Hid (Blk Z (w.heap.size + 1) 29 #[.int .u64 0, .int .i64 0, .int .i64 0, .string ⟨#[]⟩, .int .u64 0, .int .u64 0, .int .i64 0, .string ⟨#[]⟩, .int .u64 0, .int .u64 0, .int .i64 0, .string ⟨#[]⟩, .int .u64 0, .int .u64 0, .int .u64 0, .int .u64 0, .int .u64 0, .int .u64 0, .int .u64 0, .slice none 0 0]) := hid (by rw [← hZ]; exact setCells_all (ds := #[.int .u64 0, .int .i64 0, .int .i64 0, .string ⟨#[]⟩, .int .u64 0, .int .u64 0, .int .i64 0, .string ⟨#[]⟩, .int .u64 0, .int .u64 0, .int .i64 0, .string ⟨#[]⟩, .int .u64 0, .int .u64 0, .int .u64 0, .int .u64 0, .int .u64 0, .int .u64 0, .int .u64 0, .slice none 0 0]) (HB1.out.later e) rfl)
  have HZM : Hid (Ext w Z) := hid (by rw [← hZ]; exact setCells_mod _ _ (HE.out.trans e.h) (.inr (by simp)))
  clear hZ
  exact bodyPost_ret (v := .tuple #[.agg #[.int .u64 0, .int .i64 0, .int .i64 0, .string ⟨#[]⟩, .int .u64 0, .int .u64 0, .int .i64 0, .string ⟨#[]⟩, .int .u64 0, .int .u64 0, .int .i64 0, .string ⟨#[]⟩, .int .u64 0, .int .u64 0, .int .u64 0, .int .u64 0, .int .u64 0, .int .u64 0, .int .u64 0, .slice none 0 0], .int .i64 15]) (results_cell2 Tryz.results10 _ rfl rfl HZB.out Tryz.underlying29 rfl (by kernel_rfl)) rfl (Ret.mk rfl HZM.out)
set_option maxRecDepth 20000 in
set_option maxHeartbeats 4000000 in
theorem Drop_some (p : PV) (bs : Nat → BV) (k c : Nat) (A : Option Addr) (n : Int) (hnl : Hid (p.d.name.length < 4611686018427387904 ∧ p.s.name.length < 4611686018427387904 ∧ p.r.name.length < 4611686018427387904)) (hf : p.fl < 18446744073709551616) (hk : k ≤ 100000) (i : Nat) (hsome : firstOf (numB bs n) k = some i) (w : World) (h : BsL w A k bs) : Calls Tryz.prog 10 #[bunV p A k c, .int .i64 n] w (fun e w' => ∃ A' c', e = .returned (chkV p A' (k - 1) c' (bunRight p (delB bs i) (k - 1))) ∧ Ext w w' ∧ BsL w' A' (k - 1) (delB bs i) ∧ SlA A' (k - 1) c') := by
  have hi := (firstOf_spec hsome).1
  have KA := hid (fun W (hW : BsL W A k bs) => at_any p bs k c A n (by omega) W hW)
  unfold firstI at KA
  rw [hsome] at KA
  have KC := hid (fun W (hW : BsL W A k bs) => CloneB_any bs k (by unfold Hid; omega) A c W hW)
  have hw1 : IntKind.i64.wrap ((i : Int) + 1) = (i : Int) + 1 := IntWalk.i64_in _ (by omega)
  have KD := hid (fun W base g c' hown => DelB_any bs base g k c' i hi hk W hown)
  rw [← hw1] at KD
  clear hw1
  have KK := hid (fun W A' c' (hW : BsL W A' (k - 1) (delB bs i)) hlt => checked_any p (delB bs i) k c (k - 1) c' A A' hnl hf (by omega) W hW hlt)
  have HE := hid (((Mod.refl [] w).alloc (.cells (bunC p A k c) 29)).alloc (.cells #[.int .u64 0, .int .i64 0, .int .i64 0, .string ⟨#[]⟩, .int .u64 0, .int .u64 0, .int .i64 0, .string ⟨#[]⟩, .int .u64 0, .int .u64 0, .int .i64 0, .string ⟨#[]⟩, .int .u64 0, .int .u64 0, .int .u64 0, .int .u64 0, .int .u64 0, .int .u64 0, .int .u64 0, .slice none 0 0] 29))
  have HB0 : Hid (Blk ((w.alloc (.cells (bunC p A k c) 29)).alloc (.cells #[.int .u64 0, .int .i64 0, .int .i64 0, .string ⟨#[]⟩, .int .u64 0, .int .u64 0, .int .i64 0, .string ⟨#[]⟩, .int .u64 0, .int .u64 0, .int .i64 0, .string ⟨#[]⟩, .int .u64 0, .int .u64 0, .int .u64 0, .int .u64 0, .int .u64 0, .int .u64 0, .int .u64 0, .slice none 0 0] 29)) w.heap.size 29 (bunC p A k c)) := hid ((Blk.new w 29 (bunC p A k c)).alloc (.cells #[.int .u64 0, .int .i64 0, .int .i64 0, .string ⟨#[]⟩, .int .u64 0, .int .u64 0, .int .i64 0, .string ⟨#[]⟩, .int .u64 0, .int .u64 0, .int .i64 0, .string ⟨#[]⟩, .int .u64 0, .int .u64 0, .int .u64 0, .int .u64 0, .int .u64 0, .int .u64 0, .int .u64 0, .slice none 0 0] 29))
  have HB1 : Hid (Blk ((w.alloc (.cells (bunC p A k c) 29)).alloc (.cells #[.int .u64 0, .int .i64 0, .int .i64 0, .string ⟨#[]⟩, .int .u64 0, .int .u64 0, .int .i64 0, .string ⟨#[]⟩, .int .u64 0, .int .u64 0, .int .i64 0, .string ⟨#[]⟩, .int .u64 0, .int .u64 0, .int .u64 0, .int .u64 0, .int .u64 0, .int .u64 0, .int .u64 0, .slice none 0 0] 29)) (w.heap.size + 1) 29 #[.int .u64 0, .int .i64 0, .int .i64 0, .string ⟨#[]⟩, .int .u64 0, .int .u64 0, .int .i64 0, .string ⟨#[]⟩, .int .u64 0, .int .u64 0, .int .i64 0, .string ⟨#[]⟩, .int .u64 0, .int .u64 0, .int .u64 0, .int .u64 0, .int .u64 0, .int .u64 0, .int .u64 0, .slice none 0 0]) := by unfold Hid; exact Blk.newL _ _ _ (by simp)
  have HL := hid (BsL.ext h HE.out)
  have i0 : (0 : Int) ≤ (i : Int) := by omega
  have i1 : (i : Int) ≤ 100000 := by omega
  have t1 : decide ((i : Int) < 0) = false := by simp
  have t2 : ((i : Int) < 0) = False := eq_false (by omega)
  have HLW := hid h
  clear h hsome hk hf hi
  go_enter Tryz.func10, Tryz.ntmps10
  go_upto_region 1 with fail
  generalize ((w.alloc (.cells (bunC p A k c) 29)).alloc (.cells #[.int .u64 0, .int .i64 0, .int .i64 0, .string ⟨#[]⟩, .int .u64 0, .int .u64 0, .int .i64 0, .string ⟨#[]⟩, .int .u64 0, .int .u64 0, .int .i64 0, .string ⟨#[]⟩, .int .u64 0, .int .u64 0, .int .u64 0, .int .u64 0, .int .u64 0, .int .u64 0, .int .u64 0, .slice none 0 0] 29)) = V at *
  obtain ⟨e, he⟩ := Later.self V
  rw [he]
  clear he
  go_upto_region 4 with (first | (go_at_call 23; refine (Ret.later (KA.out _ (HL.out.ext (Later.h _)))).mono ?_; rintro x _ ⟨rfl, e, rfl⟩) | (refine wpList_row (by rfl) 29 _ rfl _ rfl (HB0.out.later _) Tryz.underlying29 rfl (by kernel_rfl) ?_))
  have HVS : Hid (w.heap.size + 2 ≤ V.heap.size) := hid (Nat.succ_le_of_lt HB1.out.lt)
  have HS : Hid (∀ W, Mod [w.heap.size + 1] V W → W.cell? ⟨w.heap.size, 19, none⟩ = some (.slice A k c)) := hid (fun W hW => (HB0.out.mod hW (by simp)).cell 19)
  have HRow : Hid (∀ W, Mod [w.heap.size + 1] V W → Blk W w.heap.size 29 (bunC p A k c)) := hid (fun W hW => HB0.out.mod hW (by simp))
  have HLL : Hid (∀ W, Mod [w.heap.size + 1] V W → BsL W A k bs) := hid (fun W hW hn => by
    obtain ⟨bb, oo, hA, hbl, hcc⟩ := HL.out hn
    obtain ⟨b2, o2, hA2, hb2, _⟩ := HLW.out hn
    have e1 : bb = b2 := by rw [hA] at hA2; cases hA2; rfl
    exact ⟨bb, oo, hA, Nat.lt_of_lt_of_le hbl hW.size, fun j hj => (hcc j hj).mod hW hbl (by simp; omega)⟩)
  refine wp_region_held_drew (S := fun w' => Mod [w.heap.size + 1] V w' ∧ ∃ cs : Array Value, Blk w' (w.heap.size + 1) 29 cs ∧ cs.size = 20) (by kernel_rfl) ⟨((Later.h e).of_ext).drew, #[.int .u64 0, .int .i64 0, .int .i64 0, .string ⟨#[]⟩, .int .u64 0, .int .u64 0, .int .i64 0, .string ⟨#[]⟩, .int .u64 0, .int .u64 0, .int .i64 0, .string ⟨#[]⟩, .int .u64 0, .int .u64 0, .int .u64 0, .int .u64 0, .int .u64 0, .int .u64 0, .int .u64 0, .slice none 0 0], (HB1.out.later e).drew, rfl⟩ (fun hHeld => ?_)
  refine wpAnyH_take (i := 0) rfl (by kernel_rfl) (by kernel_rfl) (by kernel_rfl) (fun _ _ _ h => h) (yieldsIf_row (by rfl) 29 _ rfl _ rfl (fun W h => HRow.out W h.1) Tryz.underlying29 rfl (by kernel_rfl)) hHeld ?_
  (try simp only [Act.put, List.setIfInBounds_toArray, List.set_cons_zero, List.set_cons_succ])
  refine' wpAnyH_take (i := 1) (v := _) rfl (by kernel_rfl) (by kernel_rfl) (by kernel_rfl) (fun _ _ _ h => h) (Or.inl ⟨by rfl, ?hy⟩) hHeld ?rest
  case hy => (rintro W ⟨hM, _⟩; go_simp; (try with_reducible rfl))
  case rest =>
  (try simp only [Act.put, List.setIfInBounds_toArray, List.set_cons_zero, List.set_cons_succ])
  refine' wpAnyH_take (i := 2) (v := _) rfl (by kernel_rfl) (by kernel_rfl) (by kernel_rfl) (fun _ _ _ h => h) (Or.inl ⟨by rfl, ?hy⟩) hHeld ?rest
  case hy => (rintro W ⟨hM, _⟩; have x1 := HS.out W hM; go_simp; (try with_reducible rfl))
  case rest =>
  (try simp only [Act.put, List.setIfInBounds_toArray, List.set_cons_zero, List.set_cons_succ])
  refine' wpAnyH_take (i := 4) (v := _) rfl (by kernel_rfl) (by kernel_rfl) (by kernel_rfl) (fun _ _ _ h => h) (Or.inl ⟨by rfl, ?hy⟩) hHeld ?rest
  case hy => (rintro W ⟨hM, _⟩; go_simp; (try with_reducible rfl))
  case rest =>
  (try simp only [Act.put, List.setIfInBounds_toArray, List.set_cons_zero, List.set_cons_succ])
  refine' wpAnyH_take (i := 5) (v := _) rfl (by kernel_rfl) (by kernel_rfl) (by kernel_rfl) (fun _ _ _ h => h) (Or.inl ⟨by rfl, ?hy⟩) hHeld ?rest
  case hy => (rintro W ⟨hM, _⟩; go_simp; (try with_reducible rfl))
  case rest =>
  (try simp only [Act.put, List.setIfInBounds_toArray, List.set_cons_zero, List.set_cons_succ])
  refine' wpAnyH_take (i := 6) (v := _) rfl (by kernel_rfl) (by kernel_rfl) (by kernel_rfl) (fun _ _ _ h => h) (Or.inl ⟨by rfl, ?hy⟩) hHeld ?rest
  case hy => (rintro W ⟨hM, _⟩; go_simp; (try with_reducible rfl))
  case rest =>
  (try simp only [Act.put, List.setIfInBounds_toArray, List.set_cons_zero, List.set_cons_succ])
  refine wpAnyH_ready (rs := [3]) (by kernel_rfl) (by simp) ?_
  refine AllReadyH.cons rfl (fun K hK => ?_) AllReadyH.nil
  go_simp
  (go_at_call 22; refine (KC.out _ (HLL.out _ hHeld.1)).mono ?_; rintro x w1 ⟨g, c1, rfl, hb3, ho1⟩; have HO1 := hid ho1; have HN1 := hid hHeld.1.size)
  refine hK.out _ _ ⟨hHeld.1.trans (Mod.of_ext hb3), let ⟨cs, hb, hc⟩ := hHeld.2; ⟨cs, hb.ext hb3, hc⟩⟩ (fun hHeld => ?_)
  clear hK K
  (try simp only [Act.put, List.setIfInBounds_toArray, List.set_cons_zero, List.set_cons_succ])
  refine wpAnyH_ready (rs := [7]) (by kernel_rfl) (by simp) ?_
  refine AllReadyH.cons rfl (fun K hK => ?_) AllReadyH.nil
  go_simp
  (go_at_call 24; refine (KD.out _ _ g c1 HO1.out).mono ?_; rintro x w2 ⟨rfl, hm2, ho2⟩; have HO2 := hid ho2; have HGV : Hid (V.heap.size ≤ g) := hid (Nat.le_trans HN1.out (HO1.out.lt g rfl).1))
  refine hK.out _ _ ⟨modg hHeld.1 hm2 HGV.out, let ⟨cs, hb, hc⟩ := hHeld.2; ⟨cs, hb.mod hm2 (by have := HGV.out; have := HVS.out; simp; omega), hc⟩⟩ (fun hHeld => ?_)
  clear hK K
  (try simp only [Act.put, List.setIfInBounds_toArray, List.set_cons_zero, List.set_cons_succ])
  refine wpAnyH_ready (rs := [8]) (by kernel_rfl) (by simp) ?_
  refine AllReadyH.cons rfl (fun K hK => ?_) AllReadyH.nil
  go_simp
  (go_at_call 20; refine (KK.out _ (some ⟨g, 0, none⟩) c1 (own_BsL HO2.out) (fun kk o' hA => by cases hA; exact (HO2.out.lt _ rfl).2)).mono ?_; rintro x w3 ⟨rfl, hb3⟩; obtain ⟨zc, r0, hz, hz1, hz2, hz3⟩ := chk_cells p (some ⟨g, 0, none⟩) (k - 1) c1 (bunRight p (delB bs i) (k - 1)); rw [hz]; have HZ := hid hz; have HZ1 := hid hz1; have HZ2 := hid hz2; have HZ3 := hid hz3; have HM3 := hid hb3; clear hz hz1 hz2 hz3)
  refine hK.out _ _ ⟨hHeld.1.trans (Mod.of_ext hb3), let ⟨cs, hb, hc⟩ := hHeld.2; ⟨cs, hb.ext hb3, hc⟩⟩ (fun hHeld => ?_)
  clear hK K
  (try simp only [Act.put, List.setIfInBounds_toArray, List.set_cons_zero, List.set_cons_succ])
  refine' wpAnyH_take (i := 9) (v := _) rfl (by kernel_rfl) (by kernel_rfl) (by kernel_rfl) (fun _ _ _ h => h) (Or.inl ⟨by rfl, ?hy⟩) hHeld ?rest
  case hy => (rintro W ⟨hM, _⟩; go_simp; (try with_reducible rfl))
  case rest =>
  (try simp only [Act.put, List.setIfInBounds_toArray, List.set_cons_zero, List.set_cons_succ])
  refine' wpAnyH_take (i := 10) (v := _) rfl (by kernel_rfl) (by kernel_rfl) (by kernel_rfl) (fun _ _ _ h => h) (Or.inl ⟨by rfl, ?hy⟩) hHeld ?rest
  case hy => (rintro W ⟨hM, _⟩; go_simp; (try with_reducible rfl))
  case rest =>
  (try simp only [Act.put, List.setIfInBounds_toArray, List.set_cons_zero, List.set_cons_succ])
  refine wpAnyH_ready (rs := [11]) (by kernel_rfl) (by simp) ?_
  refine AllReadyH.cons rfl (fun K hK => ?_) AllReadyH.nil
  obtain ⟨cs0, hb0, hc0⟩ := hHeld.2
  refine wp_store_mid 29 _ _ rfl (w.heap.size + 1) 0 zc (by rfl) (by rfl) (hb0.there (by rw [HZ3.out, hc0]; exact Nat.le_refl _)) HZ1.out HZ2.out ?_
  have hZB := setCells_all (ds := zc) hb0 (by rw [Array.length_toList, HZ3.out, hc0])
  have hZM := setCells_mod (b := w.heap.size + 1) zc.toList 0 hHeld.1 (.inl (by simp))
  generalize hZ : World.setCells w3 (w.heap.size + 1) 0 zc.toList = Z at *
  have HZM3 : Hid (Mod [w.heap.size + 1] w3 Z) := hid (by rw [← hZ]; exact setCells_mod _ _ (Mod.refl _ _) (.inl (by simp)))
  clear hZ
  refine hK.out _ _ ⟨hZM, zc, hZB, HZ3.out⟩ (fun hHeld => ?_)
  clear hK K
  (try simp only [Act.put, List.setIfInBounds_toArray, List.set_cons_zero, List.set_cons_succ])
  refine wpAnyH_ready (rs := [12]) (by kernel_rfl) (by simp) ?_
  refine AllReadyH.cons rfl (fun K hK => ?_) AllReadyH.nil
  go_simp
  refine hK.out _ _ hHeld (fun hHeld => ?_)
  clear hK K
  (try simp only [Act.put, List.setIfInBounds_toArray, List.set_cons_zero, List.set_cons_succ])
  refine wpAnyH_done (by kernel_rfl) ?_ _
  go_wp2_with fail
  refine bodyPost_ret (v := .tuple #[.agg zc, .int .i64 r0]) (results_cell2 Tryz.results10 _ rfl rfl hZB Tryz.underlying29 rfl (by rw [HZ1.out])) rfl ?_
  obtain ⟨A9, c9, hA9, hsa⟩ := own_slA HO2.out
  simp only [Value.slice.injEq, true_and] at hA9
  obtain ⟨rfl, rfl⟩ := hA9
  refine ⟨some ⟨g, 0, none⟩, c1, by rw [HZ.out], (HE.out.of_ext.trans hZM).new (fun kk hkk => .inr (by simp at hkk; omega)), ?_, hsa⟩
  intro hn
  obtain ⟨bb, oo, hA, hbl, hcc⟩ := (own_BsL HO2.out).ext HM3.out hn
  have hbb : bb = g := by cases hA; rfl
  exact ⟨bb, oo, hA, Nat.lt_of_lt_of_le hbl HZM3.out.size, fun j hj => (hcc j hj).mod HZM3.out hbl (by have := HGV.out; have := HVS.out; simp; omega)⟩
end Go.Proofs.YtkeabdfgacicaaaGreat


namespace Go.Proofs.YtkeabdfgacicaaaGreat
open Go.RowKit
set_option linter.unusedVariables false
set_option linter.unusedSimpArgs false

set_option maxRecDepth 20000 in
set_option maxHeartbeats 1600000 in
theorem Put_0 (p : PV) (c : Nat) (A : Option Addr) (x : BV) (w : World) : Calls Tryz.prog 8 #[bunV p A 0 c, x.v] w (Ret (.tuple #[.agg zeroBun, .int .i64 8]) w) := by
  have HE := hid ((((Mod.refl [] w).alloc (.cells (bunC p A 0 c) 29)).alloc (.cells (BV.c x) 31)).alloc (.cells #[.int .u64 0, .int .i64 0, .int .i64 0, .string ⟨#[]⟩, .int .u64 0, .int .u64 0, .int .i64 0, .string ⟨#[]⟩, .int .u64 0, .int .u64 0, .int .i64 0, .string ⟨#[]⟩, .int .u64 0, .int .u64 0, .int .u64 0, .int .u64 0, .int .u64 0, .int .u64 0, .int .u64 0, .slice none 0 0] 29))
  have HB0 : Hid (Blk (((w.alloc (.cells (bunC p A 0 c) 29)).alloc (.cells (BV.c x) 31)).alloc (.cells #[.int .u64 0, .int .i64 0, .int .i64 0, .string ⟨#[]⟩, .int .u64 0, .int .u64 0, .int .i64 0, .string ⟨#[]⟩, .int .u64 0, .int .u64 0, .int .i64 0, .string ⟨#[]⟩, .int .u64 0, .int .u64 0, .int .u64 0, .int .u64 0, .int .u64 0, .int .u64 0, .int .u64 0, .slice none 0 0] 29)) w.heap.size 29 (bunC p A 0 c)) := hid (((Blk.new w 29 (bunC p A 0 c)).alloc (.cells (BV.c x) 31)).alloc (.cells #[.int .u64 0, .int .i64 0, .int .i64 0, .string ⟨#[]⟩, .int .u64 0, .int .u64 0, .int .i64 0, .string ⟨#[]⟩, .int .u64 0, .int .u64 0, .int .i64 0, .string ⟨#[]⟩, .int .u64 0, .int .u64 0, .int .u64 0, .int .u64 0, .int .u64 0, .int .u64 0, .int .u64 0, .slice none 0 0] 29))
  have HB1 : Hid (Blk (((w.alloc (.cells (bunC p A 0 c) 29)).alloc (.cells (BV.c x) 31)).alloc (.cells #[.int .u64 0, .int .i64 0, .int .i64 0, .string ⟨#[]⟩, .int .u64 0, .int .u64 0, .int .i64 0, .string ⟨#[]⟩, .int .u64 0, .int .u64 0, .int .i64 0, .string ⟨#[]⟩, .int .u64 0, .int .u64 0, .int .u64 0, .int .u64 0, .int .u64 0, .int .u64 0, .int .u64 0, .slice none 0 0] 29)) (w.heap.size + 1) 31 (BV.c x)) := by unfold Hid; have := (Blk.newL (N := (w.heap.size + 1)) (w.alloc (.cells (bunC p A 0 c) 29)) 31 (BV.c x) (by simp)); exact (this.alloc (.cells #[.int .u64 0, .int .i64 0, .int .i64 0, .string ⟨#[]⟩, .int .u64 0, .int .u64 0, .int .i64 0, .string ⟨#[]⟩, .int .u64 0, .int .u64 0, .int .i64 0, .string ⟨#[]⟩, .int .u64 0, .int .u64 0, .int .u64 0, .int .u64 0, .int .u64 0, .int .u64 0, .int .u64 0, .slice none 0 0] 29))
  have HB2 : Hid (Blk (((w.alloc (.cells (bunC p A 0 c) 29)).alloc (.cells (BV.c x) 31)).alloc (.cells #[.int .u64 0, .int .i64 0, .int .i64 0, .string ⟨#[]⟩, .int .u64 0, .int .u64 0, .int .i64 0, .string ⟨#[]⟩, .int .u64 0, .int .u64 0, .int .i64 0, .string ⟨#[]⟩, .int .u64 0, .int .u64 0, .int .u64 0, .int .u64 0, .int .u64 0, .int .u64 0, .int .u64 0, .slice none 0 0] 29)) (w.heap.size + 1 + 1) 29 #[.int .u64 0, .int .i64 0, .int .i64 0, .string ⟨#[]⟩, .int .u64 0, .int .u64 0, .int .i64 0, .string ⟨#[]⟩, .int .u64 0, .int .u64 0, .int .i64 0, .string ⟨#[]⟩, .int .u64 0, .int .u64 0, .int .u64 0, .int .u64 0, .int .u64 0, .int .u64 0, .int .u64 0, .slice none 0 0]) := by unfold Hid; exact Blk.newL _ _ _ (by simp)
  go_enter Tryz.func8, Tryz.ntmps8
  go_upto_region 1 with fail
  generalize (((w.alloc (.cells (bunC p A 0 c) 29)).alloc (.cells (BV.c x) 31)).alloc (.cells #[.int .u64 0, .int .i64 0, .int .i64 0, .string ⟨#[]⟩, .int .u64 0, .int .u64 0, .int .i64 0, .string ⟨#[]⟩, .int .u64 0, .int .u64 0, .int .i64 0, .string ⟨#[]⟩, .int .u64 0, .int .u64 0, .int .u64 0, .int .u64 0, .int .u64 0, .int .u64 0, .int .u64 0, .slice none 0 0] 29)) = V at *
  have b19 : ∀ e : Later V, e.x.cell? ⟨w.heap.size, 19, none⟩ = some (.slice A 0 c) := HB0.out.cellL 19 rfl
  obtain ⟨e, he⟩ := Later.self V
  rw [he]
  clear he
  go_wp2_with (refine wpList_store_mid rfl 29 _ _ rfl (w.heap.size + 1 + 1) 0 #[.int .u64 0, .int .i64 0, .int .i64 0, .string ⟨#[]⟩, .int .u64 0, .int .u64 0, .int .i64 0, .string ⟨#[]⟩, .int .u64 0, .int .u64 0, .int .i64 0, .string ⟨#[]⟩, .int .u64 0, .int .u64 0, .int .u64 0, .int .u64 0, .int .u64 0, .int .u64 0, .int .u64 0, .slice none 0 0] (by rfl) (by rfl) ((HB2.out.later e).there (Nat.le_refl 20)) (by kernel_rfl) (by simp [Value.oneCell']) ?_)
  generalize hZ : World.setCells _ _ _ _ = Z
  have HZB : Hid (Blk Z (w.heap.size + 1 + 1) 29 #[.int .u64 0, .int .i64 0, .int .i64 0, .string ⟨#[]⟩, .int .u64 0, .int .u64 0, .int .i64 0, .string ⟨#[]⟩, .int .u64 0, .int .u64 0, .int .i64 0, .string ⟨#[]⟩, .int .u64 0, .int .u64 0, .int .u64 0, .int .u64 0, .int .u64 0, .int .u64 0, .int .u64 0, .slice none 0 0]) := hid (by rw [← hZ]; exact setCells_all (ds := #[.int .u64 0, .int .i64 0, .int .i64 0, .string ⟨#[]⟩, .int .u64 0, .int .u64 0, .int .i64 0, .string ⟨#[]⟩, .int .u64 0, .int .u64 0, .int .i64 0, .string ⟨#[]⟩, .int .u64 0, .int .u64 0, .int .u64 0, .int .u64 0, .int .u64 0, .int .u64 0, .int .u64 0, .slice none 0 0]) (HB2.out.later e) rfl)
  have HZM : Hid (Ext w Z) := hid (by rw [← hZ]; exact setCells_mod _ _ (HE.out.trans e.h) (.inr (by omega)))
  clear hZ
  exact bodyPost_ret (v := .tuple #[.agg #[.int .u64 0, .int .i64 0, .int .i64 0, .string ⟨#[]⟩, .int .u64 0, .int .u64 0, .int .i64 0, .string ⟨#[]⟩, .int .u64 0, .int .u64 0, .int .i64 0, .string ⟨#[]⟩, .int .u64 0, .int .u64 0, .int .u64 0, .int .u64 0, .int .u64 0, .int .u64 0, .int .u64 0, .slice none 0 0], .int .i64 8]) (results_cell2 Tryz.results8 _ rfl rfl HZB.out Tryz.underlying29 rfl (by kernel_rfl)) rfl (Ret.mk rfl HZM.out)
set_option maxRecDepth 20000 in
set_option maxHeartbeats 8000000 in
theorem Put_some (p : PV) (bs : Nat → BV) (k c : Nat) (A : Option Addr) (x : BV) (hnl : Hid (p.d.name.length < 4611686018427387904 ∧ p.s.name.length < 4611686018427387904 ∧ p.r.name.length < 4611686018427387904)) (hf : p.fl < 18446744073709551616) (h0 : 0 < k) (hk : k ≤ 1000) (w : World) (h : BsL w A k bs) : Calls Tryz.prog 8 #[bunV p A k c, x.v] w (fun e w' => ∃ A' c', e = .returned (chkV p A' (k + 1) c' (bunRight p (insB bs (k - 1) x) (k + 1))) ∧ Ext w w' ∧ BsL w' A' (k + 1) (insB bs (k - 1) x) ∧ SlA A' (k + 1) c') := by
  have KC := hid (fun W (hW : BsL W A k bs) => CloneB_any bs k (by unfold Hid; omega) A c W hW)
  have hw1 : IntKind.i64.wrap ((k : Int) - 1) = ((k - 1 : Nat) : Int) := by rw [IntWalk.i64_in _ (by omega)]; omega
  have KI := hid (fun W base g c' vb hown hv hvb hb => InsB_any bs x base g k c' (k - 1) vb (by omega) (by omega) W hown hv hvb hb)
  rw [← hw1] at KI
  have KK := hid (fun W A' c' (hW : BsL W A' (k + 1) (insB bs (k - 1) x)) hlt => checked_any p (insB bs (k - 1) x) k c (k + 1) c' A A' hnl hf (by omega) W hW hlt)
  have HE := hid ((((Mod.refl [] w).alloc (.cells (bunC p A k c) 29)).alloc (.cells (BV.c x) 31)).alloc (.cells #[.int .u64 0, .int .i64 0, .int .i64 0, .string ⟨#[]⟩, .int .u64 0, .int .u64 0, .int .i64 0, .string ⟨#[]⟩, .int .u64 0, .int .u64 0, .int .i64 0, .string ⟨#[]⟩, .int .u64 0, .int .u64 0, .int .u64 0, .int .u64 0, .int .u64 0, .int .u64 0, .int .u64 0, .slice none 0 0] 29))
  have HB0 : Hid (Blk (((w.alloc (.cells (bunC p A k c) 29)).alloc (.cells (BV.c x) 31)).alloc (.cells #[.int .u64 0, .int .i64 0, .int .i64 0, .string ⟨#[]⟩, .int .u64 0, .int .u64 0, .int .i64 0, .string ⟨#[]⟩, .int .u64 0, .int .u64 0, .int .i64 0, .string ⟨#[]⟩, .int .u64 0, .int .u64 0, .int .u64 0, .int .u64 0, .int .u64 0, .int .u64 0, .int .u64 0, .slice none 0 0] 29)) w.heap.size 29 (bunC p A k c)) := hid (((Blk.new w 29 (bunC p A k c)).alloc (.cells (BV.c x) 31)).alloc (.cells #[.int .u64 0, .int .i64 0, .int .i64 0, .string ⟨#[]⟩, .int .u64 0, .int .u64 0, .int .i64 0, .string ⟨#[]⟩, .int .u64 0, .int .u64 0, .int .i64 0, .string ⟨#[]⟩, .int .u64 0, .int .u64 0, .int .u64 0, .int .u64 0, .int .u64 0, .int .u64 0, .int .u64 0, .slice none 0 0] 29))
  have HB1 : Hid (Blk (((w.alloc (.cells (bunC p A k c) 29)).alloc (.cells (BV.c x) 31)).alloc (.cells #[.int .u64 0, .int .i64 0, .int .i64 0, .string ⟨#[]⟩, .int .u64 0, .int .u64 0, .int .i64 0, .string ⟨#[]⟩, .int .u64 0, .int .u64 0, .int .i64 0, .string ⟨#[]⟩, .int .u64 0, .int .u64 0, .int .u64 0, .int .u64 0, .int .u64 0, .int .u64 0, .int .u64 0, .slice none 0 0] 29)) (w.heap.size + 1) 31 (BV.c x)) := by unfold Hid; have := (Blk.newL (N := (w.heap.size + 1)) (w.alloc (.cells (bunC p A k c) 29)) 31 (BV.c x) (by simp)); exact (this.alloc (.cells #[.int .u64 0, .int .i64 0, .int .i64 0, .string ⟨#[]⟩, .int .u64 0, .int .u64 0, .int .i64 0, .string ⟨#[]⟩, .int .u64 0, .int .u64 0, .int .i64 0, .string ⟨#[]⟩, .int .u64 0, .int .u64 0, .int .u64 0, .int .u64 0, .int .u64 0, .int .u64 0, .int .u64 0, .slice none 0 0] 29))
  have HB2 : Hid (Blk (((w.alloc (.cells (bunC p A k c) 29)).alloc (.cells (BV.c x) 31)).alloc (.cells #[.int .u64 0, .int .i64 0, .int .i64 0, .string ⟨#[]⟩, .int .u64 0, .int .u64 0, .int .i64 0, .string ⟨#[]⟩, .int .u64 0, .int .u64 0, .int .i64 0, .string ⟨#[]⟩, .int .u64 0, .int .u64 0, .int .u64 0, .int .u64 0, .int .u64 0, .int .u64 0, .int .u64 0, .slice none 0 0] 29)) (w.heap.size + 1 + 1) 29 #[.int .u64 0, .int .i64 0, .int .i64 0, .string ⟨#[]⟩, .int .u64 0, .int .u64 0, .int .i64 0, .string ⟨#[]⟩, .int .u64 0, .int .u64 0, .int .i64 0, .string ⟨#[]⟩, .int .u64 0, .int .u64 0, .int .u64 0, .int .u64 0, .int .u64 0, .int .u64 0, .int .u64 0, .slice none 0 0]) := by unfold Hid; exact Blk.newL _ _ _ (by simp)
  have HL := hid (BsL.ext h HE.out)
  have k0 : (0 : Int) ≤ (k : Int) := by omega
  have k1 : (k : Int) ≤ 1000 := by omega
  have t1 : ((k : Int) == 0) = false := by rw [beq_eq_false_iff_ne]; omega
  have t2 : ((k : Int) = 0) = False := eq_false (by omega)
  have t3 : (k = 0) = False := eq_false (by omega)
  have t4 : (k == 0) = false := by rw [beq_eq_false_iff_ne]; omega
  have HLW := hid h
  clear h hk hf h0 hw1
  go_enter Tryz.func8, Tryz.ntmps8
  go_upto_region 1 with fail
  generalize (((w.alloc (.cells (bunC p A k c) 29)).alloc (.cells (BV.c x) 31)).alloc (.cells #[.int .u64 0, .int .i64 0, .int .i64 0, .string ⟨#[]⟩, .int .u64 0, .int .u64 0, .int .i64 0, .string ⟨#[]⟩, .int .u64 0, .int .u64 0, .int .i64 0, .string ⟨#[]⟩, .int .u64 0, .int .u64 0, .int .u64 0, .int .u64 0, .int .u64 0, .int .u64 0, .int .u64 0, .slice none 0 0] 29)) = V at *
  have b19 : ∀ e : Later V, e.x.cell? ⟨w.heap.size, 19, none⟩ = some (.slice A k c) := HB0.out.cellL 19 rfl
  obtain ⟨e, he⟩ := Later.self V
  rw [he]
  clear he
  go_upto_region 4 with fail
  clear b19
  have HVS : Hid (w.heap.size + 3 ≤ V.heap.size) := hid (Nat.succ_le_of_lt HB2.out.lt)
  have HS : Hid (∀ W, Mod [(w.heap.size + 1 + 1)] V W → W.cell? ⟨w.heap.size, 19, none⟩ = some (.slice A k c)) := hid (fun W hW => (HB0.out.mod hW (by simp; omega)).cell 19)
  have HRow : Hid (∀ W, Mod [(w.heap.size + 1 + 1)] V W → Blk W w.heap.size 29 (bunC p A k c)) := hid (fun W hW => HB0.out.mod hW (by simp; omega))
  have HRx : Hid (∀ W, Mod [(w.heap.size + 1 + 1)] V W → Blk W (w.heap.size + 1) 31 (BV.c x)) := hid (fun W hW => HB1.out.mod hW (by simp))
  have HLL : Hid (∀ W, Mod [(w.heap.size + 1 + 1)] V W → BsL W A k bs) := hid (fun W hW hn => by
    obtain ⟨bb, oo, hA, hbl, hcc⟩ := HL.out hn
    obtain ⟨b2, o2, hA2, hb2, _⟩ := HLW.out hn
    have e1 : bb = b2 := by rw [hA] at hA2; cases hA2; rfl
    exact ⟨bb, oo, hA, Nat.lt_of_lt_of_le hbl hW.size, fun j hj => (hcc j hj).mod hW hbl (by simp; omega)⟩)
  refine wp_region_held_drew (S := fun w' => Mod [(w.heap.size + 1 + 1)] V w' ∧ ∃ cs : Array Value, Blk w' (w.heap.size + 1 + 1) 29 cs ∧ cs.size = 20) (by kernel_rfl) ⟨((Later.h e).of_ext).drew, #[.int .u64 0, .int .i64 0, .int .i64 0, .string ⟨#[]⟩, .int .u64 0, .int .u64 0, .int .i64 0, .string ⟨#[]⟩, .int .u64 0, .int .u64 0, .int .i64 0, .string ⟨#[]⟩, .int .u64 0, .int .u64 0, .int .u64 0, .int .u64 0, .int .u64 0, .int .u64 0, .int .u64 0, .slice none 0 0], (HB2.out.later e).drew, rfl⟩ (fun hHeld => ?_)
  refine wpAnyH_take (i := 0) rfl (by kernel_rfl) (by kernel_rfl) (by kernel_rfl) (fun _ _ _ h => h) (yieldsIf_row (by rfl) 29 _ rfl _ rfl (fun W h => HRow.out W h.1) Tryz.underlying29 rfl (by kernel_rfl)) hHeld ?_
  (try simp only [Act.put, List.setIfInBounds_toArray, List.set_cons_zero, List.set_cons_succ])
  refine' wpAnyH_take (i := 1) (v := _) rfl (by kernel_rfl) (by kernel_rfl) (by kernel_rfl) (fun _ _ _ h => h) (Or.inl ⟨by rfl, ?hy⟩) hHeld ?rest
  case hy => (rintro W ⟨hM, _⟩; go_simp; (try with_reducible rfl))
  case rest =>
  (try simp only [Act.put, List.setIfInBounds_toArray, List.set_cons_zero, List.set_cons_succ])
  refine' wpAnyH_take (i := 2) (v := _) rfl (by kernel_rfl) (by kernel_rfl) (by kernel_rfl) (fun _ _ _ h => h) (Or.inl ⟨by rfl, ?hy⟩) hHeld ?rest
  case hy => (rintro W ⟨hM, _⟩; have x1 := HS.out W hM; go_simp; (try with_reducible rfl))
  case rest =>
  (try simp only [Act.put, List.setIfInBounds_toArray, List.set_cons_zero, List.set_cons_succ])
  refine' wpAnyH_take (i := 4) (v := _) rfl (by kernel_rfl) (by kernel_rfl) (by kernel_rfl) (fun _ _ _ h => h) (Or.inl ⟨by rfl, ?hy⟩) hHeld ?rest
  case hy => (rintro W ⟨hM, _⟩; go_simp; (try with_reducible rfl))
  case rest =>
  (try simp only [Act.put, List.setIfInBounds_toArray, List.set_cons_zero, List.set_cons_succ])
  refine' wpAnyH_take (i := 5) (v := _) rfl (by kernel_rfl) (by kernel_rfl) (by kernel_rfl) (fun _ _ _ h => h) (Or.inl ⟨by rfl, ?hy⟩) hHeld ?rest
  case hy => (rintro W ⟨hM, _⟩; go_simp; (try with_reducible rfl))
  case rest =>
  (try simp only [Act.put, List.setIfInBounds_toArray, List.set_cons_zero, List.set_cons_succ])
  refine wpAnyH_take (i := 6) rfl (by kernel_rfl) (by kernel_rfl) (by kernel_rfl) (fun _ _ _ h => h) (yieldsIf_row (by rfl) 31 _ rfl _ rfl (fun W h => HRx.out W h.1) Tryz.underlying31 rfl (by kernel_rfl)) hHeld ?_
  (try simp only [Act.put, List.setIfInBounds_toArray, List.set_cons_zero, List.set_cons_succ])
  refine wpAnyH_ready (rs := [3, 7]) (by kernel_rfl) (by simp) ?_
  refine AllReadyH.cons rfl (fun K hK => ?_) (AllReadyH.cons rfl (fun K hK => ?_) AllReadyH.nil)
  · go_simp
    (go_at_call 22; refine (KC.out _ (HLL.out _ hHeld.1)).mono ?_; rintro y w1 ⟨g, c1, rfl, hb3, ho1⟩; have HO1 := hid ho1; have HN1 := hid hHeld.1.size)
    refine hK.out _ _ ⟨hHeld.1.trans (Mod.of_ext hb3), let ⟨cs, hb, hc⟩ := hHeld.2; ⟨cs, hb.ext hb3, hc⟩⟩ (fun hHeld => ?_)
    clear hK K
    (try simp only [Act.put, List.setIfInBounds_toArray, List.set_cons_zero, List.set_cons_succ])
    refine wpAnyH_ready (rs := [7]) (by kernel_rfl) (by simp) ?_
    refine AllReadyH.cons rfl (fun K hK => ?_) AllReadyH.nil
    go_simp
    refine hK.out _ _ ⟨hHeld.1.alloc _, let ⟨cs, hb, hc⟩ := hHeld.2; ⟨cs, hb.alloc _, hc⟩⟩ (fun hHeld => ?_)
    clear hK K
    (try simp only [Act.put, List.setIfInBounds_toArray, List.set_cons_zero, List.set_cons_succ])
    have HVB : Hid (Blk (w1.alloc (.cells (BV.c x) 31)) w1.heap.size 31 (BV.c x)) := hid (Blk.new _ _ _)
    have HOA := hid (HO1.out.alloc (.cells (BV.c x) 31))
    have HNE : Hid (w1.heap.size ≠ g) := hid (by have := (HO1.out.lt g rfl).2; omega)
    have HBW := hid (show _ ≤ (w1.alloc (.cells (BV.c x) 31)).heap.size from Nat.le_trans (HO1.out.lt g rfl).1 (Nat.le_of_lt (Nat.lt_trans (HO1.out.lt g rfl).2 (by simp))))
    have HGV : Hid (V.heap.size ≤ g) := hid (Nat.le_trans HN1.out (HO1.out.lt g rfl).1)
    have HBV := HN1
    refine wpAnyH_ready (rs := [8]) (by kernel_rfl) (by simp) ?_
    refine AllReadyH.cons rfl (fun K hK => ?_) AllReadyH.nil
    go_simp
    (go_at_call 21; refine (KI.out _ _ g c1 w1.heap.size HOA.out HVB.out HNE.out HBW.out).mono ?_; rintro y w3 ⟨g2, c2, rfl, hm2, ho2⟩; have HO2 := hid ho2)
    refine hK.out _ _ ⟨modg hHeld.1 hm2 HGV.out, let ⟨cs, hb, hc⟩ := hHeld.2; ⟨cs, hb.mod hm2 (by have := HGV.out; have := HVS.out; simp; omega), hc⟩⟩ (fun hHeld => ?_)
    clear hK K
    (try simp only [Act.put, List.setIfInBounds_toArray, List.set_cons_zero, List.set_cons_succ])
    refine wpAnyH_ready (rs := [9]) (by kernel_rfl) (by simp) ?_
    refine AllReadyH.cons rfl (fun K hK => ?_) AllReadyH.nil
    go_simp
    (go_at_call 20; refine (KK.out _ (some ⟨g2, 0, none⟩) c2 (own_BsL HO2.out) (fun kk o' hA => by cases hA; exact (HO2.out.lt _ rfl).2)).mono ?_; rintro y w4 ⟨rfl, hb3⟩; obtain ⟨zc, r0, hz, hz1, hz2, hz3⟩ := chk_cells p (some ⟨g2, 0, none⟩) (k + 1) c2 (bunRight p (insB bs (k - 1) x) (k + 1)); rw [hz]; have HZ := hid hz; have HZ1 := hid hz1; have HZ2 := hid hz2; have HZ3 := hid hz3; have HM3 := hid hb3; clear hz hz1 hz2 hz3)
    refine hK.out _ _ ⟨hHeld.1.trans (Mod.of_ext hb3), let ⟨cs, hb, hc⟩ := hHeld.2; ⟨cs, hb.ext hb3, hc⟩⟩ (fun hHeld => ?_)
    clear hK K
    (try simp only [Act.put, List.setIfInBounds_toArray, List.set_cons_zero, List.set_cons_succ])
    refine' wpAnyH_take (i := 10) (v := _) rfl (by kernel_rfl) (by kernel_rfl) (by kernel_rfl) (fun _ _ _ h => h) (Or.inl ⟨by rfl, ?hy⟩) hHeld ?rest
    case hy => (rintro W ⟨hM, _⟩; go_simp; (try with_reducible rfl))
    case rest =>
    (try simp only [Act.put, List.setIfInBounds_toArray, List.set_cons_zero, List.set_cons_succ])
    refine' wpAnyH_take (i := 11) (v := _) rfl (by kernel_rfl) (by kernel_rfl) (by kernel_rfl) (fun _ _ _ h => h) (Or.inl ⟨by rfl, ?hy⟩) hHeld ?rest
    case hy => (rintro W ⟨hM, _⟩; go_simp; (try with_reducible rfl))
    case rest =>
    (try simp only [Act.put, List.setIfInBounds_toArray, List.set_cons_zero, List.set_cons_succ])
    refine wpAnyH_ready (rs := [12]) (by kernel_rfl) (by simp) ?_
    refine AllReadyH.cons rfl (fun K hK => ?_) AllReadyH.nil
    obtain ⟨cs0, hb0, hc0⟩ := hHeld.2
    refine wp_store_mid 29 _ _ rfl (w.heap.size + 1 + 1) 0 zc (by rfl) (by rfl) (hb0.there (by rw [HZ3.out, hc0]; exact Nat.le_refl _)) HZ1.out HZ2.out ?_
    have hZB := setCells_all (ds := zc) hb0 (by rw [Array.length_toList, HZ3.out, hc0])
    have hZM := setCells_mod (b := (w.heap.size + 1 + 1)) zc.toList 0 hHeld.1 (.inl (by simp))
    generalize hZ : World.setCells w4 (w.heap.size + 1 + 1) 0 zc.toList = Z at *
    have HZM3 : Hid (Mod [(w.heap.size + 1 + 1)] w4 Z) := hid (by rw [← hZ]; exact setCells_mod _ _ (Mod.refl _ _) (.inl (by simp)))
    clear hZ
    refine hK.out _ _ ⟨hZM, zc, hZB, HZ3.out⟩ (fun hHeld => ?_)
    clear hK K
    (try simp only [Act.put, List.setIfInBounds_toArray, List.set_cons_zero, List.set_cons_succ])
    refine wpAnyH_ready (rs := [13]) (by kernel_rfl) (by simp) ?_
    refine AllReadyH.cons rfl (fun K hK => ?_) AllReadyH.nil
    go_simp
    refine hK.out _ _ hHeld (fun hHeld => ?_)
    clear hK K
    (try simp only [Act.put, List.setIfInBounds_toArray, List.set_cons_zero, List.set_cons_succ])
    refine wpAnyH_done (by kernel_rfl) ?_ _
    go_wp2_with fail
    refine bodyPost_ret (v := .tuple #[.agg zc, .int .i64 r0]) (results_cell2 Tryz.results8 _ rfl rfl hZB Tryz.underlying29 rfl (by rw [HZ1.out])) rfl ?_
    obtain ⟨A9, c9, hA9, hsa⟩ := own_slA HO2.out
    simp only [Value.slice.injEq, true_and] at hA9
    obtain ⟨rfl, rfl⟩ := hA9
    refine ⟨some ⟨g2, 0, none⟩, c2, by rw [HZ.out], (HE.out.of_ext.trans hZM).new (fun kk hkk => .inr (by simp at hkk; omega)), ?_, hsa⟩
    intro hn
    obtain ⟨bb, oo, hA, hbl, hcc⟩ := (own_BsL HO2.out).ext HM3.out hn
    have hbb : bb = g2 := by cases hA; rfl
    have hg2 : V.heap.size ≤ g2 := Nat.le_trans HBV.out (HO2.out.lt g2 rfl).1
    exact ⟨bb, oo, hA, Nat.lt_of_lt_of_le hbl HZM3.out.size, fun j hj => (hcc j hj).mod HZM3.out hbl (by have := HVS.out; simp; omega)⟩
  · have hVB0 := hid (Blk.new e.x.drew 31 (BV.c x))
    go_simp
    refine hK.out _ _ ⟨hHeld.1.alloc _, let ⟨cs, hb, hc⟩ := hHeld.2; ⟨cs, hb.alloc _, hc⟩⟩ (fun hHeld => ?_)
    clear hK K
    (try simp only [Act.put, List.setIfInBounds_toArray, List.set_cons_zero, List.set_cons_succ])
    refine wpAnyH_ready (rs := [3]) (by kernel_rfl) (by simp) ?_
    refine AllReadyH.cons rfl (fun K hK => ?_) AllReadyH.nil
    go_simp
    (go_at_call 22; refine (KC.out _ (HLL.out _ hHeld.1)).mono ?_; rintro y w1 ⟨g, c1, rfl, hb3, ho1⟩; have HO1 := hid ho1; have HM1 := hid hb3; have HN1 := hid hHeld.1.size)
    refine hK.out _ _ ⟨hHeld.1.trans (Mod.of_ext hb3), let ⟨cs, hb, hc⟩ := hHeld.2; ⟨cs, hb.ext hb3, hc⟩⟩ (fun hHeld => ?_)
    clear hK K
    (try simp only [Act.put, List.setIfInBounds_toArray, List.set_cons_zero, List.set_cons_succ])
    have HVB : Hid (Blk w1 e.x.heap.size 31 (BV.c x)) := hid (hVB0.out.ext HM1.out)
    have HOA := HO1
    have HNE : Hid (e.x.heap.size ≠ g) := hid (by have := (HO1.out.lt g rfl).1; simp at this; omega)
    have HBW := hid HM1.out.size
    have HGV : Hid (V.heap.size ≤ g) := hid (Nat.le_trans HN1.out (HO1.out.lt g rfl).1)
    have HBV := HN1
    refine wpAnyH_ready (rs := [8]) (by kernel_rfl) (by simp) ?_
    refine AllReadyH.cons rfl (fun K hK => ?_) AllReadyH.nil
    go_simp
    (go_at_call 21; refine (KI.out _ _ g c1 e.x.heap.size HOA.out HVB.out HNE.out HBW.out).mono ?_; rintro y w3 ⟨g2, c2, rfl, hm2, ho2⟩; have HO2 := hid ho2)
    refine hK.out _ _ ⟨modg hHeld.1 hm2 HGV.out, let ⟨cs, hb, hc⟩ := hHeld.2; ⟨cs, hb.mod hm2 (by have := HGV.out; have := HVS.out; simp; omega), hc⟩⟩ (fun hHeld => ?_)
    clear hK K
    (try simp only [Act.put, List.setIfInBounds_toArray, List.set_cons_zero, List.set_cons_succ])
    refine wpAnyH_ready (rs := [9]) (by kernel_rfl) (by simp) ?_
    refine AllReadyH.cons rfl (fun K hK => ?_) AllReadyH.nil
    go_simp
    (go_at_call 20; refine (KK.out _ (some ⟨g2, 0, none⟩) c2 (own_BsL HO2.out) (fun kk o' hA => by cases hA; exact (HO2.out.lt _ rfl).2)).mono ?_; rintro y w4 ⟨rfl, hb3⟩; obtain ⟨zc, r0, hz, hz1, hz2, hz3⟩ := chk_cells p (some ⟨g2, 0, none⟩) (k + 1) c2 (bunRight p (insB bs (k - 1) x) (k + 1)); rw [hz]; have HZ := hid hz; have HZ1 := hid hz1; have HZ2 := hid hz2; have HZ3 := hid hz3; have HM3 := hid hb3; clear hz hz1 hz2 hz3)
    refine hK.out _ _ ⟨hHeld.1.trans (Mod.of_ext hb3), let ⟨cs, hb, hc⟩ := hHeld.2; ⟨cs, hb.ext hb3, hc⟩⟩ (fun hHeld => ?_)
    clear hK K
    (try simp only [Act.put, List.setIfInBounds_toArray, List.set_cons_zero, List.set_cons_succ])
    refine' wpAnyH_take (i := 10) (v := _) rfl (by kernel_rfl) (by kernel_rfl) (by kernel_rfl) (fun _ _ _ h => h) (Or.inl ⟨by rfl, ?hy⟩) hHeld ?rest
    case hy => (rintro W ⟨hM, _⟩; go_simp; (try with_reducible rfl))
    case rest =>
    (try simp only [Act.put, List.setIfInBounds_toArray, List.set_cons_zero, List.set_cons_succ])
    refine' wpAnyH_take (i := 11) (v := _) rfl (by kernel_rfl) (by kernel_rfl) (by kernel_rfl) (fun _ _ _ h => h) (Or.inl ⟨by rfl, ?hy⟩) hHeld ?rest
    case hy => (rintro W ⟨hM, _⟩; go_simp; (try with_reducible rfl))
    case rest =>
    (try simp only [Act.put, List.setIfInBounds_toArray, List.set_cons_zero, List.set_cons_succ])
    refine wpAnyH_ready (rs := [12]) (by kernel_rfl) (by simp) ?_
    refine AllReadyH.cons rfl (fun K hK => ?_) AllReadyH.nil
    obtain ⟨cs0, hb0, hc0⟩ := hHeld.2
    refine wp_store_mid 29 _ _ rfl (w.heap.size + 1 + 1) 0 zc (by rfl) (by rfl) (hb0.there (by rw [HZ3.out, hc0]; exact Nat.le_refl _)) HZ1.out HZ2.out ?_
    have hZB := setCells_all (ds := zc) hb0 (by rw [Array.length_toList, HZ3.out, hc0])
    have hZM := setCells_mod (b := (w.heap.size + 1 + 1)) zc.toList 0 hHeld.1 (.inl (by simp))
    generalize hZ : World.setCells w4 (w.heap.size + 1 + 1) 0 zc.toList = Z at *
    have HZM3 : Hid (Mod [(w.heap.size + 1 + 1)] w4 Z) := hid (by rw [← hZ]; exact setCells_mod _ _ (Mod.refl _ _) (.inl (by simp)))
    clear hZ
    refine hK.out _ _ ⟨hZM, zc, hZB, HZ3.out⟩ (fun hHeld => ?_)
    clear hK K
    (try simp only [Act.put, List.setIfInBounds_toArray, List.set_cons_zero, List.set_cons_succ])
    refine wpAnyH_ready (rs := [13]) (by kernel_rfl) (by simp) ?_
    refine AllReadyH.cons rfl (fun K hK => ?_) AllReadyH.nil
    go_simp
    refine hK.out _ _ hHeld (fun hHeld => ?_)
    clear hK K
    (try simp only [Act.put, List.setIfInBounds_toArray, List.set_cons_zero, List.set_cons_succ])
    refine wpAnyH_done (by kernel_rfl) ?_ _
    go_wp2_with fail
    refine bodyPost_ret (v := .tuple #[.agg zc, .int .i64 r0]) (results_cell2 Tryz.results8 _ rfl rfl hZB Tryz.underlying29 rfl (by rw [HZ1.out])) rfl ?_
    obtain ⟨A9, c9, hA9, hsa⟩ := own_slA HO2.out
    simp only [Value.slice.injEq, true_and] at hA9
    obtain ⟨rfl, rfl⟩ := hA9
    refine ⟨some ⟨g2, 0, none⟩, c2, by rw [HZ.out], (HE.out.of_ext.trans hZM).new (fun kk hkk => .inr (by simp at hkk; omega)), ?_, hsa⟩
    intro hn
    obtain ⟨bb, oo, hA, hbl, hcc⟩ := (own_BsL HO2.out).ext HM3.out hn
    have hbb : bb = g2 := by cases hA; rfl
    have hg2 : V.heap.size ≤ g2 := Nat.le_trans HBV.out (HO2.out.lt g2 rfl).1
    exact ⟨bb, oo, hA, Nat.lt_of_lt_of_le hbl HZM3.out.size, fun j hj => (hcc j hj).mod HZM3.out hbl (by have := HVS.out; simp; omega)⟩
end Go.Proofs.YtkeabdfgacicaaaGreat


namespace Go.Proofs.YtkeabdfgacicaaaGreat
open Go.RowKit
set_option linter.unusedVariables false
set_option linter.unusedSimpArgs false

/-- With x at place i. -/
def setAt (bs : Nat → BV) (i : Nat) (x : BV) (j : Nat) : BV := if j = i then x else bs j
theorem own_set {w : World} {base g k c i : Nat} {bs : Nat → BV} (x : BV) (hi : i < k) (hown : w.ownsRow base 31 5 (.slice (some ⟨g, 0, none⟩) k c) k (flatB bs k)) : (w.setCells g (i * 5) (rowB x)).ownsRow base 31 5 (.slice (some ⟨g, 0, none⟩) k c) k (flatB (setAt bs i x) k) ∧ w.there g (i * 5) 5 := by
  rcases hown.2 with ⟨h, _⟩ | ⟨q, cap, cur, h, hbg, hg, hnc, hcm, hcz, htk⟩
  · cases h
  · simp only [Value.slice.injEq, Option.some.injEq, Addr.mk.injEq, and_true, true_and] at h
    obtain ⟨rfl, rfl⟩ := h
    have hB : Blk w g 31 cur := hg
    have h0 : ∀ j, j < k * 5 → cur[j]? = some (cellB (bs (j / 5)) (j % 5)) := fun j hj => by
      rw [← take_at cur (k * 5) (by omega) j hj, htk, flatB_at bs k j hj]
    have hr : (rowB x).length = 5 := rfl
    have hB1 := setRow_blk (rowB x) w (i * 5) cur hB
    rw [setRow_eq] at hB1
    refine ⟨⟨by simp [flatB_length], .inr ⟨g, c, _, rfl, hbg, hB1, hnc, hcm, by rw [writeFrom_size]; exact hcz, ?_⟩⟩, fun j hj => ⟨?_, hB.frozen _⟩⟩
    · refine flatB_of _ _ (by rw [List.length_take, Array.length_toList, writeFrom_size]; omega) fun j hj => ?_
      rw [take_at _ _ (by rw [writeFrom_size]; omega) j hj, writeFrom_get _ _ _ _ (by rw [hr]; omega)]
      unfold setAt
      by_cases c0 : i * 5 ≤ j ∧ j < i * 5 + 5
      · rw [if_pos (by rw [hr]; omega), rowB_at x (by omega), if_pos (by omega), show j - i * 5 = j % 5 by omega]
      · rw [if_neg (by rw [hr]; omega), h0 j hj, if_neg (by omega)]
    · rw [hB.cell, Array.getElem?_eq_getElem (by omega)]; rfl
set_option maxRecDepth 20000 in
set_option maxHeartbeats 1600000 in
theorem Set_none (p : PV) (bs : Nat → BV) (k c : Nat) (A : Option Addr) (x : BV) (hk : k < 4611686018427387904) (hno : firstOf (numB bs x.num) k = none) (w : World) (h : BsL w A k bs) : Calls Tryz.prog 9 #[bunV p A k c, x.v] w (Ret (.tuple #[.agg zeroBun, .int .i64 15]) w) := by
  have KA := hid (fun W (hW : BsL W A k bs) => at_any p bs k c A x.num hk W hW)
  unfold firstI at KA
  rw [hno] at KA
  have HE := hid ((((Mod.refl [] w).alloc (.cells (bunC p A k c) 29)).alloc (.cells (BV.c x) 31)).alloc (.cells #[.int .u64 0, .int .i64 0, .int .i64 0, .string ⟨#[]⟩, .int .u64 0, .int .u64 0, .int .i64 0, .string ⟨#[]⟩, .int .u64 0, .int .u64 0, .int .i64 0, .string ⟨#[]⟩, .int .u64 0, .int .u64 0, .int .u64 0, .int .u64 0, .int .u64 0, .int .u64 0, .int .u64 0, .slice none 0 0] 29))
  have HB0 : Hid (Blk (((w.alloc (.cells (bunC p A k c) 29)).alloc (.cells (BV.c x) 31)).alloc (.cells #[.int .u64 0, .int .i64 0, .int .i64 0, .string ⟨#[]⟩, .int .u64 0, .int .u64 0, .int .i64 0, .string ⟨#[]⟩, .int .u64 0, .int .u64 0, .int .i64 0, .string ⟨#[]⟩, .int .u64 0, .int .u64 0, .int .u64 0, .int .u64 0, .int .u64 0, .int .u64 0, .int .u64 0, .slice none 0 0] 29)) w.heap.size 29 (bunC p A k c)) := hid (((Blk.new w 29 (bunC p A k c)).alloc (.cells (BV.c x) 31)).alloc (.cells #[.int .u64 0, .int .i64 0, .int .i64 0, .string ⟨#[]⟩, .int .u64 0, .int .u64 0, .int .i64 0, .string ⟨#[]⟩, .int .u64 0, .int .u64 0, .int .i64 0, .string ⟨#[]⟩, .int .u64 0, .int .u64 0, .int .u64 0, .int .u64 0, .int .u64 0, .int .u64 0, .int .u64 0, .slice none 0 0] 29))
  have HB1 : Hid (Blk (((w.alloc (.cells (bunC p A k c) 29)).alloc (.cells (BV.c x) 31)).alloc (.cells #[.int .u64 0, .int .i64 0, .int .i64 0, .string ⟨#[]⟩, .int .u64 0, .int .u64 0, .int .i64 0, .string ⟨#[]⟩, .int .u64 0, .int .u64 0, .int .i64 0, .string ⟨#[]⟩, .int .u64 0, .int .u64 0, .int .u64 0, .int .u64 0, .int .u64 0, .int .u64 0, .int .u64 0, .slice none 0 0] 29)) (w.heap.size + 1) 31 (BV.c x)) := by unfold Hid; have := (Blk.newL (N := (w.heap.size + 1)) (w.alloc (.cells (bunC p A k c) 29)) 31 (BV.c x) (by simp)); exact (this.alloc (.cells #[.int .u64 0, .int .i64 0, .int .i64 0, .string ⟨#[]⟩, .int .u64 0, .int .u64 0, .int .i64 0, .string ⟨#[]⟩, .int .u64 0, .int .u64 0, .int .i64 0, .string ⟨#[]⟩, .int .u64 0, .int .u64 0, .int .u64 0, .int .u64 0, .int .u64 0, .int .u64 0, .int .u64 0, .slice none 0 0] 29))
  have HB2 : Hid (Blk (((w.alloc (.cells (bunC p A k c) 29)).alloc (.cells (BV.c x) 31)).alloc (.cells #[.int .u64 0, .int .i64 0, .int .i64 0, .string ⟨#[]⟩, .int .u64 0, .int .u64 0, .int .i64 0, .string ⟨#[]⟩, .int .u64 0, .int .u64 0, .int .i64 0, .string ⟨#[]⟩, .int .u64 0, .int .u64 0, .int .u64 0, .int .u64 0, .int .u64 0, .int .u64 0, .int .u64 0, .slice none 0 0] 29)) (w.heap.size + 1 + 1) 29 #[.int .u64 0, .int .i64 0, .int .i64 0, .string ⟨#[]⟩, .int .u64 0, .int .u64 0, .int .i64 0, .string ⟨#[]⟩, .int .u64 0, .int .u64 0, .int .i64 0, .string ⟨#[]⟩, .int .u64 0, .int .u64 0, .int .u64 0, .int .u64 0, .int .u64 0, .int .u64 0, .int .u64 0, .slice none 0 0]) := by unfold Hid; exact Blk.newL _ _ _ (by simp)
  have HL := hid (BsL.ext h HE.out)
  clear h hno hk
  go_enter Tryz.func9, Tryz.ntmps9
  go_upto_region 1 with fail
  generalize (((w.alloc (.cells (bunC p A k c) 29)).alloc (.cells (BV.c x) 31)).alloc (.cells #[.int .u64 0, .int .i64 0, .int .i64 0, .string ⟨#[]⟩, .int .u64 0, .int .u64 0, .int .i64 0, .string ⟨#[]⟩, .int .u64 0, .int .u64 0, .int .i64 0, .string ⟨#[]⟩, .int .u64 0, .int .u64 0, .int .u64 0, .int .u64 0, .int .u64 0, .int .u64 0, .int .u64 0, .slice none 0 0] 29)) = V at *
  have y1 : ∀ e : Later V, e.x.cell? ⟨w.heap.size + 1, 1, none⟩ = some (.int .i64 x.num) := HB1.out.cellL 1 rfl
  have b19 : ∀ e : Later V, e.x.cell? ⟨w.heap.size, 19, none⟩ = some (.slice A k c) := HB0.out.cellL 19 rfl
  obtain ⟨e, he⟩ := Later.self V
  rw [he]
  clear he
  go_wp2_with (first | (go_at_call 23; refine (Ret.later (KA.out _ (HL.out.ext (Later.h _)))).mono ?_; rintro x _ ⟨rfl, e, rfl⟩) | (refine wpList_row (by rfl) 29 _ rfl _ rfl (HB0.out.later _) Tryz.underlying29 rfl (by kernel_rfl) ?_) | (refine wpList_store_mid rfl 29 _ _ rfl (w.heap.size + 1 + 1) 0 #[.int .u64 0, .int .i64 0, .int .i64 0, .string ⟨#[]⟩, .int .u64 0, .int .u64 0, .int .i64 0, .string ⟨#[]⟩, .int .u64 0, .int .u64 0, .int .i64 0, .string ⟨#[]⟩, .int .u64 0, .int .u64 0, .int .u64 0, .int .u64 0, .int .u64 0, .int .u64 0, .int .u64 0, .slice none 0 0] (by rfl) (by rfl) ((HB2.out.later e).there (Nat.le_refl 20)) (by kernel_rfl) (by simp [Value.oneCell']) ?_))
  generalize hZ : World.setCells _ _ _ _ = Z
  have HZB : Hid (Blk Z (w.heap.size + 1 + 1) 29 #[.int .u64 0, .int .i64 0, .int .i64 0, .string ⟨#[]⟩, .int .u64 0, .int .u64 0, .int .i64 0, .string ⟨#[]⟩, .int .u64 0, .int .u64 0, .int .i64 0, .string ⟨#[]⟩, .int .u64 0, .int .u64 0, .int .u64 0, .int .u64 0, .int .u64 0, .int .u64 0, .int .u64 0, .slice none 0 0]) := hid (by rw [← hZ]; exact setCells_all (ds := #[.int .u64 0, .int .i64 0, .int .i64 0, .string ⟨#[]⟩, .int .u64 0, .int .u64 0, .int .i64 0, .string ⟨#[]⟩, .int .u64 0, .int .u64 0, .int .i64 0, .string ⟨#[]⟩, .int .u64 0, .int .u64 0, .int .u64 0, .int .u64 0, .int .u64 0, .int .u64 0, .int .u64 0, .slice none 0 0]) (HB2.out.later e) rfl)
  have HZM : Hid (Ext w Z) := hid (by rw [← hZ]; exact setCells_mod _ _ (HE.out.trans e.h) (.inr (by omega)))
  clear hZ
  exact bodyPost_ret (v := .tuple #[.agg #[.int .u64 0, .int .i64 0, .int .i64 0, .string ⟨#[]⟩, .int .u64 0, .int .u64 0, .int .i64 0, .string ⟨#[]⟩, .int .u64 0, .int .u64 0, .int .i64 0, .string ⟨#[]⟩, .int .u64 0, .int .u64 0, .int .u64 0, .int .u64 0, .int .u64 0, .int .u64 0, .int .u64 0, .slice none 0 0], .int .i64 15]) (results_cell2 Tryz.results9 _ rfl rfl HZB.out Tryz.underlying29 rfl (by kernel_rfl)) rfl (Ret.mk rfl HZM.out)
set_option maxRecDepth 20000 in
set_option maxHeartbeats 4000000 in
theorem Set_some (p : PV) (bs : Nat → BV) (k c : Nat) (A : Option Addr) (x : BV) (hnl : Hid (p.d.name.length < 4611686018427387904 ∧ p.s.name.length < 4611686018427387904 ∧ p.r.name.length < 4611686018427387904)) (hf : p.fl < 18446744073709551616) (hk : k ≤ 100000) (i : Nat) (hsome : firstOf (numB bs x.num) k = some i) (w : World) (h : BsL w A k bs) : Calls Tryz.prog 9 #[bunV p A k c, x.v] w (fun e w' => ∃ A' c', e = .returned (chkV p A' k c' (bunRight p (setAt bs i x) k)) ∧ Ext w w' ∧ BsL w' A' k (setAt bs i x) ∧ SlA A' k c') := by
  have hi := (firstOf_spec hsome).1
  have KA := hid (fun W (hW : BsL W A k bs) => at_any p bs k c A x.num (by omega) W hW)
  unfold firstI at KA
  rw [hsome] at KA
  have KC := hid (fun W (hW : BsL W A k bs) => CloneB_any bs k (by unfold Hid; omega) A c W hW)
  have KK := hid (fun W A' c' (hW : BsL W A' k (setAt bs i x)) hlt => checked_any p (setAt bs i x) k c k c' A A' hnl hf (by omega) W hW hlt)
  have HSET := hid (fun W base g c' hown => own_set (w := W) (base := base) (g := g) (c := c') (bs := bs) x hi hown)
  have HE := hid ((((Mod.refl [] w).alloc (.cells (bunC p A k c) 29)).alloc (.cells (BV.c x) 31)).alloc (.cells #[.int .u64 0, .int .i64 0, .int .i64 0, .string ⟨#[]⟩, .int .u64 0, .int .u64 0, .int .i64 0, .string ⟨#[]⟩, .int .u64 0, .int .u64 0, .int .i64 0, .string ⟨#[]⟩, .int .u64 0, .int .u64 0, .int .u64 0, .int .u64 0, .int .u64 0, .int .u64 0, .int .u64 0, .slice none 0 0] 29))
  have HB0 : Hid (Blk (((w.alloc (.cells (bunC p A k c) 29)).alloc (.cells (BV.c x) 31)).alloc (.cells #[.int .u64 0, .int .i64 0, .int .i64 0, .string ⟨#[]⟩, .int .u64 0, .int .u64 0, .int .i64 0, .string ⟨#[]⟩, .int .u64 0, .int .u64 0, .int .i64 0, .string ⟨#[]⟩, .int .u64 0, .int .u64 0, .int .u64 0, .int .u64 0, .int .u64 0, .int .u64 0, .int .u64 0, .slice none 0 0] 29)) w.heap.size 29 (bunC p A k c)) := hid (((Blk.new w 29 (bunC p A k c)).alloc (.cells (BV.c x) 31)).alloc (.cells #[.int .u64 0, .int .i64 0, .int .i64 0, .string ⟨#[]⟩, .int .u64 0, .int .u64 0, .int .i64 0, .string ⟨#[]⟩, .int .u64 0, .int .u64 0, .int .i64 0, .string ⟨#[]⟩, .int .u64 0, .int .u64 0, .int .u64 0, .int .u64 0, .int .u64 0, .int .u64 0, .int .u64 0, .slice none 0 0] 29))
  have HB1 : Hid (Blk (((w.alloc (.cells (bunC p A k c) 29)).alloc (.cells (BV.c x) 31)).alloc (.cells #[.int .u64 0, .int .i64 0, .int .i64 0, .string ⟨#[]⟩, .int .u64 0, .int .u64 0, .int .i64 0, .string ⟨#[]⟩, .int .u64 0, .int .u64 0, .int .i64 0, .string ⟨#[]⟩, .int .u64 0, .int .u64 0, .int .u64 0, .int .u64 0, .int .u64 0, .int .u64 0, .int .u64 0, .slice none 0 0] 29)) (w.heap.size + 1) 31 (BV.c x)) := by unfold Hid; have := (Blk.newL (N := (w.heap.size + 1)) (w.alloc (.cells (bunC p A k c) 29)) 31 (BV.c x) (by simp)); exact (this.alloc (.cells #[.int .u64 0, .int .i64 0, .int .i64 0, .string ⟨#[]⟩, .int .u64 0, .int .u64 0, .int .i64 0, .string ⟨#[]⟩, .int .u64 0, .int .u64 0, .int .i64 0, .string ⟨#[]⟩, .int .u64 0, .int .u64 0, .int .u64 0, .int .u64 0, .int .u64 0, .int .u64 0, .int .u64 0, .slice none 0 0] 29))
  have HB2 : Hid (Blk (((w.alloc (.cells (bunC p A k c) 29)).alloc (.cells (BV.c x) 31)).alloc (.cells #[.int .u64 0, .int .i64 0, .int .i64 0, .string ⟨#[]⟩, .int .u64 0, .int .u64 0, .int .i64 0, .string ⟨#[]⟩, .int .u64 0, .int .u64 0, .int .i64 0, .string ⟨#[]⟩, .int .u64 0, .int .u64 0, .int .u64 0, .int .u64 0, .int .u64 0, .int .u64 0, .int .u64 0, .slice none 0 0] 29)) (w.heap.size + 1 + 1) 29 #[.int .u64 0, .int .i64 0, .int .i64 0, .string ⟨#[]⟩, .int .u64 0, .int .u64 0, .int .i64 0, .string ⟨#[]⟩, .int .u64 0, .int .u64 0, .int .i64 0, .string ⟨#[]⟩, .int .u64 0, .int .u64 0, .int .u64 0, .int .u64 0, .int .u64 0, .int .u64 0, .int .u64 0, .slice none 0 0]) := by unfold Hid; exact Blk.newL _ _ _ (by simp)
  have HL := hid (BsL.ext h HE.out)
  have i0 : (0 : Int) ≤ (i : Int) := by omega
  have i1 : (i : Int) ≤ 100000 := by omega
  have i2 : (i : Int) < (k : Int) := by omega
  have t1 : decide ((i : Int) < 0) = false := by simp
  have t2 : ((i : Int) < 0) = False := eq_false (by omega)
  have t3 : decide (i < k) = true := decide_eq_true hi
  clear h hsome hk hf hi
  go_enter Tryz.func9, Tryz.ntmps9
  go_upto_region 1 with fail
  generalize (((w.alloc (.cells (bunC p A k c) 29)).alloc (.cells (BV.c x) 31)).alloc (.cells #[.int .u64 0, .int .i64 0, .int .i64 0, .string ⟨#[]⟩, .int .u64 0, .int .u64 0, .int .i64 0, .string ⟨#[]⟩, .int .u64 0, .int .u64 0, .int .i64 0, .string ⟨#[]⟩, .int .u64 0, .int .u64 0, .int .u64 0, .int .u64 0, .int .u64 0, .int .u64 0, .int .u64 0, .slice none 0 0] 29)) = V at *
  have y1 : ∀ e : Later V, e.x.cell? ⟨w.heap.size + 1, 1, none⟩ = some (.int .i64 x.num) := HB1.out.cellL 1 rfl
  have b19 : ∀ e : Later V, e.x.cell? ⟨w.heap.size, 19, none⟩ = some (.slice A k c) := HB0.out.cellL 19 rfl
  obtain ⟨e, he⟩ := Later.self V
  rw [he]
  clear he
  go_upto_region 4 with (first | (go_at_call 23; refine (Ret.later (KA.out _ (HL.out.ext (Later.h _)))).mono ?_; rintro x _ ⟨rfl, e, rfl⟩) | (refine wpList_row (by rfl) 29 _ rfl _ rfl (HB0.out.later _) Tryz.underlying29 rfl (by kernel_rfl) ?_))
  go_upto_region 5 with (go_at_call 22; refine (KC.out _ (HL.out.ext (Later.h _))).mono ?_; rintro y w1 ⟨g, c1, rfl, hb1, ho1⟩)
  have HO1 := hid ho1
  have HE1 := hid (e.h.trans hb1)
  have HGN : Hid (V.heap.size ≤ g) := hid (Nat.le_trans e.h.size (ho1.lt g rfl).1)
  clear hb1 ho1
  have HXR := hid (HB1.out.ext HE1.out)
  go_upto_region 6 with (first | (refine wpList_row (by rfl) 31 _ rfl _ rfl HXR.out Tryz.underlying31 rfl (by kernel_rfl) ?_) | (refine wpList_store_mid rfl 31 _ _ rfl g (i * 5) (BV.c x) (by rfl) (by rfl) (HSET.out w1 _ g c1 HO1.out).2 (by kernel_rfl) (by simp [Value.oneCell']) ?_))
  generalize hW2 : World.setCells _ _ _ _ = W2
  have HO2 : Hid (W2.ownsRow e.x.heap.size 31 5 (.slice (some ⟨g, 0, none⟩) k c1) k (flatB (setAt bs i x) k)) := hid (by rw [← hW2]; exact (HSET.out w1 _ g c1 HO1.out).1)
  have HE2 : Hid (Ext V W2) := hid (by rw [← hW2]; exact setCells_mod _ _ HE1.out (.inr HGN.out))
  have HB2' := hid (HB0.out.ext HE2.out)
  have HR2 := hid (HB2.out.ext HE2.out)
  clear hW2 HO1 HE1 HXR
  go_wp2_with (first | (refine wpList_row (by rfl) 29 _ rfl _ rfl HB2'.out Tryz.underlying29 rfl (by kernel_rfl) ?_) | (go_at_call 20; refine (KK.out _ (some ⟨g, 0, none⟩) c1 (own_BsL HO2.out) (fun kk o' hA => by cases hA; exact (HO2.out.lt _ rfl).2)).mono ?_; rintro y w3 ⟨rfl, hb3⟩; obtain ⟨zc, r0, hz, hz1, hz2, hz3⟩ := chk_cells p (some ⟨g, 0, none⟩) k c1 (bunRight p (setAt bs i x) k); rw [hz]; have HZ := hid hz; have HZ1 := hid hz1; have HZ2 := hid hz2; have HZ3 := hid hz3; have HM3 := hid hb3; have HR3 := hid (HR2.out.ext hb3); clear hz hz1 hz2 hz3 hb3) | (refine wpList_store_mid rfl 29 _ _ rfl (w.heap.size + 1 + 1) 0 zc (by rfl) (by rfl) (HR3.out.there (by rw [HZ3.out]; exact Nat.le_refl 20)) HZ1.out HZ2.out ?_))
  generalize hZ4 : World.setCells _ _ _ _ = Z
  have HZB : Hid (Blk Z (w.heap.size + 1 + 1) 29 zc) := hid (by rw [← hZ4]; exact setCells_all (ds := zc) HR3.out (by rw [Array.length_toList, HZ3.out]; rfl))
  have HZM3 : Hid (Mod [(w.heap.size + 1 + 1)] w3 Z) := hid (by rw [← hZ4]; exact setCells_mod _ _ (Mod.refl _ _) (.inl (by simp)))
  have HVS : Hid (w.heap.size + 3 ≤ V.heap.size) := hid (Nat.succ_le_of_lt HB2.out.lt)
  clear hZ4
  refine bodyPost_ret (v := .tuple #[.agg zc, .int .i64 r0]) (results_cell2 Tryz.results9 _ rfl rfl HZB.out Tryz.underlying29 rfl (by rw [HZ1.out])) rfl ?_
  obtain ⟨A9, c9, hA9, hsa⟩ := own_slA HO2.out
  simp only [Value.slice.injEq, true_and] at hA9
  obtain ⟨rfl, rfl⟩ := hA9
  refine ⟨some ⟨g, 0, none⟩, c1, by rw [HZ.out], Mod.new (S := [(w.heap.size + 1 + 1)]) (((HE.out.trans HE2.out).trans HM3.out).of_ext.trans HZM3.out) (fun kk hkk => .inr (by simp at hkk; omega)), ?_, hsa⟩
  intro hn
  obtain ⟨bb, oo, hA, hbl, hcc⟩ := (own_BsL HO2.out).ext HM3.out hn
  have hbb : bb = g := by cases hA; rfl
  exact ⟨bb, oo, hA, Nat.lt_of_lt_of_le hbl HZM3.out.size, fun j hj => (hcc j hj).mod HZM3.out hbl (by have := HGN.out; have := HVS.out; simp; omega)⟩
end Go.Proofs.YtkeabdfgacicaaaGreat


namespace Go.Proofs.YtkeabdfgacicaaaGreat
open Go.RowKit
set_option linter.unusedVariables false
set_option linter.unusedSimpArgs false

set_option maxRecDepth 20000 in
set_option maxHeartbeats 4000000 in
theorem Same_eq (p : PV) (bs bs' : Nat → BV) (k c c' : Nat) (A A' : Option Addr) (hk : k < 4611686018427387904) (he : ∀ j, j < k → bs j = bs' j) (w : World) (h : BsL w A k bs) (h' : BsL w A' k bs') : Calls Tryz.prog 13 #[bunV p A k c, bunV p A' k c'] w (Ret (.bool true) w) := by
  have HE := hid (((Mod.refl [] w).alloc (.cells (bunC p A k c) 29)).alloc (.cells (bunC p A' k c') 29))
  have HB0 : Hid (Blk ((w.alloc (.cells (bunC p A k c) 29)).alloc (.cells (bunC p A' k c') 29)) w.heap.size 29 (bunC p A k c)) := hid ((Blk.new w 29 (bunC p A k c)).alloc (.cells (bunC p A' k c') 29))
  have HB1 : Hid (Blk ((w.alloc (.cells (bunC p A k c) 29)).alloc (.cells (bunC p A' k c') 29)) (w.heap.size + 1) 29 (bunC p A' k c')) := by unfold Hid; exact Blk.newL _ _ _ (by simp)
  have HL := hid (BsL.ext h HE.out)
  have HL' := hid (BsL.ext h' HE.out)
  have HQ := hid he
  have k1 : (k : Int) < 4611686018427387904 := by omega
  clear h h' he hk
  go_enter Tryz.func13, Tryz.ntmps13
  go_upto_region 1 with fail
  generalize ((w.alloc (.cells (bunC p A k c) 29)).alloc (.cells (bunC p A' k c') 29)) = V at *
  have HP0 : Hid (∀ e : Later V, e.x.rangeAt w.heap.size 0 p.c.toList) := HB0.out.range 0 19 (by rw [Array.toList_extract]; rfl)
  have HP1 : Hid (∀ e : Later V, e.x.rangeAt (w.heap.size + 1) 0 p.c.toList) := HB1.out.range 0 19 (by rw [Array.toList_extract]; rfl)
  have b19 : ∀ e : Later V, e.x.cell? ⟨w.heap.size, 19, none⟩ = some (.slice A k c) := HB0.out.cellL 19 rfl
  have b20 : ∀ e : Later V, e.x.cell? ⟨w.heap.size + 1, 19, none⟩ = some (.slice A' k c') := HB1.out.cellL 19 rfl
  obtain ⟨e, he⟩ := Later.self V
  rw [he]
  clear he
  go_upto_region 4 with (first | (refine wpList_mid (by rfl) 26 _ rfl _ 0 rfl _ _ (HP0.out _) Tryz.underlying26 rfl (by kernel_rfl) ?_) | (refine wpList_mid (by rfl) 26 _ rfl _ 0 rfl _ _ (HP1.out _) Tryz.underlying26 rfl (by kernel_rfl) ?_))
  go_loopw [5] (fun s5 wr => ∃ i : Nat, s5 = .int .i64 (i : Int) ∧ Hid (i ≤ k) ∧ ∃ e : Later V, wr = e.x) (fun s5 _ => k - (intOf s5).toNat)
  case atStart => exact ⟨0, rfl, (show Hid _ from Nat.zero_le _), e, rfl⟩
  case round =>
    clear e
    obtain ⟨i, rfl, hi, e, rfl⟩ := hrel
    have i0 : (0 : Int) ≤ (i : Int) := by omega
    by_cases hlt : i < k
    · obtain ⟨b, o, rfl, hb, q0, q1, q2, q3, q4⟩ := HL.out.cells hlt
      obtain ⟨b', o', rfl, hb', u0, u1, u2, u3, u4⟩ := HL'.out.cells hlt
      rw [← HQ.out i hlt] at u0 u1 u2 u3 u4
      have tc : decide (i < k) = true := by simp [hlt]
      have i1 : (i : Int) < (k : Int) := by omega
      have HLT := hid hlt
      clear hlt hb hb'
      generalize bs i = X at *
      go_upto_region 6 with fail
      refine wp_region_later (by kernel_rfl) (by kernel_rfl) ?_
      repeat (first | go_big_quiet_step (fail))
      refine wpQuiet_nil ?_
      rintro _ ⟨e, rfl⟩
      go_wp2_with fail
      go_roundw
      case rel => exact ⟨i + 1, by go_num, (show Hid _ from HLT.out), e, rfl⟩
      case measure => have := HLT.out; simp [intOf]; omega
    · obtain rfl : i = k := by have := hi.out; omega
      have tc : decide (i < i) = false := by simp
      go_wp2_with fail
      go_ret
      exact Ret.mk rfl (HE.out.trans e.h)
end Go.Proofs.YtkeabdfgacicaaaGreat


namespace Go.Proofs.YtkeabdfgacicaaaGreat
open Go.RowKit
set_option linter.unusedVariables false
set_option linter.unusedSimpArgs false

def zeroPV : PV := ⟨0, 0, ⟨0, [], 0, 0⟩, ⟨0, [], 0, 0⟩, ⟨0, [], 0, 0⟩, 0, 0, 0, 0, 0⟩
theorem Same_zero (w : World) : Calls Tryz.prog 13 #[.agg zeroBun, .agg zeroBun] w (Ret (.bool true) w) :=
  Same_eq zeroPV (fun _ => zeroB) (fun _ => zeroB) 0 0 0 none none (by omega) (fun _ _ => rfl) w (fun h => by omega) (fun h => by omega)
set_option maxRecDepth 20000 in
theorem zero_any (w : World) : Calls Tryz.prog 25 #[.agg zeroBun] w (Ret (.bool true) w) := by
  have KS := hid (fun W => Same_zero W)
  have HE := hid ((Mod.refl [] w).alloc (.cells zeroBun 29))
  have HB0 : Hid (Blk (w.alloc (.cells zeroBun 29)) w.heap.size 29 zeroBun) := hid (Blk.new w 29 zeroBun)
  go_enter Tryz.func25, Tryz.ntmps25
  go_upto_region 1 with fail
  generalize (w.alloc (.cells zeroBun 29)) = V at *
  obtain ⟨e, he⟩ := Later.self V
  rw [he]
  clear he
  go_wp2_with (first | (go_at_call 13; refine (Ret.later (KS.out _)).mono ?_; rintro x _ ⟨rfl, e, rfl⟩) | (refine wpList_row (by rfl) 29 _ rfl _ rfl (HB0.out.later _) Tryz.underlying29 rfl (by kernel_rfl) ?_))
  go_ret
  exact Ret.mk rfl (HE.out.trans (Later.h _))
set_option maxRecDepth 20000 in
set_option maxHeartbeats 1600000 in
theorem edited_no (p : PV) (k c : Nat) (A : Option Addr) (i gone : Int) (m cl : Nat) (Al : Option Addr) (en : Int) (w : World) : Calls Tryz.prog 11 #[bunV p A k c, .bool false, .int .i64 i, .int .i64 gone, .slice Al m cl, .agg zeroBun, .int .i64 en, .int .i64 en] w (Ret (.bool true) w) := by
  have KZ := hid (fun W => zero_any W)
  have HE := hid (((Mod.refl [] w).alloc (.cells (bunC p A k c) 29)).alloc (.cells zeroBun 29))
  have HB0 : Hid (Blk ((w.alloc (.cells (bunC p A k c) 29)).alloc (.cells zeroBun 29)) w.heap.size 29 (bunC p A k c)) := hid ((Blk.new w 29 (bunC p A k c)).alloc (.cells zeroBun 29))
  have HB1 : Hid (Blk ((w.alloc (.cells (bunC p A k c) 29)).alloc (.cells zeroBun 29)) (w.heap.size + 1) 29 zeroBun) := by unfold Hid; exact Blk.newL _ _ _ (by simp)
  go_enter Tryz.func11, Tryz.ntmps11
  go_upto_region 1 with fail
  generalize ((w.alloc (.cells (bunC p A k c) 29)).alloc (.cells zeroBun 29)) = V at *
  obtain ⟨e, he⟩ := Later.self V
  rw [he]
  clear he
  go_wp2_with (first | (go_at_call 25; refine (Ret.later (KZ.out _)).mono ?_; rintro x _ ⟨rfl, e, rfl⟩) | (refine wpList_row (by rfl) 29 _ rfl _ rfl (HB1.out.later _) Tryz.underlying29 rfl (by kernel_rfl) ?_))
  go_ret
  exact Ret.mk (by simp) (HE.out.trans (Later.h _))
set_option maxRecDepth 20000 in
set_option maxHeartbeats 3200000 in
theorem edited_bad (p : PV) (k c : Nat) (A : Option Addr) (i gone : Nat) (m cl : Nat) (Al : Option Addr) (B : Nat → BV) (n3 : Nat) (en ff : Int) (h0 : ff ≠ 0) (w : World) (KW : ∀ W, Ext w W → Calls Tryz.prog 7 #[bunV p A k c, .int .i64 (i : Int), .int .i64 (gone : Int), .slice Al m cl] W (fun e w' => ∃ zc A' c', e = .returned (.agg zc) ∧ zc = bunC p A' n3 c' ∧ Ext W w' ∧ BsL w' A' n3 B)) (KR : ∀ W A' c', BsL W A' n3 B → Calls Tryz.prog 14 #[bunV p A' n3 c'] W (Ret (.int .i64 ff) W)) : Calls Tryz.prog 11 #[bunV p A k c, .bool true, .int .i64 (i : Int), .int .i64 (gone : Int), .slice Al m cl, .agg zeroBun, .int .i64 ff, .int .i64 en] w (Ret (.bool true) w) := by
  have KZ := hid (fun W => zero_any W)
  have ra : ((ff) == (0)) = false := by rw [beq_eq_false_iff_ne]; exact h0
  have rb : ((ff) = (0)) = False := eq_false (by exact h0)
  have rc : ((ff) != (0)) = true := by rw [bne_iff_ne]; exact h0
  clear h0
  have HE := hid (((Mod.refl [] w).alloc (.cells (bunC p A k c) 29)).alloc (.cells zeroBun 29))
  have HB0 : Hid (Blk ((w.alloc (.cells (bunC p A k c) 29)).alloc (.cells zeroBun 29)) w.heap.size 29 (bunC p A k c)) := hid ((Blk.new w 29 (bunC p A k c)).alloc (.cells zeroBun 29))
  have HB1 : Hid (Blk ((w.alloc (.cells (bunC p A k c) 29)).alloc (.cells zeroBun 29)) (w.heap.size + 1) 29 zeroBun) := by unfold Hid; exact Blk.newL _ _ _ (by simp)
  have KW := hid KW
  have KR : Hid (∀ W zc A' c', zc = bunC p A' n3 c' → BsL W A' n3 B → Calls Tryz.prog 14 #[.agg zc] W (Ret (.int .i64 ff) W)) := fun W zc A' c' hz hW => by rw [hz]; exact KR W A' c' hW
  have HI : Hid (∀ (A1 : Option Addr) (k1 c1 : Nat), (Tryz.prog.info? 29).map (·.size) = some (bunC p A1 k1 c1).size ∧ (bunC p A1 k1 c1).all (·.oneCell') = true ∧ (bunC p A1 k1 c1).size = 20) := fun A1 k1 c1 => ⟨by kernel_rfl, by simp [Value.oneCell'], rfl⟩
  go_enter Tryz.func11, Tryz.ntmps11
  go_upto_region 1 with fail
  generalize ((w.alloc (.cells (bunC p A k c) 29)).alloc (.cells zeroBun 29)) = V at *
  obtain ⟨e, he⟩ := Later.self V
  rw [he]
  clear he
  go_upto_region 4 with (first | (refine wpList_row (by rfl) 29 _ rfl _ rfl (HB0.out.later _) Tryz.underlying29 rfl (by kernel_rfl) ?_) | (go_at_call 7; refine (KW.out _ (HE.out.trans (Later.h _))).mono ?_; rintro y w5 ⟨zc, A1, c1, rfl, hzc, hE5, hL5⟩; have HZC := hid hzc; have HE5 := hid ((Later.h _).trans hE5); have HL5 := hid hL5; have HI1 : Hid ((Tryz.prog.info? 29).map (·.size) = some zc.size ∧ zc.all (·.oneCell') = true ∧ zc.size = 20) := hid (by rw [hzc]; exact HI.out _ _ _); clear hzc hE5 hL5) | (refine wpList_store_mid rfl 29 _ _ rfl w5.heap.size 0 zc (by rfl) (by rfl) ((Blk.new _ _ _).there (by rw [HI1.out.2.2]; exact Nat.le_refl 20)) HI1.out.1 HI1.out.2.1 ?_))
  generalize hZ : World.setCells _ _ _ _ = Z
  have HC : Hid (Blk Z w5.heap.size 29 zc) := hid (by rw [← hZ]; exact setCells_all (ds := zc) (Blk.new _ _ _) (by rw [Array.length_toList, HI1.out.2.2]; rfl))
  have HZV : Hid (Ext V Z) := hid (by rw [← hZ]; exact setCells_mod _ _ (HE5.out.alloc _) (.inr HE5.out.size))
  have HZ5 : Hid (Ext w5 Z) := hid (by rw [← hZ]; exact setCells_mod _ _ ((Mod.refl [] w5).alloc _) (.inr (Nat.le_refl _)))
  have HBZ := hid (HB1.out.ext HZV.out)
  have HL1 := hid (HL5.out.ext HZ5.out)
  have HEZ := hid (HE.out.trans HZV.out)
  clear hZ HB0 HB1 HE HE5 HL5 HZV HZ5 KW HI
  generalize w5.heap.size = C at *
  obtain ⟨e6, he⟩ := Later.self Z
  rw [he]
  clear he
  go_upto_region 5 with (first | (go_at_call 14; refine (Ret.later (KR.out _ zc A1 c1 HZC.out (HL1.out.ext (Later.h _)))).mono ?_; rintro x _ ⟨rfl, e, rfl⟩) | (refine wpList_row (by rfl) 29 _ rfl _ rfl (HC.out.later _) Tryz.underlying29 rfl HI1.out.1 ?_))
  go_wp2_with (first | (go_at_call 25; refine (Ret.later (KZ.out _)).mono ?_; rintro x _ ⟨rfl, e, rfl⟩) | (refine wpList_row (by rfl) 29 _ rfl _ rfl (HBZ.out.later _) Tryz.underlying29 rfl (by kernel_rfl) ?_))
  go_ret
  exact Ret.mk (by simp) (HEZ.out.trans (Later.h _))
set_option maxRecDepth 20000 in
set_option maxHeartbeats 3200000 in
theorem edited_ok (p : PV) (k c : Nat) (A : Option Addr) (i gone : Nat) (m cl : Nat) (Al : Option Addr) (B : Nat → BV) (n3 : Nat) (en : Int) (Bc : Nat → BV) (A2 : Option Addr) (c2 : Nat) (hk : n3 < 4611686018427387904) (hc : ∀ j, j < n3 → Bc j = B j) (w : World) (hLc : BsL w A2 n3 Bc) (KW : ∀ W, Ext w W → Calls Tryz.prog 7 #[bunV p A k c, .int .i64 (i : Int), .int .i64 (gone : Int), .slice Al m cl] W (fun e w' => ∃ zc A' c', e = .returned (.agg zc) ∧ zc = bunC p A' n3 c' ∧ Ext W w' ∧ BsL w' A' n3 B)) (KR : ∀ W A' c', BsL W A' n3 B → Calls Tryz.prog 14 #[bunV p A' n3 c'] W (Ret (.int .i64 0) W)) : Calls Tryz.prog 11 #[bunV p A k c, .bool true, .int .i64 (i : Int), .int .i64 (gone : Int), .slice Al m cl, .agg (bunC p A2 n3 c2), .int .i64 0, .int .i64 en] w (Ret (.bool true) w) := by
  obtain ⟨ff, hff⟩ : ∃ ff : Int, ff = 0 := ⟨0, rfl⟩
  rw [← hff] at KR
  have HE := hid (((Mod.refl [] w).alloc (.cells (bunC p A k c) 29)).alloc (.cells (bunC p A2 n3 c2) 29))
  have HB0 : Hid (Blk ((w.alloc (.cells (bunC p A k c) 29)).alloc (.cells (bunC p A2 n3 c2) 29)) w.heap.size 29 (bunC p A k c)) := hid ((Blk.new w 29 (bunC p A k c)).alloc (.cells (bunC p A2 n3 c2) 29))
  have HB1 : Hid (Blk ((w.alloc (.cells (bunC p A k c) 29)).alloc (.cells (bunC p A2 n3 c2) 29)) (w.heap.size + 1) 29 (bunC p A2 n3 c2)) := by unfold Hid; exact Blk.newL _ _ _ (by simp)
  have KW := hid KW
  have KR : Hid (∀ W zc A' c', zc = bunC p A' n3 c' → BsL W A' n3 B → Calls Tryz.prog 14 #[.agg zc] W (Ret (.int .i64 ff) W)) := fun W zc A' c' hz hW => by rw [hz]; exact KR W A' c' hW
  have HI : Hid (∀ (A1 : Option Addr) (k1 c1 : Nat), (Tryz.prog.info? 29).map (·.size) = some (bunC p A1 k1 c1).size ∧ (bunC p A1 k1 c1).all (·.oneCell') = true ∧ (bunC p A1 k1 c1).size = 20) := fun A1 k1 c1 => ⟨by kernel_rfl, by simp [Value.oneCell'], rfl⟩
  have HLc := hid (BsL.ext hLc HE.out)
  go_enter Tryz.func11, Tryz.ntmps11
  go_upto_region 1 with fail
  generalize ((w.alloc (.cells (bunC p A k c) 29)).alloc (.cells (bunC p A2 n3 c2) 29)) = V at *
  obtain ⟨e, he⟩ := Later.self V
  rw [he]
  clear he
  go_upto_region 4 with (first | (refine wpList_row (by rfl) 29 _ rfl _ rfl (HB0.out.later _) Tryz.underlying29 rfl (by kernel_rfl) ?_) | (go_at_call 7; refine (KW.out _ (HE.out.trans (Later.h _))).mono ?_; rintro y w5 ⟨zc, A1, c1, rfl, hzc, hE5, hL5⟩; have HZC := hid hzc; have HE5 := hid ((Later.h _).trans hE5); have HL5 := hid hL5; have HI1 : Hid ((Tryz.prog.info? 29).map (·.size) = some zc.size ∧ zc.all (·.oneCell') = true ∧ zc.size = 20) := hid (by rw [hzc]; exact HI.out _ _ _); clear hzc hE5 hL5) | (refine wpList_store_mid rfl 29 _ _ rfl w5.heap.size 0 zc (by rfl) (by rfl) ((Blk.new _ _ _).there (by rw [HI1.out.2.2]; exact Nat.le_refl 20)) HI1.out.1 HI1.out.2.1 ?_))
  generalize hZ : World.setCells _ _ _ _ = Z
  have HC : Hid (Blk Z w5.heap.size 29 zc) := hid (by rw [← hZ]; exact setCells_all (ds := zc) (Blk.new _ _ _) (by rw [Array.length_toList, HI1.out.2.2]; rfl))
  have HZV : Hid (Ext V Z) := hid (by rw [← hZ]; exact setCells_mod _ _ (HE5.out.alloc _) (.inr HE5.out.size))
  have HZ5 : Hid (Ext w5 Z) := hid (by rw [← hZ]; exact setCells_mod _ _ ((Mod.refl [] w5).alloc _) (.inr (Nat.le_refl _)))
  have HBZ := hid (HB1.out.ext HZV.out)
  have HL1 := hid (HL5.out.ext HZ5.out)
  have HEZ := hid (HE.out.trans HZV.out)
  have HLZ := hid (HLc.out.ext HZV.out)
  have KS : Hid (∀ W, BsL W A1 n3 B → BsL W A2 n3 Bc → Calls Tryz.prog 13 #[bunV p A2 n3 c2, .agg zc] W (Ret (.bool true) W)) := fun W h1 h2 => by rw [HZC.out]; exact Same_eq p Bc B n3 c2 c1 A2 A1 hk hc W h2 h1
  clear hZ HB0 HB1 HE HE5 HL5 HZV HZ5 KW HI HLc hLc hc hk
  subst hff
  generalize w5.heap.size = C at *
  obtain ⟨e6, he⟩ := Later.self Z
  rw [he]
  clear he
  go_upto_region 5 with (first | (go_at_call 14; refine (Ret.later (KR.out _ zc A1 c1 HZC.out (HL1.out.ext (Later.h _)))).mono ?_; rintro x _ ⟨rfl, e, rfl⟩) | (refine wpList_row (by rfl) 29 _ rfl _ rfl (HC.out.later _) Tryz.underlying29 rfl HI1.out.1 ?_))
  go_wp2_with (first | (go_at_call 13; refine (Ret.later (KS.out _ (HL1.out.ext (Later.h _)) (HLZ.out.ext (Later.h _)))).mono ?_; rintro x _ ⟨rfl, e, rfl⟩) | (refine wpList_row (by rfl) 29 _ rfl _ rfl (HBZ.out.later _) Tryz.underlying29 rfl (by kernel_rfl) ?_) | (refine wpList_row (by rfl) 29 _ rfl _ rfl (HC.out.later _) Tryz.underlying29 rfl HI1.out.1 ?_))
  go_ret
  exact Ret.mk (by simp) (HEZ.out.trans (Later.h _))
end Go.Proofs.YtkeabdfgacicaaaGreat


namespace Go.Proofs.YtkeabdfgacicaaaGreat
open Go.RowKit
set_option linter.unusedVariables false
set_option linter.unusedSimpArgs false

def someP : PV := ⟨0, 0, ⟨2, [], 2, 0⟩, ⟨2, [], 1, 0⟩, ⟨1, [110, 111, 110, 101], 0, 0⟩, 5, 0, 100, 0, 0⟩
def someB : Nat → BV := fun _ => ⟨1, 1, 0, 0, [104, 105]⟩
/-- A bundle's value whose one block lies in a new memory block. -/
def SomeR (w : World) (e : Ending) (w' : World) : Prop := ∃ g, e = .returned (bunV someP (some ⟨g, 0, none⟩) 1 1) ∧ Ext w w' ∧ BsL w' (some ⟨g, 0, none⟩) 1 someB
/-- .. and what is known of that block. -/
def SomeN (w : World) (e : Ending) (w' : World) : Prop := ∃ g, e = .returned (bunV someP (some ⟨g, 0, none⟩) 1 1) ∧ Ext w w' ∧ BsL w' (some ⟨g, 0, none⟩) 1 someB ∧ w.heap.size ≤ g ∧ Blk w' g 31 (BV.c (someB 0))
set_option maxRecDepth 20000 in
theorem some_new (w : World) : Calls Tryz.prog 17 #[] w (SomeN w) := by
  have HE := hid ((Mod.refl [] w).alloc (.cells #[.int .u64 0, .int .i64 0, .int .i64 0, .string ⟨#[]⟩, .int .u64 0, .int .u64 0, .int .i64 0, .string ⟨#[]⟩, .int .u64 0, .int .u64 0, .int .i64 0, .string ⟨#[]⟩, .int .u64 0, .int .u64 0, .int .u64 0, .int .u64 0, .int .u64 0, .int .u64 0, .int .u64 0, .slice none 0 0] 29))
  have HR := hid (Blk.new w 29 #[.int .u64 0, .int .i64 0, .int .i64 0, .string ⟨#[]⟩, .int .u64 0, .int .u64 0, .int .i64 0, .string ⟨#[]⟩, .int .u64 0, .int .u64 0, .int .i64 0, .string ⟨#[]⟩, .int .u64 0, .int .u64 0, .int .u64 0, .int .u64 0, .int .u64 0, .int .u64 0, .int .u64 0, .slice none 0 0])
  go_enter Tryz.func17, Tryz.ntmps17
  go_upto_region 1 with fail
  generalize w.alloc (.cells #[.int .u64 0, .int .i64 0, .int .i64 0, .string ⟨#[]⟩, .int .u64 0, .int .u64 0, .int .i64 0, .string ⟨#[]⟩, .int .u64 0, .int .u64 0, .int .i64 0, .string ⟨#[]⟩, .int .u64 0, .int .u64 0, .int .u64 0, .int .u64 0, .int .u64 0, .int .u64 0, .int .u64 0, .slice none 0 0] 29) = V at *
  go_upto_region 2 with (refine wpList_store_mid rfl 26 _ _ rfl V.heap.size 0 #[.int .u64 0, .int .i64 0, .int .i64 2, str [], .int .u64 2, .int .u64 0, .int .i64 2, str [], .int .u64 1, .int .u64 0, .int .i64 1, str [110, 111, 110, 101], .int .u64 0, .int .u64 0, .int .u64 5, .int .u64 0, .int .u64 100, .int .u64 0, .int .u64 0] (by rfl) (by rfl) ((Blk.new _ _ _).there (Nat.le_refl 19)) (by kernel_rfl) (by simp [Value.oneCell']) ?_)
  generalize hU : World.setCells _ _ _ _ = U
  have HX : Hid (Blk U V.heap.size 26 #[.int .u64 0, .int .i64 0, .int .i64 2, str [], .int .u64 2, .int .u64 0, .int .i64 2, str [], .int .u64 1, .int .u64 0, .int .i64 1, str [110, 111, 110, 101], .int .u64 0, .int .u64 0, .int .u64 5, .int .u64 0, .int .u64 100, .int .u64 0, .int .u64 0]) := hid (by rw [← hU]; exact setCells_all (ds := #[.int .u64 0, .int .i64 0, .int .i64 2, str [], .int .u64 2, .int .u64 0, .int .i64 2, str [], .int .u64 1, .int .u64 0, .int .i64 1, str [110, 111, 110, 101], .int .u64 0, .int .u64 0, .int .u64 5, .int .u64 0, .int .u64 100, .int .u64 0, .int .u64 0]) (Blk.new _ _ _) rfl)
  have HM : Hid (Ext V U) := hid (by rw [← hU]; exact setCells_mod _ _ ((Mod.refl [] V).alloc _) (.inr (Nat.le_refl _)))
  have HRU := hid (HR.out.ext HM.out)
  clear hU
  generalize V.heap.size = vs at *
  go_wp2_with (first | (refine wpList_row (by rfl) 26 _ rfl _ rfl HX.out Tryz.underlying26 rfl (by kernel_rfl) ?_) | (refine wpList_store_mid rfl 29 _ _ rfl w.heap.size 0 #[.int .u64 0, .int .i64 0, .int .i64 2, str [], .int .u64 2, .int .u64 0, .int .i64 2, str [], .int .u64 1, .int .u64 0, .int .i64 1, str [110, 111, 110, 101], .int .u64 0, .int .u64 0, .int .u64 5, .int .u64 0, .int .u64 100, .int .u64 0, .int .u64 0, .slice (some ⟨U.heap.size, 0, none⟩) 1 1] (by rfl) (by rfl) ((HRU.out.alloc _).there (Nat.le_refl 20)) (by kernel_rfl) (by simp [Value.oneCell']) ?_))
  generalize hW2 : World.setCells _ _ _ _ = W2
  have HXX : Hid (Blk W2 w.heap.size 29 #[.int .u64 0, .int .i64 0, .int .i64 2, str [], .int .u64 2, .int .u64 0, .int .i64 2, str [], .int .u64 1, .int .u64 0, .int .i64 1, str [110, 111, 110, 101], .int .u64 0, .int .u64 0, .int .u64 5, .int .u64 0, .int .u64 100, .int .u64 0, .int .u64 0, .slice (some ⟨U.heap.size, 0, none⟩) 1 1]) := hid (by rw [← hW2]; exact setCells_all (ds := #[.int .u64 0, .int .i64 0, .int .i64 2, str [], .int .u64 2, .int .u64 0, .int .i64 2, str [], .int .u64 1, .int .u64 0, .int .i64 1, str [110, 111, 110, 101], .int .u64 0, .int .u64 0, .int .u64 5, .int .u64 0, .int .u64 100, .int .u64 0, .int .u64 0, .slice (some ⟨U.heap.size, 0, none⟩) 1 1]) (HRU.out.alloc _) rfl)
  have HM2 : Hid (Ext w W2) := hid (by rw [← hW2]; exact setCells_mod _ _ ((HE.out.trans HM.out).alloc _) (.inr (Nat.le_refl _)))
  have HNB : Hid (Mod [w.heap.size] (U.alloc (.cells #[.int .i64 1, .int .i64 1, .int .u64 0, .int .i64 0, .string ⟨#[104, 105]⟩] 31)) W2) := hid (by rw [← hW2]; exact setCells_mod _ _ (Mod.refl _ _) (.inl (by simp)))
  have HNE : Hid (U.heap.size ≠ w.heap.size) := hid (by have := HRU.out.lt; omega)
  have HBX := hid (Blk.new U 31 #[.int .i64 1, .int .i64 1, .int .u64 0, .int .i64 0, .string ⟨#[104, 105]⟩])
  clear hW2
  refine bodyPost_ret (v := .agg #[.int .u64 0, .int .i64 0, .int .i64 2, str [], .int .u64 2, .int .u64 0, .int .i64 2, str [], .int .u64 1, .int .u64 0, .int .i64 1, str [110, 111, 110, 101], .int .u64 0, .int .u64 0, .int .u64 5, .int .u64 0, .int .u64 100, .int .u64 0, .int .u64 0, .slice (some ⟨U.heap.size, 0, none⟩) 1 1]) (results_cell Tryz.results17 _ rfl HXX.out Tryz.underlying29 rfl (by kernel_rfl)) rfl ?_
  have HB2 := HBX.out.mod HNB.out (by simpa using HNE.out)
  refine ⟨U.heap.size, rfl, HM2.out, fun _ => ⟨U.heap.size, 0, rfl, HB2.lt, fun i hi => ?_⟩, (HE.out.trans HM.out).size, HB2⟩
  obtain rfl : i = 0 := by omega
  exact ⟨HB2.cell 0, HB2.cell 1, HB2.cell 2, HB2.cell 3, HB2.cell 4⟩
theorem some_any (w : World) : Calls Tryz.prog 17 #[] w (SomeR w) := (some_new w).mono fun _ _ ⟨g, h1, h2, h3, _⟩ => ⟨g, h1, h2, h3⟩
end Go.Proofs.YtkeabdfgacicaaaGreat


namespace Go.Proofs.YtkeabdfgacicaaaGreat
open Go.RowKit
set_option linter.unusedVariables false
set_option linter.unusedSimpArgs false

/-- How many of the first k blocks have a number of n or more. -/
def cntGe (bs : Nat → BV) (n : Int) : Nat → Nat
  | 0 => 0
  | k + 1 => cntGe bs n k + (if n ≤ (bs k).num then 1 else 0)
theorem cntGe_le (bs : Nat → BV) (n : Int) : ∀ k, cntGe bs n k ≤ k
  | 0 => Nat.le_refl _
  | k + 1 => by have := cntGe_le bs n k; rw [cntGe]; split <;> omega
theorem cntGe_mono (bs : Nat → BV) (n : Int) : ∀ k, cntGe bs (n + 1) k ≤ cntGe bs n k
  | 0 => Nat.le_refl _
  | k + 1 => by
    have := cntGe_mono bs n k
    rw [cntGe, cntGe]
    split <;> split <;> omega
theorem cntGe_less {bs : Nat → BV} {n : Int} {i : Nat} : ∀ {k : Nat}, i < k → (bs i).num = n → cntGe bs (n + 1) k + 1 ≤ cntGe bs n k
  | k + 1, h, hn => by
    rw [cntGe, cntGe]
    by_cases e : i = k
    · subst e
      have := cntGe_mono bs n i
      rw [if_neg (by omega), if_pos (by omega)]
      omega
    · have := cntGe_less (k := k) (by omega) hn
      split <;> split <;> omega
def usedB (bs : Nat → BV) (k : Nat) (n : Nat) : Prop := ∃ i, firstOf (numB bs (n : Int)) k = some i
theorem free_ex (bs : Nat → BV) (k : Nat) : ∀ (m n : Nat), cntGe bs (n : Int) k ≤ m → ∃ N, n ≤ N ∧ N ≤ n + m ∧ firstOf (numB bs (N : Int)) k = none ∧ ∀ j, n ≤ j → j < N → usedB bs k j
  | m, n, h => by
    cases hf : firstOf (numB bs (n : Int)) k with
    | none => exact ⟨n, Nat.le_refl _, by omega, hf, fun j h1 h2 => by omega⟩
    | some i =>
      obtain ⟨h1, h2, _⟩ := firstOf_spec hf
      have hn : (bs i).num = (n : Int) := by simpa [numB, hasNum] using h2
      have hl := cntGe_less h1 hn
      obtain ⟨m', rfl⟩ : ∃ m', m = m' + 1 := ⟨m - 1, by omega⟩
      have h3 : cntGe bs ((n + 1 : Nat) : Int) k ≤ m' := by have : ((n + 1 : Nat) : Int) = (n : Int) + 1 := by omega
                                                            rw [this]; omega
      obtain ⟨N, a1, a2, a3, a4⟩ := free_ex bs k m' (n + 1) h3
      refine ⟨N, by omega, by omega, a3, fun j b1 b2 => ?_⟩
      by_cases e : j = n
      · subst e; exact ⟨i, hf⟩
      · exact a4 j (by omega) b2
/-- The least number that is free. -/
noncomputable def freeN (bs : Nat → BV) (k : Nat) : Nat := (free_ex bs k (cntGe bs ((2 : Nat) : Int) k) 2 (Nat.le_refl _)).choose
theorem freeN_spec (bs : Nat → BV) (k : Nat) : 2 ≤ freeN bs k ∧ freeN bs k ≤ 2 + k ∧ firstOf (numB bs (freeN bs k : Int)) k = none ∧ ∀ j, 2 ≤ j → j < freeN bs k → usedB bs k j := by
  obtain ⟨h1, h2, h3, h4⟩ := (free_ex bs k (cntGe bs ((2 : Nat) : Int) k) 2 (Nat.le_refl _)).choose_spec
  have := cntGe_le bs ((2 : Nat) : Int) k
  exact ⟨h1, Nat.le_trans h2 (by omega), h3, h4⟩
theorem freeN_eq {bs : Nat → BV} {k N : Nat} (h1 : 2 ≤ N) (h2 : firstOf (numB bs (N : Int)) k = none) (h3 : ∀ j, 2 ≤ j → j < N → usedB bs k j) : freeN bs k = N := by
  obtain ⟨g1, g2, g3, g4⟩ := freeN_spec bs k
  rcases Nat.lt_trichotomy (freeN bs k) N with hlt | he | hgt
  · obtain ⟨i, hi⟩ := h3 _ g1 hlt; rw [g3] at hi; cases hi
  · exact he
  · obtain ⟨i, hi⟩ := g4 _ h1 hgt; rw [h2] at hi; cases hi
set_option maxRecDepth 20000 in
set_option maxHeartbeats 800000 in
theorem Free_any (p : PV) (bs : Nat → BV) (k c : Nat) (A : Option Addr) (hk : k < 4611686018427387904) (w : World) (h : BsL w A k bs) : Calls Tryz.prog 18 #[bunV p A k c] w (Ret (.int .i64 (freeN bs k : Nat)) w) := by
  have HS := hid (freeN_spec bs k)
  have KA := hid (fun W n (hW : BsL W A k bs) => at_any p bs k c A n hk W hW)
  have n9 : ((freeN bs k : Nat) : Int) ≤ 4611686018427387910 := by have := HS.out.2.1; omega
  generalize freeN bs k = N at *
  have HE := hid ((Mod.refl [] w).alloc (.cells (bunC p A k c) 29))
  have HB0 : Hid (Blk (w.alloc (.cells (bunC p A k c) 29)) w.heap.size 29 (bunC p A k c)) := hid (Blk.new w 29 (bunC p A k c))
  have HL := hid (BsL.ext h HE.out)
  clear h hk
  go_enter Tryz.func18, Tryz.ntmps18
  go_upto_region 1 with fail
  generalize (w.alloc (.cells (bunC p A k c) 29)) = V at *
  obtain ⟨e, he⟩ := Later.self V
  rw [he]
  clear he
  go_upto_region 2 with fail
  go_loopw [3] (fun s3 wr => ∃ n : Nat, s3 = .int .i64 (n : Int) ∧ Hid (2 ≤ n ∧ n ≤ N) ∧ ∃ e : Later V, wr = e.x) (fun s3 _ => N - (intOf s3).toNat)
  case atStart => exact ⟨2, rfl, (show Hid _ from ⟨by omega, HS.out.1⟩), e, rfl⟩
  case round =>
    clear e
    obtain ⟨n, rfl, hn, e, rfl⟩ := hrel
    have n0 : (0 : Int) ≤ (n : Int) := by omega
    have n1 : (n : Int) ≤ (N : Int) := by have := hn.out; omega
    by_cases hlt : n < N
    · obtain ⟨i, hi⟩ := HS.out.2.2.2 n hn.out.1 hlt
      have KB := hid (fun W hW => KA.out W (n : Int) hW)
      unfold firstI at KB
      rw [hi] at KB
      have HLT := hid hlt
      have i0 : (0 : Int) ≤ (i : Int) := by omega
      have i1 : decide ((i : Int) < 0) = false := by simp
      have i2 : ((i : Int) < 0) = False := eq_false (by omega)
      have i3 : decide ((0 : Int) ≤ (i : Int)) = true := decide_eq_true (by omega)
      have n2 : (n : Int) < (N : Int) := by omega
      clear hi hlt KA
      go_wp2_with (first | (refine wpList_row (by rfl) 29 _ rfl _ rfl (HB0.out.later _) Tryz.underlying29 rfl (by kernel_rfl) ?_) | (go_at_call 23; refine (Ret.later (KB.out _ (HL.out.ext (Later.h _)))).mono ?_; rintro x _ ⟨rfl, e, rfl⟩))
      go_roundw
      case rel => exact ⟨n + 1, by go_num, (show Hid _ from ⟨by have := hn.out.1; omega, HLT.out⟩), e, rfl⟩
      case measure => have := HLT.out; simp [intOf]; omega
    · obtain rfl : n = N := by have := hn.out.2; omega
      have KB := hid (fun W hW => KA.out W (n : Int) hW)
      unfold firstI at KB
      rw [HS.out.2.2.1] at KB
      clear KA hlt
      go_wp2_with (first | (refine wpList_row (by rfl) 29 _ rfl _ rfl (HB0.out.later _) Tryz.underlying29 rfl (by kernel_rfl) ?_) | (go_at_call 23; refine (Ret.later (KB.out _ (HL.out.ext (Later.h _)))).mono ?_; rintro x _ ⟨rfl, e, rfl⟩))
      go_ret
      exact Ret.mk rfl (HE.out.trans e.h)
end Go.Proofs.YtkeabdfgacicaaaGreat


namespace Go.Proofs.YtkeabdfgacicaaaGreat
open Go.RowKit
set_option linter.unusedVariables false
set_option linter.unusedSimpArgs false

theorem firstOf_congr {p q : Nat → Bool} {k : Nat} (h : ∀ j, j < k → p j = q j) : firstOf p k = firstOf q k := by
  cases hf : firstOf p k with
  | none => exact (firstOf_none fun j hj => (h j hj).symm.trans (firstOf_no hf j hj)).symm
  | some i =>
    obtain ⟨h1, h2, h3⟩ := firstOf_spec hf
    exact (firstOf_some h1 ((h i h1).symm.trans h2) fun j hj => (h j (by omega)).symm.trans (h3 j hj)).symm
theorem cntB_congr {bs bs' : Nat → BV} (t : Int) : ∀ {k : Nat}, (∀ j, j < k → bs j = bs' j) → cntB bs t k = cntB bs' t k
  | 0, _ => rfl
  | k + 1, h => by rw [cntB, cntB, cntB_congr t fun j hj => h j (by omega), h k (by omega)]
theorem blksB_congr {bs bs' : Nat → BV} : ∀ {k : Nat}, (∀ j, j < k → bs j = bs' j) → blksB bs k = blksB bs' k
  | 0, _ => rfl
  | k + 1, h => by rw [blksB, blksB, blksB_congr fun j hj => h j (by omega), h k (by omega)]
theorem dupB_congr {bs bs' : Nat → BV} {k : Nat} (h : ∀ j, j < k → bs j = bs' j) : dupB bs k = dupB bs' k := by
  unfold dupB
  rw [firstOf_congr (q := dupAt bs') fun i hi => ?_]
  unfold dupAt
  rw [firstOf_congr (q := hasNumOf bs' i) fun j hj => ?_]
  unfold hasNumOf
  rw [h i hi, h j (by omega)]
theorem bunRight_congr {p : PV} {bs bs' : Nat → BV} {k : Nat} (h : ∀ j, j < k → bs j = bs' j) : bunRight p bs k = bunRight p bs' k := by
  have h1 : firstOf (badAt bs) k = firstOf (badAt bs') k := firstOf_congr fun j hj => by unfold badAt; rw [h j hj]
  have h2 : bunRule1 bs k = bunRule1 bs' k := by unfold bunRule1; rw [dupB_congr h, cntB_congr 1 h, cntB_congr 6 h, cntB_congr 7 h, cntB_congr 10 h]
  have h5 : bunBytes p bs k = bunBytes p bs' k := by unfold bunBytes; rw [blksB_congr h]
  unfold bunRight
  by_cases hp : p.right ≠ 0
  · rw [if_pos hp, if_pos hp]
  · rw [if_neg hp, if_neg hp, h1]
    cases hf : firstOf (badAt bs') k with
    | some i => dsimp only; rw [h i (firstOf_spec hf).1]
    | none =>
      dsimp only
      rw [h2, h5]
      by_cases hk : k = 0
      · subst hk
        have : bunRule1 bs' 0 = true := rfl
        rw [this]
        rfl
      · have h3 : bunRule2 p bs k = bunRule2 p bs' k := by unfold bunRule2; rw [h (k - 1) (by omega), cntB_congr 7 h]
        have h4 : bunRule3 p bs k = bunRule3 p bs' k := by unfold bunRule3; rw [h (k - 1) (by omega)]
        rw [h3, h4]
/-- Under a free number: found, and dropped again. -/
theorem ins_with (bs : Nat → BV) (k : Nat) (x : BV) (hk : 0 < k) : ∀ j, j < k + 1 → withB bs (k - 1) 0 1 (fun _ => x) j = insB bs (k - 1) x j := fun j hj => by
  unfold withB catB insB
  by_cases c0 : j < k - 1
  · rw [if_pos (by omega), if_pos c0, if_pos c0]
  · by_cases c1 : j = k - 1
    · rw [if_pos (by omega), if_neg (by omega), if_neg (by omega), if_pos c1]
    · rw [if_neg (by omega), if_neg (by omega), if_neg c1]
      show bs (k - 1 + 0 + (j - (k - 1 + 1))) = bs (j - 1)
      rw [show k - 1 + 0 + (j - (k - 1 + 1)) = j - 1 by omega]
theorem ins_del (bs : Nat → BV) (k : Nat) (x : BV) (hk : 0 < k) : ∀ j, j < k → bs j = delB (insB bs (k - 1) x) (k - 1) j := fun j hj => by
  unfold delB insB
  by_cases c0 : j < k - 1
  · rw [if_pos c0, if_pos c0]
  · rw [if_neg c0, if_neg (by omega), if_neg (by omega)]; rfl
theorem ins_found {bs : Nat → BV} {k N : Nat} {x : BV} (hk : 0 < k) (hN : firstOf (numB bs (N : Int)) k = none) (hx : x.num = (N : Int)) : firstOf (numB (insB bs (k - 1) x) (N : Int)) (k + 1) = some (k - 1) := by
  refine firstOf_some (by omega) ?_ fun j hj => ?_
  · unfold numB insB hasNum; rw [if_neg (by omega), if_pos rfl, hx]; simp
  · have := firstOf_no hN j (by omega)
    unfold numB at this ⊢
    unfold insB
    rw [if_pos hj]
    exact this
theorem ins_free {bs : Nat → BV} {k N : Nat} {x : BV} (hk : 0 < k) (hN : firstOf (numB bs (N : Int)) k = none) (hx : x.num = (N : Int)) : freeN (insB bs (k - 1) x) (k + 1) ≠ N := fun e => by
  have h := (freeN_spec (insB bs (k - 1) x) (k + 1)).2.2.1
  rw [e, ins_found hk hN hx] at h
  cases h
end Go.Proofs.YtkeabdfgacicaaaGreat


namespace Go.Proofs.YtkeabdfgacicaaaGreat
open Go.RowKit
set_option linter.unusedVariables false
set_option linter.unusedSimpArgs false

/-- The bundle with the blocks B, if it may be and is right. -/
def EdRel (W : World) (may : Bool) (none : Int) (p : PV) (B : Nat → BV) (n : Nat) (zc : Array Value) (r : Int) : Prop :=
  (may = false ∧ zc = zeroBun ∧ r = none) ∨ (may = true ∧ bunRight p B n ≠ 0 ∧ r = bunRight p B n ∧ zc = zeroBun) ∨ (may = true ∧ bunRight p B n = 0 ∧ r = 0 ∧ ∃ A c, zc = bunC p A n c ∧ BsL W A n B)
theorem EdRel.ext {W W' : World} {may : Bool} {none : Int} {p : PV} {B : Nat → BV} {n : Nat} {zc : Array Value} {r : Int} (h : EdRel W may none p B n zc r) (hm : Ext W W') : EdRel W' may none p B n zc r := by
  rcases h with h | h | ⟨h1, h2, h3, A, c, h4, h5⟩
  · exact .inl h
  · exact .inr (.inl h)
  · exact .inr (.inr ⟨h1, h2, h3, A, c, h4, h5.ext hm⟩)
theorem EdRel.cells {W : World} {may : Bool} {none : Int} {p : PV} {B : Nat → BV} {n : Nat} {zc : Array Value} {r : Int} (h : EdRel W may none p B n zc r) : (Tryz.prog.info? 29).map (·.size) = some zc.size ∧ zc.all (·.oneCell') = true ∧ zc.size = 20 := by
  have hz : (Tryz.prog.info? 29).map (·.size) = some zeroBun.size ∧ zeroBun.all (·.oneCell') = true ∧ zeroBun.size = 20 := ⟨by kernel_rfl, by simp [zeroBun, Value.oneCell'], rfl⟩
  rcases h with ⟨_, h, _⟩ | ⟨_, _, _, h⟩ | ⟨_, _, _, A, c, h, _⟩
  · rw [h]; exact hz
  · rw [h]; exact hz
  · rw [h]; exact ⟨by kernel_rfl, by simp [Value.oneCell'], rfl⟩
/-- What a changed bundle's making hands back. -/
theorem chk_rel {W : World} {none : Int} {p : PV} {B : Nat → BV} {n : Nat} {A : Option Addr} {c : Nat} (hL : BsL W A n B) : ∃ zc r, chkV p A n c (bunRight p B n) = .tuple #[.agg zc, .int .i64 r] ∧ EdRel W true none p B n zc r := by
  by_cases h : bunRight p B n = 0
  · rw [chkV_0 h]; exact ⟨bunC p A n c, 0, rfl, .inr (.inr ⟨rfl, h, rfl, A, c, rfl, hL⟩)⟩
  · rw [chkV_no h]; exact ⟨zeroBun, bunRight p B n, rfl, .inr (.inl ⟨rfl, h, rfl, rfl⟩)⟩
def EdPost (may : Bool) (none : Int) (p : PV) (B : Nat → BV) (n : Nat) (w : World) (e : Ending) (w' : World) : Prop := ∃ zc r, e = .returned (.tuple #[.agg zc, .int .i64 r]) ∧ Ext w w' ∧ EdRel w' may none p B n zc r
theorem Put_rel (p : PV) (bs : Nat → BV) (k c : Nat) (A : Option Addr) (x : BV) (hnl : Hid (p.d.name.length < 4611686018427387904 ∧ p.s.name.length < 4611686018427387904 ∧ p.r.name.length < 4611686018427387904)) (hf : p.fl < 18446744073709551616) (hk : k ≤ 1000) (w : World) (h : BsL w A k bs) : Calls Tryz.prog 8 #[bunV p A k c, x.v] w (EdPost (decide (0 < k)) 8 p (insB bs (k - 1) x) (k + 1) w) := by
  by_cases h0 : 0 < k
  · refine (Put_some p bs k c A x hnl hf h0 hk w h).mono fun e w' ⟨A1, c1, h1, h2, h3, _⟩ => ?_
    obtain ⟨zc, r, hz, hr⟩ := chk_rel (none := 8) (p := p) (c := c1) h3
    exact ⟨zc, r, by rw [h1, hz], h2, by rw [decide_eq_true h0]; exact hr⟩
  · obtain rfl : k = 0 := by omega
    exact (Put_0 p c A x w).mono fun e w' ⟨h1, h2⟩ => ⟨zeroBun, 8, h1, h2, .inl ⟨rfl, rfl, rfl⟩⟩
theorem Set_rel (p : PV) (bs : Nat → BV) (k c : Nat) (A : Option Addr) (x : BV) (hnl : Hid (p.d.name.length < 4611686018427387904 ∧ p.s.name.length < 4611686018427387904 ∧ p.r.name.length < 4611686018427387904)) (hf : p.fl < 18446744073709551616) (hk : k ≤ 1000) (w : World) (h : BsL w A k bs) : Calls Tryz.prog 9 #[bunV p A k c, x.v] w (EdPost (firstOf (numB bs x.num) k).isSome 15 p (setAt bs ((firstOf (numB bs x.num) k).getD 0) x) k w) := by
  cases hfo : firstOf (numB bs x.num) k with
  | none => exact (Set_none p bs k c A x (by omega) hfo w h).mono fun e w' ⟨h1, h2⟩ => ⟨zeroBun, 15, h1, h2, .inl ⟨rfl, rfl, rfl⟩⟩
  | some i =>
    refine (Set_some p bs k c A x hnl hf (by omega) i hfo w h).mono fun e w' ⟨A1, c1, h1, h2, h3, _⟩ => ?_
    obtain ⟨zc, r, hz, hr⟩ := chk_rel (none := 15) (p := p) (c := c1) h3
    exact ⟨zc, r, by rw [h1, hz], h2, hr⟩
theorem Drop_rel (p : PV) (bs : Nat → BV) (k c : Nat) (A : Option Addr) (hnl : Hid (p.d.name.length < 4611686018427387904 ∧ p.s.name.length < 4611686018427387904 ∧ p.r.name.length < 4611686018427387904)) (hf : p.fl < 18446744073709551616) (hk : k ≤ 1000) (n : Int) (w : World) (h : BsL w A k bs) : Calls Tryz.prog 10 #[bunV p A k c, .int .i64 n] w (EdPost (firstOf (numB bs n) k).isSome 15 p (delB bs ((firstOf (numB bs n) k).getD 0)) (k - 1) w) := by
  cases hfo : firstOf (numB bs n) k with
  | none => exact (Drop_none p bs k c A n (by omega) hfo w h).mono fun e w' ⟨h1, h2⟩ => ⟨zeroBun, 15, h1, h2, .inl ⟨rfl, rfl, rfl⟩⟩
  | some i =>
    refine (Drop_some p bs k c A n hnl hf (by omega) i hfo w h).mono fun e w' ⟨A1, c1, h1, h2, h3, _⟩ => ?_
    obtain ⟨zc, r, hz, hr⟩ := chk_rel (none := 15) (p := p) (c := c1) h3
    exact ⟨zc, r, by rw [h1, hz], h2, hr⟩
theorem BsL.congr {w : World} {A : Option Addr} {k : Nat} {bs bs' : Nat → BV} (h : BsL w A k bs) (he : ∀ j, j < k → bs j = bs' j) : BsL w A k bs' := fun hk => by
  obtain ⟨b, o, hA, hb, hc⟩ := h hk
  exact ⟨b, o, hA, hb, fun i hi => by rw [← he i hi]; exact hc i hi⟩
/-- A bundle's copy, as With makes it. -/
theorem With_same (p : PV) (bs : Nat → BV) (k c : Nat) (A : Option Addr) (hS : SlA A k c) (hk : k ≤ 1000) (w : World) (h : BsL w A k bs) : Calls Tryz.prog 7 #[bunV p A k c, .int .i64 0, .int .i64 0, .slice none 0 0] w (fun e w' => ∃ zc A' c', e = .returned (.agg zc) ∧ zc = bunC p A' k c' ∧ Ext w w' ∧ BsL w' A' k bs) := by
  rcases Nat.eq_zero_or_pos k with h0 | h0
  · subst h0
    cases A with
    | none =>
      obtain rfl := (hS.1 rfl).2
      exact (With_nil p w).mono fun e w' ⟨A', c', h1, h2⟩ => ⟨_, A', c', h1, rfl, h2, fun h => by omega⟩
    | some ad => exact (With_empty p c ad w).mono fun e w' ⟨A', c', h1, h2⟩ => ⟨_, A', c', h1, rfl, h2, fun h => by omega⟩
  · refine (With_some p bs k c A hS 0 0 (by omega) 0 0 none (fun _ => zeroB) ⟨fun _ => ⟨rfl, rfl⟩, Nat.le_refl _, Nat.zero_le _⟩ h0 (by omega) (by omega) w h (fun h => by omega)).mono fun e w' ⟨A', c', h1, h2, h3, _⟩ => ⟨_, A', c', h1, ?_, h2, ?_⟩
    · rw [show 0 + 0 + (k - (0 + 0)) = k by omega]
    · rw [show 0 + 0 + (k - (0 + 0)) = k by omega] at h3
      exact h3.congr fun j hj => by unfold withB catB; rw [if_neg (by omega)]; simp
/-- What the law's edited says, given what Put, Set or Drop answered. -/
theorem edited_rel (p : PV) (k c : Nat) (A : Option Addr) (i gone : Nat) (m cl : Nat) (Al : Option Addr) (may : Bool) (none : Int) (B B' : Nat → BV) (n3 : Nat) (zc : Array Value) (r : Int) (hf : p.fl < 18446744073709551616) (hn : n3 ≤ 100000) (w : World) (hrel : EdRel w may none p B n3 zc r)
    (hW : may = true → ∀ W, Ext w W → Calls Tryz.prog 7 #[bunV p A k c, .int .i64 (i : Int), .int .i64 (gone : Int), .slice Al m cl] W (fun e w' => ∃ zc A' c', e = .returned (.agg zc) ∧ zc = bunC p A' n3 c' ∧ Ext W w' ∧ BsL w' A' n3 B'))
    (hB : ∀ j, j < n3 → B j = B' j) (hd : ∀ j, j < n3 → (B' j).data.length ≤ 100000) :
    Calls Tryz.prog 11 #[bunV p A k c, .bool may, .int .i64 (i : Int), .int .i64 (gone : Int), .slice Al m cl, .agg zc, .int .i64 r, .int .i64 none] w (Ret (.bool true) w) := by
  have KR : ∀ W A' c', BsL W A' n3 B' → Calls Tryz.prog 14 #[bunV p A' n3 c'] W (Ret (.int .i64 (bunRight p B n3)) W) := fun W A' c' hL => by
    rw [bunRight_congr hB]
    exact r13Right_any p B' n3 c' A' hf (by omega) hd W hL
  rcases hrel with ⟨rfl, rfl, rfl⟩ | ⟨rfl, h1, rfl, rfl⟩ | ⟨rfl, h1, rfl, A2, c2, rfl, hL⟩
  · exact edited_no p k c A i gone m cl Al _ w
  · exact edited_bad p k c A i gone m cl Al B' n3 _ _ h1 w (hW rfl) KR
  · rw [h1] at KR
    exact edited_ok p k c A i gone m cl Al B' n3 _ B A2 c2 (by omega) hB w hL (hW rfl) KR
end Go.Proofs.YtkeabdfgacicaaaGreat
