/-
  Bundles: rules, whether one is right, and its bytes, as the code tells.
  A bundle with other blocks, if it is right.
  A bundle without one of its blocks.
  A bundle with one block more.
  Two bundles that are the same, as the reference tells.
  A bundle of one block.
  The least number that is free.
  Bundles with one block more, and without it: plain.
  The layer's own awake.
  The law BundleUndo, walked.
-/
import Derived.Test.YtcajjhmldghakaaGreatMBundleUndof

namespace Go.Proofs.YtcajjhmldghakaaGreat
open Go.RowKit
set_option linter.unusedVariables false
set_option linter.unusedSimpArgs false

def rulesR (p : PV) (bs : Nat → BV) (k : Nat) : Int := if 16 < k then 4 else if bunRule1 bs k then 8 else if bunRule2 p bs k then 8 else if bunRule3 p bs k then 8 else 0
theorem find_age (bs : Nat → BV) (k : Nat) : ∃ x : BV, findV bs 7 k = .tuple #[x.v, .bool (decide (cntB bs 7 k ≠ 0))] := by
  have h := cntB_find (bs := bs) (typ := 7) (k := k)
  unfold findV
  cases hf : firstOf (tyB bs 7) k with
  | some i => rw [hf] at h; rw [← h]; exact ⟨bs i, rfl⟩
  | none => rw [hf] at h; rw [← h]; exact ⟨zeroB, rfl⟩
theorem rule1_once (bs : Nat → BV) (k : Nat) : bunRule1 bs k = (decide (k = 0) || !onceB bs k) := by
  unfold bunRule1 onceB
  rw [Bool.eq_iff_iff]
  cases dupB bs k <;> simp <;> omega
theorem right_wf {b : BV} (h : b.right = 0) : InI b.num ∧ InI b.ty := by
  have := BV.right_zero h
  unfold InI
  omega
set_option maxRecDepth 20000 in
theorem rules_16 (p : PV) (bs : Nat → BV) (k c : Nat) (A : Option Addr) (h16 : 16 < k) (w : World) (h : BsL w A k bs) : Calls Tryz.prog 45 #[bunV p A k c] w (Ret (.int .i64 4) w) := by
  have HE := hid ((Mod.refl [] w).alloc (.cells (bunC p A k c) 29))
  have HB0 : Hid (Blk (w.alloc (.cells (bunC p A k c) 29)) w.heap.size 29 (bunC p A k c)) := hid (Blk.new w 29 (bunC p A k c))
  have xa : decide ((16 : Int) < (k : Int)) = true := decide_eq_true (by omega)
  have xb : ((16 : Int) < (k : Int)) = True := eq_true (by omega)
  have xc : decide (16 < k) = true := decide_eq_true h16
  clear h h16
  go_enter Tryz.func45, Tryz.ntmps45
  go_upto_region 1 with fail
  generalize (w.alloc (.cells (bunC p A k c) 29)) = V at *
  have b19 : ∀ e : Later V, e.x.cell? ⟨w.heap.size, 19, none⟩ = some (.slice A k c) := HB0.out.cellL 19 rfl
  have b14 : ∀ e : Later V, e.x.cell? ⟨w.heap.size, 14, none⟩ = some (.int .u64 (p.t : Int)) := HB0.out.cellL 14 rfl
  obtain ⟨e, he⟩ := Later.self V
  rw [he]
  clear he
  go_wp2_with fail
  go_ret
  exact Ret.mk rfl (HE.out.trans e.h)
set_option maxRecDepth 20000 in
set_option maxHeartbeats 3200000 in
theorem rules_let (p : PV) (bs : Nat → BV) (k c : Nat) (A : Option Addr) (h16 : ¬ 16 < k) (x : BV) (L O G F : Bool) (KF : ∀ W, BsL W A k bs → Calls Tryz.prog 64 #[bunV p A k c, .int .i64 7] W (Ret (.tuple #[x.v, .bool G]) W)) (KL : ∀ W, BsL W A k bs → Calls Tryz.prog 65 #[.slice A k c] W (Ret (.bool L) W)) (KO : ∀ W, BsL W A k bs → Calls Tryz.prog 66 #[.slice A k c] W (Ret (.bool O) W)) (KG : L = true → ∀ W, BsL W A k bs → Calls Tryz.prog 67 #[bunV p A k c] W (Ret (.bool F) W)) (w : World) (h : BsL w A k bs) : Calls Tryz.prog 45 #[bunV p A k c] w (Ret (.int .i64 (if !L || !O || (decide (p.t = 0) && !G) || !F then 8 else 0)) w) := by
  generalize hRES : (if !L || !O || (decide (p.t = 0) && !G) || !F then (8 : Int) else 0) = RES
  have HRES := hid hRES.symm
  clear hRES
  have HE := hid ((Mod.refl [] w).alloc (.cells (bunC p A k c) 29))
  have HB0 : Hid (Blk (w.alloc (.cells (bunC p A k c) 29)) w.heap.size 29 (bunC p A k c)) := hid (Blk.new w 29 (bunC p A k c))
  have xa : decide ((16 : Int) < (k : Int)) = false := decide_eq_false (by omega)
  have xb : ((16 : Int) < (k : Int)) = False := eq_false (by omega)
  have xc : decide (16 < k) = false := decide_eq_false h16
  have HL := hid (BsL.ext h HE.out)
  have KF := hid KF
  have KL := hid KL
  have KO := hid KO
  have KG := hid KG
  clear h h16
  go_enter Tryz.func45, Tryz.ntmps45
  go_upto_region 1 with fail
  generalize (w.alloc (.cells (bunC p A k c) 29)) = V at *
  have b19 : ∀ e : Later V, e.x.cell? ⟨w.heap.size, 19, none⟩ = some (.slice A k c) := HB0.out.cellL 19 rfl
  have b14 : ∀ e : Later V, e.x.cell? ⟨w.heap.size, 14, none⟩ = some (.int .u64 (p.t : Int)) := HB0.out.cellL 14 rfl
  obtain ⟨e, he⟩ := Later.self V
  rw [he]
  clear he
  go_upto_region 4 with (first | (go_at_call 64; refine (Ret.later (KF.out _ (HL.out.ext (Later.h _)))).mono ?_; rintro x _ ⟨rfl, e, rfl⟩) | (refine wpList_row (by rfl) 29 _ rfl _ rfl (HB0.out.later _) Tryz.underlying29 rfl (by kernel_rfl) ?_))
  generalize hU : World.alloc e.x _ = U
  obtain ⟨e2, rfl⟩ : ∃ e2 : Later V, U = e2.x := ⟨⟨U, by rw [← hU]; exact (Later.h e).alloc _⟩, rfl⟩
  clear hU
  cases L with
  | false =>
    go_wp2_with (first | (go_at_call 65; refine (Ret.later (KL.out _ (HL.out.ext (Later.h _)))).mono ?_; rintro x _ ⟨rfl, e, rfl⟩))
    go_ret
    exact Ret.mk (by rw [HRES.out]; simp) (HE.out.trans (Later.h _))
  | true =>
    have KH := hid (KG.out rfl)
    clear KG
    cases O with
    | false =>
      go_wp2_with (first | (go_at_call 65; refine (Ret.later (KL.out _ (HL.out.ext (Later.h _)))).mono ?_; rintro x _ ⟨rfl, e, rfl⟩) | (go_at_call 66; refine (Ret.later (KO.out _ (HL.out.ext (Later.h _)))).mono ?_; rintro x _ ⟨rfl, e, rfl⟩))
      go_ret
      exact Ret.mk (by rw [HRES.out]; simp) (HE.out.trans (Later.h _))
    | true =>
      by_cases ht : p.t = 0
      · have HT := hid ht
        have ta : (((p.t : Int)) == (0)) = true := by rw [beq_iff_eq]; omega
        have tb : (((p.t : Int)) = (0)) = True := eq_true (by omega)
        have tc : (((p.t : Int)) != (0)) = false := by rw [bne_eq_false_iff_eq]; omega
        have ua : ((p.t) == (0)) = true := by rw [beq_iff_eq]; omega
        have ub : ((p.t) = (0)) = True := eq_true (by omega)
        have uc : ((p.t) != (0)) = false := by rw [bne_eq_false_iff_eq]; omega
        clear ht
        cases G with
        | false =>
          go_wp2_with (first | (go_at_call 65; refine (Ret.later (KL.out _ (HL.out.ext (Later.h _)))).mono ?_; rintro x _ ⟨rfl, e, rfl⟩) | (go_at_call 66; refine (Ret.later (KO.out _ (HL.out.ext (Later.h _)))).mono ?_; rintro x _ ⟨rfl, e, rfl⟩))
          go_ret
          exact Ret.mk (by rw [HRES.out]; simp [HT.out]) (HE.out.trans (Later.h _))
        | true =>
          cases F with
          | false =>
            go_wp2_with (first | (go_at_call 65; refine (Ret.later (KL.out _ (HL.out.ext (Later.h _)))).mono ?_; rintro x _ ⟨rfl, e, rfl⟩) | (go_at_call 66; refine (Ret.later (KO.out _ (HL.out.ext (Later.h _)))).mono ?_; rintro x _ ⟨rfl, e, rfl⟩) | (go_at_call 67; refine (Ret.later (KH.out _ (HL.out.ext (Later.h _)))).mono ?_; rintro x _ ⟨rfl, e, rfl⟩) | (refine wpList_row (by rfl) 29 _ rfl _ rfl (HB0.out.later _) Tryz.underlying29 rfl (by kernel_rfl) ?_))
            go_ret
            exact Ret.mk (by rw [HRES.out]; simp) (HE.out.trans (Later.h _))
          | true =>
            go_wp2_with (first | (go_at_call 65; refine (Ret.later (KL.out _ (HL.out.ext (Later.h _)))).mono ?_; rintro x _ ⟨rfl, e, rfl⟩) | (go_at_call 66; refine (Ret.later (KO.out _ (HL.out.ext (Later.h _)))).mono ?_; rintro x _ ⟨rfl, e, rfl⟩) | (go_at_call 67; refine (Ret.later (KH.out _ (HL.out.ext (Later.h _)))).mono ?_; rintro x _ ⟨rfl, e, rfl⟩) | (refine wpList_row (by rfl) 29 _ rfl _ rfl (HB0.out.later _) Tryz.underlying29 rfl (by kernel_rfl) ?_))
            go_ret
            exact Ret.mk (by rw [HRES.out]; simp) (HE.out.trans (Later.h _))
      · have HT := hid ht
        have ta : (((p.t : Int)) == (0)) = false := by rw [beq_eq_false_iff_ne]; omega
        have tb : (((p.t : Int)) = (0)) = False := eq_false (by omega)
        have tc : (((p.t : Int)) != (0)) = true := by rw [bne_iff_ne]; omega
        have ua : ((p.t) == (0)) = false := by rw [beq_eq_false_iff_ne]; omega
        have ub : ((p.t) = (0)) = False := eq_false (by omega)
        have uc : ((p.t) != (0)) = true := by rw [bne_iff_ne]; omega
        clear ht
        cases F with
        | false =>
          go_wp2_with (first | (go_at_call 65; refine (Ret.later (KL.out _ (HL.out.ext (Later.h _)))).mono ?_; rintro x _ ⟨rfl, e, rfl⟩) | (go_at_call 66; refine (Ret.later (KO.out _ (HL.out.ext (Later.h _)))).mono ?_; rintro x _ ⟨rfl, e, rfl⟩) | (go_at_call 67; refine (Ret.later (KH.out _ (HL.out.ext (Later.h _)))).mono ?_; rintro x _ ⟨rfl, e, rfl⟩) | (refine wpList_row (by rfl) 29 _ rfl _ rfl (HB0.out.later _) Tryz.underlying29 rfl (by kernel_rfl) ?_))
          go_ret
          exact Ret.mk (by rw [HRES.out]; simp [HT.out]) (HE.out.trans (Later.h _))
        | true =>
          go_wp2_with (first | (go_at_call 65; refine (Ret.later (KL.out _ (HL.out.ext (Later.h _)))).mono ?_; rintro x _ ⟨rfl, e, rfl⟩) | (go_at_call 66; refine (Ret.later (KO.out _ (HL.out.ext (Later.h _)))).mono ?_; rintro x _ ⟨rfl, e, rfl⟩) | (go_at_call 67; refine (Ret.later (KH.out _ (HL.out.ext (Later.h _)))).mono ?_; rintro x _ ⟨rfl, e, rfl⟩) | (refine wpList_row (by rfl) 29 _ rfl _ rfl (HB0.out.later _) Tryz.underlying29 rfl (by kernel_rfl) ?_))
          go_ret
          exact Ret.mk (by rw [HRES.out]; simp [HT.out]) (HE.out.trans (Later.h _))
theorem rules_any (p : PV) (bs : Nat → BV) (k c : Nat) (A : Option Addr) (hf : p.fl < 18446744073709551616) (hk : k < 4611686018427387904) (hp : p.right = 0) (hbs : ∀ i, i < k → (bs i).right = 0) (w : World) (h : BsL w A k bs) : Calls Tryz.prog 45 #[bunV p A k c] w (Ret (.int .i64 (rulesR p bs k)) w) := by
  have hrs := PV.ranged_spec (PV.right_ranged hp)
  unfold rulesR
  by_cases h16 : 16 < k
  · rw [if_pos h16]; exact rules_16 p bs k c A h16 w h
  · rw [if_neg h16, rule1_once]
    obtain ⟨x, hx⟩ := find_age bs k
    have KF : ∀ W, BsL W A k bs → Calls Tryz.prog 64 #[bunV p A k c, .int .i64 7] W (Ret (.tuple #[x.v, .bool (decide (cntB bs 7 k ≠ 0))]) W) := fun W hW => by rw [← hx]; exact Find_any p bs k c A 7 hk W hW
    have KO : ∀ W, BsL W A k bs → Calls Tryz.prog 66 #[.slice A k c] W (Ret (.bool (onceB bs k)) W) := fun W hW => once_any bs k c A (by omega) (fun i hi => right_wf (hbs i hi)) W hW
    cases k with
    | zero =>
      have := rules_let p bs 0 c A h16 x false (onceB bs 0) _ true KF (fun W hW => lasts_0 bs c A W) KO (fun e => by cases e) w h
      simpa using this
    | succ m =>
      have hm := hbs m (by omega)
      have hz := BV.right_zero hm
      have := rules_let p bs (m + 1) c A h16 x (decide ((bs m).ty = 1)) (onceB bs (m + 1)) _ (!(has p.fl 1 && decide (p.n < p.o + (bs m).data.length))) KF (fun W hW => lasts_S bs m c A (by omega) W hW) KO (fun _ W hW => fits_S p bs m c A (by omega) hf (by omega) (by omega) W hW) w h
      refine this.mono fun r w' hr => ?_
      have e : (if !decide ((bs m).ty = 1) || !onceB bs (m + 1) || (decide (p.t = 0) && !decide (cntB bs 7 (m + 1) ≠ 0)) || !!(has p.fl 1 && decide (p.n < p.o + (bs m).data.length)) then (8 : Int) else 0) =
          if (decide (m + 1 = 0) || !onceB bs (m + 1)) = true then 8 else if bunRule2 p bs (m + 1) = true then 8 else if bunRule3 p bs (m + 1) = true then 8 else 0 := by
        unfold bunRule2 bunRule3
        simp only [Nat.add_sub_cancel]
        cases onceB bs (m + 1) <;> by_cases ht : (bs m).ty = 1 <;> by_cases h0 : p.t = 0 <;> by_cases h7 : cntB bs 7 (m + 1) = 0 <;> cases has p.fl 1 <;> simp [ht, h0, h7]
      rw [← e]
      exact hr
set_option maxRecDepth 20000 in
set_option maxHeartbeats 1600000 in
theorem made_p (p : PV) (bs : Nat → BV) (k c : Nat) (A : Option Addr) (r : Int) (hr : r ≠ 0) (KP : Hid (∀ W, BsL W A k bs → Calls Tryz.prog 44 #[bunV p A k c] W (Ret (.int .i64 r) W))) (w : World) (h : BsL w A k bs) : Calls Tryz.prog 31 #[bunV p A k c] w (Ret (.tuple #[str [], .int .i64 r]) w) := by
  have HE := hid ((Mod.refl [] w).alloc (.cells (bunC p A k c) 29))
  have HB0 : Hid (Blk (w.alloc (.cells (bunC p A k c) 29)) w.heap.size 29 (bunC p A k c)) := hid (Blk.new w 29 (bunC p A k c))
  have HL := hid (BsL.ext h HE.out)
  clear h
  have ra : ((r) == (0)) = false := by rw [beq_eq_false_iff_ne]; exact hr
  have rb : ((r) = (0)) = False := eq_false (by exact hr)
  have rc : ((r) != (0)) = true := by rw [bne_iff_ne]; exact hr
  clear hr
  go_enter Tryz.func31, Tryz.ntmps31
  go_upto_region 1 with fail
  generalize (w.alloc (.cells (bunC p A k c) 29)) = V at *
  obtain ⟨e, he⟩ := Later.self V
  rw [he]
  clear he
  go_wp2_with (first | (refine wpList_row (by rfl) 29 _ rfl _ rfl (HB0.out.later _) Tryz.underlying29 rfl (by kernel_rfl) ?_) | (go_at_call 44; refine (Ret.later (KP.out _ (HL.out.ext (Later.h _)))).mono ?_; rintro x _ ⟨rfl, e, rfl⟩))
  go_ret2
  exact Ret.mk rfl (HE.out.trans (Later.h _))
set_option maxRecDepth 20000 in
set_option maxHeartbeats 1600000 in
theorem made_r (p : PV) (bs : Nat → BV) (k c : Nat) (A : Option Addr) (r : Int) (hr : r ≠ 0) (KP : Hid (∀ W, BsL W A k bs → Calls Tryz.prog 44 #[bunV p A k c] W (Ret (.int .i64 0) W))) (KR : Hid (∀ W, BsL W A k bs → Calls Tryz.prog 45 #[bunV p A k c] W (Ret (.int .i64 r) W))) (w : World) (h : BsL w A k bs) : Calls Tryz.prog 31 #[bunV p A k c] w (Ret (.tuple #[str [], .int .i64 r]) w) := by
  have HE := hid ((Mod.refl [] w).alloc (.cells (bunC p A k c) 29))
  have HB0 : Hid (Blk (w.alloc (.cells (bunC p A k c) 29)) w.heap.size 29 (bunC p A k c)) := hid (Blk.new w 29 (bunC p A k c))
  have HL := hid (BsL.ext h HE.out)
  clear h
  have ra : ((r) == (0)) = false := by rw [beq_eq_false_iff_ne]; exact hr
  have rb : ((r) = (0)) = False := eq_false (by exact hr)
  have rc : ((r) != (0)) = true := by rw [bne_iff_ne]; exact hr
  clear hr
  go_enter Tryz.func31, Tryz.ntmps31
  go_upto_region 1 with fail
  generalize (w.alloc (.cells (bunC p A k c) 29)) = V at *
  obtain ⟨e, he⟩ := Later.self V
  rw [he]
  clear he
  go_wp2_with (first | (refine wpList_row (by rfl) 29 _ rfl _ rfl (HB0.out.later _) Tryz.underlying29 rfl (by kernel_rfl) ?_) | (go_at_call 44; refine (Ret.later (KP.out _ (HL.out.ext (Later.h _)))).mono ?_; rintro x _ ⟨rfl, e, rfl⟩) | (go_at_call 45; refine (Ret.later (KR.out _ (HL.out.ext (Later.h _)))).mono ?_; rintro x _ ⟨rfl, e, rfl⟩))
  go_ret2
  exact Ret.mk rfl (HE.out.trans (Later.h _))
set_option maxRecDepth 20000 in
set_option maxHeartbeats 1600000 in
theorem made_l (p : PV) (bs : Nat → BV) (k c : Nat) (A : Option Addr) (BB : List UInt8) (hl : 4000 < BB.length) (KP : Hid (∀ W, BsL W A k bs → Calls Tryz.prog 44 #[bunV p A k c] W (Ret (.int .i64 0) W))) (KR : Hid (∀ W, BsL W A k bs → Calls Tryz.prog 45 #[bunV p A k c] W (Ret (.int .i64 0) W))) (KB : Hid (∀ W, BsL W A k bs → Calls Tryz.prog 46 #[bunV p A k c] W (Ret (str BB) W))) (w : World) (h : BsL w A k bs) : Calls Tryz.prog 31 #[bunV p A k c] w (Ret (.tuple #[str [], .int .i64 4]) w) := by
  have HE := hid ((Mod.refl [] w).alloc (.cells (bunC p A k c) 29))
  have HB0 : Hid (Blk (w.alloc (.cells (bunC p A k c) 29)) w.heap.size 29 (bunC p A k c)) := hid (Blk.new w 29 (bunC p A k c))
  have HL := hid (BsL.ext h HE.out)
  clear h
  have la : decide ((4000 : Int) < (BB.length : Int)) = true := decide_eq_true (by omega)
  have lb : ((4000 : Int) < (BB.length : Int)) = True := eq_true (by omega)
  have lc : decide (4000 < BB.length) = true := decide_eq_true hl
  clear hl
  go_enter Tryz.func31, Tryz.ntmps31
  go_upto_region 1 with fail
  generalize (w.alloc (.cells (bunC p A k c) 29)) = V at *
  obtain ⟨e, he⟩ := Later.self V
  rw [he]
  clear he
  go_wp2_with (first | (refine wpList_row (by rfl) 29 _ rfl _ rfl (HB0.out.later _) Tryz.underlying29 rfl (by kernel_rfl) ?_) | (go_at_call 44; refine (Ret.later (KP.out _ (HL.out.ext (Later.h _)))).mono ?_; rintro x _ ⟨rfl, e, rfl⟩) | (go_at_call 45; refine (Ret.later (KR.out _ (HL.out.ext (Later.h _)))).mono ?_; rintro x _ ⟨rfl, e, rfl⟩) | (go_at_call 46; refine (Ret.later (KB.out _ (HL.out.ext (Later.h _)))).mono ?_; rintro x _ ⟨rfl, e, rfl⟩))
  go_ret2
  exact Ret.mk rfl (HE.out.trans (Later.h _))
set_option maxRecDepth 20000 in
set_option maxHeartbeats 1600000 in
theorem made_0 (p : PV) (bs : Nat → BV) (k c : Nat) (A : Option Addr) (BB : List UInt8) (hl : ¬ 4000 < BB.length) (KP : Hid (∀ W, BsL W A k bs → Calls Tryz.prog 44 #[bunV p A k c] W (Ret (.int .i64 0) W))) (KR : Hid (∀ W, BsL W A k bs → Calls Tryz.prog 45 #[bunV p A k c] W (Ret (.int .i64 0) W))) (KB : Hid (∀ W, BsL W A k bs → Calls Tryz.prog 46 #[bunV p A k c] W (Ret (str BB) W))) (w : World) (h : BsL w A k bs) : Calls Tryz.prog 31 #[bunV p A k c] w (Ret (.tuple #[str BB, .int .i64 0]) w) := by
  have HE := hid ((Mod.refl [] w).alloc (.cells (bunC p A k c) 29))
  have HB0 : Hid (Blk (w.alloc (.cells (bunC p A k c) 29)) w.heap.size 29 (bunC p A k c)) := hid (Blk.new w 29 (bunC p A k c))
  have HL := hid (BsL.ext h HE.out)
  clear h
  have la : decide ((4000 : Int) < (BB.length : Int)) = false := decide_eq_false (by omega)
  have lb : ((4000 : Int) < (BB.length : Int)) = False := eq_false (by omega)
  have lc : decide (4000 < BB.length) = false := decide_eq_false hl
  clear hl
  go_enter Tryz.func31, Tryz.ntmps31
  go_upto_region 1 with fail
  generalize (w.alloc (.cells (bunC p A k c) 29)) = V at *
  obtain ⟨e, he⟩ := Later.self V
  rw [he]
  clear he
  go_wp2_with (first | (refine wpList_row (by rfl) 29 _ rfl _ rfl (HB0.out.later _) Tryz.underlying29 rfl (by kernel_rfl) ?_) | (go_at_call 44; refine (Ret.later (KP.out _ (HL.out.ext (Later.h _)))).mono ?_; rintro x _ ⟨rfl, e, rfl⟩) | (go_at_call 45; refine (Ret.later (KR.out _ (HL.out.ext (Later.h _)))).mono ?_; rintro x _ ⟨rfl, e, rfl⟩) | (go_at_call 46; refine (Ret.later (KB.out _ (HL.out.ext (Later.h _)))).mono ?_; rintro x _ ⟨rfl, e, rfl⟩))
  go_ret2
  exact Ret.mk rfl (HE.out.trans (Later.h _))
/-- What made hands back. -/
def madeV (p : PV) (bs : Nat → BV) (k : Nat) : Value := .tuple #[str (if bunRight p bs k = 0 then bunBytes p bs k else []), .int .i64 (bunRight p bs k)]
theorem made_any (p : PV) (bs : Nat → BV) (k c : Nat) (A : Option Addr) (hnl : Hid (p.d.name.length < 4611686018427387904 ∧ p.s.name.length < 4611686018427387904 ∧ p.r.name.length < 4611686018427387904)) (hf : p.fl < 18446744073709551616) (hk : k < 4611686018427387904) (w : World) (h : BsL w A k bs) : Calls Tryz.prog 31 #[bunV p A k c] w (Ret (madeV p bs k) w) := by
  have KP := hid (fun W (hW : BsL W A k bs) => bparts_any p bs k c A hnl hf hk W hW)
  unfold madeV
  by_cases hp : p.right = 0
  · cases hfo : firstOf (badAt bs) k with
    | some i =>
      have hb : (bs i).right ≠ 0 := by have := (firstOf_spec hfo).2.1; simpa [badAt] using this
      have e1 : partsR p bs k = (bs i).right := by unfold partsR; rw [if_neg (by simpa using hp), hfo]
      have e2 : bunRight p bs k = (bs i).right := by unfold bunRight; rw [if_neg (by simpa using hp), hfo]
      rw [e1] at KP
      rw [e2, if_neg hb]
      exact made_p p bs k c A _ hb KP w h
    | none =>
      have hbs : ∀ i, i < k → (bs i).right = 0 := fun i hi => bad_no (firstOf_no hfo i hi)
      have e1 : partsR p bs k = 0 := by unfold partsR; rw [if_neg (by simpa using hp), hfo]
      have e2 : bunRight p bs k = if rulesR p bs k ≠ 0 then rulesR p bs k else if 4000 < (bunBytes p bs k).length then 4 else 0 := by
        unfold bunRight rulesR
        rw [if_neg (show ¬ p.right ≠ 0 by simpa using hp), hfo]
        by_cases h16 : 16 < k
        · simp [h16]
        · cases bunRule1 bs k <;> cases bunRule2 p bs k <;> cases bunRule3 p bs k <;> simp [h16]
      rw [e1] at KP
      have KR := hid (fun W (hW : BsL W A k bs) => rules_any p bs k c A hf hk hp hbs W hW)
      by_cases hr : rulesR p bs k = 0
      · rw [hr] at KR
        have h16 : k ≤ 16 := by
          unfold rulesR at hr
          by_cases h16 : 16 < k
          · rw [if_pos h16] at hr; exact absurd hr (by decide)
          · omega
        have KB := hid (fun W (hW : BsL W A k bs) => bbuild_any p bs k c A hnl hf (by omega) hp hbs W hW)
        have e3 : bunRight p bs k = if 4000 < (bunBytes p bs k).length then 4 else 0 := by rw [e2, if_neg (show ¬ rulesR p bs k ≠ 0 by simpa using hr)]
        by_cases hl : 4000 < (bunBytes p bs k).length
        · rw [if_pos hl] at e3
          rw [e3, if_neg (show ¬ (4 : Int) = 0 by decide)]; exact made_l p bs k c A _ hl KP KR KB w h
        · rw [if_neg hl] at e3
          rw [e3, if_pos rfl]; exact made_0 p bs k c A _ hl KP KR KB w h
      · rw [e2, if_pos hr, if_neg hr]
        exact made_r p bs k c A _ hr KP KR w h
  · have e1 : partsR p bs k = p.right := by unfold partsR; rw [if_pos hp]
    have e2 : bunRight p bs k = p.right := by unfold bunRight; rw [if_pos hp]
    rw [e1] at KP
    rw [e2, if_neg hp]
    exact made_p p bs k c A _ hp KP w h
set_option maxRecDepth 20000 in
theorem cBunRight_any (p : PV) (bs : Nat → BV) (k c : Nat) (A : Option Addr) (hnl : Hid (p.d.name.length < 4611686018427387904 ∧ p.s.name.length < 4611686018427387904 ∧ p.r.name.length < 4611686018427387904)) (hf : p.fl < 18446744073709551616) (hk : k < 4611686018427387904) (w : World) (h : BsL w A k bs) : Calls Tryz.prog 12 #[bunV p A k c] w (Ret (.int .i64 (bunRight p bs k)) w) := by
  have KM := hid (fun W (hW : BsL W A k bs) => made_any p bs k c A hnl hf hk W hW)
  unfold madeV at KM
  generalize (if bunRight p bs k = 0 then bunBytes p bs k else []) = BB at *
  generalize bunRight p bs k = r at *
  have HE := hid ((Mod.refl [] w).alloc (.cells (bunC p A k c) 29))
  have HB0 : Hid (Blk (w.alloc (.cells (bunC p A k c) 29)) w.heap.size 29 (bunC p A k c)) := hid (Blk.new w 29 (bunC p A k c))
  have HL := hid (BsL.ext h HE.out)
  clear h
  go_enter Tryz.func12, Tryz.ntmps12
  go_upto_region 1 with fail
  generalize (w.alloc (.cells (bunC p A k c) 29)) = V at *
  obtain ⟨e, he⟩ := Later.self V
  rw [he]
  clear he
  go_wp2_with (first | (refine wpList_row (by rfl) 29 _ rfl _ rfl (HB0.out.later _) Tryz.underlying29 rfl (by kernel_rfl) ?_) | (go_at_call 31; refine (Ret.later (KM.out _ (HL.out.ext (Later.h _)))).mono ?_; rintro x _ ⟨rfl, e, rfl⟩))
  go_ret
  exact Ret.mk rfl (HE.out.trans (Later.h _))
set_option maxRecDepth 20000 in
theorem cBunBuild_any (p : PV) (bs : Nat → BV) (k c : Nat) (A : Option Addr) (hnl : Hid (p.d.name.length < 4611686018427387904 ∧ p.s.name.length < 4611686018427387904 ∧ p.r.name.length < 4611686018427387904)) (hf : p.fl < 18446744073709551616) (hk : k < 4611686018427387904) (w : World) (h : BsL w A k bs) : Calls Tryz.prog 11 #[bunV p A k c] w (Ret (madeV p bs k) w) := by
  have KM := hid (fun W (hW : BsL W A k bs) => made_any p bs k c A hnl hf hk W hW)
  unfold madeV at KM
  unfold madeV
  generalize (if bunRight p bs k = 0 then bunBytes p bs k else []) = BB at *
  generalize bunRight p bs k = r at *
  have HE := hid ((Mod.refl [] w).alloc (.cells (bunC p A k c) 29))
  have HB0 : Hid (Blk (w.alloc (.cells (bunC p A k c) 29)) w.heap.size 29 (bunC p A k c)) := hid (Blk.new w 29 (bunC p A k c))
  have HL := hid (BsL.ext h HE.out)
  clear h
  go_enter Tryz.func11, Tryz.ntmps11
  go_upto_region 1 with fail
  generalize (w.alloc (.cells (bunC p A k c) 29)) = V at *
  obtain ⟨e, he⟩ := Later.self V
  rw [he]
  clear he
  go_wp2_with (first | (refine wpList_row (by rfl) 29 _ rfl _ rfl (HB0.out.later _) Tryz.underlying29 rfl (by kernel_rfl) ?_) | (go_at_call 31; refine (Ret.later (KM.out _ (HL.out.ext (Later.h _)))).mono ?_; rintro x _ ⟨rfl, e, rfl⟩))
  go_ret2
  exact Ret.mk rfl (HE.out.trans (Later.h _))
end Go.Proofs.YtcajjhmldghakaaGreat


namespace Go.Proofs.YtcajjhmldghakaaGreat
open Go.RowKit
set_option linter.unusedVariables false
set_option linter.unusedSimpArgs false

/-- The zero bundle's cells. -/
def zeroBun : Array Value := #[.int .u64 0, .int .i64 0, .int .i64 0, .string ⟨#[]⟩, .int .u64 0, .int .u64 0, .int .i64 0, .string ⟨#[]⟩, .int .u64 0, .int .u64 0, .int .i64 0, .string ⟨#[]⟩, .int .u64 0, .int .u64 0, .int .u64 0, .int .u64 0, .int .u64 0, .int .u64 0, .int .u64 0, .slice none 0 0]
/-- What checked hands back. -/
def chkV (p : PV) (A : Option Addr) (k c : Nat) (r : Int) : Value := if r = 0 then .tuple #[bunV p A k c, .int .i64 0] else .tuple #[.agg zeroBun, .int .i64 r]
theorem chkV_0 {p : PV} {A : Option Addr} {k c : Nat} {r : Int} (h : r = 0) : chkV p A k c r = .tuple #[bunV p A k c, .int .i64 0] := if_pos h
theorem chkV_no {p : PV} {A : Option Addr} {k c : Nat} {r : Int} (h : r ≠ 0) : chkV p A k c r = .tuple #[.agg zeroBun, .int .i64 r] := if_neg h
set_option maxRecDepth 20000 in
set_option maxHeartbeats 1600000 in
theorem checked_ok (p : PV) (bs' : Nat → BV) (k c k' c' : Nat) (A A' : Option Addr) (hnl : Hid (p.d.name.length < 4611686018427387904 ∧ p.s.name.length < 4611686018427387904 ∧ p.r.name.length < 4611686018427387904)) (hf : p.fl < 18446744073709551616) (hk : k' < 4611686018427387904) (hr : bunRight p bs' k' = 0) (w : World) (h : BsL w A' k' bs') (hlt : ∀ kk o', A' = some ⟨kk, o', none⟩ → kk < w.heap.size) : Calls Tryz.prog 35 #[bunV p A k c, .slice A' k' c'] w (Ret ((.tuple #[bunV p A' k' c', .int .i64 0] : Value)) w) := by
  have KR := hid (fun W (hW : BsL W A' k' bs') => cBunRight_any p bs' k' c' A' hnl hf hk W hW)
  rw [hr] at KR
  clear hr
  have HLT := hid hlt
  clear hlt hk
  have HE := hid (((Mod.refl [] w).alloc (.cells (bunC p A k c) 29)).alloc (.cells #[.int .u64 0, .int .i64 0, .int .i64 0, .string ⟨#[]⟩, .int .u64 0, .int .u64 0, .int .i64 0, .string ⟨#[]⟩, .int .u64 0, .int .u64 0, .int .i64 0, .string ⟨#[]⟩, .int .u64 0, .int .u64 0, .int .u64 0, .int .u64 0, .int .u64 0, .int .u64 0, .int .u64 0, .slice none 0 0] 29))
  have HB0 : Hid (Blk ((w.alloc (.cells (bunC p A k c) 29)).alloc (.cells #[.int .u64 0, .int .i64 0, .int .i64 0, .string ⟨#[]⟩, .int .u64 0, .int .u64 0, .int .i64 0, .string ⟨#[]⟩, .int .u64 0, .int .u64 0, .int .i64 0, .string ⟨#[]⟩, .int .u64 0, .int .u64 0, .int .u64 0, .int .u64 0, .int .u64 0, .int .u64 0, .int .u64 0, .slice none 0 0] 29)) w.heap.size 29 (bunC p A k c)) := hid ((Blk.new w 29 (bunC p A k c)).alloc (.cells #[.int .u64 0, .int .i64 0, .int .i64 0, .string ⟨#[]⟩, .int .u64 0, .int .u64 0, .int .i64 0, .string ⟨#[]⟩, .int .u64 0, .int .u64 0, .int .i64 0, .string ⟨#[]⟩, .int .u64 0, .int .u64 0, .int .u64 0, .int .u64 0, .int .u64 0, .int .u64 0, .int .u64 0, .slice none 0 0] 29))
  have HB1 : Hid (Blk ((w.alloc (.cells (bunC p A k c) 29)).alloc (.cells #[.int .u64 0, .int .i64 0, .int .i64 0, .string ⟨#[]⟩, .int .u64 0, .int .u64 0, .int .i64 0, .string ⟨#[]⟩, .int .u64 0, .int .u64 0, .int .i64 0, .string ⟨#[]⟩, .int .u64 0, .int .u64 0, .int .u64 0, .int .u64 0, .int .u64 0, .int .u64 0, .int .u64 0, .slice none 0 0] 29)) (w.heap.size + 1) 29 #[.int .u64 0, .int .i64 0, .int .i64 0, .string ⟨#[]⟩, .int .u64 0, .int .u64 0, .int .i64 0, .string ⟨#[]⟩, .int .u64 0, .int .u64 0, .int .i64 0, .string ⟨#[]⟩, .int .u64 0, .int .u64 0, .int .u64 0, .int .u64 0, .int .u64 0, .int .u64 0, .int .u64 0, .slice none 0 0]) := by unfold Hid; exact Blk.newL _ _ _ (by simp)
  have HL := hid (BsL.ext h HE.out)
  clear h
  go_enter Tryz.func35, Tryz.ntmps35
  go_upto_region 1 with fail
  generalize ((w.alloc (.cells (bunC p A k c) 29)).alloc (.cells #[.int .u64 0, .int .i64 0, .int .i64 0, .string ⟨#[]⟩, .int .u64 0, .int .u64 0, .int .i64 0, .string ⟨#[]⟩, .int .u64 0, .int .u64 0, .int .i64 0, .string ⟨#[]⟩, .int .u64 0, .int .u64 0, .int .u64 0, .int .u64 0, .int .u64 0, .int .u64 0, .int .u64 0, .slice none 0 0] 29)) = V at *
  have b19 : V.cell? ⟨w.heap.size, 19, none⟩ = some (.slice A k c) := HB0.out.cell 19
  have b19f : V.frozen? ⟨w.heap.size, 19, none⟩ = false := HB0.out.frozen 19
  go_upto_region 2 with fail
  generalize hU : World.setCell V _ _ = U
  have HX : Hid (Blk U w.heap.size 29 (bunC p A' k' c')) := hid (by rw [← hU]; exact HB0.out.set_ 19 (.slice A' k' c'))
  have HR : Hid (Blk U (w.heap.size + 1) 29 #[.int .u64 0, .int .i64 0, .int .i64 0, .string ⟨#[]⟩, .int .u64 0, .int .u64 0, .int .i64 0, .string ⟨#[]⟩, .int .u64 0, .int .u64 0, .int .i64 0, .string ⟨#[]⟩, .int .u64 0, .int .u64 0, .int .u64 0, .int .u64 0, .int .u64 0, .int .u64 0, .int .u64 0, .slice none 0 0]) := hid (by rw [← hU]; exact HB1.out.far (by simp) _)
  have HU : Hid (Ext w U) := hid (by rw [← hU]; exact HE.out.setCell (.inr (Nat.le_refl _)) _)
  have HLU : Hid (BsL U A' k' bs') := hid (by
    intro hn
    obtain ⟨bb, oo, hA, hbl, hcc⟩ := HL.out hn
    have hlt := HLT.out bb oo hA
    rw [← hU]
    exact ⟨bb, oo, hA, Nat.lt_of_lt_of_le hbl (by simp [World.setCell]), fun j hj => (hcc j hj).mod (S := [w.heap.size]) (Mod.setCell (Mod.refl _ _) (.inl (by simp)) _) hbl (by simp; omega)⟩)
  clear hU b19 b19f HB0 HB1 HL HE
  obtain ⟨e, he⟩ := Later.self U
  rw [he]
  clear he
  go_wp2_with (first | (go_at_call 12; refine (Ret.later (KR.out _ (HLU.out.ext (Later.h _)))).mono ?_; rintro x _ ⟨rfl, e, rfl⟩) | (refine wpList_row (by rfl) 29 _ rfl _ rfl (HX.out.later _) Tryz.underlying29 rfl (by kernel_rfl) ?_) | (refine wpList_store_mid rfl 29 _ _ rfl (w.heap.size + 1) 0 (bunC p A' k' c') (by rfl) (by rfl) ((HR.out.later e).there (Nat.le_refl 20)) (by kernel_rfl) (by simp [Value.oneCell']) ?_))
  generalize hZ : World.setCells _ _ _ _ = Z
  have HZB : Hid (Blk Z (w.heap.size + 1) 29 (bunC p A' k' c')) := hid (by rw [← hZ]; exact setCells_all (ds := (bunC p A' k' c')) (HR.out.later e) rfl)
  have HZM : Hid (Ext w Z) := hid (by rw [← hZ]; exact setCells_mod _ _ (HU.out.trans e.h) (.inr (by simp)))
  clear hZ
  refine bodyPost_ret (v := (.tuple #[bunV p A' k' c', .int .i64 0] : Value)) (results_cell2 Tryz.results35 _ rfl rfl HZB.out Tryz.underlying29 rfl (by kernel_rfl)) rfl (Ret.mk rfl HZM.out)
set_option maxRecDepth 20000 in
set_option maxHeartbeats 1600000 in
theorem checked_no (p : PV) (bs' : Nat → BV) (k c k' c' : Nat) (A A' : Option Addr) (hnl : Hid (p.d.name.length < 4611686018427387904 ∧ p.s.name.length < 4611686018427387904 ∧ p.r.name.length < 4611686018427387904)) (hf : p.fl < 18446744073709551616) (hk : k' < 4611686018427387904) (r : Int) (hr : bunRight p bs' k' = r) (h0 : r ≠ 0) (w : World) (h : BsL w A' k' bs') (hlt : ∀ kk o', A' = some ⟨kk, o', none⟩ → kk < w.heap.size) : Calls Tryz.prog 35 #[bunV p A k c, .slice A' k' c'] w (Ret ((.tuple #[.agg #[.int .u64 0, .int .i64 0, .int .i64 0, .string ⟨#[]⟩, .int .u64 0, .int .u64 0, .int .i64 0, .string ⟨#[]⟩, .int .u64 0, .int .u64 0, .int .i64 0, .string ⟨#[]⟩, .int .u64 0, .int .u64 0, .int .u64 0, .int .u64 0, .int .u64 0, .int .u64 0, .int .u64 0, .slice none 0 0], .int .i64 r] : Value)) w) := by
  have KR := hid (fun W (hW : BsL W A' k' bs') => cBunRight_any p bs' k' c' A' hnl hf hk W hW)
  rw [hr] at KR
  have ra : ((r) == (0)) = false := by rw [beq_eq_false_iff_ne]; exact h0
  have rb : ((r) = (0)) = False := eq_false (by exact h0)
  have rc : ((r) != (0)) = true := by rw [bne_iff_ne]; exact h0
  clear hr h0
  have HLT := hid hlt
  clear hlt hk
  have HE := hid (((Mod.refl [] w).alloc (.cells (bunC p A k c) 29)).alloc (.cells #[.int .u64 0, .int .i64 0, .int .i64 0, .string ⟨#[]⟩, .int .u64 0, .int .u64 0, .int .i64 0, .string ⟨#[]⟩, .int .u64 0, .int .u64 0, .int .i64 0, .string ⟨#[]⟩, .int .u64 0, .int .u64 0, .int .u64 0, .int .u64 0, .int .u64 0, .int .u64 0, .int .u64 0, .slice none 0 0] 29))
  have HB0 : Hid (Blk ((w.alloc (.cells (bunC p A k c) 29)).alloc (.cells #[.int .u64 0, .int .i64 0, .int .i64 0, .string ⟨#[]⟩, .int .u64 0, .int .u64 0, .int .i64 0, .string ⟨#[]⟩, .int .u64 0, .int .u64 0, .int .i64 0, .string ⟨#[]⟩, .int .u64 0, .int .u64 0, .int .u64 0, .int .u64 0, .int .u64 0, .int .u64 0, .int .u64 0, .slice none 0 0] 29)) w.heap.size 29 (bunC p A k c)) := hid ((Blk.new w 29 (bunC p A k c)).alloc (.cells #[.int .u64 0, .int .i64 0, .int .i64 0, .string ⟨#[]⟩, .int .u64 0, .int .u64 0, .int .i64 0, .string ⟨#[]⟩, .int .u64 0, .int .u64 0, .int .i64 0, .string ⟨#[]⟩, .int .u64 0, .int .u64 0, .int .u64 0, .int .u64 0, .int .u64 0, .int .u64 0, .int .u64 0, .slice none 0 0] 29))
  have HB1 : Hid (Blk ((w.alloc (.cells (bunC p A k c) 29)).alloc (.cells #[.int .u64 0, .int .i64 0, .int .i64 0, .string ⟨#[]⟩, .int .u64 0, .int .u64 0, .int .i64 0, .string ⟨#[]⟩, .int .u64 0, .int .u64 0, .int .i64 0, .string ⟨#[]⟩, .int .u64 0, .int .u64 0, .int .u64 0, .int .u64 0, .int .u64 0, .int .u64 0, .int .u64 0, .slice none 0 0] 29)) (w.heap.size + 1) 29 #[.int .u64 0, .int .i64 0, .int .i64 0, .string ⟨#[]⟩, .int .u64 0, .int .u64 0, .int .i64 0, .string ⟨#[]⟩, .int .u64 0, .int .u64 0, .int .i64 0, .string ⟨#[]⟩, .int .u64 0, .int .u64 0, .int .u64 0, .int .u64 0, .int .u64 0, .int .u64 0, .int .u64 0, .slice none 0 0]) := by unfold Hid; exact Blk.newL _ _ _ (by simp)
  have HL := hid (BsL.ext h HE.out)
  clear h
  go_enter Tryz.func35, Tryz.ntmps35
  go_upto_region 1 with fail
  generalize ((w.alloc (.cells (bunC p A k c) 29)).alloc (.cells #[.int .u64 0, .int .i64 0, .int .i64 0, .string ⟨#[]⟩, .int .u64 0, .int .u64 0, .int .i64 0, .string ⟨#[]⟩, .int .u64 0, .int .u64 0, .int .i64 0, .string ⟨#[]⟩, .int .u64 0, .int .u64 0, .int .u64 0, .int .u64 0, .int .u64 0, .int .u64 0, .int .u64 0, .slice none 0 0] 29)) = V at *
  have b19 : V.cell? ⟨w.heap.size, 19, none⟩ = some (.slice A k c) := HB0.out.cell 19
  have b19f : V.frozen? ⟨w.heap.size, 19, none⟩ = false := HB0.out.frozen 19
  go_upto_region 2 with fail
  generalize hU : World.setCell V _ _ = U
  have HX : Hid (Blk U w.heap.size 29 (bunC p A' k' c')) := hid (by rw [← hU]; exact HB0.out.set_ 19 (.slice A' k' c'))
  have HR : Hid (Blk U (w.heap.size + 1) 29 #[.int .u64 0, .int .i64 0, .int .i64 0, .string ⟨#[]⟩, .int .u64 0, .int .u64 0, .int .i64 0, .string ⟨#[]⟩, .int .u64 0, .int .u64 0, .int .i64 0, .string ⟨#[]⟩, .int .u64 0, .int .u64 0, .int .u64 0, .int .u64 0, .int .u64 0, .int .u64 0, .int .u64 0, .slice none 0 0]) := hid (by rw [← hU]; exact HB1.out.far (by simp) _)
  have HU : Hid (Ext w U) := hid (by rw [← hU]; exact HE.out.setCell (.inr (Nat.le_refl _)) _)
  have HLU : Hid (BsL U A' k' bs') := hid (by
    intro hn
    obtain ⟨bb, oo, hA, hbl, hcc⟩ := HL.out hn
    have hlt := HLT.out bb oo hA
    rw [← hU]
    exact ⟨bb, oo, hA, Nat.lt_of_lt_of_le hbl (by simp [World.setCell]), fun j hj => (hcc j hj).mod (S := [w.heap.size]) (Mod.setCell (Mod.refl _ _) (.inl (by simp)) _) hbl (by simp; omega)⟩)
  clear hU b19 b19f HB0 HB1 HL HE
  obtain ⟨e, he⟩ := Later.self U
  rw [he]
  clear he
  go_wp2_with (first | (go_at_call 12; refine (Ret.later (KR.out _ (HLU.out.ext (Later.h _)))).mono ?_; rintro x _ ⟨rfl, e, rfl⟩) | (refine wpList_row (by rfl) 29 _ rfl _ rfl (HX.out.later _) Tryz.underlying29 rfl (by kernel_rfl) ?_) | (refine wpList_store_mid rfl 29 _ _ rfl (w.heap.size + 1) 0 #[.int .u64 0, .int .i64 0, .int .i64 0, .string ⟨#[]⟩, .int .u64 0, .int .u64 0, .int .i64 0, .string ⟨#[]⟩, .int .u64 0, .int .u64 0, .int .i64 0, .string ⟨#[]⟩, .int .u64 0, .int .u64 0, .int .u64 0, .int .u64 0, .int .u64 0, .int .u64 0, .int .u64 0, .slice none 0 0] (by rfl) (by rfl) ((HR.out.later e).there (Nat.le_refl 20)) (by kernel_rfl) (by simp [Value.oneCell']) ?_))
  generalize hZ : World.setCells _ _ _ _ = Z
  have HZB : Hid (Blk Z (w.heap.size + 1) 29 #[.int .u64 0, .int .i64 0, .int .i64 0, .string ⟨#[]⟩, .int .u64 0, .int .u64 0, .int .i64 0, .string ⟨#[]⟩, .int .u64 0, .int .u64 0, .int .i64 0, .string ⟨#[]⟩, .int .u64 0, .int .u64 0, .int .u64 0, .int .u64 0, .int .u64 0, .int .u64 0, .int .u64 0, .slice none 0 0]) := hid (by rw [← hZ]; exact setCells_all (ds := #[.int .u64 0, .int .i64 0, .int .i64 0, .string ⟨#[]⟩, .int .u64 0, .int .u64 0, .int .i64 0, .string ⟨#[]⟩, .int .u64 0, .int .u64 0, .int .i64 0, .string ⟨#[]⟩, .int .u64 0, .int .u64 0, .int .u64 0, .int .u64 0, .int .u64 0, .int .u64 0, .int .u64 0, .slice none 0 0]) (HR.out.later e) rfl)
  have HZM : Hid (Ext w Z) := hid (by rw [← hZ]; exact setCells_mod _ _ (HU.out.trans e.h) (.inr (by simp)))
  clear hZ
  refine bodyPost_ret (v := (.tuple #[.agg #[.int .u64 0, .int .i64 0, .int .i64 0, .string ⟨#[]⟩, .int .u64 0, .int .u64 0, .int .i64 0, .string ⟨#[]⟩, .int .u64 0, .int .u64 0, .int .i64 0, .string ⟨#[]⟩, .int .u64 0, .int .u64 0, .int .u64 0, .int .u64 0, .int .u64 0, .int .u64 0, .int .u64 0, .slice none 0 0], .int .i64 r] : Value)) (results_cell2 Tryz.results35 _ rfl rfl HZB.out Tryz.underlying29 rfl (by kernel_rfl)) rfl (Ret.mk rfl HZM.out)
theorem checked_any (p : PV) (bs' : Nat → BV) (k c k' c' : Nat) (A A' : Option Addr) (hnl : Hid (p.d.name.length < 4611686018427387904 ∧ p.s.name.length < 4611686018427387904 ∧ p.r.name.length < 4611686018427387904)) (hf : p.fl < 18446744073709551616) (hk : k' < 4611686018427387904) (w : World) (h : BsL w A' k' bs') (hlt : ∀ kk o', A' = some ⟨kk, o', none⟩ → kk < w.heap.size) : Calls Tryz.prog 35 #[bunV p A k c, .slice A' k' c'] w (Ret (chkV p A' k' c' (bunRight p bs' k')) w) := by
  by_cases hr : bunRight p bs' k' = 0
  · rw [chkV_0 hr]; exact checked_ok p bs' k c k' c' A A' hnl hf hk hr w h hlt
  · rw [chkV_no hr]; exact checked_no p bs' k c k' c' A A' hnl hf hk _ rfl hr w h hlt
end Go.Proofs.YtcajjhmldghakaaGreat


namespace Go.Proofs.YtcajjhmldghakaaGreat
open Go.RowKit
set_option linter.unusedVariables false
set_option linter.unusedSimpArgs false

/-- A struct result of 20 cells and an error. -/
theorem chk_cells (p : PV) (A : Option Addr) (k c : Nat) (r : Int) : ∃ (zc : Array Value) (r' : Int), chkV p A k c r = .tuple #[.agg zc, .int .i64 r'] ∧ (Tryz.prog.info? 29).map (·.size) = some zc.size ∧ zc.all (·.oneCell') = true ∧ zc.size = 20 := by
  by_cases h : r = 0
  · rw [chkV_0 h]; exact ⟨bunC p A k c, 0, rfl, by kernel_rfl, by simp [Value.oneCell'], rfl⟩
  · rw [chkV_no h]; exact ⟨zeroBun, r, rfl, by kernel_rfl, by simp [zeroBun, Value.oneCell'], rfl⟩
/-- What turned in a block that is new does not count. -/
theorem modg {V w1 w2 : World} {r g : Nat} (h1 : Mod [r] V w1) (h2 : Mod [g] w1 w2) (hg : V.heap.size ≤ g) : Mod [r] V w2 :=
  Mod.new (S := [r, g]) ((h1.mono (fun k hk => by simp at hk; simp [hk])).trans (h2.mono (fun k hk => by simp at hk; simp [hk]))) (fun k hk => by
    simp at hk
    rcases hk with rfl | rfl
    · exact .inl (by simp)
    · exact .inr hg)
set_option maxRecDepth 20000 in
set_option maxHeartbeats 1600000 in
theorem Drop_none (p : PV) (bs : Nat → BV) (k c : Nat) (A : Option Addr) (n : Int) (hk : k < 4611686018427387904) (hno : firstOf (numB bs n) k = none) (w : World) (h : BsL w A k bs) : Calls Tryz.prog 18 #[bunV p A k c, .int .i64 n] w (Ret (.tuple #[.agg zeroBun, .int .i64 15]) w) := by
  have KA := hid (fun W (hW : BsL W A k bs) => at_any p bs k c A n hk W hW)
  unfold firstI at KA
  rw [hno] at KA
  have HE := hid (((Mod.refl [] w).alloc (.cells (bunC p A k c) 29)).alloc (.cells #[.int .u64 0, .int .i64 0, .int .i64 0, .string ⟨#[]⟩, .int .u64 0, .int .u64 0, .int .i64 0, .string ⟨#[]⟩, .int .u64 0, .int .u64 0, .int .i64 0, .string ⟨#[]⟩, .int .u64 0, .int .u64 0, .int .u64 0, .int .u64 0, .int .u64 0, .int .u64 0, .int .u64 0, .slice none 0 0] 29))
  have HB0 : Hid (Blk ((w.alloc (.cells (bunC p A k c) 29)).alloc (.cells #[.int .u64 0, .int .i64 0, .int .i64 0, .string ⟨#[]⟩, .int .u64 0, .int .u64 0, .int .i64 0, .string ⟨#[]⟩, .int .u64 0, .int .u64 0, .int .i64 0, .string ⟨#[]⟩, .int .u64 0, .int .u64 0, .int .u64 0, .int .u64 0, .int .u64 0, .int .u64 0, .int .u64 0, .slice none 0 0] 29)) w.heap.size 29 (bunC p A k c)) := hid ((Blk.new w 29 (bunC p A k c)).alloc (.cells #[.int .u64 0, .int .i64 0, .int .i64 0, .string ⟨#[]⟩, .int .u64 0, .int .u64 0, .int .i64 0, .string ⟨#[]⟩, .int .u64 0, .int .u64 0, .int .i64 0, .string ⟨#[]⟩, .int .u64 0, .int .u64 0, .int .u64 0, .int .u64 0, .int .u64 0, .int .u64 0, .int .u64 0, .slice none 0 0] 29))
  have HB1 : Hid (Blk ((w.alloc (.cells (bunC p A k c) 29)).alloc (.cells #[.int .u64 0, .int .i64 0, .int .i64 0, .string ⟨#[]⟩, .int .u64 0, .int .u64 0, .int .i64 0, .string ⟨#[]⟩, .int .u64 0, .int .u64 0, .int .i64 0, .string ⟨#[]⟩, .int .u64 0, .int .u64 0, .int .u64 0, .int .u64 0, .int .u64 0, .int .u64 0, .int .u64 0, .slice none 0 0] 29)) (w.heap.size + 1) 29 #[.int .u64 0, .int .i64 0, .int .i64 0, .string ⟨#[]⟩, .int .u64 0, .int .u64 0, .int .i64 0, .string ⟨#[]⟩, .int .u64 0, .int .u64 0, .int .i64 0, .string ⟨#[]⟩, .int .u64 0, .int .u64 0, .int .u64 0, .int .u64 0, .int .u64 0, .int .u64 0, .int .u64 0, .slice none 0 0]) := by unfold Hid; exact Blk.newL _ _ _ (by simp)
  have HL := hid (BsL.ext h HE.out)
  clear h hno hk
  go_enter Tryz.func18, Tryz.ntmps18
  go_upto_region 1 with fail
  generalize ((w.alloc (.cells (bunC p A k c) 29)).alloc (.cells #[.int .u64 0, .int .i64 0, .int .i64 0, .string ⟨#[]⟩, .int .u64 0, .int .u64 0, .int .i64 0, .string ⟨#[]⟩, .int .u64 0, .int .u64 0, .int .i64 0, .string ⟨#[]⟩, .int .u64 0, .int .u64 0, .int .u64 0, .int .u64 0, .int .u64 0, .int .u64 0, .int .u64 0, .slice none 0 0] 29)) = V at *
  obtain ⟨e, he⟩ := Later.self V
  rw [he]
  clear he
  go_wp2_with (first | (go_at_call 34; refine (Ret.later (KA.out _ (HL.out.ext (Later.h _)))).mono ?_; rintro x _ ⟨rfl, e, rfl⟩) | (refine wpList_row (by rfl) 29 _ rfl _ rfl (HB0.out.later _) Tryz.underlying29 rfl (by kernel_rfl) ?_) | (refine wpList_store_mid rfl 29 _ _ rfl (w.heap.size + 1) 0 #[.int .u64 0, .int .i64 0, .int .i64 0, .string ⟨#[]⟩, .int .u64 0, .int .u64 0, .int .i64 0, .string ⟨#[]⟩, .int .u64 0, .int .u64 0, .int .i64 0, .string ⟨#[]⟩, .int .u64 0, .int .u64 0, .int .u64 0, .int .u64 0, .int .u64 0, .int .u64 0, .int .u64 0, .slice none 0 0] (by rfl) (by rfl) ((HB1.out.later e).there (Nat.le_refl 20)) (by kernel_rfl) (by simp [Value.oneCell']) ?_))
  generalize hZ : World.setCells _ _ _ _ = Z
  have HZB : Hid (Blk Z (w.heap.size + 1) 29 #[.int .u64 0, .int .i64 0, .int .i64 0, .string ⟨#[]⟩, .int .u64 0, .int .u64 0, .int .i64 0, .string ⟨#[]⟩, .int .u64 0, .int .u64 0, .int .i64 0, .string ⟨#[]⟩, .int .u64 0, .int .u64 0, .int .u64 0, .int .u64 0, .int .u64 0, .int .u64 0, .int .u64 0, .slice none 0 0]) := hid (by rw [← hZ]; exact setCells_all (ds := #[.int .u64 0, .int .i64 0, .int .i64 0, .string ⟨#[]⟩, .int .u64 0, .int .u64 0, .int .i64 0, .string ⟨#[]⟩, .int .u64 0, .int .u64 0, .int .i64 0, .string ⟨#[]⟩, .int .u64 0, .int .u64 0, .int .u64 0, .int .u64 0, .int .u64 0, .int .u64 0, .int .u64 0, .slice none 0 0]) (HB1.out.later e) rfl)
  have HZM : Hid (Ext w Z) := hid (by rw [← hZ]; exact setCells_mod _ _ (HE.out.trans e.h) (.inr (by simp)))
  clear hZ
  exact bodyPost_ret (v := .tuple #[.agg #[.int .u64 0, .int .i64 0, .int .i64 0, .string ⟨#[]⟩, .int .u64 0, .int .u64 0, .int .i64 0, .string ⟨#[]⟩, .int .u64 0, .int .u64 0, .int .i64 0, .string ⟨#[]⟩, .int .u64 0, .int .u64 0, .int .u64 0, .int .u64 0, .int .u64 0, .int .u64 0, .int .u64 0, .slice none 0 0], .int .i64 15]) (results_cell2 Tryz.results18 _ rfl rfl HZB.out Tryz.underlying29 rfl (by kernel_rfl)) rfl (Ret.mk rfl HZM.out)
set_option maxRecDepth 20000 in
set_option maxHeartbeats 4000000 in
theorem Drop_some (p : PV) (bs : Nat → BV) (k c : Nat) (A : Option Addr) (n : Int) (hnl : Hid (p.d.name.length < 4611686018427387904 ∧ p.s.name.length < 4611686018427387904 ∧ p.r.name.length < 4611686018427387904)) (hf : p.fl < 18446744073709551616) (hk : k ≤ 100000) (i : Nat) (hsome : firstOf (numB bs n) k = some i) (w : World) (h : BsL w A k bs) : Calls Tryz.prog 18 #[bunV p A k c, .int .i64 n] w (fun e w' => ∃ A' c', e = .returned (chkV p A' (k - 1) c' (bunRight p (delB bs i) (k - 1))) ∧ Ext w w' ∧ BsL w' A' (k - 1) (delB bs i) ∧ SlA A' (k - 1) c') := by
  have hi := (firstOf_spec hsome).1
  have KA := hid (fun W (hW : BsL W A k bs) => at_any p bs k c A n (by omega) W hW)
  unfold firstI at KA
  rw [hsome] at KA
  have KC := hid (fun W (hW : BsL W A k bs) => CloneB_any bs k (by unfold Hid; omega) A c W hW)
  have hw1 : IntKind.i64.wrap ((i : Int) + 1) = (i : Int) + 1 := IntWalk.i64_in _ (by omega)
  have KD := hid (fun W base g c' hown => DelB_any bs base g k c' i hi hk W hown)
  rw [← hw1] at KD
  clear hw1
  have KK := hid (fun W A' c' (hW : BsL W A' (k - 1) (delB bs i)) hlt => checked_any p (delB bs i) k c (k - 1) c' A A' hnl hf (by omega) W hW hlt)
  have HE := hid (((Mod.refl [] w).alloc (.cells (bunC p A k c) 29)).alloc (.cells #[.int .u64 0, .int .i64 0, .int .i64 0, .string ⟨#[]⟩, .int .u64 0, .int .u64 0, .int .i64 0, .string ⟨#[]⟩, .int .u64 0, .int .u64 0, .int .i64 0, .string ⟨#[]⟩, .int .u64 0, .int .u64 0, .int .u64 0, .int .u64 0, .int .u64 0, .int .u64 0, .int .u64 0, .slice none 0 0] 29))
  have HB0 : Hid (Blk ((w.alloc (.cells (bunC p A k c) 29)).alloc (.cells #[.int .u64 0, .int .i64 0, .int .i64 0, .string ⟨#[]⟩, .int .u64 0, .int .u64 0, .int .i64 0, .string ⟨#[]⟩, .int .u64 0, .int .u64 0, .int .i64 0, .string ⟨#[]⟩, .int .u64 0, .int .u64 0, .int .u64 0, .int .u64 0, .int .u64 0, .int .u64 0, .int .u64 0, .slice none 0 0] 29)) w.heap.size 29 (bunC p A k c)) := hid ((Blk.new w 29 (bunC p A k c)).alloc (.cells #[.int .u64 0, .int .i64 0, .int .i64 0, .string ⟨#[]⟩, .int .u64 0, .int .u64 0, .int .i64 0, .string ⟨#[]⟩, .int .u64 0, .int .u64 0, .int .i64 0, .string ⟨#[]⟩, .int .u64 0, .int .u64 0, .int .u64 0, .int .u64 0, .int .u64 0, .int .u64 0, .int .u64 0, .slice none 0 0] 29))
  have HB1 : Hid (Blk ((w.alloc (.cells (bunC p A k c) 29)).alloc (.cells #[.int .u64 0, .int .i64 0, .int .i64 0, .string ⟨#[]⟩, .int .u64 0, .int .u64 0, .int .i64 0, .string ⟨#[]⟩, .int .u64 0, .int .u64 0, .int .i64 0, .string ⟨#[]⟩, .int .u64 0, .int .u64 0, .int .u64 0, .int .u64 0, .int .u64 0, .int .u64 0, .int .u64 0, .slice none 0 0] 29)) (w.heap.size + 1) 29 #[.int .u64 0, .int .i64 0, .int .i64 0, .string ⟨#[]⟩, .int .u64 0, .int .u64 0, .int .i64 0, .string ⟨#[]⟩, .int .u64 0, .int .u64 0, .int .i64 0, .string ⟨#[]⟩, .int .u64 0, .int .u64 0, .int .u64 0, .int .u64 0, .int .u64 0, .int .u64 0, .int .u64 0, .slice none 0 0]) := by unfold Hid; exact Blk.newL _ _ _ (by simp)
  have HL := hid (BsL.ext h HE.out)
  have i0 : (0 : Int) ≤ (i : Int) := by omega
  have i1 : (i : Int) ≤ 100000 := by omega
  have t1 : decide ((i : Int) < 0) = false := by simp
  have t2 : ((i : Int) < 0) = False := eq_false (by omega)
  have HLW := hid h
  clear h hsome hk hf hi
  go_enter Tryz.func18, Tryz.ntmps18
  go_upto_region 1 with fail
  generalize ((w.alloc (.cells (bunC p A k c) 29)).alloc (.cells #[.int .u64 0, .int .i64 0, .int .i64 0, .string ⟨#[]⟩, .int .u64 0, .int .u64 0, .int .i64 0, .string ⟨#[]⟩, .int .u64 0, .int .u64 0, .int .i64 0, .string ⟨#[]⟩, .int .u64 0, .int .u64 0, .int .u64 0, .int .u64 0, .int .u64 0, .int .u64 0, .int .u64 0, .slice none 0 0] 29)) = V at *
  obtain ⟨e, he⟩ := Later.self V
  rw [he]
  clear he
  go_upto_region 4 with (first | (go_at_call 34; refine (Ret.later (KA.out _ (HL.out.ext (Later.h _)))).mono ?_; rintro x _ ⟨rfl, e, rfl⟩) | (refine wpList_row (by rfl) 29 _ rfl _ rfl (HB0.out.later _) Tryz.underlying29 rfl (by kernel_rfl) ?_))
  have HVS : Hid (w.heap.size + 2 ≤ V.heap.size) := hid (Nat.succ_le_of_lt HB1.out.lt)
  have HS : Hid (∀ W, Mod [w.heap.size + 1] V W → W.cell? ⟨w.heap.size, 19, none⟩ = some (.slice A k c)) := hid (fun W hW => (HB0.out.mod hW (by simp)).cell 19)
  have HRow : Hid (∀ W, Mod [w.heap.size + 1] V W → Blk W w.heap.size 29 (bunC p A k c)) := hid (fun W hW => HB0.out.mod hW (by simp))
  have HLL : Hid (∀ W, Mod [w.heap.size + 1] V W → BsL W A k bs) := hid (fun W hW hn => by
    obtain ⟨bb, oo, hA, hbl, hcc⟩ := HL.out hn
    obtain ⟨b2, o2, hA2, hb2, _⟩ := HLW.out hn
    have e1 : bb = b2 := by rw [hA] at hA2; cases hA2; rfl
    exact ⟨bb, oo, hA, Nat.lt_of_lt_of_le hbl hW.size, fun j hj => (hcc j hj).mod hW hbl (by simp; omega)⟩)
  refine wp_region_held_drew (S := fun w' => Mod [w.heap.size + 1] V w' ∧ ∃ cs : Array Value, Blk w' (w.heap.size + 1) 29 cs ∧ cs.size = 20) (by kernel_rfl) ⟨((Later.h e).of_ext).drew, #[.int .u64 0, .int .i64 0, .int .i64 0, .string ⟨#[]⟩, .int .u64 0, .int .u64 0, .int .i64 0, .string ⟨#[]⟩, .int .u64 0, .int .u64 0, .int .i64 0, .string ⟨#[]⟩, .int .u64 0, .int .u64 0, .int .u64 0, .int .u64 0, .int .u64 0, .int .u64 0, .int .u64 0, .slice none 0 0], (HB1.out.later e).drew, rfl⟩ (fun hHeld => ?_)
  refine wpAnyH_take (i := 0) rfl (by kernel_rfl) (by kernel_rfl) (by kernel_rfl) (fun _ _ _ h => h) (yieldsIf_row (by rfl) 29 _ rfl _ rfl (fun W h => HRow.out W h.1) Tryz.underlying29 rfl (by kernel_rfl)) hHeld ?_
  (try simp only [Act.put, List.setIfInBounds_toArray, List.set_cons_zero, List.set_cons_succ])
  refine' wpAnyH_take (i := 1) (v := _) rfl (by kernel_rfl) (by kernel_rfl) (by kernel_rfl) (fun _ _ _ h => h) (Or.inl ⟨by rfl, ?hy⟩) hHeld ?rest
  case hy => (rintro W ⟨hM, _⟩; go_simp; (try with_reducible rfl))
  case rest =>
  (try simp only [Act.put, List.setIfInBounds_toArray, List.set_cons_zero, List.set_cons_succ])
  refine' wpAnyH_take (i := 2) (v := _) rfl (by kernel_rfl) (by kernel_rfl) (by kernel_rfl) (fun _ _ _ h => h) (Or.inl ⟨by rfl, ?hy⟩) hHeld ?rest
  case hy => (rintro W ⟨hM, _⟩; have x1 := HS.out W hM; go_simp; (try with_reducible rfl))
  case rest =>
  (try simp only [Act.put, List.setIfInBounds_toArray, List.set_cons_zero, List.set_cons_succ])
  refine' wpAnyH_take (i := 4) (v := _) rfl (by kernel_rfl) (by kernel_rfl) (by kernel_rfl) (fun _ _ _ h => h) (Or.inl ⟨by rfl, ?hy⟩) hHeld ?rest
  case hy => (rintro W ⟨hM, _⟩; go_simp; (try with_reducible rfl))
  case rest =>
  (try simp only [Act.put, List.setIfInBounds_toArray, List.set_cons_zero, List.set_cons_succ])
  refine' wpAnyH_take (i := 5) (v := _) rfl (by kernel_rfl) (by kernel_rfl) (by kernel_rfl) (fun _ _ _ h => h) (Or.inl ⟨by rfl, ?hy⟩) hHeld ?rest
  case hy => (rintro W ⟨hM, _⟩; go_simp; (try with_reducible rfl))
  case rest =>
  (try simp only [Act.put, List.setIfInBounds_toArray, List.set_cons_zero, List.set_cons_succ])
  refine' wpAnyH_take (i := 6) (v := _) rfl (by kernel_rfl) (by kernel_rfl) (by kernel_rfl) (fun _ _ _ h => h) (Or.inl ⟨by rfl, ?hy⟩) hHeld ?rest
  case hy => (rintro W ⟨hM, _⟩; go_simp; (try with_reducible rfl))
  case rest =>
  (try simp only [Act.put, List.setIfInBounds_toArray, List.set_cons_zero, List.set_cons_succ])
  refine wpAnyH_ready (rs := [3]) (by kernel_rfl) (by simp) ?_
  refine AllReadyH.cons rfl (fun K hK => ?_) AllReadyH.nil
  go_simp
  (go_at_call 37; refine (KC.out _ (HLL.out _ hHeld.1)).mono ?_; rintro x w1 ⟨g, c1, rfl, hb3, ho1⟩; have HO1 := hid ho1; have HN1 := hid hHeld.1.size)
  refine hK.out _ _ ⟨hHeld.1.trans (Mod.of_ext hb3), let ⟨cs, hb, hc⟩ := hHeld.2; ⟨cs, hb.ext hb3, hc⟩⟩ (fun hHeld => ?_)
  clear hK K
  (try simp only [Act.put, List.setIfInBounds_toArray, List.set_cons_zero, List.set_cons_succ])
  refine wpAnyH_ready (rs := [7]) (by kernel_rfl) (by simp) ?_
  refine AllReadyH.cons rfl (fun K hK => ?_) AllReadyH.nil
  go_simp
  (go_at_call 38; refine (KD.out _ _ g c1 HO1.out).mono ?_; rintro x w2 ⟨rfl, hm2, ho2⟩; have HO2 := hid ho2; have HGV : Hid (V.heap.size ≤ g) := hid (Nat.le_trans HN1.out (HO1.out.lt g rfl).1))
  refine hK.out _ _ ⟨modg hHeld.1 hm2 HGV.out, let ⟨cs, hb, hc⟩ := hHeld.2; ⟨cs, hb.mod hm2 (by have := HGV.out; have := HVS.out; simp; omega), hc⟩⟩ (fun hHeld => ?_)
  clear hK K
  (try simp only [Act.put, List.setIfInBounds_toArray, List.set_cons_zero, List.set_cons_succ])
  refine wpAnyH_ready (rs := [8]) (by kernel_rfl) (by simp) ?_
  refine AllReadyH.cons rfl (fun K hK => ?_) AllReadyH.nil
  go_simp
  (go_at_call 35; refine (KK.out _ (some ⟨g, 0, none⟩) c1 (own_BsL HO2.out) (fun kk o' hA => by cases hA; exact (HO2.out.lt _ rfl).2)).mono ?_; rintro x w3 ⟨rfl, hb3⟩; obtain ⟨zc, r0, hz, hz1, hz2, hz3⟩ := chk_cells p (some ⟨g, 0, none⟩) (k - 1) c1 (bunRight p (delB bs i) (k - 1)); rw [hz]; have HZ := hid hz; have HZ1 := hid hz1; have HZ2 := hid hz2; have HZ3 := hid hz3; have HM3 := hid hb3; clear hz hz1 hz2 hz3)
  refine hK.out _ _ ⟨hHeld.1.trans (Mod.of_ext hb3), let ⟨cs, hb, hc⟩ := hHeld.2; ⟨cs, hb.ext hb3, hc⟩⟩ (fun hHeld => ?_)
  clear hK K
  (try simp only [Act.put, List.setIfInBounds_toArray, List.set_cons_zero, List.set_cons_succ])
  refine' wpAnyH_take (i := 9) (v := _) rfl (by kernel_rfl) (by kernel_rfl) (by kernel_rfl) (fun _ _ _ h => h) (Or.inl ⟨by rfl, ?hy⟩) hHeld ?rest
  case hy => (rintro W ⟨hM, _⟩; go_simp; (try with_reducible rfl))
  case rest =>
  (try simp only [Act.put, List.setIfInBounds_toArray, List.set_cons_zero, List.set_cons_succ])
  refine' wpAnyH_take (i := 10) (v := _) rfl (by kernel_rfl) (by kernel_rfl) (by kernel_rfl) (fun _ _ _ h => h) (Or.inl ⟨by rfl, ?hy⟩) hHeld ?rest
  case hy => (rintro W ⟨hM, _⟩; go_simp; (try with_reducible rfl))
  case rest =>
  (try simp only [Act.put, List.setIfInBounds_toArray, List.set_cons_zero, List.set_cons_succ])
  refine wpAnyH_ready (rs := [11]) (by kernel_rfl) (by simp) ?_
  refine AllReadyH.cons rfl (fun K hK => ?_) AllReadyH.nil
  obtain ⟨cs0, hb0, hc0⟩ := hHeld.2
  refine wp_store_mid 29 _ _ rfl (w.heap.size + 1) 0 zc (by rfl) (by rfl) (hb0.there (by rw [HZ3.out, hc0]; exact Nat.le_refl _)) HZ1.out HZ2.out ?_
  have hZB := setCells_all (ds := zc) hb0 (by rw [Array.length_toList, HZ3.out, hc0])
  have hZM := setCells_mod (b := w.heap.size + 1) zc.toList 0 hHeld.1 (.inl (by simp))
  generalize hZ : World.setCells w3 (w.heap.size + 1) 0 zc.toList = Z at *
  have HZM3 : Hid (Mod [w.heap.size + 1] w3 Z) := hid (by rw [← hZ]; exact setCells_mod _ _ (Mod.refl _ _) (.inl (by simp)))
  clear hZ
  refine hK.out _ _ ⟨hZM, zc, hZB, HZ3.out⟩ (fun hHeld => ?_)
  clear hK K
  (try simp only [Act.put, List.setIfInBounds_toArray, List.set_cons_zero, List.set_cons_succ])
  refine wpAnyH_ready (rs := [12]) (by kernel_rfl) (by simp) ?_
  refine AllReadyH.cons rfl (fun K hK => ?_) AllReadyH.nil
  go_simp
  refine hK.out _ _ hHeld (fun hHeld => ?_)
  clear hK K
  (try simp only [Act.put, List.setIfInBounds_toArray, List.set_cons_zero, List.set_cons_succ])
  refine wpAnyH_done (by kernel_rfl) ?_ _
  go_wp2_with fail
  refine bodyPost_ret (v := .tuple #[.agg zc, .int .i64 r0]) (results_cell2 Tryz.results18 _ rfl rfl hZB Tryz.underlying29 rfl (by rw [HZ1.out])) rfl ?_
  obtain ⟨A9, c9, hA9, hsa⟩ := own_slA HO2.out
  simp only [Value.slice.injEq, true_and] at hA9
  obtain ⟨rfl, rfl⟩ := hA9
  refine ⟨some ⟨g, 0, none⟩, c1, by rw [HZ.out], (HE.out.of_ext.trans hZM).new (fun kk hkk => .inr (by simp at hkk; omega)), ?_, hsa⟩
  intro hn
  obtain ⟨bb, oo, hA, hbl, hcc⟩ := (own_BsL HO2.out).ext HM3.out hn
  have hbb : bb = g := by cases hA; rfl
  exact ⟨bb, oo, hA, Nat.lt_of_lt_of_le hbl HZM3.out.size, fun j hj => (hcc j hj).mod HZM3.out hbl (by have := HGV.out; have := HVS.out; simp; omega)⟩
end Go.Proofs.YtcajjhmldghakaaGreat


namespace Go.Proofs.YtcajjhmldghakaaGreat
open Go.RowKit
set_option linter.unusedVariables false
set_option linter.unusedSimpArgs false

set_option maxRecDepth 20000 in
set_option maxHeartbeats 1600000 in
theorem Put_0 (p : PV) (c : Nat) (A : Option Addr) (x : BV) (w : World) : Calls Tryz.prog 15 #[bunV p A 0 c, x.v] w (Ret (.tuple #[.agg zeroBun, .int .i64 8]) w) := by
  have HE := hid ((((Mod.refl [] w).alloc (.cells (bunC p A 0 c) 29)).alloc (.cells (BV.c x) 38)).alloc (.cells #[.int .u64 0, .int .i64 0, .int .i64 0, .string ⟨#[]⟩, .int .u64 0, .int .u64 0, .int .i64 0, .string ⟨#[]⟩, .int .u64 0, .int .u64 0, .int .i64 0, .string ⟨#[]⟩, .int .u64 0, .int .u64 0, .int .u64 0, .int .u64 0, .int .u64 0, .int .u64 0, .int .u64 0, .slice none 0 0] 29))
  have HB0 : Hid (Blk (((w.alloc (.cells (bunC p A 0 c) 29)).alloc (.cells (BV.c x) 38)).alloc (.cells #[.int .u64 0, .int .i64 0, .int .i64 0, .string ⟨#[]⟩, .int .u64 0, .int .u64 0, .int .i64 0, .string ⟨#[]⟩, .int .u64 0, .int .u64 0, .int .i64 0, .string ⟨#[]⟩, .int .u64 0, .int .u64 0, .int .u64 0, .int .u64 0, .int .u64 0, .int .u64 0, .int .u64 0, .slice none 0 0] 29)) w.heap.size 29 (bunC p A 0 c)) := hid (((Blk.new w 29 (bunC p A 0 c)).alloc (.cells (BV.c x) 38)).alloc (.cells #[.int .u64 0, .int .i64 0, .int .i64 0, .string ⟨#[]⟩, .int .u64 0, .int .u64 0, .int .i64 0, .string ⟨#[]⟩, .int .u64 0, .int .u64 0, .int .i64 0, .string ⟨#[]⟩, .int .u64 0, .int .u64 0, .int .u64 0, .int .u64 0, .int .u64 0, .int .u64 0, .int .u64 0, .slice none 0 0] 29))
  have HB1 : Hid (Blk (((w.alloc (.cells (bunC p A 0 c) 29)).alloc (.cells (BV.c x) 38)).alloc (.cells #[.int .u64 0, .int .i64 0, .int .i64 0, .string ⟨#[]⟩, .int .u64 0, .int .u64 0, .int .i64 0, .string ⟨#[]⟩, .int .u64 0, .int .u64 0, .int .i64 0, .string ⟨#[]⟩, .int .u64 0, .int .u64 0, .int .u64 0, .int .u64 0, .int .u64 0, .int .u64 0, .int .u64 0, .slice none 0 0] 29)) (w.heap.size + 1) 38 (BV.c x)) := by unfold Hid; have := (Blk.newL (N := (w.heap.size + 1)) (w.alloc (.cells (bunC p A 0 c) 29)) 38 (BV.c x) (by simp)); exact (this.alloc (.cells #[.int .u64 0, .int .i64 0, .int .i64 0, .string ⟨#[]⟩, .int .u64 0, .int .u64 0, .int .i64 0, .string ⟨#[]⟩, .int .u64 0, .int .u64 0, .int .i64 0, .string ⟨#[]⟩, .int .u64 0, .int .u64 0, .int .u64 0, .int .u64 0, .int .u64 0, .int .u64 0, .int .u64 0, .slice none 0 0] 29))
  have HB2 : Hid (Blk (((w.alloc (.cells (bunC p A 0 c) 29)).alloc (.cells (BV.c x) 38)).alloc (.cells #[.int .u64 0, .int .i64 0, .int .i64 0, .string ⟨#[]⟩, .int .u64 0, .int .u64 0, .int .i64 0, .string ⟨#[]⟩, .int .u64 0, .int .u64 0, .int .i64 0, .string ⟨#[]⟩, .int .u64 0, .int .u64 0, .int .u64 0, .int .u64 0, .int .u64 0, .int .u64 0, .int .u64 0, .slice none 0 0] 29)) (w.heap.size + 1 + 1) 29 #[.int .u64 0, .int .i64 0, .int .i64 0, .string ⟨#[]⟩, .int .u64 0, .int .u64 0, .int .i64 0, .string ⟨#[]⟩, .int .u64 0, .int .u64 0, .int .i64 0, .string ⟨#[]⟩, .int .u64 0, .int .u64 0, .int .u64 0, .int .u64 0, .int .u64 0, .int .u64 0, .int .u64 0, .slice none 0 0]) := by unfold Hid; exact Blk.newL _ _ _ (by simp)
  go_enter Tryz.func15, Tryz.ntmps15
  go_upto_region 1 with fail
  generalize (((w.alloc (.cells (bunC p A 0 c) 29)).alloc (.cells (BV.c x) 38)).alloc (.cells #[.int .u64 0, .int .i64 0, .int .i64 0, .string ⟨#[]⟩, .int .u64 0, .int .u64 0, .int .i64 0, .string ⟨#[]⟩, .int .u64 0, .int .u64 0, .int .i64 0, .string ⟨#[]⟩, .int .u64 0, .int .u64 0, .int .u64 0, .int .u64 0, .int .u64 0, .int .u64 0, .int .u64 0, .slice none 0 0] 29)) = V at *
  have b19 : ∀ e : Later V, e.x.cell? ⟨w.heap.size, 19, none⟩ = some (.slice A 0 c) := HB0.out.cellL 19 rfl
  obtain ⟨e, he⟩ := Later.self V
  rw [he]
  clear he
  go_wp2_with (refine wpList_store_mid rfl 29 _ _ rfl (w.heap.size + 1 + 1) 0 #[.int .u64 0, .int .i64 0, .int .i64 0, .string ⟨#[]⟩, .int .u64 0, .int .u64 0, .int .i64 0, .string ⟨#[]⟩, .int .u64 0, .int .u64 0, .int .i64 0, .string ⟨#[]⟩, .int .u64 0, .int .u64 0, .int .u64 0, .int .u64 0, .int .u64 0, .int .u64 0, .int .u64 0, .slice none 0 0] (by rfl) (by rfl) ((HB2.out.later e).there (Nat.le_refl 20)) (by kernel_rfl) (by simp [Value.oneCell']) ?_)
  generalize hZ : World.setCells _ _ _ _ = Z
  have HZB : Hid (Blk Z (w.heap.size + 1 + 1) 29 #[.int .u64 0, .int .i64 0, .int .i64 0, .string ⟨#[]⟩, .int .u64 0, .int .u64 0, .int .i64 0, .string ⟨#[]⟩, .int .u64 0, .int .u64 0, .int .i64 0, .string ⟨#[]⟩, .int .u64 0, .int .u64 0, .int .u64 0, .int .u64 0, .int .u64 0, .int .u64 0, .int .u64 0, .slice none 0 0]) := hid (by rw [← hZ]; exact setCells_all (ds := #[.int .u64 0, .int .i64 0, .int .i64 0, .string ⟨#[]⟩, .int .u64 0, .int .u64 0, .int .i64 0, .string ⟨#[]⟩, .int .u64 0, .int .u64 0, .int .i64 0, .string ⟨#[]⟩, .int .u64 0, .int .u64 0, .int .u64 0, .int .u64 0, .int .u64 0, .int .u64 0, .int .u64 0, .slice none 0 0]) (HB2.out.later e) rfl)
  have HZM : Hid (Ext w Z) := hid (by rw [← hZ]; exact setCells_mod _ _ (HE.out.trans e.h) (.inr (by omega)))
  clear hZ
  exact bodyPost_ret (v := .tuple #[.agg #[.int .u64 0, .int .i64 0, .int .i64 0, .string ⟨#[]⟩, .int .u64 0, .int .u64 0, .int .i64 0, .string ⟨#[]⟩, .int .u64 0, .int .u64 0, .int .i64 0, .string ⟨#[]⟩, .int .u64 0, .int .u64 0, .int .u64 0, .int .u64 0, .int .u64 0, .int .u64 0, .int .u64 0, .slice none 0 0], .int .i64 8]) (results_cell2 Tryz.results15 _ rfl rfl HZB.out Tryz.underlying29 rfl (by kernel_rfl)) rfl (Ret.mk rfl HZM.out)
set_option maxRecDepth 20000 in
set_option maxHeartbeats 8000000 in
theorem Put_some (p : PV) (bs : Nat → BV) (k c : Nat) (A : Option Addr) (x : BV) (hnl : Hid (p.d.name.length < 4611686018427387904 ∧ p.s.name.length < 4611686018427387904 ∧ p.r.name.length < 4611686018427387904)) (hf : p.fl < 18446744073709551616) (h0 : 0 < k) (hk : k ≤ 1000) (w : World) (h : BsL w A k bs) : Calls Tryz.prog 15 #[bunV p A k c, x.v] w (fun e w' => ∃ A' c', e = .returned (chkV p A' (k + 1) c' (bunRight p (insB bs (k - 1) x) (k + 1))) ∧ Ext w w' ∧ BsL w' A' (k + 1) (insB bs (k - 1) x) ∧ SlA A' (k + 1) c') := by
  have KC := hid (fun W (hW : BsL W A k bs) => CloneB_any bs k (by unfold Hid; omega) A c W hW)
  have hw1 : IntKind.i64.wrap ((k : Int) - 1) = ((k - 1 : Nat) : Int) := by rw [IntWalk.i64_in _ (by omega)]; omega
  have KI := hid (fun W base g c' vb hown hv hvb hb => InsB_any bs x base g k c' (k - 1) vb (by omega) (by omega) W hown hv hvb hb)
  rw [← hw1] at KI
  have KK := hid (fun W A' c' (hW : BsL W A' (k + 1) (insB bs (k - 1) x)) hlt => checked_any p (insB bs (k - 1) x) k c (k + 1) c' A A' hnl hf (by omega) W hW hlt)
  have HE := hid ((((Mod.refl [] w).alloc (.cells (bunC p A k c) 29)).alloc (.cells (BV.c x) 38)).alloc (.cells #[.int .u64 0, .int .i64 0, .int .i64 0, .string ⟨#[]⟩, .int .u64 0, .int .u64 0, .int .i64 0, .string ⟨#[]⟩, .int .u64 0, .int .u64 0, .int .i64 0, .string ⟨#[]⟩, .int .u64 0, .int .u64 0, .int .u64 0, .int .u64 0, .int .u64 0, .int .u64 0, .int .u64 0, .slice none 0 0] 29))
  have HB0 : Hid (Blk (((w.alloc (.cells (bunC p A k c) 29)).alloc (.cells (BV.c x) 38)).alloc (.cells #[.int .u64 0, .int .i64 0, .int .i64 0, .string ⟨#[]⟩, .int .u64 0, .int .u64 0, .int .i64 0, .string ⟨#[]⟩, .int .u64 0, .int .u64 0, .int .i64 0, .string ⟨#[]⟩, .int .u64 0, .int .u64 0, .int .u64 0, .int .u64 0, .int .u64 0, .int .u64 0, .int .u64 0, .slice none 0 0] 29)) w.heap.size 29 (bunC p A k c)) := hid (((Blk.new w 29 (bunC p A k c)).alloc (.cells (BV.c x) 38)).alloc (.cells #[.int .u64 0, .int .i64 0, .int .i64 0, .string ⟨#[]⟩, .int .u64 0, .int .u64 0, .int .i64 0, .string ⟨#[]⟩, .int .u64 0, .int .u64 0, .int .i64 0, .string ⟨#[]⟩, .int .u64 0, .int .u64 0, .int .u64 0, .int .u64 0, .int .u64 0, .int .u64 0, .int .u64 0, .slice none 0 0] 29))
  have HB1 : Hid (Blk (((w.alloc (.cells (bunC p A k c) 29)).alloc (.cells (BV.c x) 38)).alloc (.cells #[.int .u64 0, .int .i64 0, .int .i64 0, .string ⟨#[]⟩, .int .u64 0, .int .u64 0, .int .i64 0, .string ⟨#[]⟩, .int .u64 0, .int .u64 0, .int .i64 0, .string ⟨#[]⟩, .int .u64 0, .int .u64 0, .int .u64 0, .int .u64 0, .int .u64 0, .int .u64 0, .int .u64 0, .slice none 0 0] 29)) (w.heap.size + 1) 38 (BV.c x)) := by unfold Hid; have := (Blk.newL (N := (w.heap.size + 1)) (w.alloc (.cells (bunC p A k c) 29)) 38 (BV.c x) (by simp)); exact (this.alloc (.cells #[.int .u64 0, .int .i64 0, .int .i64 0, .string ⟨#[]⟩, .int .u64 0, .int .u64 0, .int .i64 0, .string ⟨#[]⟩, .int .u64 0, .int .u64 0, .int .i64 0, .string ⟨#[]⟩, .int .u64 0, .int .u64 0, .int .u64 0, .int .u64 0, .int .u64 0, .int .u64 0, .int .u64 0, .slice none 0 0] 29))
  have HB2 : Hid (Blk (((w.alloc (.cells (bunC p A k c) 29)).alloc (.cells (BV.c x) 38)).alloc (.cells #[.int .u64 0, .int .i64 0, .int .i64 0, .string ⟨#[]⟩, .int .u64 0, .int .u64 0, .int .i64 0, .string ⟨#[]⟩, .int .u64 0, .int .u64 0, .int .i64 0, .string ⟨#[]⟩, .int .u64 0, .int .u64 0, .int .u64 0, .int .u64 0, .int .u64 0, .int .u64 0, .int .u64 0, .slice none 0 0] 29)) (w.heap.size + 1 + 1) 29 #[.int .u64 0, .int .i64 0, .int .i64 0, .string ⟨#[]⟩, .int .u64 0, .int .u64 0, .int .i64 0, .string ⟨#[]⟩, .int .u64 0, .int .u64 0, .int .i64 0, .string ⟨#[]⟩, .int .u64 0, .int .u64 0, .int .u64 0, .int .u64 0, .int .u64 0, .int .u64 0, .int .u64 0, .slice none 0 0]) := by unfold Hid; exact Blk.newL _ _ _ (by simp)
  have HL := hid (BsL.ext h HE.out)
  have k0 : (0 : Int) ≤ (k : Int) := by omega
  have k1 : (k : Int) ≤ 1000 := by omega
  have t1 : ((k : Int) == 0) = false := by rw [beq_eq_false_iff_ne]; omega
  have t2 : ((k : Int) = 0) = False := eq_false (by omega)
  have t3 : (k = 0) = False := eq_false (by omega)
  have t4 : (k == 0) = false := by rw [beq_eq_false_iff_ne]; omega
  have HLW := hid h
  clear h hk hf h0 hw1
  go_enter Tryz.func15, Tryz.ntmps15
  go_upto_region 1 with fail
  generalize (((w.alloc (.cells (bunC p A k c) 29)).alloc (.cells (BV.c x) 38)).alloc (.cells #[.int .u64 0, .int .i64 0, .int .i64 0, .string ⟨#[]⟩, .int .u64 0, .int .u64 0, .int .i64 0, .string ⟨#[]⟩, .int .u64 0, .int .u64 0, .int .i64 0, .string ⟨#[]⟩, .int .u64 0, .int .u64 0, .int .u64 0, .int .u64 0, .int .u64 0, .int .u64 0, .int .u64 0, .slice none 0 0] 29)) = V at *
  have b19 : ∀ e : Later V, e.x.cell? ⟨w.heap.size, 19, none⟩ = some (.slice A k c) := HB0.out.cellL 19 rfl
  obtain ⟨e, he⟩ := Later.self V
  rw [he]
  clear he
  go_upto_region 4 with fail
  clear b19
  have HVS : Hid (w.heap.size + 3 ≤ V.heap.size) := hid (Nat.succ_le_of_lt HB2.out.lt)
  have HS : Hid (∀ W, Mod [(w.heap.size + 1 + 1)] V W → W.cell? ⟨w.heap.size, 19, none⟩ = some (.slice A k c)) := hid (fun W hW => (HB0.out.mod hW (by simp; omega)).cell 19)
  have HRow : Hid (∀ W, Mod [(w.heap.size + 1 + 1)] V W → Blk W w.heap.size 29 (bunC p A k c)) := hid (fun W hW => HB0.out.mod hW (by simp; omega))
  have HRx : Hid (∀ W, Mod [(w.heap.size + 1 + 1)] V W → Blk W (w.heap.size + 1) 38 (BV.c x)) := hid (fun W hW => HB1.out.mod hW (by simp))
  have HLL : Hid (∀ W, Mod [(w.heap.size + 1 + 1)] V W → BsL W A k bs) := hid (fun W hW hn => by
    obtain ⟨bb, oo, hA, hbl, hcc⟩ := HL.out hn
    obtain ⟨b2, o2, hA2, hb2, _⟩ := HLW.out hn
    have e1 : bb = b2 := by rw [hA] at hA2; cases hA2; rfl
    exact ⟨bb, oo, hA, Nat.lt_of_lt_of_le hbl hW.size, fun j hj => (hcc j hj).mod hW hbl (by simp; omega)⟩)
  refine wp_region_held_drew (S := fun w' => Mod [(w.heap.size + 1 + 1)] V w' ∧ ∃ cs : Array Value, Blk w' (w.heap.size + 1 + 1) 29 cs ∧ cs.size = 20) (by kernel_rfl) ⟨((Later.h e).of_ext).drew, #[.int .u64 0, .int .i64 0, .int .i64 0, .string ⟨#[]⟩, .int .u64 0, .int .u64 0, .int .i64 0, .string ⟨#[]⟩, .int .u64 0, .int .u64 0, .int .i64 0, .string ⟨#[]⟩, .int .u64 0, .int .u64 0, .int .u64 0, .int .u64 0, .int .u64 0, .int .u64 0, .int .u64 0, .slice none 0 0], (HB2.out.later e).drew, rfl⟩ (fun hHeld => ?_)
  refine wpAnyH_take (i := 0) rfl (by kernel_rfl) (by kernel_rfl) (by kernel_rfl) (fun _ _ _ h => h) (yieldsIf_row (by rfl) 29 _ rfl _ rfl (fun W h => HRow.out W h.1) Tryz.underlying29 rfl (by kernel_rfl)) hHeld ?_
  (try simp only [Act.put, List.setIfInBounds_toArray, List.set_cons_zero, List.set_cons_succ])
  refine' wpAnyH_take (i := 1) (v := _) rfl (by kernel_rfl) (by kernel_rfl) (by kernel_rfl) (fun _ _ _ h => h) (Or.inl ⟨by rfl, ?hy⟩) hHeld ?rest
  case hy => (rintro W ⟨hM, _⟩; go_simp; (try with_reducible rfl))
  case rest =>
  (try simp only [Act.put, List.setIfInBounds_toArray, List.set_cons_zero, List.set_cons_succ])
  refine' wpAnyH_take (i := 2) (v := _) rfl (by kernel_rfl) (by kernel_rfl) (by kernel_rfl) (fun _ _ _ h => h) (Or.inl ⟨by rfl, ?hy⟩) hHeld ?rest
  case hy => (rintro W ⟨hM, _⟩; have x1 := HS.out W hM; go_simp; (try with_reducible rfl))
  case rest =>
  (try simp only [Act.put, List.setIfInBounds_toArray, List.set_cons_zero, List.set_cons_succ])
  refine' wpAnyH_take (i := 4) (v := _) rfl (by kernel_rfl) (by kernel_rfl) (by kernel_rfl) (fun _ _ _ h => h) (Or.inl ⟨by rfl, ?hy⟩) hHeld ?rest
  case hy => (rintro W ⟨hM, _⟩; go_simp; (try with_reducible rfl))
  case rest =>
  (try simp only [Act.put, List.setIfInBounds_toArray, List.set_cons_zero, List.set_cons_succ])
  refine' wpAnyH_take (i := 5) (v := _) rfl (by kernel_rfl) (by kernel_rfl) (by kernel_rfl) (fun _ _ _ h => h) (Or.inl ⟨by rfl, ?hy⟩) hHeld ?rest
  case hy => (rintro W ⟨hM, _⟩; go_simp; (try with_reducible rfl))
  case rest =>
  (try simp only [Act.put, List.setIfInBounds_toArray, List.set_cons_zero, List.set_cons_succ])
  refine wpAnyH_take (i := 6) rfl (by kernel_rfl) (by kernel_rfl) (by kernel_rfl) (fun _ _ _ h => h) (yieldsIf_row (by rfl) 38 _ rfl _ rfl (fun W h => HRx.out W h.1) Tryz.underlying38 rfl (by kernel_rfl)) hHeld ?_
  (try simp only [Act.put, List.setIfInBounds_toArray, List.set_cons_zero, List.set_cons_succ])
  refine wpAnyH_ready (rs := [3, 7]) (by kernel_rfl) (by simp) ?_
  refine AllReadyH.cons rfl (fun K hK => ?_) (AllReadyH.cons rfl (fun K hK => ?_) AllReadyH.nil)
  · go_simp
    (go_at_call 37; refine (KC.out _ (HLL.out _ hHeld.1)).mono ?_; rintro y w1 ⟨g, c1, rfl, hb3, ho1⟩; have HO1 := hid ho1; have HN1 := hid hHeld.1.size)
    refine hK.out _ _ ⟨hHeld.1.trans (Mod.of_ext hb3), let ⟨cs, hb, hc⟩ := hHeld.2; ⟨cs, hb.ext hb3, hc⟩⟩ (fun hHeld => ?_)
    clear hK K
    (try simp only [Act.put, List.setIfInBounds_toArray, List.set_cons_zero, List.set_cons_succ])
    refine wpAnyH_ready (rs := [7]) (by kernel_rfl) (by simp) ?_
    refine AllReadyH.cons rfl (fun K hK => ?_) AllReadyH.nil
    go_simp
    refine hK.out _ _ ⟨hHeld.1.alloc _, let ⟨cs, hb, hc⟩ := hHeld.2; ⟨cs, hb.alloc _, hc⟩⟩ (fun hHeld => ?_)
    clear hK K
    (try simp only [Act.put, List.setIfInBounds_toArray, List.set_cons_zero, List.set_cons_succ])
    have HVB : Hid (Blk (w1.alloc (.cells (BV.c x) 38)) w1.heap.size 38 (BV.c x)) := hid (Blk.new _ _ _)
    have HOA := hid (HO1.out.alloc (.cells (BV.c x) 38))
    have HNE : Hid (w1.heap.size ≠ g) := hid (by have := (HO1.out.lt g rfl).2; omega)
    have HBW := hid (show _ ≤ (w1.alloc (.cells (BV.c x) 38)).heap.size from Nat.le_trans (HO1.out.lt g rfl).1 (Nat.le_of_lt (Nat.lt_trans (HO1.out.lt g rfl).2 (by simp))))
    have HGV : Hid (V.heap.size ≤ g) := hid (Nat.le_trans HN1.out (HO1.out.lt g rfl).1)
    have HBV := HN1
    refine wpAnyH_ready (rs := [8]) (by kernel_rfl) (by simp) ?_
    refine AllReadyH.cons rfl (fun K hK => ?_) AllReadyH.nil
    go_simp
    (go_at_call 36; refine (KI.out _ _ g c1 w1.heap.size HOA.out HVB.out HNE.out HBW.out).mono ?_; rintro y w3 ⟨g2, c2, rfl, hm2, ho2⟩; have HO2 := hid ho2)
    refine hK.out _ _ ⟨modg hHeld.1 hm2 HGV.out, let ⟨cs, hb, hc⟩ := hHeld.2; ⟨cs, hb.mod hm2 (by have := HGV.out; have := HVS.out; simp; omega), hc⟩⟩ (fun hHeld => ?_)
    clear hK K
    (try simp only [Act.put, List.setIfInBounds_toArray, List.set_cons_zero, List.set_cons_succ])
    refine wpAnyH_ready (rs := [9]) (by kernel_rfl) (by simp) ?_
    refine AllReadyH.cons rfl (fun K hK => ?_) AllReadyH.nil
    go_simp
    (go_at_call 35; refine (KK.out _ (some ⟨g2, 0, none⟩) c2 (own_BsL HO2.out) (fun kk o' hA => by cases hA; exact (HO2.out.lt _ rfl).2)).mono ?_; rintro y w4 ⟨rfl, hb3⟩; obtain ⟨zc, r0, hz, hz1, hz2, hz3⟩ := chk_cells p (some ⟨g2, 0, none⟩) (k + 1) c2 (bunRight p (insB bs (k - 1) x) (k + 1)); rw [hz]; have HZ := hid hz; have HZ1 := hid hz1; have HZ2 := hid hz2; have HZ3 := hid hz3; have HM3 := hid hb3; clear hz hz1 hz2 hz3)
    refine hK.out _ _ ⟨hHeld.1.trans (Mod.of_ext hb3), let ⟨cs, hb, hc⟩ := hHeld.2; ⟨cs, hb.ext hb3, hc⟩⟩ (fun hHeld => ?_)
    clear hK K
    (try simp only [Act.put, List.setIfInBounds_toArray, List.set_cons_zero, List.set_cons_succ])
    refine' wpAnyH_take (i := 10) (v := _) rfl (by kernel_rfl) (by kernel_rfl) (by kernel_rfl) (fun _ _ _ h => h) (Or.inl ⟨by rfl, ?hy⟩) hHeld ?rest
    case hy => (rintro W ⟨hM, _⟩; go_simp; (try with_reducible rfl))
    case rest =>
    (try simp only [Act.put, List.setIfInBounds_toArray, List.set_cons_zero, List.set_cons_succ])
    refine' wpAnyH_take (i := 11) (v := _) rfl (by kernel_rfl) (by kernel_rfl) (by kernel_rfl) (fun _ _ _ h => h) (Or.inl ⟨by rfl, ?hy⟩) hHeld ?rest
    case hy => (rintro W ⟨hM, _⟩; go_simp; (try with_reducible rfl))
    case rest =>
    (try simp only [Act.put, List.setIfInBounds_toArray, List.set_cons_zero, List.set_cons_succ])
    refine wpAnyH_ready (rs := [12]) (by kernel_rfl) (by simp) ?_
    refine AllReadyH.cons rfl (fun K hK => ?_) AllReadyH.nil
    obtain ⟨cs0, hb0, hc0⟩ := hHeld.2
    refine wp_store_mid 29 _ _ rfl (w.heap.size + 1 + 1) 0 zc (by rfl) (by rfl) (hb0.there (by rw [HZ3.out, hc0]; exact Nat.le_refl _)) HZ1.out HZ2.out ?_
    have hZB := setCells_all (ds := zc) hb0 (by rw [Array.length_toList, HZ3.out, hc0])
    have hZM := setCells_mod (b := (w.heap.size + 1 + 1)) zc.toList 0 hHeld.1 (.inl (by simp))
    generalize hZ : World.setCells w4 (w.heap.size + 1 + 1) 0 zc.toList = Z at *
    have HZM3 : Hid (Mod [(w.heap.size + 1 + 1)] w4 Z) := hid (by rw [← hZ]; exact setCells_mod _ _ (Mod.refl _ _) (.inl (by simp)))
    clear hZ
    refine hK.out _ _ ⟨hZM, zc, hZB, HZ3.out⟩ (fun hHeld => ?_)
    clear hK K
    (try simp only [Act.put, List.setIfInBounds_toArray, List.set_cons_zero, List.set_cons_succ])
    refine wpAnyH_ready (rs := [13]) (by kernel_rfl) (by simp) ?_
    refine AllReadyH.cons rfl (fun K hK => ?_) AllReadyH.nil
    go_simp
    refine hK.out _ _ hHeld (fun hHeld => ?_)
    clear hK K
    (try simp only [Act.put, List.setIfInBounds_toArray, List.set_cons_zero, List.set_cons_succ])
    refine wpAnyH_done (by kernel_rfl) ?_ _
    go_wp2_with fail
    refine bodyPost_ret (v := .tuple #[.agg zc, .int .i64 r0]) (results_cell2 Tryz.results15 _ rfl rfl hZB Tryz.underlying29 rfl (by rw [HZ1.out])) rfl ?_
    obtain ⟨A9, c9, hA9, hsa⟩ := own_slA HO2.out
    simp only [Value.slice.injEq, true_and] at hA9
    obtain ⟨rfl, rfl⟩ := hA9
    refine ⟨some ⟨g2, 0, none⟩, c2, by rw [HZ.out], (HE.out.of_ext.trans hZM).new (fun kk hkk => .inr (by simp at hkk; omega)), ?_, hsa⟩
    intro hn
    obtain ⟨bb, oo, hA, hbl, hcc⟩ := (own_BsL HO2.out).ext HM3.out hn
    have hbb : bb = g2 := by cases hA; rfl
    have hg2 : V.heap.size ≤ g2 := Nat.le_trans HBV.out (HO2.out.lt g2 rfl).1
    exact ⟨bb, oo, hA, Nat.lt_of_lt_of_le hbl HZM3.out.size, fun j hj => (hcc j hj).mod HZM3.out hbl (by have := HVS.out; simp; omega)⟩
  · have hVB0 := hid (Blk.new e.x.drew 38 (BV.c x))
    go_simp
    refine hK.out _ _ ⟨hHeld.1.alloc _, let ⟨cs, hb, hc⟩ := hHeld.2; ⟨cs, hb.alloc _, hc⟩⟩ (fun hHeld => ?_)
    clear hK K
    (try simp only [Act.put, List.setIfInBounds_toArray, List.set_cons_zero, List.set_cons_succ])
    refine wpAnyH_ready (rs := [3]) (by kernel_rfl) (by simp) ?_
    refine AllReadyH.cons rfl (fun K hK => ?_) AllReadyH.nil
    go_simp
    (go_at_call 37; refine (KC.out _ (HLL.out _ hHeld.1)).mono ?_; rintro y w1 ⟨g, c1, rfl, hb3, ho1⟩; have HO1 := hid ho1; have HM1 := hid hb3; have HN1 := hid hHeld.1.size)
    refine hK.out _ _ ⟨hHeld.1.trans (Mod.of_ext hb3), let ⟨cs, hb, hc⟩ := hHeld.2; ⟨cs, hb.ext hb3, hc⟩⟩ (fun hHeld => ?_)
    clear hK K
    (try simp only [Act.put, List.setIfInBounds_toArray, List.set_cons_zero, List.set_cons_succ])
    have HVB : Hid (Blk w1 e.x.heap.size 38 (BV.c x)) := hid (hVB0.out.ext HM1.out)
    have HOA := HO1
    have HNE : Hid (e.x.heap.size ≠ g) := hid (by have := (HO1.out.lt g rfl).1; simp at this; omega)
    have HBW := hid HM1.out.size
    have HGV : Hid (V.heap.size ≤ g) := hid (Nat.le_trans HN1.out (HO1.out.lt g rfl).1)
    have HBV := HN1
    refine wpAnyH_ready (rs := [8]) (by kernel_rfl) (by simp) ?_
    refine AllReadyH.cons rfl (fun K hK => ?_) AllReadyH.nil
    go_simp
    (go_at_call 36; refine (KI.out _ _ g c1 e.x.heap.size HOA.out HVB.out HNE.out HBW.out).mono ?_; rintro y w3 ⟨g2, c2, rfl, hm2, ho2⟩; have HO2 := hid ho2)
    refine hK.out _ _ ⟨modg hHeld.1 hm2 HGV.out, let ⟨cs, hb, hc⟩ := hHeld.2; ⟨cs, hb.mod hm2 (by have := HGV.out; have := HVS.out; simp; omega), hc⟩⟩ (fun hHeld => ?_)
    clear hK K
    (try simp only [Act.put, List.setIfInBounds_toArray, List.set_cons_zero, List.set_cons_succ])
    refine wpAnyH_ready (rs := [9]) (by kernel_rfl) (by simp) ?_
    refine AllReadyH.cons rfl (fun K hK => ?_) AllReadyH.nil
    go_simp
    (go_at_call 35; refine (KK.out _ (some ⟨g2, 0, none⟩) c2 (own_BsL HO2.out) (fun kk o' hA => by cases hA; exact (HO2.out.lt _ rfl).2)).mono ?_; rintro y w4 ⟨rfl, hb3⟩; obtain ⟨zc, r0, hz, hz1, hz2, hz3⟩ := chk_cells p (some ⟨g2, 0, none⟩) (k + 1) c2 (bunRight p (insB bs (k - 1) x) (k + 1)); rw [hz]; have HZ := hid hz; have HZ1 := hid hz1; have HZ2 := hid hz2; have HZ3 := hid hz3; have HM3 := hid hb3; clear hz hz1 hz2 hz3)
    refine hK.out _ _ ⟨hHeld.1.trans (Mod.of_ext hb3), let ⟨cs, hb, hc⟩ := hHeld.2; ⟨cs, hb.ext hb3, hc⟩⟩ (fun hHeld => ?_)
    clear hK K
    (try simp only [Act.put, List.setIfInBounds_toArray, List.set_cons_zero, List.set_cons_succ])
    refine' wpAnyH_take (i := 10) (v := _) rfl (by kernel_rfl) (by kernel_rfl) (by kernel_rfl) (fun _ _ _ h => h) (Or.inl ⟨by rfl, ?hy⟩) hHeld ?rest
    case hy => (rintro W ⟨hM, _⟩; go_simp; (try with_reducible rfl))
    case rest =>
    (try simp only [Act.put, List.setIfInBounds_toArray, List.set_cons_zero, List.set_cons_succ])
    refine' wpAnyH_take (i := 11) (v := _) rfl (by kernel_rfl) (by kernel_rfl) (by kernel_rfl) (fun _ _ _ h => h) (Or.inl ⟨by rfl, ?hy⟩) hHeld ?rest
    case hy => (rintro W ⟨hM, _⟩; go_simp; (try with_reducible rfl))
    case rest =>
    (try simp only [Act.put, List.setIfInBounds_toArray, List.set_cons_zero, List.set_cons_succ])
    refine wpAnyH_ready (rs := [12]) (by kernel_rfl) (by simp) ?_
    refine AllReadyH.cons rfl (fun K hK => ?_) AllReadyH.nil
    obtain ⟨cs0, hb0, hc0⟩ := hHeld.2
    refine wp_store_mid 29 _ _ rfl (w.heap.size + 1 + 1) 0 zc (by rfl) (by rfl) (hb0.there (by rw [HZ3.out, hc0]; exact Nat.le_refl _)) HZ1.out HZ2.out ?_
    have hZB := setCells_all (ds := zc) hb0 (by rw [Array.length_toList, HZ3.out, hc0])
    have hZM := setCells_mod (b := (w.heap.size + 1 + 1)) zc.toList 0 hHeld.1 (.inl (by simp))
    generalize hZ : World.setCells w4 (w.heap.size + 1 + 1) 0 zc.toList = Z at *
    have HZM3 : Hid (Mod [(w.heap.size + 1 + 1)] w4 Z) := hid (by rw [← hZ]; exact setCells_mod _ _ (Mod.refl _ _) (.inl (by simp)))
    clear hZ
    refine hK.out _ _ ⟨hZM, zc, hZB, HZ3.out⟩ (fun hHeld => ?_)
    clear hK K
    (try simp only [Act.put, List.setIfInBounds_toArray, List.set_cons_zero, List.set_cons_succ])
    refine wpAnyH_ready (rs := [13]) (by kernel_rfl) (by simp) ?_
    refine AllReadyH.cons rfl (fun K hK => ?_) AllReadyH.nil
    go_simp
    refine hK.out _ _ hHeld (fun hHeld => ?_)
    clear hK K
    (try simp only [Act.put, List.setIfInBounds_toArray, List.set_cons_zero, List.set_cons_succ])
    refine wpAnyH_done (by kernel_rfl) ?_ _
    go_wp2_with fail
    refine bodyPost_ret (v := .tuple #[.agg zc, .int .i64 r0]) (results_cell2 Tryz.results15 _ rfl rfl hZB Tryz.underlying29 rfl (by rw [HZ1.out])) rfl ?_
    obtain ⟨A9, c9, hA9, hsa⟩ := own_slA HO2.out
    simp only [Value.slice.injEq, true_and] at hA9
    obtain ⟨rfl, rfl⟩ := hA9
    refine ⟨some ⟨g2, 0, none⟩, c2, by rw [HZ.out], (HE.out.of_ext.trans hZM).new (fun kk hkk => .inr (by simp at hkk; omega)), ?_, hsa⟩
    intro hn
    obtain ⟨bb, oo, hA, hbl, hcc⟩ := (own_BsL HO2.out).ext HM3.out hn
    have hbb : bb = g2 := by cases hA; rfl
    have hg2 : V.heap.size ≤ g2 := Nat.le_trans HBV.out (HO2.out.lt g2 rfl).1
    exact ⟨bb, oo, hA, Nat.lt_of_lt_of_le hbl HZM3.out.size, fun j hj => (hcc j hj).mod HZM3.out hbl (by have := HVS.out; simp; omega)⟩
end Go.Proofs.YtcajjhmldghakaaGreat


namespace Go.Proofs.YtcajjhmldghakaaGreat
open Go.RowKit
set_option linter.unusedVariables false
set_option linter.unusedSimpArgs false

set_option maxRecDepth 20000 in
set_option maxHeartbeats 4000000 in
theorem Same_eq (p : PV) (bs bs' : Nat → BV) (k c c' : Nat) (A A' : Option Addr) (hk : k < 4611686018427387904) (he : ∀ j, j < k → bs j = bs' j) (w : World) (h : BsL w A k bs) (h' : BsL w A' k bs') : Calls Tryz.prog 19 #[bunV p A k c, bunV p A' k c'] w (Ret (.bool true) w) := by
  have HE := hid (((Mod.refl [] w).alloc (.cells (bunC p A k c) 29)).alloc (.cells (bunC p A' k c') 29))
  have HB0 : Hid (Blk ((w.alloc (.cells (bunC p A k c) 29)).alloc (.cells (bunC p A' k c') 29)) w.heap.size 29 (bunC p A k c)) := hid ((Blk.new w 29 (bunC p A k c)).alloc (.cells (bunC p A' k c') 29))
  have HB1 : Hid (Blk ((w.alloc (.cells (bunC p A k c) 29)).alloc (.cells (bunC p A' k c') 29)) (w.heap.size + 1) 29 (bunC p A' k c')) := by unfold Hid; exact Blk.newL _ _ _ (by simp)
  have HL := hid (BsL.ext h HE.out)
  have HL' := hid (BsL.ext h' HE.out)
  have HQ := hid he
  have k1 : (k : Int) < 4611686018427387904 := by omega
  clear h h' he hk
  go_enter Tryz.func19, Tryz.ntmps19
  go_upto_region 1 with fail
  generalize ((w.alloc (.cells (bunC p A k c) 29)).alloc (.cells (bunC p A' k c') 29)) = V at *
  have HP0 : Hid (∀ e : Later V, e.x.rangeAt w.heap.size 0 p.c.toList) := HB0.out.range 0 19 (by rw [Array.toList_extract]; rfl)
  have HP1 : Hid (∀ e : Later V, e.x.rangeAt (w.heap.size + 1) 0 p.c.toList) := HB1.out.range 0 19 (by rw [Array.toList_extract]; rfl)
  have b19 : ∀ e : Later V, e.x.cell? ⟨w.heap.size, 19, none⟩ = some (.slice A k c) := HB0.out.cellL 19 rfl
  have b20 : ∀ e : Later V, e.x.cell? ⟨w.heap.size + 1, 19, none⟩ = some (.slice A' k c') := HB1.out.cellL 19 rfl
  obtain ⟨e, he⟩ := Later.self V
  rw [he]
  clear he
  go_upto_region 4 with (first | (refine wpList_mid (by rfl) 26 _ rfl _ 0 rfl _ _ (HP0.out _) Tryz.underlying26 rfl (by kernel_rfl) ?_) | (refine wpList_mid (by rfl) 26 _ rfl _ 0 rfl _ _ (HP1.out _) Tryz.underlying26 rfl (by kernel_rfl) ?_))
  go_loopw [5] (fun s5 wr => ∃ i : Nat, s5 = .int .i64 (i : Int) ∧ Hid (i ≤ k) ∧ ∃ e : Later V, wr = e.x) (fun s5 _ => k - (intOf s5).toNat)
  case atStart => exact ⟨0, rfl, (show Hid _ from Nat.zero_le _), e, rfl⟩
  case round =>
    clear e
    obtain ⟨i, rfl, hi, e, rfl⟩ := hrel
    have i0 : (0 : Int) ≤ (i : Int) := by omega
    by_cases hlt : i < k
    · obtain ⟨b, o, rfl, hb, q0, q1, q2, q3, q4⟩ := HL.out.cells hlt
      obtain ⟨b', o', rfl, hb', u0, u1, u2, u3, u4⟩ := HL'.out.cells hlt
      rw [← HQ.out i hlt] at u0 u1 u2 u3 u4
      have tc : decide (i < k) = true := by simp [hlt]
      have i1 : (i : Int) < (k : Int) := by omega
      have HLT := hid hlt
      clear hlt hb hb'
      generalize bs i = X at *
      go_upto_region 6 with fail
      refine wp_region_later (by kernel_rfl) (by kernel_rfl) ?_
      repeat (first | go_big_quiet_step (fail))
      refine wpQuiet_nil ?_
      rintro _ ⟨e, rfl⟩
      go_wp2_with fail
      go_roundw
      case rel => exact ⟨i + 1, by go_num, (show Hid _ from HLT.out), e, rfl⟩
      case measure => have := HLT.out; simp [intOf]; omega
    · obtain rfl : i = k := by have := hi.out; omega
      have tc : decide (i < i) = false := by simp
      go_wp2_with fail
      go_ret
      exact Ret.mk rfl (HE.out.trans e.h)
end Go.Proofs.YtcajjhmldghakaaGreat


namespace Go.Proofs.YtcajjhmldghakaaGreat
open Go.RowKit
set_option linter.unusedVariables false
set_option linter.unusedSimpArgs false

def someP : PV := ⟨0, 0, ⟨2, [], 2, 0⟩, ⟨2, [], 1, 0⟩, ⟨1, [110, 111, 110, 101], 0, 0⟩, 5, 0, 100, 0, 0⟩
def someB : Nat → BV := fun _ => ⟨1, 1, 0, 0, [104, 105]⟩
/-- A bundle's value whose one block lies in a new memory block. -/
def SomeR (w : World) (e : Ending) (w' : World) : Prop := ∃ g, e = .returned (bunV someP (some ⟨g, 0, none⟩) 1 1) ∧ Ext w w' ∧ BsL w' (some ⟨g, 0, none⟩) 1 someB
/-- .. and what is known of that block. -/
def SomeN (w : World) (e : Ending) (w' : World) : Prop := ∃ g, e = .returned (bunV someP (some ⟨g, 0, none⟩) 1 1) ∧ Ext w w' ∧ BsL w' (some ⟨g, 0, none⟩) 1 someB ∧ w.heap.size ≤ g ∧ Blk w' g 38 (BV.c (someB 0))
set_option maxRecDepth 20000 in
theorem some_new (w : World) : Calls Tryz.prog 24 #[] w (SomeN w) := by
  have HE := hid ((Mod.refl [] w).alloc (.cells #[.int .u64 0, .int .i64 0, .int .i64 0, .string ⟨#[]⟩, .int .u64 0, .int .u64 0, .int .i64 0, .string ⟨#[]⟩, .int .u64 0, .int .u64 0, .int .i64 0, .string ⟨#[]⟩, .int .u64 0, .int .u64 0, .int .u64 0, .int .u64 0, .int .u64 0, .int .u64 0, .int .u64 0, .slice none 0 0] 29))
  have HR := hid (Blk.new w 29 #[.int .u64 0, .int .i64 0, .int .i64 0, .string ⟨#[]⟩, .int .u64 0, .int .u64 0, .int .i64 0, .string ⟨#[]⟩, .int .u64 0, .int .u64 0, .int .i64 0, .string ⟨#[]⟩, .int .u64 0, .int .u64 0, .int .u64 0, .int .u64 0, .int .u64 0, .int .u64 0, .int .u64 0, .slice none 0 0])
  go_enter Tryz.func24, Tryz.ntmps24
  go_upto_region 1 with fail
  generalize w.alloc (.cells #[.int .u64 0, .int .i64 0, .int .i64 0, .string ⟨#[]⟩, .int .u64 0, .int .u64 0, .int .i64 0, .string ⟨#[]⟩, .int .u64 0, .int .u64 0, .int .i64 0, .string ⟨#[]⟩, .int .u64 0, .int .u64 0, .int .u64 0, .int .u64 0, .int .u64 0, .int .u64 0, .int .u64 0, .slice none 0 0] 29) = V at *
  go_upto_region 2 with (refine wpList_store_mid rfl 26 _ _ rfl V.heap.size 0 #[.int .u64 0, .int .i64 0, .int .i64 2, str [], .int .u64 2, .int .u64 0, .int .i64 2, str [], .int .u64 1, .int .u64 0, .int .i64 1, str [110, 111, 110, 101], .int .u64 0, .int .u64 0, .int .u64 5, .int .u64 0, .int .u64 100, .int .u64 0, .int .u64 0] (by rfl) (by rfl) ((Blk.new _ _ _).there (Nat.le_refl 19)) (by kernel_rfl) (by simp [Value.oneCell']) ?_)
  generalize hU : World.setCells _ _ _ _ = U
  have HX : Hid (Blk U V.heap.size 26 #[.int .u64 0, .int .i64 0, .int .i64 2, str [], .int .u64 2, .int .u64 0, .int .i64 2, str [], .int .u64 1, .int .u64 0, .int .i64 1, str [110, 111, 110, 101], .int .u64 0, .int .u64 0, .int .u64 5, .int .u64 0, .int .u64 100, .int .u64 0, .int .u64 0]) := hid (by rw [← hU]; exact setCells_all (ds := #[.int .u64 0, .int .i64 0, .int .i64 2, str [], .int .u64 2, .int .u64 0, .int .i64 2, str [], .int .u64 1, .int .u64 0, .int .i64 1, str [110, 111, 110, 101], .int .u64 0, .int .u64 0, .int .u64 5, .int .u64 0, .int .u64 100, .int .u64 0, .int .u64 0]) (Blk.new _ _ _) rfl)
  have HM : Hid (Ext V U) := hid (by rw [← hU]; exact setCells_mod _ _ ((Mod.refl [] V).alloc _) (.inr (Nat.le_refl _)))
  have HRU := hid (HR.out.ext HM.out)
  clear hU
  generalize V.heap.size = vs at *
  go_wp2_with (first | (refine wpList_row (by rfl) 26 _ rfl _ rfl HX.out Tryz.underlying26 rfl (by kernel_rfl) ?_) | (refine wpList_store_mid rfl 29 _ _ rfl w.heap.size 0 #[.int .u64 0, .int .i64 0, .int .i64 2, str [], .int .u64 2, .int .u64 0, .int .i64 2, str [], .int .u64 1, .int .u64 0, .int .i64 1, str [110, 111, 110, 101], .int .u64 0, .int .u64 0, .int .u64 5, .int .u64 0, .int .u64 100, .int .u64 0, .int .u64 0, .slice (some ⟨U.heap.size, 0, none⟩) 1 1] (by rfl) (by rfl) ((HRU.out.alloc _).there (Nat.le_refl 20)) (by kernel_rfl) (by simp [Value.oneCell']) ?_))
  generalize hW2 : World.setCells _ _ _ _ = W2
  have HXX : Hid (Blk W2 w.heap.size 29 #[.int .u64 0, .int .i64 0, .int .i64 2, str [], .int .u64 2, .int .u64 0, .int .i64 2, str [], .int .u64 1, .int .u64 0, .int .i64 1, str [110, 111, 110, 101], .int .u64 0, .int .u64 0, .int .u64 5, .int .u64 0, .int .u64 100, .int .u64 0, .int .u64 0, .slice (some ⟨U.heap.size, 0, none⟩) 1 1]) := hid (by rw [← hW2]; exact setCells_all (ds := #[.int .u64 0, .int .i64 0, .int .i64 2, str [], .int .u64 2, .int .u64 0, .int .i64 2, str [], .int .u64 1, .int .u64 0, .int .i64 1, str [110, 111, 110, 101], .int .u64 0, .int .u64 0, .int .u64 5, .int .u64 0, .int .u64 100, .int .u64 0, .int .u64 0, .slice (some ⟨U.heap.size, 0, none⟩) 1 1]) (HRU.out.alloc _) rfl)
  have HM2 : Hid (Ext w W2) := hid (by rw [← hW2]; exact setCells_mod _ _ ((HE.out.trans HM.out).alloc _) (.inr (Nat.le_refl _)))
  have HNB : Hid (Mod [w.heap.size] (U.alloc (.cells #[.int .i64 1, .int .i64 1, .int .u64 0, .int .i64 0, .string ⟨#[104, 105]⟩] 38)) W2) := hid (by rw [← hW2]; exact setCells_mod _ _ (Mod.refl _ _) (.inl (by simp)))
  have HNE : Hid (U.heap.size ≠ w.heap.size) := hid (by have := HRU.out.lt; omega)
  have HBX := hid (Blk.new U 38 #[.int .i64 1, .int .i64 1, .int .u64 0, .int .i64 0, .string ⟨#[104, 105]⟩])
  clear hW2
  refine bodyPost_ret (v := .agg #[.int .u64 0, .int .i64 0, .int .i64 2, str [], .int .u64 2, .int .u64 0, .int .i64 2, str [], .int .u64 1, .int .u64 0, .int .i64 1, str [110, 111, 110, 101], .int .u64 0, .int .u64 0, .int .u64 5, .int .u64 0, .int .u64 100, .int .u64 0, .int .u64 0, .slice (some ⟨U.heap.size, 0, none⟩) 1 1]) (results_cell Tryz.results24 _ rfl HXX.out Tryz.underlying29 rfl (by kernel_rfl)) rfl ?_
  have HB2 := HBX.out.mod HNB.out (by simpa using HNE.out)
  refine ⟨U.heap.size, rfl, HM2.out, fun _ => ⟨U.heap.size, 0, rfl, HB2.lt, fun i hi => ?_⟩, (HE.out.trans HM.out).size, HB2⟩
  obtain rfl : i = 0 := by omega
  exact ⟨HB2.cell 0, HB2.cell 1, HB2.cell 2, HB2.cell 3, HB2.cell 4⟩
theorem some_any (w : World) : Calls Tryz.prog 24 #[] w (SomeR w) := (some_new w).mono fun _ _ ⟨g, h1, h2, h3, _⟩ => ⟨g, h1, h2, h3⟩
end Go.Proofs.YtcajjhmldghakaaGreat


namespace Go.Proofs.YtcajjhmldghakaaGreat
open Go.RowKit
set_option linter.unusedVariables false
set_option linter.unusedSimpArgs false

/-- How many of the first k blocks have a number of n or more. -/
def cntGe (bs : Nat → BV) (n : Int) : Nat → Nat
  | 0 => 0
  | k + 1 => cntGe bs n k + (if n ≤ (bs k).num then 1 else 0)
theorem cntGe_le (bs : Nat → BV) (n : Int) : ∀ k, cntGe bs n k ≤ k
  | 0 => Nat.le_refl _
  | k + 1 => by have := cntGe_le bs n k; rw [cntGe]; split <;> omega
theorem cntGe_mono (bs : Nat → BV) (n : Int) : ∀ k, cntGe bs (n + 1) k ≤ cntGe bs n k
  | 0 => Nat.le_refl _
  | k + 1 => by
    have := cntGe_mono bs n k
    rw [cntGe, cntGe]
    split <;> split <;> omega
theorem cntGe_less {bs : Nat → BV} {n : Int} {i : Nat} : ∀ {k : Nat}, i < k → (bs i).num = n → cntGe bs (n + 1) k + 1 ≤ cntGe bs n k
  | k + 1, h, hn => by
    rw [cntGe, cntGe]
    by_cases e : i = k
    · subst e
      have := cntGe_mono bs n i
      rw [if_neg (by omega), if_pos (by omega)]
      omega
    · have := cntGe_less (k := k) (by omega) hn
      split <;> split <;> omega
def usedB (bs : Nat → BV) (k : Nat) (n : Nat) : Prop := ∃ i, firstOf (numB bs (n : Int)) k = some i
theorem free_ex (bs : Nat → BV) (k : Nat) : ∀ (m n : Nat), cntGe bs (n : Int) k ≤ m → ∃ N, n ≤ N ∧ N ≤ n + m ∧ firstOf (numB bs (N : Int)) k = none ∧ ∀ j, n ≤ j → j < N → usedB bs k j
  | m, n, h => by
    cases hf : firstOf (numB bs (n : Int)) k with
    | none => exact ⟨n, Nat.le_refl _, by omega, hf, fun j h1 h2 => by omega⟩
    | some i =>
      obtain ⟨h1, h2, _⟩ := firstOf_spec hf
      have hn : (bs i).num = (n : Int) := by simpa [numB, hasNum] using h2
      have hl := cntGe_less h1 hn
      obtain ⟨m', rfl⟩ : ∃ m', m = m' + 1 := ⟨m - 1, by omega⟩
      have h3 : cntGe bs ((n + 1 : Nat) : Int) k ≤ m' := by have : ((n + 1 : Nat) : Int) = (n : Int) + 1 := by omega
                                                            rw [this]; omega
      obtain ⟨N, a1, a2, a3, a4⟩ := free_ex bs k m' (n + 1) h3
      refine ⟨N, by omega, by omega, a3, fun j b1 b2 => ?_⟩
      by_cases e : j = n
      · subst e; exact ⟨i, hf⟩
      · exact a4 j (by omega) b2
/-- The least number that is free. -/
noncomputable def freeN (bs : Nat → BV) (k : Nat) : Nat := (free_ex bs k (cntGe bs ((2 : Nat) : Int) k) 2 (Nat.le_refl _)).choose
theorem freeN_spec (bs : Nat → BV) (k : Nat) : 2 ≤ freeN bs k ∧ freeN bs k ≤ 2 + k ∧ firstOf (numB bs (freeN bs k : Int)) k = none ∧ ∀ j, 2 ≤ j → j < freeN bs k → usedB bs k j := by
  obtain ⟨h1, h2, h3, h4⟩ := (free_ex bs k (cntGe bs ((2 : Nat) : Int) k) 2 (Nat.le_refl _)).choose_spec
  have := cntGe_le bs ((2 : Nat) : Int) k
  exact ⟨h1, Nat.le_trans h2 (by omega), h3, h4⟩
theorem freeN_eq {bs : Nat → BV} {k N : Nat} (h1 : 2 ≤ N) (h2 : firstOf (numB bs (N : Int)) k = none) (h3 : ∀ j, 2 ≤ j → j < N → usedB bs k j) : freeN bs k = N := by
  obtain ⟨g1, g2, g3, g4⟩ := freeN_spec bs k
  rcases Nat.lt_trichotomy (freeN bs k) N with hlt | he | hgt
  · obtain ⟨i, hi⟩ := h3 _ g1 hlt; rw [g3] at hi; cases hi
  · exact he
  · obtain ⟨i, hi⟩ := g4 _ h1 hgt; rw [h2] at hi; cases hi
set_option maxRecDepth 20000 in
set_option maxHeartbeats 800000 in
theorem Free_any (p : PV) (bs : Nat → BV) (k c : Nat) (A : Option Addr) (hk : k < 4611686018427387904) (w : World) (h : BsL w A k bs) : Calls Tryz.prog 14 #[bunV p A k c] w (Ret (.int .i64 (freeN bs k : Nat)) w) := by
  have HS := hid (freeN_spec bs k)
  have KA := hid (fun W n (hW : BsL W A k bs) => at_any p bs k c A n hk W hW)
  have n9 : ((freeN bs k : Nat) : Int) ≤ 4611686018427387910 := by have := HS.out.2.1; omega
  generalize freeN bs k = N at *
  have HE := hid ((Mod.refl [] w).alloc (.cells (bunC p A k c) 29))
  have HB0 : Hid (Blk (w.alloc (.cells (bunC p A k c) 29)) w.heap.size 29 (bunC p A k c)) := hid (Blk.new w 29 (bunC p A k c))
  have HL := hid (BsL.ext h HE.out)
  clear h hk
  go_enter Tryz.func14, Tryz.ntmps14
  go_upto_region 1 with fail
  generalize (w.alloc (.cells (bunC p A k c) 29)) = V at *
  obtain ⟨e, he⟩ := Later.self V
  rw [he]
  clear he
  go_upto_region 2 with fail
  go_loopw [3] (fun s3 wr => ∃ n : Nat, s3 = .int .i64 (n : Int) ∧ Hid (2 ≤ n ∧ n ≤ N) ∧ ∃ e : Later V, wr = e.x) (fun s3 _ => N - (intOf s3).toNat)
  case atStart => exact ⟨2, rfl, (show Hid _ from ⟨by omega, HS.out.1⟩), e, rfl⟩
  case round =>
    clear e
    obtain ⟨n, rfl, hn, e, rfl⟩ := hrel
    have n0 : (0 : Int) ≤ (n : Int) := by omega
    have n1 : (n : Int) ≤ (N : Int) := by have := hn.out; omega
    by_cases hlt : n < N
    · obtain ⟨i, hi⟩ := HS.out.2.2.2 n hn.out.1 hlt
      have KB := hid (fun W hW => KA.out W (n : Int) hW)
      unfold firstI at KB
      rw [hi] at KB
      have HLT := hid hlt
      have i0 : (0 : Int) ≤ (i : Int) := by omega
      have i1 : decide ((i : Int) < 0) = false := by simp
      have i2 : ((i : Int) < 0) = False := eq_false (by omega)
      have i3 : decide ((0 : Int) ≤ (i : Int)) = true := decide_eq_true (by omega)
      have n2 : (n : Int) < (N : Int) := by omega
      clear hi hlt KA
      go_wp2_with (first | (refine wpList_row (by rfl) 29 _ rfl _ rfl (HB0.out.later _) Tryz.underlying29 rfl (by kernel_rfl) ?_) | (go_at_call 34; refine (Ret.later (KB.out _ (HL.out.ext (Later.h _)))).mono ?_; rintro x _ ⟨rfl, e, rfl⟩))
      go_roundw
      case rel => exact ⟨n + 1, by go_num, (show Hid _ from ⟨by have := hn.out.1; omega, HLT.out⟩), e, rfl⟩
      case measure => have := HLT.out; simp [intOf]; omega
    · obtain rfl : n = N := by have := hn.out.2; omega
      have KB := hid (fun W hW => KA.out W (n : Int) hW)
      unfold firstI at KB
      rw [HS.out.2.2.1] at KB
      clear KA hlt
      go_wp2_with (first | (refine wpList_row (by rfl) 29 _ rfl _ rfl (HB0.out.later _) Tryz.underlying29 rfl (by kernel_rfl) ?_) | (go_at_call 34; refine (Ret.later (KB.out _ (HL.out.ext (Later.h _)))).mono ?_; rintro x _ ⟨rfl, e, rfl⟩))
      go_ret
      exact Ret.mk rfl (HE.out.trans e.h)
end Go.Proofs.YtcajjhmldghakaaGreat


namespace Go.Proofs.YtcajjhmldghakaaGreat
open Go.RowKit
set_option linter.unusedVariables false
set_option linter.unusedSimpArgs false

theorem firstOf_congr {p q : Nat → Bool} {k : Nat} (h : ∀ j, j < k → p j = q j) : firstOf p k = firstOf q k := by
  cases hf : firstOf p k with
  | none => exact (firstOf_none fun j hj => (h j hj).symm.trans (firstOf_no hf j hj)).symm
  | some i =>
    obtain ⟨h1, h2, h3⟩ := firstOf_spec hf
    exact (firstOf_some h1 ((h i h1).symm.trans h2) fun j hj => (h j (by omega)).symm.trans (h3 j hj)).symm
theorem cntB_congr {bs bs' : Nat → BV} (t : Int) : ∀ {k : Nat}, (∀ j, j < k → bs j = bs' j) → cntB bs t k = cntB bs' t k
  | 0, _ => rfl
  | k + 1, h => by rw [cntB, cntB, cntB_congr t fun j hj => h j (by omega), h k (by omega)]
theorem blksB_congr {bs bs' : Nat → BV} : ∀ {k : Nat}, (∀ j, j < k → bs j = bs' j) → blksB bs k = blksB bs' k
  | 0, _ => rfl
  | k + 1, h => by rw [blksB, blksB, blksB_congr fun j hj => h j (by omega), h k (by omega)]
theorem dupB_congr {bs bs' : Nat → BV} {k : Nat} (h : ∀ j, j < k → bs j = bs' j) : dupB bs k = dupB bs' k := by
  unfold dupB
  rw [firstOf_congr (q := dupAt bs') fun i hi => ?_]
  unfold dupAt
  rw [firstOf_congr (q := hasNumOf bs' i) fun j hj => ?_]
  unfold hasNumOf
  rw [h i hi, h j (by omega)]
theorem bunRight_congr {p : PV} {bs bs' : Nat → BV} {k : Nat} (h : ∀ j, j < k → bs j = bs' j) : bunRight p bs k = bunRight p bs' k := by
  have h1 : firstOf (badAt bs) k = firstOf (badAt bs') k := firstOf_congr fun j hj => by unfold badAt; rw [h j hj]
  have h2 : bunRule1 bs k = bunRule1 bs' k := by unfold bunRule1; rw [dupB_congr h, cntB_congr 1 h, cntB_congr 6 h, cntB_congr 7 h, cntB_congr 10 h]
  have h5 : bunBytes p bs k = bunBytes p bs' k := by unfold bunBytes; rw [blksB_congr h]
  unfold bunRight
  by_cases hp : p.right ≠ 0
  · rw [if_pos hp, if_pos hp]
  · rw [if_neg hp, if_neg hp, h1]
    cases hf : firstOf (badAt bs') k with
    | some i => dsimp only; rw [h i (firstOf_spec hf).1]
    | none =>
      dsimp only
      rw [h2, h5]
      by_cases hk : k = 0
      · subst hk
        have : bunRule1 bs' 0 = true := rfl
        rw [this]
        rfl
      · have h3 : bunRule2 p bs k = bunRule2 p bs' k := by unfold bunRule2; rw [h (k - 1) (by omega), cntB_congr 7 h]
        have h4 : bunRule3 p bs k = bunRule3 p bs' k := by unfold bunRule3; rw [h (k - 1) (by omega)]
        rw [h3, h4]
/-- Under a free number: found, and dropped again. -/
theorem ins_with (bs : Nat → BV) (k : Nat) (x : BV) (hk : 0 < k) : ∀ j, j < k + 1 → withB bs (k - 1) 0 1 (fun _ => x) j = insB bs (k - 1) x j := fun j hj => by
  unfold withB catB insB
  by_cases c0 : j < k - 1
  · rw [if_pos (by omega), if_pos c0, if_pos c0]
  · by_cases c1 : j = k - 1
    · rw [if_pos (by omega), if_neg (by omega), if_neg (by omega), if_pos c1]
    · rw [if_neg (by omega), if_neg (by omega), if_neg c1]
      show bs (k - 1 + 0 + (j - (k - 1 + 1))) = bs (j - 1)
      rw [show k - 1 + 0 + (j - (k - 1 + 1)) = j - 1 by omega]
theorem ins_del (bs : Nat → BV) (k : Nat) (x : BV) (hk : 0 < k) : ∀ j, j < k → bs j = delB (insB bs (k - 1) x) (k - 1) j := fun j hj => by
  unfold delB insB
  by_cases c0 : j < k - 1
  · rw [if_pos c0, if_pos c0]
  · rw [if_neg c0, if_neg (by omega), if_neg (by omega)]; rfl
theorem ins_found {bs : Nat → BV} {k N : Nat} {x : BV} (hk : 0 < k) (hN : firstOf (numB bs (N : Int)) k = none) (hx : x.num = (N : Int)) : firstOf (numB (insB bs (k - 1) x) (N : Int)) (k + 1) = some (k - 1) := by
  refine firstOf_some (by omega) ?_ fun j hj => ?_
  · unfold numB insB hasNum; rw [if_neg (by omega), if_pos rfl, hx]; simp
  · have := firstOf_no hN j (by omega)
    unfold numB at this ⊢
    unfold insB
    rw [if_pos hj]
    exact this
theorem ins_free {bs : Nat → BV} {k N : Nat} {x : BV} (hk : 0 < k) (hN : firstOf (numB bs (N : Int)) k = none) (hx : x.num = (N : Int)) : freeN (insB bs (k - 1) x) (k + 1) ≠ N := fun e => by
  have h := (freeN_spec (insB bs (k - 1) x) (k + 1)).2.2.1
  rw [e, ins_found hk hN hx] at h
  cases h
end Go.Proofs.YtcajjhmldghakaaGreat


namespace Go.Proofs.YtcajjhmldghakaaGreat
open Go.RowKit
set_option linter.unusedVariables false
set_option linter.unusedSimpArgs false

theorem someBun : bunRight someP someB 1 = 0 ∧ (bunBytes someP someB 1).length = 32 := by decide +kernel
theorem someFree : freeN someB 1 = 2 := freeN_eq (by omega) (by decide +kernel) (fun j h1 h2 => by omega)
set_option maxRecDepth 20000 in
theorem awake13_any (w : World) : Calls Tryz.prog 8 #[] w (Ret (.bool true) w) := by
  have KS := hid (fun W => some_any W)
  have KB : Hid (∀ W g, BsL W (some ⟨g, 0, none⟩) 1 someB → Calls Tryz.prog 11 #[bunV someP (some ⟨g, 0, none⟩) 1 1] W (Ret (.tuple #[str (bunBytes someP someB 1), .int .i64 0]) W)) := fun W g hL => by
    have := cBunBuild_any someP someB 1 1 (some ⟨g, 0, none⟩) (by unfold Hid; decide) (by decide) (by omega) W hL
    unfold madeV at this
    rw [someBun.1, if_pos rfl] at this
    exact this
  have KF : Hid (∀ W g, BsL W (some ⟨g, 0, none⟩) 1 someB → Calls Tryz.prog 14 #[bunV someP (some ⟨g, 0, none⟩) 1 1] W (Ret (.int .i64 2) W)) := fun W g hL => by
    have := Free_any someP someB 1 1 (some ⟨g, 0, none⟩) (by omega) W hL
    rw [someFree] at this
    exact this
  have hl := someBun.2
  generalize bunBytes someP someB 1 = B at *
  have l1 : ((B.length : Int) == 32) = true := by rw [hl]; rfl
  have l2 : ((B.length : Int) = 32) = True := by rw [hl]; simp
  have l3 : (B.length = 32) = True := by rw [hl]; simp
  clear hl
  go_enter Tryz.func8, Tryz.ntmps8
  go_upto_region 2 with (first | (go_at_call 24; refine (KS.out _).mono ?_; rintro x w2 ⟨g, rfl, hx, hL⟩) | (go_at_call 11; refine (KB.out _ _ hL).mono ?_; rintro x w3 ⟨rfl, h3⟩))
  go_wp2_with (first | (go_at_call 24; refine (KS.out _).mono ?_; rintro x w4 ⟨g4, rfl, hx4, hL4⟩) | (go_at_call 14; refine (KF.out _ _ hL4).mono ?_; rintro x w5 ⟨rfl, h5⟩))
  go_ret
  exact Ret.mk rfl (((hx.trans h3).trans hx4).trans h5)
end Go.Proofs.YtcajjhmldghakaaGreat


namespace Go.Proofs.YtcajjhmldghakaaGreat
open Go.RowKit
set_option linter.unusedVariables false
set_option linter.unusedSimpArgs false

theorem few_names2 {p : PV} (h : p.few = true) : p.d.name.length < 4611686018427387904 ∧ p.s.name.length < 4611686018427387904 ∧ p.r.name.length < 4611686018427387904 := by
  unfold PV.few at h
  simp only [Bool.and_eq_true, decide_eq_true_eq] at h
  omega
set_option maxRecDepth 20000 in
set_option maxHeartbeats 1600000 in
theorem undo_few (p : PV) (x : BV) (bs : Nat → BV) (k c : Nat) (A : Option Addr) (hf : p.fl < 18446744073709551616) (hk : k < 4611686018427387904) (hF : bunFew p bs k = false) (w : World) (h : BsL w A k bs) : Calls Tryz.prog 4 #[bunV p A k c, x.v] w (Ret (.bool true) w) := by
  have KA := hid (fun W => awake13_any W)
  have KF := hid (fun W (hW : BsL W A k bs) => few13_any p bs k c A hk W hW)
  rw [hF] at KF
  clear hF
  have HE := hid (((Mod.refl [] w).alloc (.cells (bunC p A k c) 29)).alloc (.cells (BV.c x) 38))
  have HB0 : Hid (Blk ((w.alloc (.cells (bunC p A k c) 29)).alloc (.cells (BV.c x) 38)) w.heap.size 29 (bunC p A k c)) := hid ((Blk.new w 29 (bunC p A k c)).alloc (.cells (BV.c x) 38))
  have HB1 : Hid (Blk ((w.alloc (.cells (bunC p A k c) 29)).alloc (.cells (BV.c x) 38)) (w.heap.size + 1) 38 (BV.c x)) := by unfold Hid; exact Blk.newL _ _ _ (by simp)
  have HL := hid (BsL.ext h HE.out)
  clear h hf hk
  go_enter Tryz.func4, Tryz.ntmps4
  go_upto_region 1 with fail
  generalize ((w.alloc (.cells (bunC p A k c) 29)).alloc (.cells (BV.c x) 38)) = V at *
  have d4 : ∀ e : Later V, e.x.cell? ⟨w.heap.size + 1, 4, none⟩ = some (str x.data) := HB1.out.cellL 4 rfl
  obtain ⟨e, he⟩ := Later.self V
  rw [he]
  clear he
  go_wp2_with (first | (go_at_call 8; refine (Ret.later (KA.out _)).mono ?_; rintro x _ ⟨rfl, e, rfl⟩) | (go_at_call 9; refine (Ret.later (KF.out _ (HL.out.ext (Later.h _)))).mono ?_; rintro x _ ⟨rfl, e, rfl⟩) | (go_at_call 10; refine (Ret.later (KR.out _ (HL.out.ext (Later.h _)))).mono ?_; rintro x _ ⟨rfl, e, rfl⟩) | (refine wpList_row (by rfl) 29 _ rfl _ rfl (HB0.out.later _) Tryz.underlying29 rfl (by kernel_rfl) ?_))
  go_ret
  exact Ret.mk rfl (HE.out.trans e.h)
set_option maxRecDepth 20000 in
set_option maxHeartbeats 1600000 in
theorem undo_long (p : PV) (x : BV) (bs : Nat → BV) (k c : Nat) (A : Option Addr) (hf : p.fl < 18446744073709551616) (hk : k < 4611686018427387904) (hF : bunFew p bs k = true) (hdat : ¬ x.data.length ≤ 4100) (w : World) (h : BsL w A k bs) : Calls Tryz.prog 4 #[bunV p A k c, x.v] w (Ret (.bool true) w) := by
  have KA := hid (fun W => awake13_any W)
  have KF := hid (fun W (hW : BsL W A k bs) => few13_any p bs k c A hk W hW)
  rw [hF] at KF
  clear hF
  have la : decide (4100 < x.data.length) = true := decide_eq_true (by omega)
  have lb : (4100 < x.data.length) = True := eq_true (by omega)
  have lc : decide ((4100 : Int) < (x.data.length : Int)) = true := decide_eq_true (by omega)
  clear hdat
  have HE := hid (((Mod.refl [] w).alloc (.cells (bunC p A k c) 29)).alloc (.cells (BV.c x) 38))
  have HB0 : Hid (Blk ((w.alloc (.cells (bunC p A k c) 29)).alloc (.cells (BV.c x) 38)) w.heap.size 29 (bunC p A k c)) := hid ((Blk.new w 29 (bunC p A k c)).alloc (.cells (BV.c x) 38))
  have HB1 : Hid (Blk ((w.alloc (.cells (bunC p A k c) 29)).alloc (.cells (BV.c x) 38)) (w.heap.size + 1) 38 (BV.c x)) := by unfold Hid; exact Blk.newL _ _ _ (by simp)
  have HL := hid (BsL.ext h HE.out)
  clear h hf hk
  go_enter Tryz.func4, Tryz.ntmps4
  go_upto_region 1 with fail
  generalize ((w.alloc (.cells (bunC p A k c) 29)).alloc (.cells (BV.c x) 38)) = V at *
  have d4 : ∀ e : Later V, e.x.cell? ⟨w.heap.size + 1, 4, none⟩ = some (str x.data) := HB1.out.cellL 4 rfl
  obtain ⟨e, he⟩ := Later.self V
  rw [he]
  clear he
  go_wp2_with (first | (go_at_call 8; refine (Ret.later (KA.out _)).mono ?_; rintro x _ ⟨rfl, e, rfl⟩) | (go_at_call 9; refine (Ret.later (KF.out _ (HL.out.ext (Later.h _)))).mono ?_; rintro x _ ⟨rfl, e, rfl⟩) | (go_at_call 10; refine (Ret.later (KR.out _ (HL.out.ext (Later.h _)))).mono ?_; rintro x _ ⟨rfl, e, rfl⟩) | (refine wpList_row (by rfl) 29 _ rfl _ rfl (HB0.out.later _) Tryz.underlying29 rfl (by kernel_rfl) ?_))
  go_ret
  exact Ret.mk rfl (HE.out.trans e.h)
set_option maxRecDepth 20000 in
set_option maxHeartbeats 1600000 in
theorem undo_bad (p : PV) (x : BV) (bs : Nat → BV) (k c : Nat) (A : Option Addr) (hf : p.fl < 18446744073709551616) (hk : k < 4611686018427387904) (hF : bunFew p bs k = true) (hdat : x.data.length ≤ 4100) (hR : bunRight p bs k ≠ 0) (w : World) (h : BsL w A k bs) : Calls Tryz.prog 4 #[bunV p A k c, x.v] w (Ret (.bool true) w) := by
  have KA := hid (fun W => awake13_any W)
  have KF := hid (fun W (hW : BsL W A k bs) => few13_any p bs k c A hk W hW)
  have hd : ∀ i, i < k → (bs i).data.length ≤ 100000 := fun i hi => by have := (bunFew_spec hF).2.2 i hi; omega
  have KR := hid (fun W (hW : BsL W A k bs) => r13Right_any p bs k c A hf hk hd W hW)
  rw [hF] at KF
  generalize bunRight p bs k = r at *
  clear hF hd
  have la : decide (4100 < x.data.length) = false := decide_eq_false (by omega)
  have lb : (4100 < x.data.length) = False := eq_false (by omega)
  have lc : decide ((4100 : Int) < (x.data.length : Int)) = false := decide_eq_false (by omega)
  have ra : ((r) == (0)) = false := by rw [beq_eq_false_iff_ne]; exact hR
  have rb : ((r) = (0)) = False := eq_false (by exact hR)
  have rc : ((r) != (0)) = true := by rw [bne_iff_ne]; exact hR
  clear hdat hR
  have HE := hid (((Mod.refl [] w).alloc (.cells (bunC p A k c) 29)).alloc (.cells (BV.c x) 38))
  have HB0 : Hid (Blk ((w.alloc (.cells (bunC p A k c) 29)).alloc (.cells (BV.c x) 38)) w.heap.size 29 (bunC p A k c)) := hid ((Blk.new w 29 (bunC p A k c)).alloc (.cells (BV.c x) 38))
  have HB1 : Hid (Blk ((w.alloc (.cells (bunC p A k c) 29)).alloc (.cells (BV.c x) 38)) (w.heap.size + 1) 38 (BV.c x)) := by unfold Hid; exact Blk.newL _ _ _ (by simp)
  have HL := hid (BsL.ext h HE.out)
  clear h hf hk
  go_enter Tryz.func4, Tryz.ntmps4
  go_upto_region 1 with fail
  generalize ((w.alloc (.cells (bunC p A k c) 29)).alloc (.cells (BV.c x) 38)) = V at *
  have d4 : ∀ e : Later V, e.x.cell? ⟨w.heap.size + 1, 4, none⟩ = some (str x.data) := HB1.out.cellL 4 rfl
  obtain ⟨e, he⟩ := Later.self V
  rw [he]
  clear he
  go_wp2_with (first | (go_at_call 8; refine (Ret.later (KA.out _)).mono ?_; rintro x _ ⟨rfl, e, rfl⟩) | (go_at_call 9; refine (Ret.later (KF.out _ (HL.out.ext (Later.h _)))).mono ?_; rintro x _ ⟨rfl, e, rfl⟩) | (go_at_call 10; refine (Ret.later (KR.out _ (HL.out.ext (Later.h _)))).mono ?_; rintro x _ ⟨rfl, e, rfl⟩) | (refine wpList_row (by rfl) 29 _ rfl _ rfl (HB0.out.later _) Tryz.underlying29 rfl (by kernel_rfl) ?_))
  go_ret
  exact Ret.mk rfl (HE.out.trans e.h)
set_option maxRecDepth 20000 in
set_option maxHeartbeats 8000000 in
theorem undo_ok (p : PV) (x : BV) (bs : Nat → BV) (k c : Nat) (A : Option Addr) (hf : p.fl < 18446744073709551616) (hk : k < 4611686018427387904) (hF : bunFew p bs k = true) (hdat : x.data.length ≤ 4100) (hR : bunRight p bs k = 0) (hR1 : bunRight p (insB bs (k - 1) { x with num := ((freeN bs k : Nat) : Int) }) (k + 1) = 0) (w : World) (h : BsL w A k bs) : Calls Tryz.prog 4 #[bunV p A k c, x.v] w (Ret (.bool true) w) := by
  have KA := hid (fun W => awake13_any W)
  have KF := hid (fun W (hW : BsL W A k bs) => few13_any p bs k c A hk W hW)
  have hnl : Hid (p.d.name.length < 4611686018427387904 ∧ p.s.name.length < 4611686018427387904 ∧ p.r.name.length < 4611686018427387904) := few_names2 (bunFew_spec hF).2.1
  have hd : ∀ i, i < k → (bs i).data.length ≤ 100000 := fun i hi => by have := (bunFew_spec hF).2.2 i hi; omega
  have KR := hid (fun W (hW : BsL W A k bs) => r13Right_any p bs k c A hf hk hd W hW)
  rw [hF] at KF
  rw [hR] at KR
  obtain ⟨hp, hbs, h16, hr1, -⟩ := bunRight_zero hR
  have hk0 : 0 < k := by
    rcases Nat.eq_zero_or_pos k with e | e
    · subst e; cases hr1
    · exact e
  have KFr := hid (fun W (hW : BsL W A k bs) => Free_any p bs k c A hk W hW)
  obtain ⟨hN1, hN2, hN3, -⟩ := freeN_spec bs k
  generalize freeN bs k = N at *
  obtain ⟨X, hX⟩ : ∃ X : BV, X = { x with num := (N : Int) } := ⟨_, rfl⟩
  have hXn : X.num = (N : Int) := by rw [hX]
  have KP := hid (fun W (hW : BsL W A k bs) => Put_some p bs k c A X hnl hf hk0 (by omega) W hW)
  rw [← hX] at hR1
  have KP2 : Hid (∀ W, BsL W A k bs → Calls Tryz.prog 15 #[bunV p A k c, X.v] W (fun e w' => ∃ zc A1 c1, e = .returned (.tuple #[.agg zc, .int .i64 0]) ∧ zc = bunC p A1 (k + 1) c1 ∧ Ext W w' ∧ BsL w' A1 (k + 1) (insB bs (k - 1) X))) := fun W hW => (KP.out W hW).mono fun e w' ⟨A1, c1, h1, h2, h3, _⟩ => ⟨_, A1, c1, by rw [h1, hR1, chkV_0 rfl], rfl, h2, h3⟩
  have hfd := ins_found hk0 hN3 hXn
  have KG : Hid (∀ W zc A1 c1, zc = bunC p A1 (k + 1) c1 → BsL W A1 (k + 1) (insB bs (k - 1) X) → Calls Tryz.prog 17 #[.agg zc, .int .i64 (N : Int)] W (Ret (.tuple #[X.v, .bool true]) W)) := fun W zc A1 c1 hz hW => by
    have := Get_any p (insB bs (k - 1) X) (k + 1) c1 A1 (N : Int) (by omega) W hW
    unfold getV at this
    rw [hfd] at this
    dsimp only at this
    rw [show insB bs (k - 1) X (k - 1) = X from by unfold insB; rw [if_neg (by omega), if_pos rfl]] at this
    rw [hz]
    exact this
  have hdl := ins_del bs k X hk0
  have KD : Hid (∀ W zc A1 c1, zc = bunC p A1 (k + 1) c1 → BsL W A1 (k + 1) (insB bs (k - 1) X) → Calls Tryz.prog 18 #[.agg zc, .int .i64 (N : Int)] W (fun e w' => ∃ zd A2 c2, e = .returned (.tuple #[.agg zd, .int .i64 0]) ∧ zd = bunC p A2 k c2 ∧ Ext W w' ∧ BsL w' A2 k (delB (insB bs (k - 1) X) (k - 1)))) := fun W zc A1 c1 hz hW => by
    rw [hz]
    refine (Drop_some p (insB bs (k - 1) X) (k + 1) c1 A1 (N : Int) hnl hf (by omega) (k - 1) hfd W hW).mono fun e w' ⟨A2, c2, h1, h2, h3, _⟩ => ⟨_, A2, c2, ?_, rfl, h2, ?_⟩
    · rw [h1, show k + 1 - 1 = k by omega, ← bunRight_congr hdl, hR, chkV_0 rfl]
    · rw [show k + 1 - 1 = k by omega] at h3; exact h3
  have KS : Hid (∀ W zd A2 c2, zd = bunC p A2 k c2 → BsL W A k bs → BsL W A2 k (delB (insB bs (k - 1) X) (k - 1)) → Calls Tryz.prog 19 #[bunV p A k c, .agg zd] W (Ret (.bool true) W)) := fun W zd A2 c2 hz h1 h2 => by
    rw [hz]
    exact Same_eq p bs _ k c c2 A A2 hk hdl W h1 h2
  obtain ⟨M, hM, KF2⟩ : ∃ M : Nat, M ≠ N ∧ Hid (∀ W zc A1 c1, zc = bunC p A1 (k + 1) c1 → BsL W A1 (k + 1) (insB bs (k - 1) X) → Calls Tryz.prog 14 #[.agg zc] W (Ret (.int .i64 (M : Int)) W)) :=
    ⟨freeN (insB bs (k - 1) X) (k + 1), ins_free hk0 hN3 hXn, fun W zc A1 c1 hz hW => by rw [hz]; exact Free_any p _ (k + 1) c1 A1 (by omega) W hW⟩
  have HI : Hid (∀ (A1 : Option Addr) (k1 c1 : Nat), (Tryz.prog.info? 29).map (·.size) = some (bunC p A1 k1 c1).size ∧ (bunC p A1 k1 c1).all (·.oneCell') = true ∧ (bunC p A1 k1 c1).size = 20) := fun A1 k1 c1 => ⟨by kernel_rfl, by simp [Value.oneCell'], rfl⟩
  have ma : (((M : Int)) == ((N : Int))) = false := by rw [beq_eq_false_iff_ne]; omega
  have mb : (((M : Int)) = ((N : Int))) = False := eq_false (by omega)
  have mc : (((M : Int)) != ((N : Int))) = true := by rw [bne_iff_ne]; omega
  have mna : ((M) == (N)) = false := by rw [beq_eq_false_iff_ne]; exact hM
  have mnb : ((M) = (N)) = False := eq_false (by exact hM)
  have mnc : ((M) != (N)) = true := by rw [bne_iff_ne]; exact hM
  clear hM KP hfd hdl hR hR1 hp hbs h16 hr1 hd hN1 hN3
  have la : decide (4100 < x.data.length) = false := decide_eq_false (by omega)
  have lb : (4100 < x.data.length) = False := eq_false (by omega)
  have lc : decide ((4100 : Int) < (x.data.length : Int)) = false := decide_eq_false (by omega)
  have HE := hid (((Mod.refl [] w).alloc (.cells (bunC p A k c) 29)).alloc (.cells (BV.c x) 38))
  have HB0 : Hid (Blk ((w.alloc (.cells (bunC p A k c) 29)).alloc (.cells (BV.c x) 38)) w.heap.size 29 (bunC p A k c)) := hid ((Blk.new w 29 (bunC p A k c)).alloc (.cells (BV.c x) 38))
  have HB1 : Hid (Blk ((w.alloc (.cells (bunC p A k c) 29)).alloc (.cells (BV.c x) 38)) (w.heap.size + 1) 38 (BV.c x)) := by unfold Hid; exact Blk.newL _ _ _ (by simp)
  have HL := hid (BsL.ext h HE.out)
  have HLW := hid h
  have HX := hid hX
  generalize insB bs (k - 1) X = B1 at *
  generalize delB B1 (k - 1) = B2 at *
  clear h hf hk hF hdat hXn hX hnl hk0
  go_enter Tryz.func4, Tryz.ntmps4
  go_upto_region 1 with fail
  generalize ((w.alloc (.cells (bunC p A k c) 29)).alloc (.cells (BV.c x) 38)) = V at *
  have d4 : ∀ e : Later V, e.x.cell? ⟨w.heap.size + 1, 4, none⟩ = some (str x.data) := HB1.out.cellL 4 rfl
  have y1 : ∀ e : Later V, e.x.cell? ⟨w.heap.size + 1, 1, none⟩ = some (.int .i64 x.num) := HB1.out.cellL 1 rfl
  have y1f : ∀ e : Later V, e.x.frozen? ⟨w.heap.size + 1, 1, none⟩ = false := fun e => (HB1.out.later e).frozen 1
  obtain ⟨e, he⟩ := Later.self V
  rw [he]
  clear he
  go_upto_region 3 with (first | (go_at_call 8; refine (Ret.later (KA.out _)).mono ?_; rintro x _ ⟨rfl, e, rfl⟩) | (go_at_call 9; refine (Ret.later (KF.out _ (HL.out.ext (Later.h _)))).mono ?_; rintro x _ ⟨rfl, e, rfl⟩) | (go_at_call 10; refine (Ret.later (KR.out _ (HL.out.ext (Later.h _)))).mono ?_; rintro x _ ⟨rfl, e, rfl⟩) | (refine wpList_row (by rfl) 29 _ rfl _ rfl (HB0.out.later _) Tryz.underlying29 rfl (by kernel_rfl) ?_))
  go_upto_region 4 with (first | (go_at_call 14; refine (Ret.later (KFr.out _ (HL.out.ext (Later.h _)))).mono ?_; rintro x _ ⟨rfl, e, rfl⟩) | (refine wpList_row (by rfl) 29 _ rfl _ rfl (HB0.out.later _) Tryz.underlying29 rfl (by kernel_rfl) ?_))
  go_upto_region 5 with fail
  generalize hU : World.setCell e.x _ _ = U
  have HXU : Hid (Blk U (w.heap.size + 1) 38 (BV.c X)) := hid (by rw [← hU, HX.out]; exact (HB1.out.later e).set_ 1 (.int .i64 (N : Int)))
  have HBU : Hid (Blk U w.heap.size 29 (bunC p A k c)) := hid (by rw [← hU]; exact (HB0.out.later e).far (by simp) _)
  have HEU : Hid (Ext w U) := hid (by rw [← hU]; exact (HE.out.trans e.h).setCell (.inr (by simp)) _)
  have HLU : Hid (BsL U A k bs) := hid (fun hn => by
    obtain ⟨bb, oo, hA, hbl, hcc⟩ := HL.out.ext e.h hn
    obtain ⟨b2, o2, hA2, hb2, _⟩ := HLW.out hn
    have e1 : bb = b2 := by rw [hA] at hA2; cases hA2; rfl
    rw [← hU]
    exact ⟨bb, oo, hA, Nat.lt_of_lt_of_le hbl (by simp [World.setCell]), fun j hj => (hcc j hj).mod (S := [w.heap.size + 1]) (Mod.setCell (Mod.refl _ _) (.inl (by simp)) _) hbl (by simp; omega)⟩)
  clear hU HE HB0 HB1 HL HLW KA KF KR KFr d4 y1 y1f la lb lc
  obtain ⟨e5, he⟩ := Later.self U
  rw [he]
  clear he
  go_upto_region 6 with (first | (refine wpList_row (by rfl) 29 _ rfl _ rfl (HBU.out.later _) Tryz.underlying29 rfl (by kernel_rfl) ?_) | (refine wpList_row (by rfl) 38 _ rfl _ rfl (HXU.out.later _) Tryz.underlying38 rfl (by kernel_rfl) ?_) | (go_at_call 15; refine (KP2.out _ (HLU.out.ext (Later.h _))).mono ?_; rintro y w5 ⟨zc, A1, c1, rfl, hzc, hE5, hL5⟩; have HZC := hid hzc; have HE5 := hid (e5.h.trans hE5); have HL5 := hid hL5; have HI1 : Hid ((Tryz.prog.info? 29).map (·.size) = some zc.size ∧ zc.all (·.oneCell') = true ∧ zc.size = 20) := hid (by rw [hzc]; exact HI.out _ _ _); clear hzc hE5 hL5) | (refine wpList_store_mid rfl 29 _ _ rfl w5.heap.size 0 zc (by rfl) (by rfl) ((Blk.new _ _ _).there (by rw [HI1.out.2.2]; exact Nat.le_refl 20)) HI1.out.1 HI1.out.2.1 ?_))
  generalize hZ : World.setCells _ _ _ _ = Z
  have HC : Hid (Blk Z w5.heap.size 29 zc) := hid (by rw [← hZ]; exact setCells_all (ds := zc) (Blk.new _ _ _) (by rw [Array.length_toList, HI1.out.2.2]; rfl))
  have HZU : Hid (Ext U Z) := hid (by rw [← hZ]; exact setCells_mod _ _ (HE5.out.alloc _) (.inr HE5.out.size))
  have HZ5 : Hid (Ext w5 Z) := hid (by rw [← hZ]; exact setCells_mod _ _ ((Mod.refl [] w5).alloc _) (.inr (Nat.le_refl _)))
  have HBZ := hid (HBU.out.ext HZU.out)
  have HXZ := hid (HXU.out.ext HZU.out)
  have HLZ := hid (HLU.out.ext HZU.out)
  have HL1 := hid (HL5.out.ext HZ5.out)
  have HEZ := hid (HEU.out.trans HZU.out)
  clear hZ HBU HXU HLU HEU HE5 HL5 HZU HZ5 KP2 e5
  generalize w5.heap.size = C at *
  obtain ⟨e6, he⟩ := Later.self Z
  rw [he]
  clear he
  go_upto_region 8 with fail
  go_upto_region 9 with (first | (refine wpList_row (by rfl) 29 _ rfl _ rfl (HC.out.later _) Tryz.underlying29 rfl HI1.out.1 ?_) | (go_at_call 17; refine (Ret.later (KG.out _ zc A1 c1 HZC.out (HL1.out.ext (Later.h _)))).mono ?_; rintro y _ ⟨rfl, e, rfl⟩))
  generalize hY : World.alloc e.x _ = Y
  have HYB : Hid (Blk Y e.x.heap.size 38 (BV.c X)) := hid (by rw [← hY]; exact Blk.new _ _ _)
  have HYZ : Hid (Ext Z Y) := hid (by rw [← hY]; exact (Later.h e).alloc _)
  have HBY := hid (HBZ.out.ext HYZ.out)
  have HXY := hid (HXZ.out.ext HYZ.out)
  have HLY := hid (HLZ.out.ext HYZ.out)
  have HL2 := hid (HL1.out.ext HYZ.out)
  have HCY := hid (HC.out.ext HYZ.out)
  have HEY := hid (HEZ.out.trans HYZ.out)
  clear hY HBZ HXZ HLZ HL1 HC HEZ HYZ KG
  generalize e.x.heap.size = yb at *
  clear e e6
  obtain ⟨e7, he⟩ := Later.self Y
  rw [he]
  clear he
  go_upto_region 10 with (first | (refine wpList_row (by rfl) 29 _ rfl _ rfl (HCY.out.later _) Tryz.underlying29 rfl HI1.out.1 ?_) | (go_at_call 18; refine (KD.out _ zc A1 c1 HZC.out (HL2.out.ext (Later.h _))).mono ?_; rintro y w8 ⟨zd, A2, c2, rfl, hzd, hE8, hL8⟩; have HZD := hid hzd; have HE8 := hid (e7.h.trans hE8); have HL8 := hid hL8; have HI2 : Hid ((Tryz.prog.info? 29).map (·.size) = some zd.size ∧ zd.all (·.oneCell') = true ∧ zd.size = 20) := hid (by rw [hzd]; exact HI.out _ _ _); clear hzd hE8 hL8) | (refine wpList_store_mid rfl 29 _ _ rfl w8.heap.size 0 zd (by rfl) (by rfl) ((Blk.new _ _ _).there (by rw [HI2.out.2.2]; exact Nat.le_refl 20)) HI2.out.1 HI2.out.2.1 ?_))
  generalize hZ : World.setCells _ _ _ _ = Z2
  have HD : Hid (Blk Z2 w8.heap.size 29 zd) := hid (by rw [← hZ]; exact setCells_all (ds := zd) (Blk.new _ _ _) (by rw [Array.length_toList, HI2.out.2.2]; rfl))
  have HZY : Hid (Ext Y Z2) := hid (by rw [← hZ]; exact setCells_mod _ _ (HE8.out.alloc _) (.inr HE8.out.size))
  have HZ8 : Hid (Ext w8 Z2) := hid (by rw [← hZ]; exact setCells_mod _ _ ((Mod.refl [] w8).alloc _) (.inr (Nat.le_refl _)))
  have HB9 := hid (HBY.out.ext HZY.out)
  have HX9 := hid (HXY.out.ext HZY.out)
  have HY9 := hid (HYB.out.ext HZY.out)
  have HC9 := hid (HCY.out.ext HZY.out)
  have HL9 := hid (HLY.out.ext HZY.out)
  have HM9 := hid (HL2.out.ext HZY.out)
  have HD9 := hid (HL8.out.ext HZ8.out)
  have HE9 := hid (HEY.out.trans HZY.out)
  clear hZ HBY HXY HLY HL2 HCY HEY HZY HZ8 HL8 HE8 KD HI HYB e7
  generalize w8.heap.size = db at *
  obtain ⟨e, he⟩ := Later.self Z2
  rw [he]
  clear he
  have HE9' := HE9
  go_wp2_with (first | (go_at_call 19; refine (Ret.later (KS.out _ zd A2 c2 HZD.out (HL9.out.ext (Later.h _)) (HD9.out.ext (Later.h _)))).mono ?_; rintro y _ ⟨rfl, e, rfl⟩) | (go_at_call 14; refine (Ret.later (KF2.out _ zc A1 c1 HZC.out (HM9.out.ext (Later.h _)))).mono ?_; rintro y _ ⟨rfl, e, rfl⟩) | (refine wpList_row (by rfl) 38 _ rfl _ rfl (HY9.out.later _) Tryz.underlying38 rfl (by kernel_rfl) ?_) | (refine wpList_row (by rfl) 38 _ rfl _ rfl (HX9.out.later _) Tryz.underlying38 rfl (by kernel_rfl) ?_) | (refine wpList_row (by rfl) 29 _ rfl _ rfl (HB9.out.later _) Tryz.underlying29 rfl (by kernel_rfl) ?_) | (refine wpList_row (by rfl) 29 _ rfl _ rfl (HD.out.later _) Tryz.underlying29 rfl HI2.out.1 ?_) | (refine wpList_row (by rfl) 29 _ rfl _ rfl (HC9.out.later _) Tryz.underlying29 rfl HI1.out.1 ?_))
  go_ret
  exact Ret.mk (by simp) (HE9.out.trans (Later.h _))
set_option maxRecDepth 20000 in
set_option maxHeartbeats 8000000 in
theorem undo_no (p : PV) (x : BV) (bs : Nat → BV) (k c : Nat) (A : Option Addr) (hf : p.fl < 18446744073709551616) (hk : k < 4611686018427387904) (hS : SlA A k c) (hF : bunFew p bs k = true) (hdat : x.data.length ≤ 4100) (hR : bunRight p bs k = 0) (R1 : Int) (hR1 : bunRight p (insB bs (k - 1) { x with num := ((freeN bs k : Nat) : Int) }) (k + 1) = R1) (h0 : R1 ≠ 0) (w : World) (h : BsL w A k bs) : Calls Tryz.prog 4 #[bunV p A k c, x.v] w (Ret (.bool true) w) := by
  have KA := hid (fun W => awake13_any W)
  have KF := hid (fun W (hW : BsL W A k bs) => few13_any p bs k c A hk W hW)
  have hnl : Hid (p.d.name.length < 4611686018427387904 ∧ p.s.name.length < 4611686018427387904 ∧ p.r.name.length < 4611686018427387904) := few_names2 (bunFew_spec hF).2.1
  have hd : ∀ i, i < k → (bs i).data.length ≤ 100000 := fun i hi => by have := (bunFew_spec hF).2.2 i hi; omega
  have KR := hid (fun W (hW : BsL W A k bs) => r13Right_any p bs k c A hf hk hd W hW)
  rw [hF] at KF
  rw [hR] at KR
  obtain ⟨hp, hbs, h16, hr1, -⟩ := bunRight_zero hR
  have hk0 : 0 < k := by
    rcases Nat.eq_zero_or_pos k with e | e
    · subst e; cases hr1
    · exact e
  have KFr := hid (fun W (hW : BsL W A k bs) => Free_any p bs k c A hk W hW)
  obtain ⟨hN1, hN2, hN3, -⟩ := freeN_spec bs k
  generalize freeN bs k = N at *
  obtain ⟨X, hX⟩ : ∃ X : BV, X = { x with num := (N : Int) } := ⟨_, rfl⟩
  have hXn : X.num = (N : Int) := by rw [hX]
  have KP := hid (fun W (hW : BsL W A k bs) => Put_some p bs k c A X hnl hf hk0 (by omega) W hW)
  rw [← hX] at hR1
  have hXd : X.data = x.data := by rw [hX]
  have KP2 : Hid (∀ W, BsL W A k bs → Calls Tryz.prog 15 #[bunV p A k c, X.v] W (fun e w' => ∃ zc, e = .returned (.tuple #[.agg zc, .int .i64 R1]) ∧ zc = zeroBun ∧ Ext W w')) := fun W hW => (KP.out W hW).mono fun e w' ⟨A1, c1, h1, h2, h3, _⟩ => ⟨_, by rw [h1, hR1, chkV_no h0], rfl, h2⟩
  have hwi := ins_with bs k X hk0
  have hRW : bunRight p (withB bs (k - 1) 0 1 (fun _ => X)) (k + 1) = R1 := by rw [bunRight_congr hwi]; exact hR1
  have KW : Hid (∀ W (I : Int) vb, I = ((k - 1 : Nat) : Int) → BsL W A k bs → Blk W vb 38 (BV.c X) → Calls Tryz.prog 16 #[bunV p A k c, .int .i64 I, .int .i64 0, .slice (some ⟨vb, 0, none⟩) 1 1] W (fun e w' => ∃ A' c', e = .returned (bunV p A' (k + 1) c') ∧ Ext W w' ∧ BsL w' A' (k + 1) (withB bs (k - 1) 0 1 (fun _ => X)))) := fun W I vb hI hW hv => by
    rw [hI]
    have hv1 : BsL W (some ⟨vb, 0, none⟩) 1 (fun _ => X) := fun _ => ⟨vb, 0, rfl, hv.lt, fun j hj => by
      obtain rfl : j = 0 := by omega
      exact ⟨hv.cell 0, hv.cell 1, hv.cell 2, hv.cell 3, hv.cell 4⟩⟩
    refine (With_some p bs k c A hS (k - 1) 0 (by omega) 1 1 (some ⟨vb, 0, none⟩) (fun _ => X) ⟨fun h => (by cases h), Nat.le_refl _, by unfold maxLen; omega⟩ hk0 (by omega) (by omega) W hW hv1).mono fun e w' ⟨A', c', h1, h2, h3, _⟩ => ⟨A', c', ?_, h2, ?_⟩
    · rw [h1, show k - 1 + 1 + (k - (k - 1 + 0)) = k + 1 by omega]
    · rw [show k - 1 + 1 + (k - (k - 1 + 0)) = k + 1 by omega] at h3; exact h3
  have KQ : Hid (∀ W A' c', BsL W A' (k + 1) (withB bs (k - 1) 0 1 (fun _ => X)) → Calls Tryz.prog 10 #[bunV p A' (k + 1) c'] W (Ret (.int .i64 R1) W)) := fun W A' c' hW => by
    have := r13Right_any p _ (k + 1) c' A' hf (by omega) (fun j hj => by
      rw [hwi j hj]
      unfold insB
      split
      · exact hd j (by omega)
      · split
        · rw [hXd]; omega
        · exact hd _ (by omega)) W hW
    rw [hRW] at this
    exact this
  have HK0 := hid hk0
  have HK16 := hid h16
  have kk0 : (1 : Int) ≤ (k : Int) := by omega
  have kk1 : (k : Int) ≤ 16 := by omega
  have ra : ((R1) == (0)) = false := by rw [beq_eq_false_iff_ne]; exact h0
  have rb : ((R1) = (0)) = False := eq_false (by exact h0)
  have rc : ((R1) != (0)) = true := by rw [bne_iff_ne]; exact h0
  clear h0 KP hR hR1 hp hbs h16 hr1 hd hN1 hN3 hwi hRW hXd hS
  have HI : Hid ((Tryz.prog.info? 29).map (·.size) = some zeroBun.size ∧ zeroBun.all (·.oneCell') = true ∧ zeroBun.size = 20) := hid ⟨by kernel_rfl, by simp [zeroBun, Value.oneCell'], rfl⟩
  have la : decide (4100 < x.data.length) = false := decide_eq_false (by omega)
  have lb : (4100 < x.data.length) = False := eq_false (by omega)
  have lc : decide ((4100 : Int) < (x.data.length : Int)) = false := decide_eq_false (by omega)
  have HE := hid (((Mod.refl [] w).alloc (.cells (bunC p A k c) 29)).alloc (.cells (BV.c x) 38))
  have HB0 : Hid (Blk ((w.alloc (.cells (bunC p A k c) 29)).alloc (.cells (BV.c x) 38)) w.heap.size 29 (bunC p A k c)) := hid ((Blk.new w 29 (bunC p A k c)).alloc (.cells (BV.c x) 38))
  have HB1 : Hid (Blk ((w.alloc (.cells (bunC p A k c) 29)).alloc (.cells (BV.c x) 38)) (w.heap.size + 1) 38 (BV.c x)) := by unfold Hid; exact Blk.newL _ _ _ (by simp)
  have HL := hid (BsL.ext h HE.out)
  have HLW := hid h
  have HX := hid hX
  generalize withB bs (k - 1) 0 1 (fun _ => X) = B1 at *
  clear h hf hk hF hdat hXn hX hnl hk0
  go_enter Tryz.func4, Tryz.ntmps4
  go_upto_region 1 with fail
  generalize ((w.alloc (.cells (bunC p A k c) 29)).alloc (.cells (BV.c x) 38)) = V at *
  have d4 : ∀ e : Later V, e.x.cell? ⟨w.heap.size + 1, 4, none⟩ = some (str x.data) := HB1.out.cellL 4 rfl
  have y1 : ∀ e : Later V, e.x.cell? ⟨w.heap.size + 1, 1, none⟩ = some (.int .i64 x.num) := HB1.out.cellL 1 rfl
  have y1f : ∀ e : Later V, e.x.frozen? ⟨w.heap.size + 1, 1, none⟩ = false := fun e => (HB1.out.later e).frozen 1
  obtain ⟨e, he⟩ := Later.self V
  rw [he]
  clear he
  go_upto_region 3 with (first | (go_at_call 8; refine (Ret.later (KA.out _)).mono ?_; rintro x _ ⟨rfl, e, rfl⟩) | (go_at_call 9; refine (Ret.later (KF.out _ (HL.out.ext (Later.h _)))).mono ?_; rintro x _ ⟨rfl, e, rfl⟩) | (go_at_call 10; refine (Ret.later (KR.out _ (HL.out.ext (Later.h _)))).mono ?_; rintro x _ ⟨rfl, e, rfl⟩) | (refine wpList_row (by rfl) 29 _ rfl _ rfl (HB0.out.later _) Tryz.underlying29 rfl (by kernel_rfl) ?_))
  go_upto_region 4 with (first | (go_at_call 14; refine (Ret.later (KFr.out _ (HL.out.ext (Later.h _)))).mono ?_; rintro x _ ⟨rfl, e, rfl⟩) | (refine wpList_row (by rfl) 29 _ rfl _ rfl (HB0.out.later _) Tryz.underlying29 rfl (by kernel_rfl) ?_))
  go_upto_region 5 with fail
  generalize hU : World.setCell e.x _ _ = U
  have HXU : Hid (Blk U (w.heap.size + 1) 38 (BV.c X)) := hid (by rw [← hU, HX.out]; exact (HB1.out.later e).set_ 1 (.int .i64 (N : Int)))
  have HBU : Hid (Blk U w.heap.size 29 (bunC p A k c)) := hid (by rw [← hU]; exact (HB0.out.later e).far (by simp) _)
  have HEU : Hid (Ext w U) := hid (by rw [← hU]; exact (HE.out.trans e.h).setCell (.inr (by simp)) _)
  have HLU : Hid (BsL U A k bs) := hid (fun hn => by
    obtain ⟨bb, oo, hA, hbl, hcc⟩ := HL.out.ext e.h hn
    obtain ⟨b2, o2, hA2, hb2, _⟩ := HLW.out hn
    have e1 : bb = b2 := by rw [hA] at hA2; cases hA2; rfl
    rw [← hU]
    exact ⟨bb, oo, hA, Nat.lt_of_lt_of_le hbl (by simp [World.setCell]), fun j hj => (hcc j hj).mod (S := [w.heap.size + 1]) (Mod.setCell (Mod.refl _ _) (.inl (by simp)) _) hbl (by simp; omega)⟩)
  clear hU HE HB0 HB1 HL HLW KA KF KR KFr d4 y1 y1f la lb lc
  obtain ⟨e5, he⟩ := Later.self U
  rw [he]
  clear he
  go_upto_region 6 with (first | (refine wpList_row (by rfl) 29 _ rfl _ rfl (HBU.out.later _) Tryz.underlying29 rfl (by kernel_rfl) ?_) | (refine wpList_row (by rfl) 38 _ rfl _ rfl (HXU.out.later _) Tryz.underlying38 rfl (by kernel_rfl) ?_) | (go_at_call 15; refine (KP2.out _ (HLU.out.ext (Later.h _))).mono ?_; rintro y w5 ⟨zc, rfl, hzc, hE5⟩; have HE5 := hid (e5.h.trans hE5); have HI1 : Hid ((Tryz.prog.info? 29).map (·.size) = some zc.size ∧ zc.all (·.oneCell') = true ∧ zc.size = 20) := hid (by rw [hzc]; exact HI.out); clear hzc hE5) | (refine wpList_store_mid rfl 29 _ _ rfl w5.heap.size 0 zc (by rfl) (by rfl) ((Blk.new _ _ _).there (by rw [HI1.out.2.2]; exact Nat.le_refl 20)) HI1.out.1 HI1.out.2.1 ?_))
  generalize hZ : World.setCells _ _ _ _ = Z
  have HZU : Hid (Ext U Z) := hid (by rw [← hZ]; exact setCells_mod _ _ (HE5.out.alloc _) (.inr HE5.out.size))
  have HBZ := hid (HBU.out.ext HZU.out)
  have HXZ := hid (HXU.out.ext HZU.out)
  have HLZ := hid (HLU.out.ext HZU.out)
  have HEZ := hid (HEU.out.trans HZU.out)
  clear hZ HBU HXU HLU HEU HE5 HZU KP2 HI1 HI e5
  have b19 : ∀ e : Later Z, e.x.cell? ⟨w.heap.size, 19, none⟩ = some (.slice A k c) := HBZ.out.cellL 19 rfl
  obtain ⟨e6, he⟩ := Later.self Z
  rw [he]
  clear he
  go_upto_region 7 with fail
  have HVN := hid (Blk.new e6.x 38 (BV.c X))
  go_wp2_with (first | (go_at_call 16; refine (KW.out _ _ e6.x.heap.size (by first | omega | (rw [IntWalk.i64_in _ (by omega)]; have := HK0.out; omega) | (have := HK0.out; omega)) (HLZ.out.ext (e6.h.alloc _)) HVN.out).mono ?_; rintro y w7 ⟨A', c', rfl, hE7, hL7⟩) | (go_at_call 10; refine (KQ.out _ A' c' hL7).mono ?_; rintro y w8 ⟨rfl, h8⟩) | (refine wpList_row (by rfl) 29 _ rfl _ rfl (HBZ.out.later _) Tryz.underlying29 rfl (by kernel_rfl) ?_) | (refine wpList_row (by rfl) 38 _ rfl _ rfl (HXZ.out.later _) Tryz.underlying38 rfl (by kernel_rfl) ?_))
  go_ret
  exact Ret.mk (by simp) (HEZ.out.trans (((e6.h.alloc _).trans hE7).trans h8))
theorem lawUndo_any (p : PV) (x : BV) (bs : Nat → BV) (k c : Nat) (A : Option Addr) (hf : p.fl < 18446744073709551616) (hk : k < 4611686018427387904) (hS : SlA A k c) (w : World) (h : BsL w A k bs) : Calls Tryz.prog 4 #[bunV p A k c, x.v] w (Ret (.bool true) w) := by
  cases hF : bunFew p bs k with
  | false => exact undo_few p x bs k c A hf hk hF w h
  | true =>
    by_cases hdat : x.data.length ≤ 4100
    · by_cases hR : bunRight p bs k = 0
      · by_cases h1 : bunRight p (insB bs (k - 1) { x with num := ((freeN bs k : Nat) : Int) }) (k + 1) = 0
        · exact undo_ok p x bs k c A hf hk hF hdat hR h1 w h
        · exact undo_no p x bs k c A hf hk hS hF hdat hR _ rfl h1 w h
      · exact undo_bad p x bs k c A hf hk hF hdat hR w h
    · exact undo_long p x bs k c A hf hk hF hdat w h
end Go.Proofs.YtcajjhmldghakaaGreat
