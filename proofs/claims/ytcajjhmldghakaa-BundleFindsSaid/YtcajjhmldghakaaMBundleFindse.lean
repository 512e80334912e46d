/-
  Bundles: rules, whether one is right, and its bytes, as the code tells.
  A bundle of one block.
  The least number that is free.
  The layer's own awake.
  The law BundleFinds, walked.
-/
import Derived.Test.YtcajjhmldghakaaMBundleFindsd

namespace Go.Proofs.Ytcajjhmldghakaa
open Go.RowKit
set_option linter.unusedVariables false
set_option linter.unusedSimpArgs false

def rulesR (p : PV) (bs : Nat → BV) (k : Nat) : Int := if 16 < k then 4 else if bunRule1 bs k then 8 else if bunRule2 p bs k then 8 else if bunRule3 p bs k then 8 else 0
theorem find_age (bs : Nat → BV) (k : Nat) : ∃ x : BV, findV bs 7 k = .tuple #[x.v, .bool (decide (cntB bs 7 k ≠ 0))] := by
  have h := cntB_find (bs := bs) (typ := 7) (k := k)
  unfold findV
  cases hf : firstOf (tyB bs 7) k with
  | some i => rw [hf] at h; rw [← h]; exact ⟨bs i, rfl⟩
  | none => rw [hf] at h; rw [← h]; exact ⟨zeroB, rfl⟩
theorem rule1_once (bs : Nat → BV) (k : Nat) : bunRule1 bs k = (decide (k = 0) || !onceB bs k) := by
  unfold bunRule1 onceB
  rw [Bool.eq_iff_iff]
  cases dupB bs k <;> simp <;> omega
theorem right_wf {b : BV} (h : b.right = 0) : InI b.num ∧ InI b.ty := by
  have := BV.right_zero h
  unfold InI
  omega
set_option maxRecDepth 20000 in
theorem rules_16 (p : PV) (bs : Nat → BV) (k c : Nat) (A : Option Addr) (h16 : 16 < k) (w : World) (h : BsL w A k bs) : Calls Try.prog 20 #[bunV p A k c] w (Ret (.int .i64 4) w) := by
  have HE := hid ((Mod.refl [] w).alloc (.cells (bunC p A k c) 29))
  have HB0 : Hid (Blk (w.alloc (.cells (bunC p A k c) 29)) w.heap.size 29 (bunC p A k c)) := hid (Blk.new w 29 (bunC p A k c))
  have xa : decide ((16 : Int) < (k : Int)) = true := decide_eq_true (by omega)
  have xb : ((16 : Int) < (k : Int)) = True := eq_true (by omega)
  have xc : decide (16 < k) = true := decide_eq_true h16
  clear h h16
  go_enter Try.func20, Try.ntmps20
  go_upto_region 1 with fail
  generalize (w.alloc (.cells (bunC p A k c) 29)) = V at *
  have b19 : ∀ e : Later V, e.x.cell? ⟨w.heap.size, 19, none⟩ = some (.slice A k c) := HB0.out.cellL 19 rfl
  have b14 : ∀ e : Later V, e.x.cell? ⟨w.heap.size, 14, none⟩ = some (.int .u64 (p.t : Int)) := HB0.out.cellL 14 rfl
  obtain ⟨e, he⟩ := Later.self V
  rw [he]
  clear he
  go_wp2_with fail
  go_ret
  exact Ret.mk rfl (HE.out.trans e.h)
set_option maxRecDepth 20000 in
set_option maxHeartbeats 3200000 in
theorem rules_let (p : PV) (bs : Nat → BV) (k c : Nat) (A : Option Addr) (h16 : ¬ 16 < k) (x : BV) (L O G F : Bool) (KF : ∀ W, BsL W A k bs → Calls Try.prog 8 #[bunV p A k c, .int .i64 7] W (Ret (.tuple #[x.v, .bool G]) W)) (KL : ∀ W, BsL W A k bs → Calls Try.prog 24 #[.slice A k c] W (Ret (.bool L) W)) (KO : ∀ W, BsL W A k bs → Calls Try.prog 25 #[.slice A k c] W (Ret (.bool O) W)) (KG : L = true → ∀ W, BsL W A k bs → Calls Try.prog 26 #[bunV p A k c] W (Ret (.bool F) W)) (w : World) (h : BsL w A k bs) : Calls Try.prog 20 #[bunV p A k c] w (Ret (.int .i64 (if !L || !O || (decide (p.t = 0) && !G) || !F then 8 else 0)) w) := by
  generalize hRES : (if !L || !O || (decide (p.t = 0) && !G) || !F then (8 : Int) else 0) = RES
  have HRES := hid hRES.symm
  clear hRES
  have HE := hid ((Mod.refl [] w).alloc (.cells (bunC p A k c) 29))
  have HB0 : Hid (Blk (w.alloc (.cells (bunC p A k c) 29)) w.heap.size 29 (bunC p A k c)) := hid (Blk.new w 29 (bunC p A k c))
  have xa : decide ((16 : Int) < (k : Int)) = false := decide_eq_false (by omega)
  have xb : ((16 : Int) < (k : Int)) = False := eq_false (by omega)
  have xc : decide (16 < k) = false := decide_eq_false h16
  have HL := hid (BsL.ext h HE.out)
  have KF := hid KF
  have KL := hid KL
  have KO := hid KO
  have KG := hid KG
  clear h h16
  go_enter Try.func20, Try.ntmps20
  go_upto_region 1 with fail
  generalize (w.alloc (.cells (bunC p A k c) 29)) = V at *
  have b19 : ∀ e : Later V, e.x.cell? ⟨w.heap.size, 19, none⟩ = some (.slice A k c) := HB0.out.cellL 19 rfl
  have b14 : ∀ e : Later V, e.x.cell? ⟨w.heap.size, 14, none⟩ = some (.int .u64 (p.t : Int)) := HB0.out.cellL 14 rfl
  obtain ⟨e, he⟩ := Later.self V
  rw [he]
  clear he
  go_upto_region 4 with (first | (go_at_call 8; refine (Ret.later (KF.out _ (HL.out.ext (Later.h _)))).mono ?_; rintro x _ ⟨rfl, e, rfl⟩) | (refine wpList_row (by rfl) 29 _ rfl _ rfl (HB0.out.later _) Try.underlying29 rfl (by kernel_rfl) ?_))
  generalize hU : World.alloc e.x _ = U
  obtain ⟨e2, rfl⟩ : ∃ e2 : Later V, U = e2.x := ⟨⟨U, by rw [← hU]; exact (Later.h e).alloc _⟩, rfl⟩
  clear hU
  cases L with
  | false =>
    go_wp2_with (first | (go_at_call 24; refine (Ret.later (KL.out _ (HL.out.ext (Later.h _)))).mono ?_; rintro x _ ⟨rfl, e, rfl⟩))
    go_ret
    exact Ret.mk (by rw [HRES.out]; simp) (HE.out.trans (Later.h _))
  | true =>
    have KH := hid (KG.out rfl)
    clear KG
    cases O with
    | false =>
      go_wp2_with (first | (go_at_call 24; refine (Ret.later (KL.out _ (HL.out.ext (Later.h _)))).mono ?_; rintro x _ ⟨rfl, e, rfl⟩) | (go_at_call 25; refine (Ret.later (KO.out _ (HL.out.ext (Later.h _)))).mono ?_; rintro x _ ⟨rfl, e, rfl⟩))
      go_ret
      exact Ret.mk (by rw [HRES.out]; simp) (HE.out.trans (Later.h _))
    | true =>
      by_cases ht : p.t = 0
      · have HT := hid ht
        have ta : (((p.t : Int)) == (0)) = true := by rw [beq_iff_eq]; omega
        have tb : (((p.t : Int)) = (0)) = True := eq_true (by omega)
        have tc : (((p.t : Int)) != (0)) = false := by rw [bne_eq_false_iff_eq]; omega
        have ua : ((p.t) == (0)) = true := by rw [beq_iff_eq]; omega
        have ub : ((p.t) = (0)) = True := eq_true (by omega)
        have uc : ((p.t) != (0)) = false := by rw [bne_eq_false_iff_eq]; omega
        clear ht
        cases G with
        | false =>
          go_wp2_with (first | (go_at_call 24; refine (Ret.later (KL.out _ (HL.out.ext (Later.h _)))).mono ?_; rintro x _ ⟨rfl, e, rfl⟩) | (go_at_call 25; refine (Ret.later (KO.out _ (HL.out.ext (Later.h _)))).mono ?_; rintro x _ ⟨rfl, e, rfl⟩))
          go_ret
          exact Ret.mk (by rw [HRES.out]; simp [HT.out]) (HE.out.trans (Later.h _))
        | true =>
          cases F with
          | false =>
            go_wp2_with (first | (go_at_call 24; refine (Ret.later (KL.out _ (HL.out.ext (Later.h _)))).mono ?_; rintro x _ ⟨rfl, e, rfl⟩) | (go_at_call 25; refine (Ret.later (KO.out _ (HL.out.ext (Later.h _)))).mono ?_; rintro x _ ⟨rfl, e, rfl⟩) | (go_at_call 26; refine (Ret.later (KH.out _ (HL.out.ext (Later.h _)))).mono ?_; rintro x _ ⟨rfl, e, rfl⟩) | (refine wpList_row (by rfl) 29 _ rfl _ rfl (HB0.out.later _) Try.underlying29 rfl (by kernel_rfl) ?_))
            go_ret
            exact Ret.mk (by rw [HRES.out]; simp) (HE.out.trans (Later.h _))
          | true =>
            go_wp2_with (first | (go_at_call 24; refine (Ret.later (KL.out _ (HL.out.ext (Later.h _)))).mono ?_; rintro x _ ⟨rfl, e, rfl⟩) | (go_at_call 25; refine (Ret.later (KO.out _ (HL.out.ext (Later.h _)))).mono ?_; rintro x _ ⟨rfl, e, rfl⟩) | (go_at_call 26; refine (Ret.later (KH.out _ (HL.out.ext (Later.h _)))).mono ?_; rintro x _ ⟨rfl, e, rfl⟩) | (refine wpList_row (by rfl) 29 _ rfl _ rfl (HB0.out.later _) Try.underlying29 rfl (by kernel_rfl) ?_))
            go_ret
            exact Ret.mk (by rw [HRES.out]; simp) (HE.out.trans (Later.h _))
      · have HT := hid ht
        have ta : (((p.t : Int)) == (0)) = false := by rw [beq_eq_false_iff_ne]; omega
        have tb : (((p.t : Int)) = (0)) = False := eq_false (by omega)
        have tc : (((p.t : Int)) != (0)) = true := by rw [bne_iff_ne]; omega
        have ua : ((p.t) == (0)) = false := by rw [beq_eq_false_iff_ne]; omega
        have ub : ((p.t) = (0)) = False := eq_false (by omega)
        have uc : ((p.t) != (0)) = true := by rw [bne_iff_ne]; omega
        clear ht
        cases F with
        | false =>
          go_wp2_with (first | (go_at_call 24; refine (Ret.later (KL.out _ (HL.out.ext (Later.h _)))).mono ?_; rintro x _ ⟨rfl, e, rfl⟩) | (go_at_call 25; refine (Ret.later (KO.out _ (HL.out.ext (Later.h _)))).mono ?_; rintro x _ ⟨rfl, e, rfl⟩) | (go_at_call 26; refine (Ret.later (KH.out _ (HL.out.ext (Later.h _)))).mono ?_; rintro x _ ⟨rfl, e, rfl⟩) | (refine wpList_row (by rfl) 29 _ rfl _ rfl (HB0.out.later _) Try.underlying29 rfl (by kernel_rfl) ?_))
          go_ret
          exact Ret.mk (by rw [HRES.out]; simp [HT.out]) (HE.out.trans (Later.h _))
        | true =>
          go_wp2_with (first | (go_at_call 24; refine (Ret.later (KL.out _ (HL.out.ext (Later.h _)))).mono ?_; rintro x _ ⟨rfl, e, rfl⟩) | (go_at_call 25; refine (Ret.later (KO.out _ (HL.out.ext (Later.h _)))).mono ?_; rintro x _ ⟨rfl, e, rfl⟩) | (go_at_call 26; refine (Ret.later (KH.out _ (HL.out.ext (Later.h _)))).mono ?_; rintro x _ ⟨rfl, e, rfl⟩) | (refine wpList_row (by rfl) 29 _ rfl _ rfl (HB0.out.later _) Try.underlying29 rfl (by kernel_rfl) ?_))
          go_ret
          exact Ret.mk (by rw [HRES.out]; simp [HT.out]) (HE.out.trans (Later.h _))
theorem rules_any (p : PV) (bs : Nat → BV) (k c : Nat) (A : Option Addr) (hf : p.fl < 18446744073709551616) (hk : k < 4611686018427387904) (hp : p.right = 0) (hbs : ∀ i, i < k → (bs i).right = 0) (w : World) (h : BsL w A k bs) : Calls Try.prog 20 #[bunV p A k c] w (Ret (.int .i64 (rulesR p bs k)) w) := by
  have hrs := PV.ranged_spec (PV.right_ranged hp)
  unfold rulesR
  by_cases h16 : 16 < k
  · rw [if_pos h16]; exact rules_16 p bs k c A h16 w h
  · rw [if_neg h16, rule1_once]
    obtain ⟨x, hx⟩ := find_age bs k
    have KF : ∀ W, BsL W A k bs → Calls Try.prog 8 #[bunV p A k c, .int .i64 7] W (Ret (.tuple #[x.v, .bool (decide (cntB bs 7 k ≠ 0))]) W) := fun W hW => by rw [← hx]; exact Find_any p bs k c A 7 hk W hW
    have KO : ∀ W, BsL W A k bs → Calls Try.prog 25 #[.slice A k c] W (Ret (.bool (onceB bs k)) W) := fun W hW => once_any bs k c A (by omega) (fun i hi => right_wf (hbs i hi)) W hW
    cases k with
    | zero =>
      have := rules_let p bs 0 c A h16 x false (onceB bs 0) _ true KF (fun W hW => lasts_0 bs c A W) KO (fun e => by cases e) w h
      simpa using this
    | succ m =>
      have hm := hbs m (by omega)
      have hz := BV.right_zero hm
      have := rules_let p bs (m + 1) c A h16 x (decide ((bs m).ty = 1)) (onceB bs (m + 1)) _ (!(has p.fl 1 && decide (p.n < p.o + (bs m).data.length))) KF (fun W hW => lasts_S bs m c A (by omega) W hW) KO (fun _ W hW => fits_S p bs m c A (by omega) hf (by omega) (by omega) W hW) w h
      refine this.mono fun r w' hr => ?_
      have e : (if !decide ((bs m).ty = 1) || !onceB bs (m + 1) || (decide (p.t = 0) && !decide (cntB bs 7 (m + 1) ≠ 0)) || !!(has p.fl 1 && decide (p.n < p.o + (bs m).data.length)) then (8 : Int) else 0) =
          if (decide (m + 1 = 0) || !onceB bs (m + 1)) = true then 8 else if bunRule2 p bs (m + 1) = true then 8 else if bunRule3 p bs (m + 1) = true then 8 else 0 := by
        unfold bunRule2 bunRule3
        simp only [Nat.add_sub_cancel]
        cases onceB bs (m + 1) <;> by_cases ht : (bs m).ty = 1 <;> by_cases h0 : p.t = 0 <;> by_cases h7 : cntB bs 7 (m + 1) = 0 <;> cases has p.fl 1 <;> simp [ht, h0, h7]
      rw [← e]
      exact hr
set_option maxRecDepth 20000 in
set_option maxHeartbeats 1600000 in
theorem made_p (p : PV) (bs : Nat → BV) (k c : Nat) (A : Option Addr) (r : Int) (hr : r ≠ 0) (KP : Hid (∀ W, BsL W A k bs → Calls Try.prog 19 #[bunV p A k c] W (Ret (.int .i64 r) W))) (w : World) (h : BsL w A k bs) : Calls Try.prog 15 #[bunV p A k c] w (Ret (.tuple #[str [], .int .i64 r]) w) := by
  have HE := hid ((Mod.refl [] w).alloc (.cells (bunC p A k c) 29))
  have HB0 : Hid (Blk (w.alloc (.cells (bunC p A k c) 29)) w.heap.size 29 (bunC p A k c)) := hid (Blk.new w 29 (bunC p A k c))
  have HL := hid (BsL.ext h HE.out)
  clear h
  have ra : ((r) == (0)) = false := by rw [beq_eq_false_iff_ne]; exact hr
  have rb : ((r) = (0)) = False := eq_false (by exact hr)
  have rc : ((r) != (0)) = true := by rw [bne_iff_ne]; exact hr
  clear hr
  go_enter Try.func15, Try.ntmps15
  go_upto_region 1 with fail
  generalize (w.alloc (.cells (bunC p A k c) 29)) = V at *
  obtain ⟨e, he⟩ := Later.self V
  rw [he]
  clear he
  go_wp2_with (first | (refine wpList_row (by rfl) 29 _ rfl _ rfl (HB0.out.later _) Try.underlying29 rfl (by kernel_rfl) ?_) | (go_at_call 19; refine (Ret.later (KP.out _ (HL.out.ext (Later.h _)))).mono ?_; rintro x _ ⟨rfl, e, rfl⟩))
  go_ret2
  exact Ret.mk rfl (HE.out.trans (Later.h _))
set_option maxRecDepth 20000 in
set_option maxHeartbeats 1600000 in
theorem made_r (p : PV) (bs : Nat → BV) (k c : Nat) (A : Option Addr) (r : Int) (hr : r ≠ 0) (KP : Hid (∀ W, BsL W A k bs → Calls Try.prog 19 #[bunV p A k c] W (Ret (.int .i64 0) W))) (KR : Hid (∀ W, BsL W A k bs → Calls Try.prog 20 #[bunV p A k c] W (Ret (.int .i64 r) W))) (w : World) (h : BsL w A k bs) : Calls Try.prog 15 #[bunV p A k c] w (Ret (.tuple #[str [], .int .i64 r]) w) := by
  have HE := hid ((Mod.refl [] w).alloc (.cells (bunC p A k c) 29))
  have HB0 : Hid (Blk (w.alloc (.cells (bunC p A k c) 29)) w.heap.size 29 (bunC p A k c)) := hid (Blk.new w 29 (bunC p A k c))
  have HL := hid (BsL.ext h HE.out)
  clear h
  have ra : ((r) == (0)) = false := by rw [beq_eq_false_iff_ne]; exact hr
  have rb : ((r) = (0)) = False := eq_false (by exact hr)
  have rc : ((r) != (0)) = true := by rw [bne_iff_ne]; exact hr
  clear hr
  go_enter Try.func15, Try.ntmps15
  go_upto_region 1 with fail
  generalize (w.alloc (.cells (bunC p A k c) 29)) = V at *
  obtain ⟨e, he⟩ := Later.self V
  rw [he]
  clear he
  go_wp2_with (first | (refine wpList_row (by rfl) 29 _ rfl _ rfl (HB0.out.later _) Try.underlying29 rfl (by kernel_rfl) ?_) | (go_at_call 19; refine (Ret.later (KP.out _ (HL.out.ext (Later.h _)))).mono ?_; rintro x _ ⟨rfl, e, rfl⟩) | (go_at_call 20; refine (Ret.later (KR.out _ (HL.out.ext (Later.h _)))).mono ?_; rintro x _ ⟨rfl, e, rfl⟩))
  go_ret2
  exact Ret.mk rfl (HE.out.trans (Later.h _))
set_option maxRecDepth 20000 in
set_option maxHeartbeats 1600000 in
theorem made_l (p : PV) (bs : Nat → BV) (k c : Nat) (A : Option Addr) (BB : List UInt8) (hl : 4000 < BB.length) (KP : Hid (∀ W, BsL W A k bs → Calls Try.prog 19 #[bunV p A k c] W (Ret (.int .i64 0) W))) (KR : Hid (∀ W, BsL W A k bs → Calls Try.prog 20 #[bunV p A k c] W (Ret (.int .i64 0) W))) (KB : Hid (∀ W, BsL W A k bs → Calls Try.prog 21 #[bunV p A k c] W (Ret (str BB) W))) (w : World) (h : BsL w A k bs) : Calls Try.prog 15 #[bunV p A k c] w (Ret (.tuple #[str [], .int .i64 4]) w) := by
  have HE := hid ((Mod.refl [] w).alloc (.cells (bunC p A k c) 29))
  have HB0 : Hid (Blk (w.alloc (.cells (bunC p A k c) 29)) w.heap.size 29 (bunC p A k c)) := hid (Blk.new w 29 (bunC p A k c))
  have HL := hid (BsL.ext h HE.out)
  clear h
  have la : decide ((4000 : Int) < (BB.length : Int)) = true := decide_eq_true (by omega)
  have lb : ((4000 : Int) < (BB.length : Int)) = True := eq_true (by omega)
  have lc : decide (4000 < BB.length) = true := decide_eq_true hl
  clear hl
  go_enter Try.func15, Try.ntmps15
  go_upto_region 1 with fail
  generalize (w.alloc (.cells (bunC p A k c) 29)) = V at *
  obtain ⟨e, he⟩ := Later.self V
  rw [he]
  clear he
  go_wp2_with (first | (refine wpList_row (by rfl) 29 _ rfl _ rfl (HB0.out.later _) Try.underlying29 rfl (by kernel_rfl) ?_) | (go_at_call 19; refine (Ret.later (KP.out _ (HL.out.ext (Later.h _)))).mono ?_; rintro x _ ⟨rfl, e, rfl⟩) | (go_at_call 20; refine (Ret.later (KR.out _ (HL.out.ext (Later.h _)))).mono ?_; rintro x _ ⟨rfl, e, rfl⟩) | (go_at_call 21; refine (Ret.later (KB.out _ (HL.out.ext (Later.h _)))).mono ?_; rintro x _ ⟨rfl, e, rfl⟩))
  go_ret2
  exact Ret.mk rfl (HE.out.trans (Later.h _))
set_option maxRecDepth 20000 in
set_option maxHeartbeats 1600000 in
theorem made_0 (p : PV) (bs : Nat → BV) (k c : Nat) (A : Option Addr) (BB : List UInt8) (hl : ¬ 4000 < BB.length) (KP : Hid (∀ W, BsL W A k bs → Calls Try.prog 19 #[bunV p A k c] W (Ret (.int .i64 0) W))) (KR : Hid (∀ W, BsL W A k bs → Calls Try.prog 20 #[bunV p A k c] W (Ret (.int .i64 0) W))) (KB : Hid (∀ W, BsL W A k bs → Calls Try.prog 21 #[bunV p A k c] W (Ret (str BB) W))) (w : World) (h : BsL w A k bs) : Calls Try.prog 15 #[bunV p A k c] w (Ret (.tuple #[str BB, .int .i64 0]) w) := by
  have HE := hid ((Mod.refl [] w).alloc (.cells (bunC p A k c) 29))
  have HB0 : Hid (Blk (w.alloc (.cells (bunC p A k c) 29)) w.heap.size 29 (bunC p A k c)) := hid (Blk.new w 29 (bunC p A k c))
  have HL := hid (BsL.ext h HE.out)
  clear h
  have la : decide ((4000 : Int) < (BB.length : Int)) = false := decide_eq_false (by omega)
  have lb : ((4000 : Int) < (BB.length : Int)) = False := eq_false (by omega)
  have lc : decide (4000 < BB.length) = false := decide_eq_false hl
  clear hl
  go_enter Try.func15, Try.ntmps15
  go_upto_region 1 with fail
  generalize (w.alloc (.cells (bunC p A k c) 29)) = V at *
  obtain ⟨e, he⟩ := Later.self V
  rw [he]
  clear he
  go_wp2_with (first | (refine wpList_row (by rfl) 29 _ rfl _ rfl (HB0.out.later _) Try.underlying29 rfl (by kernel_rfl) ?_) | (go_at_call 19; refine (Ret.later (KP.out _ (HL.out.ext (Later.h _)))).mono ?_; rintro x _ ⟨rfl, e, rfl⟩) | (go_at_call 20; refine (Ret.later (KR.out _ (HL.out.ext (Later.h _)))).mono ?_; rintro x _ ⟨rfl, e, rfl⟩) | (go_at_call 21; refine (Ret.later (KB.out _ (HL.out.ext (Later.h _)))).mono ?_; rintro x _ ⟨rfl, e, rfl⟩))
  go_ret2
  exact Ret.mk rfl (HE.out.trans (Later.h _))
/-- What made hands back. -/
def madeV (p : PV) (bs : Nat → BV) (k : Nat) : Value := .tuple #[str (if bunRight p bs k = 0 then bunBytes p bs k else []), .int .i64 (bunRight p bs k)]
theorem made_any (p : PV) (bs : Nat → BV) (k c : Nat) (A : Option Addr) (hnl : Hid (p.d.name.length < 4611686018427387904 ∧ p.s.name.length < 4611686018427387904 ∧ p.r.name.length < 4611686018427387904)) (hf : p.fl < 18446744073709551616) (hk : k < 4611686018427387904) (w : World) (h : BsL w A k bs) : Calls Try.prog 15 #[bunV p A k c] w (Ret (madeV p bs k) w) := by
  have KP := hid (fun W (hW : BsL W A k bs) => bparts_any p bs k c A hnl hf hk W hW)
  unfold madeV
  by_cases hp : p.right = 0
  · cases hfo : firstOf (badAt bs) k with
    | some i =>
      have hb : (bs i).right ≠ 0 := by have := (firstOf_spec hfo).2.1; simpa [badAt] using this
      have e1 : partsR p bs k = (bs i).right := by unfold partsR; rw [if_neg (by simpa using hp), hfo]
      have e2 : bunRight p bs k = (bs i).right := by unfold bunRight; rw [if_neg (by simpa using hp), hfo]
      rw [e1] at KP
      rw [e2, if_neg hb]
      exact made_p p bs k c A _ hb KP w h
    | none =>
      have hbs : ∀ i, i < k → (bs i).right = 0 := fun i hi => bad_no (firstOf_no hfo i hi)
      have e1 : partsR p bs k = 0 := by unfold partsR; rw [if_neg (by simpa using hp), hfo]
      have e2 : bunRight p bs k = if rulesR p bs k ≠ 0 then rulesR p bs k else if 4000 < (bunBytes p bs k).length then 4 else 0 := by
        unfold bunRight rulesR
        rw [if_neg (show ¬ p.right ≠ 0 by simpa using hp), hfo]
        by_cases h16 : 16 < k
        · simp [h16]
        · cases bunRule1 bs k <;> cases bunRule2 p bs k <;> cases bunRule3 p bs k <;> simp [h16]
      rw [e1] at KP
      have KR := hid (fun W (hW : BsL W A k bs) => rules_any p bs k c A hf hk hp hbs W hW)
      by_cases hr : rulesR p bs k = 0
      · rw [hr] at KR
        have h16 : k ≤ 16 := by
          unfold rulesR at hr
          by_cases h16 : 16 < k
          · rw [if_pos h16] at hr; exact absurd hr (by decide)
          · omega
        have KB := hid (fun W (hW : BsL W A k bs) => bbuild_any p bs k c A hnl hf (by omega) hp hbs W hW)
        have e3 : bunRight p bs k = if 4000 < (bunBytes p bs k).length then 4 else 0 := by rw [e2, if_neg (show ¬ rulesR p bs k ≠ 0 by simpa using hr)]
        by_cases hl : 4000 < (bunBytes p bs k).length
        · rw [if_pos hl] at e3
          rw [e3, if_neg (show ¬ (4 : Int) = 0 by decide)]; exact made_l p bs k c A _ hl KP KR KB w h
        · rw [if_neg hl] at e3
          rw [e3, if_pos rfl]; exact made_0 p bs k c A _ hl KP KR KB w h
      · rw [e2, if_pos hr, if_neg hr]
        exact made_r p bs k c A _ hr KP KR w h
  · have e1 : partsR p bs k = p.right := by unfold partsR; rw [if_pos hp]
    have e2 : bunRight p bs k = p.right := by unfold bunRight; rw [if_pos hp]
    rw [e1] at KP
    rw [e2, if_neg hp]
    exact made_p p bs k c A _ hp KP w h
set_option maxRecDepth 20000 in
theorem cBunBuild_any (p : PV) (bs : Nat → BV) (k c : Nat) (A : Option Addr) (hnl : Hid (p.d.name.length < 4611686018427387904 ∧ p.s.name.length < 4611686018427387904 ∧ p.r.name.length < 4611686018427387904)) (hf : p.fl < 18446744073709551616) (hk : k < 4611686018427387904) (w : World) (h : BsL w A k bs) : Calls Try.prog 10 #[bunV p A k c] w (Ret (madeV p bs k) w) := by
  have KM := hid (fun W (hW : BsL W A k bs) => made_any p bs k c A hnl hf hk W hW)
  unfold madeV at KM
  unfold madeV
  generalize (if bunRight p bs k = 0 then bunBytes p bs k else []) = BB at *
  generalize bunRight p bs k = r at *
  have HE := hid ((Mod.refl [] w).alloc (.cells (bunC p A k c) 29))
  have HB0 : Hid (Blk (w.alloc (.cells (bunC p A k c) 29)) w.heap.size 29 (bunC p A k c)) := hid (Blk.new w 29 (bunC p A k c))
  have HL := hid (BsL.ext h HE.out)
  clear h
  go_enter Try.func10, Try.ntmps10
  go_upto_region 1 with fail
  generalize (w.alloc (.cells (bunC p A k c) 29)) = V at *
  obtain ⟨e, he⟩ := Later.self V
  rw [he]
  clear he
  go_wp2_with (first | (refine wpList_row (by rfl) 29 _ rfl _ rfl (HB0.out.later _) Try.underlying29 rfl (by kernel_rfl) ?_) | (go_at_call 15; refine (Ret.later (KM.out _ (HL.out.ext (Later.h _)))).mono ?_; rintro x _ ⟨rfl, e, rfl⟩))
  go_ret2
  exact Ret.mk rfl (HE.out.trans (Later.h _))
end Go.Proofs.Ytcajjhmldghakaa


namespace Go.Proofs.Ytcajjhmldghakaa
open Go.RowKit
set_option linter.unusedVariables false
set_option linter.unusedSimpArgs false

def someP : PV := ⟨0, 0, ⟨2, [], 2, 0⟩, ⟨2, [], 1, 0⟩, ⟨1, [110, 111, 110, 101], 0, 0⟩, 5, 0, 100, 0, 0⟩
def someB : Nat → BV := fun _ => ⟨1, 1, 0, 0, [104, 105]⟩
/-- A bundle's value whose one block lies in a new memory block. -/
def SomeR (w : World) (e : Ending) (w' : World) : Prop := ∃ g, e = .returned (bunV someP (some ⟨g, 0, none⟩) 1 1) ∧ Ext w w' ∧ BsL w' (some ⟨g, 0, none⟩) 1 someB
/-- .. and what is known of that block. -/
def SomeN (w : World) (e : Ending) (w' : World) : Prop := ∃ g, e = .returned (bunV someP (some ⟨g, 0, none⟩) 1 1) ∧ Ext w w' ∧ BsL w' (some ⟨g, 0, none⟩) 1 someB ∧ w.heap.size ≤ g ∧ Blk w' g 33 (BV.c (someB 0))
set_option maxRecDepth 20000 in
theorem some_new (w : World) : Calls Try.prog 11 #[] w (SomeN w) := by
  have HE := hid ((Mod.refl [] w).alloc (.cells #[.int .u64 0, .int .i64 0, .int .i64 0, .string ⟨#[]⟩, .int .u64 0, .int .u64 0, .int .i64 0, .string ⟨#[]⟩, .int .u64 0, .int .u64 0, .int .i64 0, .string ⟨#[]⟩, .int .u64 0, .int .u64 0, .int .u64 0, .int .u64 0, .int .u64 0, .int .u64 0, .int .u64 0, .slice none 0 0] 29))
  have HR := hid (Blk.new w 29 #[.int .u64 0, .int .i64 0, .int .i64 0, .string ⟨#[]⟩, .int .u64 0, .int .u64 0, .int .i64 0, .string ⟨#[]⟩, .int .u64 0, .int .u64 0, .int .i64 0, .string ⟨#[]⟩, .int .u64 0, .int .u64 0, .int .u64 0, .int .u64 0, .int .u64 0, .int .u64 0, .int .u64 0, .slice none 0 0])
  go_enter Try.func11, Try.ntmps11
  go_upto_region 1 with fail
  generalize w.alloc (.cells #[.int .u64 0, .int .i64 0, .int .i64 0, .string ⟨#[]⟩, .int .u64 0, .int .u64 0, .int .i64 0, .string ⟨#[]⟩, .int .u64 0, .int .u64 0, .int .i64 0, .string ⟨#[]⟩, .int .u64 0, .int .u64 0, .int .u64 0, .int .u64 0, .int .u64 0, .int .u64 0, .int .u64 0, .slice none 0 0] 29) = V at *
  go_upto_region 2 with (refine wpList_store_mid rfl 26 _ _ rfl V.heap.size 0 #[.int .u64 0, .int .i64 0, .int .i64 2, str [], .int .u64 2, .int .u64 0, .int .i64 2, str [], .int .u64 1, .int .u64 0, .int .i64 1, str [110, 111, 110, 101], .int .u64 0, .int .u64 0, .int .u64 5, .int .u64 0, .int .u64 100, .int .u64 0, .int .u64 0] (by rfl) (by rfl) ((Blk.new _ _ _).there (Nat.le_refl 19)) (by kernel_rfl) (by simp [Value.oneCell']) ?_)
  generalize hU : World.setCells _ _ _ _ = U
  have HX : Hid (Blk U V.heap.size 26 #[.int .u64 0, .int .i64 0, .int .i64 2, str [], .int .u64 2, .int .u64 0, .int .i64 2, str [], .int .u64 1, .int .u64 0, .int .i64 1, str [110, 111, 110, 101], .int .u64 0, .int .u64 0, .int .u64 5, .int .u64 0, .int .u64 100, .int .u64 0, .int .u64 0]) := hid (by rw [← hU]; exact setCells_all (ds := #[.int .u64 0, .int .i64 0, .int .i64 2, str [], .int .u64 2, .int .u64 0, .int .i64 2, str [], .int .u64 1, .int .u64 0, .int .i64 1, str [110, 111, 110, 101], .int .u64 0, .int .u64 0, .int .u64 5, .int .u64 0, .int .u64 100, .int .u64 0, .int .u64 0]) (Blk.new _ _ _) rfl)
  have HM : Hid (Ext V U) := hid (by rw [← hU]; exact setCells_mod _ _ ((Mod.refl [] V).alloc _) (.inr (Nat.le_refl _)))
  have HRU := hid (HR.out.ext HM.out)
  clear hU
  generalize V.heap.size = vs at *
  go_wp2_with (first | (refine wpList_row (by rfl) 26 _ rfl _ rfl HX.out Try.underlying26 rfl (by kernel_rfl) ?_) | (refine wpList_store_mid rfl 29 _ _ rfl w.heap.size 0 #[.int .u64 0, .int .i64 0, .int .i64 2, str [], .int .u64 2, .int .u64 0, .int .i64 2, str [], .int .u64 1, .int .u64 0, .int .i64 1, str [110, 111, 110, 101], .int .u64 0, .int .u64 0, .int .u64 5, .int .u64 0, .int .u64 100, .int .u64 0, .int .u64 0, .slice (some ⟨U.heap.size, 0, none⟩) 1 1] (by rfl) (by rfl) ((HRU.out.alloc _).there (Nat.le_refl 20)) (by kernel_rfl) (by simp [Value.oneCell']) ?_))
  generalize hW2 : World.setCells _ _ _ _ = W2
  have HXX : Hid (Blk W2 w.heap.size 29 #[.int .u64 0, .int .i64 0, .int .i64 2, str [], .int .u64 2, .int .u64 0, .int .i64 2, str [], .int .u64 1, .int .u64 0, .int .i64 1, str [110, 111, 110, 101], .int .u64 0, .int .u64 0, .int .u64 5, .int .u64 0, .int .u64 100, .int .u64 0, .int .u64 0, .slice (some ⟨U.heap.size, 0, none⟩) 1 1]) := hid (by rw [← hW2]; exact setCells_all (ds := #[.int .u64 0, .int .i64 0, .int .i64 2, str [], .int .u64 2, .int .u64 0, .int .i64 2, str [], .int .u64 1, .int .u64 0, .int .i64 1, str [110, 111, 110, 101], .int .u64 0, .int .u64 0, .int .u64 5, .int .u64 0, .int .u64 100, .int .u64 0, .int .u64 0, .slice (some ⟨U.heap.size, 0, none⟩) 1 1]) (HRU.out.alloc _) rfl)
  have HM2 : Hid (Ext w W2) := hid (by rw [← hW2]; exact setCells_mod _ _ ((HE.out.trans HM.out).alloc _) (.inr (Nat.le_refl _)))
  have HNB : Hid (Mod [w.heap.size] (U.alloc (.cells #[.int .i64 1, .int .i64 1, .int .u64 0, .int .i64 0, .string ⟨#[104, 105]⟩] 33)) W2) := hid (by rw [← hW2]; exact setCells_mod _ _ (Mod.refl _ _) (.inl (by simp)))
  have HNE : Hid (U.heap.size ≠ w.heap.size) := hid (by have := HRU.out.lt; omega)
  have HBX := hid (Blk.new U 33 #[.int .i64 1, .int .i64 1, .int .u64 0, .int .i64 0, .string ⟨#[104, 105]⟩])
  clear hW2
  refine bodyPost_ret (v := .agg #[.int .u64 0, .int .i64 0, .int .i64 2, str [], .int .u64 2, .int .u64 0, .int .i64 2, str [], .int .u64 1, .int .u64 0, .int .i64 1, str [110, 111, 110, 101], .int .u64 0, .int .u64 0, .int .u64 5, .int .u64 0, .int .u64 100, .int .u64 0, .int .u64 0, .slice (some ⟨U.heap.size, 0, none⟩) 1 1]) (results_cell Try.results11 _ rfl HXX.out Try.underlying29 rfl (by kernel_rfl)) rfl ?_
  have HB2 := HBX.out.mod HNB.out (by simpa using HNE.out)
  refine ⟨U.heap.size, rfl, HM2.out, fun _ => ⟨U.heap.size, 0, rfl, HB2.lt, fun i hi => ?_⟩, (HE.out.trans HM.out).size, HB2⟩
  obtain rfl : i = 0 := by omega
  exact ⟨HB2.cell 0, HB2.cell 1, HB2.cell 2, HB2.cell 3, HB2.cell 4⟩
theorem some_any (w : World) : Calls Try.prog 11 #[] w (SomeR w) := (some_new w).mono fun _ _ ⟨g, h1, h2, h3, _⟩ => ⟨g, h1, h2, h3⟩
end Go.Proofs.Ytcajjhmldghakaa


namespace Go.Proofs.Ytcajjhmldghakaa
open Go.RowKit
set_option linter.unusedVariables false
set_option linter.unusedSimpArgs false

/-- How many of the first k blocks have a number of n or more. -/
def cntGe (bs : Nat → BV) (n : Int) : Nat → Nat
  | 0 => 0
  | k + 1 => cntGe bs n k + (if n ≤ (bs k).num then 1 else 0)
theorem cntGe_le (bs : Nat → BV) (n : Int) : ∀ k, cntGe bs n k ≤ k
  | 0 => Nat.le_refl _
  | k + 1 => by have := cntGe_le bs n k; rw [cntGe]; split <;> omega
theorem cntGe_mono (bs : Nat → BV) (n : Int) : ∀ k, cntGe bs (n + 1) k ≤ cntGe bs n k
  | 0 => Nat.le_refl _
  | k + 1 => by
    have := cntGe_mono bs n k
    rw [cntGe, cntGe]
    split <;> split <;> omega
theorem cntGe_less {bs : Nat → BV} {n : Int} {i : Nat} : ∀ {k : Nat}, i < k → (bs i).num = n → cntGe bs (n + 1) k + 1 ≤ cntGe bs n k
  | k + 1, h, hn => by
    rw [cntGe, cntGe]
    by_cases e : i = k
    · subst e
      have := cntGe_mono bs n i
      rw [if_neg (by omega), if_pos (by omega)]
      omega
    · have := cntGe_less (k := k) (by omega) hn
      split <;> split <;> omega
def usedB (bs : Nat → BV) (k : Nat) (n : Nat) : Prop := ∃ i, firstOf (numB bs (n : Int)) k = some i
theorem free_ex (bs : Nat → BV) (k : Nat) : ∀ (m n : Nat), cntGe bs (n : Int) k ≤ m → ∃ N, n ≤ N ∧ N ≤ n + m ∧ firstOf (numB bs (N : Int)) k = none ∧ ∀ j, n ≤ j → j < N → usedB bs k j
  | m, n, h => by
    cases hf : firstOf (numB bs (n : Int)) k with
    | none => exact ⟨n, Nat.le_refl _, by omega, hf, fun j h1 h2 => by omega⟩
    | some i =>
      obtain ⟨h1, h2, _⟩ := firstOf_spec hf
      have hn : (bs i).num = (n : Int) := by simpa [numB, hasNum] using h2
      have hl := cntGe_less h1 hn
      obtain ⟨m', rfl⟩ : ∃ m', m = m' + 1 := ⟨m - 1, by omega⟩
      have h3 : cntGe bs ((n + 1 : Nat) : Int) k ≤ m' := by have : ((n + 1 : Nat) : Int) = (n : Int) + 1 := by omega
                                                            rw [this]; omega
      obtain ⟨N, a1, a2, a3, a4⟩ := free_ex bs k m' (n + 1) h3
      refine ⟨N, by omega, by omega, a3, fun j b1 b2 => ?_⟩
      by_cases e : j = n
      · subst e; exact ⟨i, hf⟩
      · exact a4 j (by omega) b2
/-- The least number that is free. -/
noncomputable def freeN (bs : Nat → BV) (k : Nat) : Nat := (free_ex bs k (cntGe bs ((2 : Nat) : Int) k) 2 (Nat.le_refl _)).choose
theorem freeN_spec (bs : Nat → BV) (k : Nat) : 2 ≤ freeN bs k ∧ freeN bs k ≤ 2 + k ∧ firstOf (numB bs (freeN bs k : Int)) k = none ∧ ∀ j, 2 ≤ j → j < freeN bs k → usedB bs k j := by
  obtain ⟨h1, h2, h3, h4⟩ := (free_ex bs k (cntGe bs ((2 : Nat) : Int) k) 2 (Nat.le_refl _)).choose_spec
  have := cntGe_le bs ((2 : Nat) : Int) k
  exact ⟨h1, Nat.le_trans h2 (by omega), h3, h4⟩
theorem freeN_eq {bs : Nat → BV} {k N : Nat} (h1 : 2 ≤ N) (h2 : firstOf (numB bs (N : Int)) k = none) (h3 : ∀ j, 2 ≤ j → j < N → usedB bs k j) : freeN bs k = N := by
  obtain ⟨g1, g2, g3, g4⟩ := freeN_spec bs k
  rcases Nat.lt_trichotomy (freeN bs k) N with hlt | he | hgt
  · obtain ⟨i, hi⟩ := h3 _ g1 hlt; rw [g3] at hi; cases hi
  · exact he
  · obtain ⟨i, hi⟩ := g4 _ h1 hgt; rw [h2] at hi; cases hi
set_option maxRecDepth 20000 in
set_option maxHeartbeats 800000 in
theorem Free_any (p : PV) (bs : Nat → BV) (k c : Nat) (A : Option Addr) (hk : k < 4611686018427387904) (w : World) (h : BsL w A k bs) : Calls Try.prog 12 #[bunV p A k c] w (Ret (.int .i64 (freeN bs k : Nat)) w) := by
  have HS := hid (freeN_spec bs k)
  have KA := hid (fun W n (hW : BsL W A k bs) => at_any p bs k c A n hk W hW)
  have n9 : ((freeN bs k : Nat) : Int) ≤ 4611686018427387910 := by have := HS.out.2.1; omega
  generalize freeN bs k = N at *
  have HE := hid ((Mod.refl [] w).alloc (.cells (bunC p A k c) 29))
  have HB0 : Hid (Blk (w.alloc (.cells (bunC p A k c) 29)) w.heap.size 29 (bunC p A k c)) := hid (Blk.new w 29 (bunC p A k c))
  have HL := hid (BsL.ext h HE.out)
  clear h hk
  go_enter Try.func12, Try.ntmps12
  go_upto_region 1 with fail
  generalize (w.alloc (.cells (bunC p A k c) 29)) = V at *
  obtain ⟨e, he⟩ := Later.self V
  rw [he]
  clear he
  go_upto_region 2 with fail
  go_loopw [3] (fun s3 wr => ∃ n : Nat, s3 = .int .i64 (n : Int) ∧ Hid (2 ≤ n ∧ n ≤ N) ∧ ∃ e : Later V, wr = e.x) (fun s3 _ => N - (intOf s3).toNat)
  case atStart => exact ⟨2, rfl, (show Hid _ from ⟨by omega, HS.out.1⟩), e, rfl⟩
  case round =>
    clear e
    obtain ⟨n, rfl, hn, e, rfl⟩ := hrel
    have n0 : (0 : Int) ≤ (n : Int) := by omega
    have n1 : (n : Int) ≤ (N : Int) := by have := hn.out; omega
    by_cases hlt : n < N
    · obtain ⟨i, hi⟩ := HS.out.2.2.2 n hn.out.1 hlt
      have KB := hid (fun W hW => KA.out W (n : Int) hW)
      unfold firstI at KB
      rw [hi] at KB
      have HLT := hid hlt
      have i0 : (0 : Int) ≤ (i : Int) := by omega
      have i1 : decide ((i : Int) < 0) = false := by simp
      have i2 : ((i : Int) < 0) = False := eq_false (by omega)
      have i3 : decide ((0 : Int) ≤ (i : Int)) = true := decide_eq_true (by omega)
      have n2 : (n : Int) < (N : Int) := by omega
      clear hi hlt KA
      go_wp2_with (first | (refine wpList_row (by rfl) 29 _ rfl _ rfl (HB0.out.later _) Try.underlying29 rfl (by kernel_rfl) ?_) | (go_at_call 14; refine (Ret.later (KB.out _ (HL.out.ext (Later.h _)))).mono ?_; rintro x _ ⟨rfl, e, rfl⟩))
      go_roundw
      case rel => exact ⟨n + 1, by go_num, (show Hid _ from ⟨by have := hn.out.1; omega, HLT.out⟩), e, rfl⟩
      case measure => have := HLT.out; simp [intOf]; omega
    · obtain rfl : n = N := by have := hn.out.2; omega
      have KB := hid (fun W hW => KA.out W (n : Int) hW)
      unfold firstI at KB
      rw [HS.out.2.2.1] at KB
      clear KA hlt
      go_wp2_with (first | (refine wpList_row (by rfl) 29 _ rfl _ rfl (HB0.out.later _) Try.underlying29 rfl (by kernel_rfl) ?_) | (go_at_call 14; refine (Ret.later (KB.out _ (HL.out.ext (Later.h _)))).mono ?_; rintro x _ ⟨rfl, e, rfl⟩))
      go_ret
      exact Ret.mk rfl (HE.out.trans e.h)
end Go.Proofs.Ytcajjhmldghakaa


namespace Go.Proofs.Ytcajjhmldghakaa
open Go.RowKit
set_option linter.unusedVariables false
set_option linter.unusedSimpArgs false

theorem someBun : bunRight someP someB 1 = 0 ∧ (bunBytes someP someB 1).length = 32 := by decide +kernel
theorem someFree : freeN someB 1 = 2 := freeN_eq (by omega) (by decide +kernel) (fun j h1 h2 => by omega)
set_option maxRecDepth 20000 in
theorem awake13_any (w : World) : Calls Try.prog 4 #[] w (Ret (.bool true) w) := by
  have KS := hid (fun W => some_any W)
  have KB : Hid (∀ W g, BsL W (some ⟨g, 0, none⟩) 1 someB → Calls Try.prog 10 #[bunV someP (some ⟨g, 0, none⟩) 1 1] W (Ret (.tuple #[str (bunBytes someP someB 1), .int .i64 0]) W)) := fun W g hL => by
    have := cBunBuild_any someP someB 1 1 (some ⟨g, 0, none⟩) (by unfold Hid; decide) (by decide) (by omega) W hL
    unfold madeV at this
    rw [someBun.1, if_pos rfl] at this
    exact this
  have KF : Hid (∀ W g, BsL W (some ⟨g, 0, none⟩) 1 someB → Calls Try.prog 12 #[bunV someP (some ⟨g, 0, none⟩) 1 1] W (Ret (.int .i64 2) W)) := fun W g hL => by
    have := Free_any someP someB 1 1 (some ⟨g, 0, none⟩) (by omega) W hL
    rw [someFree] at this
    exact this
  have hl := someBun.2
  generalize bunBytes someP someB 1 = B at *
  have l1 : ((B.length : Int) == 32) = true := by rw [hl]; rfl
  have l2 : ((B.length : Int) = 32) = True := by rw [hl]; simp
  have l3 : (B.length = 32) = True := by rw [hl]; simp
  clear hl
  go_enter Try.func4, Try.ntmps4
  go_upto_region 2 with (first | (go_at_call 11; refine (KS.out _).mono ?_; rintro x w2 ⟨g, rfl, hx, hL⟩) | (go_at_call 10; refine (KB.out _ _ hL).mono ?_; rintro x w3 ⟨rfl, h3⟩))
  go_wp2_with (first | (go_at_call 11; refine (KS.out _).mono ?_; rintro x w4 ⟨g4, rfl, hx4, hL4⟩) | (go_at_call 12; refine (KF.out _ _ hL4).mono ?_; rintro x w5 ⟨rfl, h5⟩))
  go_ret
  exact Ret.mk rfl (((hx.trans h3).trans hx4).trans h5)
end Go.Proofs.Ytcajjhmldghakaa


namespace Go.Proofs.Ytcajjhmldghakaa
open Go.RowKit
set_option linter.unusedVariables false
set_option linter.unusedSimpArgs false

set_option maxRecDepth 20000 in
set_option maxHeartbeats 1600000 in
theorem lawfree_any (p : PV) (bs : Nat → BV) (k c : Nat) (A : Option Addr) (hk : k ≤ 20) (w : World) (h : BsL w A k bs) : Calls Try.prog 9 #[bunV p A k c] w (Ret (.bool true) w) := by
  have HS := hid (freeN_spec bs k)
  have KFr := hid (fun W (hW : BsL W A k bs) => Free_any p bs k c A (by omega) W hW)
  have KA := hid (fun W n (hW : BsL W A k bs) => At13_any p bs k c A n (by omega) W hW)
  have n9 : ((freeN bs k : Nat) : Int) ≤ 22 := by have := HS.out.2.1; omega
  have n2 : (2 : Int) ≤ ((freeN bs k : Nat) : Int) := by have := HS.out.1; omega
  generalize freeN bs k = N at *
  have HE := hid ((Mod.refl [] w).alloc (.cells (bunC p A k c) 29))
  have HB0 : Hid (Blk (w.alloc (.cells (bunC p A k c) 29)) w.heap.size 29 (bunC p A k c)) := hid (Blk.new w 29 (bunC p A k c))
  have HL := hid (BsL.ext h HE.out)
  clear h hk
  go_enter Try.func9, Try.ntmps9
  go_upto_region 1 with fail
  generalize (w.alloc (.cells (bunC p A k c) 29)) = V at *
  obtain ⟨e, he⟩ := Later.self V
  rw [he]
  clear he
  go_upto_region 3 with (first | (refine wpList_row (by rfl) 29 _ rfl _ rfl (HB0.out.later _) Try.underlying29 rfl (by kernel_rfl) ?_) | (go_at_call 12; refine (Ret.later (KFr.out _ (HL.out.ext (Later.h _)))).mono ?_; rintro x _ ⟨rfl, e, rfl⟩))
  go_loopw [4] (fun s4 wr => ∃ n : Nat, s4 = .int .i64 (n : Int) ∧ Hid (2 ≤ n ∧ n ≤ N) ∧ ∃ e : Later V, wr = e.x) (fun s4 _ => N - (intOf s4).toNat)
  case atStart => exact ⟨2, rfl, (show Hid _ from ⟨by omega, HS.out.1⟩), e, rfl⟩
  case round =>
    clear e KFr
    obtain ⟨n, rfl, hn, e, rfl⟩ := hrel
    have n0 : (0 : Int) ≤ (n : Int) := by omega
    have n1 : (n : Int) ≤ (N : Int) := by have := hn.out; omega
    by_cases hlt : n < N
    · obtain ⟨i, hi⟩ := HS.out.2.2.2 n hn.out.1 hlt
      have KB := hid (fun W hW => KA.out W (n : Int) hW)
      unfold firstI at KB
      rw [hi] at KB
      have HLT := hid hlt
      have i0 : (0 : Int) ≤ (i : Int) := by omega
      have i1 : decide ((i : Int) < 0) = false := by simp
      have i2 : ((i : Int) < 0) = False := eq_false (by omega)
      have t1 : decide ((n : Int) < (N : Int)) = true := decide_eq_true (by omega)
      have t2 : decide (n < N) = true := decide_eq_true hlt
      have t3 : (n < N) = True := eq_true hlt
      have t4 : decide ((n : Int) < 100) = true := decide_eq_true (by omega)
      have t5 : ((n : Int) < 100) = True := eq_true (by omega)
      have t6 : decide (n < 100) = true := decide_eq_true (by omega)
      clear hi hlt KA
      go_upto_region 5 with fail
      go_wp2_with (first | (refine wpList_row (by rfl) 29 _ rfl _ rfl (HB0.out.later _) Try.underlying29 rfl (by kernel_rfl) ?_) | (go_at_call 7; refine (Ret.later (KB.out _ (HL.out.ext (Later.h _)))).mono ?_; rintro x _ ⟨rfl, e, rfl⟩))
      go_roundw
      case rel => exact ⟨n + 1, by go_num, (show Hid _ from ⟨by have := hn.out.1; omega, HLT.out⟩), e, rfl⟩
      case measure => have := HLT.out; simp [intOf]; omega
    · obtain rfl : n = N := by have := hn.out.2; omega
      have KB := hid (fun W hW => KA.out W (n : Int) hW)
      unfold firstI at KB
      rw [HS.out.2.2.1] at KB
      have t1 : decide ((n : Int) < (n : Int)) = false := by simp
      have t2 : decide (n < n) = false := by simp
      have t4 : decide ((n : Int) < 100) = true := decide_eq_true (by omega)
      have t5 : ((n : Int) < 100) = True := eq_true (by omega)
      have t6 : decide (n < 100) = true := decide_eq_true (by omega)
      have t7 : decide ((2 : Int) ≤ (n : Int)) = true := decide_eq_true (by omega)
      have t8 : ((2 : Int) ≤ (n : Int)) = True := eq_true (by omega)
      have t9 : decide (2 ≤ n) = true := decide_eq_true (by omega)
      clear KA hlt
      go_upto_region 7 with fail
      go_wp2_with (first | (go_at_call 7; refine (Ret.later (KB.out _ (HL.out.ext (Later.h _)))).mono ?_; rintro x _ ⟨rfl, e, rfl⟩) | (refine wpList_row (by rfl) 29 _ rfl _ rfl (HB0.out.later _) Try.underlying29 rfl (by kernel_rfl) ?_))
      go_ret
      exact Ret.mk rfl (HE.out.trans (Later.h _))
set_option maxRecDepth 20000 in
set_option maxHeartbeats 1600000 in
theorem finds_few (p : PV) (bs : Nat → BV) (k c : Nat) (A : Option Addr) (n : Int) (hk : k < 4611686018427387904) (hF : bunFew p bs k = false) (w : World) (h : BsL w A k bs) : Calls Try.prog 3 #[bunV p A k c, .int .i64 n] w (Ret (.bool true) w) := by
  have KA := hid (fun W => awake13_any W)
  have KF := hid (fun W (hW : BsL W A k bs) => few13_any p bs k c A hk W hW)
  rw [hF] at KF
  have HE := hid ((Mod.refl [] w).alloc (.cells (bunC p A k c) 29))
  have HB0 : Hid (Blk (w.alloc (.cells (bunC p A k c) 29)) w.heap.size 29 (bunC p A k c)) := hid (Blk.new w 29 (bunC p A k c))
  have HL := hid (BsL.ext h HE.out)
  clear h hk hF
  go_enter Try.func3, Try.ntmps3
  go_upto_region 1 with fail
  generalize (w.alloc (.cells (bunC p A k c) 29)) = V at *
  obtain ⟨e, he⟩ := Later.self V
  rw [he]
  clear he
  go_wp2_with (first | (go_at_call 4; refine (Ret.later (KA.out _)).mono ?_; rintro x _ ⟨rfl, e, rfl⟩) | (go_at_call 5; refine (Ret.later (KF.out _ (HL.out.ext (Later.h _)))).mono ?_; rintro x _ ⟨rfl, e, rfl⟩) | (refine wpList_row (by rfl) 29 _ rfl _ rfl (HB0.out.later _) Try.underlying29 rfl (by kernel_rfl) ?_))
  go_ret
  exact Ret.mk rfl (HE.out.trans (Later.h _))
set_option maxRecDepth 20000 in
set_option maxHeartbeats 8000000 in
theorem finds_all (p : PV) (bs : Nat → BV) (k c : Nat) (A : Option Addr) (n : Int) (hk : k < 4611686018427387904) (hF : bunFew p bs k = true) (w : World) (h : BsL w A k bs) : Calls Try.prog 3 #[bunV p A k c, .int .i64 n] w (Ret (.bool true) w) := by
  have KA := hid (fun W => awake13_any W)
  have KF := hid (fun W (hW : BsL W A k bs) => few13_any p bs k c A hk W hW)
  rw [hF] at KF
  have h20 := (bunFew_spec hF).1
  have KFr := hid (fun W (hW : BsL W A k bs) => lawfree_any p bs k c A h20 W hW)
  have KG := hid (fun W (hW : BsL W A k bs) => Get_any p bs k c A n hk W hW)
  have KT := hid (fun W (hW : BsL W A k bs) => At13_any p bs k c A n hk W hW)
  have KD := hid (fun W (hW : BsL W A k bs) => Find_any p bs k c A n hk W hW)
  have k1 : (k : Int) ≤ 20 := by omega
  have HE := hid ((Mod.refl [] w).alloc (.cells (bunC p A k c) 29))
  have HB0 : Hid (Blk (w.alloc (.cells (bunC p A k c) 29)) w.heap.size 29 (bunC p A k c)) := hid (Blk.new w 29 (bunC p A k c))
  have HL := hid (BsL.ext h HE.out)
  clear h hk hF h20
  go_enter Try.func3, Try.ntmps3
  go_upto_region 1 with fail
  generalize (w.alloc (.cells (bunC p A k c) 29)) = V at *
  have b19 : ∀ e : Later V, e.x.cell? ⟨w.heap.size, 19, none⟩ = some (.slice A k c) := HB0.out.cellL 19 rfl
  obtain ⟨e, he⟩ := Later.self V
  rw [he]
  clear he
  go_upto_region 3 with (first | (go_at_call 4; refine (Ret.later (KA.out _)).mono ?_; rintro x _ ⟨rfl, e, rfl⟩) | (go_at_call 5; refine (Ret.later (KF.out _ (HL.out.ext (Later.h _)))).mono ?_; rintro x _ ⟨rfl, e, rfl⟩) | (refine wpList_row (by rfl) 29 _ rfl _ rfl (HB0.out.later _) Try.underlying29 rfl (by kernel_rfl) ?_))
  clear KA KF
  unfold getV at KG
  unfold firstI at KT
  cases hg : firstOf (numB bs n) k with
  | none =>
    rw [hg] at KG KT
    clear hg
    go_upto_region 4 with (first | (refine wpList_row (by rfl) 29 _ rfl _ rfl (HB0.out.later _) Try.underlying29 rfl (by kernel_rfl) ?_) | (go_at_call 6; refine (Ret.later (KG.out _ (HL.out.ext (Later.h _)))).mono ?_; rintro x _ ⟨rfl, e, rfl⟩))
    generalize hU : World.alloc e.x _ = U
    have HXU : Hid (Blk U e.x.heap.size 33 (BV.c (zeroB))) := hid (by rw [← hU]; exact Blk.new _ _ _)
    have HMU : Hid (Ext V U) := hid (by rw [← hU]; exact e.h.alloc _)
    clear hU
    generalize e.x.heap.size = GU at *
    have HEU := hid (HE.out.trans HMU.out)
    have HBU := hid (HB0.out.ext HMU.out)
    have HLU := hid (HL.out.ext HMU.out)
    have b19 : ∀ e : Later U, e.x.cell? ⟨w.heap.size, 19, none⟩ = some (.slice A k c) := HBU.out.cellL 19 rfl
    have g0 : ∀ e : Later U, e.x.cell? ⟨GU, 0, none⟩ = some (.int .i64 0) := HXU.out.cellL 0 rfl
    have g1 : ∀ e : Later U, e.x.cell? ⟨GU, 1, none⟩ = some (.int .i64 0) := HXU.out.cellL 1 rfl
    have g2 : ∀ e : Later U, e.x.cell? ⟨GU, 2, none⟩ = some (.int .u64 0) := HXU.out.cellL 2 rfl
    have g3 : ∀ e : Later U, e.x.cell? ⟨GU, 3, none⟩ = some (.int .i64 0) := HXU.out.cellL 3 rfl
    have g4 : ∀ e : Later U, e.x.cell? ⟨GU, 4, none⟩ = some (str []) := HXU.out.cellL 4 rfl
    clear e
    obtain ⟨e, he⟩ := Later.self U
    rw [he]
    clear he
    go_upto_region 5 with (first | (refine wpList_row (by rfl) 29 _ rfl _ rfl (HBU.out.later _) Try.underlying29 rfl (by kernel_rfl) ?_) | (go_at_call 7; refine (Ret.later (KT.out _ (HLU.out.ext (Later.h _)))).mono ?_; rintro x _ ⟨rfl, e, rfl⟩))
    refine wp_region_later (by kernel_rfl) (by kernel_rfl) ?_
    repeat (go_big_quiet_step (fail))
    refine wpQuiet_nil ?_
    rintro _ ⟨e, rfl⟩
    go_upto_region 7 with fail
    unfold findV at KD
    cases hfd : firstOf (tyB bs n) k with
    | none =>
      rw [hfd] at KD
      have HNO := hid (firstOf_no hfd)
      clear hfd
      go_upto_region 8 with (first | (refine wpList_row (by rfl) 29 _ rfl _ rfl (HBU.out.later _) Try.underlying29 rfl (by kernel_rfl) ?_) | (go_at_call 8; refine (Ret.later (KD.out _ (HLU.out.ext (Later.h _)))).mono ?_; rintro x _ ⟨rfl, e, rfl⟩))
      generalize hU : World.alloc e.x _ = U2
      have HXU2 : Hid (Blk U2 e.x.heap.size 33 (BV.c (zeroB))) := hid (by rw [← hU]; exact Blk.new _ _ _)
      have HMU2 : Hid (Ext U U2) := hid (by rw [← hU]; exact e.h.alloc _)
      clear hU
      generalize e.x.heap.size = GU2 at *
      have HEU2 := hid (HEU.out.trans HMU2.out)
      have HBU2 := hid (HBU.out.ext HMU2.out)
      have HLU2 := hid (HLU.out.ext HMU2.out)
      have b19 : ∀ e : Later U2, e.x.cell? ⟨w.heap.size, 19, none⟩ = some (.slice A k c) := HBU2.out.cellL 19 rfl
      have g0 : ∀ e : Later U2, e.x.cell? ⟨GU2, 0, none⟩ = some (.int .i64 0) := HXU2.out.cellL 0 rfl
      have g1 : ∀ e : Later U2, e.x.cell? ⟨GU2, 1, none⟩ = some (.int .i64 0) := HXU2.out.cellL 1 rfl
      have g2 : ∀ e : Later U2, e.x.cell? ⟨GU2, 2, none⟩ = some (.int .u64 0) := HXU2.out.cellL 2 rfl
      have g3 : ∀ e : Later U2, e.x.cell? ⟨GU2, 3, none⟩ = some (.int .i64 0) := HXU2.out.cellL 3 rfl
      have g4 : ∀ e : Later U2, e.x.cell? ⟨GU2, 4, none⟩ = some (str []) := HXU2.out.cellL 4 rfl
      clear e
      obtain ⟨e, he⟩ := Later.self U2
      rw [he]
      clear he
      go_upto_region 9 with fail
      go_loopw [10] (fun s10 wr => ∃ i : Nat, s10 = .int .i64 (i : Int) ∧ Hid (i ≤ k ∧ ∀ j, j < i → tyB bs n j = false) ∧ ∃ e : Later U2, wr = e.x) (fun s10 _ => k - (intOf s10).toNat)
      case atStart => exact ⟨0, rfl, (show Hid _ from ⟨Nat.zero_le _, fun j hj => by omega⟩), e, rfl⟩
      case round =>
        clear e
        obtain ⟨i, rfl, hi, e, rfl⟩ := hrel
        have i0 : (0 : Int) ≤ (i : Int) := by omega
        by_cases hlt : i < k
        · obtain ⟨b, o, rfl, hb, q0, q1, q2, q3, q4⟩ := HLU2.out.cells hlt
          have tc : decide (i < k) = true := by simp [hlt]
          have i1 : (i : Int) < (k : Int) := by omega
          have HLT := hid hlt
          have HN : Hid (tyB bs n i = false) := HNO.out i hlt
          have hq : (bs i).ty ≠ n := by have := HN.out; simpa [tyB] using this
          clear hlt
          have t1 : ((bs i).ty == n) = false := by simpa using hq
          have t2 : ((bs i).ty = n) = False := by simpa using hq
          clear hq
          go_wp2_with fail
          go_roundw
          case rel => exact ⟨i + 1, by go_num, (show Hid _ from ⟨HLT.out, fun j hj => by
            by_cases hji : j = i
            · subst hji; exact HN.out
            · exact hi.out.2 j (by omega)⟩), e, rfl⟩
          case measure => have := HLT.out; simp [intOf]; omega
        · obtain rfl : i = k := by have := hi.out.1; omega
          have tc : decide (i < i) = false := by simp
          clear hlt
          go_wp2_with (first | (go_at_call 9; refine (Ret.later (KFr.out _ (HLU2.out.ext (Later.h _)))).mono ?_; rintro x _ ⟨rfl, e, rfl⟩) | (refine wpList_row (by rfl) 29 _ rfl _ rfl (HBU2.out.later _) Try.underlying29 rfl (by kernel_rfl) ?_))
          go_ret
          exact Ret.mk (by simp [zeroB]) (HEU2.out.trans (Later.h _))
    | some jj =>
      rw [hfd] at KD
      have HSP := hid (firstOf_spec hfd)
      clear hfd
      go_upto_region 8 with (first | (refine wpList_row (by rfl) 29 _ rfl _ rfl (HBU.out.later _) Try.underlying29 rfl (by kernel_rfl) ?_) | (go_at_call 8; refine (Ret.later (KD.out _ (HLU.out.ext (Later.h _)))).mono ?_; rintro x _ ⟨rfl, e, rfl⟩))
      generalize hU : World.alloc e.x _ = U2
      have HXU2 : Hid (Blk U2 e.x.heap.size 33 (BV.c (bs jj))) := hid (by rw [← hU]; exact Blk.new _ _ _)
      have HMU2 : Hid (Ext U U2) := hid (by rw [← hU]; exact e.h.alloc _)
      clear hU
      generalize e.x.heap.size = GU2 at *
      have HEU2 := hid (HEU.out.trans HMU2.out)
      have HBU2 := hid (HBU.out.ext HMU2.out)
      have HLU2 := hid (HLU.out.ext HMU2.out)
      have b19 : ∀ e : Later U2, e.x.cell? ⟨w.heap.size, 19, none⟩ = some (.slice A k c) := HBU2.out.cellL 19 rfl
      have g0 : ∀ e : Later U2, e.x.cell? ⟨GU2, 0, none⟩ = some (.int .i64 (bs jj).ty) := HXU2.out.cellL 0 rfl
      have g1 : ∀ e : Later U2, e.x.cell? ⟨GU2, 1, none⟩ = some (.int .i64 (bs jj).num) := HXU2.out.cellL 1 rfl
      have g2 : ∀ e : Later U2, e.x.cell? ⟨GU2, 2, none⟩ = some (.int .u64 ((bs jj).fl : Int)) := HXU2.out.cellL 2 rfl
      have g3 : ∀ e : Later U2, e.x.cell? ⟨GU2, 3, none⟩ = some (.int .i64 (bs jj).crc) := HXU2.out.cellL 3 rfl
      have g4 : ∀ e : Later U2, e.x.cell? ⟨GU2, 4, none⟩ = some (str (bs jj).data) := HXU2.out.cellL 4 rfl
      clear e
      obtain ⟨e, he⟩ := Later.self U2
      rw [he]
      clear he
      go_upto_region 9 with fail
      go_loopw [10] (fun s10 wr => ∃ i : Nat, s10 = .int .i64 (i : Int) ∧ Hid (i ≤ jj ∧ ∀ j, j < i → tyB bs n j = false) ∧ ∃ e : Later U2, wr = e.x) (fun s10 _ => k - (intOf s10).toNat)
      case atStart => exact ⟨0, rfl, (show Hid _ from ⟨Nat.zero_le _, fun j hj => by omega⟩), e, rfl⟩
      case round =>
        clear e
        obtain ⟨i, rfl, hi, e, rfl⟩ := hrel
        have i0 : (0 : Int) ≤ (i : Int) := by omega
        have hlt : i < k := by have := hi.out.1; have := HSP.out.1; omega
        obtain ⟨b, o, rfl, hb, q0, q1, q2, q3, q4⟩ := HLU2.out.cells hlt
        have tc : decide (i < k) = true := by simp [hlt]
        have i1 : (i : Int) < (k : Int) := by omega
        have HLT := hid hlt
        clear hlt
        by_cases hij : i = jj
        · subst hij
          have hq : (bs i).ty = n := by have := HSP.out.2.1; simpa [tyB] using this
          have t1 : ((bs i).ty == n) = true := by simpa using hq
          have t2 : ((bs i).ty = n) = True := by simpa using hq
          clear hq
          generalize bs i = X at *
          go_upto_region 12 with fail
          refine wp_region_later (by kernel_rfl) (by kernel_rfl) ?_
          repeat (first | (refine later_row (by rfl) 29 _ rfl _ rfl (fun e => HBU2.out.later e) Try.underlying29 rfl (by kernel_rfl) ?_; simp only [Act.put, List.setIfInBounds_toArray, List.set_cons_zero, List.set_cons_succ]) | (go_big_quiet_step ((go_at_call 9; exact Ret.later (KFr.out _ (HLU2.out.ext (Later.h _)))))))
          refine wpQuiet_nil ?_
          rintro _ ⟨e, rfl⟩
          go_wp2_with fail
          go_ret
          exact Ret.mk (by simp) (HEU2.out.trans (Later.h _))
        · have HN : Hid (tyB bs n i = false) := HSP.out.2.2 i (by have := hi.out.1; omega)
          have hq : (bs i).ty ≠ n := by have := HN.out; simpa [tyB] using this
          have HIJ := hid hij
          clear hij
          have t1 : ((bs i).ty == n) = false := by simpa using hq
          have t2 : ((bs i).ty = n) = False := by simpa using hq
          clear hq
          go_wp2_with fail
          go_roundw
          case rel => exact ⟨i + 1, by go_num, (show Hid _ from ⟨by have := hi.out.1; have := HIJ.out; omega, fun j hj => by
            by_cases hji : j = i
            · subst hji; exact HN.out
            · exact hi.out.2 j (by omega)⟩), e, rfl⟩
          case measure => have := HLT.out; simp [intOf]; omega
  | some ii =>
    rw [hg] at KG KT
    have hii := (firstOf_spec hg).1
    clear hg
    go_upto_region 4 with (first | (refine wpList_row (by rfl) 29 _ rfl _ rfl (HB0.out.later _) Try.underlying29 rfl (by kernel_rfl) ?_) | (go_at_call 6; refine (Ret.later (KG.out _ (HL.out.ext (Later.h _)))).mono ?_; rintro x _ ⟨rfl, e, rfl⟩))
    generalize hU : World.alloc e.x _ = U
    have HXU : Hid (Blk U e.x.heap.size 33 (BV.c (bs ii))) := hid (by rw [← hU]; exact Blk.new _ _ _)
    have HMU : Hid (Ext V U) := hid (by rw [← hU]; exact e.h.alloc _)
    clear hU
    generalize e.x.heap.size = GU at *
    have HEU := hid (HE.out.trans HMU.out)
    have HBU := hid (HB0.out.ext HMU.out)
    have HLU := hid (HL.out.ext HMU.out)
    have b19 : ∀ e : Later U, e.x.cell? ⟨w.heap.size, 19, none⟩ = some (.slice A k c) := HBU.out.cellL 19 rfl
    have g0 : ∀ e : Later U, e.x.cell? ⟨GU, 0, none⟩ = some (.int .i64 (bs ii).ty) := HXU.out.cellL 0 rfl
    have g1 : ∀ e : Later U, e.x.cell? ⟨GU, 1, none⟩ = some (.int .i64 (bs ii).num) := HXU.out.cellL 1 rfl
    have g2 : ∀ e : Later U, e.x.cell? ⟨GU, 2, none⟩ = some (.int .u64 ((bs ii).fl : Int)) := HXU.out.cellL 2 rfl
    have g3 : ∀ e : Later U, e.x.cell? ⟨GU, 3, none⟩ = some (.int .i64 (bs ii).crc) := HXU.out.cellL 3 rfl
    have g4 : ∀ e : Later U, e.x.cell? ⟨GU, 4, none⟩ = some (str (bs ii).data) := HXU.out.cellL 4 rfl
    clear e
    obtain ⟨e, he⟩ := Later.self U
    rw [he]
    clear he
    obtain ⟨b, o, rfl, hb, q0, q1, q2, q3, q4⟩ := HLU.out.cells hii
    have j0 : (0 : Int) ≤ (ii : Int) := by omega
    have j1 : (ii : Int) < (k : Int) := by omega
    have j2 : decide (ii < k) = true := by simp [hii]
    have j3 : decide ((0 : Int) ≤ (ii : Int)) = true := decide_eq_true (by omega)
    clear hii
    go_upto_region 5 with (first | (refine wpList_row (by rfl) 29 _ rfl _ rfl (HBU.out.later _) Try.underlying29 rfl (by kernel_rfl) ?_) | (go_at_call 7; refine (Ret.later (KT.out _ (HLU.out.ext (Later.h _)))).mono ?_; rintro x _ ⟨rfl, e, rfl⟩))
    refine wp_region_later (by kernel_rfl) (by kernel_rfl) ?_
    repeat (go_big_quiet_step (fail))
    refine wpQuiet_nil ?_
    rintro _ ⟨e, rfl⟩
    clear q0 q1 q2 q3 q4 j0 j1 j2 j3 g0 g1 g2 g3 g4 hb
    go_upto_region 7 with fail
    unfold findV at KD
    cases hfd : firstOf (tyB bs n) k with
    | none =>
      rw [hfd] at KD
      have HNO := hid (firstOf_no hfd)
      clear hfd
      go_upto_region 8 with (first | (refine wpList_row (by rfl) 29 _ rfl _ rfl (HBU.out.later _) Try.underlying29 rfl (by kernel_rfl) ?_) | (go_at_call 8; refine (Ret.later (KD.out _ (HLU.out.ext (Later.h _)))).mono ?_; rintro x _ ⟨rfl, e, rfl⟩))
      generalize hU : World.alloc e.x _ = U2
      have HXU2 : Hid (Blk U2 e.x.heap.size 33 (BV.c (zeroB))) := hid (by rw [← hU]; exact Blk.new _ _ _)
      have HMU2 : Hid (Ext U U2) := hid (by rw [← hU]; exact e.h.alloc _)
      clear hU
      generalize e.x.heap.size = GU2 at *
      have HEU2 := hid (HEU.out.trans HMU2.out)
      have HBU2 := hid (HBU.out.ext HMU2.out)
      have HLU2 := hid (HLU.out.ext HMU2.out)
      have b19 : ∀ e : Later U2, e.x.cell? ⟨w.heap.size, 19, none⟩ = some (.slice (some ⟨b, o, none⟩) k c) := HBU2.out.cellL 19 rfl
      have g0 : ∀ e : Later U2, e.x.cell? ⟨GU2, 0, none⟩ = some (.int .i64 0) := HXU2.out.cellL 0 rfl
      have g1 : ∀ e : Later U2, e.x.cell? ⟨GU2, 1, none⟩ = some (.int .i64 0) := HXU2.out.cellL 1 rfl
      have g2 : ∀ e : Later U2, e.x.cell? ⟨GU2, 2, none⟩ = some (.int .u64 0) := HXU2.out.cellL 2 rfl
      have g3 : ∀ e : Later U2, e.x.cell? ⟨GU2, 3, none⟩ = some (.int .i64 0) := HXU2.out.cellL 3 rfl
      have g4 : ∀ e : Later U2, e.x.cell? ⟨GU2, 4, none⟩ = some (str []) := HXU2.out.cellL 4 rfl
      clear e
      obtain ⟨e, he⟩ := Later.self U2
      rw [he]
      clear he
      go_upto_region 9 with fail
      go_loopw [10] (fun s10 wr => ∃ i : Nat, s10 = .int .i64 (i : Int) ∧ Hid (i ≤ k ∧ ∀ j, j < i → tyB bs n j = false) ∧ ∃ e : Later U2, wr = e.x) (fun s10 _ => k - (intOf s10).toNat)
      case atStart => exact ⟨0, rfl, (show Hid _ from ⟨Nat.zero_le _, fun j hj => by omega⟩), e, rfl⟩
      case round =>
        clear e
        obtain ⟨i, rfl, hi, e, rfl⟩ := hrel
        have i0 : (0 : Int) ≤ (i : Int) := by omega
        by_cases hlt : i < k
        · obtain ⟨b2, o2, hA2, hb, q0, q1, q2, q3, q4⟩ := HLU2.out.cells hlt
          cases hA2
          have tc : decide (i < k) = true := by simp [hlt]
          have i1 : (i : Int) < (k : Int) := by omega
          have HLT := hid hlt
          have HN : Hid (tyB bs n i = false) := HNO.out i hlt
          have hq : (bs i).ty ≠ n := by have := HN.out; simpa [tyB] using this
          clear hlt
          have t1 : ((bs i).ty == n) = false := by simpa using hq
          have t2 : ((bs i).ty = n) = False := by simpa using hq
          clear hq
          go_wp2_with fail
          go_roundw
          case rel => exact ⟨i + 1, by go_num, (show Hid _ from ⟨HLT.out, fun j hj => by
            by_cases hji : j = i
            · subst hji; exact HN.out
            · exact hi.out.2 j (by omega)⟩), e, rfl⟩
          case measure => have := HLT.out; simp [intOf]; omega
        · obtain rfl : i = k := by have := hi.out.1; omega
          have tc : decide (i < i) = false := by simp
          clear hlt
          go_wp2_with (first | (go_at_call 9; refine (Ret.later (KFr.out _ (HLU2.out.ext (Later.h _)))).mono ?_; rintro x _ ⟨rfl, e, rfl⟩) | (refine wpList_row (by rfl) 29 _ rfl _ rfl (HBU2.out.later _) Try.underlying29 rfl (by kernel_rfl) ?_))
          go_ret
          exact Ret.mk (by simp [zeroB]) (HEU2.out.trans (Later.h _))
    | some jj =>
      rw [hfd] at KD
      have HSP := hid (firstOf_spec hfd)
      clear hfd
      go_upto_region 8 with (first | (refine wpList_row (by rfl) 29 _ rfl _ rfl (HBU.out.later _) Try.underlying29 rfl (by kernel_rfl) ?_) | (go_at_call 8; refine (Ret.later (KD.out _ (HLU.out.ext (Later.h _)))).mono ?_; rintro x _ ⟨rfl, e, rfl⟩))
      generalize hU : World.alloc e.x _ = U2
      have HXU2 : Hid (Blk U2 e.x.heap.size 33 (BV.c (bs jj))) := hid (by rw [← hU]; exact Blk.new _ _ _)
      have HMU2 : Hid (Ext U U2) := hid (by rw [← hU]; exact e.h.alloc _)
      clear hU
      generalize e.x.heap.size = GU2 at *
      have HEU2 := hid (HEU.out.trans HMU2.out)
      have HBU2 := hid (HBU.out.ext HMU2.out)
      have HLU2 := hid (HLU.out.ext HMU2.out)
      have b19 : ∀ e : Later U2, e.x.cell? ⟨w.heap.size, 19, none⟩ = some (.slice (some ⟨b, o, none⟩) k c) := HBU2.out.cellL 19 rfl
      have g0 : ∀ e : Later U2, e.x.cell? ⟨GU2, 0, none⟩ = some (.int .i64 (bs jj).ty) := HXU2.out.cellL 0 rfl
      have g1 : ∀ e : Later U2, e.x.cell? ⟨GU2, 1, none⟩ = some (.int .i64 (bs jj).num) := HXU2.out.cellL 1 rfl
      have g2 : ∀ e : Later U2, e.x.cell? ⟨GU2, 2, none⟩ = some (.int .u64 ((bs jj).fl : Int)) := HXU2.out.cellL 2 rfl
      have g3 : ∀ e : Later U2, e.x.cell? ⟨GU2, 3, none⟩ = some (.int .i64 (bs jj).crc) := HXU2.out.cellL 3 rfl
      have g4 : ∀ e : Later U2, e.x.cell? ⟨GU2, 4, none⟩ = some (str (bs jj).data) := HXU2.out.cellL 4 rfl
      clear e
      obtain ⟨e, he⟩ := Later.self U2
      rw [he]
      clear he
      go_upto_region 9 with fail
      go_loopw [10] (fun s10 wr => ∃ i : Nat, s10 = .int .i64 (i : Int) ∧ Hid (i ≤ jj ∧ ∀ j, j < i → tyB bs n j = false) ∧ ∃ e : Later U2, wr = e.x) (fun s10 _ => k - (intOf s10).toNat)
      case atStart => exact ⟨0, rfl, (show Hid _ from ⟨Nat.zero_le _, fun j hj => by omega⟩), e, rfl⟩
      case round =>
        clear e
        obtain ⟨i, rfl, hi, e, rfl⟩ := hrel
        have i0 : (0 : Int) ≤ (i : Int) := by omega
        have hlt : i < k := by have := hi.out.1; have := HSP.out.1; omega
        obtain ⟨b2, o2, hA2, hb, q0, q1, q2, q3, q4⟩ := HLU2.out.cells hlt
        cases hA2
        have tc : decide (i < k) = true := by simp [hlt]
        have i1 : (i : Int) < (k : Int) := by omega
        have HLT := hid hlt
        clear hlt
        by_cases hij : i = jj
        · subst hij
          have hq : (bs i).ty = n := by have := HSP.out.2.1; simpa [tyB] using this
          have t1 : ((bs i).ty == n) = true := by simpa using hq
          have t2 : ((bs i).ty = n) = True := by simpa using hq
          clear hq
          generalize bs i = X at *
          go_upto_region 12 with fail
          refine wp_region_later (by kernel_rfl) (by kernel_rfl) ?_
          repeat (first | (refine later_row (by rfl) 29 _ rfl _ rfl (fun e => HBU2.out.later e) Try.underlying29 rfl (by kernel_rfl) ?_; simp only [Act.put, List.setIfInBounds_toArray, List.set_cons_zero, List.set_cons_succ]) | (go_big_quiet_step ((go_at_call 9; exact Ret.later (KFr.out _ (HLU2.out.ext (Later.h _)))))))
          refine wpQuiet_nil ?_
          rintro _ ⟨e, rfl⟩
          go_wp2_with fail
          go_ret
          exact Ret.mk (by simp) (HEU2.out.trans (Later.h _))
        · have HN : Hid (tyB bs n i = false) := HSP.out.2.2 i (by have := hi.out.1; omega)
          have hq : (bs i).ty ≠ n := by have := HN.out; simpa [tyB] using this
          have HIJ := hid hij
          clear hij
          have t1 : ((bs i).ty == n) = false := by simpa using hq
          have t2 : ((bs i).ty = n) = False := by simpa using hq
          clear hq
          go_wp2_with fail
          go_roundw
          case rel => exact ⟨i + 1, by go_num, (show Hid _ from ⟨by have := hi.out.1; have := HIJ.out; omega, fun j hj => by
            by_cases hji : j = i
            · subst hji; exact HN.out
            · exact hi.out.2 j (by omega)⟩), e, rfl⟩
          case measure => have := HLT.out; simp [intOf]; omega
theorem lawFinds_any (p : PV) (bs : Nat → BV) (k c : Nat) (A : Option Addr) (n : Int) (hk : k < 4611686018427387904) (w : World) (h : BsL w A k bs) : Calls Try.prog 3 #[bunV p A k c, .int .i64 n] w (Ret (.bool true) w) := by
  cases hF : bunFew p bs k with
  | false => exact finds_few p bs k c A n hk hF w h
  | true => exact finds_all p bs k c A n hk hF w h
end Go.Proofs.Ytcajjhmldghakaa
