/-
 Bundles: rules, whether one is right, and its bytes, as the code tells.
-/
import Derived.Test.YthecmnbkjchjmaaGreatMExtAgesbb
import Derived.Test.YthecmnbkjchjmaaGreatMExtAgesbi

namespace Go.Proofs.YthecmnbkjchjmaaGreat
open Go.RowKit
set_option linter.unusedVariables false
set_option linter.unusedSimpArgs false

def rulesR (p : PV) (bs : Nat -> BV) (k : Nat) : Int := if 16 < k then 4 else if bunRule1 bs k then 8 else if bunRule2 p bs k then 8 else if bunRule3 p bs k then 8 else 0
theorem find_age (bs : Nat -> BV) (k : Nat) : ∃ x : BV, findV bs 7 k = .tuple #[x.v, .bool (decide (cntB bs 7 k ≠ 0))] := by
 have h := cntB_find (bs := bs) (typ := 7) (k := k)
 unfold findV
 cases hf : firstOf (tyB bs 7) k with
 | some i => rw [hf] at h; rw [<- h]; exact ⟨bs i, rfl⟩
 | none => rw [hf] at h; rw [<- h]; exact ⟨zeroB, rfl⟩
theorem rule1_once (bs : Nat -> BV) (k : Nat) : bunRule1 bs k = (decide (k = 0) || !onceB bs k) := by
 unfold bunRule1 onceB
 rw [Bool.eq_iff_iff]
 cases dupB bs k <;> simp <;> omega
theorem right_wf {b : BV} (h : b.right = 0) : InI b.num /\ InI b.ty := by
 have := BV.right_zero h
 unfold InI
 omega
set_option maxRecDepth 20000 in
theorem rules_16 (p : PV) (bs : Nat -> BV) (k c : Nat) (A : Option Addr) (h16 : 16 < k) (w : World) (h : BsL w A k bs) : Calls Tryz.prog 93 #[bunV p A k c] w (Ret (.int .i64 4) w) := by
 have HE := hid ((Mod.refl [] w).alloc (.cells (bunC p A k c) 29))
 have HB0 : Hid (Blk (w.alloc (.cells (bunC p A k c) 29)) w.heap.size 29 (bunC p A k c)) := hid (Blk.new w 29 (bunC p A k c))
 have xa : decide ((16 : Int) < (k : Int)) = true := decide_eq_true (by omega)
 have xb : ((16 : Int) < (k : Int)) = True := eq_true (by omega)
 have xc : decide (16 < k) = true := decide_eq_true h16
 clear h h16
 go_enter Tryz.func93, Tryz.ntmps93
 go_upto_region 1 with fail
 generalize (w.alloc (.cells (bunC p A k c) 29)) = V at *
 have b19 : ∀ e : Later V, e.x.cell? ⟨w.heap.size, 19, none⟩ = some (.slice A k c) := HB0.out.cellL 19 rfl
 have b14 : ∀ e : Later V, e.x.cell? ⟨w.heap.size, 14, none⟩ = some (.int .u64 (p.t : Int)) := HB0.out.cellL 14 rfl
 obtain ⟨e, he⟩ := Later.self V
 rw [he]
 clear he
 go_wp2_with fail
 go_ret
 exact Ret.mk rfl (HE.out.trans e.h)
set_option maxRecDepth 20000 in
set_option maxHeartbeats 3200000 in
theorem rules_let (p : PV) (bs : Nat -> BV) (k c : Nat) (A : Option Addr) (h16 : ¬ 16 < k) (x : BV) (L O G F : Bool) (KF : ∀ W, BsL W A k bs -> Calls Tryz.prog 42 #[bunV p A k c, .int .i64 7] W (Ret (.tuple #[x.v, .bool G]) W)) (KL : ∀ W, BsL W A k bs -> Calls Tryz.prog 110 #[.slice A k c] W (Ret (.bool L) W)) (KO : ∀ W, BsL W A k bs -> Calls Tryz.prog 111 #[.slice A k c] W (Ret (.bool O) W)) (KG : L = true -> ∀ W, BsL W A k bs -> Calls Tryz.prog 112 #[bunV p A k c] W (Ret (.bool F) W)) (w : World) (h : BsL w A k bs) : Calls Tryz.prog 93 #[bunV p A k c] w (Ret (.int .i64 (if !L || !O || (decide (p.t = 0) && !G) || !F then 8 else 0)) w) := by
 generalize hRES : (if !L || !O || (decide (p.t = 0) && !G) || !F then (8 : Int) else 0) = RES
 have HRES := hid hRES.symm
 clear hRES
 have HE := hid ((Mod.refl [] w).alloc (.cells (bunC p A k c) 29))
 have HB0 : Hid (Blk (w.alloc (.cells (bunC p A k c) 29)) w.heap.size 29 (bunC p A k c)) := hid (Blk.new w 29 (bunC p A k c))
 have xa : decide ((16 : Int) < (k : Int)) = false := decide_eq_false (by omega)
 have xb : ((16 : Int) < (k : Int)) = False := eq_false (by omega)
 have xc : decide (16 < k) = false := decide_eq_false h16
 have HL := hid (BsL.ext h HE.out)
 have KF := hid KF
 have KL := hid KL
 have KO := hid KO
 have KG := hid KG
 clear h h16
 go_enter Tryz.func93, Tryz.ntmps93
 go_upto_region 1 with fail
 generalize (w.alloc (.cells (bunC p A k c) 29)) = V at *
 have b19 : ∀ e : Later V, e.x.cell? ⟨w.heap.size, 19, none⟩ = some (.slice A k c) := HB0.out.cellL 19 rfl
 have b14 : ∀ e : Later V, e.x.cell? ⟨w.heap.size, 14, none⟩ = some (.int .u64 (p.t : Int)) := HB0.out.cellL 14 rfl
 obtain ⟨e, he⟩ := Later.self V
 rw [he]
 clear he
 go_upto_region 4 with (first | (go_at_call 42; refine (Ret.later (KF.out _ (HL.out.ext (Later.h _)))).mono ?_; rintro x _ ⟨rfl, e, rfl⟩) | (refine wpList_row (by rfl) 29 _ rfl _ rfl (HB0.out.later _) Tryz.underlying29 rfl (by kernel_rfl) ?_))
 generalize hU : World.alloc e.x _ = U
 obtain ⟨e2, rfl⟩ : ∃ e2 : Later V, U = e2.x := ⟨⟨U, by rw [<- hU]; exact (Later.h e).alloc _⟩, rfl⟩
 clear hU
 cases L with
 | false =>
  go_wp2_with (first | (go_at_call 110; refine (Ret.later (KL.out _ (HL.out.ext (Later.h _)))).mono ?_; rintro x _ ⟨rfl, e, rfl⟩))
  go_ret
  exact Ret.mk (by rw [HRES.out]; simp) (HE.out.trans (Later.h _))
 | true =>
  have KH := hid (KG.out rfl)
  clear KG
  cases O with
  | false =>
   go_wp2_with (first | (go_at_call 110; refine (Ret.later (KL.out _ (HL.out.ext (Later.h _)))).mono ?_; rintro x _ ⟨rfl, e, rfl⟩) | (go_at_call 111; refine (Ret.later (KO.out _ (HL.out.ext (Later.h _)))).mono ?_; rintro x _ ⟨rfl, e, rfl⟩))
   go_ret
   exact Ret.mk (by rw [HRES.out]; simp) (HE.out.trans (Later.h _))
  | true =>
   by_cases ht : p.t = 0
   .
    have HT := hid ht
    have ta : (((p.t : Int)) == (0)) = true := by rw [beq_iff_eq]; omega
    have tb : (((p.t : Int)) = (0)) = True := eq_true (by omega)
    have tc : (((p.t : Int)) != (0)) = false := by rw [bne_eq_false_iff_eq]; omega
    have ua : ((p.t) == (0)) = true := by rw [beq_iff_eq]; omega
    have ub : ((p.t) = (0)) = True := eq_true (by omega)
    have uc : ((p.t) != (0)) = false := by rw [bne_eq_false_iff_eq]; omega
    clear ht
    cases G with
    | false =>
     go_wp2_with (first | (go_at_call 110; refine (Ret.later (KL.out _ (HL.out.ext (Later.h _)))).mono ?_; rintro x _ ⟨rfl, e, rfl⟩) | (go_at_call 111; refine (Ret.later (KO.out _ (HL.out.ext (Later.h _)))).mono ?_; rintro x _ ⟨rfl, e, rfl⟩))
     go_ret
     exact Ret.mk (by rw [HRES.out]; simp [HT.out]) (HE.out.trans (Later.h _))
    | true =>
     cases F with
     | false =>
      go_wp2_with (first | (go_at_call 110; refine (Ret.later (KL.out _ (HL.out.ext (Later.h _)))).mono ?_; rintro x _ ⟨rfl, e, rfl⟩) | (go_at_call 111; refine (Ret.later (KO.out _ (HL.out.ext (Later.h _)))).mono ?_; rintro x _ ⟨rfl, e, rfl⟩) | (go_at_call 112; refine (Ret.later (KH.out _ (HL.out.ext (Later.h _)))).mono ?_; rintro x _ ⟨rfl, e, rfl⟩) | (refine wpList_row (by rfl) 29 _ rfl _ rfl (HB0.out.later _) Tryz.underlying29 rfl (by kernel_rfl) ?_))
      go_ret
      exact Ret.mk (by rw [HRES.out]; simp) (HE.out.trans (Later.h _))
     | true =>
      go_wp2_with (first | (go_at_call 110; refine (Ret.later (KL.out _ (HL.out.ext (Later.h _)))).mono ?_; rintro x _ ⟨rfl, e, rfl⟩) | (go_at_call 111; refine (Ret.later (KO.out _ (HL.out.ext (Later.h _)))).mono ?_; rintro x _ ⟨rfl, e, rfl⟩) | (go_at_call 112; refine (Ret.later (KH.out _ (HL.out.ext (Later.h _)))).mono ?_; rintro x _ ⟨rfl, e, rfl⟩) | (refine wpList_row (by rfl) 29 _ rfl _ rfl (HB0.out.later _) Tryz.underlying29 rfl (by kernel_rfl) ?_))
      go_ret
      exact Ret.mk (by rw [HRES.out]; simp) (HE.out.trans (Later.h _))
   .
    have HT := hid ht
    have ta : (((p.t : Int)) == (0)) = false := by rw [beq_eq_false_iff_ne]; omega
    have tb : (((p.t : Int)) = (0)) = False := eq_false (by omega)
    have tc : (((p.t : Int)) != (0)) = true := by rw [bne_iff_ne]; omega
    have ua : ((p.t) == (0)) = false := by rw [beq_eq_false_iff_ne]; omega
    have ub : ((p.t) = (0)) = False := eq_false (by omega)
    have uc : ((p.t) != (0)) = true := by rw [bne_iff_ne]; omega
    clear ht
    cases F with
    | false =>
     go_wp2_with (first | (go_at_call 110; refine (Ret.later (KL.out _ (HL.out.ext (Later.h _)))).mono ?_; rintro x _ ⟨rfl, e, rfl⟩) | (go_at_call 111; refine (Ret.later (KO.out _ (HL.out.ext (Later.h _)))).mono ?_; rintro x _ ⟨rfl, e, rfl⟩) | (go_at_call 112; refine (Ret.later (KH.out _ (HL.out.ext (Later.h _)))).mono ?_; rintro x _ ⟨rfl, e, rfl⟩) | (refine wpList_row (by rfl) 29 _ rfl _ rfl (HB0.out.later _) Tryz.underlying29 rfl (by kernel_rfl) ?_))
     go_ret
     exact Ret.mk (by rw [HRES.out]; simp [HT.out]) (HE.out.trans (Later.h _))
    | true =>
     go_wp2_with (first | (go_at_call 110; refine (Ret.later (KL.out _ (HL.out.ext (Later.h _)))).mono ?_; rintro x _ ⟨rfl, e, rfl⟩) | (go_at_call 111; refine (Ret.later (KO.out _ (HL.out.ext (Later.h _)))).mono ?_; rintro x _ ⟨rfl, e, rfl⟩) | (go_at_call 112; refine (Ret.later (KH.out _ (HL.out.ext (Later.h _)))).mono ?_; rintro x _ ⟨rfl, e, rfl⟩) | (refine wpList_row (by rfl) 29 _ rfl _ rfl (HB0.out.later _) Tryz.underlying29 rfl (by kernel_rfl) ?_))
     go_ret
     exact Ret.mk (by rw [HRES.out]; simp [HT.out]) (HE.out.trans (Later.h _))
theorem rules_any (p : PV) (bs : Nat -> BV) (k c : Nat) (A : Option Addr) (hf : p.fl < 18446744073709551616) (hk : k < 4611686018427387904) (hp : p.right = 0) (hbs : ∀ i, i < k -> (bs i).right = 0) (w : World) (h : BsL w A k bs) : Calls Tryz.prog 93 #[bunV p A k c] w (Ret (.int .i64 (rulesR p bs k)) w) := by
 have hrs := PV.ranged_spec (PV.right_ranged hp)
 unfold rulesR
 by_cases h16 : 16 < k
 . rw [if_pos h16]; exact rules_16 p bs k c A h16 w h
 .
  rw [if_neg h16, rule1_once]
  obtain ⟨x, hx⟩ := find_age bs k
  have KF : ∀ W, BsL W A k bs -> Calls Tryz.prog 42 #[bunV p A k c, .int .i64 7] W (Ret (.tuple #[x.v, .bool (decide (cntB bs 7 k ≠ 0))]) W) := fun W hW => by rw [<- hx]; exact Find_any p bs k c A 7 hk W hW
  have KO : ∀ W, BsL W A k bs -> Calls Tryz.prog 111 #[.slice A k c] W (Ret (.bool (onceB bs k)) W) := fun W hW => once_any bs k c A (by omega) (fun i hi => right_wf (hbs i hi)) W hW
  cases k with
  | zero =>
   have := rules_let p bs 0 c A h16 x false (onceB bs 0) _ true KF (fun W hW => lasts_0 bs c A W) KO (fun e => by cases e) w h
   simpa using this
  | succ m =>
   have hm := hbs m (by omega)
   have hz := BV.right_zero hm
   have := rules_let p bs (m + 1) c A h16 x (decide ((bs m).ty = 1)) (onceB bs (m + 1)) _ (!(has p.fl 1 && decide (p.n < p.o + (bs m).data.length))) KF (fun W hW => lasts_S bs m c A (by omega) W hW) KO (fun _ W hW => fits_S p bs m c A (by omega) hf (by omega) (by omega) W hW) w h
   refine this.mono fun r w' hr => ?_
   have e : (if !decide ((bs m).ty = 1) || !onceB bs (m + 1) || (decide (p.t = 0) && !decide (cntB bs 7 (m + 1) ≠ 0)) || !!(has p.fl 1 && decide (p.n < p.o + (bs m).data.length)) then (8 : Int) else 0) =
     if (decide (m + 1 = 0) || !onceB bs (m + 1)) = true then 8 else if bunRule2 p bs (m + 1) = true then 8 else if bunRule3 p bs (m + 1) = true then 8 else 0 := by
    unfold bunRule2 bunRule3
    simp only [Nat.add_sub_cancel]
    cases onceB bs (m + 1) <;> by_cases ht : (bs m).ty = 1 <;> by_cases h0 : p.t = 0 <;> by_cases h7 : cntB bs 7 (m + 1) = 0 <;> cases has p.fl 1 <;> simp [ht, h0, h7]
   rw [<- e]
   exact hr
set_option maxRecDepth 20000 in
set_option maxHeartbeats 1600000 in
theorem made_p (p : PV) (bs : Nat -> BV) (k c : Nat) (A : Option Addr) (r : Int) (hr : r ≠ 0) (KP : Hid (∀ W, BsL W A k bs -> Calls Tryz.prog 92 #[bunV p A k c] W (Ret (.int .i64 r) W))) (w : World) (h : BsL w A k bs) : Calls Tryz.prog 78 #[bunV p A k c] w (Ret (.tuple #[str [], .int .i64 r]) w) := by
 have HE := hid ((Mod.refl [] w).alloc (.cells (bunC p A k c) 29))
 have HB0 : Hid (Blk (w.alloc (.cells (bunC p A k c) 29)) w.heap.size 29 (bunC p A k c)) := hid (Blk.new w 29 (bunC p A k c))
 have HL := hid (BsL.ext h HE.out)
 clear h
 have ra : ((r) == (0)) = false := by rw [beq_eq_false_iff_ne]; exact hr
 have rb : ((r) = (0)) = False := eq_false (by exact hr)
 have rc : ((r) != (0)) = true := by rw [bne_iff_ne]; exact hr
 clear hr
 go_enter Tryz.func78, Tryz.ntmps78
 go_upto_region 1 with fail
 generalize (w.alloc (.cells (bunC p A k c) 29)) = V at *
 obtain ⟨e, he⟩ := Later.self V
 rw [he]
 clear he
 go_wp2_with (first | (refine wpList_row (by rfl) 29 _ rfl _ rfl (HB0.out.later _) Tryz.underlying29 rfl (by kernel_rfl) ?_) | (go_at_call 92; refine (Ret.later (KP.out _ (HL.out.ext (Later.h _)))).mono ?_; rintro x _ ⟨rfl, e, rfl⟩))
 go_ret2
 exact Ret.mk rfl (HE.out.trans (Later.h _))
set_option maxRecDepth 20000 in
set_option maxHeartbeats 1600000 in
theorem made_r (p : PV) (bs : Nat -> BV) (k c : Nat) (A : Option Addr) (r : Int) (hr : r ≠ 0) (KP : Hid (∀ W, BsL W A k bs -> Calls Tryz.prog 92 #[bunV p A k c] W (Ret (.int .i64 0) W))) (KR : Hid (∀ W, BsL W A k bs -> Calls Tryz.prog 93 #[bunV p A k c] W (Ret (.int .i64 r) W))) (w : World) (h : BsL w A k bs) : Calls Tryz.prog 78 #[bunV p A k c] w (Ret (.tuple #[str [], .int .i64 r]) w) := by
 have HE := hid ((Mod.refl [] w).alloc (.cells (bunC p A k c) 29))
 have HB0 : Hid (Blk (w.alloc (.cells (bunC p A k c) 29)) w.heap.size 29 (bunC p A k c)) := hid (Blk.new w 29 (bunC p A k c))
 have HL := hid (BsL.ext h HE.out)
 clear h
 have ra : ((r) == (0)) = false := by rw [beq_eq_false_iff_ne]; exact hr
 have rb : ((r) = (0)) = False := eq_false (by exact hr)
 have rc : ((r) != (0)) = true := by rw [bne_iff_ne]; exact hr
 clear hr
 go_enter Tryz.func78, Tryz.ntmps78
 go_upto_region 1 with fail
 generalize (w.alloc (.cells (bunC p A k c) 29)) = V at *
 obtain ⟨e, he⟩ := Later.self V
 rw [he]
 clear he
 go_wp2_with (first | (refine wpList_row (by rfl) 29 _ rfl _ rfl (HB0.out.later _) Tryz.underlying29 rfl (by kernel_rfl) ?_) | (go_at_call 92; refine (Ret.later (KP.out _ (HL.out.ext (Later.h _)))).mono ?_; rintro x _ ⟨rfl, e, rfl⟩) | (go_at_call 93; refine (Ret.later (KR.out _ (HL.out.ext (Later.h _)))).mono ?_; rintro x _ ⟨rfl, e, rfl⟩))
 go_ret2
 exact Ret.mk rfl (HE.out.trans (Later.h _))
set_option maxRecDepth 20000 in
set_option maxHeartbeats 1600000 in
theorem made_l (p : PV) (bs : Nat -> BV) (k c : Nat) (A : Option Addr) (BB : List UInt8) (hl : 4000 < BB.length) (KP : Hid (∀ W, BsL W A k bs -> Calls Tryz.prog 92 #[bunV p A k c] W (Ret (.int .i64 0) W))) (KR : Hid (∀ W, BsL W A k bs -> Calls Tryz.prog 93 #[bunV p A k c] W (Ret (.int .i64 0) W))) (KB : Hid (∀ W, BsL W A k bs -> Calls Tryz.prog 94 #[bunV p A k c] W (Ret (str BB) W))) (w : World) (h : BsL w A k bs) : Calls Tryz.prog 78 #[bunV p A k c] w (Ret (.tuple #[str [], .int .i64 4]) w) := by
 have HE := hid ((Mod.refl [] w).alloc (.cells (bunC p A k c) 29))
 have HB0 : Hid (Blk (w.alloc (.cells (bunC p A k c) 29)) w.heap.size 29 (bunC p A k c)) := hid (Blk.new w 29 (bunC p A k c))
 have HL := hid (BsL.ext h HE.out)
 clear h
 have la : decide ((4000 : Int) < (BB.length : Int)) = true := decide_eq_true (by omega)
 have lb : ((4000 : Int) < (BB.length : Int)) = True := eq_true (by omega)
 have lc : decide (4000 < BB.length) = true := decide_eq_true hl
 clear hl
 go_enter Tryz.func78, Tryz.ntmps78
 go_upto_region 1 with fail
 generalize (w.alloc (.cells (bunC p A k c) 29)) = V at *
 obtain ⟨e, he⟩ := Later.self V
 rw [he]
 clear he
 go_wp2_with (first | (refine wpList_row (by rfl) 29 _ rfl _ rfl (HB0.out.later _) Tryz.underlying29 rfl (by kernel_rfl) ?_) | (go_at_call 92; refine (Ret.later (KP.out _ (HL.out.ext (Later.h _)))).mono ?_; rintro x _ ⟨rfl, e, rfl⟩) | (go_at_call 93; refine (Ret.later (KR.out _ (HL.out.ext (Later.h _)))).mono ?_; rintro x _ ⟨rfl, e, rfl⟩) | (go_at_call 94; refine (Ret.later (KB.out _ (HL.out.ext (Later.h _)))).mono ?_; rintro x _ ⟨rfl, e, rfl⟩))
 go_ret2
 exact Ret.mk rfl (HE.out.trans (Later.h _))
set_option maxRecDepth 20000 in
set_option maxHeartbeats 1600000 in
theorem made_0 (p : PV) (bs : Nat -> BV) (k c : Nat) (A : Option Addr) (BB : List UInt8) (hl : ¬ 4000 < BB.length) (KP : Hid (∀ W, BsL W A k bs -> Calls Tryz.prog 92 #[bunV p A k c] W (Ret (.int .i64 0) W))) (KR : Hid (∀ W, BsL W A k bs -> Calls Tryz.prog 93 #[bunV p A k c] W (Ret (.int .i64 0) W))) (KB : Hid (∀ W, BsL W A k bs -> Calls Tryz.prog 94 #[bunV p A k c] W (Ret (str BB) W))) (w : World) (h : BsL w A k bs) : Calls Tryz.prog 78 #[bunV p A k c] w (Ret (.tuple #[str BB, .int .i64 0]) w) := by
 have HE := hid ((Mod.refl [] w).alloc (.cells (bunC p A k c) 29))
 have HB0 : Hid (Blk (w.alloc (.cells (bunC p A k c) 29)) w.heap.size 29 (bunC p A k c)) := hid (Blk.new w 29 (bunC p A k c))
 have HL := hid (BsL.ext h HE.out)
 clear h
 have la : decide ((4000 : Int) < (BB.length : Int)) = false := decide_eq_false (by omega)
 have lb : ((4000 : Int) < (BB.length : Int)) = False := eq_false (by omega)
 have lc : decide (4000 < BB.length) = false := decide_eq_false hl
 clear hl
 go_enter Tryz.func78, Tryz.ntmps78
 go_upto_region 1 with fail
 generalize (w.alloc (.cells (bunC p A k c) 29)) = V at *
 obtain ⟨e, he⟩ := Later.self V
 rw [he]
 clear he
 go_wp2_with (first | (refine wpList_row (by rfl) 29 _ rfl _ rfl (HB0.out.later _) Tryz.underlying29 rfl (by kernel_rfl) ?_) | (go_at_call 92; refine (Ret.later (KP.out _ (HL.out.ext (Later.h _)))).mono ?_; rintro x _ ⟨rfl, e, rfl⟩) | (go_at_call 93; refine (Ret.later (KR.out _ (HL.out.ext (Later.h _)))).mono ?_; rintro x _ ⟨rfl, e, rfl⟩) | (go_at_call 94; refine (Ret.later (KB.out _ (HL.out.ext (Later.h _)))).mono ?_; rintro x _ ⟨rfl, e, rfl⟩))
 go_ret2
 exact Ret.mk rfl (HE.out.trans (Later.h _))
def madeV (p : PV) (bs : Nat -> BV) (k : Nat) : Value := .tuple #[str (if bunRight p bs k = 0 then bunBytes p bs k else []), .int .i64 (bunRight p bs k)]
theorem made_any (p : PV) (bs : Nat -> BV) (k c : Nat) (A : Option Addr) (hnl : Hid (p.d.name.length < 4611686018427387904 /\ p.s.name.length < 4611686018427387904 /\ p.r.name.length < 4611686018427387904)) (hf : p.fl < 18446744073709551616) (hk : k < 4611686018427387904) (w : World) (h : BsL w A k bs) : Calls Tryz.prog 78 #[bunV p A k c] w (Ret (madeV p bs k) w) := by
 have KP := hid (fun W (hW : BsL W A k bs) => bparts_any p bs k c A hnl hf hk W hW)
 unfold madeV
 by_cases hp : p.right = 0
 .
  cases hfo : firstOf (badAt bs) k with
  | some i =>
   have hb : (bs i).right ≠ 0 := by have := (firstOf_spec hfo).2.1; simpa [badAt] using this
   have e1 : partsR p bs k = (bs i).right := by unfold partsR; rw [if_neg (by simpa using hp), hfo]
   have e2 : bunRight p bs k = (bs i).right := by unfold bunRight; rw [if_neg (by simpa using hp), hfo]
   rw [e1] at KP
   rw [e2, if_neg hb]
   exact made_p p bs k c A _ hb KP w h
  | none =>
   have hbs : ∀ i, i < k -> (bs i).right = 0 := fun i hi => bad_no (firstOf_no hfo i hi)
   have e1 : partsR p bs k = 0 := by unfold partsR; rw [if_neg (by simpa using hp), hfo]
   have e2 : bunRight p bs k = if rulesR p bs k ≠ 0 then rulesR p bs k else if 4000 < (bunBytes p bs k).length then 4 else 0 := by
    unfold bunRight rulesR
    rw [if_neg (show ¬ p.right ≠ 0 by simpa using hp), hfo]
    by_cases h16 : 16 < k
    . simp [h16]
    . cases bunRule1 bs k <;> cases bunRule2 p bs k <;> cases bunRule3 p bs k <;> simp [h16]
   rw [e1] at KP
   have KR := hid (fun W (hW : BsL W A k bs) => rules_any p bs k c A hf hk hp hbs W hW)
   by_cases hr : rulesR p bs k = 0
   .
    rw [hr] at KR
    have h16 : k <= 16 := by
     unfold rulesR at hr
     by_cases h16 : 16 < k
     . rw [if_pos h16] at hr; exact absurd hr (by decide)
     . omega
    have KB := hid (fun W (hW : BsL W A k bs) => bbuild_any p bs k c A hnl hf (by omega) hp hbs W hW)
    have e3 : bunRight p bs k = if 4000 < (bunBytes p bs k).length then 4 else 0 := by rw [e2, if_neg (show ¬ rulesR p bs k ≠ 0 by simpa using hr)]
    by_cases hl : 4000 < (bunBytes p bs k).length
    .
     rw [if_pos hl] at e3
     rw [e3, if_neg (show ¬ (4 : Int) = 0 by decide)]; exact made_l p bs k c A _ hl KP KR KB w h
    .
     rw [if_neg hl] at e3
     rw [e3, if_pos rfl]; exact made_0 p bs k c A _ hl KP KR KB w h
   .
    rw [e2, if_pos hr, if_neg hr]
    exact made_r p bs k c A _ hr KP KR w h
 .
  have e1 : partsR p bs k = p.right := by unfold partsR; rw [if_pos hp]
  have e2 : bunRight p bs k = p.right := by unfold bunRight; rw [if_pos hp]
  rw [e1] at KP
  rw [e2, if_neg hp]
  exact made_p p bs k c A _ hp KP w h
set_option maxRecDepth 20000 in
theorem cBunRight_any (p : PV) (bs : Nat -> BV) (k c : Nat) (A : Option Addr) (hnl : Hid (p.d.name.length < 4611686018427387904 /\ p.s.name.length < 4611686018427387904 /\ p.r.name.length < 4611686018427387904)) (hf : p.fl < 18446744073709551616) (hk : k < 4611686018427387904) (w : World) (h : BsL w A k bs) : Calls Tryz.prog 59 #[bunV p A k c] w (Ret (.int .i64 (bunRight p bs k)) w) := by
 have KM := hid (fun W (hW : BsL W A k bs) => made_any p bs k c A hnl hf hk W hW)
 unfold madeV at KM
 generalize (if bunRight p bs k = 0 then bunBytes p bs k else []) = BB at *
 generalize bunRight p bs k = r at *
 have HE := hid ((Mod.refl [] w).alloc (.cells (bunC p A k c) 29))
 have HB0 : Hid (Blk (w.alloc (.cells (bunC p A k c) 29)) w.heap.size 29 (bunC p A k c)) := hid (Blk.new w 29 (bunC p A k c))
 have HL := hid (BsL.ext h HE.out)
 clear h
 go_enter Tryz.func59, Tryz.ntmps59
 go_upto_region 1 with fail
 generalize (w.alloc (.cells (bunC p A k c) 29)) = V at *
 obtain ⟨e, he⟩ := Later.self V
 rw [he]
 clear he
 go_wp2_with (first | (refine wpList_row (by rfl) 29 _ rfl _ rfl (HB0.out.later _) Tryz.underlying29 rfl (by kernel_rfl) ?_) | (go_at_call 78; refine (Ret.later (KM.out _ (HL.out.ext (Later.h _)))).mono ?_; rintro x _ ⟨rfl, e, rfl⟩))
 go_ret
 exact Ret.mk rfl (HE.out.trans (Later.h _))
end Go.Proofs.YthecmnbkjchjmaaGreat


namespace Go.Proofs.YthecmnbkjchjmaaGreat
open Go.RowKit
set_option linter.unusedVariables false
set_option linter.unusedSimpArgs false

def zeroBun : Array Value := #[.int .u64 0, .int .i64 0, .int .i64 0, .string ⟨#[]⟩, .int .u64 0, .int .u64 0, .int .i64 0, .string ⟨#[]⟩, .int .u64 0, .int .u64 0, .int .i64 0, .string ⟨#[]⟩, .int .u64 0, .int .u64 0, .int .u64 0, .int .u64 0, .int .u64 0, .int .u64 0, .int .u64 0, .slice none 0 0]
def chkV (p : PV) (A : Option Addr) (k c : Nat) (r : Int) : Value := if r = 0 then .tuple #[bunV p A k c, .int .i64 0] else .tuple #[.agg zeroBun, .int .i64 r]
theorem chkV_0 {p : PV} {A : Option Addr} {k c : Nat} {r : Int} (h : r = 0) : chkV p A k c r = .tuple #[bunV p A k c, .int .i64 0] := if_pos h
theorem chkV_no {p : PV} {A : Option Addr} {k c : Nat} {r : Int} (h : r ≠ 0) : chkV p A k c r = .tuple #[.agg zeroBun, .int .i64 r] := if_neg h
set_option maxRecDepth 20000 in
set_option maxHeartbeats 1600000 in
theorem checked_ok (p : PV) (bs' : Nat -> BV) (k c k' c' : Nat) (A A' : Option Addr) (hnl : Hid (p.d.name.length < 4611686018427387904 /\ p.s.name.length < 4611686018427387904 /\ p.r.name.length < 4611686018427387904)) (hf : p.fl < 18446744073709551616) (hk : k' < 4611686018427387904) (hr : bunRight p bs' k' = 0) (w : World) (h : BsL w A' k' bs') (hlt : ∀ kk o', A' = some ⟨kk, o', none⟩ -> kk < w.heap.size) : Calls Tryz.prog 80 #[bunV p A k c, .slice A' k' c'] w (Ret ((.tuple #[bunV p A' k' c', .int .i64 0] : Value)) w) := by
 have KR := hid (fun W (hW : BsL W A' k' bs') => cBunRight_any p bs' k' c' A' hnl hf hk W hW)
 rw [hr] at KR
 clear hr
 have HLT := hid hlt
 clear hlt hk
 have HE := hid (((Mod.refl [] w).alloc (.cells (bunC p A k c) 29)).alloc (.cells #[.int .u64 0, .int .i64 0, .int .i64 0, .string ⟨#[]⟩, .int .u64 0, .int .u64 0, .int .i64 0, .string ⟨#[]⟩, .int .u64 0, .int .u64 0, .int .i64 0, .string ⟨#[]⟩, .int .u64 0, .int .u64 0, .int .u64 0, .int .u64 0, .int .u64 0, .int .u64 0, .int .u64 0, .slice none 0 0] 29))
 have HB0 : Hid (Blk ((w.alloc (.cells (bunC p A k c) 29)).alloc (.cells #[.int .u64 0, .int .i64 0, .int .i64 0, .string ⟨#[]⟩, .int .u64 0, .int .u64 0, .int .i64 0, .string ⟨#[]⟩, .int .u64 0, .int .u64 0, .int .i64 0, .string ⟨#[]⟩, .int .u64 0, .int .u64 0, .int .u64 0, .int .u64 0, .int .u64 0, .int .u64 0, .int .u64 0, .slice none 0 0] 29)) w.heap.size 29 (bunC p A k c)) := hid ((Blk.new w 29 (bunC p A k c)).alloc (.cells #[.int .u64 0, .int .i64 0, .int .i64 0, .string ⟨#[]⟩, .int .u64 0, .int .u64 0, .int .i64 0, .string ⟨#[]⟩, .int .u64 0, .int .u64 0, .int .i64 0, .string ⟨#[]⟩, .int .u64 0, .int .u64 0, .int .u64 0, .int .u64 0, .int .u64 0, .int .u64 0, .int .u64 0, .slice none 0 0] 29))
 have HB1 : Hid (Blk ((w.alloc (.cells (bunC p A k c) 29)).alloc (.cells #[.int .u64 0, .int .i64 0, .int .i64 0, .string ⟨#[]⟩, .int .u64 0, .int .u64 0, .int .i64 0, .string ⟨#[]⟩, .int .u64 0, .int .u64 0, .int .i64 0, .string ⟨#[]⟩, .int .u64 0, .int .u64 0, .int .u64 0, .int .u64 0, .int .u64 0, .int .u64 0, .int .u64 0, .slice none 0 0] 29)) (w.heap.size + 1) 29 #[.int .u64 0, .int .i64 0, .int .i64 0, .string ⟨#[]⟩, .int .u64 0, .int .u64 0, .int .i64 0, .string ⟨#[]⟩, .int .u64 0, .int .u64 0, .int .i64 0, .string ⟨#[]⟩, .int .u64 0, .int .u64 0, .int .u64 0, .int .u64 0, .int .u64 0, .int .u64 0, .int .u64 0, .slice none 0 0]) := by unfold Hid; exact Blk.newL _ _ _ (by simp)
 have HL := hid (BsL.ext h HE.out)
 clear h
 go_enter Tryz.func80, Tryz.ntmps80
 go_upto_region 1 with fail
 generalize ((w.alloc (.cells (bunC p A k c) 29)).alloc (.cells #[.int .u64 0, .int .i64 0, .int .i64 0, .string ⟨#[]⟩, .int .u64 0, .int .u64 0, .int .i64 0, .string ⟨#[]⟩, .int .u64 0, .int .u64 0, .int .i64 0, .string ⟨#[]⟩, .int .u64 0, .int .u64 0, .int .u64 0, .int .u64 0, .int .u64 0, .int .u64 0, .int .u64 0, .slice none 0 0] 29)) = V at *
 have b19 : V.cell? ⟨w.heap.size, 19, none⟩ = some (.slice A k c) := HB0.out.cell 19
 have b19f : V.frozen? ⟨w.heap.size, 19, none⟩ = false := HB0.out.frozen 19
 go_upto_region 2 with fail
 generalize hU : World.setCell V _ _ = U
 have HX : Hid (Blk U w.heap.size 29 (bunC p A' k' c')) := hid (by rw [<- hU]; exact HB0.out.set_ 19 (.slice A' k' c'))
 have HR : Hid (Blk U (w.heap.size + 1) 29 #[.int .u64 0, .int .i64 0, .int .i64 0, .string ⟨#[]⟩, .int .u64 0, .int .u64 0, .int .i64 0, .string ⟨#[]⟩, .int .u64 0, .int .u64 0, .int .i64 0, .string ⟨#[]⟩, .int .u64 0, .int .u64 0, .int .u64 0, .int .u64 0, .int .u64 0, .int .u64 0, .int .u64 0, .slice none 0 0]) := hid (by rw [<- hU]; exact HB1.out.far (by simp) _)
 have HU : Hid (Ext w U) := hid (by rw [<- hU]; exact HE.out.setCell (.inr (Nat.le_refl _)) _)
 have HLU : Hid (BsL U A' k' bs') := hid (by
  intro hn
  obtain ⟨bb, oo, hA, hbl, hcc⟩ := HL.out hn
  have hlt := HLT.out bb oo hA
  rw [<- hU]
  exact ⟨bb, oo, hA, Nat.lt_of_lt_of_le hbl (by simp [World.setCell]), fun j hj => (hcc j hj).mod (S := [w.heap.size]) (Mod.setCell (Mod.refl _ _) (.inl (by simp)) _) hbl (by simp; omega)⟩)
 clear hU b19 b19f HB0 HB1 HL HE
 obtain ⟨e, he⟩ := Later.self U
 rw [he]
 clear he
 go_wp2_with (first | (go_at_call 59; refine (Ret.later (KR.out _ (HLU.out.ext (Later.h _)))).mono ?_; rintro x _ ⟨rfl, e, rfl⟩) | (refine wpList_row (by rfl) 29 _ rfl _ rfl (HX.out.later _) Tryz.underlying29 rfl (by kernel_rfl) ?_) | (refine wpList_store_mid rfl 29 _ _ rfl (w.heap.size + 1) 0 (bunC p A' k' c') (by rfl) (by rfl) ((HR.out.later e).there (Nat.le_refl 20)) (by kernel_rfl) (by simp [Value.oneCell']) ?_))
 generalize hZ : World.setCells _ _ _ _ = Z
 have HZB : Hid (Blk Z (w.heap.size + 1) 29 (bunC p A' k' c')) := hid (by rw [<- hZ]; exact setCells_all (ds := (bunC p A' k' c')) (HR.out.later e) rfl)
 have HZM : Hid (Ext w Z) := hid (by rw [<- hZ]; exact setCells_mod _ _ (HU.out.trans e.h) (.inr (by simp)))
 clear hZ
 refine bodyPost_ret (v := (.tuple #[bunV p A' k' c', .int .i64 0] : Value)) (results_cell2 Tryz.results80 _ rfl rfl HZB.out Tryz.underlying29 rfl (by kernel_rfl)) rfl (Ret.mk rfl HZM.out)
set_option maxRecDepth 20000 in
set_option maxHeartbeats 1600000 in
theorem checked_no (p : PV) (bs' : Nat -> BV) (k c k' c' : Nat) (A A' : Option Addr) (hnl : Hid (p.d.name.length < 4611686018427387904 /\ p.s.name.length < 4611686018427387904 /\ p.r.name.length < 4611686018427387904)) (hf : p.fl < 18446744073709551616) (hk : k' < 4611686018427387904) (r : Int) (hr : bunRight p bs' k' = r) (h0 : r ≠ 0) (w : World) (h : BsL w A' k' bs') (hlt : ∀ kk o', A' = some ⟨kk, o', none⟩ -> kk < w.heap.size) : Calls Tryz.prog 80 #[bunV p A k c, .slice A' k' c'] w (Ret ((.tuple #[.agg #[.int .u64 0, .int .i64 0, .int .i64 0, .string ⟨#[]⟩, .int .u64 0, .int .u64 0, .int .i64 0, .string ⟨#[]⟩, .int .u64 0, .int .u64 0, .int .i64 0, .string ⟨#[]⟩, .int .u64 0, .int .u64 0, .int .u64 0, .int .u64 0, .int .u64 0, .int .u64 0, .int .u64 0, .slice none 0 0], .int .i64 r] : Value)) w) := by
 have KR := hid (fun W (hW : BsL W A' k' bs') => cBunRight_any p bs' k' c' A' hnl hf hk W hW)
 rw [hr] at KR
 have ra : ((r) == (0)) = false := by rw [beq_eq_false_iff_ne]; exact h0
 have rb : ((r) = (0)) = False := eq_false (by exact h0)
 have rc : ((r) != (0)) = true := by rw [bne_iff_ne]; exact h0
 clear hr h0
 have HLT := hid hlt
 clear hlt hk
 have HE := hid (((Mod.refl [] w).alloc (.cells (bunC p A k c) 29)).alloc (.cells #[.int .u64 0, .int .i64 0, .int .i64 0, .string ⟨#[]⟩, .int .u64 0, .int .u64 0, .int .i64 0, .string ⟨#[]⟩, .int .u64 0, .int .u64 0, .int .i64 0, .string ⟨#[]⟩, .int .u64 0, .int .u64 0, .int .u64 0, .int .u64 0, .int .u64 0, .int .u64 0, .int .u64 0, .slice none 0 0] 29))
 have HB0 : Hid (Blk ((w.alloc (.cells (bunC p A k c) 29)).alloc (.cells #[.int .u64 0, .int .i64 0, .int .i64 0, .string ⟨#[]⟩, .int .u64 0, .int .u64 0, .int .i64 0, .string ⟨#[]⟩, .int .u64 0, .int .u64 0, .int .i64 0, .string ⟨#[]⟩, .int .u64 0, .int .u64 0, .int .u64 0, .int .u64 0, .int .u64 0, .int .u64 0, .int .u64 0, .slice none 0 0] 29)) w.heap.size 29 (bunC p A k c)) := hid ((Blk.new w 29 (bunC p A k c)).alloc (.cells #[.int .u64 0, .int .i64 0, .int .i64 0, .string ⟨#[]⟩, .int .u64 0, .int .u64 0, .int .i64 0, .string ⟨#[]⟩, .int .u64 0, .int .u64 0, .int .i64 0, .string ⟨#[]⟩, .int .u64 0, .int .u64 0, .int .u64 0, .int .u64 0, .int .u64 0, .int .u64 0, .int .u64 0, .slice none 0 0] 29))
 have HB1 : Hid (Blk ((w.alloc (.cells (bunC p A k c) 29)).alloc (.cells #[.int .u64 0, .int .i64 0, .int .i64 0, .string ⟨#[]⟩, .int .u64 0, .int .u64 0, .int .i64 0, .string ⟨#[]⟩, .int .u64 0, .int .u64 0, .int .i64 0, .string ⟨#[]⟩, .int .u64 0, .int .u64 0, .int .u64 0, .int .u64 0, .int .u64 0, .int .u64 0, .int .u64 0, .slice none 0 0] 29)) (w.heap.size + 1) 29 #[.int .u64 0, .int .i64 0, .int .i64 0, .string ⟨#[]⟩, .int .u64 0, .int .u64 0, .int .i64 0, .string ⟨#[]⟩, .int .u64 0, .int .u64 0, .int .i64 0, .string ⟨#[]⟩, .int .u64 0, .int .u64 0, .int .u64 0, .int .u64 0, .int .u64 0, .int .u64 0, .int .u64 0, .slice none 0 0]) := by unfold Hid; exact Blk.newL _ _ _ (by simp)
 have HL := hid (BsL.ext h HE.out)
 clear h
 go_enter Tryz.func80, Tryz.ntmps80
 go_upto_region 1 with fail
 generalize ((w.alloc (.cells (bunC p A k c) 29)).alloc (.cells #[.int .u64 0, .int .i64 0, .int .i64 0, .string ⟨#[]⟩, .int .u64 0, .int .u64 0, .int .i64 0, .string ⟨#[]⟩, .int .u64 0, .int .u64 0, .int .i64 0, .string ⟨#[]⟩, .int .u64 0, .int .u64 0, .int .u64 0, .int .u64 0, .int .u64 0, .int .u64 0, .int .u64 0, .slice none 0 0] 29)) = V at *
 have b19 : V.cell? ⟨w.heap.size, 19, none⟩ = some (.slice A k c) := HB0.out.cell 19
 have b19f : V.frozen? ⟨w.heap.size, 19, none⟩ = false := HB0.out.frozen 19
 go_upto_region 2 with fail
 generalize hU : World.setCell V _ _ = U
 have HX : Hid (Blk U w.heap.size 29 (bunC p A' k' c')) := hid (by rw [<- hU]; exact HB0.out.set_ 19 (.slice A' k' c'))
 have HR : Hid (Blk U (w.heap.size + 1) 29 #[.int .u64 0, .int .i64 0, .int .i64 0, .string ⟨#[]⟩, .int .u64 0, .int .u64 0, .int .i64 0, .string ⟨#[]⟩, .int .u64 0, .int .u64 0, .int .i64 0, .string ⟨#[]⟩, .int .u64 0, .int .u64 0, .int .u64 0, .int .u64 0, .int .u64 0, .int .u64 0, .int .u64 0, .slice none 0 0]) := hid (by rw [<- hU]; exact HB1.out.far (by simp) _)
 have HU : Hid (Ext w U) := hid (by rw [<- hU]; exact HE.out.setCell (.inr (Nat.le_refl _)) _)
 have HLU : Hid (BsL U A' k' bs') := hid (by
  intro hn
  obtain ⟨bb, oo, hA, hbl, hcc⟩ := HL.out hn
  have hlt := HLT.out bb oo hA
  rw [<- hU]
  exact ⟨bb, oo, hA, Nat.lt_of_lt_of_le hbl (by simp [World.setCell]), fun j hj => (hcc j hj).mod (S := [w.heap.size]) (Mod.setCell (Mod.refl _ _) (.inl (by simp)) _) hbl (by simp; omega)⟩)
 clear hU b19 b19f HB0 HB1 HL HE
 obtain ⟨e, he⟩ := Later.self U
 rw [he]
 clear he
 go_wp2_with (first | (go_at_call 59; refine (Ret.later (KR.out _ (HLU.out.ext (Later.h _)))).mono ?_; rintro x _ ⟨rfl, e, rfl⟩) | (refine wpList_row (by rfl) 29 _ rfl _ rfl (HX.out.later _) Tryz.underlying29 rfl (by kernel_rfl) ?_) | (refine wpList_store_mid rfl 29 _ _ rfl (w.heap.size + 1) 0 #[.int .u64 0, .int .i64 0, .int .i64 0, .string ⟨#[]⟩, .int .u64 0, .int .u64 0, .int .i64 0, .string ⟨#[]⟩, .int .u64 0, .int .u64 0, .int .i64 0, .string ⟨#[]⟩, .int .u64 0, .int .u64 0, .int .u64 0, .int .u64 0, .int .u64 0, .int .u64 0, .int .u64 0, .slice none 0 0] (by rfl) (by rfl) ((HR.out.later e).there (Nat.le_refl 20)) (by kernel_rfl) (by simp [Value.oneCell']) ?_))
 generalize hZ : World.setCells _ _ _ _ = Z
 have HZB : Hid (Blk Z (w.heap.size + 1) 29 #[.int .u64 0, .int .i64 0, .int .i64 0, .string ⟨#[]⟩, .int .u64 0, .int .u64 0, .int .i64 0, .string ⟨#[]⟩, .int .u64 0, .int .u64 0, .int .i64 0, .string ⟨#[]⟩, .int .u64 0, .int .u64 0, .int .u64 0, .int .u64 0, .int .u64 0, .int .u64 0, .int .u64 0, .slice none 0 0]) := hid (by rw [<- hZ]; exact setCells_all (ds := #[.int .u64 0, .int .i64 0, .int .i64 0, .string ⟨#[]⟩, .int .u64 0, .int .u64 0, .int .i64 0, .string ⟨#[]⟩, .int .u64 0, .int .u64 0, .int .i64 0, .string ⟨#[]⟩, .int .u64 0, .int .u64 0, .int .u64 0, .int .u64 0, .int .u64 0, .int .u64 0, .int .u64 0, .slice none 0 0]) (HR.out.later e) rfl)
 have HZM : Hid (Ext w Z) := hid (by rw [<- hZ]; exact setCells_mod _ _ (HU.out.trans e.h) (.inr (by simp)))
 clear hZ
 refine bodyPost_ret (v := (.tuple #[.agg #[.int .u64 0, .int .i64 0, .int .i64 0, .string ⟨#[]⟩, .int .u64 0, .int .u64 0, .int .i64 0, .string ⟨#[]⟩, .int .u64 0, .int .u64 0, .int .i64 0, .string ⟨#[]⟩, .int .u64 0, .int .u64 0, .int .u64 0, .int .u64 0, .int .u64 0, .int .u64 0, .int .u64 0, .slice none 0 0], .int .i64 r] : Value)) (results_cell2 Tryz.results80 _ rfl rfl HZB.out Tryz.underlying29 rfl (by kernel_rfl)) rfl (Ret.mk rfl HZM.out)
theorem checked_any (p : PV) (bs' : Nat -> BV) (k c k' c' : Nat) (A A' : Option Addr) (hnl : Hid (p.d.name.length < 4611686018427387904 /\ p.s.name.length < 4611686018427387904 /\ p.r.name.length < 4611686018427387904)) (hf : p.fl < 18446744073709551616) (hk : k' < 4611686018427387904) (w : World) (h : BsL w A' k' bs') (hlt : ∀ kk o', A' = some ⟨kk, o', none⟩ -> kk < w.heap.size) : Calls Tryz.prog 80 #[bunV p A k c, .slice A' k' c'] w (Ret (chkV p A' k' c' (bunRight p bs' k')) w) := by
 by_cases hr : bunRight p bs' k' = 0
 . rw [chkV_0 hr]; exact checked_ok p bs' k c k' c' A A' hnl hf hk hr w h hlt
 . rw [chkV_no hr]; exact checked_no p bs' k c k' c' A A' hnl hf hk _ rfl hr w h hlt
end Go.Proofs.YthecmnbkjchjmaaGreat


namespace Go.Proofs.YthecmnbkjchjmaaGreat
open Go.RowKit
set_option linter.unusedVariables false
set_option linter.unusedSimpArgs false

theorem chk_cells (p : PV) (A : Option Addr) (k c : Nat) (r : Int) : ∃ (zc : Array Value) (r' : Int), chkV p A k c r = .tuple #[.agg zc, .int .i64 r'] /\ (Tryz.prog.info? 29).map (·.size) = some zc.size /\ zc.all (·.oneCell') = true /\ zc.size = 20 := by
 by_cases h : r = 0
 . rw [chkV_0 h]; exact ⟨bunC p A k c, 0, rfl, by kernel_rfl, by simp [Value.oneCell'], rfl⟩
 . rw [chkV_no h]; exact ⟨zeroBun, r, rfl, by kernel_rfl, by simp [zeroBun, Value.oneCell'], rfl⟩
theorem modg {V w1 w2 : World} {r g : Nat} (h1 : Mod [r] V w1) (h2 : Mod [g] w1 w2) (hg : V.heap.size <= g) : Mod [r] V w2 :=
 Mod.new (S := [r, g]) ((h1.mono (fun k hk => by simp at hk; simp [hk])).trans (h2.mono (fun k hk => by simp at hk; simp [hk]))) (fun k hk => by
  simp at hk
  rcases hk with rfl | rfl
  . exact .inl (by simp)
  . exact .inr hg)
end Go.Proofs.YthecmnbkjchjmaaGreat


namespace Go.Proofs.YthecmnbkjchjmaaGreat
open Go.RowKit
set_option linter.unusedVariables false
set_option linter.unusedSimpArgs false

def setAt (bs : Nat -> BV) (i : Nat) (x : BV) (j : Nat) : BV := if j = i then x else bs j
theorem own_set {w : World} {base g k c i : Nat} {bs : Nat -> BV} (x : BV) (hi : i < k) (hown : w.ownsRow base 38 5 (.slice (some ⟨g, 0, none⟩) k c) k (flatB bs k)) : (w.setCells g (i * 5) (rowB x)).ownsRow base 38 5 (.slice (some ⟨g, 0, none⟩) k c) k (flatB (setAt bs i x) k) /\ w.there g (i * 5) 5 := by
 rcases hown.2 with ⟨h, _⟩ | ⟨q, cap, cur, h, hbg, hg, hnc, hcm, hcz, htk⟩
 . cases h
 .
  simp only [Value.slice.injEq, Option.some.injEq, Addr.mk.injEq, and_true, true_and] at h
  obtain ⟨rfl, rfl⟩ := h
  have hB : Blk w g 38 cur := hg
  have h0 : ∀ j, j < k * 5 -> cur[j]? = some (cellB (bs (j / 5)) (j % 5)) := fun j hj => by
   rw [<- take_at cur (k * 5) (by omega) j hj, htk, flatB_at bs k j hj]
  have hr : (rowB x).length = 5 := rfl
  have hB1 := setRow_blk (rowB x) w (i * 5) cur hB
  rw [setRow_eq] at hB1
  refine ⟨⟨by simp [flatB_length], .inr ⟨g, c, _, rfl, hbg, hB1, hnc, hcm, by rw [writeFrom_size]; exact hcz, ?_⟩⟩, fun j hj => ⟨?_, hB.frozen _⟩⟩
  .
   refine flatB_of _ _ (by rw [List.length_take, Array.length_toList, writeFrom_size]; omega) fun j hj => ?_
   rw [take_at _ _ (by rw [writeFrom_size]; omega) j hj, writeFrom_get _ _ _ _ (by rw [hr]; omega)]
   unfold setAt
   by_cases c0 : i * 5 <= j /\ j < i * 5 + 5
   . rw [if_pos (by rw [hr]; omega), rowB_at x (by omega), if_pos (by omega), show j - i * 5 = j % 5 by omega]
   . rw [if_neg (by rw [hr]; omega), h0 j hj, if_neg (by omega)]
  . rw [hB.cell, Array.getElem?_eq_getElem (by omega)]; rfl
set_option maxRecDepth 20000 in
set_option maxHeartbeats 4000000 in
theorem Set_some (p : PV) (bs : Nat -> BV) (k c : Nat) (A : Option Addr) (x : BV) (hnl : Hid (p.d.name.length < 4611686018427387904 /\ p.s.name.length < 4611686018427387904 /\ p.r.name.length < 4611686018427387904)) (hf : p.fl < 18446744073709551616) (hk : k <= 100000) (i : Nat) (hsome : firstOf (numB bs x.num) k = some i) (w : World) (h : BsL w A k bs) : Calls Tryz.prog 64 #[bunV p A k c, x.v] w (fun e w' => ∃ A' c', e = .returned (chkV p A' k c' (bunRight p (setAt bs i x) k)) /\ Ext w w' /\ BsL w' A' k (setAt bs i x) /\ SlA A' k c') := by
 have hi := (firstOf_spec hsome).1
 have KA := hid (fun W (hW : BsL W A k bs) => at_any p bs k c A x.num (by omega) W hW)
 unfold firstI at KA
 rw [hsome] at KA
 have KC := hid (fun W (hW : BsL W A k bs) => CloneB_any bs k (by unfold Hid; omega) A c W hW)
 have KK := hid (fun W A' c' (hW : BsL W A' k (setAt bs i x)) hlt => checked_any p (setAt bs i x) k c k c' A A' hnl hf (by omega) W hW hlt)
 have HSET := hid (fun W base g c' hown => own_set (w := W) (base := base) (g := g) (c := c') (bs := bs) x hi hown)
 have HE := hid ((((Mod.refl [] w).alloc (.cells (bunC p A k c) 29)).alloc (.cells (BV.c x) 38)).alloc (.cells #[.int .u64 0, .int .i64 0, .int .i64 0, .string ⟨#[]⟩, .int .u64 0, .int .u64 0, .int .i64 0, .string ⟨#[]⟩, .int .u64 0, .int .u64 0, .int .i64 0, .string ⟨#[]⟩, .int .u64 0, .int .u64 0, .int .u64 0, .int .u64 0, .int .u64 0, .int .u64 0, .int .u64 0, .slice none 0 0] 29))
 have HB0 : Hid (Blk (((w.alloc (.cells (bunC p A k c) 29)).alloc (.cells (BV.c x) 38)).alloc (.cells #[.int .u64 0, .int .i64 0, .int .i64 0, .string ⟨#[]⟩, .int .u64 0, .int .u64 0, .int .i64 0, .string ⟨#[]⟩, .int .u64 0, .int .u64 0, .int .i64 0, .string ⟨#[]⟩, .int .u64 0, .int .u64 0, .int .u64 0, .int .u64 0, .int .u64 0, .int .u64 0, .int .u64 0, .slice none 0 0] 29)) w.heap.size 29 (bunC p A k c)) := hid (((Blk.new w 29 (bunC p A k c)).alloc (.cells (BV.c x) 38)).alloc (.cells #[.int .u64 0, .int .i64 0, .int .i64 0, .string ⟨#[]⟩, .int .u64 0, .int .u64 0, .int .i64 0, .string ⟨#[]⟩, .int .u64 0, .int .u64 0, .int .i64 0, .string ⟨#[]⟩, .int .u64 0, .int .u64 0, .int .u64 0, .int .u64 0, .int .u64 0, .int .u64 0, .int .u64 0, .slice none 0 0] 29))
 have HB1 : Hid (Blk (((w.alloc (.cells (bunC p A k c) 29)).alloc (.cells (BV.c x) 38)).alloc (.cells #[.int .u64 0, .int .i64 0, .int .i64 0, .string ⟨#[]⟩, .int .u64 0, .int .u64 0, .int .i64 0, .string ⟨#[]⟩, .int .u64 0, .int .u64 0, .int .i64 0, .string ⟨#[]⟩, .int .u64 0, .int .u64 0, .int .u64 0, .int .u64 0, .int .u64 0, .int .u64 0, .int .u64 0, .slice none 0 0] 29)) (w.heap.size + 1) 38 (BV.c x)) := by unfold Hid; have := (Blk.newL (N := (w.heap.size + 1)) (w.alloc (.cells (bunC p A k c) 29)) 38 (BV.c x) (by simp)); exact (this.alloc (.cells #[.int .u64 0, .int .i64 0, .int .i64 0, .string ⟨#[]⟩, .int .u64 0, .int .u64 0, .int .i64 0, .string ⟨#[]⟩, .int .u64 0, .int .u64 0, .int .i64 0, .string ⟨#[]⟩, .int .u64 0, .int .u64 0, .int .u64 0, .int .u64 0, .int .u64 0, .int .u64 0, .int .u64 0, .slice none 0 0] 29))
 have HB2 : Hid (Blk (((w.alloc (.cells (bunC p A k c) 29)).alloc (.cells (BV.c x) 38)).alloc (.cells #[.int .u64 0, .int .i64 0, .int .i64 0, .string ⟨#[]⟩, .int .u64 0, .int .u64 0, .int .i64 0, .string ⟨#[]⟩, .int .u64 0, .int .u64 0, .int .i64 0, .string ⟨#[]⟩, .int .u64 0, .int .u64 0, .int .u64 0, .int .u64 0, .int .u64 0, .int .u64 0, .int .u64 0, .slice none 0 0] 29)) (w.heap.size + 1 + 1) 29 #[.int .u64 0, .int .i64 0, .int .i64 0, .string ⟨#[]⟩, .int .u64 0, .int .u64 0, .int .i64 0, .string ⟨#[]⟩, .int .u64 0, .int .u64 0, .int .i64 0, .string ⟨#[]⟩, .int .u64 0, .int .u64 0, .int .u64 0, .int .u64 0, .int .u64 0, .int .u64 0, .int .u64 0, .slice none 0 0]) := by unfold Hid; exact Blk.newL _ _ _ (by simp)
 have HL := hid (BsL.ext h HE.out)
 have i0 : (0 : Int) <= (i : Int) := by omega
 have i1 : (i : Int) <= 100000 := by omega
 have i2 : (i : Int) < (k : Int) := by omega
 have t1 : decide ((i : Int) < 0) = false := by simp
 have t2 : ((i : Int) < 0) = False := eq_false (by omega)
 have t3 : decide (i < k) = true := decide_eq_true hi
 clear h hsome hk hf hi
 go_enter Tryz.func64, Tryz.ntmps64
 go_upto_region 1 with fail
 generalize (((w.alloc (.cells (bunC p A k c) 29)).alloc (.cells (BV.c x) 38)).alloc (.cells #[.int .u64 0, .int .i64 0, .int .i64 0, .string ⟨#[]⟩, .int .u64 0, .int .u64 0, .int .i64 0, .string ⟨#[]⟩, .int .u64 0, .int .u64 0, .int .i64 0, .string ⟨#[]⟩, .int .u64 0, .int .u64 0, .int .u64 0, .int .u64 0, .int .u64 0, .int .u64 0, .int .u64 0, .slice none 0 0] 29)) = V at *
 have y1 : ∀ e : Later V, e.x.cell? ⟨w.heap.size + 1, 1, none⟩ = some (.int .i64 x.num) := HB1.out.cellL 1 rfl
 have b19 : ∀ e : Later V, e.x.cell? ⟨w.heap.size, 19, none⟩ = some (.slice A k c) := HB0.out.cellL 19 rfl
 obtain ⟨e, he⟩ := Later.self V
 rw [he]
 clear he
 go_upto_region 4 with (first | (go_at_call 83; refine (Ret.later (KA.out _ (HL.out.ext (Later.h _)))).mono ?_; rintro x _ ⟨rfl, e, rfl⟩) | (refine wpList_row (by rfl) 29 _ rfl _ rfl (HB0.out.later _) Tryz.underlying29 rfl (by kernel_rfl) ?_))
 go_upto_region 5 with (go_at_call 82; refine (KC.out _ (HL.out.ext (Later.h _))).mono ?_; rintro y w1 ⟨g, c1, rfl, hb1, ho1⟩)
 have HO1 := hid ho1
 have HE1 := hid (e.h.trans hb1)
 have HGN : Hid (V.heap.size <= g) := hid (Nat.le_trans e.h.size (ho1.lt g rfl).1)
 clear hb1 ho1
 have HXR := hid (HB1.out.ext HE1.out)
 go_upto_region 6 with (first | (refine wpList_row (by rfl) 38 _ rfl _ rfl HXR.out Tryz.underlying38 rfl (by kernel_rfl) ?_) | (refine wpList_store_mid rfl 38 _ _ rfl g (i * 5) (BV.c x) (by rfl) (by rfl) (HSET.out w1 _ g c1 HO1.out).2 (by kernel_rfl) (by simp [Value.oneCell']) ?_))
 generalize hW2 : World.setCells _ _ _ _ = W2
 have HO2 : Hid (W2.ownsRow e.x.heap.size 38 5 (.slice (some ⟨g, 0, none⟩) k c1) k (flatB (setAt bs i x) k)) := hid (by rw [<- hW2]; exact (HSET.out w1 _ g c1 HO1.out).1)
 have HE2 : Hid (Ext V W2) := hid (by rw [<- hW2]; exact setCells_mod _ _ HE1.out (.inr HGN.out))
 have HB2' := hid (HB0.out.ext HE2.out)
 have HR2 := hid (HB2.out.ext HE2.out)
 clear hW2 HO1 HE1 HXR
 go_wp2_with (first | (refine wpList_row (by rfl) 29 _ rfl _ rfl HB2'.out Tryz.underlying29 rfl (by kernel_rfl) ?_) | (go_at_call 80; refine (KK.out _ (some ⟨g, 0, none⟩) c1 (own_BsL HO2.out) (fun kk o' hA => by cases hA; exact (HO2.out.lt _ rfl).2)).mono ?_; rintro y w3 ⟨rfl, hb3⟩; obtain ⟨zc, r0, hz, hz1, hz2, hz3⟩ := chk_cells p (some ⟨g, 0, none⟩) k c1 (bunRight p (setAt bs i x) k); rw [hz]; have HZ := hid hz; have HZ1 := hid hz1; have HZ2 := hid hz2; have HZ3 := hid hz3; have HM3 := hid hb3; have HR3 := hid (HR2.out.ext hb3); clear hz hz1 hz2 hz3 hb3) | (refine wpList_store_mid rfl 29 _ _ rfl (w.heap.size + 1 + 1) 0 zc (by rfl) (by rfl) (HR3.out.there (by rw [HZ3.out]; exact Nat.le_refl 20)) HZ1.out HZ2.out ?_))
 generalize hZ4 : World.setCells _ _ _ _ = Z
 have HZB : Hid (Blk Z (w.heap.size + 1 + 1) 29 zc) := hid (by rw [<- hZ4]; exact setCells_all (ds := zc) HR3.out (by rw [Array.length_toList, HZ3.out]; rfl))
 have HZM3 : Hid (Mod [(w.heap.size + 1 + 1)] w3 Z) := hid (by rw [<- hZ4]; exact setCells_mod _ _ (Mod.refl _ _) (.inl (by simp)))
 have HVS : Hid (w.heap.size + 3 <= V.heap.size) := hid (Nat.succ_le_of_lt HB2.out.lt)
 clear hZ4
 refine bodyPost_ret (v := .tuple #[.agg zc, .int .i64 r0]) (results_cell2 Tryz.results64 _ rfl rfl HZB.out Tryz.underlying29 rfl (by rw [HZ1.out])) rfl ?_
 obtain ⟨A9, c9, hA9, hsa⟩ := own_slA HO2.out
 simp only [Value.slice.injEq, true_and] at hA9
 obtain ⟨rfl, rfl⟩ := hA9
 refine ⟨some ⟨g, 0, none⟩, c1, by rw [HZ.out], Mod.new (S := [(w.heap.size + 1 + 1)]) (((HE.out.trans HE2.out).trans HM3.out).of_ext.trans HZM3.out) (fun kk hkk => .inr (by simp at hkk; omega)), ?_, hsa⟩
 intro hn
 obtain ⟨bb, oo, hA, hbl, hcc⟩ := (own_BsL HO2.out).ext HM3.out hn
 have hbb : bb = g := by cases hA; rfl
 exact ⟨bb, oo, hA, Nat.lt_of_lt_of_le hbl HZM3.out.size, fun j hj => (hcc j hj).mod HZM3.out hbl (by have := HGN.out; have := HVS.out; simp; omega)⟩
end Go.Proofs.YthecmnbkjchjmaaGreat
