/-
 Security texts: what the reference calls right but for its length.
-/
import Derived.Test.YtmckfdmdkljomaaGreatDoorMMixLessCardap
namespace Go.Proofs.YtmckfdmdkljomaaGreatDoor
open Go.RowKit
set_option linter.unusedVariables false
set_option linter.unusedSimpArgs false
def okB (p : PL) (i : Nat) : Bool := codedB (p.a i).id && valB (p.a i).t && T.all (fun j => decide ((p.a j).id ≠ (p.a i).id)) i
theorem all_and (f g : Nat -> Bool) (k : Nat) : T.all (fun i => f i && g i) k = (T.all f k && T.all g k) := by
 rw [Bool.eq_iff_iff, Bool.and_eq_true, T.all_iff, T.all_iff, T.all_iff]
 constructor
 .
  intro h
  exact ⟨fun i hi => by have := h i hi; simp at this; exact this.1, fun i hi => by have := h i hi; simp at this; exact this.2⟩
 .
  rintro ⟨h1, h2⟩ i hi
  simp [h1 i hi, h2 i hi]
theorem okB_pairs (p : PL) : T.all (okB p) p.k = pairsB p := by
 have e : okB p = fun i => valB (p.a i).t && (codedB (p.a i).id && T.all (fun j => decide ((p.a j).id ≠ (p.a i).id)) i) := by
  funext i
  unfold okB
  cases codedB (p.a i).id <;> cases valB (p.a i).t <;> rfl
 rw [e, all_and]
 rfl
set_option maxRecDepth 20000 in
set_option maxHeartbeats 2000000 in
theorem r15pairs_any (p : PL) (hw : p.wf) (l m : Nat) (hm : m <= 1000) (hl : l <= 1000) (A : Option Addr) (c : Nat) (w : World) (h : PsL w anyQ A p) : Calls Tryz.prog 64 #[.slice A p.k c, .int .i64 (l : Int), .int .i64 (m : Int)] w (Ret (.bool (decide (l <= p.k) && decide (p.k <= m) && pairsB p)) w) := by
 generalize hRES : (decide (l <= p.k) && decide (p.k <= m) && pairsB p) = RES
 have HRES0 := hid hRES
 rw [<- okB_pairs] at hRES
 have HRES : Hid (RES = (decide (l <= p.k) && decide (p.k <= m) && T.all (okB p) p.k)) := hid hRES.symm
 have HL := hid h
 have HW := hid hw
 have k0 : (p.k : Int) < 4611686018427387904 := by have := hw.1; omega
 have l0 : (l : Int) <= 1000 := by omega
 have m0 : (m : Int) <= 1000 := by omega
 clear hRES HRES0 h hw hm hl
 obtain ⟨e, he⟩ := Later.self w
 go_enter Tryz.func64, Tryz.ntmps64
 by_cases h1 : p.k < l
 case pos =>
  have HX : Hid (RES = false) := hid (by rw [HRES.out, decide_eq_false (show ¬ l <= p.k by omega)]; rfl)
  have taa : decide (p.k < l) = true := decide_eq_true (by omega)
  have tab : (p.k < l) = True := eq_true (by omega)
  have tba : decide ((p.k : Int) < (l : Int)) = true := decide_eq_true (by omega)
  have tbb : ((p.k : Int) < (l : Int)) = True := eq_true (by omega)
  go_wp2_with fail
  go_ret
  exact Ret.mk (by rw [HX.out]; rfl) e.h
 have taa : decide (p.k < l) = false := decide_eq_false (by omega)
 have tab : (p.k < l) = False := eq_false (by omega)
 have tba : decide ((p.k : Int) < (l : Int)) = false := decide_eq_false (by omega)
 have tbb : ((p.k : Int) < (l : Int)) = False := eq_false (by omega)
 by_cases h2 : m < p.k
 case pos =>
  have HX : Hid (RES = false) := hid (by rw [HRES.out, decide_eq_false (show ¬ p.k <= m by omega), Bool.and_false]; rfl)
  have tca : decide (m < p.k) = true := decide_eq_true (by omega)
  have tcb : (m < p.k) = True := eq_true (by omega)
  have tda : decide ((m : Int) < (p.k : Int)) = true := decide_eq_true (by omega)
  have tdb : ((m : Int) < (p.k : Int)) = True := eq_true (by omega)
  go_wp2_with fail
  go_ret
  exact Ret.mk (by rw [HX.out]; rfl) e.h
 have tca : decide (m < p.k) = false := decide_eq_false (by omega)
 have tcb : (m < p.k) = False := eq_false (by omega)
 have tda : decide ((m : Int) < (p.k : Int)) = false := decide_eq_false (by omega)
 have tdb : ((m : Int) < (p.k : Int)) = False := eq_false (by omega)
 clear h1 h2
 go_upto_region 4 with fail
 go_loopw [7] (fun s7 wr => ∃ i : Nat, s7 = .int .i64 (i : Int) /\ Hid (i <= p.k /\ T.all (okB p) i = true) /\ ∃ e : Later w, wr = e.x) (fun s7 _ => p.k - (intOf s7).toNat)
 case atStart => exact ⟨0, rfl, (show Hid _ from ⟨Nat.zero_le _, rfl⟩), e, (by first | exact he | rfl)⟩
 case round =>
  clear he e
  obtain ⟨i, rfl, hi, e, rfl⟩ := hrel
  have i0 : (0 : Int) <= (i : Int) := by omega
  by_cases hlt : i < p.k
  .
   obtain ⟨b, o, Ai, ci, rfl, hb, hat, hI⟩ := HL.out.at e.h hlt
   obtain ⟨q0, q1, q2, q3, q4⟩ := hat.five
   have qi := hat.1
   have tc : decide (i < p.k) = true := by simp [hlt]
   have i1 : (i : Int) < (p.k : Int) := by omega
   have HLT := hid hlt
   have HAT := hid (fun (W : World) (hW : Ext e.x W) => (hat.mod hW (Nat.lt_of_lt_of_le hb e.h.size) (by simp) : At6 W b (o + i * 6) (p.a i) Ai ci))
   have HI := hid hI
   clear hlt hat hI hb
   go_upto_region 7 with fail
   generalize hW1 : World.alloc e.x _ = W1
   have HG1 : Hid (Blk W1 e.x.heap.size 68 (itemC (p.a i).t Ai ci)) := hid (by rw [<- hW1]; exact Blk.new _ _ _)
   have HX1 : Hid (Ext e.x W1) := hid (by rw [<- hW1]; exact (Mod.refl [] _).alloc _)
   have HV1 : Hid (Ext w W1) := hid (e.h.trans HX1.out)
   have KR := hid (fun W (hW : Ext W1 W) => rRight_any (p.a i).t ((HW.out.2 i HLT.out).1) Ai ci W (HI.out.ext (HX1.out.trans hW)))
   have qi := (HAT.out W1 HX1.out).1
   clear hW1 q0 q1 q2 q3 q4
   generalize e.x.heap.size = G at *
   have g0 : W1.cell? ⟨G, 0, none⟩ = some (.int .i64 (p.a i).t.kind) := HG1.out.cell 0
   have g0 : ∀ e : Later W1, e.x.cell? ⟨G, 0, none⟩ = some (.int .i64 (p.a i).t.kind) := fun e => cellL g0 e
   have qi : ∀ e : Later W1, e.x.cell? ⟨b, o + i * 6, none⟩ = some (.int .i64 (p.a i).id) := fun e => cellL qi e
   have KR := hid (fun e : Later W1 => KR.out e.x e.h)
   obtain ⟨e, he⟩ := Later.self W1
   rw [he]
   clear he
   by_cases hn : (p.a i).id < 0
   case pos =>
    have uaa : decide ((p.a i).id < 0) = true := decide_eq_true (by exact hn)
    have uab : ((p.a i).id < 0) = True := eq_true (by exact hn)
    have HC : Hid (codedB (p.a i).id = false) := hid (by unfold codedB; rw [decide_eq_false (show ¬ 0 <= (p.a i).id by omega)]; rfl)
    clear hn
    have HN := hid (all_no (f := okB p) HLT.out (by unfold okB; rw [HC.out]; rfl))
    have HX : Hid (RES = false) := hid (by rw [HRES.out, HN.out, Bool.and_false])
    clear HN
    have tk1 : True := trivial
    go_wp2_with fail
    go_ret
    exact Ret.mk (by rw [HX.out]; rfl) (HV1.out.trans e.h)
   have uaa : decide ((p.a i).id < 0) = false := decide_eq_false (by exact hn)
   have uab : ((p.a i).id < 0) = False := eq_false (by exact hn)
   by_cases hg : 65535 < (p.a i).id
   case pos =>
    have uba : decide (65535 < (p.a i).id) = true := decide_eq_true (by exact hg)
    have ubb : (65535 < (p.a i).id) = True := eq_true (by exact hg)
    have HC : Hid (codedB (p.a i).id = false) := hid (by unfold codedB; rw [decide_eq_false (show ¬ (p.a i).id <= 65535 by omega), Bool.and_false])
    clear hn hg
    have HN := hid (all_no (f := okB p) HLT.out (by unfold okB; rw [HC.out]; rfl))
    have HX : Hid (RES = false) := hid (by rw [HRES.out, HN.out, Bool.and_false])
    clear HN
    have tk1 : True := trivial
    go_wp2_with fail
    go_ret
    exact Ret.mk (by rw [HX.out]; rfl) (HV1.out.trans e.h)
   have uba : decide (65535 < (p.a i).id) = false := decide_eq_false (by exact hg)
   have ubb : (65535 < (p.a i).id) = False := eq_false (by exact hg)
   have HC : Hid (codedB (p.a i).id = true) := hid (by unfold codedB; rw [decide_eq_true (show 0 <= (p.a i).id by omega), decide_eq_true (show (p.a i).id <= 65535 by omega)]; rfl)
   clear hn hg
   by_cases hk0 : (p.a i).t.kind = 0 \/ (p.a i).t.kind = 2
   case neg =>
    have vaa : (((p.a i).t.kind) == (0)) = false := by rw [beq_eq_false_iff_ne]; omega
    have vab : (((p.a i).t.kind) = (0)) = False := eq_false (by omega)
    have vac : (((p.a i).t.kind) != (0)) = true := by rw [bne_iff_ne]; omega
    have vba : (((p.a i).t.kind) == (2)) = false := by rw [beq_eq_false_iff_ne]; omega
    have vbb : (((p.a i).t.kind) = (2)) = False := eq_false (by omega)
    have vbc : (((p.a i).t.kind) != (2)) = true := by rw [bne_iff_ne]; omega
    have HVB : Hid (valB (p.a i).t = false) := hid (by unfold valB; rw [decide_eq_false (fun h => hk0 (.inl h)), decide_eq_false (fun h => hk0 (.inr h))]; rfl)
    clear hk0
    have HN := hid (all_no (f := okB p) HLT.out (by unfold okB; rw [HVB.out, Bool.and_false]; rfl))
    have HX : Hid (RES = false) := hid (by rw [HRES.out, HN.out, Bool.and_false])
    clear HN
    have tk1 : True := trivial
    go_wp2_with fail
    go_ret
    exact Ret.mk (by rw [HX.out]; rfl) (HV1.out.trans e.h)
   have HD1 : Hid ((decide ((p.a i).t.kind = 0) || decide ((p.a i).t.kind = 2)) = true) := hid (by rcases hk0 with h | h <;> simp [h])
   cases hr : (p.a i).t.right 8 with
   | false =>
    rw [hr] at KR
    have HVB : Hid (valB (p.a i).t = false) := hid (by unfold valB; rw [hr, Bool.and_false])
    clear hr
    rcases hk0 with hk0 | hk0
    .
     have vaa : (((p.a i).t.kind) == (0)) = true := by rw [beq_iff_eq]; omega
     have vab : (((p.a i).t.kind) = (0)) = True := eq_true (by omega)
     have vac : (((p.a i).t.kind) != (0)) = false := by rw [bne_eq_false_iff_eq]; omega
     clear hk0
     have HN := hid (all_no (f := okB p) HLT.out (by unfold okB; rw [HVB.out, Bool.and_false]; rfl))
     have HX : Hid (RES = false) := hid (by rw [HRES.out, HN.out, Bool.and_false])
     clear HN
     have tk1 : True := trivial
     go_wp2_with (first | (clear tk1; refine wpList_row (by rfl) 68 _ rfl _ rfl (HG1.out.later _) vqC rfl (by kernel_rfl) ?_) | (go_at_call 92; refine (Ret.later (KR.out _)).mono ?_; rintro x _ ⟨rfl, e, rfl⟩))
     go_ret
     exact Ret.mk (by rw [HX.out]; rfl) (HV1.out.trans e.h)
    .
     have vaa : (((p.a i).t.kind) == (0)) = false := by rw [beq_eq_false_iff_ne]; omega
     have vab : (((p.a i).t.kind) = (0)) = False := eq_false (by omega)
     have vac : (((p.a i).t.kind) != (0)) = true := by rw [bne_iff_ne]; omega
     have vba : (((p.a i).t.kind) == (2)) = true := by rw [beq_iff_eq]; omega
     have vbb : (((p.a i).t.kind) = (2)) = True := eq_true (by omega)
     have vbc : (((p.a i).t.kind) != (2)) = false := by rw [bne_eq_false_iff_eq]; omega
     clear hk0
     have HN := hid (all_no (f := okB p) HLT.out (by unfold okB; rw [HVB.out, Bool.and_false]; rfl))
     have HX : Hid (RES = false) := hid (by rw [HRES.out, HN.out, Bool.and_false])
     clear HN
     have tk1 : True := trivial
     go_wp2_with (first | (clear tk1; refine wpList_row (by rfl) 68 _ rfl _ rfl (HG1.out.later _) vqC rfl (by kernel_rfl) ?_) | (go_at_call 92; refine (Ret.later (KR.out _)).mono ?_; rintro x _ ⟨rfl, e, rfl⟩))
     go_ret
     exact Ret.mk (by rw [HX.out]; rfl) (HV1.out.trans e.h)
   | true =>
    rw [hr] at KR
    have HVB : Hid (valB (p.a i).t = true) := hid (by unfold valB; rw [HD1.out, hr]; rfl)
    clear hr
    rcases hk0 with hk0 | hk0
    .
     have vaa : (((p.a i).t.kind) == (0)) = true := by rw [beq_iff_eq]; omega
     have vab : (((p.a i).t.kind) = (0)) = True := eq_true (by omega)
     have vac : (((p.a i).t.kind) != (0)) = false := by rw [bne_eq_false_iff_eq]; omega
     clear hk0
     have tk1 : True := trivial
     go_upto_region 10 with (first | (clear tk1; refine wpList_row (by rfl) 68 _ rfl _ rfl (HG1.out.later _) vqC rfl (by kernel_rfl) ?_) | (go_at_call 92; refine (Ret.later (KR.out _)).mono ?_; rintro x _ ⟨rfl, e, rfl⟩))
     go_loopw [9] (fun s9 wr => ∃ j : Nat, s9 = .int .i64 (j : Int) /\ Hid (j <= i /\ ∀ x, x < j -> (p.a x).id ≠ (p.a i).id) /\ ∃ e : Later W1, wr = e.x) (fun s9 _ => i - (intOf s9).toNat)
     case atStart => exact ⟨0, rfl, (show Hid _ from ⟨Nat.zero_le _, fun x hx => by omega⟩), e, rfl⟩
     case round =>
      clear e
      obtain ⟨j, rfl, hj, e, rfl⟩ := hrel
      have j0 : (0 : Int) <= (j : Int) := by omega
      by_cases hjt : j < i
      .
       obtain ⟨b', o', Aj, cj, hA', hb', hat', _⟩ := HL.out.at (Mod.refl [] w) (Nat.lt_trans hjt HLT.out)
       cases hA'
       have cJ : ∀ e : Later W1, e.x.cell? ⟨b, o + j * 6, none⟩ = some (.int .i64 (p.a j).id) := fun e => cellL hat'.1 ⟨e.x, HV1.out.trans e.h⟩
       have tj : decide (j < i) = true := by simp [hjt]
       have j1 : (j : Int) < (i : Int) := by omega
       have j2 : (j : Int) < (p.k : Int) := by omega
       have HJT := hid hjt
       clear hjt hb' hat'
       by_cases hd : (p.a j).id = (p.a i).id
       .
        have HU : Hid (T.all (fun j => decide ((p.a j).id ≠ (p.a i).id)) i = false) := hid (all_no HJT.out (by simp [hd]))
        have waa : (((p.a i).id) == ((p.a j).id)) = true := by rw [beq_iff_eq]; exact hd.symm
        have wab : (((p.a i).id) = ((p.a j).id)) = True := eq_true (by exact hd.symm)
        have wac : (((p.a i).id) != ((p.a j).id)) = false := by rw [bne_eq_false_iff_eq]; exact hd.symm
        clear hd
        go_upto_region 12 with fail
        refine wp_region_later (by kernel_rfl) (by kernel_rfl) ?_
        repeat (first | go_big_quiet_step (fail))
        refine wpQuiet_nil ?_
        rintro _ ⟨e, rfl⟩
        have HN := hid (all_no (f := okB p) HLT.out (by unfold okB; rw [HU.out, Bool.and_false]))
        have HX : Hid (RES = false) := hid (by rw [HRES.out, HN.out, Bool.and_false])
        clear HN
        have tk1 : True := trivial
        go_wp2_with fail
        go_ret
        exact Ret.mk (by rw [HX.out]; rfl) (HV1.out.trans e.h)
       .
        have HD := hid hd
        have waa : (((p.a i).id) == ((p.a j).id)) = false := by rw [beq_eq_false_iff_ne]; exact fun h => hd h.symm
        have wab : (((p.a i).id) = ((p.a j).id)) = False := eq_false (by exact fun h => hd h.symm)
        have wac : (((p.a i).id) != ((p.a j).id)) = true := by rw [bne_iff_ne]; exact fun h => hd h.symm
        clear hd
        go_upto_region 12 with fail
        refine wp_region_later (by kernel_rfl) (by kernel_rfl) ?_
        repeat (first | go_big_quiet_step (fail))
        refine wpQuiet_nil ?_
        rintro _ ⟨e, rfl⟩
        go_wp2_with fail
        go_roundw
        case rel => exact ⟨j + 1, by go_num, (show Hid _ from ⟨HJT.out, fun x hx => by
         by_cases e : x = j
         . subst e; exact HD.out
         . exact hj.out.2 x (by omega)⟩), e, rfl⟩
        case measure => have := HJT.out; simp [intOf]; omega
      .
       have hij : j = i := by have := hj.out.1; omega
       subst hij
       have tj : decide (j < j) = false := by simp
       have HU : Hid (T.all (fun x => decide ((p.a x).id ≠ (p.a j).id)) j = true) := hid (T.all_iff.2 fun x hx => by simpa using hj.out.2 x hx)
       have HOK : Hid (okB p j = true) := hid (by unfold okB; rw [HC.out, HVB.out, HU.out]; rfl)
       go_wp2_with fail
       go_roundw
       case rel => exact ⟨j + 1, by go_num, (show Hid _ from ⟨HLT.out, by rw [T.all, hi.out.2, HOK.out]; rfl⟩), ⟨e.x, HV1.out.trans e.h⟩, rfl⟩
       case measure => have := HLT.out; simp [intOf]; omega
    .
     have vaa : (((p.a i).t.kind) == (0)) = false := by rw [beq_eq_false_iff_ne]; omega
     have vab : (((p.a i).t.kind) = (0)) = False := eq_false (by omega)
     have vac : (((p.a i).t.kind) != (0)) = true := by rw [bne_iff_ne]; omega
     have vba : (((p.a i).t.kind) == (2)) = true := by rw [beq_iff_eq]; omega
     have vbb : (((p.a i).t.kind) = (2)) = True := eq_true (by omega)
     have vbc : (((p.a i).t.kind) != (2)) = false := by rw [bne_eq_false_iff_eq]; omega
     clear hk0
     have tk1 : True := trivial
     go_upto_region 10 with (first | (clear tk1; refine wpList_row (by rfl) 68 _ rfl _ rfl (HG1.out.later _) vqC rfl (by kernel_rfl) ?_) | (go_at_call 92; refine (Ret.later (KR.out _)).mono ?_; rintro x _ ⟨rfl, e, rfl⟩))
     go_loopw [9] (fun s9 wr => ∃ j : Nat, s9 = .int .i64 (j : Int) /\ Hid (j <= i /\ ∀ x, x < j -> (p.a x).id ≠ (p.a i).id) /\ ∃ e : Later W1, wr = e.x) (fun s9 _ => i - (intOf s9).toNat)
     case atStart => exact ⟨0, rfl, (show Hid _ from ⟨Nat.zero_le _, fun x hx => by omega⟩), e, rfl⟩
     case round =>
      clear e
      obtain ⟨j, rfl, hj, e, rfl⟩ := hrel
      have j0 : (0 : Int) <= (j : Int) := by omega
      by_cases hjt : j < i
      .
       obtain ⟨b', o', Aj, cj, hA', hb', hat', _⟩ := HL.out.at (Mod.refl [] w) (Nat.lt_trans hjt HLT.out)
       cases hA'
       have cJ : ∀ e : Later W1, e.x.cell? ⟨b, o + j * 6, none⟩ = some (.int .i64 (p.a j).id) := fun e => cellL hat'.1 ⟨e.x, HV1.out.trans e.h⟩
       have tj : decide (j < i) = true := by simp [hjt]
       have j1 : (j : Int) < (i : Int) := by omega
       have j2 : (j : Int) < (p.k : Int) := by omega
       have HJT := hid hjt
       clear hjt hb' hat'
       by_cases hd : (p.a j).id = (p.a i).id
       .
        have HU : Hid (T.all (fun j => decide ((p.a j).id ≠ (p.a i).id)) i = false) := hid (all_no HJT.out (by simp [hd]))
        have waa : (((p.a i).id) == ((p.a j).id)) = true := by rw [beq_iff_eq]; exact hd.symm
        have wab : (((p.a i).id) = ((p.a j).id)) = True := eq_true (by exact hd.symm)
        have wac : (((p.a i).id) != ((p.a j).id)) = false := by rw [bne_eq_false_iff_eq]; exact hd.symm
        clear hd
        go_upto_region 12 with fail
        refine wp_region_later (by kernel_rfl) (by kernel_rfl) ?_
        repeat (first | go_big_quiet_step (fail))
        refine wpQuiet_nil ?_
        rintro _ ⟨e, rfl⟩
        have HN := hid (all_no (f := okB p) HLT.out (by unfold okB; rw [HU.out, Bool.and_false]))
        have HX : Hid (RES = false) := hid (by rw [HRES.out, HN.out, Bool.and_false])
        clear HN
        have tk1 : True := trivial
        go_wp2_with fail
        go_ret
        exact Ret.mk (by rw [HX.out]; rfl) (HV1.out.trans e.h)
       .
        have HD := hid hd
        have waa : (((p.a i).id) == ((p.a j).id)) = false := by rw [beq_eq_false_iff_ne]; exact fun h => hd h.symm
        have wab : (((p.a i).id) = ((p.a j).id)) = False := eq_false (by exact fun h => hd h.symm)
        have wac : (((p.a i).id) != ((p.a j).id)) = true := by rw [bne_iff_ne]; exact fun h => hd h.symm
        clear hd
        go_upto_region 12 with fail
        refine wp_region_later (by kernel_rfl) (by kernel_rfl) ?_
        repeat (first | go_big_quiet_step (fail))
        refine wpQuiet_nil ?_
        rintro _ ⟨e, rfl⟩
        go_wp2_with fail
        go_roundw
        case rel => exact ⟨j + 1, by go_num, (show Hid _ from ⟨HJT.out, fun x hx => by
         by_cases e : x = j
         . subst e; exact HD.out
         . exact hj.out.2 x (by omega)⟩), e, rfl⟩
        case measure => have := HJT.out; simp [intOf]; omega
      .
       have hij : j = i := by have := hj.out.1; omega
       subst hij
       have tj : decide (j < j) = false := by simp
       have HU : Hid (T.all (fun x => decide ((p.a x).id ≠ (p.a j).id)) j = true) := hid (T.all_iff.2 fun x hx => by simpa using hj.out.2 x hx)
       have HOK : Hid (okB p j = true) := hid (by unfold okB; rw [HC.out, HVB.out, HU.out]; rfl)
       go_wp2_with fail
       go_roundw
       case rel => exact ⟨j + 1, by go_num, (show Hid _ from ⟨HLT.out, by rw [T.all, hi.out.2, HOK.out]; rfl⟩), ⟨e.x, HV1.out.trans e.h⟩, rfl⟩
       case measure => have := HLT.out; simp [intOf]; omega
  .
   have hik : i = p.k := by have := hi.out.1; omega
   subst hik
   have tc : decide (p.k < p.k) = false := by simp
   have HX : Hid (RES = true) := hid (by rw [HRES.out, hi.out.2, Bool.and_true, Bool.and_eq_true]; simp at tab tcb taa tca; exact ⟨decide_eq_true (by omega), decide_eq_true (by omega)⟩)
   go_wp2_with fail
   go_ret
   exact Ret.mk (by rw [HX.out]; rfl) e.h
def okT (a : AV) (i : Nat) : Bool := codedB (a.tg i) && resB (a.rs i) && T.all (fun j => decide (a.tg j ≠ a.tg i)) i
theorem okT_all {a : AV} (h : a.rk = a.tk) : T.all (okT a) a.tk = (unlikeB a.tg a.tk && T.all (fun i => resB (a.rs i)) a.rk) := by
 have e : okT a = fun i => (codedB (a.tg i) && T.all (fun j => decide (a.tg j ≠ a.tg i)) i) && resB (a.rs i) := by
  funext i
  unfold okT
  cases codedB (a.tg i) <;> cases resB (a.rs i) <;> simp
 rw [e, all_and, h]
 rfl
theorem shaped_okT (a : AV) : a.shaped = (decide (1 <= a.tk) && decide (a.tk <= 16) && decide (a.rk = a.tk) && codedB a.ctx && a.src.ok && (decide (a.ps.k <= 8) && pairsB a.ps) && T.all (okT a) a.tk) := by
 by_cases h : a.rk = a.tk
 .
  rw [okT_all h, Bool.eq_iff_iff, AV.shaped_iff]
  simp only [Bool.and_eq_true, decide_eq_true_eq]
  constructor
  .
   rintro ⟨⟨g1, g2⟩, g3, g4, g5, g6, g7, g8, g9⟩
   exact ⟨⟨⟨⟨⟨⟨g1, g2⟩, g8⟩, g4⟩, g5⟩, g6, g7⟩, g3, g9⟩
  .
   rintro ⟨⟨⟨⟨⟨⟨g1, g2⟩, g8⟩, g4⟩, g5⟩, g6, g7⟩, g3, g9⟩
   exact ⟨⟨g1, g2⟩, g3, g4, g5, g6, g7, g8, g9⟩
 .
  rw [decide_eq_false h, Bool.and_false, Bool.false_and, Bool.false_and, Bool.false_and, Bool.false_and]
  cases hh : a.shaped with
  | false => rfl
  | true => exact absurd (AV.shaped_iff.1 hh).2.2.2.2.2.2.1 h
set_option maxRecDepth 20000 in
set_option maxHeartbeats 2000000 in
theorem r15Shaped_any (a : AV) (hw : a.wf) (m : AA) (w : World) (h : AsL w anyQ a m) : Calls Tryz.prog 36 #[asbV a m] w (Ret (.bool a.shaped) w) := by
 obtain ⟨mt, mtc, mp, mpc, mr, mrc⟩ := m
 have HE := hid ((Mod.refl [] w).alloc (.cells (asbC a ⟨mt, mtc, mp, mpc, mr, mrc⟩) 65))
 have HB0 := hid (Blk.new w 65 (asbC a ⟨mt, mtc, mp, mpc, mr, mrc⟩))
 have HL := hid (h.ext HE.out)
 have HW := hid hw
 have HRES := hid (shaped_okT a)
 have tk0 : (a.tk : Int) < 4611686018427387904 := by have := hw.1.1; omega
 have rk0 : (a.rk : Int) < 4611686018427387904 := by have := hw.2.2.2.2.1; omega
 clear hw h
 go_enter Tryz.func36, Tryz.ntmps36
 go_upto_region 1 with fail
 generalize w.alloc (.cells (asbC a ⟨mt, mtc, mp, mpc, mr, mrc⟩) 65) = V at *
 have b0 : ∀ e : Later V, e.x.cell? ⟨w.heap.size, 0, none⟩ = some (.slice mt a.tk mtc) := HB0.out.cellL 0 rfl
 have b1 : ∀ e : Later V, e.x.cell? ⟨w.heap.size, 1, none⟩ = some (.int .i64 a.ctx) := HB0.out.cellL 1 rfl
 have b6 : ∀ e : Later V, e.x.cell? ⟨w.heap.size, 6, none⟩ = some (.slice mp a.ps.k mpc) := HB0.out.cellL 6 rfl
 have b7 : ∀ e : Later V, e.x.cell? ⟨w.heap.size, 7, none⟩ = some (.slice mr a.rk mrc) := HB0.out.cellL 7 rfl
 have HRE : Hid (∀ e : Later V, e.x.rangeAt w.heap.size 2 [.int .i64 a.src.sch, str a.src.name, .int .u64 (a.src.node : Int), .int .u64 (a.src.svc : Int)]) := HB0.out.range 2 4 (by rfl)
 have KE := hid (fun W => r10_any a.src W)
 have KP : Hid (∀ e : Later V, Calls Tryz.prog 64 #[.slice mp a.ps.k mpc, .int .i64 0, .int .i64 8] e.x (Ret (.bool (decide (a.ps.k <= 8) && pairsB a.ps)) e.x)) := hid (fun e => by
  have := r15pairs_any a.ps HW.out.2.2.2.1 0 8 (by decide) (by decide) mp mpc e.x (HL.out.p.ext e.h)
  rw [decide_eq_true (Nat.zero_le _), Bool.true_and] at this
  exact this)
 obtain ⟨e, he⟩ := Later.self V
 rw [he]
 clear he
 by_cases hc : a.tk < 1
 case pos =>
  have taa : decide (a.tk < 1) = true := decide_eq_true (by omega)
  have tab : (a.tk < 1) = True := eq_true (by omega)
  have tba : decide ((a.tk : Int) < 1) = true := decide_eq_true (by omega)
  have tbb : ((a.tk : Int) < 1) = True := eq_true (by omega)
  have HX : Hid (a.shaped = false) := hid (by rw [HRES.out]; rw [decide_eq_false (show ¬ 1 <= a.tk by omega)]; rfl)
  have tk1 : True := trivial
  go_wp2_with fail
  go_ret
  exact Ret.mk (by rw [HX.out]; rfl) (HE.out.trans e.h)
 have taa : decide (a.tk < 1) = false := decide_eq_false (by omega)
 have tab : (a.tk < 1) = False := eq_false (by omega)
 have tba : decide ((a.tk : Int) < 1) = false := decide_eq_false (by omega)
 have tbb : ((a.tk : Int) < 1) = False := eq_false (by omega)
 have H1 : Hid (1 <= a.tk) := hid (by omega)
 clear hc
 by_cases hc : 16 < a.tk
 case pos =>
  have tca : decide (16 < a.tk) = true := decide_eq_true (by omega)
  have tcb : (16 < a.tk) = True := eq_true (by omega)
  have tda : decide ((16 : Int) < (a.tk : Int)) = true := decide_eq_true (by omega)
  have tdb : ((16 : Int) < (a.tk : Int)) = True := eq_true (by omega)
  have HX : Hid (a.shaped = false) := hid (by rw [HRES.out]; rw [decide_eq_false (show ¬ a.tk <= 16 by omega), Bool.and_false]; rfl)
  have tk1 : True := trivial
  go_wp2_with fail
  go_ret
  exact Ret.mk (by rw [HX.out]; rfl) (HE.out.trans e.h)
 have tca : decide (16 < a.tk) = false := decide_eq_false (by omega)
 have tcb : (16 < a.tk) = False := eq_false (by omega)
 have tda : decide ((16 : Int) < (a.tk : Int)) = false := decide_eq_false (by omega)
 have tdb : ((16 : Int) < (a.tk : Int)) = False := eq_false (by omega)
 have H2 : Hid (a.tk <= 16) := hid (by omega)
 clear hc
 by_cases hc : a.rk ≠ a.tk
 case pos =>
  have tea : (((a.rk : Int)) == ((a.tk : Int))) = false := by rw [beq_eq_false_iff_ne]; omega
  have teb : (((a.rk : Int)) = ((a.tk : Int))) = False := eq_false (by omega)
  have tec : (((a.rk : Int)) != ((a.tk : Int))) = true := by rw [bne_iff_ne]; omega
  have tfa : ((a.rk) == (a.tk)) = false := by rw [beq_eq_false_iff_ne]; omega
  have tfb : ((a.rk) = (a.tk)) = False := eq_false (by omega)
  have tfc : ((a.rk) != (a.tk)) = true := by rw [bne_iff_ne]; omega
  have HX : Hid (a.shaped = false) := hid (by rw [HRES.out]; rw [decide_eq_false hc, Bool.and_false]; rfl)
  have tk1 : True := trivial
  go_wp2_with fail
  go_ret
  exact Ret.mk (by rw [HX.out]; rfl) (HE.out.trans e.h)
 have tea : (((a.rk : Int)) == ((a.tk : Int))) = true := by rw [beq_iff_eq]; omega
 have teb : (((a.rk : Int)) = ((a.tk : Int))) = True := eq_true (by omega)
 have tec : (((a.rk : Int)) != ((a.tk : Int))) = false := by rw [bne_eq_false_iff_eq]; omega
 have tfa : ((a.rk) == (a.tk)) = true := by rw [beq_iff_eq]; omega
 have tfb : ((a.rk) = (a.tk)) = True := eq_true (by omega)
 have tfc : ((a.rk) != (a.tk)) = false := by rw [bne_eq_false_iff_eq]; omega
 have H3 : Hid (a.rk = a.tk) := hid (by omega)
 clear hc
 by_cases hc : a.ctx < 0
 case pos =>
  have tga : decide (a.ctx < 0) = true := decide_eq_true (by omega)
  have tgb : (a.ctx < 0) = True := eq_true (by omega)
  have HX : Hid (a.shaped = false) := hid (by rw [HRES.out]; rw [show codedB a.ctx = false by (unfold codedB; rw [decide_eq_false (show ¬ 0 <= a.ctx by omega)]; rfl), Bool.and_false]; rfl)
  have tk1 : True := trivial
  go_wp2_with fail
  go_ret
  exact Ret.mk (by rw [HX.out]; rfl) (HE.out.trans e.h)
 have tga : decide (a.ctx < 0) = false := decide_eq_false (by omega)
 have tgb : (a.ctx < 0) = False := eq_false (by omega)
 have H4 : Hid (0 <= a.ctx) := hid (by omega)
 clear hc
 by_cases hc : 65535 < a.ctx
 case pos =>
  have tha : decide (65535 < a.ctx) = true := decide_eq_true (by omega)
  have thb : (65535 < a.ctx) = True := eq_true (by omega)
  have HX : Hid (a.shaped = false) := hid (by rw [HRES.out]; rw [show codedB a.ctx = false by (unfold codedB; rw [decide_eq_false (show ¬ a.ctx <= 65535 by omega), Bool.and_false]), Bool.and_false]; rfl)
  have tk1 : True := trivial
  go_wp2_with fail
  go_ret
  exact Ret.mk (by rw [HX.out]; rfl) (HE.out.trans e.h)
 have tha : decide (65535 < a.ctx) = false := decide_eq_false (by omega)
 have thb : (65535 < a.ctx) = False := eq_false (by omega)
 have H5 : Hid (codedB a.ctx = true) := hid (codedB_iff.2 ⟨H4.out, by omega⟩)
 clear hc
 cases hc : a.src.ok with
 | false =>
  rw [hc] at KE
  have HC := hid hc
  clear hc
  have HX : Hid (a.shaped = false) := hid (by rw [HRES.out]; rw [HC.out, Bool.and_false]; rfl)
  have tk1 : True := trivial
  go_wp2_with (first | (clear tk1; refine wpList_mid (by rfl) 24 _ rfl _ 2 rfl _ _ (HRE.out _) vqE rfl (by kernel_rfl) ?_) | (go_at_call 63; refine (Ret.later (KE.out _)).mono ?_; rintro x _ ⟨rfl, e, rfl⟩))
  go_ret
  exact Ret.mk (by rw [HX.out]; rfl) (HE.out.trans e.h)
 | true =>
 rw [hc] at KE
 have H6 := hid hc
 clear hc
 cases hc : (decide (a.ps.k <= 8) && pairsB a.ps) with
 | false =>
  rw [hc] at KP
  have HC := hid hc
  clear hc
  have HX : Hid (a.shaped = false) := hid (by rw [HRES.out]; rw [HC.out, Bool.and_false]; rfl)
  have tk1 : True := trivial
  go_wp2_with (first | (clear tk1; refine wpList_mid (by rfl) 24 _ rfl _ 2 rfl _ _ (HRE.out _) vqE rfl (by kernel_rfl) ?_) | (go_at_call 63; refine (Ret.later (KE.out _)).mono ?_; rintro x _ ⟨rfl, e, rfl⟩) | (go_at_call 64; refine (Ret.later (KP.out _)).mono ?_; rintro x _ ⟨rfl, e, rfl⟩))
  go_ret
  exact Ret.mk (by rw [HX.out]; rfl) (HE.out.trans e.h)
 | true =>
 rw [hc] at KP
 have H7 := hid hc
 clear hc
 have HFIN : Hid (a.shaped = T.all (okT a) a.tk) := hid (by rw [HRES.out, decide_eq_true H1.out, decide_eq_true H2.out, decide_eq_true H3.out, H5.out, H6.out, H7.out]; rfl)
 clear HRES
 have tk1 : True := trivial
 go_upto_region 5 with (first | (clear tk1; refine wpList_mid (by rfl) 24 _ rfl _ 2 rfl _ _ (HRE.out _) vqE rfl (by kernel_rfl) ?_) | (go_at_call 63; refine (Ret.later (KE.out _)).mono ?_; rintro x _ ⟨rfl, e, rfl⟩) | (go_at_call 64; refine (Ret.later (KP.out _)).mono ?_; rintro x _ ⟨rfl, e, rfl⟩))
 clear KP KE
 go_loopw [4] (fun s4 wr => ∃ i : Nat, s4 = .int .i64 (i : Int) /\ Hid (i <= a.tk /\ T.all (okT a) i = true) /\ ∃ e : Later V, wr = e.x) (fun s4 _ => a.tk - (intOf s4).toNat)
 case atStart => exact ⟨0, rfl, (show Hid _ from ⟨Nat.zero_le _, rfl⟩), e, rfl⟩
 case round =>
  clear e
  obtain ⟨i, rfl, hi, e, rfl⟩ := hrel
  have i0 : (0 : Int) <= (i : Int) := by omega
  by_cases hlt : i < a.tk
  .
   obtain ⟨bA, oA, hA, hbA, hcA⟩ := HL.out.t (by omega)
   have hA : mt = some ⟨bA, oA, none⟩ := hA
   subst hA
   obtain ⟨bR, oR, Ai, ci, hR, hbR, qR, hkR, hPR⟩ := HL.out.r.at (Mod.refl _ V) (i := i) (by have := H3.out; omega)
   have hR : mr = some ⟨bR, oR, none⟩ := hR
   subst hR
   have cA : ∀ e : Later V, e.x.cell? ⟨bA, oA + i, none⟩ = some (.int .i64 (a.tg i)) := fun e => (e.h.cell hbA (by simp)).trans (hcA i hlt)
   have cR : ∀ e : Later V, e.x.cell? ⟨bR, oR + i, none⟩ = some (.slice Ai (a.rs i).k ci) := fun e => cellL qR e
   have KQ : Hid (∀ e : Later V, Calls Tryz.prog 64 #[.slice Ai (a.rs i).k ci, .int .i64 1, .int .i64 4] e.x (Ret (.bool (resB (a.rs i))) e.x)) := hid (fun e => r15pairs_any (a.rs i) (HW.out.2.2.2.2.2 i (by have := H3.out; omega)) 1 4 (by decide) (by decide) Ai ci e.x (hPR.ext e.h))
   have HCA := hid (fun j (hj : j < a.tk) (e : Later V) => ((e.h.cell hbA (by simp)).trans (hcA j hj) : e.x.cell? ⟨bA, oA + j, none⟩ = some (.int .i64 (a.tg j))))
   have tc2 : decide (i < a.tk) = true := by simp [hlt]
   have i1 : (i : Int) < (a.tk : Int) := by omega
   have i2 : (i : Int) < (a.rk : Int) := by have := H3.out; omega
   have HLT := hid hlt
   clear hlt hcA hbA hPR hkR hbR qR
   by_cases hn : a.tg i < 0
   case pos =>
    have uaa : decide (a.tg i < 0) = true := decide_eq_true (by exact hn)
    have uab : (a.tg i < 0) = True := eq_true (by exact hn)
    have HC : Hid (codedB (a.tg i) = false) := hid (by unfold codedB; rw [decide_eq_false (show ¬ 0 <= a.tg i by omega)]; rfl)
    clear hn
    have HN := hid (all_no (f := okT a) HLT.out (by unfold okT; rw [HC.out]; rfl))
    have HX : Hid (a.shaped = false) := hid (by rw [HFIN.out, HN.out])
    clear HN
    go_wp2_with fail
    go_ret
    exact Ret.mk (by rw [HX.out]; rfl) (HE.out.trans e.h)
   have uaa : decide (a.tg i < 0) = false := decide_eq_false (by exact hn)
   have uab : (a.tg i < 0) = False := eq_false (by exact hn)
   by_cases hg : 65535 < a.tg i
   case pos =>
    have uba : decide (65535 < a.tg i) = true := decide_eq_true (by exact hg)
    have ubb : (65535 < a.tg i) = True := eq_true (by exact hg)
    have HC : Hid (codedB (a.tg i) = false) := hid (by unfold codedB; rw [decide_eq_false (show ¬ a.tg i <= 65535 by omega), Bool.and_false])
    clear hn hg
    have HN := hid (all_no (f := okT a) HLT.out (by unfold okT; rw [HC.out]; rfl))
    have HX : Hid (a.shaped = false) := hid (by rw [HFIN.out, HN.out])
    clear HN
    go_wp2_with fail
    go_ret
    exact Ret.mk (by rw [HX.out]; rfl) (HE.out.trans e.h)
   have uba : decide (65535 < a.tg i) = false := decide_eq_false (by exact hg)
   have ubb : (65535 < a.tg i) = False := eq_false (by exact hg)
   have HC : Hid (codedB (a.tg i) = true) := hid (codedB_iff.2 ⟨by omega, by omega⟩)
   clear hn hg
   cases hr : resB (a.rs i) with
   | false =>
    rw [hr] at KQ
    have HVB := hid hr
    clear hr
    have HN := hid (all_no (f := okT a) HLT.out (by unfold okT; rw [HVB.out, Bool.and_false]; rfl))
    have HX : Hid (a.shaped = false) := hid (by rw [HFIN.out, HN.out])
    clear HN
    go_wp2_with (first | (go_at_call 64; refine (Ret.later (KQ.out _)).mono ?_; rintro x _ ⟨rfl, e, rfl⟩))
    go_ret
    exact Ret.mk (by rw [HX.out]; rfl) (HE.out.trans e.h)
   | true =>
    rw [hr] at KQ
    have HVB := hid hr
    clear hr
    go_upto_region 10 with (first | (go_at_call 64; refine (Ret.later (KQ.out _)).mono ?_; rintro x _ ⟨rfl, e, rfl⟩))
    go_loopw [5] (fun s5 wr => ∃ j : Nat, s5 = .int .i64 (j : Int) /\ Hid (j <= i /\ ∀ x, x < j -> a.tg x ≠ a.tg i) /\ ∃ e : Later V, wr = e.x) (fun s5 _ => i - (intOf s5).toNat)
    case atStart => exact ⟨0, rfl, (show Hid _ from ⟨Nat.zero_le _, fun x hx => by omega⟩), e, rfl⟩
    case round =>
     clear e
     obtain ⟨j, rfl, hj, e, rfl⟩ := hrel
     have j0 : (0 : Int) <= (j : Int) := by omega
     by_cases hjt : j < i
     .
      have cJ := HCA.out j (Nat.lt_trans hjt HLT.out)
      have tj : decide (j < i) = true := by simp [hjt]
      have j1 : (j : Int) < (i : Int) := by omega
      have j2 : (j : Int) < (a.tk : Int) := by omega
      have HJT := hid hjt
      clear hjt
      by_cases hd : a.tg j = a.tg i
      .
       have HU : Hid (T.all (fun j => decide (a.tg j ≠ a.tg i)) i = false) := hid (all_no HJT.out (by simp [hd]))
       have waa : ((a.tg i) == (a.tg j)) = true := by rw [beq_iff_eq]; exact hd.symm
       have wab : ((a.tg i) = (a.tg j)) = True := eq_true (by exact hd.symm)
       have wac : ((a.tg i) != (a.tg j)) = false := by rw [bne_eq_false_iff_eq]; exact hd.symm
       clear hd
       go_upto_region 12 with fail
       refine wp_region_later (by kernel_rfl) (by kernel_rfl) ?_
       repeat (first | go_big_quiet_step (fail))
       refine wpQuiet_nil ?_
       rintro _ ⟨e, rfl⟩
       have HN := hid (all_no (f := okT a) HLT.out (by unfold okT; rw [HU.out, Bool.and_false]))
       have HX : Hid (a.shaped = false) := hid (by rw [HFIN.out, HN.out])
       clear HN
       go_wp2_with fail
       go_ret
       exact Ret.mk (by rw [HX.out]; rfl) (HE.out.trans e.h)
      .
       have HD := hid hd
       have waa : ((a.tg i) == (a.tg j)) = false := by rw [beq_eq_false_iff_ne]; exact fun h => hd h.symm
       have wab : ((a.tg i) = (a.tg j)) = False := eq_false (by exact fun h => hd h.symm)
       have wac : ((a.tg i) != (a.tg j)) = true := by rw [bne_iff_ne]; exact fun h => hd h.symm
       clear hd
       go_upto_region 12 with fail
       refine wp_region_later (by kernel_rfl) (by kernel_rfl) ?_
       repeat (first | go_big_quiet_step (fail))
       refine wpQuiet_nil ?_
       rintro _ ⟨e, rfl⟩
       go_wp2_with fail
       go_roundw
       case rel => exact ⟨j + 1, by go_num, (show Hid _ from ⟨HJT.out, fun x hx => by
        by_cases e : x = j
        . subst e; exact HD.out
        . exact hj.out.2 x (by omega)⟩), e, rfl⟩
       case measure => have := HJT.out; simp [intOf]; omega
     .
      have hij : j = i := by have := hj.out.1; omega
      subst hij
      have tj : decide (j < j) = false := by simp
      have HU : Hid (T.all (fun x => decide (a.tg x ≠ a.tg j)) j = true) := hid (T.all_iff.2 fun x hx => by simpa using hj.out.2 x hx)
      have HOK : Hid (okT a j = true) := hid (by unfold okT; rw [HC.out, HVB.out, HU.out]; rfl)
      go_wp2_with fail
      go_roundw
      case rel => exact ⟨j + 1, by go_num, (show Hid _ from ⟨HLT.out, by rw [T.all, hi.out.2, HOK.out]; rfl⟩), e, rfl⟩
      case measure => have := HLT.out; simp [intOf]; omega
  .
   have hik : i = a.tk := by have := hi.out.1; omega
   subst hik
   have tc2 : decide (a.tk < a.tk) = false := by simp
   have HX : Hid (a.shaped = true) := hid (by rw [HFIN.out, hi.out.2])
   go_wp2_with fail
   go_ret
   exact Ret.mk (by rw [HX.out]; rfl) (HE.out.trans e.h)
end Go.Proofs.YtmckfdmdkljomaaGreatDoor
