/-
 What the reference reads of any bytes: a name.
-/
import Derived.Test.YthecmnbkjchjmaaGreatMExtAgesbb
import Derived.Test.YthecmnbkjchjmaaGreatMExtAgesbg

namespace Go.Proofs.YthecmnbkjchjmaaGreat
open Go.RowKit
set_option linter.unusedVariables false
set_option linter.unusedSimpArgs false

theorem ptree (l : List UInt8) (hl : l.length <= 1073741824) (w : World) : PTree l := by
 obtain ⟨e, w', fr, h, _⟩ := ReadPrev_any l hl w []
 exact h.2
theorem of_any (t : T) (hok : t.ok) (hs : t.size <= 100000) (A : Option Addr) (c : Nat) (w : World) (h : IsL w (fun _ => True) t A) : Calls Tryz.prog 50 #[itemV t A c] w (OfPost t w) := by
 by_cases hr : t.right 8 = true
 .
  by_cases hk : t.k = 2
  .
   cases t with
   | nil => exact absurd hok T.not_nil
   | mk kind n s op k ch =>
    have hk : k = 2 := hk
    subst hk
    by_cases hk1 : (ch 1).k = 2
    . exact of_three kind n s op ch hok hr hs hk1 A c w h
    . exact of_two kind n s op ch hok hr hs hk1 A c w h
  . exact of_bad2 t hok hr hk A c w h
 . exact of_bad1 t hok (by simpa using hr) A c w h

def QPrev (l : List UInt8) (w : World) (e : Ending) (w' : World) : Prop := Ret (.tuple #[((prevO l).getD zeroE).v, .bool (prevO l).isSome]) w e w'
theorem QPrev.none {l : List UInt8} {w w' : World} {e : Ending} (hp : prevO l = none) (h : Ret (.tuple #[zeroE.v, .bool false]) w e w') : QPrev l w e w' := by unfold QPrev; rw [hp]; exact h
theorem QPrev.some {l : List UInt8} {w w' : World} {e : Ending} {E : EV} (hp : prevO l = some E) (h : Ret (.tuple #[E.v, .bool true]) w e w') : QPrev l w e w' := by unfold QPrev; rw [hp]; exact h

set_option maxRecDepth 20000 in
theorem qp_err (l : List UInt8) (hl : l.length <= 1073741824) (w : World) (q : Nat) (E : Int) (hf : flt 8 l = (q, E)) (hb : E ≠ 0) : Calls Tryz.prog 23 #[str l] w (Ret (.tuple #[zeroE.v, .bool false]) w) := by
 have KF := hid (fun W => fault_any l hl 8 (by omega) 0 (by omega) W)
 rw [List.drop_zero, hf] at KF
 have e1 : (E != 0) = true := by simpa using hb
 have e2 : (E = 0) = False := by simpa using hb
 have e3 : (E == 0) = false := by simpa using hb
 have HE := hid ((Mod.refl [] w).alloc (.cells #[.int .i64 0, .string ⟨#[]⟩, .int .u64 0, .int .u64 0] 24))
 have HQ := hid (Blk.new w 24 zeroE.c)
 clear hf hb
 go_enter Tryz.func23, Tryz.ntmps23
 go_wp2_with fail
 refine (KF.out _).mono ?_
 rintro x w1 ⟨rfl, hb1⟩
 have HE1 := hid (HE.out.trans hb1)
 have HQ1 := hid (HQ.out.ext hb1)
 clear hb1
 dsimp only [faultV]
 obtain ⟨c0, c1, c2, c3⟩ := cells4 (e := zeroE) HQ1.out
 have f0 := Blk.frozen HQ1.out 0
 have f1 := Blk.frozen HQ1.out 1
 have f2 := Blk.frozen HQ1.out 2
 have f3 := Blk.frozen HQ1.out 3
 go_wp2_with fail
 obtain ⟨d0, d1, d2, d3⟩ := cells4 (set4_blk (e0 := zeroE) (e := zeroE) HQ1.out)
 clear c0 c1 c2 c3 f0 f1 f2 f3
 show bodyPost _ _ _ _ _ (set4 w1 w.heap.size zeroE)
 refine bodyPost_ret (v := .tuple #[zeroE.v, .bool false]) (by simp [results, Tryz.results23, go_sem, d0, d1, d2, d3]) rfl (Ret.mk rfl (set4_mod HE1.out (Nat.le_refl _)))
set_option maxRecDepth 20000 in
theorem qp_len (l : List UInt8) (hl : l.length <= 1073741824) (w : World) (q : Nat) (hf : flt 8 l = (q, 0)) (hb : q ≠ l.length) : Calls Tryz.prog 23 #[str l] w (Ret (.tuple #[zeroE.v, .bool false]) w) := by
 have KF := hid (fun W => fault_any l hl 8 (by omega) 0 (by omega) W)
 rw [List.drop_zero, hf] at KF
 have e1 : ((q : Int) != (l.length : Int)) = true := by simp; omega
 have e2 : ((q : Int) = (l.length : Int)) = False := by simp; omega
 have e3 : ((q : Int) == (l.length : Int)) = false := by simp; omega
 have HE := hid ((Mod.refl [] w).alloc (.cells #[.int .i64 0, .string ⟨#[]⟩, .int .u64 0, .int .u64 0] 24))
 have HQ := hid (Blk.new w 24 zeroE.c)
 clear hf hb
 go_enter Tryz.func23, Tryz.ntmps23
 go_wp2_with fail
 refine (KF.out _).mono ?_
 rintro x w1 ⟨rfl, hb1⟩
 have HE1 := hid (HE.out.trans hb1)
 have HQ1 := hid (HQ.out.ext hb1)
 clear hb1
 simp only [faultV, Nat.zero_add]
 obtain ⟨c0, c1, c2, c3⟩ := cells4 (e := zeroE) HQ1.out
 have f0 := Blk.frozen HQ1.out 0
 have f1 := Blk.frozen HQ1.out 1
 have f2 := Blk.frozen HQ1.out 2
 have f3 := Blk.frozen HQ1.out 3
 go_wp2_with fail
 obtain ⟨d0, d1, d2, d3⟩ := cells4 (set4_blk (e0 := zeroE) (e := zeroE) HQ1.out)
 clear c0 c1 c2 c3 f0 f1 f2 f3
 show bodyPost _ _ _ _ _ (set4 w1 w.heap.size zeroE)
 refine bodyPost_ret (v := .tuple #[zeroE.v, .bool false]) (by simp [results, Tryz.results23, go_sem, d0, d1, d2, d3]) rfl (Ret.mk rfl (set4_mod HE1.out (Nat.le_refl _)))
set_option maxRecDepth 20000 in
set_option maxHeartbeats 800000 in
theorem qp_tree (t : T) (hr : t.right 8 = true) (hok : t.ok) (hs : t.size <= 100000) (hl : t.bytes.length <= 1073741824) (E : EV) (B : Bool) (hE : (if ofB t then readE t else zeroE) = E) (hB : ofB t = B) (w : World) : Calls Tryz.prog 23 #[str t.bytes] w (Ret (.tuple #[E.v, .bool B]) w) := by
 have KF := hid (fun W => fault_any t.bytes hl 8 (by omega) 0 (by omega) W)
 have hf : flt 8 t.bytes = (t.bytes.length, 0) := by have := flt_bytes t 8 hr hok []; rwa [List.append_nil] at this
 have KI := hid (fun W => r13_any t hr hok hl W)
 have KO : Hid (∀ A c W, IsL W (fun _ => True) t A -> Calls Tryz.prog 50 #[itemV t A c] W (Ret (.tuple #[E.v, .int .i64 (if B then 0 else 2)]) W)) := fun A c W h => by
  have := of_any t hok hs A c W h
  unfold OfPost at this
  rw [hE, hB] at this
  exact this
 rw [List.drop_zero, hf] at KF
 generalize t.bytes = l at *
 have HE := hid ((Mod.refl [] w).alloc (.cells #[.int .i64 0, .string ⟨#[]⟩, .int .u64 0, .int .u64 0] 24))
 have HQ := hid (Blk.new w 24 zeroE.c)
 clear hf hr hok hs hl hE hB
 go_enter Tryz.func23, Tryz.ntmps23
 go_wp2_with fail
 refine (KF.out _).mono ?_
 rintro x w1 ⟨rfl, hb1⟩
 have HE1 := hid (HE.out.trans hb1)
 have HQ1 := hid (HQ.out.ext hb1)
 clear hb1
 simp only [faultV, Nat.zero_add]
 go_wp2_with fail
 refine (KI.out _).mono ?_
 rintro x w2 ⟨A, c, rfl, hb2, hl2⟩
 have HL := hid (IsL.weak (R := fun _ => True) (fun _ _ _ => trivial) _ hl2)
 have HE2 := hid (HE1.out.trans hb2)
 have HQ2 := hid (HQ1.out.ext hb2)
 clear hb2 hl2
 go_wp2_with fail
 refine (KO.out _ _ _ HL.out).mono ?_
 rintro x w3 ⟨rfl, hb3⟩
 have ht := hid (HQ2.out.ext hb3).lt
 have HE3 := hid ((HE2.out.trans hb3).alloc (.cells E.c 24))
 have HQ3 := hid ((HQ2.out.ext hb3).alloc (.cells E.c 24))
 clear hb3
 have HB : Hid ((decide ((if B = true then (0 : Int) else 2) = 0)) = B) := hid (by cases B <;> rfl)
 cases B
 all_goals simp only [Bool.false_eq_true, if_false, if_true]
 all_goals obtain ⟨c0, c1, c2, c3⟩ := cells4 (e := zeroE) HQ3.out
 all_goals have f0 := Blk.frozen HQ3.out 0
 all_goals have f1 := Blk.frozen HQ3.out 1
 all_goals have f2 := Blk.frozen HQ3.out 2
 all_goals have f3 := Blk.frozen HQ3.out 3
 all_goals go_wp2_with fail
 all_goals obtain ⟨d0, d1, d2, d3⟩ := cells4 (set4_blk (e0 := zeroE) (e := E) HQ3.out)
 all_goals clear c0 c1 c2 c3 f0 f1 f2 f3
 all_goals show bodyPost _ _ _ _ _ (set4 (w3.alloc (.cells E.c 24)) w.heap.size E)
 . refine bodyPost_ret (v := .tuple #[E.v, .bool false]) (by simp [results, Tryz.results23, go_sem, d0, d1, d2, d3]) rfl (Ret.mk rfl (set4_mod HE3.out (Nat.le_refl _)))
 . refine bodyPost_ret (v := .tuple #[E.v, .bool true]) (by simp [results, Tryz.results23, go_sem, d0, d1, d2, d3]) rfl (Ret.mk rfl (set4_mod HE3.out (Nat.le_refl _)))
theorem qPrev_any (l : List UInt8) (hl : l.length <= 10000) (w : World) : Calls Tryz.prog 23 #[str l] w (QPrev l w) := by
 obtain ⟨q, hq⟩ : ∃ q, q = (flt 8 l).1 := ⟨_, rfl⟩
 obtain ⟨E, hE⟩ : ∃ E, E = (flt 8 l).2 := ⟨_, rfl⟩
 have hf : flt 8 l = (q, E) := by rw [hq, hE]
 have hql : q <= l.length := by rw [hq]; exact flt_le 8 l
 have hP : parseR l = if E = 0 /\ q < l.length then (q, 2) else (q, E) := by unfold parseR; rw [hf]
 by_cases h0 : E = 0
 .
  subst h0
  by_cases hlt : q < l.length
  . exact (qp_len l (by omega) w q hf (by omega)).mono fun e w' h => QPrev.none (prevO_bad (by rw [hP, if_pos ⟨rfl, hlt⟩]; show (2 : Int) ≠ 0; omega)) h
  .
   rw [if_neg (fun h => hlt h.2)] at hP
   obtain ⟨t, hr, hok, rfl⟩ := ptree l (by omega) w (by rw [hP])
   have hs : t.size <= 100000 := by have := T.size_le t (T.plain_of hr); omega
   have hO := prevO_tree hr hok
   by_cases hB : ofB t = true
   .
    rw [if_pos hB] at hO
    exact (qp_tree t hr hok hs (by omega) (readE t) true (by rw [if_pos hB]) hB w).mono fun e w' h => QPrev.some hO h
   .
    rw [if_neg hB] at hO
    exact (qp_tree t hr hok hs (by omega) zeroE false (by rw [if_neg hB]) (by simpa using hB) w).mono fun e w' h => QPrev.none hO h
 .
  rw [if_neg (fun h => h0 h.1)] at hP
  exact (qp_err l (by omega) w q E hf h0).mono fun e w' h => QPrev.none (prevO_bad (by rw [hP]; exact h0)) h
end Go.Proofs.YthecmnbkjchjmaaGreat


namespace Go.Proofs.YthecmnbkjchjmaaGreat
open Go.RowKit
set_option linter.unusedVariables false
set_option linter.unusedSimpArgs false

set_option maxRecDepth 20000 in
theorem rFirst_any (p : PV) (bs : Nat -> BV) (k c : Nat) (A : Option Addr) (typ : Int) (hk : k < 4611686018427387904) (w : World) (h : BsL w A k bs) : Calls Tryz.prog 10 #[bunV p A k c, .int .i64 typ] w (Ret (.int .i64 (firstI (tyB bs typ) k)) w) := by
 have HE := hid ((Mod.refl [] w).alloc (.cells (bunC p A k c) 29))
 have HB := hid (Blk.new w 29 (bunC p A k c))
 have HL := hid (BsL.ext h HE.out)
 have k1 : (k : Int) < 4611686018427387904 := by omega
 have HK := hid hk
 clear h hk
 go_enter Tryz.func10, Tryz.ntmps10
 go_wp2_with fail
 generalize w.alloc (.cells (bunC p A k c) 29) = V at *
 have b19 : ∀ e : Later V, e.x.cell? ⟨w.heap.size, 19, none⟩ = some (.slice A k c) := HB.out.cellL 19 rfl
 obtain ⟨e0, he0⟩ := Later.self V
 go_loopw [5] (fun s5 wr => ∃ i : Nat, s5 = .int .i64 (i : Int) /\ Hid (i <= k /\ ∀ j, j < i -> tyB bs typ j = false) /\ ∃ e : Later V, wr = e.x) (fun s5 _ => k - (intOf s5).toNat)
 case atStart => exact ⟨0, rfl, (show Hid _ from ⟨by omega, fun j hj => by omega⟩), e0, he0⟩
 case round =>
  clear he0 e0
  obtain ⟨i, rfl, hi, e, rfl⟩ := hrel
  have i0 : (0 : Int) <= (i : Int) := by omega
  by_cases hlt : i < k
  .
   obtain ⟨b, o, rfl, hb, q0, q1, q2, q3, q4⟩ := HL.out.cells hlt
   have tc : decide (i < k) = true := by simp [hlt]
   have i1 : (i : Int) < (k : Int) := by omega
   have HLT := hid hlt
   clear hlt
   by_cases ht : (bs i).ty = typ
   .
    have HF : Hid (firstI (tyB bs typ) k = (i : Int)) := by unfold Hid firstI; rw [firstOf_some HLT.out (tyB_yes ht) hi.out.2]
    rw [ht] at q0
    clear ht
    go_wp2_with fail
    go_ret
    exact Ret.mk (by rw [HF.out]; rfl) (HE.out.trans e.h)
   .
    have HN := hid (tyB_no ht)
    have t1 : ((bs i).ty == typ) = false := by simpa using ht
    have t2 : ((bs i).ty = typ) = False := by simpa using ht
    clear ht
    go_wp2_with fail
    go_roundw
    case rel => exact ⟨i + 1, by go_num, (show Hid _ from ⟨HLT.out, fun j hj => by
     by_cases hji : j = i
     . subst hji; exact HN.out
     . exact hi.out.2 j (by omega)⟩), e, rfl⟩
    case measure => have := HLT.out; simp [intOf]; omega
  .
   obtain rfl : i = k := by have := hi.out.1; omega
   have tc : decide (i < i) = false := by simp
   have HF : Hid (firstI (tyB bs typ) i = -1) := by unfold Hid firstI; rw [firstOf_none hi.out.2]
   go_wp2_with fail
   go_ret
   exact Ret.mk (by rw [HF.out]; rfl) (HE.out.trans e.h)
end Go.Proofs.YthecmnbkjchjmaaGreat


namespace Go.Proofs.YthecmnbkjchjmaaGreat
open Go.RowKit
set_option linter.unusedVariables false
set_option linter.unusedSimpArgs false

noncomputable def extB (x : BV) : Bool := if x.ty = 6 then (prevO x.data).isSome else if x.ty = 7 then (ageO x.data).isSome else if x.ty = 10 then (hopsO x.data).isSome else true
noncomputable def extN (bs : Nat -> BV) (i : Nat) : Bool := !extB (bs i)
noncomputable def extR (bs : Nat -> BV) (k : Nat) : Int := if firstOf (extN bs) k = none then 0 else 2
theorem extR_no {bs : Nat -> BV} {k i : Nat} (hi : i < k) (h : extB (bs i) = false) : extR bs k = 2 := by
 unfold extR
 rw [if_neg]
 intro hf
 have := firstOf_no hf i hi
 unfold extN at this
 rw [h] at this
 cases this
theorem extR_yes {bs : Nat -> BV} {k : Nat} (h : ∀ j, j < k -> extB (bs j) = true) : extR bs k = 0 := by
 unfold extR
 rw [if_pos]
 exact firstOf_none fun j hj => by unfold extN; rw [h j hj]; rfl
set_option maxRecDepth 20000 in
set_option maxHeartbeats 800000 in
theorem r14Right_any (p : PV) (bs : Nat -> BV) (k c : Nat) (A : Option Addr) (hk : k < 4611686018427387904) (hd : ∀ i, i < k -> (bs i).data.length <= 10000) (w : World) (h : BsL w A k bs) : Calls Tryz.prog 8 #[bunV p A k c] w (Ret (.int .i64 (extR bs k)) w) := by
 have KP : Hid (∀ i, i < k -> ∀ W, Calls Tryz.prog 23 #[str (bs i).data] W (QPrev (bs i).data W)) := fun i hi W => qPrev_any _ (hd i hi) W
 have KA : Hid (∀ i, i < k -> ∀ W, Calls Tryz.prog 24 #[str (bs i).data] W (QAge (bs i).data W)) := fun i hi W => qAge_any _ W
 have KH : Hid (∀ i, i < k -> ∀ W, Calls Tryz.prog 25 #[str (bs i).data] W (QHops (bs i).data W)) := fun i hi W => qHops_any _ (by have := hd i hi; omega) W
 have HE := hid ((Mod.refl [] w).alloc (.cells (bunC p A k c) 29))
 have HB := hid (Blk.new w 29 (bunC p A k c))
 have HL := hid (BsL.ext h HE.out)
 have k1 : (k : Int) < 4611686018427387904 := by omega
 have HK := hid hk
 clear hd
 clear h hk
 go_enter Tryz.func8, Tryz.ntmps8
 go_wp2_with fail
 generalize w.alloc (.cells (bunC p A k c) 29) = V at *
 have b19 : ∀ e : Later V, e.x.cell? ⟨w.heap.size, 19, none⟩ = some (.slice A k c) := HB.out.cellL 19 rfl
 have b19a : ∀ (e : Later V) (o : Obj), (e.x.alloc o).cell? ⟨w.heap.size, 19, none⟩ = some (.slice A k c) := fun e o => ((HB.out.later e).alloc o).cell 19
 obtain ⟨e0, he0⟩ := Later.self V
 go_loopw [3] (fun s3 wr => ∃ i : Nat, s3 = .int .i64 (i : Int) /\ Hid (i <= k /\ ∀ j, j < i -> extB (bs j) = true) /\ ∃ e : Later V, wr = e.x) (fun s3 _ => k - (intOf s3).toNat)
 case atStart => exact ⟨0, rfl, (show Hid _ from ⟨by omega, fun j hj => by omega⟩), e0, he0⟩
 case round =>
  clear he0 e0
  obtain ⟨i, rfl, hi, e, rfl⟩ := hrel
  have i0 : (0 : Int) <= (i : Int) := by omega
  by_cases hlt : i < k
  .
   obtain ⟨b, o, rfl, hb, q0, q1, q2, q3, q4⟩ := HL.out.cells hlt
   have q0a : ∀ (e : Later V) (ob : Obj), (e.x.alloc ob).cell? ⟨b, o + i * 5, none⟩ = some (.int .i64 (bs i).ty) := fun e ob => (((Mod.refl [] e.x).alloc ob).cell (Nat.lt_of_lt_of_le hb e.h.size) (by simp)).trans (q0 e)
   have tc : decide (i < k) = true := by simp [hlt]
   have i1 : (i : Int) < (k : Int) := by omega
   have KP1 := hid (KP.out i hlt)
   have KA1 := hid (KA.out i hlt)
   have KH1 := hid (KH.out i hlt)
   have HLT := hid hlt
   clear hlt q1 q2 q3
   by_cases t6 : (bs i).ty = 6
   .
    have HXB : Hid (extB (bs i) = (prevO (bs i).data).isSome) := by unfold Hid extB; rw [if_pos t6]
    rw [t6] at q0 q0a
    clear t6
    unfold QPrev at KP1
    cases hB : (prevO (bs i).data).isSome
    all_goals rw [hB] at KP1 HXB
    all_goals clear hB
    all_goals have HX := hid HXB.out
    .
     go_wp2_with fail
     refine (Ret.later (KP1.out _)).mono ?_
     rintro x _ ⟨rfl, e1, rfl⟩
     have HR := hid (extR_no HLT.out HX.out)
     go_wp2_with fail
     go_ret
     exact Ret.mk (by rw [HR.out]; rfl) (HE.out.trans ((Later.h e1).alloc _))
    .
     go_wp2_with fail
     refine (Ret.later (KP1.out _)).mono ?_
     rintro x _ ⟨rfl, e1, rfl⟩
     go_wp2_with fail
     go_roundw
     case rel => exact ⟨i + 1, by go_num, (show Hid _ from ⟨HLT.out, fun j hj => by
      by_cases hji : j = i
      . subst hji; exact HX.out
      . exact hi.out.2 j (by omega)⟩), Later.go e1 ((Mod.refl [] _).alloc _)⟩
     case measure => have := HLT.out; simp [intOf]; omega
   by_cases t7 : (bs i).ty = 7
   .
    have HXB : Hid (extB (bs i) = (ageO (bs i).data).isSome) := by unfold Hid extB; rw [if_neg t6]; rw [if_pos t7]
    rw [t7] at q0 q0a
    clear t7 t6
    unfold QAge at KA1
    cases hB : (ageO (bs i).data).isSome
    all_goals rw [hB] at KA1 HXB
    all_goals clear hB
    all_goals have HX := hid HXB.out
    .
     go_wp2_with fail
     refine (Ret.later (KA1.out _)).mono ?_
     rintro x _ ⟨rfl, e1, rfl⟩
     have HR := hid (extR_no HLT.out HX.out)
     go_wp2_with fail
     go_ret
     exact Ret.mk (by rw [HR.out]; rfl) (HE.out.trans e1.h)
    .
     go_wp2_with fail
     refine (Ret.later (KA1.out _)).mono ?_
     rintro x _ ⟨rfl, e1, rfl⟩
     go_wp2_with fail
     go_roundw
     case rel => exact ⟨i + 1, by go_num, (show Hid _ from ⟨HLT.out, fun j hj => by
      by_cases hji : j = i
      . subst hji; exact HX.out
      . exact hi.out.2 j (by omega)⟩), e1, rfl⟩
     case measure => have := HLT.out; simp [intOf]; omega
   by_cases t10 : (bs i).ty = 10
   .
    have HXB : Hid (extB (bs i) = (hopsO (bs i).data).isSome) := by unfold Hid extB; rw [if_neg t6, if_neg t7]; rw [if_pos t10]
    rw [t10] at q0 q0a
    clear t10 t6 t7
    unfold QHops at KH1
    cases hB : (hopsO (bs i).data).isSome
    all_goals rw [hB] at KH1 HXB
    all_goals clear hB
    all_goals have HX := hid HXB.out
    .
     go_wp2_with fail
     refine (Ret.later (KH1.out _)).mono ?_
     rintro x _ ⟨rfl, e1, rfl⟩
     have HR := hid (extR_no HLT.out HX.out)
     go_wp2_with fail
     go_ret
     exact Ret.mk (by rw [HR.out]; rfl) (HE.out.trans e1.h)
    .
     go_wp2_with fail
     refine (Ret.later (KH1.out _)).mono ?_
     rintro x _ ⟨rfl, e1, rfl⟩
     go_wp2_with fail
     go_roundw
     case rel => exact ⟨i + 1, by go_num, (show Hid _ from ⟨HLT.out, fun j hj => by
      by_cases hji : j = i
      . subst hji; exact HX.out
      . exact hi.out.2 j (by omega)⟩), e1, rfl⟩
     case measure => have := HLT.out; simp [intOf]; omega
   have HX : Hid (extB (bs i) = true) := by unfold Hid extB; rw [if_neg t6, if_neg t7, if_neg t10]
   have n6 : ((bs i).ty == 6) = false := by simpa using t6
   have m6 : ((bs i).ty = 6) = False := by simpa using t6
   have n7 : ((bs i).ty == 7) = false := by simpa using t7
   have m7 : ((bs i).ty = 7) = False := by simpa using t7
   have n10 : ((bs i).ty == 10) = false := by simpa using t10
   have m10 : ((bs i).ty = 10) = False := by simpa using t10
   clear t6 t7 t10
   go_wp2_with fail
   go_roundw
   case rel => exact ⟨i + 1, by go_num, (show Hid _ from ⟨HLT.out, fun j hj => by
    by_cases hji : j = i
    . subst hji; exact HX.out
    . exact hi.out.2 j (by omega)⟩), e, rfl⟩
   case measure => have := HLT.out; simp [intOf]; omega
  .
   obtain rfl : i = k := by have := hi.out.1; omega
   have tc : decide (i < i) = false := by simp
   have HR := hid (extR_yes hi.out.2)
   go_wp2_with fail
   go_ret
   exact Ret.mk (by rw [HR.out]; rfl) (HE.out.trans e.h)
end Go.Proofs.YthecmnbkjchjmaaGreat


namespace Go.Proofs.YthecmnbkjchjmaaGreat
open Go.RowKit
set_option linter.unusedVariables false
set_option linter.unusedSimpArgs false

def setP (bs : Nat -> BV) (i : Nat) (d : List UInt8) : Nat -> BV := fun j => if j = i then { bs i with data := d } else bs j
theorem setP_i (bs : Nat -> BV) (i : Nat) (d : List UInt8) : setP bs i d i = { bs i with data := d } := if_pos rfl
theorem setP_j (bs : Nat -> BV) {i j : Nat} (d : List UInt8) (h : j ≠ i) : setP bs i d j = bs j := if_neg h
theorem setP_ty (bs : Nat -> BV) (i : Nat) (d : List UInt8) (t : Int) (k : Nat) : firstOf (tyB (setP bs i d) t) k = firstOf (tyB bs t) k := firstOf_congr' fun j hj => by
 unfold tyB
 by_cases e : j = i
 . subst e; rw [setP_i]
 . rw [setP_j _ _ e]
structure St (p : PV) (R bs : Nat -> BV) (k : Nat) : Prop where
 lk : Lk R k bs
 rok : BOK p R k
 rl : (bunBytes p R k).length <= 3400
 ex : ∀ i, i < k -> extB (bs i) = true
 go : firstOf (tyB bs 6) k = none -> (bunBytes p bs k).length <= 3200 /\ k <= 11
theorem St.ok {p : PV} {R bs : Nat -> BV} {k : Nat} (h : St p R bs k) : BOK p bs k := h.lk.bok h.rok h.rl
theorem St.right {p : PV} {R bs : Nat -> BV} {k : Nat} (h : St p R bs k) : bunRight p bs k = 0 := bok_to h.ok
theorem St.set {p : PV} {R bs : Nat -> BV} {k : Nat} (h : St p R bs k) {i : Nat} (hi : i < k) (hs : spec (bs i).ty) {d : List UInt8} (hd : d.length <= 70) (hx : extB { bs i with data := d } = true) (h6 : firstOf (tyB bs 6) k ≠ none \/ (bunBytes p (setP bs i d) k).length <= 3200 /\ k <= 11) : St p R (setP bs i d) k := by
 refine ⟨h.lk.set (by rw [<- (h.lk i hi).ty]; exact hs) hd, h.rok, h.rl, fun j hj => ?_, fun e => ?_⟩
 .
  by_cases e : j = i
  . subst e; rw [setP_i]; exact hx
  . rw [setP_j _ _ e]; exact h.ex j hj
 .
  rw [setP_ty] at e
  rcases h6 with a | a
  . exact absurd e a
  . exact a
theorem headL_255 {m n : Nat} (h : n <= 255) : (headL m n).length <= 2 := by
 unfold headL
 split
 . simp
 . rw [if_pos (by omega)]; simp [be_length]
theorem eidT_le70 {e : EV} (h : e.ok = true) : (eidT e).bytes.length <= 70 := by
 rcases EV.ok_cases h with rfl | ⟨name, rfl, hn, hl⟩ | ⟨node, svc, rfl, ha, hb⟩
 . decide
 .
  have : (eidT ⟨1, name, 0, 0⟩).bytes = [130, 1] ++ (headL 3 name.length ++ name) := by
   have hn' : ¬ name = noneL := hn
   unfold eidT T.bytes
   simp [twoT, hn', T.cat, numT, textT, T.bytes, headL]
   decide
  rw [this]
  have := headL_255 (m := 3) (n := name.length) (by omega)
  simp only [List.length_append, List.length_cons, List.length_nil]
  omega
 .
  have : (eidT ⟨2, [], node, svc⟩).bytes = [130, 2] ++ ([130] ++ (headL 0 node ++ headL 0 svc)) := by
   unfold eidT T.bytes
   simp [twoT, T.cat, numT, T.bytes, headL]
   decide
  rw [this]
  have := headL_le 0 node
  have := headL_le 0 svc
  simp only [List.length_append, List.length_cons, List.length_nil]
  omega
theorem extB_prev {x : BV} (h : x.ty = 6) {e : EV} (ho : e.ok = true) (hd : x.data = (eidT e).bytes) : extB x = true := by
 unfold extB
 rw [if_pos h, hd, show prevO (eidT e).bytes = some e from theO_some isPrev_inj ⟨ho, rfl⟩]; rfl
theorem ageO_headL {n : Nat} (h : n <= 1099511627776) : ageO (headL 0 n) = some n := theO_some isAge_inj ⟨h, rfl⟩
theorem hopsO_pair {l c : Nat} (h : mayB l c = true) : hopsO (130 :: (headL 0 l ++ headL 0 c)) = some (l, c) := theO_some (x := (l, c)) isHops_inj ⟨h, rfl⟩
theorem extB_age {x : BV} (h : x.ty = 7) {n : Nat} (hn : n <= 1099511627776) (hd : x.data = headL 0 n) : extB x = true := by
 unfold extB
 rw [if_neg (by omega), if_pos h, hd, ageO_headL hn]; rfl
theorem extB_hops {x : BV} (h : x.ty = 10) {l c : Nat} (hm : mayB l c = true) (hd : x.data = 130 :: (headL 0 l ++ headL 0 c)) : extB x = true := by
 unfold extB
 rw [if_neg (by omega), if_neg (by omega), if_pos h, hd, hopsO_pair hm]; rfl
theorem bytes_setP {bs : Nat -> BV} {i k : Nat} (hi : i < k) {d : List UInt8} : (blksB (setP bs i d) k).length + (bs i).bytes.length = (blksB bs k).length + ({ bs i with data := d } : BV).bytes.length := by
 have lo : ∀ m, m <= i -> blksB (setP bs i d) m = blksB bs m := by
  intro m
  induction m with
  | zero => intro _; rfl
  | succ m ih => intro h; rw [blksB, blksB, ih (by omega), setP_j _ _ (by omega)]
 have key : ∀ m, i < m -> (blksB (setP bs i d) m).length + (bs i).bytes.length = (blksB bs m).length + ({ bs i with data := d } : BV).bytes.length := by
  intro m
  induction m with
  | zero => intro h; omega
  | succ m ih =>
   intro h
   rw [blksB, blksB, List.length_append, List.length_append]
   by_cases e : i = m
   . subst e; rw [lo _ (Nat.le_refl _), setP_i]; omega
   . rw [setP_j _ _ (by omega)]; have := ih (by omega); omega
 exact key k hi
noncomputable def sentF (bs : Nat -> BV) (k : Nat) (L : List UInt8) : Nat -> BV := match firstOf (tyB bs 6) k with | some i => setP bs i L | none => insP bs (k - 1) ⟨6, (freeN bs k : Int), 0, 0, L⟩
noncomputable def sentK (bs : Nat -> BV) (k : Nat) : Nat := match firstOf (tyB bs 6) k with | some _ => k | none => k + 1
theorem tyB_at {bs : Nat -> BV} {t : Int} {i : Nat} (h : tyB bs t i = true) : (bs i).ty = t := by simpa [tyB] using h
theorem firstOf_succ_skip {f g : Nat -> Bool} {k : Nat} (h1 : ∀ j, j < k -> f j = g j) (hk : f k = false) : firstOf f (k + 1) = firstOf g k := by
 rw [firstOf, firstOf_congr' h1, hk]
 cases firstOf g k <;> rfl
theorem insP_first {bs : Nat -> BV} {k : Nat} (k0 : 0 < k) (la : (bs (k - 1)).ty = 1) {x : BV} (hx : x.ty = 6) {t : Int} (h6 : t ≠ 6) (h1 : t ≠ 1) : firstOf (tyB (insP bs (k - 1) x) t) (k + 1) = firstOf (tyB bs t) k := by
 have e1 : insP bs (k - 1) x k = bs (k - 1) := by unfold insP; rw [if_neg (by omega), if_neg (by omega)]
 have e2 : insP bs (k - 1) x (k - 1) = x := by unfold insP; rw [if_neg (by omega), if_pos rfl]
 refine firstOf_succ_skip (fun j hj => ?_) (tyB_no (by rw [e1, la]; exact fun e => h1 e.symm))
 by_cases e : j = k - 1
 .
  subst e
  rw [tyB_no (by rw [e2, hx]; exact fun e => h6 e.symm), tyB_no (by rw [la]; exact fun e => h1 e.symm)]
 .
  have : insP bs (k - 1) x j = bs j := by unfold insP; rw [if_pos (by omega)]
  unfold tyB; rw [this]
theorem St.sent {p : PV} {R bs : Nat -> BV} {k : Nat} (h : St p R bs k) {e : EV} (ho : e.ok = true) : ∃ R', St p R' (sentF bs k (eidT e).bytes) (sentK bs k) /\ firstOf (tyB (sentF bs k (eidT e).bytes) 6) (sentK bs k) ≠ none /\ sentF bs k (eidT e).bytes (sentK bs k - 1) = bs (k - 1) /\ 0 < sentK bs k /\
  (∀ t i, t = 7 \/ t = 10 -> firstOf (tyB bs t) k = some i -> sentF bs k (eidT e).bytes i = bs i) /\ (∀ t, t = 7 \/ t = 10 -> firstOf (tyB (sentF bs k (eidT e).bytes) t) (sentK bs k) = firstOf (tyB bs t) k) := by
 have hb := h.ok
 have k0 := hb.k0
 have la := hb.la
 have l70 := eidT_le70 ho
 cases hf : firstOf (tyB bs 6) k with
 | some i =>
  obtain ⟨f1, f2, f3⟩ := firstOf_spec hf
  have f2 := tyB_at f2
  have eF : sentF bs k (eidT e).bytes = setP bs i (eidT e).bytes := by unfold sentF; rw [hf]
  have eK : sentK bs k = k := by unfold sentK; rw [hf]
  rw [eF, eK]
  refine ⟨R, h.set f1 (.inl f2) l70 (extB_prev (e := e) (by exact f2) ho rfl) (.inl (by rw [hf]; simp)), by rw [setP_ty, hf]; simp, setP_j _ _ (fun e => by rw [e, f2] at la; omega), k0, fun t j ht hj => setP_j _ _ (fun e => ?_), fun t _ => setP_ty _ _ _ _ _⟩
  have := tyB_at (firstOf_spec hj).2.1
  rw [e, f2] at this; omega
 | none =>
  obtain ⟨g1, g2⟩ := h.go hf
  obtain ⟨n1, n2, n3, _⟩ := freeN_spec bs k
  obtain ⟨x, hx⟩ : ∃ x : BV, x = ⟨6, (freeN bs k : Int), 0, 0, (eidT e).bytes⟩ := ⟨_, rfl⟩
  have eF : sentF bs k (eidT e).bytes = insP bs (k - 1) x := by unfold sentF; rw [hf, hx]
  have eK : sentK bs k = k + 1 := by unfold sentK; rw [hf]
  have xr : x.right = 0 := by
   rw [hx]
   unfold BV.right
   rw [if_neg (by dsimp only; omega), if_neg (by dsimp only; omega), if_neg (by dsimp only; omega)]
  have xt : x.ty = 6 := by rw [hx]
  have xl : x.bytes.length <= 130 := by have := BV.bytes_le xr; rw [hx] at this ⊢; dsimp only at this; omega
  have hc : cntB bs 6 k = 0 := cntB_no (firstOf_no hf)
  obtain ⟨b1, b2⟩ := insP_bok hb xr xt hc (by omega) (fun j hj he => by
   have := firstOf_no n3 j hj
   unfold numB hasNum at this
   rw [hx] at he
   simp at this
   exact this he) (by omega)
  have e1 : insP bs (k - 1) x (k - 1) = x := by unfold insP; rw [if_neg (by omega), if_pos rfl]
  have e2 : insP bs (k - 1) x k = bs (k - 1) := by unfold insP; rw [if_neg (by omega), if_neg (by omega)]
  have hne : firstOf (tyB (insP bs (k - 1) x) 6) (k + 1) ≠ none := fun e => by
   have := firstOf_no e (k - 1) (by omega)
   rw [tyB_yes (by rw [e1]; exact xt)] at this
   cases this
  rw [eF, eK]
  refine ⟨insP bs (k - 1) x, ⟨Lk.refl _ _, b1, by omega, fun j hj => ?_, fun e => absurd e hne⟩, hne, by rw [Nat.add_sub_cancel]; exact e2, by omega, fun t i ht hi => ?_, fun t ht => insP_first k0 la xt (by omega) (by omega)⟩
  .
   by_cases c1 : j = k - 1
   . rw [c1, e1]; exact extB_prev (e := e) xt ho (by rw [hx])
   .
    by_cases c2 : j = k
    . rw [c2, e2]; exact h.ex _ (by omega)
    .
     have : insP bs (k - 1) x j = bs j := by unfold insP; rw [if_pos (by omega)]
     rw [this]; exact h.ex _ (by omega)
  .
   obtain ⟨q1, q2, _⟩ := firstOf_spec hi
   have q2 := tyB_at q2
   have : i ≠ k - 1 := fun e => by rw [e, la] at q2; omega
   unfold insP; rw [if_pos (by omega)]
noncomputable def ageV (bs : Nat -> BV) (k : Nat) : Option Nat := match firstOf (tyB bs 7) k with | some i => ageO (bs i).data | none => none
noncomputable def hopV (bs : Nat -> BV) (k : Nat) : Option (Nat × Nat) := match firstOf (tyB bs 10) k with | some i => hopsO (bs i).data | none => none
theorem St.age {p : PV} {R bs : Nat -> BV} {k : Nat} (h : St p R bs k) {i : Nat} (hf : firstOf (tyB bs 7) k = some i) (h6 : firstOf (tyB bs 6) k ≠ none) {n : Nat} (hn : n <= 1099511627776) : St p R (setP bs i (headL 0 n)) k /\ ageV (setP bs i (headL 0 n)) k = some n /\ hopV (setP bs i (headL 0 n)) k = hopV bs k /\ setP bs i (headL 0 n) (k - 1) = bs (k - 1) /\ firstOf (tyB (setP bs i (headL 0 n)) 6) k ≠ none := by
 obtain ⟨f1, f2, f3⟩ := firstOf_spec hf
 have f2 := tyB_at f2
 have la := h.ok.la
 have := headL_le 0 n
 refine ⟨h.set f1 (.inr (.inl f2)) (by omega) (extB_age (by exact f2) hn rfl) (.inl h6), ?_, ?_, setP_j _ _ (fun e => by rw [e, f2] at la; omega), by rw [setP_ty]; exact h6⟩
 .
  unfold ageV
  rw [setP_ty, hf]
  dsimp only
  rw [setP_i]
  exact ageO_headL hn
 .
  unfold hopV
  rw [setP_ty]
  cases hh : firstOf (tyB bs 10) k with
  | none => rfl
  | some j =>
   dsimp only
   rw [setP_j _ _ (fun e => by have := tyB_at (firstOf_spec hh).2.1; rw [e, f2] at this; omega)]
theorem St.hops {p : PV} {R bs : Nat -> BV} {k : Nat} (h : St p R bs k) {i : Nat} (hf : firstOf (tyB bs 10) k = some i) {l c : Nat} (hm : mayB l c = true) (h6 : firstOf (tyB bs 6) k ≠ none \/ (bunBytes p (setP bs i (130 :: (headL 0 l ++ headL 0 c))) k).length <= 3200 /\ k <= 11) : St p R (setP bs i (130 :: (headL 0 l ++ headL 0 c))) k /\ hopV (setP bs i (130 :: (headL 0 l ++ headL 0 c))) k = some (l, c) /\ ageV (setP bs i (130 :: (headL 0 l ++ headL 0 c))) k = ageV bs k /\ setP bs i (130 :: (headL 0 l ++ headL 0 c)) (k - 1) = bs (k - 1) := by
 obtain ⟨f1, f2, f3⟩ := firstOf_spec hf
 have f2 := tyB_at f2
 have la := h.ok.la
 have b1 := headL_le 0 l
 have b2 := headL_le 0 c
 refine ⟨h.set f1 (.inr (.inr f2)) (by simp; omega) (extB_hops (by exact f2) hm rfl) h6, ?_, ?_, setP_j _ _ (fun e => by rw [e, f2] at la; omega)⟩
 .
  unfold hopV
  rw [setP_ty, hf]
  dsimp only
  rw [setP_i]
  exact hopsO_pair hm
 .
  unfold ageV
  rw [setP_ty]
  cases hh : firstOf (tyB bs 7) k with
  | none => rfl
  | some j =>
   dsimp only
   rw [setP_j _ _ (fun e => by have := tyB_at (firstOf_spec hh).2.1; rw [e, f2] at this; omega)]
end Go.Proofs.YthecmnbkjchjmaaGreat


namespace Go.Proofs.YthecmnbkjchjmaaGreat
open Go.RowKit
set_option linter.unusedVariables false
set_option linter.unusedSimpArgs false

theorem theO_is {α : Type} {P : α -> Prop} {x : α} (h : theO P = some x) : P x := by
 unfold theO at h
 split at h
 .
  rename_i g
  simp only [Option.some.injEq] at h
  rw [<- h]
  exact g.choose_spec
 . cases h
def oldN (n ms : Nat) : Nat := n + min ms (1099511627776 - n)
theorem oldN_le {n ms : Nat} (h : n <= 1099511627776) : oldN n ms <= 1099511627776 := by unfold oldN; omega
noncomputable def agedF (bs : Nat -> BV) (k ms : Nat) : Nat -> BV := match firstOf (tyB bs 7) k with | some i => setP bs i (headL 0 (oldN ((ageO (bs i).data).getD 0) ms)) | none => bs
noncomputable def hopF (bs : Nat -> BV) (k : Nat) : Nat -> BV := match firstOf (tyB bs 10) k with | some i => setP bs i (130 :: (headL 0 ((hopsO (bs i).data).getD (0, 0)).1 ++ headL 0 (((hopsO (bs i).data).getD (0, 0)).2 + 1))) | none => bs
theorem St.age_at {p : PV} {R bs : Nat -> BV} {k : Nat} (h : St p R bs k) {i : Nat} (hf : firstOf (tyB bs 7) k = some i) : ∃ n, ageO (bs i).data = some n /\ n <= 1099511627776 /\ ageV bs k = some n := by
 have f2 := tyB_at (firstOf_spec hf).2.1
 have he := h.ex i (firstOf_spec hf).1
 unfold extB at he
 rw [if_neg (by omega), if_pos f2] at he
 cases ha : ageO (bs i).data with
 | none => rw [ha] at he; cases he
 | some n => exact ⟨n, rfl, (theO_is ha).1, by unfold ageV; rw [hf]; exact ha⟩
theorem St.hop_at {p : PV} {R bs : Nat -> BV} {k : Nat} (h : St p R bs k) {i : Nat} (hf : firstOf (tyB bs 10) k = some i) : ∃ l c, hopsO (bs i).data = some (l, c) /\ mayB l c = true /\ hopV bs k = some (l, c) := by
 have f2 := tyB_at (firstOf_spec hf).2.1
 have he := h.ex i (firstOf_spec hf).1
 unfold extB at he
 rw [if_neg (by omega), if_neg (by omega), if_pos f2] at he
 cases ha : hopsO (bs i).data with
 | none => rw [ha] at he; cases he
 | some n => exact ⟨n.1, n.2, rfl, (theO_is ha).1, by unfold hopV; rw [hf]; exact ha⟩
structure Stepped (p : PV) (bs : Nat -> BV) (k : Nat) (L : List UInt8) (ms : Nat) (R' : Nat -> BV) : Prop where
 s1 : St p R' (sentF bs k L) (sentK bs k)
 s2 : St p R' (agedF (sentF bs k L) (sentK bs k) ms) (sentK bs k)
 s3 : St p R' (hopF (agedF (sentF bs k L) (sentK bs k) ms) (sentK bs k)) (sentK bs k)
 age : ageV (hopF (agedF (sentF bs k L) (sentK bs k) ms) (sentK bs k)) (sentK bs k) = (ageV bs k).map (oldN · ms)
 hop : hopV (hopF (agedF (sentF bs k L) (sentK bs k) ms) (sentK bs k)) (sentK bs k) = (hopV bs k).map (fun h => (h.1, h.2 + 1))
 la : hopF (agedF (sentF bs k L) (sentK bs k) ms) (sentK bs k) (sentK bs k - 1) = bs (k - 1)
 k0 : 0 < sentK bs k
 hop2 : hopV (agedF (sentF bs k L) (sentK bs k) ms) (sentK bs k) = hopV bs k
theorem St.step {p : PV} {R bs : Nat -> BV} {k : Nat} (h : St p R bs k) {e : EV} (ho : e.ok = true) (ms : Nat) (hh : ∀ l c, hopV bs k = some (l, c) -> c < l) : ∃ R', Stepped p bs k (eidT e).bytes ms R' := by
 obtain ⟨R', h1, h6, hla, k0, hat, hfi⟩ := h.sent ho
 have v7 : ageV (sentF bs k (eidT e).bytes) (sentK bs k) = ageV bs k := by
  unfold ageV
  rw [hfi 7 (.inl rfl)]
  cases hf : firstOf (tyB bs 7) k with
  | none => rfl
  | some i => dsimp only; rw [hat 7 i (.inl rfl) hf]
 have v10 : hopV (sentF bs k (eidT e).bytes) (sentK bs k) = hopV bs k := by
  unfold hopV
  rw [hfi 10 (.inr rfl)]
  cases hf : firstOf (tyB bs 10) k with
  | none => rfl
  | some i => dsimp only; rw [hat 10 i (.inr rfl) hf]
 have h2 : St p R' (agedF (sentF bs k (eidT e).bytes) (sentK bs k) ms) (sentK bs k) /\ ageV (agedF (sentF bs k (eidT e).bytes) (sentK bs k) ms) (sentK bs k) = (ageV bs k).map (oldN · ms) /\ hopV (agedF (sentF bs k (eidT e).bytes) (sentK bs k) ms) (sentK bs k) = hopV bs k /\ agedF (sentF bs k (eidT e).bytes) (sentK bs k) ms (sentK bs k - 1) = bs (k - 1) /\ firstOf (tyB (agedF (sentF bs k (eidT e).bytes) (sentK bs k) ms) 6) (sentK bs k) ≠ none := by
  cases hf : firstOf (tyB (sentF bs k (eidT e).bytes) 7) (sentK bs k) with
  | none =>
   have e1 : agedF (sentF bs k (eidT e).bytes) (sentK bs k) ms = sentF bs k (eidT e).bytes := by unfold agedF; rw [hf]
   have e2 : ageV bs k = none := by rw [<- v7]; unfold ageV; rw [hf]
   rw [e1]
   exact ⟨h1, by rw [v7, e2]; rfl, v10, hla, h6⟩
  | some i =>
   obtain ⟨n, a1, a2, a3⟩ := h1.age_at hf
   have e1 : agedF (sentF bs k (eidT e).bytes) (sentK bs k) ms = setP (sentF bs k (eidT e).bytes) i (headL 0 (oldN n ms)) := by unfold agedF; rw [hf]; dsimp only; rw [a1]; rfl
   obtain ⟨b1, b2, b3, b4, b5⟩ := h1.age hf h6 (n := oldN n ms) (oldN_le a2)
   rw [e1]
   exact ⟨b1, by rw [b2, <- v7, a3]; rfl, by rw [b3, v10], by rw [b4, hla], b5⟩
 obtain ⟨B2, hB2⟩ : ∃ B2, agedF (sentF bs k (eidT e).bytes) (sentK bs k) ms = B2 := ⟨_, rfl⟩
 rw [hB2] at h2
 obtain ⟨g1, g2, g3, g4, g5⟩ := h2
 have h3 : St p R' (hopF B2 (sentK bs k)) (sentK bs k) /\ hopV (hopF B2 (sentK bs k)) (sentK bs k) = (hopV bs k).map (fun h => (h.1, h.2 + 1)) /\ ageV (hopF B2 (sentK bs k)) (sentK bs k) = (ageV bs k).map (oldN · ms) /\ hopF B2 (sentK bs k) (sentK bs k - 1) = bs (k - 1) := by
  cases hf : firstOf (tyB B2 10) (sentK bs k) with
  | none =>
   have e1 : hopF B2 (sentK bs k) = B2 := by unfold hopF; rw [hf]
   have e2 : hopV bs k = none := by rw [<- g3]; unfold hopV; rw [hf]
   rw [e1]
   exact ⟨g1, by rw [g3, e2]; rfl, g2, g4⟩
  | some i =>
   obtain ⟨l, c, a1, a2, a3⟩ := g1.hop_at hf
   have e1 : hopF B2 (sentK bs k) = setP B2 i (130 :: (headL 0 l ++ headL 0 (c + 1))) := by unfold hopF; rw [hf]; dsimp only; rw [a1]; rfl
   have hl := hh l c (by rw [<- g3]; exact a3)
   have hm : mayB l ((c + 1 : Nat) : Int) = true := by
    simp [mayB] at a2 ⊢
    omega
   obtain ⟨b1, b2, b3, b4⟩ := g1.hops hf hm (.inl g5)
   rw [e1]
   exact ⟨b1, by rw [b2, <- g3, a3]; rfl, by rw [b3, g2], by rw [b4, g4]⟩
 exact ⟨R', ⟨h1, by rw [hB2]; exact g1, by rw [hB2]; exact h3.1, by rw [hB2]; exact h3.2.2.1, by rw [hB2]; exact h3.2.1, by rw [hB2]; exact h3.2.2.2, k0, by rw [hB2]; exact g3⟩⟩
theorem oldN_min (x ms : Nat) : oldN (min x 1099511627776) ms = min (x + ms) 1099511627776 := by unfold oldN; omega
theorem extR_all {bs : Nat -> BV} {k : Nat} (h : extR bs k = 0) : ∀ i, i < k -> extB (bs i) = true := fun i hi => by
 cases he : extB (bs i) with
 | true => rfl
 | false => rw [extR_no hi he] at h; exact absurd h (by decide)
theorem St.start {p : PV} {bs : Nat -> BV} {k : Nat} (h : bunRight p bs k = 0) (hx : extR bs k = 0) (hk : k <= 11) (hl : (bunBytes p bs k).length <= 3200) : St p bs bs k :=
 ⟨Lk.refl _ _, bok_of h, by omega, extR_all hx, fun _ => ⟨hl, hk⟩⟩
theorem St.limit {p : PV} {bs : Nat -> BV} {k : Nat} (h : bunRight p bs k = 0) (hx : extR bs k = 0) (hk : k <= 11) (hl : (bunBytes p bs k).length <= 3000) {i : Nat} (hf : firstOf (tyB bs 10) k = some i) {n : Nat} (hn : 1 <= n) (hn2 : n <= 255) :
  St p bs (setP bs i (130 :: (headL 0 n ++ headL 0 0))) k /\ hopV (setP bs i (130 :: (headL 0 n ++ headL 0 0))) k = some (n, 0) /\ setP bs i (130 :: (headL 0 n ++ headL 0 0)) (k - 1) = bs (k - 1) := by
 have h0 := St.start h hx hk (by omega)
 obtain ⟨f1, f2, f3⟩ := firstOf_spec hf
 have f2 := tyB_at f2
 have hr := (bok_of h).br i f1
 have b1 := headL_le 0 n
 have b2 := headL_le 0 0
 have hr' : ({ bs i with data := 130 :: (headL 0 n ++ headL 0 0) } : BV).right = 0 := by
  unfold BV.right at hr ⊢
  dsimp only
  split at hr
  . exact absurd hr (by decide)
  rename_i n1
  split at hr
  . exact absurd hr (by decide)
  rw [if_neg n1, if_neg (by simp; omega)]
  exact hr
 have hlen : (bunBytes p (setP bs i (130 :: (headL 0 n ++ headL 0 0))) k).length <= 3200 := by
  have e := bytes_setP (bs := bs) f1 (d := 130 :: (headL 0 n ++ headL 0 0))
  have le := BV.bytes_le hr'
  unfold bunBytes at hl ⊢
  simp only [List.cons_append, List.length_cons, List.length_append] at hl le ⊢
  simp only [List.length_cons, List.length_append] at e
  omega
 have hm : mayB (n : Int) ((0 : Nat) : Int) = true := by simp [mayB]; omega
 obtain ⟨a, b, _, d⟩ := h0.hops hf (l := n) (c := 0) hm (.inr ⟨hlen, hk⟩)
 exact ⟨a, b, d⟩
theorem hopV_none {bs : Nat -> BV} {k : Nat} (h : firstOf (tyB bs 10) k = none) : hopV bs k = none := by unfold hopV; rw [h]
end Go.Proofs.YthecmnbkjchjmaaGreat


namespace Go.Proofs.YthecmnbkjchjmaaGreat
open Go.RowKit
set_option linter.unusedVariables false
set_option linter.unusedSimpArgs false

noncomputable def livedN (t : Nat) (bs : Nat -> BV) (k now : Nat) : Nat := match firstOf (tyB bs 7) k with | some i => (match ageO (bs i).data with | some n => n | none => now - t) | none => now - t
theorem lived_age {t : Nat} {bs : Nat -> BV} {k now i n : Nat} (h : firstOf (tyB bs 7) k = some i) (ha : ageO (bs i).data = some n) : livedN t bs k now = n := by unfold livedN; rw [h]; dsimp only; rw [ha]
theorem lived_bad {t : Nat} {bs : Nat -> BV} {k now i : Nat} (h : firstOf (tyB bs 7) k = some i) (ha : ageO (bs i).data = none) : livedN t bs k now = now - t := by unfold livedN; rw [h]; dsimp only; rw [ha]
theorem lived_none {t : Nat} {bs : Nat -> BV} {k now : Nat} (h : firstOf (tyB bs 7) k = none) : livedN t bs k now = now - t := by unfold livedN; rw [h]
set_option maxRecDepth 20000 in
set_option maxHeartbeats 800000 in
theorem cLived_any (p : PV) (bs : Nat -> BV) (k c : Nat) (A : Option Addr) (now : Nat) (hk : k < 4611686018427387904) (hd : ∀ i, i < k -> (bs i).data.length <= 10000) (hnow : now < 18446744073709551616) (w : World) (h : BsL w A k bs) : Calls Tryz.prog 15 #[bunV p A k c, .int .u64 (now : Int)] w (Ret (.int .u64 ((livedN p.t bs k now : Nat) : Int)) w) := by
 have n0 : (0 : Int) <= (now : Int) := by omega
 have n1 : (now : Int) <= 18446744073709551615 := by omega
 have t0 : (0 : Int) <= (p.t : Int) := by omega
 have KF := hid (fun W (hW : BsL W A k bs) => Find_any p bs k c A 7 hk W hW)
 have KA := hid (fun i (hi : i < k) W => ReadAge_any (bs i).data (by have := hd i hi; omega) W)
 have HE := hid ((Mod.refl [] w).alloc (.cells (bunC p A k c) 29))
 have HB := hid (Blk.new w 29 (bunC p A k c))
 have HL := hid (BsL.ext h HE.out)
 have k1 : (k : Int) < 4611686018427387904 := by omega
 have HK := hid hk
 clear hd hnow
 clear h hk
 go_enter Tryz.func15, Tryz.ntmps15
 go_upto_region 1 with fail
 generalize w.alloc (.cells (bunC p A k c) 29) = V at *
 have b14 : ∀ e : Later V, e.x.cell? ⟨w.heap.size, 14, none⟩ = some (.int .u64 (p.t : Int)) := HB.out.cellL 14 rfl
 have b14a : ∀ (e : Later V) (o : Obj), (e.x.alloc o).cell? ⟨w.heap.size, 14, none⟩ = some (.int .u64 (p.t : Int)) := fun e o => ((HB.out.later e).alloc o).cell 14
 have HBV := HB
 cases hf : firstOf (tyB bs 7) k with
 | none =>
  have HLV := hid (lived_none (t := p.t) (now := now) hf)
  have hI : findV bs 7 k = .tuple #[zeroB.v, .bool false] := by unfold findV; rw [hf]
  rw [hI] at KF
  clear hI hf
  go_upto_region 2 with (first | (refine wpList_row (by rfl) 29 _ rfl _ rfl HBV.out Tryz.underlying29 rfl (by kernel_rfl) ?_) | (go_at_call 42; refine (Ret.laterW (Mod.refl _ _) (KF.out _ HL.out)).mono ?_; rintro x _ ⟨rfl, e, rfl⟩))
  have HT := hid ((Later.h e).alloc (.cells zeroB.c 38))
  by_cases hn : now < p.t
  .
   have g3 : decide (now < p.t) = true := by simp; omega
   have g4 : (now < p.t) = True := by simp; omega
   have HZ : Hid (livedN p.t bs k now = 0) := by unfold Hid; rw [HLV.out]; omega
   clear hn
   go_wp2_with fail
   go_ret
   exact Ret.mk (by first | (rw [HZ.out]; rfl) | (show Value.int .u64 ((now : Int) - min (p.t : Int) (now : Int)) = Value.int .u64 ((livedN p.t bs k now : Nat) : Int); rw [HLV.out]; congr 1; omega)) (HE.out.trans HT.out)
  .
   have g2 : (now < p.t) = False := by simp; omega
   have g3 : (p.t : Int) <= (now : Int) := by omega
   have g4 : decide (now < p.t) = false := by simp; omega
   have HZ : Hid ((now : Int) - (p.t : Int) = ((livedN p.t bs k now : Nat) : Int)) := by unfold Hid; rw [HLV.out]; omega
   clear hn
   go_wp2_with fail
   go_ret
   exact Ret.mk (by first | (rw [<- HZ.out]; rfl) | (show Value.int .u64 ((now : Int) - min (p.t : Int) (now : Int)) = Value.int .u64 ((livedN p.t bs k now : Nat) : Int); rw [HLV.out]; congr 1; omega)) (HE.out.trans HT.out)
 | some i =>
  have hI : findV bs 7 k = .tuple #[(bs i).v, .bool true] := by unfold findV; rw [hf]
  rw [hI] at KF
  obtain ⟨hlt, _, _⟩ := firstOf_spec hf
  have KA1 := hid (KA.out i hlt)
  have HF := hid hf
  clear hI hf hlt
  cases ha : ageO (bs i).data with
  | none =>
   have HLV := hid (lived_bad (t := p.t) (now := now) HF.out ha)
   unfold AgePost at KA1
   rw [ha] at KA1
   clear ha
   go_upto_region 2 with (first | (refine wpList_row (by rfl) 29 _ rfl _ rfl HBV.out Tryz.underlying29 rfl (by kernel_rfl) ?_) | (go_at_call 42; refine (Ret.laterW (Mod.refl _ _) (KF.out _ HL.out)).mono ?_; rintro x _ ⟨rfl, e, rfl⟩))
   go_upto_region 4 with (go_at_call 43; refine (Ret.laterW ((Later.h e).alloc _) (KA1.out _)).mono ?_; rintro x _ ⟨rfl, e1, rfl⟩)
   have HT := hid (e1.h)
   by_cases hn : now < p.t
   .
    have g3 : decide (now < p.t) = true := by simp; omega
    have g4 : (now < p.t) = True := by simp; omega
    have HZ : Hid (livedN p.t bs k now = 0) := by unfold Hid; rw [HLV.out]; omega
    clear hn
    go_wp2_with fail
    go_ret
    exact Ret.mk (by first | (rw [HZ.out]; rfl) | (show Value.int .u64 ((now : Int) - min (p.t : Int) (now : Int)) = Value.int .u64 ((livedN p.t bs k now : Nat) : Int); rw [HLV.out]; congr 1; omega)) (HE.out.trans HT.out)
   .
    have g2 : (now < p.t) = False := by simp; omega
    have g3 : (p.t : Int) <= (now : Int) := by omega
    have g4 : decide (now < p.t) = false := by simp; omega
    have HZ : Hid ((now : Int) - (p.t : Int) = ((livedN p.t bs k now : Nat) : Int)) := by unfold Hid; rw [HLV.out]; omega
    clear hn
    go_wp2_with fail
    go_ret
    exact Ret.mk (by first | (rw [<- HZ.out]; rfl) | (show Value.int .u64 ((now : Int) - min (p.t : Int) (now : Int)) = Value.int .u64 ((livedN p.t bs k now : Nat) : Int); rw [HLV.out]; congr 1; omega)) (HE.out.trans HT.out)
  | some n =>
   have HLV := hid (lived_age (t := p.t) (now := now) HF.out ha)
   unfold AgePost at KA1
   rw [ha] at KA1
   clear ha
   go_upto_region 2 with (first | (refine wpList_row (by rfl) 29 _ rfl _ rfl HBV.out Tryz.underlying29 rfl (by kernel_rfl) ?_) | (go_at_call 42; refine (Ret.laterW (Mod.refl _ _) (KF.out _ HL.out)).mono ?_; rintro x _ ⟨rfl, e, rfl⟩))
   go_upto_region 4 with (go_at_call 43; refine (Ret.laterW ((Later.h e).alloc _) (KA1.out _)).mono ?_; rintro x _ ⟨rfl, e1, rfl⟩)
   go_wp2_with fail
   go_ret
   exact Ret.mk (by rw [HLV.out]; rfl) (HE.out.trans e1.h)
end Go.Proofs.YthecmnbkjchjmaaGreat


namespace Go.Proofs.YthecmnbkjchjmaaGreat
open Go.RowKit
set_option linter.unusedVariables false
set_option linter.unusedSimpArgs false

theorem extB_6 {x : BV} (h : x.ty = 6) : extB x = (prevO x.data).isSome := by unfold extB; rw [if_pos h]
theorem extB_7 {x : BV} (h : x.ty = 7) : extB x = (ageO x.data).isSome := by unfold extB; rw [if_neg (by omega), if_pos h]
theorem extB_10 {x : BV} (h : x.ty = 10) : extB x = (hopsO x.data).isSome := by unfold extB; rw [if_neg (by omega), if_neg (by omega), if_pos h]
set_option maxRecDepth 20000 in
theorem cright_any (x : BV) (hd : x.data.length <= 1073741824) (w : World) : Calls Tryz.prog 79 #[x.v] w (Ret (.int .i64 (if extB x then 0 else 2)) w) := by
 obtain ⟨ty, num, fl, crc, data⟩ := x
 have KP := hid (fun W => (ReadPrev_any data hd W).mono fun _ _ h => h.1)
 have KA := hid (fun W => ReadAge_any data hd W)
 have KH := hid (fun W => readHops_any data hd W)
 have HE := hid ((Mod.refl [] w).alloc (.cells (BV.c ⟨ty, num, fl, crc, data⟩) 38))
 clear hd
 by_cases t6 : ty = 6
 .
  rw [extB_6 t6]
  subst t6
  dsimp only at KP ⊢
  generalize (if (prevO data).isSome = true then (0 : Int) else 2) = N at *
  go_enter Tryz.func79, Tryz.ntmps79
  go_wp2_with fail
  refine (KP.out _).mono ?_
  rintro e w1 ⟨rfl, hb1⟩
  have HE1 := hid (HE.out.trans hb1)
  clear hb1
  go_wp2_with fail
  go_ret
  exact Ret.mk rfl HE1.out
 by_cases t7 : ty = 7
 .
  rw [extB_7 t7]
  unfold AgePost at KA
  subst t7
  dsimp only at KA ⊢
  generalize (if (ageO data).isSome = true then (0 : Int) else 2) = N at *
  go_enter Tryz.func79, Tryz.ntmps79
  go_wp2_with fail
  refine (KA.out _).mono ?_
  rintro e w1 ⟨rfl, hb1⟩
  have HE1 := hid (HE.out.trans hb1)
  clear hb1
  go_wp2_with fail
  go_ret
  exact Ret.mk rfl HE1.out
 by_cases t10 : ty = 10
 .
  rw [extB_10 t10]
  unfold HopsPost at KH
  subst t10
  dsimp only at KH ⊢
  generalize (if (hopsO data).isSome = true then (0 : Int) else 2) = N at *
  go_enter Tryz.func79, Tryz.ntmps79
  go_wp2_with fail
  refine (KH.out _).mono ?_
  rintro e w1 ⟨rfl, hb1⟩
  have HE1 := hid (HE.out.trans hb1)
  clear hb1
  go_wp2_with fail
  go_ret
  exact Ret.mk rfl HE1.out
 have HX : extB ⟨ty, num, fl, crc, data⟩ = true := by unfold extB; rw [if_neg t6, if_neg t7, if_neg t10]
 rw [HX]
 have n6 : (ty == 6) = false := by simpa using t6
 have m6 : (ty = 6) = False := by simpa using t6
 have n7 : (ty == 7) = false := by simpa using t7
 have m7 : (ty = 7) = False := by simpa using t7
 have n10 : (ty == 10) = false := by simpa using t10
 have m10 : (ty = 10) = False := by simpa using t10
 clear t6 t7 t10 HX
 go_enter Tryz.func79, Tryz.ntmps79
 go_wp2_with fail
 go_ret
 exact Ret.mk rfl HE.out
set_option maxRecDepth 20000 in
set_option maxHeartbeats 800000 in
theorem cRightX_any (p : PV) (bs : Nat -> BV) (k c : Nat) (A : Option Addr) (hk : k < 4611686018427387904) (hd : ∀ i, i < k -> (bs i).data.length <= 1073741824) (w : World) (h : BsL w A k bs) : Calls Tryz.prog 60 #[bunV p A k c] w (Ret (.int .i64 (extR bs k)) w) := by
 have KR : Hid (∀ i, i < k -> ∀ W, Calls Tryz.prog 79 #[(bs i).v] W (Ret (.int .i64 (if extB (bs i) then 0 else 2)) W)) := fun i hi W => cright_any (bs i) (hd i hi) W
 have HE := hid ((Mod.refl [] w).alloc (.cells (bunC p A k c) 29))
 have HB := hid (Blk.new w 29 (bunC p A k c))
 have HL := hid (BsL.ext h HE.out)
 have k1 : (k : Int) < 4611686018427387904 := by omega
 have HK := hid hk
 clear hd
 clear h hk
 go_enter Tryz.func60, Tryz.ntmps60
 go_upto_region 1 with fail
 generalize w.alloc (.cells (bunC p A k c) 29) = V at *
 have b19v : V.cell? ⟨w.heap.size, 19, none⟩ = some (.slice A k c) := HB.out.cell 19
 go_wp2_with fail
 clear b19v
 obtain ⟨e0, he0⟩ := Later.self V
 go_loopw [9] (fun s9 wr => ∃ i : Nat, s9 = .int .i64 (i : Int) /\ Hid (i <= k /\ ∀ j, j < i -> extB (bs j) = true) /\ ∃ e : Later V, wr = e.x) (fun s9 _ => k - (intOf s9).toNat)
 case atStart => exact ⟨0, rfl, (show Hid _ from ⟨by omega, fun j hj => by omega⟩), e0, he0⟩
 case round =>
  clear he0 e0
  obtain ⟨i, rfl, hi, e, rfl⟩ := hrel
  have i0 : (0 : Int) <= (i : Int) := by omega
  by_cases hlt : i < k
  .
   obtain ⟨b, o, rfl, hb, q0, q1, q2, q3, q4⟩ := HL.out.cells hlt
   have tc : decide (i < k) = true := by simp [hlt]
   have i1 : (i : Int) < (k : Int) := by omega
   have HLT := hid hlt
   have KR1 := hid (KR.out i hlt)
   clear hlt
   cases hX : extB (bs i) with
   | true =>
    have HX := hid hX
    rw [hX] at KR1
    clear hX
    go_upto_region 5 with (go_at_call 79; refine (Ret.laterW ((Later.h e).alloc _) (KR1.out _)).mono ?_; rintro x _ ⟨rfl, e1, rfl⟩)
    go_wp2_with fail
    go_roundw
    case rel => exact ⟨i + 1, by go_num, (show Hid _ from ⟨HLT.out, fun j hj => by
     by_cases hji : j = i
     . subst hji; exact HX.out
     . exact hi.out.2 j (by omega)⟩), e1, rfl⟩
    case measure => have := HLT.out; simp [intOf]; omega
   | false =>
    have HR := hid (extR_no HLT.out hX)
    rw [hX] at KR1
    clear hX
    go_upto_region 5 with (go_at_call 79; refine (Ret.laterW ((Later.h e).alloc _) (KR1.out _)).mono ?_; rintro x _ ⟨rfl, e1, rfl⟩)
    go_wp2_with fail
    go_ret
    exact Ret.mk (by rw [HR.out]; rfl) (HE.out.trans e1.h)
  .
   obtain rfl : i = k := by have := hi.out.1; omega
   have tc : decide (i < i) = false := by simp
   have HR := hid (extR_yes hi.out.2)
   go_wp2_with fail
   go_ret
   exact Ret.mk (by rw [HR.out]; rfl) (HE.out.trans e.h)
end Go.Proofs.YthecmnbkjchjmaaGreat
