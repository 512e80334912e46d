/-
 Operations, plainly: a sound bundle without one of its security blocks is sound, if that seals no block that signs.
-/
import Derived.Test.YtmckfdmdkljomaaGreatDoorMMixLessCardav
import Derived.Test.YtmckfdmdkljomaaGreatDoorMMixLessCardaw
namespace Go.Proofs.YtmckfdmdkljomaaGreatDoor
open Go.RowKit
set_option linter.unusedVariables false
set_option linter.unusedSimpArgs false
theorem ins_num {bs : Nat -> BV} {i k : Nat} {x : BV} (hi : i <= k) (hd : dupB (insP bs i x) (k + 1) = false) : (∀ j, j < k -> (bs j).num ≠ x.num) /\ dupB bs k = false := by
 rw [dupB_iff] at hd
 have hd : ∀ a b, a < k + 1 -> b < k + 1 -> a ≠ b -> (insP bs i x a).num ≠ (insP bs i x b).num := fun a b ha hb hne => by
  rcases Nat.lt_or_ge a b with h | h
  . exact fun e => hd b a hb h e.symm
  . exact hd a b ha (by omega)
 refine ⟨fun j hj => ?_, ?_⟩
 .
  by_cases h : j < i
  .
   have := hd j i (by omega) (by omega) (by omega)
   rw [insP_at, insP_lt h] at this; exact this
  .
   have := hd (j + 1) i (by omega) (by omega) (by omega)
   rw [insP_at, insP_gt (by omega)] at this; exact this
 .
  rw [dupB_iff]
  intro a b ha hb
  by_cases h1 : a < i
  .
   have := hd a b (by omega) (by omega) (by omega)
   rw [insP_lt h1, insP_lt (by omega)] at this; exact this
  .
   by_cases h2 : b < i
   .
    have := hd (a + 1) b (by omega) (by omega) (by omega)
    rw [insP_gt (by omega), insP_lt h2] at this; exact this
   .
    have := hd (a + 1) (b + 1) (by omega) (by omega) (by omega)
    rw [insP_gt (by omega), insP_gt (by omega)] at this; exact this
theorem del_bok {p : PV} {bs : Nat -> BV} {i k : Nat} {x : BV} (hi : i <= k) (h : BOK p (insP bs i x) (k + 1)) (h1 : x.ty ≠ 1) (h6 : x.ty ≠ 6) (h7 : x.ty ≠ 7) (h10 : x.ty ≠ 10) : BOK p bs k /\ i < k := by
 have hla := h.la
 rw [Nat.add_sub_cancel] at hla
 have hik : i < k := by
  rcases Nat.lt_or_ge i k with hlt | hge
  . exact hlt
  .
   obtain rfl : i = k := by omega
   rw [insP_at] at hla; exact absurd hla h1
 obtain ⟨m, rfl⟩ : ∃ m, k = m + 1 := ⟨k - 1, by omega⟩
 rw [insP_gt (by omega)] at hla
 have hc : ∀ t, x.ty ≠ t -> cntB (insP bs i x) t (m + 1 + 1) = cntB bs t (m + 1) := fun t ht => by rw [insP_cnt t hi, if_neg ht]; rfl
 have hlen : (bunBytes p (insP bs i x) (m + 1 + 1)).length = (bunBytes p bs (m + 1)).length + x.bytes.length := by
  unfold bunBytes
  simp only [List.cons_append, List.length_cons, List.length_append]
  rw [insP_len hi]; omega
 refine ⟨⟨h.pr, fun j hj => ?_, by have := h.k16; omega, by omega, by rw [<- hc 1 h1]; exact h.c1, (ins_num hi h.du).2, by rw [<- hc 6 h6]; exact h.c6, by rw [<- hc 7 h7]; exact h.c7, by rw [<- hc 10 h10]; exact h.c10, by rw [Nat.add_sub_cancel]; exact hla, fun e => by rw [<- hc 7 h7]; exact h.t0 e, fun e => ?_, by have := h.l; omega⟩, hik⟩
 .
  by_cases hji : j < i
  . have := h.br j (by omega); rw [insP_lt hji] at this; exact this
  . have := h.br (j + 1) (by omega); rw [insP_gt (by omega)] at this; exact this
 .
  have := h.fr e
  rw [Nat.add_sub_cancel, insP_gt (by omega)] at this
  rw [Nat.add_sub_cancel]; exact this
theorem tyAt_of {bs : Nat -> BV} {i k : Nat} (hd : dupB bs k = false) (hi : i < k) : tyAt bs k (bs i).num = (bs i).ty /\ (firstOf (numB bs (bs i).num) k).isSome = true := by
 have h : firstOf (numB bs (bs i).num) k = some i := num_first hd hi
 unfold tyAt
 rw [h]
 exact ⟨rfl, rfl⟩
theorem insP_pos {bs : Nat -> BV} {i k : Nat} {x : BV} (hi : i <= k) {j : Nat} (hj : j < k) : ∃ a, a < k + 1 /\ insP bs i x a = bs j := by
 by_cases h : j < i
 . exact ⟨j, by omega, insP_lt h⟩
 . exact ⟨j + 1, by omega, insP_gt (by omega)⟩
theorem less_plain {p : PV} {bs : Nat -> BV} {i k : Nat} {x : BV} (hi : i <= k) (hc : soundF p (insP bs i x) (k + 1) (bunRight p (insP bs i x) (k + 1)) = 0) (ht : x.ty = 11 \/ x.ty = 12) {L : List OV} (hL : opsF (insP bs i x) (k + 1) = some L)
  (hns : ∀ o ∈ L, o.kind = 2 -> o.tgt ≠ x.num) (hs : ∀ o ∈ L, o.num = x.num -> o.kind = 2 -> tyAt (insP bs i x) (k + 1) o.tgt ≠ 11) : soundF p bs k (bunRight p bs k) = 0 := by
 rw [soundF_zero] at hc ⊢
 obtain ⟨hr, L', hL', hw, hru⟩ := hc
 rw [hL] at hL'
 cases hL'
 have hb := bok_of hr
 obtain ⟨hbs, hik⟩ := del_bok hi hb (by omega) (by omega) (by omega) (by omega)
 obtain ⟨hnum, _⟩ := ins_num hi hb.du
 have hxt : tyAt (insP bs i x) (k + 1) x.num = x.ty := by
  have := (tyAt_of (bs := insP bs i x) (i := i) hb.du (by omega)).1
  rw [insP_at] at this; exact this
 have hkd := opsF_kind hL
 rw [rules_iff hkd] at hru
 have hf1 : has p.fl 1 = false := by
  have hsx : (firstOf (fun i_1 => safeT (insP bs i x i_1).ty) (k + 1)).isSome = true := by
   rw [firstSome_iff]
   exact ⟨i, by omega, by show safeT (insP bs i x i).ty = true; rw [insP_at]; unfold safeT; simpa using ht⟩
  rw [hsx, Bool.and_true] at hw; exact hw
 have hgood : ∀ o ∈ L, goodO (insP bs i x) (k + 1) o -> goodO bs k o := fun o ho g => by
  refine (good_ins hi fun e => ?_).1 g
  have hx0 : x.num ≠ 0 := by
   have := (BV.right_zero (hb.br i (by omega))).2.2.1
   rw [insP_at] at this; omega
  rcases hkd o ho with h1 | h2
  .
   have := (g.2.2 h1 (by rw [<- e]; exact hx0)).1
   rw [<- e, hxt] at this
   rcases ht with ht | ht <;> rw [ht] at this <;> exact absurd this (by decide)
  . exact hns o ho h2 e.symm
 obtain ⟨s, g, h1, h2, rfl⟩ := opsF_some hL
 have fin : ∀ l', opsF bs k = some l' -> l'.Sublist (s ++ g) -> bunRight p bs k = 0 /\ ∃ l, opsF bs k = some l /\ (has p.fl 1 && (firstOf (fun i => safeT (bs i).ty) k).isSome) = false /\ rulesB bs k (opN l) l.length = true := fun l' h hsub =>
  ⟨bok_to hbs, l', h, by rw [hf1]; rfl, rules_sub hkd ((rules_iff hkd).2 hru) hsub fun o ho gg => hgood o (hsub.subset ho) gg⟩
 rcases ht with ht | ht
 .
  rcases opsL_ins (typ := 12) (kind := 2) (ctx := 2) (out := fun _ => false) (bs := bs) (x := x) hi with ⟨_, e⟩ | ⟨_, e⟩ | ⟨l1, l2, m, e1, e2, e3⟩
  . rw [h1] at e; cases e
  . rw [h1] at e; cases e
  rw [stepO_skip (.inl (by omega))] at e2
  cases e2
  rw [List.append_nil] at e3
  rw [h1] at e3
  cases e3
  rcases opsL_ins (typ := 11) (kind := 1) (ctx := 1) (out := underB (l1 ++ l2)) (bs := bs) (x := x) hi with ⟨_, e⟩ | ⟨_, e⟩ | ⟨a, b, m, f1, f2, f3⟩
  . rw [h2] at e; cases e
  . rw [h2] at e; cases e
  rw [h2] at f3
  cases f3
  refine fin ((l1 ++ l2) ++ (a ++ b)) (by rw [opsF_eq e1, f1]; rfl) (List.Sublist.append (List.Sublist.refl _) ?_)
  exact List.Sublist.append (List.sublist_append_left _ _) (List.Sublist.refl _)
 .
  rcases opsL_ins (typ := 12) (kind := 2) (ctx := 2) (out := fun _ => false) (bs := bs) (x := x) hi with ⟨_, e⟩ | ⟨_, e⟩ | ⟨l1, l2, m, e1, e2, e3⟩
  . rw [h1] at e; cases e
  . rw [h1] at e; cases e
  rw [h1] at e3
  cases e3
  have hm := stepO_num e2
  rcases opsL_ins (typ := 11) (kind := 1) (ctx := 1) (out := underB (l1 ++ m ++ l2)) (bs := bs) (x := x) hi with ⟨_, e⟩ | ⟨_, e⟩ | ⟨a, b, m2, f1, f2, f3⟩
  . rw [h2] at e; cases e
  . rw [h2] at e; cases e
  rw [stepO_skip (.inl (by omega))] at f2
  cases f2
  rw [h2, List.append_nil] at f3
  cases f3
  have hcg : opsL 11 1 1 (underB (l1 ++ l2)) bs k = opsL 11 1 1 (underB (l1 ++ m ++ l2)) bs k := opsL_congr fun j hj => by
   by_cases hty : (bs j).ty = 11
   .
    have hu : underB m (bs j) = false := by
     rw [<- Bool.not_eq_true, underB_iff]
     rintro ⟨o, ho, _, e⟩
     obtain ⟨q, hq, hqe⟩ := insP_pos (bs := bs) (x := x) hi hj
     have h5 := (tyAt_of (bs := insP bs i x) (i := q) hb.du hq).1
     rw [hqe, <- e, hty] at h5
     exact hs o (by simp [ho]) (hm o ho).1 (hm o ho).2 h5
    have he : underB (l1 ++ l2) (bs j) = underB (l1 ++ m ++ l2) (bs j) := by
     rw [underB_append, underB_append, underB_append, hu, Bool.or_false]
    unfold stepO
    rw [he]
   . rw [stepO_skip (.inl hty), stepO_skip (.inl hty)]
  refine fin ((l1 ++ l2) ++ (a ++ b)) (by rw [opsF_eq e1, hcg, f1]; rfl) (List.Sublist.append ?_ (List.Sublist.refl _))
  exact List.Sublist.append (List.sublist_append_left _ _) (List.Sublist.refl _)
def dupI : List Int -> Bool
 | [] => false
 | t :: l => l.any (fun u => decide (u = t)) || dupI l
theorem dupI_iff {l : List Int} : dupI l = false ↔ l.Pairwise fun a b => a ≠ b := by
 induction l with
 | nil => simp [dupI]
 | cons t l ih =>
  rw [dupI, Bool.or_eq_false_iff, ih, List.pairwise_cons]
  refine and_congr_left fun _ => ?_
  rw [<- Bool.not_eq_true, List.any_eq_true]
  constructor
  . intro h u hu e; exact h ⟨u, hu, by simp [e]⟩
  . rintro h ⟨u, hu, e⟩; simp at e; exact h u hu e.symm
def noneI (bs : Nat -> BV) (k : Nat) (l : List Int) : Bool := l.any fun t => decide (t ≠ 0) && (firstOf (numB bs t) k).isNone
def listedF (bs : Nat -> BV) (k : Nat) (kind : Int) (ts : List Int) : Int :=
 if (kind ≠ 1 /\ kind ≠ 2) \/ ts = [] then 1 else if dupI ts = true then 1 else if noneI bs k ts = true then 15 else 0
def newO (kind num : Int) (ts : List Int) : List OV := ts.map (OV.mk kind num)
def leaveF (kind : Int) (ts : List Int) (o : OV) : Bool := decide (kind = 2) && decide (o.kind = 1) && decide (o.num = ts.headD 0)
def withF (kind num : Int) (ts : List Int) (l : List OV) : List OV := (l ++ newO kind num ts).filter fun o => !leaveF kind ts o
noncomputable def mayF (p : PV) (bs : Nat -> BV) (k : Nat) (right : Int) (kind : Int) (ts : List Int) : Int :=
 if soundF p bs k right ≠ 0 then soundF p bs k right else if listedF bs k kind ts ≠ 0 then listedF bs k kind ts else if has p.fl 1 then 8 else
 if rulesB bs k (opN (withF kind (freeN bs k) ts ((opsF bs k).getD []))) (withF kind (freeN bs k) ts ((opsF bs k).getD [])).length then 0 else 8
theorem newO_kind {kind num : Int} {ts : List Int} : ∀ o ∈ newO kind num ts, o.kind = kind /\ o.num = num /\ o.tgt ∈ ts := by
 intro o ho
 obtain ⟨t, ht, rfl⟩ := List.mem_map.1 ho
 exact ⟨rfl, rfl, ht⟩
def tsL (f : Nat -> Int) (m : Nat) : List Int := (List.range m).map f
theorem tsL_len (f : Nat -> Int) (m : Nat) : (tsL f m).length = m := by unfold tsL; simp
theorem tsL_nil {f : Nat -> Int} {m : Nat} : tsL f m = [] ↔ m = 0 := by
 rw [<- List.length_eq_zero_iff, tsL_len]
def dupAtI (f : Nat -> Int) (i : Nat) : Bool := (firstOf (isN f (f i)) i).isSome
def noneAtI (bs : Nat -> BV) (k : Nat) (f : Nat -> Int) (i : Nat) : Bool := decide (f i ≠ 0) && (firstOf (numB bs (f i)) k).isNone
theorem dupI_f {f : Nat -> Int} {m : Nat} : dupI (tsL f m) = (firstOf (dupAtI f) m).isSome := by
 have key : dupI (tsL f m) = false ↔ (firstOf (dupAtI f) m).isSome = false := by
  rw [dupI_iff, <- Bool.not_eq_true, firstSome_iff, List.pairwise_iff_getElem]
  unfold dupAtI
  simp only [firstSome_iff]
  unfold isN
  constructor
  .
   rintro h ⟨i, hi, j, hj, e⟩
   have := h j i (by rw [tsL_len]; omega) (by rw [tsL_len]; exact hi) hj
   simp [tsL] at this
   simp at e
   exact this e.symm
  .
   intro h i j hi hj hij
   rw [tsL_len] at hi hj
   simp [tsL]
   intro e
   exact h ⟨j, hj, i, hij, by simp [e]⟩
 cases h1 : dupI (tsL f m) <;> cases h2 : (firstOf (dupAtI f) m).isSome
 . rfl
 . rw [h1, h2] at key; exact absurd (key.1 rfl) (by decide)
 . rw [h1, h2] at key; exact absurd (key.2 rfl) (by decide)
 . rfl
theorem noneI_f {bs : Nat -> BV} {k : Nat} {f : Nat -> Int} {m : Nat} : noneI bs k (tsL f m) = (firstOf (noneAtI bs k f) m).isSome := by
 rw [Bool.eq_iff_iff, firstSome_iff]
 unfold noneI noneAtI tsL
 rw [List.any_eq_true]
 constructor
 .
  rintro ⟨t, ht, e⟩
  obtain ⟨i, hi, rfl⟩ := List.mem_map.1 ht
  exact ⟨i, by simpa using hi, e⟩
 .
  rintro ⟨i, hi, e⟩
  exact ⟨f i, List.mem_map.2 ⟨i, by simpa using hi, rfl⟩, e⟩
theorem listed_1 {bs : Nat -> BV} {k : Nat} {kind : Int} {f : Nat -> Int} {m : Nat} (h : (kind ≠ 1 /\ kind ≠ 2) \/ m = 0) : listedF bs k kind (tsL f m) = 1 := by
 unfold listedF
 rw [if_pos (h.imp id tsL_nil.2)]
theorem listed_dup {bs : Nat -> BV} {k : Nat} {kind : Int} {f : Nat -> Int} {m : Nat} (h : ¬ ((kind ≠ 1 /\ kind ≠ 2) \/ m = 0)) (hd : (firstOf (dupAtI f) m).isSome = true) : listedF bs k kind (tsL f m) = 1 := by
 unfold listedF
 rw [if_neg (fun q => h (q.imp id tsL_nil.1)), dupI_f, if_pos hd]
theorem listed_none {bs : Nat -> BV} {k : Nat} {kind : Int} {f : Nat -> Int} {m : Nat} (h : ¬ ((kind ≠ 1 /\ kind ≠ 2) \/ m = 0)) (hd : (firstOf (dupAtI f) m).isSome = false) (hn : (firstOf (noneAtI bs k f) m).isSome = true) : listedF bs k kind (tsL f m) = 15 := by
 unfold listedF
 rw [if_neg (fun q => h (q.imp id tsL_nil.1)), dupI_f, hd, noneI_f, if_neg (by decide), if_pos hn]
theorem listed_ok {bs : Nat -> BV} {k : Nat} {kind : Int} {f : Nat -> Int} {m : Nat} (h : ¬ ((kind ≠ 1 /\ kind ≠ 2) \/ m = 0)) (hd : (firstOf (dupAtI f) m).isSome = false) (hn : (firstOf (noneAtI bs k f) m).isSome = false) : listedF bs k kind (tsL f m) = 0 := by
 unfold listedF
 rw [if_neg (fun q => h (q.imp id tsL_nil.1)), dupI_f, hd, noneI_f, hn, if_neg (by decide), if_neg (by decide)]
set_option maxRecDepth 20000 in
set_option maxHeartbeats 4000000 in
theorem listed_any (p : PV) (bs : Nat -> BV) (k c : Nat) (A : Option Addr) (kind : Int) (At : Option Addr) (f : Nat -> Int) (m ct : Nat) (hk : k < 4611686018427387904) (hm : m <= 1000000) (hmc : m <= ct) (w : World) (h : BsL w A k bs) (hn : NsL w At m f) :
  Calls Tryz.prog 26 #[bunV p A k c, .int .i64 kind, .slice At m ct] w (Ret (.int .i64 (listedF bs k kind (tsL f m))) w) := by
 have KG := hid (fun W t (hW : BsL W A k bs) => Get_any p bs k c A t hk W hW)
 have HE := hid ((Mod.refl [] w).alloc (.cells (bunC p A k c) 29))
 have HB0 : Hid (Blk (w.alloc (.cells (bunC p A k c) 29)) w.heap.size 29 (bunC p A k c)) := hid (Blk.new w 29 (bunC p A k c))
 have HL := hid (BsL.ext h HE.out)
 have HN := hid (hn.ext HE.out)
 have HM := hid hm
 have HMC := hid hmc
 have m1 : (m : Int) <= 1000000 := by omega
 have m0 : (0 : Int) <= (m : Int) := by omega
 clear h hn hk hm hmc
 go_enter Tryz.func26, Tryz.ntmps26
 go_step
 go_cut [3, 6] (fun s3 s6 wx => s3 = .pointer (some ⟨w.heap.size, 0, none⟩) /\ s6 = .int .i64 0 /\ wx = w.alloc (.cells (bunC p A k c) 29))
 case first =>
  go_wp2_with fail
  go_meet
  exact ⟨rfl, rfl, rfl⟩
 obtain ⟨rfl, rfl, rfl⟩ := hcut
 generalize w.alloc (.cells (bunC p A k c) 29) = V at *
 obtain ⟨e, he⟩ := Later.self V
 rw [he]
 clear he
 by_cases h1 : kind ≠ 1 /\ kind ≠ 2
 .
  have HF : Hid (listedF bs k kind (tsL f m) = 1) := hid (listed_1 (.inl h1))
  have a1 := h1.1
  have a2 := h1.2
  have t1 : (kind == 1) = false := by simpa using a1
  have t2 : (kind = 1) = False := eq_false a1
  have t3 : (kind != 1) = true := by simpa using a1
  have u1 : (kind == 2) = false := by simpa using a2
  have u2 : (kind = 2) = False := eq_false a2
  have u3 : (kind != 2) = true := by simpa using a2
  clear h1 a1 a2
  go_wp2_with fail
  go_ret
  exact Ret.mk (by rw [HF.out]; rfl) (HE.out.trans e.h)
 have hkk : kind = 1 \/ kind = 2 := by omega
 rcases Nat.eq_zero_or_pos m with hz | hz
 .
  have HF : Hid (listedF bs k kind (tsL f m) = 1) := hid (listed_1 (.inr hz))
  subst hz
  clear h1
  rcases hkk with rfl | rfl
  .
   go_wp2_with fail
   go_ret
   exact Ret.mk (by rw [HF.out]; rfl) (HE.out.trans e.h)
  .
   go_wp2_with fail
   go_ret
   exact Ret.mk (by rw [HF.out]; rfl) (HE.out.trans e.h)
 have HG : Hid (¬ ((kind ≠ 1 /\ kind ≠ 2) \/ m = 0)) := hid (by rintro (q | q); exact h1 q; omega)
 have z1 : ((m : Int) == 0) = false := by rw [beq_eq_false_iff_ne]; omega
 have z2 : ((m : Int) = 0) = False := eq_false (by omega)
 have z3 : (m = 0) = False := eq_false (by omega)
 have z4 : decide (m = 0) = false := decide_eq_false (by omega)
 clear h1 hz
 go_step
 go_step
 go_cut [] (fun wx => ∃ e : Later V, wx = e.x)
 case first =>
  rcases hkk with rfl | rfl
  .
   go_wp2_with fail
   go_meet
   exact ⟨e, rfl⟩
  .
   go_wp2_with fail
   go_meet
   exact ⟨e, rfl⟩
 clear z1 z2 z3 z4 hkk
 obtain ⟨e, rfl⟩ := hcut
 go_upto_region 3 with fail
 go_wp2_with fail
 go_loopw [26] (fun s wr => ∃ i : Nat, s = .int .i64 (i : Int) /\ Hid (i <= m /\ ∀ j, j < i -> dupAtI f j = false) /\ ∃ e : Later V, wr = e.x) (fun s _ => m - (intOf s).toNat)
 case atStart => exact ⟨0, rfl, (show Hid _ from ⟨by omega, fun j hj => by omega⟩), e, rfl⟩
 case round =>
  clear e
  obtain ⟨i, rfl, hi, e, rfl⟩ := hrel
  have i0 : (0 : Int) <= (i : Int) := by omega
  by_cases hlt : i < m
  .
   obtain ⟨b, o, rfl, hb, hc⟩ := HN.out (by omega)
   have c0 : ∀ e : Later V, e.x.cell? ⟨b, o + i, none⟩ = some (.int .i64 (f i)) := cellL (hc i hlt)
   have tc : decide (i < m) = true := by simp [hlt]
   have i1 : (i : Int) < (m : Int) := by omega
   have i2 : (i : Int) <= (ct : Int) := by have := HMC.out; omega
   have i3 : i <= ct := by have := HMC.out; omega
   have HLT := hid hlt
   have KN := hid (fun e : Later V => ContainsN_any (some ⟨b, o, none⟩) f i ct (f i) (by have := HM.out; omega) e.x ((HN.out.ext e.h).take (by omega)))
   clear hlt hc hb
   cases hd : (firstOf (isN f (f i)) i).isSome with
   | true =>
    rw [hd] at KN
    have HF : Hid (listedF bs k kind (tsL f m) = 1) := hid (listed_dup HG.out (by rw [firstOf_some HLT.out hd hi.out.2]; rfl))
    clear hd
    go_wp2_with (go_at_call 52; refine (Ret.later (KN.out _)).mono ?_; rintro y _ ⟨rfl, e, rfl⟩)
    go_ret
    exact Ret.mk (by rw [HF.out]; rfl) (HE.out.trans e.h)
   | false =>
    rw [hd] at KN
    have HD : Hid (dupAtI f i = false) := hid hd
    clear hd
    go_wp2_with (go_at_call 52; refine (Ret.later (KN.out _)).mono ?_; rintro y _ ⟨rfl, e, rfl⟩)
    go_roundw
    case rel => exact ⟨i + 1, by go_num, (show Hid _ from ⟨HLT.out, fun j hj => by
     by_cases hji : j = i
     . subst hji; exact HD.out
     . exact hi.out.2 j (by omega)⟩), e, rfl⟩
    case measure => have := HLT.out; simp [intOf]; omega
  .
   have hin : i = m := by have := hi.out.1; omega
   have HND : Hid ((firstOf (dupAtI f) m).isSome = false) := hid (by rw [firstOf_none (fun j hj => hi.out.2 j (by omega))]; rfl)
   have tc : decide (i < m) = false := by simp [hin]
   have tc2 : decide ((i : Int) < (m : Int)) = false := by simp [hin]
   clear hin hlt hi
   go_wp2_with fail
   go_loopw [39] (fun s wr => ∃ i : Nat, s = .int .i64 (i : Int) /\ Hid (i <= m /\ ∀ j, j < i -> noneAtI bs k f j = false) /\ ∃ e : Later V, wr = e.x) (fun s _ => m - (intOf s).toNat)
   case atStart => exact ⟨0, rfl, (show Hid _ from ⟨by omega, fun j hj => by omega⟩), e, rfl⟩
   case round =>
    clear e tc tc2
    obtain ⟨i, rfl, hi, e, rfl⟩ := hrel
    have i0 : (0 : Int) <= (i : Int) := by omega
    by_cases hlt : i < m
    .
     obtain ⟨b, o, rfl, hb, hc⟩ := HN.out (by omega)
     have c0 : ∀ e : Later V, e.x.cell? ⟨b, o + i, none⟩ = some (.int .i64 (f i)) := cellL (hc i hlt)
     have tc : decide (i < m) = true := by simp [hlt]
     have i1 : (i : Int) < (m : Int) := by omega
     have HLT := hid hlt
     clear hlt hc hb
     obtain ⟨t, ht⟩ : ∃ t, f i = t := ⟨_, rfl⟩
     rw [ht] at c0
     have HT := hid ht
     clear ht
     have KG1 := hid (fun W hW => KG.out W t hW)
     have tk1 : True := trivial
     cases hf : firstOf (numB bs t) k with
     | some j =>
      have hI : getV bs t k = .tuple #[(bs j).v, .bool true] := by unfold getV; rw [hf]
      rw [hI] at KG1
      have HNN : Hid (noneAtI bs k f i = false) := hid (by unfold noneAtI; rw [HT.out, hf]; simp)
      clear hf hI
      go_upto_region 13 with (first | (clear tk1; refine wpList_row (by rfl) 29 _ rfl _ rfl (HB0.out.later _) vqA rfl (by kernel_rfl) ?_) | (go_at_call 53; refine (Ret.later (KG1.out _ (HL.out.ext (Later.h _)))).mono ?_; rintro y _ ⟨rfl, e, rfl⟩))
      go_wp2_with fail
      go_roundw
      case rel => exact ⟨i + 1, by go_num, (show Hid _ from ⟨HLT.out, fun j hj => by
       by_cases hji : j = i
       . subst hji; exact HNN.out
       . exact hi.out.2 j (by omega)⟩), Later.go ⟨V, Mod.refl _ _⟩ (e.h.alloc _)⟩
      case measure => have := HLT.out; simp [intOf]; omega
     | none =>
      have hI : getV bs t k = .tuple #[zeroB.v, .bool false] := by unfold getV; rw [hf]
      rw [hI] at KG1
      by_cases hz : t = 0
      .
       have HNN : Hid (noneAtI bs k f i = false) := hid (by unfold noneAtI; rw [HT.out]; simp [hz])
       have v1 : (t == 0) = true := by simpa using hz
       have v2 : (t = 0) = True := eq_true hz
       have v3 : (t != 0) = false := by simpa using hz
       clear hf hI hz
       go_upto_region 13 with (first | (clear tk1; refine wpList_row (by rfl) 29 _ rfl _ rfl (HB0.out.later _) vqA rfl (by kernel_rfl) ?_) | (go_at_call 53; refine (Ret.later (KG1.out _ (HL.out.ext (Later.h _)))).mono ?_; rintro y _ ⟨rfl, e, rfl⟩))
       go_wp2_with fail
       go_roundw
       case rel => exact ⟨i + 1, by go_num, (show Hid _ from ⟨HLT.out, fun j hj => by
        by_cases hji : j = i
        . subst hji; exact HNN.out
        . exact hi.out.2 j (by omega)⟩), Later.go ⟨V, Mod.refl _ _⟩ (e.h.alloc _)⟩
       case measure => have := HLT.out; simp [intOf]; omega
      .
       have HF : Hid (listedF bs k kind (tsL f m) = 15) := hid (listed_none HG.out HND.out (by rw [firstOf_some HLT.out (by unfold noneAtI; rw [HT.out, hf]; simp [hz]) hi.out.2]; rfl))
       have v1 : (t == 0) = false := by simpa using hz
       have v2 : (t = 0) = False := eq_false hz
       have v3 : (t != 0) = true := by simpa using hz
       clear hf hI hz
       go_upto_region 13 with (first | (clear tk1; refine wpList_row (by rfl) 29 _ rfl _ rfl (HB0.out.later _) vqA rfl (by kernel_rfl) ?_) | (go_at_call 53; refine (Ret.later (KG1.out _ (HL.out.ext (Later.h _)))).mono ?_; rintro y _ ⟨rfl, e, rfl⟩))
       go_wp2_with fail
       go_ret
       exact Ret.mk (by rw [HF.out]; rfl) (HE.out.trans (e.h.alloc _))
    .
     have hin : i = m := by have := hi.out.1; omega
     have HF : Hid (listedF bs k kind (tsL f m) = 0) := hid (listed_ok HG.out HND.out (by rw [firstOf_none (fun j hj => hi.out.2 j (by omega))]; rfl))
     have tc : decide (i < m) = false := by simp [hin]
     have tc2 : decide ((i : Int) < (m : Int)) = false := by simp [hin]
     clear hin hlt hi
     go_wp2_with fail
     go_ret
     exact Ret.mk (by rw [HF.out]; rfl) (HE.out.trans e.h)
theorem pl_size_le {p : PL} {n : Nat} (hk : p.k <= n) (h : ∀ i, i < p.k -> (p.a i).t.size <= 1000) : (plT p).size <= 1 + n * 1002 := by
 unfold plT T.size
 have := sum_le_each (f := fun i => (pairT (p.a i)).size) (B := 1002) (k := p.k) (fun i hi => by have := pair_size (p := p.a i); have := h i hi; show (pairT (p.a i)).size <= _; omega)
 have h2 : p.k * 1002 <= n * 1002 := Nat.mul_le_mul_right _ hk
 show 1 + 0 + T.sum (fun i => (pairT (p.a i)).size) p.k <= 1 + n * 1002
 omega
def tagP (r : List UInt8) : PL := ⟨1, fun _ => ⟨1, strT r⟩⟩
def textA (kind : Int) (f : Nat -> Int) (m : Nat) (r : List UInt8) : AV := ⟨m, f, kind, ⟨2, [], 1, 0⟩, zeroA.ps, m, fun _ => tagP r⟩
def textR (kind : Int) (f : Nat -> Int) (m : Nat) (r : List UInt8) : List UInt8 := if (textA kind f m r).shaped = true then (textA kind f m r).bytes else r
theorem textA_wf {kind : Int} {f : Nat -> Int} {m : Nat} {r : List UInt8} (hk : -9223372036854775808 <= kind /\ kind <= 9223372036854775807) (hm : m <= 1000) (hf : ∀ i, i < m -> -9223372036854775808 <= f i /\ f i <= 9223372036854775807) (hr : r.length <= 900) : (textA kind f m r).wf := by
 refine ⟨⟨by show m < _; omega, hf⟩, hk, by simp [textA], ⟨by simp [textA, zeroA], fun i hi => absurd hi (by simp [textA, zeroA])⟩, by show m < _; omega, fun i hi => ⟨by simp [textA, tagP], fun j hj => ⟨str_ok (by omega), by simp [textA, tagP]⟩⟩⟩
theorem tag_size (r : List UInt8) (hr : r.length <= 900) : (strT r).size <= 1000 := by
 unfold strT T.size T.sum
 omega
theorem textA_small {kind : Int} {f : Nat -> Int} {m : Nat} {r : List UInt8} (hm : m <= 90) (hr : r.length <= 900) : (textA kind f m r).small := by
 refine ⟨by have := pl_size_le (p := zeroA.ps) (n := 0) (by simp [zeroA]) (fun i hi => absurd hi (by simp [zeroA])); show (plT zeroA.ps).size <= _; omega, ?_⟩
 have h1 : ∀ _ : Nat, (plT (tagP r)).size <= 1003 := fun _ => pl_size_le (p := tagP r) (n := 1) (by simp [tagP]) (fun i hi => tag_size r hr)
 show (rsT m fun _ => tagP r).size <= _
 unfold rsT T.size
 have : ∀ k, T.sum (fun _ => (plT (tagP r)).size) k <= k * 1003 := by
  intro k
  induction k with
  | zero => simp [T.sum]
  | succ k ih => rw [T.sum]; have := h1 0; omega
 have := this m
 simp only [List.length_nil]
 omega
set_option maxRecDepth 20000 in
set_option maxHeartbeats 8000000 in
theorem Text_any (kind : Int) (At : Option Addr) (f : Nat -> Int) (m ct : Nat) (r : List UInt8) (hk : -9223372036854775808 <= kind /\ kind <= 9223372036854775807) (hm : m <= 90) (hf : ∀ i, i < m -> -9223372036854775808 <= f i /\ f i <= 9223372036854775807) (hr : r.length <= 900) (w : World) (hn : NsL w At m f) :
  Calls Tryz.prog 15 #[.int .i64 kind, .slice At m ct, str r] w (Ret (str (textR kind f m r)) w) := by
 have HWF := hid (textA_wf (kind := kind) (f := f) (m := m) (r := r) hk (by omega) hf hr)
 have HSM := hid (textA_small (kind := kind) (f := f) (m := m) (r := r) hm hr)
 have HN := hid hn
 have HM := hid hm
 have m9 : (m : Int) <= 90 := by omega
 have HRL := hid hr
 clear hk hf hn hm hr
 go_enter Tryz.func15, Tryz.ntmps15
 go_upto_region 2 with fail
 have HB0 : Hid (Blk (w.alloc (.cells #[.slice At m ct, .int .i64 kind, .int .i64 2, str [], .int .u64 1, .int .u64 0, .slice none 0 0, .slice none 0 0] 65)) w.heap.size 65 #[.slice At m ct, .int .i64 kind, .int .i64 2, str [], .int .u64 1, .int .u64 0, .slice none 0 0, .slice none 0 0]) := hid (Blk.new w 65 #[.slice At m ct, .int .i64 kind, .int .i64 2, str [], .int .u64 1, .int .u64 0, .slice none 0 0, .slice none 0 0])
 have HE := hid ((Mod.refl [] w).alloc (.cells #[.slice At m ct, .int .i64 kind, .int .i64 2, str [], .int .u64 1, .int .u64 0, .slice none 0 0, .slice none 0 0] 65))
 have HVS : Hid (w.heap.size < (w.alloc (.cells #[.slice At m ct, .int .i64 kind, .int .i64 2, str [], .int .u64 1, .int .u64 0, .slice none 0 0, .slice none 0 0] 65)).heap.size) := hid HB0.out.lt
 generalize w.alloc (.cells _ 65) = V at *
 go_wp2_with fail
 have HX0 : Hid (Ext w V) := hid HE.out
 have HR0 : Hid (RwG resH 62 V (fun b => V.heap.size <= b) V.heap.size none 0 0 (fun _ => tagP r) (fun _ => (none, 0))) := hid RwG.nil
 go_loopw [8] (fun s8 wr => ∃ (i : Nat) (A' : Option Addr) (c' : Nat) (ac : Nat -> Option Addr × Nat), s8 = .int .i64 (i : Int) /\ Hid (i <= m /\ Ext w wr /\ V.heap.size <= wr.heap.size /\ Blk wr w.heap.size 65 #[.slice At m ct, .int .i64 kind, .int .i64 2, str [], .int .u64 1, .int .u64 0, .slice none 0 0, .slice A' i c'] /\ RwG resH 62 wr (fun b => V.heap.size <= b) V.heap.size A' c' i (fun _ => tagP r) ac)) (fun s8 _ => m - (intOf s8).toNat)
 case atStart => exact ⟨0, none, 0, _, rfl, hid ⟨Nat.zero_le _, HX0.out, Nat.le_refl _, HB0.out, HR0.out⟩⟩
 case round =>
  clear HX0 HR0 HB0
  obtain ⟨i, A', c', ac, rfl, hS⟩ := hrel
  rename World => wr
  have i0 : (0 : Int) <= (i : Int) := by omega
  by_cases hlt : i < m
  .
   have tc : decide (i < m) = true := by simp [hlt]
   have i1 : (i : Int) < (m : Int) := by omega
   have y7 : wr.cell? ⟨w.heap.size, 7, none⟩ = some (.slice A' i c') := hS.out.2.2.2.1.cell 7
   have HLT := hid hlt
   clear hlt
   obtain ⟨ib, hi, hz0, hz1, hz2⟩ := info_parts infoPairs
   have hE1 : Ext wr (wr.alloc (.cells #[.int .i64 1, .int .i64 2, .int .u64 0, str r, .slice none 0 0, .bool false] 70)) := (Mod.refl [] _).alloc _
   have hP1 : Blk (wr.alloc (.cells #[.int .i64 1, .int .i64 2, .int .u64 0, str r, .slice none 0 0, .bool false] 70)) wr.heap.size 70 #[.int .i64 1, .int .i64 2, .int .u64 0, str r, .slice none 0 0, .bool false] := Blk.new _ _ _
   have hE2 : Ext wr ((wr.alloc (.cells #[.int .i64 1, .int .i64 2, .int .u64 0, str r, .slice none 0 0, .bool false] 70)).alloc (.cells #[.slice (some ⟨wr.heap.size, 0, none⟩) 1 1] 62)) := hE1.alloc _
   have HP2 : Hid (Blk ((wr.alloc (.cells #[.int .i64 1, .int .i64 2, .int .u64 0, str r, .slice none 0 0, .bool false] 70)).alloc (.cells #[.slice (some ⟨wr.heap.size, 0, none⟩) 1 1] 62)) wr.heap.size 70 #[.int .i64 1, .int .i64 2, .int .u64 0, str r, .slice none 0 0, .bool false]) := hid (hP1.alloc (.cells #[.slice (some ⟨wr.heap.size, 0, none⟩) 1 1] 62))
   have HQ2 : Hid (Blk ((wr.alloc (.cells #[.int .i64 1, .int .i64 2, .int .u64 0, str r, .slice none 0 0, .bool false] 70)).alloc (.cells #[.slice (some ⟨wr.heap.size, 0, none⟩) 1 1] 62)) (wr.heap.size + 1) 62 #[.slice (some ⟨wr.heap.size, 0, none⟩) 1 1]) := hid (Blk.newL (wr.alloc (.cells #[.int .i64 1, .int .i64 2, .int .u64 0, str r, .slice none 0 0, .bool false] 70)) 62 #[.slice (some ⟨wr.heap.size, 0, none⟩) 1 1] (by simp))
   have HR2 := hid (hS.out.2.2.2.2.ext hE2)
   have HE2 := hid (hS.out.2.1.trans hE2)
   have HB2 := hid (hS.out.2.2.2.1.ext hE2)
   have HI2 : Hid (resH.hang ((wr.alloc (.cells #[.int .i64 1, .int .i64 2, .int .u64 0, str r, .slice none 0 0, .bool false] 70)).alloc (.cells #[.slice (some ⟨wr.heap.size, 0, none⟩) 1 1] 62)) (fun b => V.heap.size <= b /\ offA A' b) (tagP r) (some ⟨wr.heap.size, 0, none⟩, 1)) := hid ⟨fun _ => ⟨wr.heap.size, 0, rfl, HP2.out.lt, ⟨hS.out.2.2.1, fun g hg => by have := (hS.out.2.2.2.2.off g hg).2; omega⟩, fun j hj => by
    have hj0 : j = 0 := by have hj : j < 1 := hj; omega
    subst hj0
    refine ⟨none, 0, ⟨?_, ?_, ?_, ?_, ?_, ?_⟩, fun h0 => absurd h0 (Nat.lt_irrefl 0)⟩
    . exact HP2.out.cell 0
    . exact HP2.out.cell 1
    . exact HP2.out.cell 2
    . exact HP2.out.cell 3
    . exact HP2.out.cell 4
    . exact HP2.out.cell 5⟩, Nat.le_refl 1⟩
   have HSZ := hid hS.out.2.2.1
   clear hE1 hP1 hE2 hS
   go_wp2_with (at_builtin; refine wpList_append_lies _ rfl _ _ 63 rfl V.heap.size 62 ib _ 1 24 Tryz.underlying63 hi hz0 hz1 hz2 rfl (by decide) _ i _ (by rfl) HR2.out.own ⟨wr.heap.size + 1, 0, none⟩ 1 1 [.slice (some ⟨wr.heap.size, 0, none⟩) 1 1] (by rfl) (by rfl) (fun j u hu => by rw [addr_add, Nat.zero_add, HQ2.out.cell j]; simpa using hu) (by intro u hu; simp at hu; subst hu; rfl) (by decide) (by have := HLT.out; have := HM.out; unfold maxLen; omega) (by have := HLT.out; have := HM.out; omega) (by have := HSZ.out; simp; omega) (wr.heap.size + 1 + 1) (by simp) ?_; intro g' cp' w4 hown' hgr' hat' hlt'; obtain ⟨ac', hR5⟩ := HR2.out.append HI2.out rfl hown' hgr' (by simpa using hat'); have HM5 := hid (grown_obs hgr'); have HR5 := hid hR5; have HNB : Hid (w.heap.size ∉ obs A') := hid (fun hb => by cases A' with | none => cases hb | some g => (have h1 := (HR2.out.off g rfl).1; have h2 := HVS.out; simp [obs] at hb; omega)); have HB4 := hid (HB2.out.mod HM5.out HNB.out); have y7f : w4.frozen? ⟨w.heap.size, 7, none⟩ = false := HB4.out.frozen 7; have y7s : w4.cell? ⟨w.heap.size, 7, none⟩ = some (.slice A' i c') := HB4.out.cell 7; clear hown' hgr' hat' hlt' hR5)
   generalize hZ : World.setCell w4 _ _ = Z
   have HBZ : Hid (Blk Z w.heap.size 65 #[.slice At m ct, .int .i64 kind, .int .i64 2, str [], .int .u64 1, .int .u64 0, .slice none 0 0, .slice (some ⟨g', 0, none⟩) (i + 1) cp']) := hid (by rw [<- hZ]; exact HB4.out.set_ 7 _)
   have HMZ : Hid (Mod [w.heap.size] w4 Z) := hid (by rw [<- hZ]; exact (Mod.refl _ _).setCell (.inl (by simp)) _)
   have HRZ : Hid (RwG resH 62 Z (fun b => V.heap.size <= b) V.heap.size (some ⟨g', 0, none⟩) cp' (i + 1) (fun _ => tagP r) ac') := hid (HR5.out.modQ HMZ.out (fun g hg => by have h1 := (HR5.out.off g hg).1; have h2 := HVS.out; simp; omega) (fun k hk _ => by have h2 := HVS.out; simp; omega))
   clear hZ
   have HEZ : Hid (Ext w Z) := hid (((HE2.out.of_ext (S := w.heap.size :: obs A')).trans (HM5.out.mono (by simp; exact fun a h => .inr h))).trans (HMZ.out.mono (by simp)) |>.new (fun kk hkk => .inr (by
    rcases List.mem_cons.1 hkk with h | h
    . omega
    .
     cases A' with
     | none => cases h
     | some g => have := (HR2.out.off g rfl).1; have := HVS.out; simp [obs] at h; omega)))
   have HZS : Hid (V.heap.size <= Z.heap.size) := hid (by have h1 := HM5.out.size; have h2 := HMZ.out.size; have := HSZ.out; simp at h1; omega)
   go_roundw
   case rel => exact ⟨i + 1, some ⟨g', 0, none⟩, cp', ac', by go_num, hid ⟨HLT.out, HEZ.out, HZS.out, HBZ.out, HRZ.out⟩⟩
   case measure => have := HLT.out; simp [intOf]; omega
  .
   obtain rfl : i = m := by have := hS.out.1; omega
   have tc : decide (i < i) = false := by simp
   clear hlt
   have HEW := hid hS.out.2.1
   have HBW := hid hS.out.2.2.2.1
   have HAS : Hid (AsL wr anyQ (textA kind f i r) ⟨At, ct, none, 0, A', c'⟩) := hid ⟨HN.out.ext HEW.out, fun _ _ _ _ => trivial, fun h => absurd h (Nat.lt_irrefl 0), (hS.out.2.2.2.2.rs (fun _ hb => hb)).weak (fun _ _ _ => trivial)⟩
   have hC : Hid (asbC (textA kind f i r) ⟨At, ct, none, 0, A', c'⟩ = #[.slice At i ct, .int .i64 kind, .int .i64 2, str [], .int .u64 1, .int .u64 0, .slice none 0 0, .slice A' i c']) := hid rfl
   have KSH : Hid (∀ e : Later wr, Calls Tryz.prog 36 #[.agg #[.slice At i ct, .int .i64 kind, .int .i64 2, str [], .int .u64 1, .int .u64 0, .slice none 0 0, .slice A' i c']] e.x (Ret (.bool (textA kind f i r).shaped) e.x)) := hid (fun e => by rw [<- hC.out]; exact r15Shaped_any (textA kind f i r) HWF.out ⟨At, ct, none, 0, A', c'⟩ e.x (HAS.out.ext e.h))
   have KBY : Hid (∀ e : Later wr, (textA kind f i r).shaped = true -> Calls Tryz.prog 37 #[.agg #[.slice At i ct, .int .i64 kind, .int .i64 2, str [], .int .u64 1, .int .u64 0, .slice none 0 0, .slice A' i c']] e.x (Ret (str (textA kind f i r).bytes) e.x)) := hid (fun e hs => by rw [<- hC.out]; exact r15Bytes_any (textA kind f i r) HWF.out HSM.out hs ⟨At, ct, none, 0, A', c'⟩ e.x (HAS.out.ext e.h))
   have HBL : Hid (∀ e : Later wr, Blk e.x w.heap.size 65 #[.slice At i ct, .int .i64 kind, .int .i64 2, str [], .int .u64 1, .int .u64 0, .slice none 0 0, .slice A' i c']) := hid (fun e => HBW.out.later e)
   clear hS HAS
   obtain ⟨e, he⟩ := Later.self wr
   rw [he]
   clear he
   have tk1 : True := trivial
   have tk2 : True := trivial
   cases hs : (textA kind f i r).shaped with
   | false =>
    rw [hs] at KSH
    have HF : Hid (textR kind f i r = r) := hid (by unfold textR; rw [hs]; rfl)
    clear hs KBY
    go_wp2_with (first | (clear tk1; refine wpList_row (by rfl) 65 _ rfl _ rfl (HBL.out _) vqB rfl (by kernel_rfl) ?_) | (go_at_call 36; refine (Ret.later (KSH.out _)).mono ?_; rintro y _ ⟨rfl, e, rfl⟩))
    go_ret
    exact Ret.mk (by rw [HF.out]; rfl) (HEW.out.trans e.h)
   | true =>
    rw [hs] at KSH
    have HF : Hid (textR kind f i r = (textA kind f i r).bytes) := hid (by unfold textR; rw [hs]; rfl)
    have KBY : Hid (∀ e : Later wr, Calls Tryz.prog 37 #[.agg #[.slice At i ct, .int .i64 kind, .int .i64 2, str [], .int .u64 1, .int .u64 0, .slice none 0 0, .slice A' i c']] e.x (Ret (str (textA kind f i r).bytes) e.x)) := hid (fun e => KBY.out e hs)
    clear hs
    generalize (textA kind f i r).bytes = BB at *
    go_wp2_with (first | (clear tk1; refine wpList_row (by rfl) 65 _ rfl _ rfl (HBL.out _) vqB rfl (by kernel_rfl) ?_) | (go_at_call 36; refine (Ret.later (KSH.out _)).mono ?_; rintro y _ ⟨rfl, e, rfl⟩) | (clear tk2; refine wpList_row (by rfl) 65 _ rfl _ rfl (HBL.out _) vqB rfl (by kernel_rfl) ?_) | (go_at_call 37; refine (Ret.later (KBY.out _)).mono ?_; rintro y _ ⟨rfl, e, rfl⟩))
    go_ret
    exact Ret.mk (by rw [HF.out]; rfl) (HEW.out.trans e.h)
def someP7 : PV := ⟨0, 0, ⟨2, [], 2, 0⟩, ⟨2, [], 1, 0⟩, ⟨1, [110, 111, 110, 101], 0, 0⟩, 5, 0, 100, 0, 0⟩
def someD7 : List UInt8 := textR 1 (fun _ => 1) 1 [116]
def someB7 (i : Nat) : BV := if i = 0 then ⟨11, 2, 0, 0, someD7⟩ else ⟨1, 1, 0, 0, [104, 105]⟩
def Some7 (w : World) (e : Ending) (w' : World) : Prop := ∃ g, e = .returned (bunV someP7 (some ⟨g, 0, none⟩) 2 2) /\ Ext w w' /\ BsL w' (some ⟨g, 0, none⟩) 2 someB7
set_option maxRecDepth 20000 in
set_option maxHeartbeats 4000000 in
theorem some7_any (w : World) : Calls Tryz.prog 24 #[] w (Some7 w) := by
 have HE := hid ((Mod.refl [] w).alloc (.cells #[.int .u64 0, .int .i64 0, .int .i64 0, .string ⟨#[]⟩, .int .u64 0, .int .u64 0, .int .i64 0, .string ⟨#[]⟩, .int .u64 0, .int .u64 0, .int .i64 0, .string ⟨#[]⟩, .int .u64 0, .int .u64 0, .int .u64 0, .int .u64 0, .int .u64 0, .int .u64 0, .int .u64 0, .slice none 0 0] 29))
 have HR := hid (Blk.new w 29 #[.int .u64 0, .int .i64 0, .int .i64 0, .string ⟨#[]⟩, .int .u64 0, .int .u64 0, .int .i64 0, .string ⟨#[]⟩, .int .u64 0, .int .u64 0, .int .i64 0, .string ⟨#[]⟩, .int .u64 0, .int .u64 0, .int .u64 0, .int .u64 0, .int .u64 0, .int .u64 0, .int .u64 0, .slice none 0 0])
 go_enter Tryz.func24, Tryz.ntmps24
 go_upto_region 1 with fail
 generalize w.alloc (.cells #[.int .u64 0, .int .i64 0, .int .i64 0, .string ⟨#[]⟩, .int .u64 0, .int .u64 0, .int .i64 0, .string ⟨#[]⟩, .int .u64 0, .int .u64 0, .int .i64 0, .string ⟨#[]⟩, .int .u64 0, .int .u64 0, .int .u64 0, .int .u64 0, .int .u64 0, .int .u64 0, .int .u64 0, .slice none 0 0] 29) = V at *
 go_upto_region 2 with (refine wpList_store_mid rfl 26 _ _ rfl V.heap.size 0 #[.int .u64 0, .int .i64 0, .int .i64 2, str [], .int .u64 2, .int .u64 0, .int .i64 2, str [], .int .u64 1, .int .u64 0, .int .i64 1, str [110, 111, 110, 101], .int .u64 0, .int .u64 0, .int .u64 5, .int .u64 0, .int .u64 100, .int .u64 0, .int .u64 0] (by rfl) (by rfl) ((Blk.new _ _ _).there (Nat.le_refl 19)) (by kernel_rfl) (by simp [Value.oneCell']) ?_)
 generalize hU : World.setCells _ _ _ _ = U
 have HX : Hid (Blk U V.heap.size 26 #[.int .u64 0, .int .i64 0, .int .i64 2, str [], .int .u64 2, .int .u64 0, .int .i64 2, str [], .int .u64 1, .int .u64 0, .int .i64 1, str [110, 111, 110, 101], .int .u64 0, .int .u64 0, .int .u64 5, .int .u64 0, .int .u64 100, .int .u64 0, .int .u64 0]) := hid (by rw [<- hU]; exact setCells_all (ds := #[.int .u64 0, .int .i64 0, .int .i64 2, str [], .int .u64 2, .int .u64 0, .int .i64 2, str [], .int .u64 1, .int .u64 0, .int .i64 1, str [110, 111, 110, 101], .int .u64 0, .int .u64 0, .int .u64 5, .int .u64 0, .int .u64 100, .int .u64 0, .int .u64 0]) (Blk.new _ _ _) rfl)
 have HM : Hid (Ext V U) := hid (by rw [<- hU]; exact setCells_mod _ _ ((Mod.refl [] V).alloc _) (.inr (Nat.le_refl _)))
 have HRU := hid (HR.out.ext HM.out)
 have HVN : Hid (w.heap.size < V.heap.size) := hid HR.out.lt
 have HUN : Hid (V.heap.size < U.heap.size) := hid HX.out.lt
 clear hU
 generalize V.heap.size = vs at *
 obtain ⟨D, hD⟩ : ∃ D, someD7 = D := ⟨_, rfl⟩
 have HDE := hid hD
 clear hD
 refine wp_region_held_drew (S := fun w' => Mod [w.heap.size] U w') (by kernel_rfl) (Mod.refl _ _).drew (fun hHeld => ?_)
 have hX0 : Ext U U.drew := (Mod.refl [] U).drew
 generalize U.drew = y0 at *
 refine wpAnyH_take (i := 0) rfl (by kernel_rfl) (by kernel_rfl) (by kernel_rfl) (fun _ _ _ h => h) (yieldsIf_row (by rfl) 26 _ rfl _ rfl (fun W h => HX.out.mod h (by have := HVN.out; simp; omega)) vqJ rfl (by kernel_rfl)) hHeld ?_
 (try simp only [Act.put, gTl, g0l, gSl, sTl, s0l, sSl])
 refine' wpAnyH_take (i := 4) (v := _) rfl (by kernel_rfl) (by kernel_rfl) (by kernel_rfl) (fun _ _ _ h => h) (Or.inl ⟨by rfl, ?hy1⟩) hHeld ?rest1
 case hy1 => (rintro W hM; go_simp; (try with_reducible rfl))
 case rest1 =>
 (try simp only [Act.put, gTl, g0l, gSl, sTl, s0l, sSl])
 refine wpAnyH_ready (rs := [1]) (by kernel_rfl) (by simp) ?_
 refine AllReadyH.cons rfl (fun K hK => ?_) AllReadyH.nil
 go_simp
 have hQ1 : Blk (World.alloc y0 (.cells #[.int .i64 1] 3)) y0.heap.size 3 #[.int .i64 1] := Blk.new _ _ _
 have hX1 : Ext y0 (World.alloc y0 (.cells #[.int .i64 1] 3)) := (Mod.refl [] _).alloc _
 generalize World.alloc y0 (.cells #[.int .i64 1] 3) = y1 at *
 refine hK.out _ _ (hHeld.trans (hX1.mono (by simp))) (fun hHeld => ?_)
 clear hK K
 (try simp only [Act.put, gTl, g0l, gSl, sTl, s0l, sSl])
 generalize y0.heap.size = gq at *
 refine wpAnyH_ready (rs := [2]) (by kernel_rfl) (by simp) ?_
 refine AllReadyH.cons rfl (fun K hK => ?_) AllReadyH.nil
 have hNs : NsL y1 (some ⟨gq, 0, none⟩) 1 (fun _ => 1) := fun _ => ⟨gq, 0, rfl, hQ1.lt, fun i hi => by obtain rfl : i = 0 := (by omega); exact hQ1.cell 0⟩
 have hKT := Text_any 1 (some ⟨gq, 0, none⟩) (fun _ => 1) 1 1 [116] (by omega) (by omega) (fun i hi => by omega) (by simp) y1 hNs
 rw [show textR 1 (fun _ => 1) 1 [116] = D from HDE.out] at hKT
 go_simp
 go_at_call 15
 refine hKT.mono ?_
 rintro _ y2 ⟨rfl, hb2⟩
 refine hK.out _ _ (hHeld.trans (hb2.mono (by simp))) (fun hHeld => ?_)
 clear hK K hKT hNs
 (try simp only [Act.put, gTl, g0l, gSl, sTl, s0l, sSl])
 refine' wpAnyH_take (i := 3) (v := _) rfl (by kernel_rfl) (by kernel_rfl) (by kernel_rfl) (fun _ _ _ h => h) (Or.inl ⟨by rfl, ?hy2⟩) hHeld ?rest2
 case hy2 => (rintro W hM; go_simp; (try with_reducible rfl))
 case rest2 =>
 (try simp only [Act.put, gTl, g0l, gSl, sTl, s0l, sSl])
 refine wpAnyH_ready (rs := [5]) (by kernel_rfl) (by simp) ?_
 refine AllReadyH.cons rfl (fun K hK => ?_) AllReadyH.nil
 go_simp
 have hQ3 : Blk (World.alloc y2 (.cells #[.int .i64 11, .int .i64 2, .int .u64 0, .int .i64 0, str D, .int .i64 1, .int .i64 1, .int .u64 0, .int .i64 0, str [104, 105]] 45)) y2.heap.size 45 #[.int .i64 11, .int .i64 2, .int .u64 0, .int .i64 0, str D, .int .i64 1, .int .i64 1, .int .u64 0, .int .i64 0, str [104, 105]] := Blk.new _ _ _
 have hX3 : Ext y2 (World.alloc y2 (.cells #[.int .i64 11, .int .i64 2, .int .u64 0, .int .i64 0, str D, .int .i64 1, .int .i64 1, .int .u64 0, .int .i64 0, str [104, 105]] 45)) := (Mod.refl [] _).alloc _
 generalize World.alloc y2 (.cells #[.int .i64 11, .int .i64 2, .int .u64 0, .int .i64 0, str D, .int .i64 1, .int .i64 1, .int .u64 0, .int .i64 0, str [104, 105]] 45) = y3 at *
 refine hK.out _ _ (hHeld.trans (hX3.mono (by simp))) (fun hHeld => ?_)
 clear hK K
 (try simp only [Act.put, gTl, g0l, gSl, sTl, s0l, sSl])
 have hne : w.heap.size ≠ y2.heap.size := by have h1 := hX0.size; have h2 := hX1.size; have h3 := hb2.size; have := HVN.out; have := HUN.out; omega
 have hE3 : Ext U y3 := ((hX0.trans hX1).trans hb2).trans hX3
 have hR3 : Blk y3 w.heap.size 29 #[.int .u64 0, .int .i64 0, .int .i64 0, .string ⟨#[]⟩, .int .u64 0, .int .u64 0, .int .i64 0, .string ⟨#[]⟩, .int .u64 0, .int .u64 0, .int .i64 0, .string ⟨#[]⟩, .int .u64 0, .int .u64 0, .int .u64 0, .int .u64 0, .int .u64 0, .int .u64 0, .int .u64 0, .slice none 0 0] := HRU.out.ext hE3
 generalize y2.heap.size = gr at *
 refine' wpAnyH_take (i := 6) (v := _) rfl (by kernel_rfl) (by kernel_rfl) (by kernel_rfl) (fun _ _ _ h => h) (Or.inl ⟨by rfl, ?hy3⟩) hHeld ?rest3
 case hy3 => (rintro W hM; go_simp; (try with_reducible rfl))
 case rest3 =>
 (try simp only [Act.put, gTl, g0l, gSl, sTl, s0l, sSl])
 refine wpAnyH_ready (rs := [7]) (by kernel_rfl) (by simp) ?_
 refine AllReadyH.cons rfl (fun K hK => ?_) AllReadyH.nil
 refine wp_store_mid 29 _ _ rfl w.heap.size 0 #[.int .u64 0, .int .i64 0, .int .i64 2, str [], .int .u64 2, .int .u64 0, .int .i64 2, str [], .int .u64 1, .int .u64 0, .int .i64 1, str [110, 111, 110, 101], .int .u64 0, .int .u64 0, .int .u64 5, .int .u64 0, .int .u64 100, .int .u64 0, .int .u64 0, .slice (some ⟨gr, 0, none⟩) 2 2] (by rfl) (by rfl) (hR3.there (Nat.le_refl 20)) (by kernel_rfl) (by simp [Value.oneCell']) ?_
 have hZB := setCells_all (ds := #[.int .u64 0, .int .i64 0, .int .i64 2, str [], .int .u64 2, .int .u64 0, .int .i64 2, str [], .int .u64 1, .int .u64 0, .int .i64 1, str [110, 111, 110, 101], .int .u64 0, .int .u64 0, .int .u64 5, .int .u64 0, .int .u64 100, .int .u64 0, .int .u64 0, .slice (some ⟨gr, 0, none⟩) 2 2]) hR3 rfl
 have hZM := setCells_mod (b := w.heap.size) (#[.int .u64 0, .int .i64 0, .int .i64 2, str [], .int .u64 2, .int .u64 0, .int .i64 2, str [], .int .u64 1, .int .u64 0, .int .i64 1, str [110, 111, 110, 101], .int .u64 0, .int .u64 0, .int .u64 5, .int .u64 0, .int .u64 100, .int .u64 0, .int .u64 0, .slice (some ⟨gr, 0, none⟩) 2 2] : Array Value).toList 0 (Mod.refl [w.heap.size] y3) (.inl (by simp))
 generalize hZ : World.setCells _ w.heap.size 0 _ = y4 at *
 clear hZ
 refine hK.out _ _ (hHeld.trans hZM) (fun hHeld => ?_)
 clear hK K
 (try simp only [Act.put, gTl, g0l, gSl, sTl, s0l, sSl])
 refine wpAnyH_done (by kernel_rfl) ?_ _
 go_wp2_with fail
 refine bodyPost_ret (v := .agg #[.int .u64 0, .int .i64 0, .int .i64 2, str [], .int .u64 2, .int .u64 0, .int .i64 2, str [], .int .u64 1, .int .u64 0, .int .i64 1, str [110, 111, 110, 101], .int .u64 0, .int .u64 0, .int .u64 5, .int .u64 0, .int .u64 100, .int .u64 0, .int .u64 0, .slice (some ⟨gr, 0, none⟩) 2 2]) (results_cell Tryz.results24 _ rfl hZB vqA rfl (by kernel_rfl)) rfl ?_
 have hB4 := hQ3.mod hZM (by simpa using Ne.symm hne)
 refine ⟨gr, rfl, ((HE.out.trans (HM.out.trans hE3)).of_ext.trans hZM).new (fun kk hkk => .inr (by simp at hkk; omega)), fun _ => ⟨gr, 0, rfl, hB4.lt, fun i hi => ?_⟩⟩
 unfold someB7
 rw [HDE.out]
 rcases (show i = 0 \/ i = 1 by omega) with rfl | rfl
 . exact ⟨hB4.cell 0, hB4.cell 1, hB4.cell 2, hB4.cell 3, hB4.cell 4⟩
 . exact ⟨hB4.cell 5, hB4.cell 6, hB4.cell 7, hB4.cell 8, hB4.cell 9⟩
set_option maxRecDepth 20000 in
theorem few17_any (p : PV) (bs : Nat -> BV) (k c : Nat) (A : Option Addr) (hk : k < 4611686018427387904) (w : World) (h : BsL w A k bs) : Calls Tryz.prog 8 #[bunV p A k c] w (Ret (.bool (bunFew p bs k && decide (k <= 18))) w) := by
 have KF := hid (fun W (hW : BsL W A k bs) => few13_any p bs k c A hk W hW)
 have HE := hid ((Mod.refl [] w).alloc (.cells (bunC p A k c) 29))
 have HB0 : Hid (Blk (w.alloc (.cells (bunC p A k c) 29)) w.heap.size 29 (bunC p A k c)) := hid (Blk.new w 29 (bunC p A k c))
 have HL := hid (BsL.ext h HE.out)
 have k1 : (k : Int) < 4611686018427387904 := by omega
 clear h hk
 go_enter Tryz.func8, Tryz.ntmps8
 go_upto_region 1 with fail
 generalize (w.alloc (.cells (bunC p A k c) 29)) = V at *
 obtain ⟨e, he⟩ := Later.self V
 rw [he]
 clear he
 have tk1 : True := trivial
 have b19 : ∀ e : Later V, e.x.cell? ⟨w.heap.size, 19, none⟩ = some (.slice A k c) := HB0.out.cellL 19 rfl
 cases hb : bunFew p bs k with
 | false =>
  rw [hb] at KF
  have HQ := hid hb
  clear hb
  go_wp2_with (first | (clear tk1; refine wpList_row (by rfl) 29 _ rfl _ rfl (HB0.out.later _) vqA rfl (by kernel_rfl) ?_) | (go_at_call 25; refine (Ret.later (KF.out _ (HL.out.ext (Later.h _)))).mono ?_; rintro x _ ⟨rfl, e, rfl⟩))
  go_ret
  exact Ret.mk (by rw [HQ.out]; rfl) (HE.out.trans e.h)
 | true =>
  rw [hb] at KF
  have HQ := hid hb
  clear hb
  by_cases h1 : k <= 18
  .
   have t1 : decide ((k : Int) <= 18) = true := decide_eq_true (by omega)
   have t2 : ((k : Int) <= 18) = True := eq_true (by omega)
   have t3 : decide (k <= 18) = true := decide_eq_true h1
   have H1 := hid h1
   clear h1
   go_wp2_with (first | (clear tk1; refine wpList_row (by rfl) 29 _ rfl _ rfl (HB0.out.later _) vqA rfl (by kernel_rfl) ?_) | (go_at_call 25; refine (Ret.later (KF.out _ (HL.out.ext (Later.h _)))).mono ?_; rintro x _ ⟨rfl, e, rfl⟩))
   go_ret
   exact Ret.mk (by rw [HQ.out]; simp [H1.out]) (HE.out.trans e.h)
  .
   have t1 : decide ((k : Int) <= 18) = false := decide_eq_false (by omega)
   have t2 : ((k : Int) <= 18) = False := eq_false (by omega)
   have t3 : decide (k <= 18) = false := decide_eq_false h1
   have H1 := hid h1
   clear h1
   go_wp2_with (first | (clear tk1; refine wpList_row (by rfl) 29 _ rfl _ rfl (HB0.out.later _) vqA rfl (by kernel_rfl) ?_) | (go_at_call 25; refine (Ret.later (KF.out _ (HL.out.ext (Later.h _)))).mono ?_; rintro x _ ⟨rfl, e, rfl⟩))
   go_ret
   exact Ret.mk (by rw [HQ.out]; simp [H1.out]) (HE.out.trans e.h)
def zeroBun : Array Value := #[.int .u64 0, .int .i64 0, .int .i64 0, .string ⟨#[]⟩, .int .u64 0, .int .u64 0, .int .i64 0, .string ⟨#[]⟩, .int .u64 0, .int .u64 0, .int .i64 0, .string ⟨#[]⟩, .int .u64 0, .int .u64 0, .int .u64 0, .int .u64 0, .int .u64 0, .int .u64 0, .int .u64 0, .slice none 0 0]
def EdRel (W : World) (may : Bool) (none : Int) (p : PV) (B : Nat -> BV) (n : Nat) (zc : Array Value) (r : Int) : Prop :=
 (may = false /\ zc = zeroBun /\ r = none) \/ (may = true /\ bunRight p B n ≠ 0 /\ r = bunRight p B n /\ zc = zeroBun) \/ (may = true /\ bunRight p B n = 0 /\ r = 0 /\ ∃ A c, zc = bunC p A n c /\ BsL W A n B)
theorem EdRel.ext {W W' : World} {may : Bool} {none : Int} {p : PV} {B : Nat -> BV} {n : Nat} {zc : Array Value} {r : Int} (h : EdRel W may none p B n zc r) (hm : Ext W W') : EdRel W' may none p B n zc r := by
 rcases h with h | h | ⟨h1, h2, h3, A, c, h4, h5⟩
 . exact .inl h
 . exact .inr (.inl h)
 . exact .inr (.inr ⟨h1, h2, h3, A, c, h4, h5.ext hm⟩)
theorem EdRel.cells {W : World} {may : Bool} {none : Int} {p : PV} {B : Nat -> BV} {n : Nat} {zc : Array Value} {r : Int} (h : EdRel W may none p B n zc r) : (Tryz.prog.info? 29).map (·.size) = some zc.size /\ zc.all (·.oneCell') = true /\ zc.size = 20 := by
 have hz : (Tryz.prog.info? 29).map (·.size) = some zeroBun.size /\ zeroBun.all (·.oneCell') = true /\ zeroBun.size = 20 := ⟨by kernel_rfl, by simp [zeroBun, Value.oneCell'], rfl⟩
 rcases h with ⟨_, h, _⟩ | ⟨_, _, _, h⟩ | ⟨_, _, _, A, c, h, _⟩
 . rw [h]; exact hz
 . rw [h]; exact hz
 . rw [h]; exact ⟨by kernel_rfl, by simp [Value.oneCell'], rfl⟩
theorem BsL.congr {w : World} {A : Option Addr} {k : Nat} {bs bs' : Nat -> BV} (h : BsL w A k bs) (he : ∀ j, j < k -> bs j = bs' j) : BsL w A k bs' := fun hk => by
 obtain ⟨b, o, hA, hb, hc⟩ := h hk
 exact ⟨b, o, hA, hb, fun i hi => by rw [<- he i hi]; exact hc i hi⟩
end Go.Proofs.YtmckfdmdkljomaaGreatDoor
