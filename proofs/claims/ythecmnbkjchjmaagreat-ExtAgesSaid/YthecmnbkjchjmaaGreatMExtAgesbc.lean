/-
 What data tell, by their bytes alone: a name, an age, hops.
-/
import Derived.Test.YthecmnbkjchjmaaGreatMExtAgesax

namespace Go.Proofs.YthecmnbkjchjmaaGreat
open Go.RowKit
set_option linter.unusedVariables false
set_option linter.unusedSimpArgs false

theorem T.plain_of {t : T} {d : Nat} (h : t.right d = true) : t.plain = true := by
 rw [T.right_eq, Bool.and_eq_true] at h; exact h.2
theorem bytes_same {a b : T} (ha : a.plain = true) (hb : b.plain = true) (oa : a.ok) (ob : b.ok) (h : a.bytes = b.bytes) : a.same b = true := (T.bytes_inj a b ha hb oa ob [] [] (by rw [h])).1

def isPrev (s : List UInt8) (e : EV) : Prop := e.ok = true /\ (eidT e).bytes = s
def isAge (s : List UInt8) (n : Nat) : Prop := n <= 1099511627776 /\ headL 0 n = s
def isHops (s : List UInt8) (h : Nat × Nat) : Prop := mayB h.1 h.2 = true /\ 130 :: (headL 0 h.1 ++ headL 0 h.2) = s

open Classical in
noncomputable def theO {α : Type} (P : α -> Prop) : Option α := if h : ∃ e, P e then some h.choose else none
theorem theO_some {α : Type} {P : α -> Prop} (u : ∀ x y, P x -> P y -> x = y) {x : α} (h : P x) : theO P = some x := by
 unfold theO
 have hx : ∃ e, P e := ⟨x, h⟩
 rw [dif_pos hx, u _ _ hx.choose_spec h]
theorem theO_none {α : Type} {P : α -> Prop} (h : ∀ x, ¬ P x) : theO P = none := by
 unfold theO
 rw [dif_neg (by rintro ⟨x, hx⟩; exact h x hx)]
noncomputable def prevO (s : List UInt8) : Option EV := theO (isPrev s)
noncomputable def ageO (s : List UInt8) : Option Nat := theO (isAge s)
noncomputable def hopsO (s : List UInt8) : Option (Nat × Nat) := theO (isHops s)
def PTree (l : List UInt8) : Prop := (parseR l).2 = 0 -> ∃ t : T, t.right 8 = true /\ t.ok /\ t.bytes = l

theorem prev_tree {t : T} (hr : t.right 8 = true) (hok : t.ok) {e : EV} (h : isPrev t.bytes e) : readE t = e /\ ofB t = true := by
 obtain ⟨g1, g2, g3, g4⟩ := eidT_ok h.1
 have p := T.plain_of hr
 have s1 := bytes_same g3 p g1 hok h.2
 have s2 := bytes_same p g3 hok g1 h.2.symm
 have e1 := readE_same h.1 s1
 refine ⟨e1, ?_⟩
 unfold ofB
 rw [e1, h.1, hr, s2]; rfl
theorem tree_prev {t : T} (hr : t.right 8 = true) (hok : t.ok) (h : ofB t = true) : isPrev t.bytes (readE t) := by
 unfold ofB at h
 rw [hr] at h
 simp only [Bool.and_eq_true, Bool.true_and] at h
 obtain ⟨g1, g2, g3, g4⟩ := eidT_ok h.1
 exact ⟨h.1, (T.same_bytes t _ g1 h.2).symm⟩
theorem isPrev_inj {s : List UInt8} (x y : EV) (hx : isPrev s x) (hy : isPrev s y) : x = y := by
 obtain ⟨g1, g2, g3, g4⟩ := eidT_ok hx.1
 have h1 := readE_same hx.1 (T.same_refl (eidT x))
 have h2 : isPrev (eidT x).bytes y := by rw [hx.2]; exact hy
 rw [<- h1, (prev_tree (g2 8 (by omega)) g1 h2).1]
theorem prevO_bad {s : List UInt8} (h : (parseR s).2 ≠ 0) : prevO s = none := theO_none fun e he => h (by
 obtain ⟨g1, g2, g3, g4⟩ := eidT_ok he.1
 rw [<- he.2, parse_back (g2 8 (by omega)) g1])
theorem prevO_tree {t : T} (hr : t.right 8 = true) (hok : t.ok) : prevO t.bytes = if ofB t then some (readE t) else none := by
 by_cases h : ofB t = true
 . rw [if_pos h]; exact theO_some isPrev_inj (tree_prev hr hok h)
 . rw [if_neg h]; exact theO_none fun e he => h (prev_tree hr hok he).2

theorem isAge_inj {s : List UInt8} (x y : Nat) (hx : isAge s x) (hy : isAge s y) : x = y := by
 have e : (numT x).bytes = (numT y).bytes := by rw [(numT_facts x).2.2, (numT_facts y).2.2, hx.2, hy.2]
 have := bytes_same (numT_plain x).1 (numT_plain y).1 (num_ok (by have := hx.1; omega)) (num_ok (by have := hy.1; omega)) e
 exact (same_mk this).2.1.symm
theorem ageO_bad {s : List UInt8} (h : (parseR s).2 ≠ 0) : ageO s = none := theO_none fun n hn => h (by
 rw [<- hn.2, <- (numT_facts n).2.2, parse_back (numT_facts n).2.1 (num_ok (by have := hn.1; omega))])
def ageB (t : T) : Bool := decide (t.kind = 0) && decide (t.n <= 1099511627776)
theorem ageO_tree {t : T} (hr : t.right 8 = true) (hok : t.ok) : ageO t.bytes = if ageB t then some t.n else none := by
 have p := T.plain_of hr
 by_cases h : ageB t = true
 .
  rw [if_pos h]
  simp only [ageB, Bool.and_eq_true, decide_eq_true_eq] at h
  refine theO_some isAge_inj ⟨h.2, ?_⟩
  cases t with
  | nil => exact absurd hok T.not_nil
  | mk kind n s op k ch =>
   have hk : kind = 0 := h.1
   subst hk
   rfl
 .
  rw [if_neg h]
  refine theO_none fun n hn => h ?_
  have := bytes_same (numT_plain n).1 p (num_ok (by have := hn.1; omega)) hok (by rw [(numT_facts n).2.2, hn.2])
  have g := same_mk this
  simp only [ageB, Bool.and_eq_true, decide_eq_true_eq]
  exact ⟨g.1, by rw [g.2.1]; exact hn.1⟩

theorem may_le {h : Nat × Nat} (hm : mayB h.1 h.2 = true) : h.1 <= 255 /\ h.2 <= 255 := by simp [mayB] at hm; omega
theorem isHops_inj {s : List UInt8} (x y : Nat × Nat) (hx : isHops s x) (hy : isHops s y) : x = y := by
 have bx := may_le hx.1
 have by_ := may_le hy.1
 have fx := pairT2_facts x.1 x.2 (by omega) (by omega)
 have fy := pairT2_facts y.1 y.2 (by omega) (by omega)
 have e : (pairT2 x.1 x.2).bytes = (pairT2 y.1 y.2).bytes := by rw [fx.2.2.2, fy.2.2.2, hx.2, hy.2]
 have := same_mk (bytes_same (pairT2_plain x.1 x.2).1 (pairT2_plain y.1 y.2).1 fx.1 fy.1 e)
 have a := same_mk (this.2.2.2.2.2 0 (by omega))
 have b : (numT x.2).same (numT y.2) = true := this.2.2.2.2.2 1 (by omega)
 have b := same_mk b
 exact Prod.ext a.2.1.symm b.2.1.symm
theorem hopsO_bad {s : List UInt8} (h : (parseR s).2 ≠ 0) : hopsO s = none := theO_none fun n hn => h (by
 have b := may_le hn.1
 have f := pairT2_facts n.1 n.2 (by omega) (by omega)
 rw [<- hn.2, <- f.2.2.2, parse_back f.2.2.1 f.1])
def hopsB (t : T) : Bool := decide (t.kind = 4) && !t.op && decide (t.k = 2) && decide ((t.ch 0).kind = 0) && decide ((t.ch 1).kind = 0) && mayB (t.ch 0).n (t.ch 1).n
theorem hopsO_tree {t : T} (hr : t.right 8 = true) (hok : t.ok) : hopsO t.bytes = if hopsB t then some ((t.ch 0).n, (t.ch 1).n) else none := by
 have p := T.plain_of hr
 by_cases h : hopsB t = true
 .
  rw [if_pos h]
  simp only [hopsB, Bool.and_eq_true, decide_eq_true_eq, Bool.not_eq_true'] at h
  obtain ⟨⟨⟨⟨⟨h1, h2⟩, h3⟩, h4⟩, h5⟩, h6⟩ := h
  refine theO_some isHops_inj ⟨h6, ?_⟩
  cases t with
  | nil => exact absurd hok T.not_nil
  | mk kind n s op k ch =>
   have hk : kind = 4 := h1
   have ho : op = false := h2
   have hk2 : k = 2 := h3
   subst hk ho hk2
   have h4 : (ch 0).kind = 0 := h4
   have h5 : (ch 1).kind = 0 := h5
   have c0 : (ch 0).bytes = headL 0 (ch 0).n := by
    have : (ch 0).ok := hok.2.2.2.2 0 (by omega)
    revert this h4
    cases ch 0 with
    | nil => exact fun _ h => absurd h T.not_nil
    | mk kind n s op k ch => intro h4 _; have hk : kind = 0 := h4; subst hk; rfl
   have c1 : (ch 1).bytes = headL 0 (ch 1).n := by
    have : (ch 1).ok := hok.2.2.2.2 1 (by omega)
    revert this h5
    cases ch 1 with
    | nil => exact fun _ h => absurd h T.not_nil
    | mk kind n s op k ch => intro h4 _; have hk : kind = 0 := h4; subst hk; rfl
   show 130 :: (headL 0 (ch 0).n ++ headL 0 (ch 1).n) = _
   rw [<- c0, <- c1]
   simp [T.bytes, T.cat, headL]
   rfl
 .
  rw [if_neg h]
  refine theO_none fun n hn => h ?_
  have b := may_le hn.1
  have f := pairT2_facts n.1 n.2 (by omega) (by omega)
  have g := same_mk (bytes_same (pairT2_plain n.1 n.2).1 p f.1 hok (f.2.2.2.trans hn.2))
  have a := same_mk (g.2.2.2.2.2 0 (by omega))
  have b : (numT n.2).same (t.ch 1) = true := g.2.2.2.2.2 1 (by omega)
  have b := same_mk b
  have hm := hn.1
  rw [<- a.2.1, <- b.2.1] at hm
  simp only [hopsB, Bool.and_eq_true, decide_eq_true_eq, Bool.not_eq_true']
  exact ⟨⟨⟨⟨⟨g.1, g.2.2.2.1⟩, g.2.2.2.2.1⟩, a.1⟩, b.1⟩, hm⟩
end Go.Proofs.YthecmnbkjchjmaaGreat


namespace Go.Proofs.YthecmnbkjchjmaaGreat
open Go.RowKit
set_option linter.unusedVariables false
set_option linter.unusedSimpArgs false

def PrevPost (l : List UInt8) (w : World) (e : Ending) (w' : World) : Prop := Ret (.tuple #[((prevO l).getD zeroE).v, .int .i64 (if (prevO l).isSome then 0 else 2)]) w e w' /\ PTree l
theorem PrevPost.none {l : List UInt8} {w w' : World} {e : Ending} (hp : prevO l = none) (h : Ret (.tuple #[zeroE.v, .int .i64 2]) w e w') (hT : PTree l) : PrevPost l w e w' := by unfold PrevPost; rw [hp]; exact ⟨h, hT⟩
theorem PrevPost.some {l : List UInt8} {w w' : World} {e : Ending} {E : EV} (hp : prevO l = some E) (h : Ret (.tuple #[E.v, .int .i64 0]) w e w') (hT : PTree l) : PrevPost l w e w' := by unfold PrevPost; rw [hp]; exact ⟨h, hT⟩
set_option maxRecDepth 20000 in
theorem rp1_any (t : T) (hok : t.ok) (E : EV) (n : Int) (hE : ∀ A c W, IsL W (fun _ => True) t A -> Calls Tryz.prog 117 #[itemV t A c] W (Ret (.tuple #[E.v, .int .i64 n]) W)) (A : Option Addr) (c : Nat) (w : World) (h : IsL w (fun _ => True) t A) : Calls Tryz.prog 116 #[itemV t A c] w (Ret (.tuple #[E.v, .bool (n == 0)]) w) := by
 have K : Hid (∀ W, IsL W (fun _ => True) t A -> Calls Tryz.prog 117 #[itemV t A c] W (Ret (.tuple #[E.v, .int .i64 n]) W)) := fun W hW => hE A c W hW
 have H := hid h
 clear h hok hE
 have HE := hid (((Mod.refl [] w).alloc (.cells (itemC t A c) 86)).alloc (.cells #[.int .i64 0, .string ⟨#[]⟩, .int .u64 0, .int .u64 0] 24))
 have HQ : Hid (Blk ((w.alloc (.cells (itemC t A c) 86)).alloc (.cells #[.int .i64 0, .string ⟨#[]⟩, .int .u64 0, .int .u64 0] 24)) (w.heap.size + 1) 24 zeroE.c) := Blk.new' (w.alloc (.cells (itemC t A c) 86)) 24 #[.int .i64 0, .string ⟨#[]⟩, .int .u64 0, .int .u64 0] (N := w.heap.size + 1) (by simp)
 go_enter Tryz.func116, Tryz.ntmps116
 go_wp2_with fail
 refine (K.out _ (H.out.ext HE.out)).mono ?_
 rintro e1 w1 ⟨rfl, hb1⟩
 have HE1 := hid ((HE.out.trans hb1).alloc (.cells E.c 24))
 have HQ1 := hid ((HQ.out.ext hb1).alloc (.cells E.c 24))
 clear hb1
 obtain ⟨c0, c1, c2, c3⟩ := cells4 HQ1.out
 have f0 := Blk.frozen HQ1.out 0
 have f1 := Blk.frozen HQ1.out 1
 have f2 := Blk.frozen HQ1.out 2
 have f3 := Blk.frozen HQ1.out 3
 go_wp2_with fail
 obtain ⟨d0, d1, d2, d3⟩ := cells4 (set4_blk (e := E) HQ1.out)
 clear c0 c1 c2 c3 f0 f1 f2 f3
 show bodyPost _ _ _ _ _ (set4 (w1.alloc (.cells E.c 24)) (w.heap.size + 1) E)
 refine bodyPost_ret (v := .tuple #[E.v, .bool (n == 0)]) (by simp [results, Tryz.results116, go_sem, d0, d1, d2, d3]) rfl (Ret.mk rfl (set4_mod HE1.out (by omega)))
set_option maxRecDepth 20000 in
theorem readEID_any (l : List UInt8) (hl : l.length <= 1073741824) (w : World) : Calls Tryz.prog 115 #[str l, .func (Fn.func 116) #[] #[]] w (PrevPost l w) := by
 have K := hid (fun W => parse_any l hl W)
 have HE := hid (((Mod.refl [] w).alloc (.cells #[.int .i64 0, .string ⟨#[]⟩, .int .u64 0, .int .u64 0] 24)).alloc (.cells #[.int .i64 0, .string ⟨#[]⟩, .int .u64 0, .int .u64 0] 24))
 have HQ : Hid (Blk ((w.alloc (.cells #[.int .i64 0, .string ⟨#[]⟩, .int .u64 0, .int .u64 0] 24)).alloc (.cells #[.int .i64 0, .string ⟨#[]⟩, .int .u64 0, .int .u64 0] 24)) w.heap.size 24 zeroE.c) := (Blk.new w 24 #[.int .i64 0, .string ⟨#[]⟩, .int .u64 0, .int .u64 0]).alloc _
 have HN : Hid (Blk ((w.alloc (.cells #[.int .i64 0, .string ⟨#[]⟩, .int .u64 0, .int .u64 0] 24)).alloc (.cells #[.int .i64 0, .string ⟨#[]⟩, .int .u64 0, .int .u64 0] 24)) (w.heap.size + 1) 24 zeroE.c) := Blk.new' (w.alloc (.cells #[.int .i64 0, .string ⟨#[]⟩, .int .u64 0, .int .u64 0] 24)) 24 #[.int .i64 0, .string ⟨#[]⟩, .int .u64 0, .int .u64 0] (N := w.heap.size + 1) (by simp)
 go_enter Tryz.func115, Tryz.ntmps115
 go_wp2_with fail
 refine (K.out _).mono ?_
 rintro e1 w1 ⟨hb1, ⟨hz, rfl⟩ | ⟨hz, t, A, c, rfl, ⟨hr, hok⟩, hbt, hl1⟩⟩
 .
  have g1 : ((parseR l).2 == 0) = false := by simpa using hz
  have g2 : ((parseR l).2 = 0) = False := by simpa using hz
  have g3 : ((parseR l).2 != 0) = true := by simpa using hz
  have hT : PTree l := fun h => absurd h hz
  have HT := hid hT
  have HP := hid (prevO_bad hz)
  clear hz hT
  have HE1 := hid ((HE.out.trans hb1).alloc (.cells (itemC nulT none 0) 86))
  have HQ1 := hid ((HQ.out.ext hb1).alloc (.cells (itemC nulT none 0) 86))
  have HN1 := hid ((HN.out.ext hb1).alloc (.cells (itemC nulT none 0) 86))
  clear hb1
  obtain ⟨b0, b1, b2, b3⟩ := cells4 HN1.out
  obtain ⟨c0, c1, c2, c3⟩ := cells4 HQ1.out
  have f0 := Blk.frozen HQ1.out 0
  have f1 := Blk.frozen HQ1.out 1
  have f2 := Blk.frozen HQ1.out 2
  have f3 := Blk.frozen HQ1.out 3
  go_wp2_with fail
  obtain ⟨d0, d1, d2, d3⟩ := cells4 (set4_blk (e := zeroE) HQ1.out)
  clear b0 b1 b2 b3 c0 c1 c2 c3 f0 f1 f2 f3
  show bodyPost _ _ _ _ _ (set4 (w1.alloc (.cells (itemC nulT none 0) 86)) w.heap.size zeroE)
  refine bodyPost_ret (v := .tuple #[zeroE.v, .int .i64 2]) (by simp [results, Tryz.results115, go_sem, d0, d1, d2, d3]) rfl (.none HP.out (Ret.mk rfl (set4_mod HE1.out (by omega))) HT.out)
 .
  have hT : PTree l := fun _ => ⟨t, hr, hok, hbt⟩
  have HT := hid hT
  have HE1 := hid ((HE.out.trans hb1).alloc (.cells (itemC t A c) 86))
  have HQ1 := hid ((HQ.out.ext hb1).alloc (.cells (itemC t A c) 86))
  have HN1 := hid ((HN.out.ext hb1).alloc (.cells (itemC t A c) 86))
  have HL1 : Hid (IsL (w1.alloc (.cells (itemC t A c) 86)) (fun _ => True) t A) := IsL.ext hl1 ((Mod.refl _ _).alloc _)
  have hP := prevO_tree hr hok
  rw [hbt] at hP
  clear hb1 hz hT
  by_cases hB : ofB t = true
  .
   have KO := hid (fun W hW => rp1_any t hok (readE t) 0 (fun A c W hW => by have := eidOf_any t hok A c W hW; rw [hB] at this; exact this) A c W hW)
   rw [if_pos hB] at hP
   have HP := hid hP
   generalize readE t = E at *
   clear hl1 hr hok hB hbt hP K
   go_wp2_with fail
   refine (KO.out _ HL1.out).mono ?_
   rintro e1 w2 ⟨rfl, hb2⟩
   have HE2 := hid ((HE1.out.trans hb2).alloc (.cells E.c 24))
   have HQ2 := hid ((HQ1.out.ext hb2).alloc (.cells E.c 24))
   clear hb2
   obtain ⟨c0, c1, c2, c3⟩ := cells4 HQ2.out
   have f0 := Blk.frozen HQ2.out 0
   have f1 := Blk.frozen HQ2.out 1
   have f2 := Blk.frozen HQ2.out 2
   have f3 := Blk.frozen HQ2.out 3
   go_wp2_with fail
   obtain ⟨d0, d1, d2, d3⟩ := cells4 (set4_blk (e := E) HQ2.out)
   clear c0 c1 c2 c3 f0 f1 f2 f3
   show bodyPost _ _ _ _ _ (set4 (w2.alloc (.cells E.c 24)) w.heap.size E)
   refine bodyPost_ret (v := .tuple #[E.v, .int .i64 0]) (by simp [results, Tryz.results115, go_sem, d0, d1, d2, d3]) rfl (.some HP.out (Ret.mk rfl (set4_mod HE2.out (by omega))) HT.out)
  .
   have KO := hid (fun W hW => rp1_any t hok zeroE 2 (fun A c W hW => by have := eidOf_any t hok A c W hW; rw [if_neg hB, if_neg hB] at this; exact this) A c W hW)
   rw [if_neg hB] at hP
   have HP := hid hP
   clear hl1 hr hok hB hbt hP K
   go_wp2_with fail
   refine (KO.out _ HL1.out).mono ?_
   rintro e1 w2 ⟨rfl, hb2⟩
   have HE2 := hid ((HE1.out.trans hb2).alloc (.cells zeroE.c 24))
   have HQ2 := hid ((HQ1.out.ext hb2).alloc (.cells zeroE.c 24))
   have HN2 := hid ((HN1.out.ext hb2).alloc (.cells zeroE.c 24))
   clear hb2
   obtain ⟨b0, b1, b2, b3⟩ := cells4 HN2.out
   obtain ⟨c0, c1, c2, c3⟩ := cells4 HQ2.out
   have f0 := Blk.frozen HQ2.out 0
   have f1 := Blk.frozen HQ2.out 1
   have f2 := Blk.frozen HQ2.out 2
   have f3 := Blk.frozen HQ2.out 3
   go_wp2_with fail
   obtain ⟨d0, d1, d2, d3⟩ := cells4 (set4_blk (e := zeroE) HQ2.out)
   clear b0 b1 b2 b3 c0 c1 c2 c3 f0 f1 f2 f3
   show bodyPost _ _ _ _ _ (set4 (w2.alloc (.cells zeroE.c 24)) w.heap.size zeroE)
   refine bodyPost_ret (v := .tuple #[zeroE.v, .int .i64 2]) (by simp [results, Tryz.results115, go_sem, d0, d1, d2, d3]) rfl (.none HP.out (Ret.mk rfl (set4_mod HE2.out (by omega))) HT.out)
set_option maxRecDepth 20000 in
theorem ReadPrev_any (l : List UInt8) (hl : l.length <= 1073741824) (w : World) : Calls Tryz.prog 95 #[str l] w (PrevPost l w) := by
 have K := hid (fun W => readEID_any l hl W)
 have HE := hid ((Mod.refl [] w).alloc (.cells #[.int .i64 0, .string ⟨#[]⟩, .int .u64 0, .int .u64 0] 24))
 have HQ : Hid (Blk (w.alloc (.cells #[.int .i64 0, .string ⟨#[]⟩, .int .u64 0, .int .u64 0] 24)) w.heap.size 24 zeroE.c) := Blk.new w 24 #[.int .i64 0, .string ⟨#[]⟩, .int .u64 0, .int .u64 0]
 go_enter Tryz.func95, Tryz.ntmps95
 go_wp2_with fail
 refine (K.out _).mono ?_
 rintro e1 w1 h1
 obtain ⟨E, n, rfl, hb1, hP⟩ : ∃ E n, e1 = .returned (.tuple #[EV.v E, .int .i64 n]) /\ Ext (w.alloc (.cells #[.int .i64 0, .string ⟨#[]⟩, .int .u64 0, .int .u64 0] 24)) w1 /\ ∀ W W', Ext W W' -> PrevPost l W (.returned (.tuple #[EV.v E, .int .i64 n])) W' := ⟨_, _, h1.1.1, h1.1.2, fun W W' h => ⟨⟨rfl, h⟩, h1.2⟩⟩
 have HE1 := hid (HE.out.trans hb1)
 have HQ1 := hid (HQ.out.ext hb1)
 have HP := hid hP
 clear hb1 hP h1
 obtain ⟨c0, c1, c2, c3⟩ := cells4 HQ1.out
 have f0 := Blk.frozen HQ1.out 0
 have f1 := Blk.frozen HQ1.out 1
 have f2 := Blk.frozen HQ1.out 2
 have f3 := Blk.frozen HQ1.out 3
 go_wp2_with fail
 obtain ⟨d0, d1, d2, d3⟩ := cells4 (set4_blk (e := E) HQ1.out)
 clear c0 c1 c2 c3 f0 f1 f2 f3
 show bodyPost _ _ _ _ _ (set4 w1 w.heap.size E)
 refine bodyPost_ret (v := .tuple #[E.v, .int .i64 n]) (by simp [results, Tryz.results95, go_sem, d0, d1, d2, d3]) rfl (HP.out _ _ (set4_mod HE1.out (by omega)))
end Go.Proofs.YthecmnbkjchjmaaGreat


namespace Go.Proofs.YthecmnbkjchjmaaGreat
open Go.RowKit
set_option linter.unusedVariables false
set_option linter.unusedSimpArgs false

set_option maxRecDepth 20000 in
theorem ra1_kind (t : T) (hk : t.kind ≠ 0) (A : Option Addr) (c : Nat) (w : World) : Calls Tryz.prog 69 #[itemV t A c] w (Ret (.tuple #[.int .u64 (t.n : Int), .bool false]) w) := by
 have n1 : (t.kind == 0) = false := by simpa using hk
 have n2 : (t.kind = 0) = False := by simpa using hk
 have n3 : (t.kind != 0) = true := by simpa using hk
 clear hk
 obtain ⟨kd, hkd⟩ : ∃ x, x = t.kind := ⟨_, rfl⟩
 obtain ⟨nn, hnn⟩ : ∃ x, x = t.n := ⟨_, rfl⟩
 go_enter Tryz.func69, Tryz.ntmps69
 go_wp2_with fail
 go_quiet (fail)
 go_wp2_with fail
 refine bodyPost_ret (v := .tuple #[.int .u64 (t.n : Int), .bool false]) (by simp [results, Tryz.results69, go_sem]) rfl (Ret.mk rfl (by first | exact ((Mod.refl _ _).alloc _).drewN _ | exact ((Mod.refl _ _).alloc _).drew | exact ((Mod.refl _ _).alloc _)))
set_option maxRecDepth 20000 in
theorem ra1_num (t : T) (hk : t.kind = 0) (hn : 1099511627776 < t.n) (A : Option Addr) (c : Nat) (w : World) : Calls Tryz.prog 69 #[itemV t A c] w (Ret (.tuple #[.int .u64 (t.n : Int), .bool false]) w) := by
 have t1 : decide ((t.n : Int) <= 1099511627776) = false := by simp; omega
 have t2 : ((t.n : Int) <= 1099511627776) = False := by simp; omega
 clear hn
 obtain ⟨kd, hkd⟩ : ∃ x, x = t.kind := ⟨_, rfl⟩
 obtain ⟨nn, hnn⟩ : ∃ x, x = t.n := ⟨_, rfl⟩
 go_enter Tryz.func69, Tryz.ntmps69
 go_wp2_with fail
 go_quiet (fail)
 go_wp2_with fail
 refine bodyPost_ret (v := .tuple #[.int .u64 (t.n : Int), .bool false]) (by simp [results, Tryz.results69, go_sem]) rfl (Ret.mk rfl (by first | exact ((Mod.refl _ _).alloc _).drewN _ | exact ((Mod.refl _ _).alloc _).drew | exact ((Mod.refl _ _).alloc _)))
set_option maxRecDepth 20000 in
theorem ra1_ok (t : T) (hk : t.kind = 0) (hn : t.n <= 1099511627776) (A : Option Addr) (c : Nat) (w : World) : Calls Tryz.prog 69 #[itemV t A c] w (Ret (.tuple #[.int .u64 (t.n : Int), .bool true]) w) := by
 have t1 : decide ((t.n : Int) <= 1099511627776) = true := by simp; omega
 have t2 : ((t.n : Int) <= 1099511627776) = True := by simp; omega
 clear hn
 obtain ⟨kd, hkd⟩ : ∃ x, x = t.kind := ⟨_, rfl⟩
 obtain ⟨nn, hnn⟩ : ∃ x, x = t.n := ⟨_, rfl⟩
 go_enter Tryz.func69, Tryz.ntmps69
 go_wp2_with fail
 go_quiet (fail)
 go_wp2_with fail
 refine bodyPost_ret (v := .tuple #[.int .u64 (t.n : Int), .bool true]) (by simp [results, Tryz.results69, go_sem]) rfl (Ret.mk rfl (by first | exact ((Mod.refl _ _).alloc _).drewN _ | exact ((Mod.refl _ _).alloc _).drew | exact ((Mod.refl _ _).alloc _)))
theorem ra1_any (t : T) (A : Option Addr) (c : Nat) (w : World) : Calls Tryz.prog 69 #[itemV t A c] w (Ret (.tuple #[.int .u64 (t.n : Int), .bool (ageB t)]) w) := by
 by_cases hk : t.kind = 0
 .
  by_cases hn : t.n <= 1099511627776
  .
   have : ageB t = true := by simp [ageB, hk, hn]
   rw [this]; exact ra1_ok t hk hn A c w
  .
   have : ageB t = false := by simp [ageB, hk]; omega
   rw [this]; exact ra1_num t hk (by omega) A c w
 .
  have : ageB t = false := by simp [ageB, hk]
  rw [this]; exact ra1_kind t hk A c w
def AgePost (l : List UInt8) (w : World) (e : Ending) (w' : World) : Prop := Ret (.tuple #[.int .u64 (((ageO l).getD 0 : Nat) : Int), .int .i64 (if (ageO l).isSome then 0 else 2)]) w e w'
theorem AgePost.none {l : List UInt8} {w w' : World} {e : Ending} (hp : ageO l = none) (h : Ret (.tuple #[.int .u64 0, .int .i64 2]) w e w') : AgePost l w e w' := by unfold AgePost; rw [hp]; exact h
theorem AgePost.some {l : List UInt8} {w w' : World} {e : Ending} {E : Nat} (hp : ageO l = some E) (h : Ret (.tuple #[.int .u64 (E : Int), .int .i64 0]) w e w') : AgePost l w e w' := by unfold AgePost; rw [hp]; exact h
set_option maxRecDepth 20000 in
theorem readU_any (l : List UInt8) (hl : l.length <= 1073741824) (w : World) : Calls Tryz.prog 68 #[str l, .func (Fn.func 69) #[] #[]] w (AgePost l w) := by
 have K := hid (fun W => parse_any l hl W)
 go_enter Tryz.func68, Tryz.ntmps68
 go_wp2_with fail
 refine (K.out _).mono ?_
 rintro e1 w1 ⟨hb1, ⟨hz, rfl⟩ | ⟨hz, t, A, c, rfl, ⟨hr, hok⟩, hbt, hl1⟩⟩
 .
  have HP := hid (ageO_bad hz)
  have g1 : ((parseR l).2 == 0) = false := by simpa using hz
  have g2 : ((parseR l).2 = 0) = False := by simpa using hz
  have g3 : ((parseR l).2 != 0) = true := by simpa using hz
  have HE1 := hid (hb1.alloc (.cells (itemC nulT none 0) 86))
  clear hz hb1
  go_wp2_with fail
  refine bodyPost_ret (v := .tuple #[.int .u64 0, .int .i64 2]) (by simp [results, Tryz.results68, go_sem]) rfl (.none HP.out (Ret.mk rfl HE1.out))
 .
  have hP := ageO_tree hr hok
  rw [hbt] at hP
  have HE1 := hid (hb1.alloc (.cells (itemC t A c) 86))
  clear hz hb1
  by_cases hB : ageB t = true
  .
   have KO := hid (fun W => ra1_any t A c W)
   rw [hB] at KO
   rw [if_pos hB] at hP
   have HP := hid hP
   clear hl1 hr hok hB hbt hP K
   go_wp2_with fail
   refine (KO.out _).mono ?_
   rintro e1 w2 ⟨rfl, hb2⟩
   go_wp2_with fail
   refine bodyPost_ret (v := .tuple #[.int .u64 (t.n : Int), .int .i64 0]) (by simp [results, Tryz.results68, go_sem]) rfl (.some HP.out (Ret.mk rfl (HE1.out.trans hb2)))
  .
   have KO := hid (fun W => ra1_any t A c W)
   have hB2 : ageB t = false := by simpa using hB
   rw [hB2] at KO
   rw [if_neg hB] at hP
   have HP := hid hP
   clear hl1 hr hok hB hB2 hbt hP K
   go_wp2_with fail
   refine (KO.out _).mono ?_
   rintro e1 w2 ⟨rfl, hb2⟩
   go_wp2_with fail
   refine bodyPost_ret (v := .tuple #[.int .u64 0, .int .i64 2]) (by simp [results, Tryz.results68, go_sem]) rfl (.none HP.out (Ret.mk rfl (HE1.out.trans hb2)))
set_option maxRecDepth 20000 in
theorem ReadAge_any (l : List UInt8) (hl : l.length <= 1073741824) (w : World) : Calls Tryz.prog 43 #[str l] w (AgePost l w) := by
 have K := hid (fun W => readU_any l hl W)
 go_enter Tryz.func43, Tryz.ntmps43
 go_wp2_with fail
 refine (K.out _).mono ?_
 rintro e1 w1 h1
 obtain ⟨m, n, rfl, hb1, hP⟩ : ∃ (m : Nat) (n : Int), e1 = .returned (.tuple #[.int .u64 (m : Int), .int .i64 n]) /\ Ext w w1 /\ ∀ W W', Ext W W' -> AgePost l W (.returned (.tuple #[.int .u64 (m : Int), .int .i64 n])) W' := ⟨_, _, h1.1, h1.2, fun W W' h => ⟨rfl, h⟩⟩
 have HP := hid hP
 clear hP h1
 go_wp2_with fail
 refine bodyPost_ret (v := .tuple #[.int .u64 (m : Int), .int .i64 n]) (by simp [results, Tryz.results43, go_sem]) rfl (HP.out _ _ hb1)
end Go.Proofs.YthecmnbkjchjmaaGreat
