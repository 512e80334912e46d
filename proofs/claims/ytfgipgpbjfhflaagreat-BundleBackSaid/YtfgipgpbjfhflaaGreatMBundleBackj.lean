/-
 A right primary comes again from its item, plainly.
 block.read: of any item.
 block.Of: of any item.
 Which items are blocks, plainly: just those that are the same as a right block's own item.
 The law BlockBack, walked.
 Which names, primaries and bundles are of a size that is looked at.
 Primaries: their names; the whole's primary; the primary that the laws wake the program by.
-/
import Derived.Test.YtfgipgpbjfhflaaGreatMBundleBacki

namespace Go.Proofs.YtfgipgpbjfhflaaGreat
open Go.RowKit
set_option linter.unusedVariables false
set_option linter.unusedSimpArgs false

theorem same_list {L : List T} {t : T} (h : (listT L).same t = true) : t.kind = 4 ∧ t.n = 0 ∧ t.s = [] ∧ t.op = false ∧ t.k = L.length ∧ ∀ (i : Nat) (x : T), L[i]? = some x → x.same (t.ch i) = true := by
 have g := same_mk h
 refine ⟨g.1, g.2.1, g.2.2.1, g.2.2.2.1, g.2.2.2.2.1, fun i x hx => ?_⟩
 have hi : i < L.length := by
  rcases Nat.lt_or_ge i L.length with h | h
  · exact h
  · rw [List.getElem?_eq_none h] at hx; exact absurd hx (by simp)
 have := g.2.2.2.2.2 i hi
 rw [hx] at this
 exact this
theorem list_same {L : List T} {t : T} (h1 : t.kind = 4) (h2 : t.n = 0) (h3 : t.s = []) (h4 : t.op = false) (h5 : t.k = L.length) (h6 : ∀ (i : Nat) (x : T), L[i]? = some x → x.same (t.ch i) = true) : (listT L).same t = true := by
 unfold listT T.same
 rw [h1, h2, h3, h4, h5]
 simp only [beq_self_eq_true, Bool.true_and, T.all_iff]
 intro i hi
 exact h6 i _ (by rw [List.getElem?_eq_getElem hi]; rfl)
theorem num_same {n : Nat} {t : T} (h : (numT n).same t = true) : t.kind = 0 ∧ t.n = n := ⟨(same_mk h).1, (same_mk h).2.1⟩
theorem str_same {s : List UInt8} {t : T} (h : (strT s).same t = true) : t.kind = 2 ∧ t.s = s := ⟨(same_mk h).1, (same_mk h).2.2.1⟩
/-- The items ahead of the sum. -/
def priF (p : PV) (k : Nat) : List T := [numT 7, numT p.fl, numT k, eidT p.d, eidT p.s, eidT p.r, listT [numT p.t, numT p.q], numT p.l] ++ (if p.fl % 2 = 1 then [numT p.o, numT p.n] else [])
theorem priL_front (p : PV) (k : Nat) (s : List UInt8) : priL p k s = priF p k ++ (if k = 0 then [] else [strT s]) := by
 unfold priL priF; rw [List.append_assoc]
theorem priF_length (p : PV) (k : Nat) : (priF p k).length = 8 + (if p.fl % 2 = 1 then 2 else 0) := by
 unfold priF; split <;> rfl
theorem front_same {p : PV} {k : Nat} {s Z : List UInt8} {t : T} (hk : k ≠ 0) (h : (priT p k s).same t = true) : (priT p k Z).same (lastZ t Z) = true := by
 obtain ⟨h1, h2, h3, h4, h5, h6⟩ := same_list h
 rw [priL_front, if_neg hk] at h5 h6
 have hl : t.k = (priF p k).length + 1 := by rw [h5]; simp
 unfold priT
 rw [priL_front, if_neg hk]
 refine list_same rfl rfl rfl rfl (by rw [lastZ_k (by omega), hl]; simp) (fun i x hx => ?_)
 have hi : i < (priF p k).length + 1 := by
  rcases Nat.lt_or_ge i ((priF p k).length + 1) with h | h
  · exact h
  · rw [List.getElem?_eq_none (by simp; omega)] at hx; exact absurd hx (by simp)
 rw [lastZ_ch (by omega)]
 by_cases e : i = (priF p k).length
 ·
  rw [if_pos (by omega)]
  rw [e, List.getElem?_append_right (Nat.le_refl _)] at hx
  simp at hx
  subst hx
  exact T.same_refl _
 ·
  rw [if_neg (by omega)]
  refine h6 i x ?_
  rw [List.getElem?_append_left (by omega)] at hx ⊢
  exact hx
theorem last_same2 {p : PV} {k : Nat} {s : List UInt8} {t : T} (hk : k ≠ 0) (h : (priT p k s).same t = true) : (lastZ t s).same t = true := by
 obtain ⟨h1, h2, h3, h4, h5, h6⟩ := same_list h
 rw [priL_front, if_neg hk] at h5 h6
 have hl : t.k = (priF p k).length + 1 := by rw [h5]; simp
 refine list_same h1 h2 h3 h4 (by rw [List.length_append, frontL_length]; simp; omega) (fun i x hx => ?_)
 have hi : i < t.k := by
  rcases Nat.lt_or_ge i t.k with h | h
  · exact h
  · rw [List.getElem?_eq_none (by rw [List.length_append, frontL_length]; simp; omega)] at hx; exact absurd hx (by simp)
 by_cases e : i = t.k - 1
 ·
  rw [e, List.getElem?_append_right (by rw [frontL_length]; omega), frontL_length] at hx
  simp at hx
  subst hx
  have := h6 (priF p k).length (strT s) (by rw [List.getElem?_append_right (Nat.le_refl _)]; simp)
  rw [show i = (priF p k).length by omega]
  exact this
 ·
  rw [List.getElem?_append_left (by rw [frontL_length]; omega)] at hx
  have hx2 : x = t.ch i := by
   unfold frontL at hx
   rw [List.getElem?_map, List.getElem?_range (by omega)] at hx
   simpa using hx.symm
  rw [hx2]
  exact T.same_refl _
theorem right_upP (t : T) : ∀ d, t.right d = true → t.right (d + 1) = true := by
 induction t with
 | nil => intro d h; exact h
 | mk kind n s op k ch ih =>
  intro d h
  unfold T.right at h ⊢
  by_cases h0 : d < 1
  · rw [if_pos h0] at h; cases h
  ·
   rw [if_neg h0, Bool.and_eq_true, T.all_iff] at h
   rw [if_neg (by omega), Bool.and_eq_true, T.all_iff]
   exact ⟨h.1, fun i hi => by have := ih i (d - 1) (h.2 i hi); rw [show d + 1 - 1 = d - 1 + 1 by omega]; exact this⟩
theorem nm_back {e : EV} (he : e.ok = true) {t : T} (hr : t.right 8 = true) (hok : t.ok) (h : (eidT e).same t = true) : ofB t = true ∧ nmE t = e := by
 obtain ⟨e1, e2⟩ := prev_tree hr hok (e := e) ⟨he, T.same_bytes _ _ hok h⟩
 exact ⟨e2, by unfold nmE; rw [if_pos e2, e1]⟩
/-- What read reads of a right primary's item. -/
theorem read_back {p : PV} (h : p.right = 0) {t : T} (hr : t.right 8 = true) (hok : t.ok) (hs : p.tree.same t = true) : readR nilP [] t = (p, priSum p p.crc.toNat, false) := by
 have hra := PV.right_ranged h
 obtain ⟨d1, d2, d3, c0, c2, _, _, _, _, _, _⟩ := PV.ranged_spec hra
 obtain ⟨k, hk⟩ : ∃ k, p.crc.toNat = k := ⟨_, rfl⟩
 have hkc : p.crc = (k : Int) := by omega
 have hk2 : k ≤ 2 := by omega
 unfold PV.tree at hs
 rw [hk] at hs ⊢
 have hsl := priSum_length p hk2
 generalize priSum p k = S at *
 obtain ⟨g1, g2, g3, g4, g5, g6⟩ := same_list hs
 rw [priL_length] at g5
 have k8 : 8 ≤ t.k := by rw [g5]; unfold priN; omega
 rw [priL_front] at g6
 have i0 : ∀ (i : Nat) (x : T), (priF p k)[i]? = some x → x.same (t.ch i) = true := fun i x hx => g6 i x (by
  have hi : i < (priF p k).length := by
   rcases Nat.lt_or_ge i (priF p k).length with h | h
   · exact h
   · rw [List.getElem?_eq_none h] at hx; exact absurd hx (by simp)
  rw [List.getElem?_append_left hi]; exact hx)
 have q0 := num_same (i0 0 (numT 7) rfl)
 have q1 := num_same (i0 1 (numT p.fl) rfl)
 have q2 := num_same (i0 2 (numT k) rfl)
 have q7 := num_same (i0 7 (numT p.l) rfl)
 have hk6 : ∀ i, i < t.k → (t.ch i).right 7 = true := fun i hi => chk_right hr hi
 have up : ∀ u : T, u.right 7 = true → u.right 8 = true := fun u hu => right_upP u 7 hu
 have n3 := nm_back d1 (up _ (hk6 3 (by omega))) (chk_ok hok (by omega)) (i0 3 (eidT p.d) rfl)
 have n4 := nm_back d2 (up _ (hk6 4 (by omega))) (chk_ok hok (by omega)) (i0 4 (eidT p.s) rfl)
 have n5 := nm_back d3 (up _ (hk6 5 (by omega))) (chk_ok hok (by omega)) (i0 5 (eidT p.r) rfl)
 obtain ⟨w1, w2, w3, w4, w5, w6⟩ := same_list (i0 6 (listT [numT p.t, numT p.q]) rfl)
 have w5 : (t.ch 6).k = 2 := w5
 have q60 := num_same (w6 0 (numT p.t) rfl)
 have q61 := num_same (w6 1 (numT p.q) rfl)
 have hhead : headR t = true := by unfold headR; rw [hr, g1, g4, decide_eq_true k8]; rfl
 have hnum : numsR t := by
  unfold numsR
  rw [kidT_eq]
  refine ⟨⟨q0.1, q1.1, q2.1⟩, q0.2, ?_⟩
  rw [g5, q1.2, q2.2]
  unfold priN cntN
  have : (if k = 0 then 0 else 1) = (if k = 1 ∨ k = 2 then 1 else 0) := by split <;> split <;> omega
  rw [this]
 have hmin : ((min k 3 : Nat) : Int) = p.crc := by rw [hkc]; omega
 unfold readR
 rw [if_neg (by rw [hhead]; decide), if_neg (fun h => h hnum), kidT_eq]
 have hnb : nmB false (fun i => t.ch (i + 3)) 3 = false := by
  show (((false || !ofB (t.ch 3)) || !ofB (t.ch 4)) || !ofB (t.ch 5)) = false
  rw [n3.1, n4.1, n5.1]; rfl
 rw [if_neg (by rw [hnb]; decide)]
 have hP : nmP (flcR nilP t) (fun i => t.ch (i + 3)) 3 = { nilP with fl := p.fl, crc := p.crc, d := p.d, s := p.s, r := p.r } := by
  show ({ flcR nilP t with d := nmE (t.ch 3), s := nmE (t.ch 4), r := nmE (t.ch 5) } : PV) = _
  rw [n3.2, n4.2, n5.2]
  unfold flcR
  rw [kidT_eq, q1.2, q2.2, hmin]
 rw [hP]
 unfold restR
 have hwhen : whenR (t.ch 6) = true := by unfold whenR; rw [w1, w4, w5]; rfl
 have k60 : kidT (t.ch 6) = (t.ch 6).ch := kidT_eq _
 rw [if_neg (show ¬ whenR ((fun i => t.ch (i + 6)) 0) = false by show ¬ whenR (t.ch 6) = false; rw [hwhen]; decide)]
 rw [if_neg (show ¬ ¬ ((kidT ((fun i => t.ch (i + 6)) 0) 0).kind = 0 ∧ (kidT ((fun i => t.ch (i + 6)) 0) 1).kind = 0 ∧ ((fun i => t.ch (i + 6)) 1).kind = 0) from fun h => h (by
  show (kidT (t.ch 6) 0).kind = 0 ∧ (kidT (t.ch 6) 1).kind = 0 ∧ (t.ch 7).kind = 0
  rw [k60]; exact ⟨q60.1, q61.1, q7.1⟩))]
 have hT : tqlR { nilP with fl := p.fl, crc := p.crc, d := p.d, s := p.s, r := p.r } (fun i => t.ch (i + 6)) = { nilP with fl := p.fl, crc := p.crc, d := p.d, s := p.s, r := p.r, t := p.t, q := p.q, l := p.l } := by
  show ({ nilP with fl := p.fl, crc := p.crc, d := p.d, s := p.s, r := p.r, t := (kidT (t.ch 6) 0).n, q := (kidT (t.ch 6) 1).n, l := (t.ch 7).n } : PV) = _
  rw [k60, q60.2, q61.2, q7.2]
 rw [hT]
 have hsum : ∀ (P : PV) (j : Nat), P.crc = p.crc → (k ≠ 0 → (strT S).same (t.ch (j + 6)) = true) → sumR P [] (if k = 0 then 0 else 1) (t.ch (j + 6)) = (P, S, false) := by
  intro P j hc hh
  unfold sumR
  by_cases h0 : k = 0
  ·
   rw [if_pos h0, if_pos rfl]
   have : S = [] := by rw [h0] at hsl; exact List.eq_nil_of_length_eq_zero hsl
   rw [this]
  ·
   rw [if_neg h0, if_neg (by decide)]
   obtain ⟨a1, a2⟩ := str_same (hh h0)
   rw [a1, a2, hc, hkc, hsl]
   simp
 have hr0 := h
 unfold PV.right at hr0
 rw [if_neg (by rw [hra]; decide)] at hr0
 by_cases hf : p.fl % 2 = 1
 ·
  rw [if_pos (show ({ nilP with fl := p.fl, crc := p.crc, d := p.d, s := p.s, r := p.r, t := p.t, q := p.q, l := p.l } : PV).fl % 2 = 1 from hf)]
  have hF : ∀ i : Nat, (priF p k)[i]? = ([numT 7, numT p.fl, numT k, eidT p.d, eidT p.s, eidT p.r, listT [numT p.t, numT p.q], numT p.l] ++ [numT p.o, numT p.n])[i]? := fun i => by unfold priF; rw [if_pos hf]
  have q8 := num_same (i0 8 (numT p.o) (by rw [hF]; rfl))
  have q9 := num_same (i0 9 (numT p.n) (by rw [hF]; rfl))
  rw [if_neg (show ¬ ¬ (((fun i => t.ch (i + 6)) 2).kind = 0 ∧ ((fun i => t.ch (i + 6)) 3).kind = 0) from fun h => h ⟨q8.1, q9.1⟩)]
  have hkk : t.k - 6 - 4 = (if k = 0 then 0 else 1) := by rw [g5]; unfold priN; rw [if_pos hf]; omega
  rw [hkk]
  have hfr : fragR { nilP with fl := p.fl, crc := p.crc, d := p.d, s := p.s, r := p.r, t := p.t, q := p.q, l := p.l } (fun i => t.ch (i + 6)) = p := by
   show ({ nilP with fl := p.fl, crc := p.crc, d := p.d, s := p.s, r := p.r, t := p.t, q := p.q, l := p.l, o := (t.ch 8).n, n := (t.ch 9).n } : PV) = p
   rw [q8.2, q9.2]
  rw [hfr]
  exact hsum p 4 rfl (fun h0 => by
   have := g6 10 (strT S) (by rw [List.getElem?_append_right (by rw [priF_length, if_pos hf]; omega), priF_length, if_pos hf, if_neg h0]; rfl)
   exact this)
 ·
  rw [if_neg (show ¬ ({ nilP with fl := p.fl, crc := p.crc, d := p.d, s := p.s, r := p.r, t := p.t, q := p.q, l := p.l } : PV).fl % 2 = 1 from hf)]
  have ho : p.o = 0 ∧ p.n = 0 := by
   by_cases g : (p.fl % 2 = 1 ∧ (p.fl / 4 % 2 = 1 ∨ p.n ≤ p.o)) ∨ (¬ p.fl % 2 = 1 ∧ (0 < p.o ∨ 0 < p.n))
   · rw [if_pos g] at hr0; exact absurd hr0 (by decide)
   ·
    constructor
    ·
     rcases Nat.eq_zero_or_pos p.o with e | e
     · exact e
     · exact absurd (Or.inr ⟨hf, Or.inl e⟩) g
    ·
     rcases Nat.eq_zero_or_pos p.n with e | e
     · exact e
     · exact absurd (Or.inr ⟨hf, Or.inr e⟩) g
  have hkk : t.k - 6 - 2 = (if k = 0 then 0 else 1) := by rw [g5]; unfold priN; rw [if_neg hf]; omega
  rw [hkk]
  have hfr : ({ nilP with fl := p.fl, crc := p.crc, d := p.d, s := p.s, r := p.r, t := p.t, q := p.q, l := p.l } : PV) = p := by
   obtain ⟨f, c, dd, ss, rr, tt, qq, ll, oo, nn⟩ := p
   have ho1 : oo = 0 := ho.1
   have ho2 : nn = 0 := ho.2
   rw [ho1, ho2]; rfl
  rw [hfr]
  exact hsum p 2 rfl (fun h0 => by
   have := g6 8 (strT S) (by rw [List.getElem?_append_right (by rw [priF_length, if_neg hf]; omega), priF_length, if_neg hf, if_neg h0]; rfl)
   exact this)
theorem of_back {p : PV} (h : p.right = 0) {t : T} (hr : t.right 8 = true) (hok : t.ok) (hsz : t.size ≤ 5000) (hs : p.tree.same t = true) : ofP t = (p, 0) := by
 have hb := read_back h hr hok hs
 have hra := PV.right_ranged h
 obtain ⟨d1, d2, d3, c0, c2, _, _, _, _, _, _⟩ := PV.ranged_spec hra
 unfold ofP
 rw [hb]
 simp only []
 rw [if_neg (by decide), if_neg ?_, if_neg (fun h0 => h0 h)]
 rintro ⟨h1, h2⟩
 obtain ⟨k, hk⟩ : ∃ k, p.crc.toNat = k := ⟨_, rfl⟩
 have hk2 : k ≤ 2 := by omega
 rw [hk] at h1 h2
 have hk0 : k ≠ 0 := by intro e; rw [e] at h1; exact h1 rfl
 have hs' : (priT p k (priSum p k)).same t = true := by have := hs; unfold PV.tree at this; rw [hk] at this; exact this
 have hk11 : t.k ≤ 11 := by
  have := (same_list hs').2.2.2.2.1
  rw [priL_length] at this
  rw [this]; unfold priN; by_cases f1 : p.fl % 2 = 1 <;> by_cases f2 : k = 0 <;> simp [f1, f2]
 have hk0' : 0 < t.k := by
  have := (same_list hs').2.2.2.2.1
  rw [priL_length] at this
  rw [this]; unfold priN; omega
 have hz := lastZ_all hok hr hk11 hk0' hsz (Z := List.replicate (2 * k) 0) (by simp; omega)
 have e1 : (lastZ t (List.replicate (2 * k) 0)).bytes = priB p k (List.replicate (2 * k) 0) := by
  rw [← priT_bytes]
  exact (T.same_bytes _ _ hz.1 (front_same (Z := List.replicate (2 * k) 0) hk0 hs')).symm
 have e2 : sumTr t k = lastZ t (priSum p k) := by
  unfold sumTr priSum
  rw [e1, if_neg hk0]
 rw [e2, last_same2 hk0 hs'] at h2
 exact absurd h2 (by decide)
end Go.Proofs.YtfgipgpbjfhflaaGreat


namespace Go.Proofs.YtfgipgpbjfhflaaGreat
open Go.RowKit
set_option linter.unusedVariables false
set_option linter.unusedSimpArgs false

/-- The block that an item may be. -/
def blkOf (t : T) : BV := ⟨numO (t.ch 0).n, numO (t.ch 1).n, (t.ch 2).n, numO (t.ch 3).n, (t.ch 4).s⟩
/-- Is its sum right? -/
def sumOK (t : T) (k : Nat) : Prop := (t.ch 5).kind = 2 ∧ (t.ch 5).s.length = 2 * k ∧ (lastT t.ch (Crc.sumL k (bldL (lastT t.ch (List.replicate (2 * k) 0))))).right 8 = true ∧ (lastT t.ch (Crc.sumL k (bldL (lastT t.ch (List.replicate (2 * k) 0))))).same t = true
/-- Is it a block's? -/
def BlkOK (t : T) : Prop :=
 (t.right 8 = true ∧ t.kind = 4 ∧ t.op = false ∧ 5 ≤ t.k) ∧ ((t.ch 0).kind = 0 ∧ (t.ch 1).kind = 0 ∧ (t.ch 3).kind = 0) ∧ ((t.ch 2).kind = 0 ∧ (t.ch 4).kind = 2) ∧
 (((t.ch 3).n = 0 ∨ 2 < (t.ch 3).n) ∧ t.k = 5 ∨ (1 ≤ (t.ch 3).n ∧ (t.ch 3).n ≤ 2) ∧ t.k = 6 ∧ sumOK t (t.ch 3).n) ∧ (blkOf t).right = 0
theorem lastT_facts {t : T} (hok : t.ok) (hk : t.k = 6) (s : List UInt8) (hs : s.length ≤ 100) : (lastT t.ch s).ok ∧ (lastT t.ch s).size ≤ t.size + 101 := by
 cases t with
 | nil => cases hok
 | mk kind n s0 op k ch =>
  have hk : k = 6 := hk
  subst hk
  have hc : ∀ i, i < 6 → (ch i).ok := by unfold T.ok at hok; exact hok.2.2.2.2
  have hso : (strT s).ok := by unfold strT T.ok; exact ⟨by omega, by omega, by omega, by omega, fun i hi => by omega⟩
  have hss : (strT s).size = 1 + s.length := by unfold strT T.size; simp [T.sum]
  constructor
  ·
   unfold lastT T.ok
   refine ⟨by omega, by omega, by simp, by omega, fun i hi => ?_⟩
   by_cases e : i = 5
   · subst e; exact hso
   · show (if i = 5 then strT s else ch i).ok; rw [if_neg e]; exact hc i hi
  ·
   show 1 + ([] : List UInt8).length + T.sum (fun i => (if i = 5 then strT s else ch i).size) 6 ≤ 1 + s0.length + T.sum (fun i => (ch i).size) 6 + 101
   simp [T.sum, hss]
   omega
theorem bldL_length (t : T) : (bldL t).length ≤ 10 * t.size := by
 unfold bldL
 split
 · exact T.bytes_le t
 · simp
theorem six_of {t : T} (hr : t.right 8 = true) (hk : t.kind = 4) (ho : t.op = false) (h6 : t.k = 6) : t = T.mk 4 0 [] false 6 t.ch := by
 cases t with
 | nil => cases hr
 | mk kind n s op k ch =>
  have hk : kind = 4 := hk
  have ho : op = false := ho
  have h6 : k = 6 := h6
  subst hk ho h6
  have hn : T.node 4 n s false 6 = true := by
   have : (T.mk 4 n s false 6 ch).right 8 = (if 8 < 1 then false else T.node 4 n s false 6 && T.all (fun i => (ch i).right (8 - 1)) 6) := rfl
   rw [this, if_neg (by omega)] at hr
   exact (Bool.and_eq_true_iff.1 hr).1
  unfold T.node at hn
  simp at hn
  obtain ⟨rfl, rfl⟩ := hn
  rfl
def ReadPost (t : T) (w : World) (e : Ending) (w' : World) : Prop := (BlkOK t ∧ Ret (blkOf t).v w e w') ∨ (¬ BlkOK t ∧ ∃ r : Int, r ≠ 0 ∧ Pan r w e w')
theorem IsL.row5 {t : T} {W : World} {Q : Nat → Prop} {A : Option Addr} (hok : t.ok) (h : IsL W Q t A) (hk : 0 < t.k) : ∃ b o, ∃ ac : Nat → Option Addr × Nat, A = some ⟨b, o, none⟩ ∧ b < W.heap.size ∧ ∀ i, i < t.k → At5 W b (o + i * 5) (t.ch i) (ac i).1 (ac i).2 ∧ IsL W Q (t.ch i) (ac i).1 := by
 cases t with
 | nil => cases hok
 | mk kind n s op k ch =>
  obtain ⟨b, o, ac, h1, h2, _, h3⟩ := h.rows hk
  exact ⟨b, o, ac, h1, h2, h3⟩
theorem T.ch_ok {t : T} (hok : t.ok) {i : Nat} (hi : i < t.k) : (t.ch i).ok := by
 cases t with
 | nil => cases hok
 | mk kind n s op k ch => unfold T.ok at hok; exact hok.2.2.2.2 i hi
theorem T.n_lt {t : T} (hok : t.ok) : t.n < 18446744073709551616 := by
 cases t with
 | nil => cases hok
 | mk kind n s op k ch => unfold T.ok at hok; exact hok.2.1
set_option maxRecDepth 20000 in
set_option maxHeartbeats 8000000 in
theorem bread_any (t : T) (hok : t.ok) (hsz : t.size ≤ 50000) (A : Option Addr) (c : Nat) (w : World) (h : IsL w (fun _ => True) t A) : Calls Tryz.prog 69 #[itemV t A c] w (ReadPost t w) := by
 have KI := hid (fun W (hW : IsL W (fun _ => True) t A) => iRight_any t hok A c W hW)
 have KY := hid (fun W => need_yes 2 W)
 have KZ := hid (fun W => need_no 2 W)
 have HE := hid (((Mod.refl [] w).alloc (.cells (itemC t A c) 52)).alloc (.cells #[.int .i64 0, .int .i64 0, .int .u64 0, .int .i64 0, .string ⟨#[]⟩] 42))
 have HB0 : Hid (Blk ((w.alloc (.cells (itemC t A c) 52)).alloc (.cells #[.int .i64 0, .int .i64 0, .int .u64 0, .int .i64 0, .string ⟨#[]⟩] 42)) w.heap.size 52 (itemC t A c)) := hid ((Blk.new w 52 (itemC t A c)).alloc (.cells #[.int .i64 0, .int .i64 0, .int .u64 0, .int .i64 0, .string ⟨#[]⟩] 42))
 have HB1 : Hid (Blk ((w.alloc (.cells (itemC t A c) 52)).alloc (.cells #[.int .i64 0, .int .i64 0, .int .u64 0, .int .i64 0, .string ⟨#[]⟩] 42)) (w.heap.size + 1) 42 #[.int .i64 0, .int .i64 0, .int .u64 0, .int .i64 0, .string ⟨#[]⟩]) := by unfold Hid; exact Blk.newL _ _ _ (by simp)
 have HL := hid (h.ext HE.out)
 have HO := hid hok
 have HSZ := hid hsz
 have HP := hid (show ReadPost t w = ReadPost t w from rfl)
 clear h hok hsz
 go_enter Tryz.func69, Tryz.ntmps69
 go_upto_region 1 with fail
 generalize ((w.alloc (.cells (itemC t A c) 52)).alloc (.cells #[.int .i64 0, .int .i64 0, .int .u64 0, .int .i64 0, .string ⟨#[]⟩] 42)) = V at *
 obtain ⟨e, he⟩ := Later.self V
 rw [he]
 clear he
 have b0 : ∀ e : Later V, e.x.cell? ⟨w.heap.size, 0, none⟩ = some (.int .i64 t.kind) := HB0.out.cellL 0 rfl
 have b3 : ∀ e : Later V, e.x.cell? ⟨w.heap.size, 3, none⟩ = some (.slice A t.k c) := HB0.out.cellL 3 rfl
 have b4 : ∀ e : Later V, e.x.cell? ⟨w.heap.size, 4, none⟩ = some (.bool t.op) := HB0.out.cellL 4 rfl
 cases hr : t.right 8 with
 | false =>
  have HR := hid hr
  rw [hr] at KI
  clear hr
  go_wp2_with (first | (refine wpList_row (by rfl) 52 _ rfl _ rfl (HB0.out.later _) Tryz.underlying52 rfl (by kernel_rfl) ?_) | (go_at_call 70; refine (Ret.later (KI.out _ (HL.out.ext (Later.h _)))).mono ?_; rintro x _ ⟨rfl, e, rfl⟩) | (go_at_call 103; refine (KZ.out _).mono ?_; rintro x w1 ⟨rfl, hb1⟩))
  exact ⟨rfl, .inr ⟨fun hc => by have h1 := hc.1.1; rw [HR.out] at h1; exact absurd h1 (by decide), 2, by decide, rfl, HE.out.trans (e.h.trans hb1)⟩⟩
 | true =>
 have HR := hid hr
 rw [hr] at KI
 clear hr
 by_cases hk : t.kind = 4
 case neg =>
  have HK := hid hk
  have t1 : (t.kind == 4) = false := by rw [beq_eq_false_iff_ne]; exact hk
  have t2 : (t.kind = 4) = False := eq_false hk
  clear hk
  go_wp2_with (first | (refine wpList_row (by rfl) 52 _ rfl _ rfl (HB0.out.later _) Tryz.underlying52 rfl (by kernel_rfl) ?_) | (go_at_call 70; refine (Ret.later (KI.out _ (HL.out.ext (Later.h _)))).mono ?_; rintro x _ ⟨rfl, e, rfl⟩) | (go_at_call 103; refine (KZ.out _).mono ?_; rintro x w1 ⟨rfl, hb1⟩))
  exact ⟨rfl, .inr ⟨fun hc => HK.out hc.1.2.1, 2, by decide, rfl, HE.out.trans (e.h.trans hb1)⟩⟩
 have HK := hid hk
 have t1 : (t.kind == 4) = true := by rw [hk]; rfl
 have t2 : (t.kind = 4) = True := eq_true hk
 clear hk
 cases ho : t.op with
 | true =>
  have HOP := hid ho
  rw [ho] at b4
  clear ho
  go_wp2_with (first | (refine wpList_row (by rfl) 52 _ rfl _ rfl (HB0.out.later _) Tryz.underlying52 rfl (by kernel_rfl) ?_) | (go_at_call 70; refine (Ret.later (KI.out _ (HL.out.ext (Later.h _)))).mono ?_; rintro x _ ⟨rfl, e, rfl⟩) | (go_at_call 103; refine (KZ.out _).mono ?_; rintro x w1 ⟨rfl, hb1⟩))
  exact ⟨rfl, .inr ⟨fun hc => by have h1 := hc.1.2.2.1; rw [HOP.out] at h1; exact absurd h1 (by decide), 2, by decide, rfl, HE.out.trans (e.h.trans hb1)⟩⟩
 | false =>
 have HOP := hid ho
 rw [ho] at b4
 clear ho
 by_cases h5 : 5 ≤ t.k
 case neg =>
  have H5 := hid h5
  have qa : decide (5 ≤ t.k) = false := decide_eq_false (by omega)
  have qb : (5 ≤ t.k) = False := eq_false (by omega)
  have ra : decide ((5 : Int) ≤ (t.k : Int)) = false := decide_eq_false (by omega)
  have rb : ((5 : Int) ≤ (t.k : Int)) = False := eq_false (by omega)
  clear h5
  go_wp2_with (first | (refine wpList_row (by rfl) 52 _ rfl _ rfl (HB0.out.later _) Tryz.underlying52 rfl (by kernel_rfl) ?_) | (go_at_call 70; refine (Ret.later (KI.out _ (HL.out.ext (Later.h _)))).mono ?_; rintro x _ ⟨rfl, e, rfl⟩) | (go_at_call 103; refine (KZ.out _).mono ?_; rintro x w1 ⟨rfl, hb1⟩))
  exact ⟨rfl, .inr ⟨fun hc => H5.out hc.1.2.2.2, 2, by decide, rfl, HE.out.trans (e.h.trans hb1)⟩⟩
 have H5 := hid h5
 have qa : decide (5 ≤ t.k) = true := decide_eq_true (by omega)
 have qb : (5 ≤ t.k) = True := eq_true (by omega)
 have ra : decide ((5 : Int) ≤ (t.k : Int)) = true := decide_eq_true (by omega)
 have rb : ((5 : Int) ≤ (t.k : Int)) = True := eq_true (by omega)
 clear h5
 go_upto_region 2 with (first | (refine wpList_row (by rfl) 52 _ rfl _ rfl (HB0.out.later _) Tryz.underlying52 rfl (by kernel_rfl) ?_) | (go_at_call 70; refine (Ret.later (KI.out _ (HL.out.ext (Later.h _)))).mono ?_; rintro x _ ⟨rfl, e, rfl⟩) | (go_at_call 103; refine (Ret.later (KY.out _)).mono ?_; rintro x _ ⟨rfl, e, rfl⟩))
 clear b0 b4 KI t1 t2 HP
 obtain ⟨b, o, ac, rfl, hbb, hac⟩ := IsL.row5 HO.out HL.out (by have := H5.out; omega)
 have HBB := hid hbb
 have HAC := hid hac
 have HN := hid (fun i (hi : i < t.k) => T.n_lt (T.ch_ok HO.out hi))
 clear hbb hac
 have HE1 := hid (HE.out.trans e.h)
 have HB0' := hid (HB0.out.later e)
 have HB1' := hid (HB1.out.later e)
 have HL' := hid (HL.out.ext e.h)
 have hbb' := Nat.lt_of_lt_of_le HBB.out e.h.size
 have HAC' : Hid (∀ i, i < t.k → At5 e.x b (o + i * 5) (t.ch i) (ac i).1 (ac i).2) := hid (fun i hi => (HAC.out i hi).1.mod e.h HBB.out (by simp))
 clear HE HB0 HB1 HL HBB HAC b3
 generalize e.x = U at *
 clear e
 have HUS : Hid (w.heap.size + 2 ≤ U.heap.size) := hid (Nat.succ_le_of_lt HB1'.out.lt)
 have HBB := hid hbb'
 clear hbb'
 have b3 : U.cell? ⟨w.heap.size, 3, none⟩ = some (.slice (some ⟨b, o, none⟩) t.k c) := HB0'.out.cell 3
 obtain ⟨x0, x1, x2, x3, x4⟩ : At5 U b o (t.ch 0) (ac 0).1 (ac 0).2 := by simpa using HAC'.out 0 (by have := H5.out; omega)
 obtain ⟨y0, y1, y2, y3, y4⟩ : At5 U b (o + 5) (t.ch 1) (ac 1).1 (ac 1).2 := by simpa using HAC'.out 1 (by have := H5.out; omega)
 obtain ⟨z0, z1, z2, z3, z4⟩ : At5 U b (o + 15) (t.ch 3) (ac 3).1 (ac 3).2 := by simpa using HAC'.out 3 (by have := H5.out; omega)
 have HS : Hid (∀ w', Ext U w' → w'.cell? ⟨w.heap.size, 3, none⟩ = some (.slice (some ⟨b, o, none⟩) t.k c) ∧ w'.cell? ⟨b, o, none⟩ = some (.int .i64 (t.ch 0).kind) ∧ w'.cell? ⟨b, o + 1, none⟩ = some (.int .u64 ((t.ch 0).n : Int)) ∧ w'.cell? ⟨b, o + 2, none⟩ = some (str (t.ch 0).s) ∧ w'.cell? ⟨b, o + 3, none⟩ = some (.slice (ac 0).1 (t.ch 0).k (ac 0).2) ∧ w'.cell? ⟨b, o + 4, none⟩ = some (.bool (t.ch 0).op) ∧ w'.cell? ⟨b, o + 5, none⟩ = some (.int .i64 (t.ch 1).kind) ∧ w'.cell? ⟨b, o + 5 + 1, none⟩ = some (.int .u64 ((t.ch 1).n : Int)) ∧ w'.cell? ⟨b, o + 5 + 2, none⟩ = some (str (t.ch 1).s) ∧ w'.cell? ⟨b, o + 5 + 3, none⟩ = some (.slice (ac 1).1 (t.ch 1).k (ac 1).2) ∧ w'.cell? ⟨b, o + 5 + 4, none⟩ = some (.bool (t.ch 1).op) ∧ w'.cell? ⟨b, o + 15, none⟩ = some (.int .i64 (t.ch 3).kind) ∧ w'.cell? ⟨b, o + 15 + 1, none⟩ = some (.int .u64 ((t.ch 3).n : Int)) ∧ w'.cell? ⟨b, o + 15 + 2, none⟩ = some (str (t.ch 3).s) ∧ w'.cell? ⟨b, o + 15 + 3, none⟩ = some (.slice (ac 3).1 (t.ch 3).k (ac 3).2) ∧ w'.cell? ⟨b, o + 15 + 4, none⟩ = some (.bool (t.ch 3).op)) := hid (fun W hW => by
  obtain ⟨a0, a1, a2, a3, a4⟩ : At5 W b o (t.ch 0) (ac 0).1 (ac 0).2 := At5.mod ⟨x0, x1, x2, x3, x4⟩ hW HBB.out (by simp)
  obtain ⟨c0, c1, c2, c3, c4⟩ : At5 W b (o + 5) (t.ch 1) (ac 1).1 (ac 1).2 := At5.mod ⟨y0, y1, y2, y3, y4⟩ hW HBB.out (by simp)
  obtain ⟨d0, d1, d2, d3, d4⟩ : At5 W b (o + 15) (t.ch 3) (ac 3).1 (ac 3).2 := At5.mod ⟨z0, z1, z2, z3, z4⟩ hW HBB.out (by simp)
  exact ⟨(HB0'.out.ext hW).cell 3, a0, a1, a2, a3, a4, c0, c1, c2, c3, c4, d0, d1, d2, d3, d4⟩)
 have kk : (5 : Int) ≤ (t.k : Int) := by have := H5.out; omega
 have I1 : (1 : Int) < (t.k : Int) := by omega
 have I3 : (3 : Int) < (t.k : Int) := by omega
 have i0 : (0 < t.k) = True := eq_true (by have := H5.out; omega)
 have i1 : (1 < t.k) = True := eq_true (by have := H5.out; omega)
 have i3 : (3 < t.k) = True := eq_true (by have := H5.out; omega)
 have j0 : decide (0 < t.k) = true := decide_eq_true (by have := H5.out; omega)
 have j1 : decide (1 < t.k) = true := decide_eq_true (by have := H5.out; omega)
 have j3 : decide (3 < t.k) = true := decide_eq_true (by have := H5.out; omega)
 by_cases hk0 : (t.ch 0).kind = 0
 case neg =>
  have KB := hid (fun W => bnum_no (t.ch 0) (ac 0).1 (ac 0).2 hk0 W)
  have HKB := hid hk0
  clear hk0
  refine wp_region_held_drew (S := fun w' => Ext U w') (by kernel_rfl) (Mod.refl _ _).drew (fun hHeld => ?_)
  refine' wpAnyH_take (i := 0) (v := _) rfl (by kernel_rfl) (by kernel_rfl) (by kernel_rfl) (fun _ _ _ h => h) (Or.inl ⟨by rfl, ?hy1⟩) hHeld ?rest1
  case hy1 => (rintro W hM; go_simp; (try with_reducible rfl))
  case rest1 =>
  (try simp only [Act.put, gTl, g0l, gSl, sTl, s0l, sSl])
  refine' wpAnyH_take (i := 1) (v := _) rfl (by kernel_rfl) (by kernel_rfl) (by kernel_rfl) (fun _ _ _ h => h) (Or.inl ⟨by rfl, ?hy2⟩) hHeld ?rest2
  case hy2 => (rintro W hM; obtain ⟨hs, p0, p1, p2, p3, p4, q0, q1, q2, q3, q4, r0, r1, r2, r3, r4⟩ := HS.out W hM; go_simp; (try with_reducible rfl))
  case rest2 =>
  (try simp only [Act.put, gTl, g0l, gSl, sTl, s0l, sSl])
  refine' wpAnyH_take (i := 2) (v := _) rfl (by kernel_rfl) (by kernel_rfl) (by kernel_rfl) (fun _ _ _ h => h) (Or.inl ⟨by rfl, ?hy3⟩) hHeld ?rest3
  case hy3 => (rintro W hM; go_simp; (try with_reducible rfl))
  case rest3 =>
  (try simp only [Act.put, gTl, g0l, gSl, sTl, s0l, sSl])
  refine' wpAnyH_take (i := 3) (v := _) rfl (by kernel_rfl) (by kernel_rfl) (by kernel_rfl) (fun _ _ _ h => h) (Or.inl ⟨by rfl, ?hy4⟩) hHeld ?rest4
  case hy4 => (rintro W hM; obtain ⟨hs, p0, p1, p2, p3, p4, q0, q1, q2, q3, q4, r0, r1, r2, r3, r4⟩ := HS.out W hM; go_simp; (try with_reducible rfl))
  case rest4 =>
  (try simp only [Act.put, gTl, g0l, gSl, sTl, s0l, sSl])
  refine' wpAnyH_take (i := 5) (v := _) rfl (by kernel_rfl) (by kernel_rfl) (by kernel_rfl) (fun _ _ _ h => h) (Or.inl ⟨by rfl, ?hy5⟩) hHeld ?rest5
  case hy5 => (rintro W hM; go_simp; (try with_reducible rfl))
  case rest5 =>
  (try simp only [Act.put, gTl, g0l, gSl, sTl, s0l, sSl])
  refine' wpAnyH_take (i := 6) (v := _) rfl (by kernel_rfl) (by kernel_rfl) (by kernel_rfl) (fun _ _ _ h => h) (Or.inl ⟨by rfl, ?hy6⟩) hHeld ?rest6
  case hy6 => (rintro W hM; obtain ⟨hs, p0, p1, p2, p3, p4, q0, q1, q2, q3, q4, r0, r1, r2, r3, r4⟩ := HS.out W hM; go_simp; (try with_reducible rfl))
  case rest6 =>
  (try simp only [Act.put, gTl, g0l, gSl, sTl, s0l, sSl])
  refine' wpAnyH_take (i := 7) (v := _) rfl (by kernel_rfl) (by kernel_rfl) (by kernel_rfl) (fun _ _ _ h => h) (Or.inl ⟨by rfl, ?hy7⟩) hHeld ?rest7
  case hy7 => (rintro W hM; go_simp; (try with_reducible rfl))
  case rest7 =>
  (try simp only [Act.put, gTl, g0l, gSl, sTl, s0l, sSl])
  refine' wpAnyH_take (i := 8) (v := _) rfl (by kernel_rfl) (by kernel_rfl) (by kernel_rfl) (fun _ _ _ h => h) (Or.inl ⟨by rfl, ?hy8⟩) hHeld ?rest8
  case hy8 => (rintro W hM; obtain ⟨hs, p0, p1, p2, p3, p4, q0, q1, q2, q3, q4, r0, r1, r2, r3, r4⟩ := HS.out W hM; go_simp; (try with_reducible rfl))
  case rest8 =>
  (try simp only [Act.put, gTl, g0l, gSl, sTl, s0l, sSl])
  refine' wpAnyH_take (i := 10) (v := _) rfl (by kernel_rfl) (by kernel_rfl) (by kernel_rfl) (fun _ _ _ h => h) (Or.inl ⟨by rfl, ?hy9⟩) hHeld ?rest9
  case hy9 => (rintro W hM; go_simp; (try with_reducible rfl))
  case rest9 =>
  (try simp only [Act.put, gTl, g0l, gSl, sTl, s0l, sSl])
  refine' wpAnyH_take (i := 11) (v := _) rfl (by kernel_rfl) (by kernel_rfl) (by kernel_rfl) (fun _ _ _ h => h) (Or.inl ⟨by rfl, ?hy10⟩) hHeld ?rest10
  case hy10 => (rintro W hM; obtain ⟨hs, p0, p1, p2, p3, p4, q0, q1, q2, q3, q4, r0, r1, r2, r3, r4⟩ := HS.out W hM; go_simp; (try with_reducible rfl))
  case rest10 =>
  (try simp only [Act.put, gTl, g0l, gSl, sTl, s0l, sSl])
  refine' wpAnyH_take (i := 12) (v := _) rfl (by kernel_rfl) (by kernel_rfl) (by kernel_rfl) (fun _ _ _ h => h) (Or.inl ⟨by rfl, ?hy11⟩) hHeld ?rest11
  case hy11 => (rintro W hM; go_simp; (try with_reducible rfl))
  case rest11 =>
  (try simp only [Act.put, gTl, g0l, gSl, sTl, s0l, sSl])
  refine' wpAnyH_take (i := 13) (v := _) rfl (by kernel_rfl) (by kernel_rfl) (by kernel_rfl) (fun _ _ _ h => h) (Or.inl ⟨by rfl, ?hy12⟩) hHeld ?rest12
  case hy12 => (rintro W hM; obtain ⟨hs, p0, p1, p2, p3, p4, q0, q1, q2, q3, q4, r0, r1, r2, r3, r4⟩ := HS.out W hM; go_simp; (try with_reducible rfl))
  case rest12 =>
  (try simp only [Act.put, gTl, g0l, gSl, sTl, s0l, sSl])
  refine wpAnyH_ready (rs := [4, 16]) (by kernel_rfl) (by simp) ?_
  refine AllReadyH.cons rfl (fun K hK => ?_) (AllReadyH.cons rfl (fun K hK => ?_) AllReadyH.nil)
  ·
   go_simp
   (go_at_call 104; refine (KB.out _).mono ?_; rintro x w1 ⟨rfl, hb1⟩)
   exact ⟨rfl, .inr ⟨fun hc => HKB.out hc.2.1.1, 2, by decide, rfl, HE1.out.trans (hHeld.trans hb1)⟩⟩
  ·
   have hB := Blk.new U.drew 42 #[.int .i64 0, .int .i64 0, .int .u64 0, .int .i64 0, .string ⟨#[]⟩]
   have hNN : U.heap.size ≤ U.drew.heap.size := hHeld.size
   go_simp
   refine hK.out _ _ (hHeld.alloc _) (fun hHeld => ?_)
   clear hK K
   (try simp only [Act.put, gTl, g0l, gSl, sTl, s0l, sSl])
   refine wpAnyH_ready (rs := [4]) (by kernel_rfl) (by simp) ?_
   refine AllReadyH.cons rfl (fun K hK => ?_) AllReadyH.nil
   go_simp
   (go_at_call 104; refine (KB.out _).mono ?_; rintro x w1 ⟨rfl, hb1⟩)
   exact ⟨rfl, .inr ⟨fun hc => HKB.out hc.2.1.1, 2, by decide, rfl, HE1.out.trans (hHeld.trans hb1)⟩⟩
 have KN0 := hid (fun W => bnum_yes (t.ch 0) (ac 0).1 (ac 0).2 hk0 (HN.out 0 (by have := H5.out; omega)) W)
 have HK0 := hid hk0
 clear hk0
 by_cases hk1 : (t.ch 1).kind = 0
 case neg =>
  have KB := hid (fun W => bnum_no (t.ch 1) (ac 1).1 (ac 1).2 hk1 W)
  have HKB := hid hk1
  clear hk1
  refine wp_region_held_drew (S := fun w' => Ext U w') (by kernel_rfl) (Mod.refl _ _).drew (fun hHeld => ?_)
  refine' wpAnyH_take (i := 0) (v := _) rfl (by kernel_rfl) (by kernel_rfl) (by kernel_rfl) (fun _ _ _ h => h) (Or.inl ⟨by rfl, ?hy13⟩) hHeld ?rest13
  case hy13 => (rintro W hM; go_simp; (try with_reducible rfl))
  case rest13 =>
  (try simp only [Act.put, gTl, g0l, gSl, sTl, s0l, sSl])
  refine' wpAnyH_take (i := 1) (v := _) rfl (by kernel_rfl) (by kernel_rfl) (by kernel_rfl) (fun _ _ _ h => h) (Or.inl ⟨by rfl, ?hy14⟩) hHeld ?rest14
  case hy14 => (rintro W hM; obtain ⟨hs, p0, p1, p2, p3, p4, q0, q1, q2, q3, q4, r0, r1, r2, r3, r4⟩ := HS.out W hM; go_simp; (try with_reducible rfl))
  case rest14 =>
  (try simp only [Act.put, gTl, g0l, gSl, sTl, s0l, sSl])
  refine' wpAnyH_take (i := 2) (v := _) rfl (by kernel_rfl) (by kernel_rfl) (by kernel_rfl) (fun _ _ _ h => h) (Or.inl ⟨by rfl, ?hy15⟩) hHeld ?rest15
  case hy15 => (rintro W hM; go_simp; (try with_reducible rfl))
  case rest15 =>
  (try simp only [Act.put, gTl, g0l, gSl, sTl, s0l, sSl])
  refine' wpAnyH_take (i := 3) (v := _) rfl (by kernel_rfl) (by kernel_rfl) (by kernel_rfl) (fun _ _ _ h => h) (Or.inl ⟨by rfl, ?hy16⟩) hHeld ?rest16
  case hy16 => (rintro W hM; obtain ⟨hs, p0, p1, p2, p3, p4, q0, q1, q2, q3, q4, r0, r1, r2, r3, r4⟩ := HS.out W hM; go_simp; (try with_reducible rfl))
  case rest16 =>
  (try simp only [Act.put, gTl, g0l, gSl, sTl, s0l, sSl])
  refine' wpAnyH_take (i := 5) (v := _) rfl (by kernel_rfl) (by kernel_rfl) (by kernel_rfl) (fun _ _ _ h => h) (Or.inl ⟨by rfl, ?hy17⟩) hHeld ?rest17
  case hy17 => (rintro W hM; go_simp; (try with_reducible rfl))
  case rest17 =>
  (try simp only [Act.put, gTl, g0l, gSl, sTl, s0l, sSl])
  refine' wpAnyH_take (i := 6) (v := _) rfl (by kernel_rfl) (by kernel_rfl) (by kernel_rfl) (fun _ _ _ h => h) (Or.inl ⟨by rfl, ?hy18⟩) hHeld ?rest18
  case hy18 => (rintro W hM; obtain ⟨hs, p0, p1, p2, p3, p4, q0, q1, q2, q3, q4, r0, r1, r2, r3, r4⟩ := HS.out W hM; go_simp; (try with_reducible rfl))
  case rest18 =>
  (try simp only [Act.put, gTl, g0l, gSl, sTl, s0l, sSl])
  refine' wpAnyH_take (i := 7) (v := _) rfl (by kernel_rfl) (by kernel_rfl) (by kernel_rfl) (fun _ _ _ h => h) (Or.inl ⟨by rfl, ?hy19⟩) hHeld ?rest19
  case hy19 => (rintro W hM; go_simp; (try with_reducible rfl))
  case rest19 =>
  (try simp only [Act.put, gTl, g0l, gSl, sTl, s0l, sSl])
  refine' wpAnyH_take (i := 8) (v := _) rfl (by kernel_rfl) (by kernel_rfl) (by kernel_rfl) (fun _ _ _ h => h) (Or.inl ⟨by rfl, ?hy20⟩) hHeld ?rest20
  case hy20 => (rintro W hM; obtain ⟨hs, p0, p1, p2, p3, p4, q0, q1, q2, q3, q4, r0, r1, r2, r3, r4⟩ := HS.out W hM; go_simp; (try with_reducible rfl))
  case rest20 =>
  (try simp only [Act.put, gTl, g0l, gSl, sTl, s0l, sSl])
  refine' wpAnyH_take (i := 10) (v := _) rfl (by kernel_rfl) (by kernel_rfl) (by kernel_rfl) (fun _ _ _ h => h) (Or.inl ⟨by rfl, ?hy21⟩) hHeld ?rest21
  case hy21 => (rintro W hM; go_simp; (try with_reducible rfl))
  case rest21 =>
  (try simp only [Act.put, gTl, g0l, gSl, sTl, s0l, sSl])
  refine' wpAnyH_take (i := 11) (v := _) rfl (by kernel_rfl) (by kernel_rfl) (by kernel_rfl) (fun _ _ _ h => h) (Or.inl ⟨by rfl, ?hy22⟩) hHeld ?rest22
  case hy22 => (rintro W hM; obtain ⟨hs, p0, p1, p2, p3, p4, q0, q1, q2, q3, q4, r0, r1, r2, r3, r4⟩ := HS.out W hM; go_simp; (try with_reducible rfl))
  case rest22 =>
  (try simp only [Act.put, gTl, g0l, gSl, sTl, s0l, sSl])
  refine' wpAnyH_take (i := 12) (v := _) rfl (by kernel_rfl) (by kernel_rfl) (by kernel_rfl) (fun _ _ _ h => h) (Or.inl ⟨by rfl, ?hy23⟩) hHeld ?rest23
  case hy23 => (rintro W hM; go_simp; (try with_reducible rfl))
  case rest23 =>
  (try simp only [Act.put, gTl, g0l, gSl, sTl, s0l, sSl])
  refine' wpAnyH_take (i := 13) (v := _) rfl (by kernel_rfl) (by kernel_rfl) (by kernel_rfl) (fun _ _ _ h => h) (Or.inl ⟨by rfl, ?hy24⟩) hHeld ?rest24
  case hy24 => (rintro W hM; obtain ⟨hs, p0, p1, p2, p3, p4, q0, q1, q2, q3, q4, r0, r1, r2, r3, r4⟩ := HS.out W hM; go_simp; (try with_reducible rfl))
  case rest24 =>
  (try simp only [Act.put, gTl, g0l, gSl, sTl, s0l, sSl])
  refine wpAnyH_ready (rs := [4, 16]) (by kernel_rfl) (by simp) ?_
  refine AllReadyH.cons rfl (fun K hK => ?_) (AllReadyH.cons rfl (fun K hK => ?_) AllReadyH.nil)
  ·
   go_simp
   (go_at_call 104; refine (KN0.out _).mono ?_; rintro x v0 ⟨rfl, hb⟩)
   refine hK.out _ _ (hHeld.trans hb) (fun hHeld => ?_)
   clear hK K
   (try simp only [Act.put, gTl, g0l, gSl, sTl, s0l, sSl])
   refine wpAnyH_ready (rs := [9, 16]) (by kernel_rfl) (by simp) ?_
   refine AllReadyH.cons rfl (fun K hK => ?_) (AllReadyH.cons rfl (fun K hK => ?_) AllReadyH.nil)
   ·
    go_simp
    (go_at_call 104; refine (KB.out _).mono ?_; rintro x w1 ⟨rfl, hb1⟩)
    exact ⟨rfl, .inr ⟨fun hc => HKB.out hc.2.1.2.1, 2, by decide, rfl, HE1.out.trans (hHeld.trans hb1)⟩⟩
   ·
    have hB := Blk.new v0 42 #[.int .i64 0, .int .i64 0, .int .u64 0, .int .i64 0, .string ⟨#[]⟩]
    have hNN : U.heap.size ≤ v0.heap.size := hHeld.size
    go_simp
    refine hK.out _ _ (hHeld.alloc _) (fun hHeld => ?_)
    clear hK K
    (try simp only [Act.put, gTl, g0l, gSl, sTl, s0l, sSl])
    refine wpAnyH_ready (rs := [9]) (by kernel_rfl) (by simp) ?_
    refine AllReadyH.cons rfl (fun K hK => ?_) AllReadyH.nil
    go_simp
    (go_at_call 104; refine (KB.out _).mono ?_; rintro x w1 ⟨rfl, hb1⟩)
    exact ⟨rfl, .inr ⟨fun hc => HKB.out hc.2.1.2.1, 2, by decide, rfl, HE1.out.trans (hHeld.trans hb1)⟩⟩
  ·
   have hB := Blk.new U.drew 42 #[.int .i64 0, .int .i64 0, .int .u64 0, .int .i64 0, .string ⟨#[]⟩]
   have hNN : U.heap.size ≤ U.drew.heap.size := hHeld.size
   go_simp
   refine hK.out _ _ (hHeld.alloc _) (fun hHeld => ?_)
   clear hK K
   (try simp only [Act.put, gTl, g0l, gSl, sTl, s0l, sSl])
   refine wpAnyH_ready (rs := [4]) (by kernel_rfl) (by simp) ?_
   refine AllReadyH.cons rfl (fun K hK => ?_) AllReadyH.nil
   go_simp
   (go_at_call 104; refine (KN0.out _).mono ?_; rintro x v0 ⟨rfl, hb⟩)
   have hB := hB.ext hb
   refine hK.out _ _ (hHeld.trans hb) (fun hHeld => ?_)
   clear hK K
   (try simp only [Act.put, gTl, g0l, gSl, sTl, s0l, sSl])
   refine wpAnyH_ready (rs := [9]) (by kernel_rfl) (by simp) ?_
   refine AllReadyH.cons rfl (fun K hK => ?_) AllReadyH.nil
   go_simp
   (go_at_call 104; refine (KB.out _).mono ?_; rintro x w1 ⟨rfl, hb1⟩)
   exact ⟨rfl, .inr ⟨fun hc => HKB.out hc.2.1.2.1, 2, by decide, rfl, HE1.out.trans (hHeld.trans hb1)⟩⟩
 have KN1 := hid (fun W => bnum_yes (t.ch 1) (ac 1).1 (ac 1).2 hk1 (HN.out 1 (by have := H5.out; omega)) W)
 have HK1 := hid hk1
 clear hk1
 by_cases hk3 : (t.ch 3).kind = 0
 case neg =>
  have KB := hid (fun W => bnum_no (t.ch 3) (ac 3).1 (ac 3).2 hk3 W)
  have HKB := hid hk3
  clear hk3
  refine wp_region_held_drew (S := fun w' => Ext U w') (by kernel_rfl) (Mod.refl _ _).drew (fun hHeld => ?_)
  refine' wpAnyH_take (i := 0) (v := _) rfl (by kernel_rfl) (by kernel_rfl) (by kernel_rfl) (fun _ _ _ h => h) (Or.inl ⟨by rfl, ?hy25⟩) hHeld ?rest25
  case hy25 => (rintro W hM; go_simp; (try with_reducible rfl))
  case rest25 =>
  (try simp only [Act.put, gTl, g0l, gSl, sTl, s0l, sSl])
  refine' wpAnyH_take (i := 1) (v := _) rfl (by kernel_rfl) (by kernel_rfl) (by kernel_rfl) (fun _ _ _ h => h) (Or.inl ⟨by rfl, ?hy26⟩) hHeld ?rest26
  case hy26 => (rintro W hM; obtain ⟨hs, p0, p1, p2, p3, p4, q0, q1, q2, q3, q4, r0, r1, r2, r3, r4⟩ := HS.out W hM; go_simp; (try with_reducible rfl))
  case rest26 =>
  (try simp only [Act.put, gTl, g0l, gSl, sTl, s0l, sSl])
  refine' wpAnyH_take (i := 2) (v := _) rfl (by kernel_rfl) (by kernel_rfl) (by kernel_rfl) (fun _ _ _ h => h) (Or.inl ⟨by rfl, ?hy27⟩) hHeld ?rest27
  case hy27 => (rintro W hM; go_simp; (try with_reducible rfl))
  case rest27 =>
  (try simp only [Act.put, gTl, g0l, gSl, sTl, s0l, sSl])
  refine' wpAnyH_take (i := 3) (v := _) rfl (by kernel_rfl) (by kernel_rfl) (by kernel_rfl) (fun _ _ _ h => h) (Or.inl ⟨by rfl, ?hy28⟩) hHeld ?rest28
  case hy28 => (rintro W hM; obtain ⟨hs, p0, p1, p2, p3, p4, q0, q1, q2, q3, q4, r0, r1, r2, r3, r4⟩ := HS.out W hM; go_simp; (try with_reducible rfl))
  case rest28 =>
  (try simp only [Act.put, gTl, g0l, gSl, sTl, s0l, sSl])
  refine' wpAnyH_take (i := 5) (v := _) rfl (by kernel_rfl) (by kernel_rfl) (by kernel_rfl) (fun _ _ _ h => h) (Or.inl ⟨by rfl, ?hy29⟩) hHeld ?rest29
  case hy29 => (rintro W hM; go_simp; (try with_reducible rfl))
  case rest29 =>
  (try simp only [Act.put, gTl, g0l, gSl, sTl, s0l, sSl])
  refine' wpAnyH_take (i := 6) (v := _) rfl (by kernel_rfl) (by kernel_rfl) (by kernel_rfl) (fun _ _ _ h => h) (Or.inl ⟨by rfl, ?hy30⟩) hHeld ?rest30
  case hy30 => (rintro W hM; obtain ⟨hs, p0, p1, p2, p3, p4, q0, q1, q2, q3, q4, r0, r1, r2, r3, r4⟩ := HS.out W hM; go_simp; (try with_reducible rfl))
  case rest30 =>
  (try simp only [Act.put, gTl, g0l, gSl, sTl, s0l, sSl])
  refine' wpAnyH_take (i := 7) (v := _) rfl (by kernel_rfl) (by kernel_rfl) (by kernel_rfl) (fun _ _ _ h => h) (Or.inl ⟨by rfl, ?hy31⟩) hHeld ?rest31
  case hy31 => (rintro W hM; go_simp; (try with_reducible rfl))
  case rest31 =>
  (try simp only [Act.put, gTl, g0l, gSl, sTl, s0l, sSl])
  refine' wpAnyH_take (i := 8) (v := _) rfl (by kernel_rfl) (by kernel_rfl) (by kernel_rfl) (fun _ _ _ h => h) (Or.inl ⟨by rfl, ?hy32⟩) hHeld ?rest32
  case hy32 => (rintro W hM; obtain ⟨hs, p0, p1, p2, p3, p4, q0, q1, q2, q3, q4, r0, r1, r2, r3, r4⟩ := HS.out W hM; go_simp; (try with_reducible rfl))
  case rest32 =>
  (try simp only [Act.put, gTl, g0l, gSl, sTl, s0l, sSl])
  refine' wpAnyH_take (i := 10) (v := _) rfl (by kernel_rfl) (by kernel_rfl) (by kernel_rfl) (fun _ _ _ h => h) (Or.inl ⟨by rfl, ?hy33⟩) hHeld ?rest33
  case hy33 => (rintro W hM; go_simp; (try with_reducible rfl))
  case rest33 =>
  (try simp only [Act.put, gTl, g0l, gSl, sTl, s0l, sSl])
  refine' wpAnyH_take (i := 11) (v := _) rfl (by kernel_rfl) (by kernel_rfl) (by kernel_rfl) (fun _ _ _ h => h) (Or.inl ⟨by rfl, ?hy34⟩) hHeld ?rest34
  case hy34 => (rintro W hM; obtain ⟨hs, p0, p1, p2, p3, p4, q0, q1, q2, q3, q4, r0, r1, r2, r3, r4⟩ := HS.out W hM; go_simp; (try with_reducible rfl))
  case rest34 =>
  (try simp only [Act.put, gTl, g0l, gSl, sTl, s0l, sSl])
  refine' wpAnyH_take (i := 12) (v := _) rfl (by kernel_rfl) (by kernel_rfl) (by kernel_rfl) (fun _ _ _ h => h) (Or.inl ⟨by rfl, ?hy35⟩) hHeld ?rest35
  case hy35 => (rintro W hM; go_simp; (try with_reducible rfl))
  case rest35 =>
  (try simp only [Act.put, gTl, g0l, gSl, sTl, s0l, sSl])
  refine' wpAnyH_take (i := 13) (v := _) rfl (by kernel_rfl) (by kernel_rfl) (by kernel_rfl) (fun _ _ _ h => h) (Or.inl ⟨by rfl, ?hy36⟩) hHeld ?rest36
  case hy36 => (rintro W hM; obtain ⟨hs, p0, p1, p2, p3, p4, q0, q1, q2, q3, q4, r0, r1, r2, r3, r4⟩ := HS.out W hM; go_simp; (try with_reducible rfl))
  case rest36 =>
  (try simp only [Act.put, gTl, g0l, gSl, sTl, s0l, sSl])
  refine wpAnyH_ready (rs := [4, 16]) (by kernel_rfl) (by simp) ?_
  refine AllReadyH.cons rfl (fun K hK => ?_) (AllReadyH.cons rfl (fun K hK => ?_) AllReadyH.nil)
  ·
   go_simp
   (go_at_call 104; refine (KN0.out _).mono ?_; rintro x v0 ⟨rfl, hb⟩)
   refine hK.out _ _ (hHeld.trans hb) (fun hHeld => ?_)
   clear hK K
   (try simp only [Act.put, gTl, g0l, gSl, sTl, s0l, sSl])
   refine wpAnyH_ready (rs := [9, 16]) (by kernel_rfl) (by simp) ?_
   refine AllReadyH.cons rfl (fun K hK => ?_) (AllReadyH.cons rfl (fun K hK => ?_) AllReadyH.nil)
   ·
    go_simp
    (go_at_call 104; refine (KN1.out _).mono ?_; rintro x v1 ⟨rfl, hb⟩)
    refine hK.out _ _ (hHeld.trans hb) (fun hHeld => ?_)
    clear hK K
    (try simp only [Act.put, gTl, g0l, gSl, sTl, s0l, sSl])
    refine wpAnyH_ready (rs := [14, 16]) (by kernel_rfl) (by simp) ?_
    refine AllReadyH.cons rfl (fun K hK => ?_) (AllReadyH.cons rfl (fun K hK => ?_) AllReadyH.nil)
    ·
     go_simp
     (go_at_call 104; refine (KB.out _).mono ?_; rintro x w1 ⟨rfl, hb1⟩)
     exact ⟨rfl, .inr ⟨fun hc => HKB.out hc.2.1.2.2, 2, by decide, rfl, HE1.out.trans (hHeld.trans hb1)⟩⟩
    ·
     have hB := Blk.new v1 42 #[.int .i64 0, .int .i64 0, .int .u64 0, .int .i64 0, .string ⟨#[]⟩]
     have hNN : U.heap.size ≤ v1.heap.size := hHeld.size
     go_simp
     refine hK.out _ _ (hHeld.alloc _) (fun hHeld => ?_)
     clear hK K
     (try simp only [Act.put, gTl, g0l, gSl, sTl, s0l, sSl])
     refine wpAnyH_ready (rs := [14]) (by kernel_rfl) (by simp) ?_
     refine AllReadyH.cons rfl (fun K hK => ?_) AllReadyH.nil
     go_simp
     (go_at_call 104; refine (KB.out _).mono ?_; rintro x w1 ⟨rfl, hb1⟩)
     exact ⟨rfl, .inr ⟨fun hc => HKB.out hc.2.1.2.2, 2, by decide, rfl, HE1.out.trans (hHeld.trans hb1)⟩⟩
   ·
    have hB := Blk.new v0 42 #[.int .i64 0, .int .i64 0, .int .u64 0, .int .i64 0, .string ⟨#[]⟩]
    have hNN : U.heap.size ≤ v0.heap.size := hHeld.size
    go_simp
    refine hK.out _ _ (hHeld.alloc _) (fun hHeld => ?_)
    clear hK K
    (try simp only [Act.put, gTl, g0l, gSl, sTl, s0l, sSl])
    refine wpAnyH_ready (rs := [9]) (by kernel_rfl) (by simp) ?_
    refine AllReadyH.cons rfl (fun K hK => ?_) AllReadyH.nil
    go_simp
    (go_at_call 104; refine (KN1.out _).mono ?_; rintro x v1 ⟨rfl, hb⟩)
    have hB := hB.ext hb
    refine hK.out _ _ (hHeld.trans hb) (fun hHeld => ?_)
    clear hK K
    (try simp only [Act.put, gTl, g0l, gSl, sTl, s0l, sSl])
    refine wpAnyH_ready (rs := [14]) (by kernel_rfl) (by simp) ?_
    refine AllReadyH.cons rfl (fun K hK => ?_) AllReadyH.nil
    go_simp
    (go_at_call 104; refine (KB.out _).mono ?_; rintro x w1 ⟨rfl, hb1⟩)
    exact ⟨rfl, .inr ⟨fun hc => HKB.out hc.2.1.2.2, 2, by decide, rfl, HE1.out.trans (hHeld.trans hb1)⟩⟩
  ·
   have hB := Blk.new U.drew 42 #[.int .i64 0, .int .i64 0, .int .u64 0, .int .i64 0, .string ⟨#[]⟩]
   have hNN : U.heap.size ≤ U.drew.heap.size := hHeld.size
   go_simp
   refine hK.out _ _ (hHeld.alloc _) (fun hHeld => ?_)
   clear hK K
   (try simp only [Act.put, gTl, g0l, gSl, sTl, s0l, sSl])
   refine wpAnyH_ready (rs := [4]) (by kernel_rfl) (by simp) ?_
   refine AllReadyH.cons rfl (fun K hK => ?_) AllReadyH.nil
   go_simp
   (go_at_call 104; refine (KN0.out _).mono ?_; rintro x v0 ⟨rfl, hb⟩)
   have hB := hB.ext hb
   refine hK.out _ _ (hHeld.trans hb) (fun hHeld => ?_)
   clear hK K
   (try simp only [Act.put, gTl, g0l, gSl, sTl, s0l, sSl])
   refine wpAnyH_ready (rs := [9]) (by kernel_rfl) (by simp) ?_
   refine AllReadyH.cons rfl (fun K hK => ?_) AllReadyH.nil
   go_simp
   (go_at_call 104; refine (KN1.out _).mono ?_; rintro x v1 ⟨rfl, hb⟩)
   have hB := hB.ext hb
   refine hK.out _ _ (hHeld.trans hb) (fun hHeld => ?_)
   clear hK K
   (try simp only [Act.put, gTl, g0l, gSl, sTl, s0l, sSl])
   refine wpAnyH_ready (rs := [14]) (by kernel_rfl) (by simp) ?_
   refine AllReadyH.cons rfl (fun K hK => ?_) AllReadyH.nil
   go_simp
   (go_at_call 104; refine (KB.out _).mono ?_; rintro x w1 ⟨rfl, hb1⟩)
   exact ⟨rfl, .inr ⟨fun hc => HKB.out hc.2.1.2.2, 2, by decide, rfl, HE1.out.trans (hHeld.trans hb1)⟩⟩
 have KN3 := hid (fun W => bnum_yes (t.ch 3) (ac 3).1 (ac 3).2 hk3 (HN.out 3 (by have := H5.out; omega)) W)
 have HK3 := hid hk3
 clear hk3
 go_cut [3] (fun s3 wx => ∃ N, s3 = .pointer (some ⟨N, 0, none⟩) ∧ Hid (Ext U wx ∧ Blk wx N 42 (BV.c ⟨numO (t.ch 0).n, numO (t.ch 1).n, 0, numO (t.ch 3).n, []⟩) ∧ U.heap.size ≤ N))
 case first =>
  refine wp_region_held_drew (S := fun w' => Ext U w') (by kernel_rfl) (Mod.refl _ _).drew (fun hHeld => ?_)
  refine' wpAnyH_take (i := 0) (v := _) rfl (by kernel_rfl) (by kernel_rfl) (by kernel_rfl) (fun _ _ _ h => h) (Or.inl ⟨by rfl, ?hy37⟩) hHeld ?rest37
  case hy37 => (rintro W hM; go_simp; (try with_reducible rfl))
  case rest37 =>
  (try simp only [Act.put, gTl, g0l, gSl, sTl, s0l, sSl])
  refine' wpAnyH_take (i := 1) (v := _) rfl (by kernel_rfl) (by kernel_rfl) (by kernel_rfl) (fun _ _ _ h => h) (Or.inl ⟨by rfl, ?hy38⟩) hHeld ?rest38
  case hy38 => (rintro W hM; obtain ⟨hs, p0, p1, p2, p3, p4, q0, q1, q2, q3, q4, r0, r1, r2, r3, r4⟩ := HS.out W hM; go_simp; (try with_reducible rfl))
  case rest38 =>
  (try simp only [Act.put, gTl, g0l, gSl, sTl, s0l, sSl])
  refine' wpAnyH_take (i := 2) (v := _) rfl (by kernel_rfl) (by kernel_rfl) (by kernel_rfl) (fun _ _ _ h => h) (Or.inl ⟨by rfl, ?hy39⟩) hHeld ?rest39
  case hy39 => (rintro W hM; go_simp; (try with_reducible rfl))
  case rest39 =>
  (try simp only [Act.put, gTl, g0l, gSl, sTl, s0l, sSl])
  refine' wpAnyH_take (i := 3) (v := _) rfl (by kernel_rfl) (by kernel_rfl) (by kernel_rfl) (fun _ _ _ h => h) (Or.inl ⟨by rfl, ?hy40⟩) hHeld ?rest40
  case hy40 => (rintro W hM; obtain ⟨hs, p0, p1, p2, p3, p4, q0, q1, q2, q3, q4, r0, r1, r2, r3, r4⟩ := HS.out W hM; go_simp; (try with_reducible rfl))
  case rest40 =>
  (try simp only [Act.put, gTl, g0l, gSl, sTl, s0l, sSl])
  refine' wpAnyH_take (i := 5) (v := _) rfl (by kernel_rfl) (by kernel_rfl) (by kernel_rfl) (fun _ _ _ h => h) (Or.inl ⟨by rfl, ?hy41⟩) hHeld ?rest41
  case hy41 => (rintro W hM; go_simp; (try with_reducible rfl))
  case rest41 =>
  (try simp only [Act.put, gTl, g0l, gSl, sTl, s0l, sSl])
  refine' wpAnyH_take (i := 6) (v := _) rfl (by kernel_rfl) (by kernel_rfl) (by kernel_rfl) (fun _ _ _ h => h) (Or.inl ⟨by rfl, ?hy42⟩) hHeld ?rest42
  case hy42 => (rintro W hM; obtain ⟨hs, p0, p1, p2, p3, p4, q0, q1, q2, q3, q4, r0, r1, r2, r3, r4⟩ := HS.out W hM; go_simp; (try with_reducible rfl))
  case rest42 =>
  (try simp only [Act.put, gTl, g0l, gSl, sTl, s0l, sSl])
  refine' wpAnyH_take (i := 7) (v := _) rfl (by kernel_rfl) (by kernel_rfl) (by kernel_rfl) (fun _ _ _ h => h) (Or.inl ⟨by rfl, ?hy43⟩) hHeld ?rest43
  case hy43 => (rintro W hM; go_simp; (try with_reducible rfl))
  case rest43 =>
  (try simp only [Act.put, gTl, g0l, gSl, sTl, s0l, sSl])
  refine' wpAnyH_take (i := 8) (v := _) rfl (by kernel_rfl) (by kernel_rfl) (by kernel_rfl) (fun _ _ _ h => h) (Or.inl ⟨by rfl, ?hy44⟩) hHeld ?rest44
  case hy44 => (rintro W hM; obtain ⟨hs, p0, p1, p2, p3, p4, q0, q1, q2, q3, q4, r0, r1, r2, r3, r4⟩ := HS.out W hM; go_simp; (try with_reducible rfl))
  case rest44 =>
  (try simp only [Act.put, gTl, g0l, gSl, sTl, s0l, sSl])
  refine' wpAnyH_take (i := 10) (v := _) rfl (by kernel_rfl) (by kernel_rfl) (by kernel_rfl) (fun _ _ _ h => h) (Or.inl ⟨by rfl, ?hy45⟩) hHeld ?rest45
  case hy45 => (rintro W hM; go_simp; (try with_reducible rfl))
  case rest45 =>
  (try simp only [Act.put, gTl, g0l, gSl, sTl, s0l, sSl])
  refine' wpAnyH_take (i := 11) (v := _) rfl (by kernel_rfl) (by kernel_rfl) (by kernel_rfl) (fun _ _ _ h => h) (Or.inl ⟨by rfl, ?hy46⟩) hHeld ?rest46
  case hy46 => (rintro W hM; obtain ⟨hs, p0, p1, p2, p3, p4, q0, q1, q2, q3, q4, r0, r1, r2, r3, r4⟩ := HS.out W hM; go_simp; (try with_reducible rfl))
  case rest46 =>
  (try simp only [Act.put, gTl, g0l, gSl, sTl, s0l, sSl])
  refine' wpAnyH_take (i := 12) (v := _) rfl (by kernel_rfl) (by kernel_rfl) (by kernel_rfl) (fun _ _ _ h => h) (Or.inl ⟨by rfl, ?hy47⟩) hHeld ?rest47
  case hy47 => (rintro W hM; go_simp; (try with_reducible rfl))
  case rest47 =>
  (try simp only [Act.put, gTl, g0l, gSl, sTl, s0l, sSl])
  refine' wpAnyH_take (i := 13) (v := _) rfl (by kernel_rfl) (by kernel_rfl) (by kernel_rfl) (fun _ _ _ h => h) (Or.inl ⟨by rfl, ?hy48⟩) hHeld ?rest48
  case hy48 => (rintro W hM; obtain ⟨hs, p0, p1, p2, p3, p4, q0, q1, q2, q3, q4, r0, r1, r2, r3, r4⟩ := HS.out W hM; go_simp; (try with_reducible rfl))
  case rest48 =>
  (try simp only [Act.put, gTl, g0l, gSl, sTl, s0l, sSl])
  refine wpAnyH_ready (rs := [4, 16]) (by kernel_rfl) (by simp) ?_
  refine AllReadyH.cons rfl (fun K hK => ?_) (AllReadyH.cons rfl (fun K hK => ?_) AllReadyH.nil)
  ·
   go_simp
   (go_at_call 104; refine (KN0.out _).mono ?_; rintro x v0 ⟨rfl, hb⟩)
   refine hK.out _ _ (hHeld.trans hb) (fun hHeld => ?_)
   clear hK K
   (try simp only [Act.put, gTl, g0l, gSl, sTl, s0l, sSl])
   refine wpAnyH_ready (rs := [9, 16]) (by kernel_rfl) (by simp) ?_
   refine AllReadyH.cons rfl (fun K hK => ?_) (AllReadyH.cons rfl (fun K hK => ?_) AllReadyH.nil)
   ·
    go_simp
    (go_at_call 104; refine (KN1.out _).mono ?_; rintro x v1 ⟨rfl, hb⟩)
    refine hK.out _ _ (hHeld.trans hb) (fun hHeld => ?_)
    clear hK K
    (try simp only [Act.put, gTl, g0l, gSl, sTl, s0l, sSl])
    refine wpAnyH_ready (rs := [14, 16]) (by kernel_rfl) (by simp) ?_
    refine AllReadyH.cons rfl (fun K hK => ?_) (AllReadyH.cons rfl (fun K hK => ?_) AllReadyH.nil)
    ·
     go_simp
     (go_at_call 104; refine (KN3.out _).mono ?_; rintro x v2 ⟨rfl, hb⟩)
     refine hK.out _ _ (hHeld.trans hb) (fun hHeld => ?_)
     clear hK K
     (try simp only [Act.put, gTl, g0l, gSl, sTl, s0l, sSl])
     refine' wpAnyH_take (i := 15) (v := _) rfl (by kernel_rfl) (by kernel_rfl) (by kernel_rfl) (fun _ _ _ h => h) (Or.inl ⟨by rfl, ?hy49⟩) hHeld ?rest49
     case hy49 => (rintro W hM; go_simp; (try with_reducible rfl))
     case rest49 =>
     (try simp only [Act.put, gTl, g0l, gSl, sTl, s0l, sSl])
     refine wpAnyH_ready (rs := [16]) (by kernel_rfl) (by simp) ?_
     refine AllReadyH.cons rfl (fun K hK => ?_) AllReadyH.nil
     have hB := Blk.new v2 42 #[.int .i64 0, .int .i64 0, .int .u64 0, .int .i64 0, .string ⟨#[]⟩]
     have hNN : U.heap.size ≤ v2.heap.size := hHeld.size
     go_simp
     refine hK.out _ _ (hHeld.alloc _) (fun hHeld => ?_)
     clear hK K
     (try simp only [Act.put, gTl, g0l, gSl, sTl, s0l, sSl])
     refine wpAnyH_ready (rs := [17]) (by kernel_rfl) (by simp) ?_
     refine AllReadyH.cons rfl (fun K hK => ?_) AllReadyH.nil
     refine wp_store_mid 42 _ _ rfl v2.heap.size 0 (BV.c ⟨numO (t.ch 0).n, numO (t.ch 1).n, 0, numO (t.ch 3).n, []⟩) (by rfl) (by rfl) (hB.there (Nat.le_refl 5)) (by kernel_rfl) (by simp [Value.oneCell']) ?_
     have hZB := setCells_all (ds := (BV.c ⟨numO (t.ch 0).n, numO (t.ch 1).n, 0, numO (t.ch 3).n, []⟩)) hB rfl
     have hZM := setCells_mod (b := v2.heap.size) (BV.c ⟨numO (t.ch 0).n, numO (t.ch 1).n, 0, numO (t.ch 3).n, []⟩).toList 0 hHeld (.inr hNN)
     generalize hZ : World.setCells _ v2.heap.size 0 _ = Z at *
     refine hK.out _ _ hZM (fun hHeld => ?_)
     clear hK K
     (try simp only [Act.put, gTl, g0l, gSl, sTl, s0l, sSl])
     refine wpAnyH_done (by kernel_rfl) ?_ _
     go_wp2_with fail
     go_meet
     exact ⟨_, rfl, hZM, hZB, hNN⟩
    ·
     have hB := Blk.new v1 42 #[.int .i64 0, .int .i64 0, .int .u64 0, .int .i64 0, .string ⟨#[]⟩]
     have hNN : U.heap.size ≤ v1.heap.size := hHeld.size
     go_simp
     refine hK.out _ _ (hHeld.alloc _) (fun hHeld => ?_)
     clear hK K
     (try simp only [Act.put, gTl, g0l, gSl, sTl, s0l, sSl])
     refine wpAnyH_ready (rs := [14]) (by kernel_rfl) (by simp) ?_
     refine AllReadyH.cons rfl (fun K hK => ?_) AllReadyH.nil
     go_simp
     (go_at_call 104; refine (KN3.out _).mono ?_; rintro x v2 ⟨rfl, hb⟩)
     have hB := hB.ext hb
     refine hK.out _ _ (hHeld.trans hb) (fun hHeld => ?_)
     clear hK K
     (try simp only [Act.put, gTl, g0l, gSl, sTl, s0l, sSl])
     refine' wpAnyH_take (i := 15) (v := _) rfl (by kernel_rfl) (by kernel_rfl) (by kernel_rfl) (fun _ _ _ h => h) (Or.inl ⟨by rfl, ?hy50⟩) hHeld ?rest50
     case hy50 => (rintro W hM; go_simp; (try with_reducible rfl))
     case rest50 =>
     (try simp only [Act.put, gTl, g0l, gSl, sTl, s0l, sSl])
     refine wpAnyH_ready (rs := [17]) (by kernel_rfl) (by simp) ?_
     refine AllReadyH.cons rfl (fun K hK => ?_) AllReadyH.nil
     refine wp_store_mid 42 _ _ rfl v1.heap.size 0 (BV.c ⟨numO (t.ch 0).n, numO (t.ch 1).n, 0, numO (t.ch 3).n, []⟩) (by rfl) (by rfl) (hB.there (Nat.le_refl 5)) (by kernel_rfl) (by simp [Value.oneCell']) ?_
     have hZB := setCells_all (ds := (BV.c ⟨numO (t.ch 0).n, numO (t.ch 1).n, 0, numO (t.ch 3).n, []⟩)) hB rfl
     have hZM := setCells_mod (b := v1.heap.size) (BV.c ⟨numO (t.ch 0).n, numO (t.ch 1).n, 0, numO (t.ch 3).n, []⟩).toList 0 hHeld (.inr hNN)
     generalize hZ : World.setCells _ v1.heap.size 0 _ = Z at *
     refine hK.out _ _ hZM (fun hHeld => ?_)
     clear hK K
     (try simp only [Act.put, gTl, g0l, gSl, sTl, s0l, sSl])
     refine wpAnyH_done (by kernel_rfl) ?_ _
     go_wp2_with fail
     go_meet
     exact ⟨_, rfl, hZM, hZB, hNN⟩
   ·
    have hB := Blk.new v0 42 #[.int .i64 0, .int .i64 0, .int .u64 0, .int .i64 0, .string ⟨#[]⟩]
    have hNN : U.heap.size ≤ v0.heap.size := hHeld.size
    go_simp
    refine hK.out _ _ (hHeld.alloc _) (fun hHeld => ?_)
    clear hK K
    (try simp only [Act.put, gTl, g0l, gSl, sTl, s0l, sSl])
    refine wpAnyH_ready (rs := [9]) (by kernel_rfl) (by simp) ?_
    refine AllReadyH.cons rfl (fun K hK => ?_) AllReadyH.nil
    go_simp
    (go_at_call 104; refine (KN1.out _).mono ?_; rintro x v1 ⟨rfl, hb⟩)
    have hB := hB.ext hb
    refine hK.out _ _ (hHeld.trans hb) (fun hHeld => ?_)
    clear hK K
    (try simp only [Act.put, gTl, g0l, gSl, sTl, s0l, sSl])
    refine wpAnyH_ready (rs := [14]) (by kernel_rfl) (by simp) ?_
    refine AllReadyH.cons rfl (fun K hK => ?_) AllReadyH.nil
    go_simp
    (go_at_call 104; refine (KN3.out _).mono ?_; rintro x v2 ⟨rfl, hb⟩)
    have hB := hB.ext hb
    refine hK.out _ _ (hHeld.trans hb) (fun hHeld => ?_)
    clear hK K
    (try simp only [Act.put, gTl, g0l, gSl, sTl, s0l, sSl])
    refine' wpAnyH_take (i := 15) (v := _) rfl (by kernel_rfl) (by kernel_rfl) (by kernel_rfl) (fun _ _ _ h => h) (Or.inl ⟨by rfl, ?hy51⟩) hHeld ?rest51
    case hy51 => (rintro W hM; go_simp; (try with_reducible rfl))
    case rest51 =>
    (try simp only [Act.put, gTl, g0l, gSl, sTl, s0l, sSl])
    refine wpAnyH_ready (rs := [17]) (by kernel_rfl) (by simp) ?_
    refine AllReadyH.cons rfl (fun K hK => ?_) AllReadyH.nil
    refine wp_store_mid 42 _ _ rfl v0.heap.size 0 (BV.c ⟨numO (t.ch 0).n, numO (t.ch 1).n, 0, numO (t.ch 3).n, []⟩) (by rfl) (by rfl) (hB.there (Nat.le_refl 5)) (by kernel_rfl) (by simp [Value.oneCell']) ?_
    have hZB := setCells_all (ds := (BV.c ⟨numO (t.ch 0).n, numO (t.ch 1).n, 0, numO (t.ch 3).n, []⟩)) hB rfl
    have hZM := setCells_mod (b := v0.heap.size) (BV.c ⟨numO (t.ch 0).n, numO (t.ch 1).n, 0, numO (t.ch 3).n, []⟩).toList 0 hHeld (.inr hNN)
    generalize hZ : World.setCells _ v0.heap.size 0 _ = Z at *
    refine hK.out _ _ hZM (fun hHeld => ?_)
    clear hK K
    (try simp only [Act.put, gTl, g0l, gSl, sTl, s0l, sSl])
    refine wpAnyH_done (by kernel_rfl) ?_ _
    go_wp2_with fail
    go_meet
    exact ⟨_, rfl, hZM, hZB, hNN⟩
  ·
   have hB := Blk.new U.drew 42 #[.int .i64 0, .int .i64 0, .int .u64 0, .int .i64 0, .string ⟨#[]⟩]
   have hNN : U.heap.size ≤ U.drew.heap.size := hHeld.size
   go_simp
   refine hK.out _ _ (hHeld.alloc _) (fun hHeld => ?_)
   clear hK K
   (try simp only [Act.put, gTl, g0l, gSl, sTl, s0l, sSl])
   refine wpAnyH_ready (rs := [4]) (by kernel_rfl) (by simp) ?_
   refine AllReadyH.cons rfl (fun K hK => ?_) AllReadyH.nil
   go_simp
   (go_at_call 104; refine (KN0.out _).mono ?_; rintro x v0 ⟨rfl, hb⟩)
   have hB := hB.ext hb
   refine hK.out _ _ (hHeld.trans hb) (fun hHeld => ?_)
   clear hK K
   (try simp only [Act.put, gTl, g0l, gSl, sTl, s0l, sSl])
   refine wpAnyH_ready (rs := [9]) (by kernel_rfl) (by simp) ?_
   refine AllReadyH.cons rfl (fun K hK => ?_) AllReadyH.nil
   go_simp
   (go_at_call 104; refine (KN1.out _).mono ?_; rintro x v1 ⟨rfl, hb⟩)
   have hB := hB.ext hb
   refine hK.out _ _ (hHeld.trans hb) (fun hHeld => ?_)
   clear hK K
   (try simp only [Act.put, gTl, g0l, gSl, sTl, s0l, sSl])
   refine wpAnyH_ready (rs := [14]) (by kernel_rfl) (by simp) ?_
   refine AllReadyH.cons rfl (fun K hK => ?_) AllReadyH.nil
   go_simp
   (go_at_call 104; refine (KN3.out _).mono ?_; rintro x v2 ⟨rfl, hb⟩)
   have hB := hB.ext hb
   refine hK.out _ _ (hHeld.trans hb) (fun hHeld => ?_)
   clear hK K
   (try simp only [Act.put, gTl, g0l, gSl, sTl, s0l, sSl])
   refine' wpAnyH_take (i := 15) (v := _) rfl (by kernel_rfl) (by kernel_rfl) (by kernel_rfl) (fun _ _ _ h => h) (Or.inl ⟨by rfl, ?hy52⟩) hHeld ?rest52
   case hy52 => (rintro W hM; go_simp; (try with_reducible rfl))
   case rest52 =>
   (try simp only [Act.put, gTl, g0l, gSl, sTl, s0l, sSl])
   refine wpAnyH_ready (rs := [17]) (by kernel_rfl) (by simp) ?_
   refine AllReadyH.cons rfl (fun K hK => ?_) AllReadyH.nil
   refine wp_store_mid 42 _ _ rfl U.drew.heap.size 0 (BV.c ⟨numO (t.ch 0).n, numO (t.ch 1).n, 0, numO (t.ch 3).n, []⟩) (by rfl) (by rfl) (hB.there (Nat.le_refl 5)) (by kernel_rfl) (by simp [Value.oneCell']) ?_
   have hZB := setCells_all (ds := (BV.c ⟨numO (t.ch 0).n, numO (t.ch 1).n, 0, numO (t.ch 3).n, []⟩)) hB rfl
   have hZM := setCells_mod (b := U.drew.heap.size) (BV.c ⟨numO (t.ch 0).n, numO (t.ch 1).n, 0, numO (t.ch 3).n, []⟩).toList 0 hHeld (.inr hNN)
   generalize hZ : World.setCells _ U.drew.heap.size 0 _ = Z at *
   refine hK.out _ _ hZM (fun hHeld => ?_)
   clear hK K
   (try simp only [Act.put, gTl, g0l, gSl, sTl, s0l, sSl])
   refine wpAnyH_done (by kernel_rfl) ?_ _
   go_wp2_with fail
   go_meet
   exact ⟨_, rfl, hZM, hZB, hNN⟩
 obtain ⟨N, rfl, hG⟩ := hcut
 have HE2 := hid (HE1.out.trans hG.out.1)
 have HB02 := hid (HB0'.out.ext hG.out.1)
 have HB12 := hid (HB1'.out.ext hG.out.1)
 have HL2 := hid ((IsL.weak (R := fun k => k < U.heap.size) (fun k hk _ => hk) t HL'.out).ext hG.out.1)
 have HUN := hid hG.out.2.2
 have HN2 : Hid (Blk wc N 42 (BV.c ⟨numO (t.ch 0).n, numO (t.ch 1).n, 0, numO (t.ch 3).n, []⟩)) := hid hG.out.2.1
 have HNN : Hid (w.heap.size + 2 ≤ N) := hid (by have := hG.out.2.2; have := HUS.out; omega)
 have HC2 : Hid (∀ i, i < t.k → At5 wc b (o + i * 5) (t.ch i) (ac i).1 (ac i).2) := hid (fun i hi => (HAC'.out i hi).mod hG.out.1 HBB.out (by simp))
 have HBW : Hid (b < wc.heap.size) := hid (Nat.lt_of_lt_of_le HBB.out hG.out.1.size)
 have HNB : Hid (b ≠ N) := hid (by have := hG.out.2.2; have := HBB.out; omega)
 clear HE1 HB0' HB1' HL' HAC' HBB HUS hG HS b3 x0 x1 x2 x3 x4 y0 y1 y2 y3 y4 z0 z1 z2 z3 z4 KN0 KN1 KN3
 have b3 : ∀ e : Later wc, e.x.cell? ⟨w.heap.size, 3, none⟩ = some (.slice (some ⟨b, o, none⟩) t.k c) := HB02.out.cellL 3 rfl
 have x0 : ∀ e : Later wc, e.x.cell? ⟨b, o + 10, none⟩ = some (.int .i64 (t.ch 2).kind) := cellL (by simpa using (HC2.out 2 (by have := H5.out; omega)).1)
 have y0 : ∀ e : Later wc, e.x.cell? ⟨b, o + 20, none⟩ = some (.int .i64 (t.ch 4).kind) := cellL (by simpa using (HC2.out 4 (by have := H5.out; omega)).1)
 have I2 : (2 : Int) < (t.k : Int) := by omega
 have I4 : (4 : Int) < (t.k : Int) := by omega
 have i2 : (2 < t.k) = True := eq_true (by have := H5.out; omega)
 have i4 : (4 < t.k) = True := eq_true (by have := H5.out; omega)
 have j2 : decide (2 < t.k) = true := decide_eq_true (by have := H5.out; omega)
 have j4 : decide (4 < t.k) = true := decide_eq_true (by have := H5.out; omega)
 obtain ⟨e, he⟩ := Later.self wc
 rw [he]
 clear he
 by_cases hk2 : (t.ch 2).kind = 0
 case neg =>
  have HX := hid hk2
  have taa : (((t.ch 2).kind) == (0)) = false := by rw [beq_eq_false_iff_ne]; exact hk2
  have tab : (((t.ch 2).kind) = (0)) = False := eq_false (by exact hk2)
  have tac : (((t.ch 2).kind) != (0)) = true := by rw [bne_iff_ne]; exact hk2
  clear hk2
  go_wp2_with (first | (go_at_call 103; refine (KZ.out _).mono ?_; rintro x w1 ⟨rfl, hb1⟩))
  exact ⟨rfl, .inr ⟨fun hc => HX.out (hc.2.2.1.1), 2, by decide, rfl, HE2.out.trans (e.h.trans hb1)⟩⟩
 have H_hk2 := hid hk2
 have taa : (((t.ch 2).kind) == (0)) = true := by rw [beq_iff_eq]; exact hk2
 have tab : (((t.ch 2).kind) = (0)) = True := eq_true (by exact hk2)
 have tac : (((t.ch 2).kind) != (0)) = false := by rw [bne_eq_false_iff_eq]; exact hk2
 clear hk2
 by_cases hk4 : (t.ch 4).kind = 2
 case neg =>
  have HX := hid hk4
  have tba : (((t.ch 4).kind) == (2)) = false := by rw [beq_eq_false_iff_ne]; exact hk4
  have tbb : (((t.ch 4).kind) = (2)) = False := eq_false (by exact hk4)
  have tbc : (((t.ch 4).kind) != (2)) = true := by rw [bne_iff_ne]; exact hk4
  clear hk4
  go_wp2_with (first | (go_at_call 103; refine (KZ.out _).mono ?_; rintro x w1 ⟨rfl, hb1⟩))
  exact ⟨rfl, .inr ⟨fun hc => HX.out (hc.2.2.1.2), 2, by decide, rfl, HE2.out.trans (e.h.trans hb1)⟩⟩
 have H_hk4 := hid hk4
 have tba : (((t.ch 4).kind) == (2)) = true := by rw [beq_iff_eq]; exact hk4
 have tbb : (((t.ch 4).kind) = (2)) = True := eq_true (by exact hk4)
 have tbc : (((t.ch 4).kind) != (2)) = false := by rw [bne_eq_false_iff_eq]; exact hk4
 clear hk4
 go_upto_region 4 with (go_at_call 103; refine (Ret.later (KY.out _)).mono ?_; rintro x _ ⟨rfl, e, rfl⟩)
 have x1 := fun (W : World) (hW : Ext wc W) => ((HC2.out 2 (by have := H5.out; omega)).mod hW HBW.out (by simp)).2.1
 clear x0 y0
 have HS4 : Hid (∀ W, Mod [N] wc W → W.cell? ⟨w.heap.size, 3, none⟩ = some (.slice (some ⟨b, o, none⟩) t.k c) ∧ W.cell? ⟨b, o + 10 + 1, none⟩ = some (.int .u64 ((t.ch 2).n : Int)) ∧ W.cell? ⟨b, o + 20 + 2, none⟩ = some (str (t.ch 4).s)) := hid (fun W hW => by
  obtain ⟨a0, a1, a2, a3, a4⟩ : At5 W b (o + 10) (t.ch 2) (ac 2).1 (ac 2).2 := by simpa using (HC2.out 2 (by have := H5.out; omega)).mod hW HBW.out (by simpa using HNB.out)
  obtain ⟨d0, d1, d2, d3, d4⟩ : At5 W b (o + 20) (t.ch 4) (ac 4).1 (ac 4).2 := by simpa using (HC2.out 4 (by have := H5.out; omega)).mod hW HBW.out (by simpa using HNB.out)
  exact ⟨(HB02.out.mod hW (by have := HNN.out; simp; omega)).cell 3, a1, d2⟩)
 clear x1
 refine wp_region_held_drew (S := fun w' => Mod [N] wc w') (by kernel_rfl) (Later.h e).of_ext.drew (fun hHeld => ?_)
 have hB := (HN2.out.later e).drew
 generalize e.x.drew = U4 at *
 refine' wpAnyH_take (i := 0) (v := _) rfl (by kernel_rfl) (by kernel_rfl) (by kernel_rfl) (fun _ _ _ h => h) (Or.inl ⟨by rfl, ?hy1⟩) hHeld ?rest1
 case hy1 => (rintro W hM; go_simp; (try with_reducible rfl))
 case rest1 =>
 (try simp only [Act.put, gTl, g0l, gSl, sTl, s0l, sSl])
 refine' wpAnyH_take (i := 1) (v := _) rfl (by kernel_rfl) (by kernel_rfl) (by kernel_rfl) (fun _ _ _ h => h) (Or.inl ⟨by rfl, ?hy2⟩) hHeld ?rest2
 case hy2 => (rintro W hM; obtain ⟨p0, p1, p2⟩ := HS4.out W hM; go_simp; (try with_reducible rfl))
 case rest2 =>
 (try simp only [Act.put, gTl, g0l, gSl, sTl, s0l, sSl])
 refine' wpAnyH_take (i := 2) (v := _) rfl (by kernel_rfl) (by kernel_rfl) (by kernel_rfl) (fun _ _ _ h => h) (Or.inl ⟨by rfl, ?hy3⟩) hHeld ?rest3
 case hy3 => (rintro W hM; go_simp; (try with_reducible rfl))
 case rest3 =>
 (try simp only [Act.put, gTl, g0l, gSl, sTl, s0l, sSl])
 refine' wpAnyH_take (i := 3) (v := _) rfl (by kernel_rfl) (by kernel_rfl) (by kernel_rfl) (fun _ _ _ h => h) (Or.inl ⟨by rfl, ?hy4⟩) hHeld ?rest4
 case hy4 => (rintro W hM; go_simp; (try with_reducible rfl))
 case rest4 =>
 (try simp only [Act.put, gTl, g0l, gSl, sTl, s0l, sSl])
 refine' wpAnyH_take (i := 4) (v := _) rfl (by kernel_rfl) (by kernel_rfl) (by kernel_rfl) (fun _ _ _ h => h) (Or.inl ⟨by rfl, ?hy5⟩) hHeld ?rest5
 case hy5 => (rintro W hM; obtain ⟨p0, p1, p2⟩ := HS4.out W hM; go_simp; (try with_reducible rfl))
 case rest5 =>
 (try simp only [Act.put, gTl, g0l, gSl, sTl, s0l, sSl])
 refine' wpAnyH_take (i := 5) (v := _) rfl (by kernel_rfl) (by kernel_rfl) (by kernel_rfl) (fun _ _ _ h => h) (Or.inl ⟨by rfl, ?hy6⟩) hHeld ?rest6
 case hy6 => (rintro W hM; go_simp; (try with_reducible rfl))
 case rest6 =>
 (try simp only [Act.put, gTl, g0l, gSl, sTl, s0l, sSl])
 refine' wpAnyH_take (i := 6) (v := _) rfl (by kernel_rfl) (by kernel_rfl) (by kernel_rfl) (fun _ _ _ h => h) (Or.inl ⟨by rfl, ?hy7⟩) hHeld ?rest7
 case hy7 => (rintro W hM; obtain ⟨p0, p1, p2⟩ := HS4.out W hM; go_simp; (try with_reducible rfl))
 case rest7 =>
 (try simp only [Act.put, gTl, g0l, gSl, sTl, s0l, sSl])
 refine' wpAnyH_take (i := 7) (v := _) rfl (by kernel_rfl) (by kernel_rfl) (by kernel_rfl) (fun _ _ _ h => h) (Or.inl ⟨by rfl, ?hy8⟩) hHeld ?rest8
 case hy8 => (rintro W hM; go_simp; (try with_reducible rfl))
 case rest8 =>
 (try simp only [Act.put, gTl, g0l, gSl, sTl, s0l, sSl])
 refine' wpAnyH_take (i := 8) (v := _) rfl (by kernel_rfl) (by kernel_rfl) (by kernel_rfl) (fun _ _ _ h => h) (Or.inl ⟨by rfl, ?hy9⟩) hHeld ?rest9
 case hy9 => (rintro W hM; go_simp; (try with_reducible rfl))
 case rest9 =>
 (try simp only [Act.put, gTl, g0l, gSl, sTl, s0l, sSl])
 refine' wpAnyH_take (i := 9) (v := _) rfl (by kernel_rfl) (by kernel_rfl) (by kernel_rfl) (fun _ _ _ h => h) (Or.inl ⟨by rfl, ?hy10⟩) hHeld ?rest10
 case hy10 => (rintro W hM; obtain ⟨p0, p1, p2⟩ := HS4.out W hM; go_simp; (try with_reducible rfl))
 case rest10 =>
 (try simp only [Act.put, gTl, g0l, gSl, sTl, s0l, sSl])
 refine' wpAnyH_take (i := 10) (v := _) rfl (by kernel_rfl) (by kernel_rfl) (by kernel_rfl) (fun _ _ _ h => h) (Or.inl ⟨by rfl, ?hy11⟩) hHeld ?rest11
 case hy11 => (rintro W hM; go_simp; (try with_reducible rfl))
 case rest11 =>
 (try simp only [Act.put, gTl, g0l, gSl, sTl, s0l, sSl])
 refine wpAnyH_ready (rs := [11]) (by kernel_rfl) (by simp) ?_
 refine AllReadyH.cons rfl (fun K hK => ?_) AllReadyH.nil
 have y1 := hB.cell 2
 have y2 := hB.frozen 2
 go_simp
 have hB := hB.set_ 2 (.int .u64 ((t.ch 2).n : Int))
 have hM := hHeld.setCell (p := ⟨N, 2, none⟩) (.inl (by simp)) (.int .u64 ((t.ch 2).n : Int))
 generalize hY : World.setCell _ ⟨N, 2, none⟩ _ = Y at *
 clear hY
 refine hK.out _ _ hM (fun hHeld => ?_)
 clear hK K
 (try simp only [Act.put, gTl, g0l, gSl, sTl, s0l, sSl])
 refine' wpAnyH_take (i := 12) (v := _) rfl (by kernel_rfl) (by kernel_rfl) (by kernel_rfl) (fun _ _ _ h => h) (Or.inl ⟨by rfl, ?hy12⟩) hHeld ?rest12
 case hy12 => (rintro W hM; go_simp; (try with_reducible rfl))
 case rest12 =>
 (try simp only [Act.put, gTl, g0l, gSl, sTl, s0l, sSl])
 refine wpAnyH_ready (rs := [13]) (by kernel_rfl) (by simp) ?_
 refine AllReadyH.cons rfl (fun K hK => ?_) AllReadyH.nil
 have y1 := hB.cell 4
 have y2 := hB.frozen 4
 go_simp
 have hB := hB.set_ 4 (str (t.ch 4).s)
 have hM := hHeld.setCell (p := ⟨N, 4, none⟩) (.inl (by simp)) (str (t.ch 4).s)
 generalize hY : World.setCell _ ⟨N, 4, none⟩ _ = Y5 at *
 clear hY
 refine hK.out _ _ hM (fun hHeld => ?_)
 clear hK K
 (try simp only [Act.put, gTl, g0l, gSl, sTl, s0l, sSl])
 refine wpAnyH_done (by kernel_rfl) ?_ _
 have hBB : Blk Y5 N 42 (BV.c ⟨numO (t.ch 0).n, numO (t.ch 1).n, (t.ch 2).n, numO (t.ch 3).n, (t.ch 4).s⟩) := hB
 clear hB y1 y2
 have HE5 := hid (HE2.out.of_ext.trans hM)
 have HE : Hid (Ext w Y5) := hid (HE5.out.new (fun kk hkk => .inr (by have := HNN.out; simp at hkk; omega)))
 have HB0 := hid (HB02.out.mod hM (by have := HNN.out; simp; omega))
 have HB1 := hid (HB12.out.mod hM (by have := HNN.out; simp; omega))
 have HL := hid (IsL.weak (R := fun _ => True) (fun _ _ _ => trivial) t (IsL.mod hM (fun k hk _ => by have := HUN.out; simp; omega) t HL2.out))
 have HC5 : Hid (∀ i, i < t.k → At5 Y5 b (o + i * 5) (t.ch i) (ac i).1 (ac i).2) := hid (fun i hi => (HC2.out i hi).mod hM HBW.out (by simpa using HNB.out))
 have HBL : Hid (b < Y5.heap.size) := hid (Nat.lt_of_lt_of_le HBW.out hM.size)
 have HBN := hid hBB
 clear HE5 HE2 HB02 HB12 HL2 HC2 HBW hM hHeld hBB HN2 HS4 b3 taa tab tac tba tbb tbc HUN
 have hg : ((t.ch 3).n = 0 ∧ numO (t.ch 3).n = 0) ∨ (2 < (t.ch 3).n ∧ 2 < numO (t.ch 3).n) ∨ (1 ≤ (t.ch 3).n ∧ (t.ch 3).n ≤ 2 ∧ numO (t.ch 3).n = ((t.ch 3).n : Int)) := by
  unfold numO
  split <;> omega
 obtain ⟨rr, hrr⟩ : ∃ rr, (blkOf t).right = rr := ⟨_, rfl⟩
 have KR : Hid (∀ W, Calls Tryz.prog 45 #[BV.v ⟨numO (t.ch 0).n, numO (t.ch 1).n, (t.ch 2).n, numO (t.ch 3).n, (t.ch 4).s⟩] W (Ret (.int .i64 rr) W)) := fun W => by rw [← hrr]; exact cbRight_any (blkOf t) W
 have KN := hid (fun W => need_no rr W)
 have KS := hid (fun W => need_yes rr W)
 have HRR := hid hrr
 clear hrr
 have g3 : ∀ e : Later Y5, e.x.cell? ⟨N, 3, none⟩ = some (.int .i64 (numO (t.ch 3).n)) := HBN.out.cellL 3 rfl
 have b3 : ∀ e : Later Y5, e.x.cell? ⟨w.heap.size, 3, none⟩ = some (.slice (some ⟨b, o, none⟩) t.k c) := HB0.out.cellL 3 rfl
 obtain ⟨e5, he⟩ := Later.self Y5
 rw [he]
 clear he
 rcases hg with ⟨hn, hg⟩ | ⟨hn, hg⟩ | ⟨hn1, hn2, hg⟩
 ·
  have HN0 := hid hn
  have tna : ((numO (t.ch 3).n) == (0)) = true := by rw [beq_iff_eq]; omega
  have tnb : ((numO (t.ch 3).n) = (0)) = True := eq_true (by omega)
  have tnc : ((numO (t.ch 3).n) != (0)) = false := by rw [bne_eq_false_iff_eq]; omega
  clear hn hg
  by_cases hk5 : t.k = 5
  case neg =>
   have HX := hid hk5
   have tka : ((t.k) == (5)) = false := by rw [beq_eq_false_iff_ne]; omega
   have tkb : ((t.k) = (5)) = False := eq_false (by omega)
   have tkc : ((t.k) != (5)) = true := by rw [bne_iff_ne]; omega
   have tla : (((t.k : Int)) == (5)) = false := by rw [beq_eq_false_iff_ne]; omega
   have tlb : (((t.k : Int)) = (5)) = False := eq_false (by omega)
   have tlc : (((t.k : Int)) != (5)) = true := by rw [bne_iff_ne]; omega
   clear hk5
   go_wp2_with (go_at_call 103; refine (KZ.out _).mono ?_; rintro x w1 ⟨rfl, hb1⟩)
   exact ⟨rfl, .inr ⟨fun hc => HX.out (by rcases hc.2.2.2.1 with ⟨_, h⟩ | ⟨h, _⟩; exact h; have := HN0.out; omega), 2, by decide, rfl, HE.out.trans (e5.h.trans hb1)⟩⟩
  have HX5 := hid hk5
  have tka : ((t.k) == (5)) = true := by rw [beq_iff_eq]; omega
  have tkb : ((t.k) = (5)) = True := eq_true (by omega)
  have tkc : ((t.k) != (5)) = false := by rw [bne_eq_false_iff_eq]; omega
  have tla : (((t.k : Int)) == (5)) = true := by rw [beq_iff_eq]; omega
  have tlb : (((t.k : Int)) = (5)) = True := eq_true (by omega)
  have tlc : (((t.k : Int)) != (5)) = false := by rw [bne_eq_false_iff_eq]; omega
  clear hk5
  go_upto_region 11 with (go_at_call 103; refine (Ret.later (KY.out _)).mono ?_; rintro x _ ⟨rfl, e, rfl⟩)
  by_cases h0 : rr = 0
  case neg =>
   have HX := hid h0
   have tza : ((rr) == (0)) = false := by rw [beq_eq_false_iff_ne]; exact h0
   have tzb : ((rr) = (0)) = False := eq_false (by exact h0)
   have tzc : ((rr) != (0)) = true := by rw [bne_iff_ne]; exact h0
   clear h0
   go_wp2_with (first | (refine wpList_row (by rfl) 42 _ rfl _ rfl (HBN.out.later _) Tryz.underlying42 rfl (by kernel_rfl) ?_) | (go_at_call 45; refine (Ret.later (KR.out _)).mono ?_; rintro x _ ⟨rfl, e, rfl⟩) | (go_at_call 103; refine (KN.out _).mono ?_; rintro x w1 ⟨rfl, hb1⟩))
   exact ⟨rfl, .inr ⟨fun hc => HX.out (HRR.out.symm.trans hc.2.2.2.2), rr, HX.out, rfl, HE.out.trans (e.h.trans hb1)⟩⟩
  have HX := hid h0
  have tza : ((rr) == (0)) = true := by rw [beq_iff_eq]; exact h0
  have tzb : ((rr) = (0)) = True := eq_true (by exact h0)
  have tzc : ((rr) != (0)) = false := by rw [bne_eq_false_iff_eq]; exact h0
  clear h0
  go_upto_region 13 with (first | (refine wpList_row (by rfl) 42 _ rfl _ rfl (HBN.out.later _) Tryz.underlying42 rfl (by kernel_rfl) ?_) | (go_at_call 45; refine (Ret.later (KR.out _)).mono ?_; rintro x _ ⟨rfl, e, rfl⟩) | (go_at_call 103; refine (Ret.later (KS.out _)).mono ?_; rintro x _ ⟨rfl, e, rfl⟩))
  go_wp2_with (first | (refine wpList_row (by rfl) 42 _ rfl _ rfl (HBN.out.later _) Tryz.underlying42 rfl (by kernel_rfl) ?_) | (refine wpList_store_mid rfl 42 _ _ rfl (w.heap.size + 1) 0 (BV.c ⟨numO (t.ch 0).n, numO (t.ch 1).n, (t.ch 2).n, numO (t.ch 3).n, (t.ch 4).s⟩) (by rfl) (by rfl) ((HB1.out.later e).there (Nat.le_refl 5)) (by kernel_rfl) (by simp [Value.oneCell']) ?_))
  generalize hZ : World.setCells _ _ _ _ = Z
  have HZB : Hid (Blk Z (w.heap.size + 1) 42 (BV.c ⟨numO (t.ch 0).n, numO (t.ch 1).n, (t.ch 2).n, numO (t.ch 3).n, (t.ch 4).s⟩)) := hid (by rw [← hZ]; exact setCells_all (ds := (BV.c ⟨numO (t.ch 0).n, numO (t.ch 1).n, (t.ch 2).n, numO (t.ch 3).n, (t.ch 4).s⟩)) (HB1.out.later e) rfl)
  have HZM : Hid (Ext w Z) := hid (by rw [← hZ]; exact setCells_mod _ _ (HE.out.trans e.h) (.inr (by omega)))
  clear hZ
  exact bodyPost_ret (v := (blkOf t).v) (results_cell Tryz.results69 _ rfl HZB.out Tryz.underlying42 rfl (by kernel_rfl)) rfl (.inl ⟨⟨⟨HR.out, HK.out, HOP.out, H5.out⟩, ⟨HK0.out, HK1.out, HK3.out⟩, ⟨H_hk2.out, H_hk4.out⟩, .inl ⟨.inl HN0.out, HX5.out⟩, HRR.out.trans HX.out⟩, Ret.mk rfl HZM.out⟩)
 ·
  have HN0 := hid hn
  have tna : ((numO (t.ch 3).n) == (0)) = false := by rw [beq_eq_false_iff_ne]; omega
  have tnb : ((numO (t.ch 3).n) = (0)) = False := eq_false (by omega)
  have tnc : ((numO (t.ch 3).n) != (0)) = true := by rw [bne_iff_ne]; omega
  have tma : decide (2 < numO (t.ch 3).n) = true := decide_eq_true (by omega)
  have tmb : (2 < numO (t.ch 3).n) = True := eq_true (by omega)
  clear hn hg
  by_cases hk5 : t.k = 5
  case neg =>
   have HX := hid hk5
   have tka : ((t.k) == (5)) = false := by rw [beq_eq_false_iff_ne]; omega
   have tkb : ((t.k) = (5)) = False := eq_false (by omega)
   have tkc : ((t.k) != (5)) = true := by rw [bne_iff_ne]; omega
   have tla : (((t.k : Int)) == (5)) = false := by rw [beq_eq_false_iff_ne]; omega
   have tlb : (((t.k : Int)) = (5)) = False := eq_false (by omega)
   have tlc : (((t.k : Int)) != (5)) = true := by rw [bne_iff_ne]; omega
   clear hk5
   go_wp2_with (go_at_call 103; refine (KZ.out _).mono ?_; rintro x w1 ⟨rfl, hb1⟩)
   exact ⟨rfl, .inr ⟨fun hc => HX.out (by rcases hc.2.2.2.1 with ⟨_, h⟩ | ⟨h, _⟩; exact h; have := HN0.out; omega), 2, by decide, rfl, HE.out.trans (e5.h.trans hb1)⟩⟩
  have HX5 := hid hk5
  have tka : ((t.k) == (5)) = true := by rw [beq_iff_eq]; omega
  have tkb : ((t.k) = (5)) = True := eq_true (by omega)
  have tkc : ((t.k) != (5)) = false := by rw [bne_eq_false_iff_eq]; omega
  have tla : (((t.k : Int)) == (5)) = true := by rw [beq_iff_eq]; omega
  have tlb : (((t.k : Int)) = (5)) = True := eq_true (by omega)
  have tlc : (((t.k : Int)) != (5)) = false := by rw [bne_eq_false_iff_eq]; omega
  clear hk5
  go_upto_region 11 with (go_at_call 103; refine (Ret.later (KY.out _)).mono ?_; rintro x _ ⟨rfl, e, rfl⟩)
  by_cases h0 : rr = 0
  case neg =>
   have HX := hid h0
   have tza : ((rr) == (0)) = false := by rw [beq_eq_false_iff_ne]; exact h0
   have tzb : ((rr) = (0)) = False := eq_false (by exact h0)
   have tzc : ((rr) != (0)) = true := by rw [bne_iff_ne]; exact h0
   clear h0
   go_wp2_with (first | (refine wpList_row (by rfl) 42 _ rfl _ rfl (HBN.out.later _) Tryz.underlying42 rfl (by kernel_rfl) ?_) | (go_at_call 45; refine (Ret.later (KR.out _)).mono ?_; rintro x _ ⟨rfl, e, rfl⟩) | (go_at_call 103; refine (KN.out _).mono ?_; rintro x w1 ⟨rfl, hb1⟩))
   exact ⟨rfl, .inr ⟨fun hc => HX.out (HRR.out.symm.trans hc.2.2.2.2), rr, HX.out, rfl, HE.out.trans (e.h.trans hb1)⟩⟩
  have HX := hid h0
  have tza : ((rr) == (0)) = true := by rw [beq_iff_eq]; exact h0
  have tzb : ((rr) = (0)) = True := eq_true (by exact h0)
  have tzc : ((rr) != (0)) = false := by rw [bne_eq_false_iff_eq]; exact h0
  clear h0
  go_upto_region 13 with (first | (refine wpList_row (by rfl) 42 _ rfl _ rfl (HBN.out.later _) Tryz.underlying42 rfl (by kernel_rfl) ?_) | (go_at_call 45; refine (Ret.later (KR.out _)).mono ?_; rintro x _ ⟨rfl, e, rfl⟩) | (go_at_call 103; refine (Ret.later (KS.out _)).mono ?_; rintro x _ ⟨rfl, e, rfl⟩))
  go_wp2_with (first | (refine wpList_row (by rfl) 42 _ rfl _ rfl (HBN.out.later _) Tryz.underlying42 rfl (by kernel_rfl) ?_) | (refine wpList_store_mid rfl 42 _ _ rfl (w.heap.size + 1) 0 (BV.c ⟨numO (t.ch 0).n, numO (t.ch 1).n, (t.ch 2).n, numO (t.ch 3).n, (t.ch 4).s⟩) (by rfl) (by rfl) ((HB1.out.later e).there (Nat.le_refl 5)) (by kernel_rfl) (by simp [Value.oneCell']) ?_))
  generalize hZ : World.setCells _ _ _ _ = Z
  have HZB : Hid (Blk Z (w.heap.size + 1) 42 (BV.c ⟨numO (t.ch 0).n, numO (t.ch 1).n, (t.ch 2).n, numO (t.ch 3).n, (t.ch 4).s⟩)) := hid (by rw [← hZ]; exact setCells_all (ds := (BV.c ⟨numO (t.ch 0).n, numO (t.ch 1).n, (t.ch 2).n, numO (t.ch 3).n, (t.ch 4).s⟩)) (HB1.out.later e) rfl)
  have HZM : Hid (Ext w Z) := hid (by rw [← hZ]; exact setCells_mod _ _ (HE.out.trans e.h) (.inr (by omega)))
  clear hZ
  exact bodyPost_ret (v := (blkOf t).v) (results_cell Tryz.results69 _ rfl HZB.out Tryz.underlying42 rfl (by kernel_rfl)) rfl (.inl ⟨⟨⟨HR.out, HK.out, HOP.out, H5.out⟩, ⟨HK0.out, HK1.out, HK3.out⟩, ⟨H_hk2.out, H_hk4.out⟩, .inl ⟨.inr HN0.out, HX5.out⟩, HRR.out.trans HX.out⟩, Ret.mk rfl HZM.out⟩)
 ·
  have HG := hid hg
  have HN1 := hid hn1
  have HN2 := hid hn2
  have tna : ((numO (t.ch 3).n) == (0)) = false := by rw [beq_eq_false_iff_ne]; omega
  have tnb : ((numO (t.ch 3).n) = (0)) = False := eq_false (by omega)
  have tnc : ((numO (t.ch 3).n) != (0)) = true := by rw [bne_iff_ne]; omega
  have tma : decide (2 < numO (t.ch 3).n) = false := decide_eq_false (by omega)
  have tmb : (2 < numO (t.ch 3).n) = False := eq_false (by omega)
  clear hg hn1 hn2
  by_cases hk6 : t.k = 6
  case neg =>
   have HX := hid hk6
   have tka : ((t.k) == (6)) = false := by rw [beq_eq_false_iff_ne]; omega
   have tkb : ((t.k) = (6)) = False := eq_false (by omega)
   have tkc : ((t.k) != (6)) = true := by rw [bne_iff_ne]; omega
   have tla : (((t.k : Int)) == (6)) = false := by rw [beq_eq_false_iff_ne]; omega
   have tlb : (((t.k : Int)) = (6)) = False := eq_false (by omega)
   have tlc : (((t.k : Int)) != (6)) = true := by rw [bne_iff_ne]; omega
   clear hk6
   go_wp2_with (go_at_call 103; refine (KZ.out _).mono ?_; rintro x w1 ⟨rfl, hb1⟩)
   exact ⟨rfl, .inr ⟨fun hc => HX.out (by rcases hc.2.2.2.1 with ⟨h, _⟩ | ⟨_, h, _⟩; have := HN1.out; have := HN2.out; omega; exact h), 2, by decide, rfl, HE.out.trans (e5.h.trans hb1)⟩⟩
  have HX6 := hid hk6
  have tka : ((t.k) == (6)) = true := by rw [beq_iff_eq]; omega
  have tkb : ((t.k) = (6)) = True := eq_true (by omega)
  have tkc : ((t.k) != (6)) = false := by rw [bne_eq_false_iff_eq]; omega
  have tla : (((t.k : Int)) == (6)) = true := by rw [beq_iff_eq]; omega
  have tlb : (((t.k : Int)) = (6)) = True := eq_true (by omega)
  have tlc : (((t.k : Int)) != (6)) = false := by rw [bne_eq_false_iff_eq]; omega
  clear hk6
  go_upto_region 8 with (go_at_call 103; refine (Ret.later (KY.out _)).mono ?_; rintro x _ ⟨rfl, e, rfl⟩)
  have kk5 : (5 : Int) < (t.k : Int) := by have := HX6.out; omega
  have i5 : (5 < t.k) = True := eq_true (by have := HX6.out; omega)
  have j5 : decide (5 < t.k) = true := decide_eq_true (by have := HX6.out; omega)
  obtain ⟨x0, x1, x2, x3, x4⟩ : At5 e.x b (o + 25) (t.ch 5) (ac 5).1 (ac 5).2 := by simpa using (HC5.out 5 (by have := HX6.out; omega)).mod e.h HBL.out (by simp)
  go_upto_region 9 with (refine wpList_store_mid rfl 52 _ _ rfl e.x.heap.size 0 (itemC (t.ch 5) (ac 5).1 (ac 5).2) (by rfl) (by rfl) ((Blk.new _ _ _).there (Nat.le_refl 5)) (by kernel_rfl) (by simp [Value.oneCell']) ?_)
  generalize hZ : World.setCells _ _ _ _ = Z8
  have HBM : Hid (Blk Z8 e.x.heap.size 52 (itemC (t.ch 5) (ac 5).1 (ac 5).2)) := hid (by rw [← hZ]; exact setCells_all (ds := itemC (t.ch 5) (ac 5).1 (ac 5).2) (Blk.new _ _ _) rfl)
  have HZY : Hid (Ext Y5 Z8) := hid (by rw [← hZ]; exact setCells_mod _ _ (e.h.alloc _) (.inr e.h.size))
  have HE8 := hid (HE.out.trans HZY.out)
  have HB08 := hid (HB0.out.ext HZY.out)
  have HB18 := hid (HB1.out.ext HZY.out)
  have HBN8 := hid (HBN.out.ext HZY.out)
  have HL8 := hid (HL.out.ext HZY.out)
  clear hZ HZY x0 x1 x2 x3 x4 HE HB0 HB1 HBN HL HC5 HBL b3 g3
  generalize e.x.heap.size = M at *
  clear e e5
  obtain ⟨sz, hsz⟩ : ∃ sz : Nat, 2 * (t.ch 3).n = sz := ⟨_, rfl⟩
  have KSZ : Hid (∀ W, Calls Tryz.prog 105 #[.int .i64 (numO (t.ch 3).n)] W (Ret (.int .i64 (sz : Int)) W)) := fun W => by rw [HG.out, ← hsz]; exact Size_any _ HN2.out W
  have HSZ2 := hid hsz
  clear hsz
  have g3 : ∀ e : Later Z8, e.x.cell? ⟨N, 3, none⟩ = some (.int .i64 (numO (t.ch 3).n)) := HBN8.out.cellL 3 rfl
  have m0 : ∀ e : Later Z8, e.x.cell? ⟨M, 0, none⟩ = some (.int .i64 (t.ch 5).kind) := HBM.out.cellL 0 rfl
  have m2 : ∀ e : Later Z8, e.x.cell? ⟨M, 2, none⟩ = some (str (t.ch 5).s) := HBM.out.cellL 2 rfl
  obtain ⟨e8, he⟩ := Later.self Z8
  rw [he]
  clear he
  by_cases hks : (t.ch 5).kind = 2
  case neg =>
   have HX := hid hks
   have tua : (((t.ch 5).kind) == (2)) = false := by rw [beq_eq_false_iff_ne]; exact hks
   have tub : (((t.ch 5).kind) = (2)) = False := eq_false (by exact hks)
   have tuc : (((t.ch 5).kind) != (2)) = true := by rw [bne_iff_ne]; exact hks
   clear hks
   have HS9 : Hid (∀ W, Ext Z8 W → W.cell? ⟨M, 0, none⟩ = some (.int .i64 (t.ch 5).kind) ∧ W.cell? ⟨M, 2, none⟩ = some (str (t.ch 5).s) ∧ W.cell? ⟨N, 3, none⟩ = some (.int .i64 (numO (t.ch 3).n))) := hid (fun W hW => ⟨(HBM.out.ext hW).cell 0, (HBM.out.ext hW).cell 2, (HBN8.out.ext hW).cell 3⟩)
   clear g3 m0 m2
   refine wp_region_held_drew (S := fun w' => Ext Z8 w') (by kernel_rfl) e8.h.drew (fun hHeld => ?_)
   refine' wpAnyH_take (i := 0) (v := _) rfl (by kernel_rfl) (by kernel_rfl) (by kernel_rfl) (fun _ _ _ h => h) (Or.inl ⟨by rfl, ?hy13⟩) hHeld ?rest13
   case hy13 => (rintro W hM; go_simp; (try with_reducible rfl))
   case rest13 =>
   (try simp only [Act.put, gTl, g0l, gSl, sTl, s0l, sSl])
   refine' wpAnyH_take (i := 1) (v := _) rfl (by kernel_rfl) (by kernel_rfl) (by kernel_rfl) (fun _ _ _ h => h) (Or.inl ⟨by rfl, ?hy14⟩) hHeld ?rest14
   case hy14 => (rintro W hM; obtain ⟨p0, p2, p3⟩ := HS9.out W hM; go_simp; (try with_reducible rfl))
   case rest14 =>
   (try simp only [Act.put, gTl, g0l, gSl, sTl, s0l, sSl])
   refine' wpAnyH_take (i := 2) (v := _) rfl (by kernel_rfl) (by kernel_rfl) (by kernel_rfl) (fun _ _ _ h => h) (Or.inl ⟨by rfl, ?hy15⟩) hHeld ?rest15
   case hy15 => (rintro W hM; go_simp; (try with_reducible rfl))
   case rest15 =>
   (try simp only [Act.put, gTl, g0l, gSl, sTl, s0l, sSl])
   refine' wpAnyH_take (i := 3) (v := _) rfl (by kernel_rfl) (by kernel_rfl) (by kernel_rfl) (fun _ _ _ h => h) (Or.inl ⟨by rfl, ?hy16⟩) hHeld ?rest16
   case hy16 => (rintro W hM; go_simp; (try with_reducible rfl))
   case rest16 =>
   (try simp only [Act.put, gTl, g0l, gSl, sTl, s0l, sSl])
   refine wpAnyH_take (i := 4) (v := undef) rfl (by kernel_rfl) (by kernel_rfl) (by kernel_rfl) (fun _ _ _ h => h) (Or.inr ⟨by rfl, rfl⟩) hHeld ?_
   (try simp only [Act.put, gTl, g0l, gSl, sTl, s0l, sSl])
   refine wpAnyH_take (i := 5) (v := undef) rfl (by kernel_rfl) (by kernel_rfl) (by kernel_rfl) (fun _ _ _ h => h) (Or.inr ⟨by rfl, rfl⟩) hHeld ?_
   (try simp only [Act.put, gTl, g0l, gSl, sTl, s0l, sSl])
   refine wpAnyH_take (i := 6) (v := undef) rfl (by kernel_rfl) (by kernel_rfl) (by kernel_rfl) (fun _ _ _ h => h) (Or.inr ⟨by rfl, rfl⟩) hHeld ?_
   (try simp only [Act.put, gTl, g0l, gSl, sTl, s0l, sSl])
   refine wpAnyH_take (i := 7) (v := undef) rfl (by kernel_rfl) (by kernel_rfl) (by kernel_rfl) (fun _ _ _ h => h) (Or.inr ⟨by rfl, rfl⟩) hHeld ?_
   (try simp only [Act.put, gTl, g0l, gSl, sTl, s0l, sSl])
   refine wpAnyH_take (i := 8) (v := undef) rfl (by kernel_rfl) (by kernel_rfl) (by kernel_rfl) (fun _ _ _ h => h) (Or.inr ⟨by rfl, rfl⟩) hHeld ?_
   (try simp only [Act.put, gTl, g0l, gSl, sTl, s0l, sSl])
   refine wpAnyH_take (i := 9) (v := undef) rfl (by kernel_rfl) (by kernel_rfl) (by kernel_rfl) (fun _ _ _ h => h) (Or.inr ⟨by rfl, rfl⟩) hHeld ?_
   (try simp only [Act.put, gTl, g0l, gSl, sTl, s0l, sSl])
   refine wpAnyH_take (i := 10) (v := undef) rfl (by kernel_rfl) (by kernel_rfl) (by kernel_rfl) (fun _ _ _ h => h) (Or.inr ⟨by rfl, rfl⟩) hHeld ?_
   (try simp only [Act.put, gTl, g0l, gSl, sTl, s0l, sSl])
   refine' wpAnyH_take (i := 11) (v := _) rfl (by kernel_rfl) (by kernel_rfl) (by kernel_rfl) (fun _ _ _ h => h) (Or.inl ⟨by rfl, ?hy17⟩) hHeld ?rest17
   case hy17 => (rintro W hM; go_simp; (try with_reducible rfl))
   case rest17 =>
   (try simp only [Act.put, gTl, g0l, gSl, sTl, s0l, sSl])
   refine wpAnyH_ready (rs := [12]) (by kernel_rfl) (by simp) ?_
   refine AllReadyH.cons rfl (fun K hK => ?_) AllReadyH.nil
   go_simp
   (go_at_call 103; refine (KZ.out _).mono ?_; rintro x w1 ⟨rfl, hb1⟩)
   exact ⟨rfl, .inr ⟨fun hc => HX.out (show sumOK t (t.ch 3).n from by rcases hc.2.2.2.1 with ⟨h, _⟩ | ⟨_, _, h⟩; have := HN1.out; have := HN2.out; omega; exact h).1, 2, by decide, rfl, HE8.out.trans (hHeld.trans hb1)⟩⟩
  have HXS := hid hks
  have tua : (((t.ch 5).kind) == (2)) = true := by rw [beq_iff_eq]; exact hks
  have tub : (((t.ch 5).kind) = (2)) = True := eq_true (by exact hks)
  have tuc : (((t.ch 5).kind) != (2)) = false := by rw [bne_eq_false_iff_eq]; exact hks
  clear hks
  by_cases hln : (t.ch 5).s.length = sz
  case neg =>
   have HX := hid hln
   have tva : (((t.ch 5).s.length) == (sz)) = false := by rw [beq_eq_false_iff_ne]; omega
   have tvb : (((t.ch 5).s.length) = (sz)) = False := eq_false (by omega)
   have tvc : (((t.ch 5).s.length) != (sz)) = true := by rw [bne_iff_ne]; omega
   have twa : ((((t.ch 5).s.length : Int)) == ((sz : Int))) = false := by rw [beq_eq_false_iff_ne]; omega
   have twb : ((((t.ch 5).s.length : Int)) = ((sz : Int))) = False := eq_false (by omega)
   have twc : ((((t.ch 5).s.length : Int)) != ((sz : Int))) = true := by rw [bne_iff_ne]; omega
   clear hln
   have HS9 : Hid (∀ W, Ext Z8 W → W.cell? ⟨M, 0, none⟩ = some (.int .i64 (t.ch 5).kind) ∧ W.cell? ⟨M, 2, none⟩ = some (str (t.ch 5).s) ∧ W.cell? ⟨N, 3, none⟩ = some (.int .i64 (numO (t.ch 3).n))) := hid (fun W hW => ⟨(HBM.out.ext hW).cell 0, (HBM.out.ext hW).cell 2, (HBN8.out.ext hW).cell 3⟩)
   clear g3 m0 m2
   refine wp_region_held_drew (S := fun w' => Ext Z8 w') (by kernel_rfl) e8.h.drew (fun hHeld => ?_)
   refine' wpAnyH_take (i := 0) (v := _) rfl (by kernel_rfl) (by kernel_rfl) (by kernel_rfl) (fun _ _ _ h => h) (Or.inl ⟨by rfl, ?hy18⟩) hHeld ?rest18
   case hy18 => (rintro W hM; go_simp; (try with_reducible rfl))
   case rest18 =>
   (try simp only [Act.put, gTl, g0l, gSl, sTl, s0l, sSl])
   refine' wpAnyH_take (i := 1) (v := _) rfl (by kernel_rfl) (by kernel_rfl) (by kernel_rfl) (fun _ _ _ h => h) (Or.inl ⟨by rfl, ?hy19⟩) hHeld ?rest19
   case hy19 => (rintro W hM; obtain ⟨p0, p2, p3⟩ := HS9.out W hM; go_simp; (try with_reducible rfl))
   case rest19 =>
   (try simp only [Act.put, gTl, g0l, gSl, sTl, s0l, sSl])
   refine' wpAnyH_take (i := 2) (v := _) rfl (by kernel_rfl) (by kernel_rfl) (by kernel_rfl) (fun _ _ _ h => h) (Or.inl ⟨by rfl, ?hy20⟩) hHeld ?rest20
   case hy20 => (rintro W hM; go_simp; (try with_reducible rfl))
   case rest20 =>
   (try simp only [Act.put, gTl, g0l, gSl, sTl, s0l, sSl])
   refine' wpAnyH_take (i := 3) (v := _) rfl (by kernel_rfl) (by kernel_rfl) (by kernel_rfl) (fun _ _ _ h => h) (Or.inl ⟨by rfl, ?hy21⟩) hHeld ?rest21
   case hy21 => (rintro W hM; go_simp; (try with_reducible rfl))
   case rest21 =>
   (try simp only [Act.put, gTl, g0l, gSl, sTl, s0l, sSl])
   refine' wpAnyH_take (i := 4) (v := _) rfl (by kernel_rfl) (by kernel_rfl) (by kernel_rfl) (fun _ _ _ h => h) (Or.inl ⟨by rfl, ?hy22⟩) hHeld ?rest22
   case hy22 => (rintro W hM; go_simp; (try with_reducible rfl))
   case rest22 =>
   (try simp only [Act.put, gTl, g0l, gSl, sTl, s0l, sSl])
   refine' wpAnyH_take (i := 5) (v := _) rfl (by kernel_rfl) (by kernel_rfl) (by kernel_rfl) (fun _ _ _ h => h) (Or.inl ⟨by rfl, ?hy23⟩) hHeld ?rest23
   case hy23 => (rintro W hM; obtain ⟨p0, p2, p3⟩ := HS9.out W hM; go_simp; (try with_reducible rfl))
   case rest23 =>
   (try simp only [Act.put, gTl, g0l, gSl, sTl, s0l, sSl])
   refine' wpAnyH_take (i := 6) (v := _) rfl (by kernel_rfl) (by kernel_rfl) (by kernel_rfl) (fun _ _ _ h => h) (Or.inl ⟨by rfl, ?hy24⟩) hHeld ?rest24
   case hy24 => (rintro W hM; go_simp; (try with_reducible rfl))
   case rest24 =>
   (try simp only [Act.put, gTl, g0l, gSl, sTl, s0l, sSl])
   refine' wpAnyH_take (i := 7) (v := _) rfl (by kernel_rfl) (by kernel_rfl) (by kernel_rfl) (fun _ _ _ h => h) (Or.inl ⟨by rfl, ?hy25⟩) hHeld ?rest25
   case hy25 => (rintro W hM; go_simp; (try with_reducible rfl))
   case rest25 =>
   (try simp only [Act.put, gTl, g0l, gSl, sTl, s0l, sSl])
   refine' wpAnyH_take (i := 8) (v := _) rfl (by kernel_rfl) (by kernel_rfl) (by kernel_rfl) (fun _ _ _ h => h) (Or.inl ⟨by rfl, ?hy26⟩) hHeld ?rest26
   case hy26 => (rintro W hM; obtain ⟨p0, p2, p3⟩ := HS9.out W hM; go_simp; (try with_reducible rfl))
   case rest26 =>
   (try simp only [Act.put, gTl, g0l, gSl, sTl, s0l, sSl])
   refine wpAnyH_ready (rs := [9]) (by kernel_rfl) (by simp) ?_
   refine AllReadyH.cons rfl (fun K hK => ?_) AllReadyH.nil
   go_simp
   (go_at_call 105; refine (KSZ.out _).mono ?_; rintro y v ⟨rfl, hb⟩)
   refine hK.out _ _ (hHeld.trans hb) (fun hHeld => ?_)
   clear hK K
   (try simp only [Act.put, gTl, g0l, gSl, sTl, s0l, sSl])
   refine' wpAnyH_take (i := 10) (v := _) rfl (by kernel_rfl) (by kernel_rfl) (by kernel_rfl) (fun _ _ _ h => h) (Or.inl ⟨by rfl, ?hy27⟩) hHeld ?rest27
   case hy27 => (rintro W hM; go_simp; (try with_reducible rfl))
   case rest27 =>
   (try simp only [Act.put, gTl, g0l, gSl, sTl, s0l, sSl])
   refine' wpAnyH_take (i := 11) (v := _) rfl (by kernel_rfl) (by kernel_rfl) (by kernel_rfl) (fun _ _ _ h => h) (Or.inl ⟨by rfl, ?hy28⟩) hHeld ?rest28
   case hy28 => (rintro W hM; go_simp; (try with_reducible rfl))
   case rest28 =>
   (try simp only [Act.put, gTl, g0l, gSl, sTl, s0l, sSl])
   refine wpAnyH_ready (rs := [12]) (by kernel_rfl) (by simp) ?_
   refine AllReadyH.cons rfl (fun K hK => ?_) AllReadyH.nil
   go_simp
   (go_at_call 103; refine (KZ.out _).mono ?_; rintro x w1 ⟨rfl, hb1⟩)
   exact ⟨rfl, .inr ⟨fun hc => HX.out ((show sumOK t (t.ch 3).n from by rcases hc.2.2.2.1 with ⟨h, _⟩ | ⟨_, _, h⟩; have := HN1.out; have := HN2.out; omega; exact h).2.1.trans HSZ2.out), 2, by decide, rfl, HE8.out.trans (hHeld.trans hb1)⟩⟩
  have HXL := hid hln
  have tva : (((t.ch 5).s.length) == (sz)) = true := by rw [beq_iff_eq]; omega
  have tvb : (((t.ch 5).s.length) = (sz)) = True := eq_true (by omega)
  have tvc : (((t.ch 5).s.length) != (sz)) = false := by rw [bne_eq_false_iff_eq]; omega
  have twa : ((((t.ch 5).s.length : Int)) == ((sz : Int))) = true := by rw [beq_iff_eq]; omega
  have twb : ((((t.ch 5).s.length : Int)) = ((sz : Int))) = True := eq_true (by omega)
  have twc : ((((t.ch 5).s.length : Int)) != ((sz : Int))) = false := by rw [bne_eq_false_iff_eq]; omega
  clear hln
  (try simp only [Act.put, gTl, g0l, gSl, sTl, s0l, sSl])
  refine wp_region_later (by kernel_rfl) (by kernel_rfl) ?_
  repeat (go_big_quiet_step ((first | (go_at_call 105; exact Ret.later (KSZ.out _)) | (go_at_call 103; exact Ret.later (KY.out _)))))
  refine wpQuiet_nil ?_
  rintro _ ⟨e9, rfl⟩
  clear g3 m0 m2 tua tub tuc tva tvb tvc twa twb twc
  have hk6 := HX6.out
  obtain ⟨l1, l2⟩ := lastT_facts HO.out hk6 (List.replicate (2 * (t.ch 3).n) 0) (by have := HN2.out; simp; omega)
  obtain ⟨u1, u2⟩ := lastT_facts HO.out hk6 (Crc.sumL (t.ch 3).n (bldL (lastT t.ch (List.replicate (2 * (t.ch 3).n) 0)))) (by rw [Crc.sumL_length HN1.out HN2.out]; have := HN2.out; omega)
  have hT := six_of HR.out HK.out HOP.out hk6
  have KSM : Hid (∀ W, IsL W (fun _ => True) t (some ⟨b, o, none⟩) → Calls Tryz.prog 106 #[.int .i64 (numO (t.ch 3).n), itemV t (some ⟨b, o, none⟩) c] W (fun e w' => ∃ B d, e = .returned (itemV (lastT t.ch (Crc.sumL (t.ch 3).n (bldL (lastT t.ch (List.replicate (2 * (t.ch 3).n) 0))))) B d) ∧ Ext W w' ∧ IsL w' (fun _ => True) (lastT t.ch (Crc.sumL (t.ch 3).n (bldL (lastT t.ch (List.replicate (2 * (t.ch 3).n) 0))))) B)) := fun W hW => by
   have hI : IsL W (fun b => 0 ≤ b) (T.mk 4 0 [] false 6 t.ch) (some ⟨b, o, none⟩) := by rw [← hT]; exact IsL.weak (fun k _ _ => Nat.zero_le k) t hW
   have := summed_any t.ch (t.ch 3).n (by unfold Hid; exact HN1.out) (by unfold Hid; exact HN2.out) (by unfold Hid; exact ⟨l1, by have := HSZ.out; omega⟩) (by unfold Hid; have := bldL_length (lastT t.ch (List.replicate (2 * (t.ch 3).n) 0)); have := HSZ.out; omega) 0 _ c W (by unfold Hid; exact Nat.zero_le _) hI
   have hv : itemV t (some ⟨b, o, none⟩) c = .agg #[.int .i64 4, .int .u64 0, str [], .slice (some ⟨b, o, none⟩) 6 c, .bool false] := by rw [hT]; rfl
   rw [HG.out, hv]
   exact this.mono fun e w' ⟨B, d, h1, h2, h3⟩ => ⟨B, d, h1, h2, IsL.weak (fun _ _ _ => trivial) _ h3⟩
  obtain ⟨T2, hT2⟩ : ∃ T2, lastT t.ch (Crc.sumL (t.ch 3).n (bldL (lastT t.ch (List.replicate (2 * (t.ch 3).n) 0)))) = T2 := ⟨_, rfl⟩
  rw [hT2] at KSM u1
  have HT2 := hid hT2
  obtain ⟨sb, hsb⟩ : ∃ sb, (T2.right 8 && t.right 8 && T2.same t) = sb := ⟨_, rfl⟩
  have KSA : Hid (∀ W B d, IsL W (fun _ => True) T2 B → IsL W (fun _ => True) t (some ⟨b, o, none⟩) → Calls Tryz.prog 65 #[itemV T2 B d, itemV t (some ⟨b, o, none⟩) c] W (Ret (.bool sb) W)) := fun W B d h1 h2 => by rw [← hsb]; exact Same_any T2 t u1 HO.out B _ d c W h1 h2
  have HSB := hid hsb
  have K5 := hid (fun W => need_no 5 W)
  have K6 := hid (fun W => need_yes 5 W)
  have g3 : Hid (∀ W, Ext Z8 W → W.cell? ⟨N, 3, none⟩ = some (.int .i64 (numO (t.ch 3).n))) := hid (fun W hW => (HBN8.out.ext hW).cell 3)
  clear hT2 hsb u1 u2 l1 l2 hT hk6
  go_upto_region 10 with fail
  cases sb with
  | false =>
   refine wp_region_held_drew (S := fun w' => Ext Z8 w') (by kernel_rfl) e9.h.drew (fun hHeld => ?_)
   refine' wpAnyH_take (i := 0) (v := _) rfl (by kernel_rfl) (by kernel_rfl) (by kernel_rfl) (fun _ _ _ h => h) (Or.inl ⟨by rfl, ?hy29⟩) hHeld ?rest29
   case hy29 => (rintro W hM; go_simp; (try with_reducible rfl))
   case rest29 =>
   (try simp only [Act.put, gTl, g0l, gSl, sTl, s0l, sSl])
   refine' wpAnyH_take (i := 1) (v := _) rfl (by kernel_rfl) (by kernel_rfl) (by kernel_rfl) (fun _ _ _ h => h) (Or.inl ⟨by rfl, ?hy30⟩) hHeld ?rest30
   case hy30 => (rintro W hM; have p3 := g3.out W hM; go_simp; (try with_reducible rfl))
   case rest30 =>
   (try simp only [Act.put, gTl, g0l, gSl, sTl, s0l, sSl])
   refine wpAnyH_take (i := 2) rfl (by kernel_rfl) (by kernel_rfl) (by kernel_rfl) (fun _ _ _ h => h) (yieldsIf_row (by rfl) 52 _ rfl _ rfl (fun W h => HB08.out.ext h) Tryz.underlying52 rfl (by kernel_rfl)) hHeld ?_
   (try simp only [Act.put, gTl, g0l, gSl, sTl, s0l, sSl])
   refine wpAnyH_take (i := 4) rfl (by kernel_rfl) (by kernel_rfl) (by kernel_rfl) (fun _ _ _ h => h) (yieldsIf_row (by rfl) 52 _ rfl _ rfl (fun W h => HB08.out.ext h) Tryz.underlying52 rfl (by kernel_rfl)) hHeld ?_
   (try simp only [Act.put, gTl, g0l, gSl, sTl, s0l, sSl])
   refine wpAnyH_ready (rs := [3]) (by kernel_rfl) (by simp) ?_
   refine AllReadyH.cons rfl (fun K hK => ?_) AllReadyH.nil
   go_simp
   (go_at_call 106; refine (KSM.out _ (HL8.out.ext hHeld)).mono ?_; rintro y v ⟨B, d, rfl, hb, hl⟩)
   refine hK.out _ _ (hHeld.trans hb) (fun hHeld => ?_)
   clear hK K
   (try simp only [Act.put, gTl, g0l, gSl, sTl, s0l, sSl])
   refine wpAnyH_ready (rs := [5]) (by kernel_rfl) (by simp) ?_
   refine AllReadyH.cons rfl (fun K hK => ?_) AllReadyH.nil
   go_simp
   (go_at_call 65; refine (KSA.out _ B d hl (HL8.out.ext hHeld)).mono ?_; rintro y v2 ⟨rfl, hb⟩)
   refine hK.out _ _ (hHeld.trans hb) (fun hHeld => ?_)
   clear hK K
   (try simp only [Act.put, gTl, g0l, gSl, sTl, s0l, sSl])
   refine wpAnyH_ready (rs := [6]) (by kernel_rfl) (by simp) ?_
   refine AllReadyH.cons rfl (fun K hK => ?_) AllReadyH.nil
   go_simp
   (go_at_call 103; refine (K5.out _).mono ?_; rintro x w1 ⟨rfl, hb1⟩)
   exact ⟨rfl, .inr ⟨fun hc => by have h1 := (show sumOK t (t.ch 3).n from by rcases hc.2.2.2.1 with ⟨h, _⟩ | ⟨_, _, h⟩; have := HN1.out; have := HN2.out; omega; exact h).2.2; rw [HT2.out] at h1; have h2 := HSB.out; rw [h1.1, h1.2, HR.out] at h2; exact absurd h2 (by decide), 5, by decide, rfl, HE8.out.trans (hHeld.trans hb1)⟩⟩
  | true =>
   refine wp_region_held_drew (S := fun w' => Ext Z8 w') (by kernel_rfl) e9.h.drew (fun hHeld => ?_)
   refine' wpAnyH_take (i := 0) (v := _) rfl (by kernel_rfl) (by kernel_rfl) (by kernel_rfl) (fun _ _ _ h => h) (Or.inl ⟨by rfl, ?hy31⟩) hHeld ?rest31
   case hy31 => (rintro W hM; go_simp; (try with_reducible rfl))
   case rest31 =>
   (try simp only [Act.put, gTl, g0l, gSl, sTl, s0l, sSl])
   refine' wpAnyH_take (i := 1) (v := _) rfl (by kernel_rfl) (by kernel_rfl) (by kernel_rfl) (fun _ _ _ h => h) (Or.inl ⟨by rfl, ?hy32⟩) hHeld ?rest32
   case hy32 => (rintro W hM; have p3 := g3.out W hM; go_simp; (try with_reducible rfl))
   case rest32 =>
   (try simp only [Act.put, gTl, g0l, gSl, sTl, s0l, sSl])
   refine wpAnyH_take (i := 2) rfl (by kernel_rfl) (by kernel_rfl) (by kernel_rfl) (fun _ _ _ h => h) (yieldsIf_row (by rfl) 52 _ rfl _ rfl (fun W h => HB08.out.ext h) Tryz.underlying52 rfl (by kernel_rfl)) hHeld ?_
   (try simp only [Act.put, gTl, g0l, gSl, sTl, s0l, sSl])
   refine wpAnyH_take (i := 4) rfl (by kernel_rfl) (by kernel_rfl) (by kernel_rfl) (fun _ _ _ h => h) (yieldsIf_row (by rfl) 52 _ rfl _ rfl (fun W h => HB08.out.ext h) Tryz.underlying52 rfl (by kernel_rfl)) hHeld ?_
   (try simp only [Act.put, gTl, g0l, gSl, sTl, s0l, sSl])
   refine wpAnyH_ready (rs := [3]) (by kernel_rfl) (by simp) ?_
   refine AllReadyH.cons rfl (fun K hK => ?_) AllReadyH.nil
   go_simp
   (go_at_call 106; refine (KSM.out _ (HL8.out.ext hHeld)).mono ?_; rintro y v ⟨B, d, rfl, hb, hl⟩)
   refine hK.out _ _ (hHeld.trans hb) (fun hHeld => ?_)
   clear hK K
   (try simp only [Act.put, gTl, g0l, gSl, sTl, s0l, sSl])
   refine wpAnyH_ready (rs := [5]) (by kernel_rfl) (by simp) ?_
   refine AllReadyH.cons rfl (fun K hK => ?_) AllReadyH.nil
   go_simp
   (go_at_call 65; refine (KSA.out _ B d hl (HL8.out.ext hHeld)).mono ?_; rintro y v2 ⟨rfl, hb⟩)
   refine hK.out _ _ (hHeld.trans hb) (fun hHeld => ?_)
   clear hK K
   (try simp only [Act.put, gTl, g0l, gSl, sTl, s0l, sSl])
   refine wpAnyH_ready (rs := [6]) (by kernel_rfl) (by simp) ?_
   refine AllReadyH.cons rfl (fun K hK => ?_) AllReadyH.nil
   go_simp
   (go_at_call 103; refine (K6.out _).mono ?_; rintro y v3 ⟨rfl, hb⟩)
   refine hK.out _ _ (hHeld.trans hb) (fun hHeld => ?_)
   clear hK K
   (try simp only [Act.put, gTl, g0l, gSl, sTl, s0l, sSl])
   refine wpAnyH_done (by kernel_rfl) ?_ _
   have HE9 := hid (HE8.out.trans hHeld)
   have HB19 := hid (HB18.out.ext hHeld)
   have HBN9 := hid (HBN8.out.ext hHeld)
   clear hHeld
   generalize v3 = Z9 at *
   obtain ⟨e10, he⟩ := Later.self Z9
   rw [he]
   clear he
   by_cases h0 : rr = 0
   case neg =>
    have HX := hid h0
    have tza : ((rr) == (0)) = false := by rw [beq_eq_false_iff_ne]; exact h0
    have tzb : ((rr) = (0)) = False := eq_false (by exact h0)
    have tzc : ((rr) != (0)) = true := by rw [bne_iff_ne]; exact h0
    clear h0
    go_wp2_with (first | (refine wpList_row (by rfl) 42 _ rfl _ rfl (HBN9.out.later _) Tryz.underlying42 rfl (by kernel_rfl) ?_) | (go_at_call 45; refine (Ret.later (KR.out _)).mono ?_; rintro x _ ⟨rfl, e, rfl⟩) | (go_at_call 103; refine (KN.out _).mono ?_; rintro x w1 ⟨rfl, hb1⟩))
    exact ⟨rfl, .inr ⟨fun hc => HX.out (HRR.out.symm.trans hc.2.2.2.2), rr, HX.out, rfl, HE9.out.trans (e.h.trans hb1)⟩⟩
   have HX := hid h0
   have tza : ((rr) == (0)) = true := by rw [beq_iff_eq]; exact h0
   have tzb : ((rr) = (0)) = True := eq_true (by exact h0)
   have tzc : ((rr) != (0)) = false := by rw [bne_eq_false_iff_eq]; exact h0
   clear h0
   go_upto_region 13 with (first | (refine wpList_row (by rfl) 42 _ rfl _ rfl (HBN9.out.later _) Tryz.underlying42 rfl (by kernel_rfl) ?_) | (go_at_call 45; refine (Ret.later (KR.out _)).mono ?_; rintro x _ ⟨rfl, e, rfl⟩) | (go_at_call 103; refine (Ret.later (KS.out _)).mono ?_; rintro x _ ⟨rfl, e, rfl⟩))
   go_wp2_with (first | (refine wpList_row (by rfl) 42 _ rfl _ rfl (HBN9.out.later _) Tryz.underlying42 rfl (by kernel_rfl) ?_) | (refine wpList_store_mid rfl 42 _ _ rfl (w.heap.size + 1) 0 (BV.c ⟨numO (t.ch 0).n, numO (t.ch 1).n, (t.ch 2).n, numO (t.ch 3).n, (t.ch 4).s⟩) (by rfl) (by rfl) ((HB19.out.later e).there (Nat.le_refl 5)) (by kernel_rfl) (by simp [Value.oneCell']) ?_))
   generalize hZ : World.setCells _ _ _ _ = Z
   have HZB : Hid (Blk Z (w.heap.size + 1) 42 (BV.c ⟨numO (t.ch 0).n, numO (t.ch 1).n, (t.ch 2).n, numO (t.ch 3).n, (t.ch 4).s⟩)) := hid (by rw [← hZ]; exact setCells_all (ds := (BV.c ⟨numO (t.ch 0).n, numO (t.ch 1).n, (t.ch 2).n, numO (t.ch 3).n, (t.ch 4).s⟩)) (HB19.out.later e) rfl)
   have HZM : Hid (Ext w Z) := hid (by rw [← hZ]; exact setCells_mod _ _ (HE9.out.trans e.h) (.inr (by omega)))
   clear hZ
   exact bodyPost_ret (v := (blkOf t).v) (results_cell Tryz.results69 _ rfl HZB.out Tryz.underlying42 rfl (by kernel_rfl)) rfl (.inl ⟨⟨⟨HR.out, HK.out, HOP.out, H5.out⟩, ⟨HK0.out, HK1.out, HK3.out⟩, ⟨H_hk2.out, H_hk4.out⟩, .inr ⟨⟨HN1.out, HN2.out⟩, HX6.out, HXS.out, HXL.out.trans HSZ2.out.symm, by have h2 := HSB.out; rw [HR.out] at h2; simp only [Bool.and_eq_true, Bool.and_true] at h2; rw [HT2.out]; exact h2⟩, HRR.out.trans HX.out⟩, Ret.mk rfl HZM.out⟩)
end Go.Proofs.YtfgipgpbjfhflaaGreat


namespace Go.Proofs.YtfgipgpbjfhflaaGreat
open Go.RowKit
set_option linter.unusedVariables false
set_option linter.unusedSimpArgs false

def OfPostB (t : T) (w : World) (e : Ending) (w' : World) : Prop := (BlkOK t ∧ Ret (.tuple #[(blkOf t).v, .int .i64 0]) w e w') ∨ (¬ BlkOK t ∧ ∃ r : Int, r ≠ 0 ∧ Ret (.tuple #[zeroB.v, .int .i64 r]) w e w')
set_option maxRecDepth 20000 in
set_option maxHeartbeats 4000000 in
theorem bOf_any (t : T) (hok : t.ok) (hsz : t.size ≤ 50000) (A : Option Addr) (c : Nat) (w : World) (h : IsL w (fun _ => True) t A) : Calls Tryz.prog 34 #[itemV t A c] w (OfPostB t w) := by
 have KR := hid (fun W (hW : IsL W (fun _ => True) t A) => bread_any t hok hsz A c W hW)
 have hmf : ∀ (fn : Fn) (first cap : Array Value) (w : World), (Instr.makeFunc fn first cap).run Tryz.prog w = .ok (.func fn first cap) w := fun _ _ _ _ => rfl
 have HE := hid ((((Mod.refl [] w).alloc (.cells (itemC t A c) 52)).alloc (.cells #[.int .i64 0, .int .i64 0, .int .u64 0, .int .i64 0, .string ⟨#[]⟩] 42)).alloc (.cells #[.int .i64 0] 32))
 have HB0 : Hid (Blk (((w.alloc (.cells (itemC t A c) 52)).alloc (.cells #[.int .i64 0, .int .i64 0, .int .u64 0, .int .i64 0, .string ⟨#[]⟩] 42)).alloc (.cells #[.int .i64 0] 32)) w.heap.size 52 (itemC t A c)) := hid (((Blk.new w 52 (itemC t A c)).alloc (.cells #[.int .i64 0, .int .i64 0, .int .u64 0, .int .i64 0, .string ⟨#[]⟩] 42)).alloc (.cells #[.int .i64 0] 32))
 have HB1 : Hid (Blk (((w.alloc (.cells (itemC t A c) 52)).alloc (.cells #[.int .i64 0, .int .i64 0, .int .u64 0, .int .i64 0, .string ⟨#[]⟩] 42)).alloc (.cells #[.int .i64 0] 32)) (w.heap.size + 1) 42 #[.int .i64 0, .int .i64 0, .int .u64 0, .int .i64 0, .string ⟨#[]⟩]) := by unfold Hid; have := (Blk.newL (N := (w.heap.size + 1)) (w.alloc (.cells (itemC t A c) 52)) 42 #[.int .i64 0, .int .i64 0, .int .u64 0, .int .i64 0, .string ⟨#[]⟩] (by simp)); exact (this.alloc (.cells #[.int .i64 0] 32))
 have HB2 : Hid (Blk (((w.alloc (.cells (itemC t A c) 52)).alloc (.cells #[.int .i64 0, .int .i64 0, .int .u64 0, .int .i64 0, .string ⟨#[]⟩] 42)).alloc (.cells #[.int .i64 0] 32)) (w.heap.size + 1 + 1) 32 #[.int .i64 0]) := by unfold Hid; exact Blk.newL _ _ _ (by simp)
 have HL := hid (h.ext HE.out)
 clear h hok hsz
 go_enter_defers Tryz.func34, Tryz.ntmps34
 go_upto_region 1 with fail
 generalize (((w.alloc (.cells (itemC t A c) 52)).alloc (.cells #[.int .i64 0, .int .i64 0, .int .u64 0, .int .i64 0, .string ⟨#[]⟩] 42)).alloc (.cells #[.int .i64 0] 32)) = V at *
 obtain ⟨e, he⟩ := Later.self V
 rw [he]
 clear he
 go_wp2_with (first | (refine wpList_row (by rfl) 52 _ rfl _ rfl (HB0.out.later _) Tryz.underlying52 rfl (by kernel_rfl) ?_) | (go_at_call 69; refine (KR.out _ (HL.out.ext (Later.h _))).mono ?_; rintro x w1 (⟨hb, rfl, h1⟩ | ⟨hb, r, hr, rfl, h1⟩)) | (refine wpList_store_mid rfl 42 _ _ rfl (w.heap.size + 1) 0 (BV.c (blkOf t)) (by rfl) (by rfl) (((HB1.out.later e).ext h1).there (Nat.le_refl 5)) (by kernel_rfl) (by simp [Value.oneCell']) ?_; have hZB := setCells_all (ds := BV.c (blkOf t)) ((HB1.out.later e).ext h1) rfl; have hZO := setCells_mod (w := w1) (W := w1) (S := [w.heap.size + 1]) (b := w.heap.size + 1) (BV.c (blkOf t)).toList 0 (Mod.refl _ _) (.inl (by simp)); generalize hZ : World.setCells _ _ _ _ = Z at *; have hZE := ((HB2.out.later e).ext h1).mod hZO (by simp); have HZB := hid hZB; have HZO := hid hZO; have HZE := hid hZE; have y1 : Z.cell? ⟨w.heap.size + 1 + 1, 0, none⟩ = some (.int .i64 0) := hZE.cell 0; have y2 : Z.frozen? ⟨w.heap.size + 1 + 1, 0, none⟩ = false := hZE.frozen 0; clear hZ hZB hZO hZE))
 ·
  have hE := HZE.out.set_ 0 (.int .i64 0)
  have hB := HZB.out.far (p := ⟨w.heap.size + 1 + 1, 0, none⟩) (by simp) (.int .i64 0)
  have hM : Ext w (Z.setCell ⟨w.heap.size + 1 + 1, 0, none⟩ (.int .i64 0)) := ((HE.out.trans (e.h.trans h1)).of_ext.trans HZO.out).new (fun kk hkk => .inr (by simp at hkk; omega)) |>.setCell (.inr (by show w.heap.size ≤ w.heap.size + 1 + 1; omega)) _
  generalize hY : Z.setCell ⟨w.heap.size + 1 + 1, 0, none⟩ (.int .i64 0) = Y at *
  clear hY y1 y2 hmf
  refine leaves_cons (f := 68) (args := #[.pointer (some ⟨w.heap.size + 1, 0, none⟩), .pointer (some ⟨w.heap.size + 1 + 1, 0, none⟩)]) (by simp) (by simp [go_sem]) ?_
  refine (ofc_idle _ _ _).mono ?_
  rintro x u' w2 ⟨rfl, rfl, hx⟩
  have c0 := (hB.ext hx).cell 0
  have c1 := (hB.ext hx).cell 1
  have c2 := (hB.ext hx).cell 2
  have c3 := (hB.ext hx).cell 3
  have c4 := (hB.ext hx).cell 4
  have c5 := (hE.ext hx).cell 0
  refine ⟨.tuple #[(blkOf t).v, .int .i64 0], ?_, .inl ⟨hb, Ret.mk rfl (hM.trans hx)⟩⟩
  simp [results, Tryz.results34, go_sem] at c0 c1 c2 c3 c4 c5 ⊢
  simp [c0, c1, c2, c3, c4, c5]
 ·
  have hB := (HB1.out.later e).ext h1
  have hE := (HB2.out.later e).ext h1
  clear hmf
  refine leaves_cons (f := 68) (args := #[.pointer (some ⟨w.heap.size + 1, 0, none⟩), .pointer (some ⟨w.heap.size + 1 + 1, 0, none⟩)]) (by simp) (by simp [go_sem]) ?_
  refine (ofc_panic _ _ r _ _ (by omega) hB rfl hE).mono ?_
  rintro x u' w2 ⟨rfl, rfl, hx, hB2, hE2⟩
  have c0 := hB2.cell 0
  have c1 := hB2.cell 1
  have c2 := hB2.cell 2
  have c3 := hB2.cell 3
  have c4 := hB2.cell 4
  have c5 := hE2.cell 0
  have hM : Ext w w2 := ((HE.out.trans (e.h.trans h1)).of_ext.trans hx).new (fun kk hkk => .inr (by simp at hkk; omega))
  refine ⟨.tuple #[zeroB.v, .int .i64 r], ?_, .inr ⟨hb, r, hr, Ret.mk rfl hM⟩⟩
  simp [results, Tryz.results34, go_sem] at c0 c1 c2 c3 c4 c5 ⊢
  simp [c0, c1, c2, c3, c4, c5]
end Go.Proofs.YtfgipgpbjfhflaaGreat


namespace Go.Proofs.YtfgipgpbjfhflaaGreat
open Go.RowKit
set_option linter.unusedVariables false
set_option linter.unusedSimpArgs false

theorem leaf_num {u : T} {d : Nat} (h : u.right d = true) (hk : u.kind = 0) : (numT u.n).same u = true := by
 cases u with
 | nil => cases h
 | mk kind n s op k ch =>
  have hk : kind = 0 := hk
  subst hk
  unfold T.right at h
  split at h
  · cases h
  ·
   simp [T.node] at h
   obtain ⟨⟨⟨rfl, rfl⟩, rfl⟩, _⟩ := h
   simp [numT, T.same, T.all, T.n, T.kind, T.s, T.op, T.k]
theorem leaf_str {u : T} {d : Nat} (h : u.right d = true) (hk : u.kind = 2) : (strT u.s).same u = true := by
 cases u with
 | nil => cases h
 | mk kind n s op k ch =>
  have hk : kind = 2 := hk
  subst hk
  unfold T.right at h
  split at h
  · cases h
  ·
   simp [T.node] at h
   obtain ⟨⟨⟨rfl, rfl⟩, rfl⟩, _⟩ := h
   simp [strT, T.same, T.all, T.n, T.kind, T.s, T.op, T.k]
theorem ch_right {t : T} {d : Nat} (h : t.right (d + 1) = true) {i : Nat} (hi : i < t.k) : (t.ch i).right d = true := by
 cases t with
 | nil => cases h
 | mk kind n s op k ch =>
  unfold T.right at h
  rw [if_neg (by omega)] at h
  simp only [Bool.and_eq_true] at h
  exact T.all_iff.1 h.2 i hi
theorem same_of_parts {kind : Int} {n : Nat} {s : List UInt8} {op : Bool} {k : Nat} {ch : Nat → T} {t : T} (h1 : t.kind = kind) (h2 : t.n = n) (h3 : t.s = s) (h4 : t.op = op) (h5 : t.k = k) (h6 : ∀ i, i < k → (ch i).same (t.ch i) = true) : (T.mk kind n s op k ch).same t = true := by
 unfold T.same
 simp only [Bool.and_eq_true, beq_iff_eq]
 exact ⟨⟨⟨⟨⟨h1.symm, h2.symm⟩, h3.symm⟩, h4.symm⟩, h5.symm⟩, T.all_iff.2 h6⟩
theorem lastT_right {t : T} (hr : t.right 8 = true) (hk : t.kind = 4) (ho : t.op = false) (h6 : t.k = 6) (s : List UInt8) : (lastT t.ch s).right 8 = true := by
 unfold lastT T.right
 rw [if_neg (by omega)]
 simp only [Bool.and_eq_true]
 refine ⟨by rfl, T.all_iff.2 fun i hi => ?_⟩
 show (if i = 5 then strT s else t.ch i).right 7 = true
 by_cases e : i = 5
 · rw [if_pos e]; simp [strT, T.right, T.node, T.all]
 · rw [if_neg e]; exact ch_right (d := 7) hr (by omega)
/-- The five first items, of one with a sum. -/
theorem last_same {t : T} (hr : t.right 8 = true) (hk : t.kind = 4) (ho : t.op = false) (h6 : t.k = 6) (k0 : (t.ch 0).kind = 0) (k1 : (t.ch 1).kind = 0) (k2 : (t.ch 2).kind = 0) (k3 : (t.ch 3).kind = 0) (k4 : (t.ch 4).kind = 2) (hn : ¬ (t.ch 3).n = 0) (z : List UInt8) :
  (blkT (t.ch 0).n (t.ch 1).n (t.ch 2).n (t.ch 3).n (t.ch 4).s z).same (lastT t.ch z) = true := by
 unfold blkT
 rw [if_neg hn]
 refine same_of_parts rfl rfl rfl rfl rfl fun i hi => ?_
 have hc : ∀ i, i < 6 → (t.ch i).right 7 = true := fun i hi => ch_right (d := 7) hr (by omega)
 have h6' : i = 0 ∨ i = 1 ∨ i = 2 ∨ i = 3 ∨ i = 4 ∨ i = 5 := by omega
 rcases h6' with rfl | rfl | rfl | rfl | rfl | rfl
 · exact leaf_num (hc 0 (by omega)) k0
 · exact leaf_num (hc 1 (by omega)) k1
 · exact leaf_num (hc 2 (by omega)) k2
 · exact leaf_num (hc 3 (by omega)) k3
 · exact leaf_str (hc 4 (by omega)) k4
 · exact T.same_refl _
theorem bld_last {t : T} (hok : t.ok) (hr : t.right 8 = true) (hk : t.kind = 4) (ho : t.op = false) (h6 : t.k = 6) (k0 : (t.ch 0).kind = 0) (k1 : (t.ch 1).kind = 0) (k2 : (t.ch 2).kind = 0) (k3 : (t.ch 3).kind = 0) (k4 : (t.ch 4).kind = 2) (hn : ¬ (t.ch 3).n = 0) (z : List UInt8) (hz : z.length ≤ 100) :
  bldL (lastT t.ch z) = blkB (t.ch 0).n (t.ch 1).n (t.ch 2).n (t.ch 3).n (t.ch 4).s z := by
 unfold bldL
 rw [if_pos (lastT_right hr hk ho h6 z), ← blkT_bytes]
 exact (T.same_bytes _ _ (lastT_facts hok h6 z hz).1 (last_same hr hk ho h6 k0 k1 k2 k3 k4 hn z)).symm
/-- The item of a right block. -/
def fin (b : BV) : T := finT b.ty.toNat b.num.toNat b.fl b.crc.toNat b.data
theorem ok_of_fin {t : T} (hok : t.ok) (hr : t.right 8 = true) {b : BV} (hb : b.right = 0) (h : (fin b).same t = true) : BlkOK t ∧ blkOf t = b := by
 have hz := BV.right_zero hb
 unfold fin finT at h
 have hsl : (sumB b.ty.toNat b.num.toNat b.fl b.crc.toNat b.data).length = 2 * b.crc.toNat := sumB_length (by omega)
 obtain ⟨S, hS⟩ : ∃ S, sumB b.ty.toNat b.num.toNat b.fl b.crc.toNat b.data = S := ⟨_, rfl⟩
 rw [hS] at h hsl
 unfold blkT at h
 obtain ⟨hk, hn, hs, ho, hkk, hc⟩ := same_mk h
 have h5 : 5 ≤ t.k := by rw [hkk]; split <;> omega
 have c0 : (numT b.ty.toNat).same (t.ch 0) = true := hc 0 (by split <;> omega)
 have c1 : (numT b.num.toNat).same (t.ch 1) = true := hc 1 (by split <;> omega)
 have c2 : (numT b.fl).same (t.ch 2) = true := hc 2 (by split <;> omega)
 have c3 : (numT b.crc.toNat).same (t.ch 3) = true := hc 3 (by split <;> omega)
 have c4 : (strT b.data).same (t.ch 4) = true := hc 4 (by split <;> omega)
 have m0 := same_mk c0
 have m1 := same_mk c1
 have m2 := same_mk c2
 have m3 := same_mk c3
 have m4 := same_mk c4
 have eB : blkOf t = b := by
  unfold blkOf
  rw [m0.2.1, m1.2.1, m2.2.1, m3.2.1, m4.2.2.1]
  obtain ⟨ty, num, fl, crc, data⟩ := b
  simp only at hz ⊢
  simp only [BV.mk.injEq, and_true, true_and]
  unfold numO
  refine ⟨?_, ?_, ?_⟩ <;> rw [if_pos (by omega)] <;> omega
 refine ⟨⟨⟨hr, hk, ho, h5⟩, ⟨m0.1, m1.1, m3.1⟩, ⟨m2.1, m4.1⟩, ?_, by rw [eB]; exact hb⟩, eB⟩
 by_cases hcr : b.crc.toNat = 0
 ·
  left
  rw [hkk, if_pos hcr]
  exact ⟨.inl (by rw [m3.2.1]; exact hcr), rfl⟩
 ·
  right
  have h6 : t.k = 6 := by rw [hkk, if_neg hcr]
  have c5 : (strT S).same (t.ch 5) = true := hc 5 (by rw [if_neg hcr]; omega)
  have m5 := same_mk c5
  have hn3 : ¬ (t.ch 3).n = 0 := by rw [m3.2.1]; exact hcr
  refine ⟨⟨by omega, by rw [m3.2.1]; omega⟩, h6, m5.1, by rw [m5.2.2.1, hsl, m3.2.1], lastT_right hr hk ho h6 _, ?_⟩
  rw [bld_last hok hr hk ho h6 m0.1 m1.1 m2.1 m3.1 m4.1 hn3 _ (by rw [m3.2.1]; simp; omega)]
  rw [m0.2.1, m1.2.1, m2.2.1, m3.2.1, m4.2.2.1]
  have hS' : Crc.sumL b.crc.toNat (blkB b.ty.toNat b.num.toNat b.fl b.crc.toNat b.data (List.replicate (2 * b.crc.toNat) 0)) = S := by
   rw [← hS]; unfold sumB; rw [if_neg hcr]
  rw [hS']
  refine same_of_parts hk hn hs ho h6 fun i hi => ?_
  by_cases e : i = 5
  · subst e; exact c5
  ·
   show (if i = 5 then strT S else t.ch i).same (t.ch i) = true
   rw [if_neg e]; exact T.same_refl _
end Go.Proofs.YtfgipgpbjfhflaaGreat


namespace Go.Proofs.YtfgipgpbjfhflaaGreat
open Go.RowKit
set_option linter.unusedVariables false
set_option linter.unusedSimpArgs false

theorem fin_size {b : BV} (hb : b.right = 0) {t : T} (hr : t.right 8 = true) (hp : t.plain = true) (h : t.bytes = (fin b).bytes) : t.size ≤ 50000 := by
 have h1 := T.size_le t hp
 have hz := BV.right_zero hb
 rw [h] at h1
 have h2 : (fin b).bytes.length ≤ 50000 := by
  unfold fin finT
  rw [blkT_bytes]
  unfold blkB
  have hs : (sumB b.ty.toNat b.num.toNat b.fl b.crc.toNat b.data).length = 2 * b.crc.toNat := sumB_length (by omega)
  have l0 := headL_le 0 b.ty.toNat
  have l1 := headL_le 0 b.num.toNat
  have l2 := headL_le 0 b.fl
  have l3 := headL_le 0 b.crc.toNat
  have l4 := headL_le 2 b.data.length
  have l5 := headL_le 2 (sumB b.ty.toNat b.num.toNat b.fl b.crc.toNat b.data).length
  have l6 := headL_le 4 5
  have l7 := headL_le 4 6
  split <;> simp only [List.length_append, List.length_cons, List.length_nil] <;> omega
 omega
theorem bOf_fin {b : BV} (hb : b.right = 0) {t : T} (hok : t.ok) (hr : t.right 8 = true) (hs : (fin b).same t = true) (A : Option Addr) (c : Nat) (w : World) (h : IsL w (fun _ => True) t A) : Calls Tryz.prog 34 #[itemV t A c] w (Ret (.tuple #[b.v, .int .i64 0]) w) := by
 obtain ⟨h1, h2⟩ := ok_of_fin hok hr hb hs
 refine (bOf_any t hok (fin_size hb hr (T.plain_of hr) (T.same_bytes _ _ hok hs).symm) A c w h).mono fun e w' hx => ?_
 rcases hx with ⟨_, h⟩ | ⟨h, _⟩
 · rw [h2] at h; exact h
 · exact absurd h1 h
end Go.Proofs.YtfgipgpbjfhflaaGreat


namespace Go.Proofs.YtfgipgpbjfhflaaGreat
open Go.RowKit
set_option linter.unusedVariables false
set_option linter.unusedSimpArgs false

theorem few10L_any (e : EV) (w : World) : Calls Tryz.prog 24 #[.agg #[.int .i64 e.sch, str e.name, .int .u64 (e.node : Int), .int .u64 (e.svc : Int)]] w (Ret (.bool (decide (e.name.length ≤ 100))) w) := by
 go_enter Tryz.func24, Tryz.ntmps24
 go_wp2
 go_ret
 refine Ret.mk ?_ ((Mod.refl _ _).alloc _)
 simp
 omega
def PV.few (p : PV) : Bool := decide (p.d.name.length ≤ 100) && decide (p.s.name.length ≤ 100) && decide (p.r.name.length ≤ 100)
set_option maxRecDepth 20000 in
set_option maxHeartbeats 800000 in
theorem few11P_any (p : PV) (w : World) : Calls Tryz.prog 12 #[.agg p.c] w (Ret (.bool p.few) w) := by
 have HE := hid ((Mod.refl [] w).alloc (.cells p.c 26))
 have HB := hid (Blk.new w 26 p.c)
 have HF : Hid (p.few = (decide (p.d.name.length ≤ 100) && decide (p.s.name.length ≤ 100) && decide (p.r.name.length ≤ 100))) := rfl
 have K1 := hid (fun W => few10L_any p.d W)
 have K2 := hid (fun W => few10L_any p.s W)
 have K3 := hid (fun W => few10L_any p.r W)
 cases h1 : decide (p.d.name.length ≤ 100)
 all_goals cases h2 : decide (p.s.name.length ≤ 100)
 all_goals cases h3 : decide (p.r.name.length ≤ 100)
 all_goals rw [h1] at K1 HF
 all_goals rw [h2] at K2 HF
 all_goals rw [h3] at K3 HF
 all_goals clear h1 h2 h3
 all_goals go_enter Tryz.func12, Tryz.ntmps12
 all_goals go_upto_region 1 with fail
 all_goals generalize w.alloc (.cells p.c 26) = V at *
 all_goals have b2 : ∀ e : Later V, e.x.cell? ⟨w.heap.size, 2, none⟩ = some (.int .i64 p.d.sch) := HB.out.cellL 2 rfl
 all_goals have b3 : ∀ e : Later V, e.x.cell? ⟨w.heap.size, 3, none⟩ = some (str p.d.name) := HB.out.cellL 3 rfl
 all_goals have b4 : ∀ e : Later V, e.x.cell? ⟨w.heap.size, 4, none⟩ = some (.int .u64 (p.d.node : Int)) := HB.out.cellL 4 rfl
 all_goals have b5 : ∀ e : Later V, e.x.cell? ⟨w.heap.size, 5, none⟩ = some (.int .u64 (p.d.svc : Int)) := HB.out.cellL 5 rfl
 all_goals have b6 : ∀ e : Later V, e.x.cell? ⟨w.heap.size, 6, none⟩ = some (.int .i64 p.s.sch) := HB.out.cellL 6 rfl
 all_goals have b7 : ∀ e : Later V, e.x.cell? ⟨w.heap.size, 7, none⟩ = some (str p.s.name) := HB.out.cellL 7 rfl
 all_goals have b8 : ∀ e : Later V, e.x.cell? ⟨w.heap.size, 8, none⟩ = some (.int .u64 (p.s.node : Int)) := HB.out.cellL 8 rfl
 all_goals have b9 : ∀ e : Later V, e.x.cell? ⟨w.heap.size, 9, none⟩ = some (.int .u64 (p.s.svc : Int)) := HB.out.cellL 9 rfl
 all_goals have b10 : ∀ e : Later V, e.x.cell? ⟨w.heap.size, 10, none⟩ = some (.int .i64 p.r.sch) := HB.out.cellL 10 rfl
 all_goals have b11 : ∀ e : Later V, e.x.cell? ⟨w.heap.size, 11, none⟩ = some (str p.r.name) := HB.out.cellL 11 rfl
 all_goals have b12 : ∀ e : Later V, e.x.cell? ⟨w.heap.size, 12, none⟩ = some (.int .u64 (p.r.node : Int)) := HB.out.cellL 12 rfl
 all_goals have b13 : ∀ e : Later V, e.x.cell? ⟨w.heap.size, 13, none⟩ = some (.int .u64 (p.r.svc : Int)) := HB.out.cellL 13 rfl
 all_goals obtain ⟨e0, he0⟩ := Later.self V
 all_goals rw [he0]
 all_goals clear he0
 all_goals go_wp2_with (go_at_call 24; first | ((with_reducible refine (Ret.later (K1.out _)).mono ?_); rintro x _ ⟨rfl, e1, rfl⟩) | ((with_reducible refine (Ret.later (K2.out _)).mono ?_); rintro x _ ⟨rfl, e1, rfl⟩) | ((with_reducible refine (Ret.later (K3.out _)).mono ?_); rintro x _ ⟨rfl, e1, rfl⟩))
 all_goals go_ret
 all_goals exact Ret.mk (by rw [HF.out]; rfl) (HE.out.trans e1.h)
def bsFew (bs : Nat → BV) (i : Nat) : Bool := decide (4100 < (bs i).data.length)
def bunFew (p : PV) (bs : Nat → BV) (k : Nat) : Bool := decide (k ≤ 20) && ((firstOf (bsFew bs) k).isNone && p.few)
theorem bunFew_spec {p : PV} {bs : Nat → BV} {k : Nat} (h : bunFew p bs k = true) : k ≤ 20 ∧ p.few = true ∧ ∀ i, i < k → (bs i).data.length ≤ 4100 := by
 unfold bunFew at h
 simp only [Bool.and_eq_true, decide_eq_true_eq] at h
 refine ⟨h.1, h.2.2, fun i hi => ?_⟩
 cases hf : firstOf (bsFew bs) k with
 | some x => rw [hf] at h; simp at h
 | none =>
  have := firstOf_no hf i hi
  unfold bsFew at this
  simp at this
  exact this
theorem bunFew_long {p : PV} {bs : Nat → BV} {k i : Nat} (hi : i < k) (h : 4100 < (bs i).data.length) : bunFew p bs k = false := by
 cases hb : bunFew p bs k with
 | false => rfl
 | true => have := (bunFew_spec hb).2.2 i hi; omega
set_option maxRecDepth 20000 in
set_option maxHeartbeats 800000 in
theorem few13_any (p : PV) (bs : Nat → BV) (k c : Nat) (A : Option Addr) (hk : k < 4611686018427387904) (w : World) (h : BsL w A k bs) : Calls Tryz.prog 5 #[bunV p A k c] w (Ret (.bool (bunFew p bs k)) w) := by
 have KF := hid (fun W => few11P_any p W)
 have HE := hid ((Mod.refl [] w).alloc (.cells (bunC p A k c) 29))
 have HB := hid (Blk.new w 29 (bunC p A k c))
 have HL := hid (BsL.ext h HE.out)
 have k1 : (k : Int) < 4611686018427387904 := by omega
 have HK := hid hk
 clear h hk
 go_enter Tryz.func5, Tryz.ntmps5
 go_wp2_with fail
 generalize w.alloc (.cells (bunC p A k c) 29) = V at *
 have b19 : ∀ e : Later V, e.x.cell? ⟨w.heap.size, 19, none⟩ = some (.slice A k c) := HB.out.cellL 19 rfl
 obtain ⟨e0, he0⟩ := Later.self V
 go_loopw [3] (fun s3 wr => ∃ i : Nat, s3 = .int .i64 (i : Int) ∧ Hid (i ≤ k ∧ i ≤ 30 ∧ ∀ j, j < i → (bs j).data.length ≤ 4100) ∧ ∃ e : Later V, wr = e.x) (fun s3 _ => 30 - (intOf s3).toNat)
 case atStart => exact ⟨0, rfl, (show Hid _ from ⟨by omega, by omega, fun j hj => by omega⟩), e0, he0⟩
 case round =>
  clear he0 e0
  obtain ⟨i, rfl, hi, e, rfl⟩ := hrel
  have i0 : (0 : Int) ≤ (i : Int) := by omega
  by_cases hlt : i < k ∧ i < 30
  ·
   obtain ⟨hlt, hl30⟩ := hlt
   obtain ⟨b, o, rfl, hb, q0, q1, q2, q3, q4⟩ := HL.out.cells hlt
   have tc : decide (i < k) = true := by simp [hlt]
   have tc3 : decide ((i : Int) < 30) = true := by simp; omega
   have i1 : (i : Int) < (k : Int) := by omega
   have HLT := hid hlt
   have HL30 := hid hl30
   clear hlt hl30 q0 q1 q2 q3
   by_cases ht : 4100 < (bs i).data.length
   ·
    have t1 : decide (4100 < ((bs i).data.length : Int)) = true := by simp; omega
    have t2 : (4100 < (bs i).data.length) = True := by simp; omega
    have HF := hid (bunFew_long (p := p) HLT.out ht)
    clear ht
    go_wp2_with fail
    go_ret
    exact Ret.mk (by rw [HF.out]; rfl) (HE.out.trans e.h)
   ·
    have t1 : decide (4100 < ((bs i).data.length : Int)) = false := by simp; omega
    have t2 : (4100 < (bs i).data.length) = False := by simp; omega
    have HN := hid ht
    clear ht
    go_wp2_with fail
    go_roundw
    case rel => exact ⟨i + 1, by go_num, (show Hid _ from ⟨HLT.out, HL30.out, fun j hj => by
     by_cases hji : j = i
     · subst hji; have := HN.out; omega
     · exact hi.out.2.2 j (by omega)⟩), e, rfl⟩
    case measure => have := HL30.out; simp [intOf]; omega
  ·
   by_cases hk20 : k ≤ 20
   ·
    obtain rfl : i = k := by have := hi.out; omega
    have tc : decide (i < i) = false := by simp
    have t20 : decide ((i : Int) ≤ 20) = true := by simp; omega
    have HF : Hid (bunFew p bs i = p.few) := by
     unfold Hid bunFew
     rw [firstOf_none (fun j hj => by unfold bsFew; have := hi.out.2.2 j hj; simp; omega)]
     simp [hk20]
    clear hlt hk20
    have HPR : Hid (∀ e : Later V, e.x.rangeAt w.heap.size 0 p.c.toList) := HB.out.range 0 19 (by rw [Array.toList_extract]; rfl)
    go_wp2_with (first | (refine wpList_mid (by rfl) 26 _ rfl _ 0 rfl _ _ (HPR.out e) Tryz.underlying26 rfl (by kernel_rfl) ?_) | (go_at_call 12; refine (Ret.later (KF.out _)).mono ?_; rintro x _ ⟨rfl, e1, rfl⟩))
    go_ret
    exact Ret.mk (by rw [HF.out]; rfl) (HE.out.trans e1.h)
   ·
    have t20 : decide ((k : Int) ≤ 20) = false := by simp; omega
    have HF : Hid (bunFew p bs k = false) := by unfold Hid bunFew; simp [hk20]
    by_cases hik : i < k
    ·
     have tc : decide (i < k) = true := by simp [hik]
     have tc3 : decide ((i : Int) < 30) = false := by have := hi.out; simp; omega
     clear hlt hk20 hik
     go_wp2_with fail
     go_ret
     exact Ret.mk (by rw [HF.out]; rfl) (HE.out.trans e.h)
    ·
     obtain rfl : i = k := by have := hi.out; omega
     have tc : decide (i < i) = false := by simp
     clear hlt hk20 hik
     go_wp2_with fail
     go_ret
     exact Ret.mk (by rw [HF.out]; rfl) (HE.out.trans e.h)
end Go.Proofs.YtfgipgpbjfhflaaGreat


namespace Go.Proofs.YtfgipgpbjfhflaaGreat
open Go.RowKit
set_option linter.unusedVariables false
set_option linter.unusedSimpArgs false

theorem PV.one (p : PV) : p.c.all (·.oneCell') = true := by simp [PV.c, Value.oneCell']
def PV.whole (p : PV) : PV := { p with fl := p.fl / 2 * 2, o := 0, n := 0 }
end Go.Proofs.YtfgipgpbjfhflaaGreat
