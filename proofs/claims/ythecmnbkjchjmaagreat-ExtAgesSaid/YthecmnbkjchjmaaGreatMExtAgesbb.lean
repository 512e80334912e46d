/-
 Bundles, plainly: what stays right when the data of the three types change; one block more ahead of the last.
-/
import Derived.Test.YthecmnbkjchjmaaGreatMExtAgesba

namespace Go.Proofs.YthecmnbkjchjmaaGreat
open Go.RowKit
set_option linter.unusedVariables false
set_option linter.unusedSimpArgs false

def spec (t : Int) : Prop := t = 6 \/ t = 7 \/ t = 10
structure Lk1 (a r : BV) : Prop where
 ty : a.ty = r.ty
 num : a.num = r.num
 fl : a.fl = r.fl
 crc : a.crc = r.crc
 d : a.data = r.data \/ (spec r.ty /\ a.data.length <= 70)
def Lk (R : Nat -> BV) (k : Nat) (bs : Nat -> BV) : Prop := ∀ i, i < k -> Lk1 (bs i) (R i)
theorem Lk.refl (R : Nat -> BV) (k : Nat) : Lk R k R := fun i hi => ⟨rfl, rfl, rfl, rfl, .inl rfl⟩
theorem Lk.set {R bs : Nat -> BV} {k : Nat} (h : Lk R k bs) {i : Nat} (hs : spec (R i).ty) {d : List UInt8} (hd : d.length <= 70) : Lk R k (fun j => if j = i then { bs i with data := d } else bs j) := fun j hj => by
 by_cases e : j = i
 .
  subst e
  have g := h j hj
  show Lk1 (if j = j then _ else _) _
  rw [if_pos rfl]
  exact ⟨g.ty, g.num, g.fl, g.crc, .inr ⟨hs, hd⟩⟩
 .
  show Lk1 (if j = i then _ else _) _
  rw [if_neg e]
  exact h j hj
theorem firstOf_congr' {p q : Nat -> Bool} {k : Nat} (h : ∀ j, j < k -> p j = q j) : firstOf p k = firstOf q k := by
 cases hq : firstOf q k with
 | none => exact firstOf_none fun j hj => by rw [h j hj]; exact firstOf_no hq j hj
 | some i =>
  obtain ⟨h1, h2, h3⟩ := firstOf_spec hq
  exact firstOf_some h1 (by rw [h i h1]; exact h2) fun j hj => by rw [h j (by omega)]; exact h3 j hj
theorem Lk.ty {R bs : Nat -> BV} {k : Nat} (h : Lk R k bs) (t : Int) : firstOf (tyB bs t) k = firstOf (tyB R t) k := firstOf_congr' fun j hj => by unfold tyB; rw [(h j hj).ty]
theorem cntB_congr' {bs bs' : Nat -> BV} (t : Int) : ∀ {k : Nat}, (∀ j, j < k -> (bs j).ty = (bs' j).ty) -> cntB bs t k = cntB bs' t k
 | 0, _ => rfl
 | k + 1, h => by rw [cntB, cntB, cntB_congr' t fun j hj => h j (by omega), h k (by omega)]
theorem dupB_iff {bs : Nat -> BV} {k : Nat} : dupB bs k = false ↔ ∀ i j, i < k -> j < i -> (bs i).num ≠ (bs j).num := by
 constructor
 . intro h i j hi hj; exact dup_no h hi hj
 .
  intro h
  unfold dupB
  rw [firstOf_none]
  . rfl
  .
   intro i hi
   unfold dupAt
   rw [firstOf_none]
   . rfl
   .
    intro j hj
    unfold hasNumOf
    exact decide_eq_false (h i j hi hj)
structure BOK (p : PV) (bs : Nat -> BV) (k : Nat) : Prop where
 pr : p.right = 0
 br : ∀ i, i < k -> (bs i).right = 0
 k16 : k <= 16
 k0 : 0 < k
 c1 : cntB bs 1 k = 1
 du : dupB bs k = false
 c6 : cntB bs 6 k <= 1
 c7 : cntB bs 7 k <= 1
 c10 : cntB bs 10 k <= 1
 la : (bs (k - 1)).ty = 1
 t0 : p.t = 0 -> cntB bs 7 k ≠ 0
 fr : has p.fl 1 = true -> p.o + (bs (k - 1)).data.length <= p.n
 l : (bunBytes p bs k).length <= 4000
theorem bok_of {p : PV} {bs : Nat -> BV} {k : Nat} (h : bunRight p bs k = 0) : BOK p bs k := by
 obtain ⟨h1, h2, h3, h4, h5, h6, h7⟩ := bunRight_zero h
 unfold bunRule1 at h4
 unfold bunRule2 at h5
 unfold bunRule3 at h6
 simp only [Bool.or_eq_false_iff, decide_eq_false_iff_not] at h4 h5
 obtain ⟨⟨⟨⟨⟨a1, a2⟩, a3⟩, a4⟩, a5⟩, a6⟩ := h4
 obtain ⟨b1, b2⟩ := h5
 refine ⟨h1, h2, h3, by omega, by omega, a3, by omega, by omega, by omega, by simpa using b1, fun e c => ?_, fun hh => ?_, h7⟩
 . rw [e, c] at b2; exact absurd b2 (by decide)
 .
  rw [hh] at h6
  simp at h6
  omega
theorem bok_to {p : PV} {bs : Nat -> BV} {k : Nat} (h : BOK p bs k) : bunRight p bs k = 0 := by
 have h1 : bunRule1 bs k = false := by
  unfold bunRule1
  simp only [Bool.or_eq_false_iff, decide_eq_false_iff_not]
  exact ⟨⟨⟨⟨⟨by have := h.k0; omega, by have := h.c1; omega⟩, h.du⟩, by have := h.c6; omega⟩, by have := h.c7; omega⟩, by have := h.c10; omega⟩
 have h2 : bunRule2 p bs k = false := by
  unfold bunRule2
  simp only [Bool.or_eq_false_iff, decide_eq_false_iff_not]
  refine ⟨by have := h.la; simpa using this, ?_⟩
  by_cases e : p.t = 0
  . rw [decide_eq_false (h.t0 e)]; simp
  . rw [decide_eq_false e]; rfl
 have h3 : bunRule3 p bs k = false := by
  unfold bunRule3
  cases hh : has p.fl 1 with
  | false => rfl
  | true => have := h.fr hh; simp; omega
 unfold bunRight
 rw [if_neg (by simpa using h.pr), firstOf_none (p := badAt bs) fun j hj => by unfold badAt; simpa using h.br j hj]
 dsimp only
 rw [if_neg (by have := h.k16; omega), h1, if_neg (by decide), h2, if_neg (by decide), h3, if_neg (by decide), if_neg (by have := h.l; omega)]
theorem BV.bytes_le {b : BV} (h : b.right = 0) : b.bytes.length <= b.data.length + 60 := by
 obtain ⟨h1, h2, h3, h4, h5, h6, h7, h8, h9⟩ := BV.right_zero h
 have a0 : ∀ x, (headL 4 x).length <= 9 := headL_le 4
 have s : (sumB b.ty.toNat b.num.toNat b.fl b.crc.toNat b.data).length <= 4 := by rw [sumB_length (by omega)]; omega
 unfold BV.bytes blkB
 generalize sumB b.ty.toNat b.num.toNat b.fl b.crc.toNat b.data = S at *
 have e1 : ∀ x, x < 24 -> (headL 4 x).length = 1 := fun x hx => by unfold headL; rw [if_pos hx]; rfl
 have e2 : ∀ x, x < 24 -> (headL 2 x).length = 1 := fun x hx => by unfold headL; rw [if_pos hx]; rfl
 have a1 := headL_le 0 b.ty.toNat
 have a2 := headL_le 0 b.num.toNat
 have a3 := headL_le 0 b.fl
 have a4 := headL_le 0 b.crc.toNat
 have a5 := headL_le 2 b.data.length
 have a6 : (if b.crc.toNat = 0 then ([] : List UInt8) else headL 2 S.length ++ S).length <= 5 := by
  split
  . simp
  . rw [List.length_append, e2 _ (by omega)]; omega
 have a7 : (headL 4 (if b.crc.toNat = 0 then 5 else 6)).length = 1 := e1 _ (by split <;> omega)
 simp only [List.length_append]
 omega
theorem blks_le {R bs : Nat -> BV} : ∀ {k : Nat}, (∀ i, i < k -> (bs i).bytes.length <= (R i).bytes.length + ((if (R i).ty = 6 then 130 else 0) + (if (R i).ty = 7 then 130 else 0) + (if (R i).ty = 10 then 130 else 0))) -> (blksB bs k).length <= (blksB R k).length + 130 * (cntB R 6 k + cntB R 7 k + cntB R 10 k)
 | 0, _ => by simp [blksB]
 | k + 1, h => by
  have h1 := blks_le (k := k) fun i hi => h i (by omega)
  have h2 := h k (by omega)
  rw [blksB, blksB, List.length_append, List.length_append, cntB, cntB, cntB]
  split at h2 <;> split at h2 <;> split at h2 <;> simp_all <;> omega
theorem Lk.bok {p : PV} {R bs : Nat -> BV} {k : Nat} (h : Lk R k bs) (hR : BOK p R k) (hl : (bunBytes p R k).length <= 3400) : BOK p bs k := by
 have hb : ∀ i, i < k -> (bs i).right = 0 := fun i hi => by
  have g := h i hi
  have r := hR.br i hi
  unfold BV.right at r ⊢
  rw [g.ty, g.num, g.fl, g.crc]
  split at r
  . exact absurd r (by decide)
  rename_i n1
  split at r
  . exact absurd r (by decide)
  rename_i n2
  have n3 : ¬ 4000 < (bs i).data.length := by
   rcases g.d with e | ⟨_, e⟩
   . rw [e]; exact n2
   . omega
  rw [if_neg n1, if_neg n3]
  exact r
 have hc : ∀ t, cntB bs t k = cntB R t k := fun t => cntB_congr' t fun j hj => (h j hj).ty
 have k0 := hR.k0
 have hla := h (k - 1) (by omega)
 have hld : (bs (k - 1)).data = (R (k - 1)).data := by
  rcases hla.d with e | ⟨e, _⟩
  . exact e
  . rw [hR.la] at e; exact absurd e (by unfold spec; decide)
 refine ⟨hR.pr, hb, hR.k16, k0, by rw [hc]; exact hR.c1, ?_, by rw [hc]; exact hR.c6, by rw [hc]; exact hR.c7, by rw [hc]; exact hR.c10, by rw [hla.ty]; exact hR.la, fun e => by rw [hc]; exact hR.t0 e, fun e => by rw [hld]; exact hR.fr e, ?_⟩
 .
  rw [dupB_iff]
  intro i j hi hj
  rw [(h i hi).num, (h j (by omega)).num]
  exact dupB_iff.1 hR.du i j hi hj
 .
  have hx := blks_le (R := R) (bs := bs) (k := k) fun i hi => by
   have g := h i hi
   rcases g.d with e | ⟨e, hd⟩
   .
    have : bs i = R i := by
     have q : ∀ a b : BV, a.ty = b.ty -> a.num = b.num -> a.fl = b.fl -> a.crc = b.crc -> a.data = b.data -> a = b := fun a b => by cases a; cases b; rintro rfl rfl rfl rfl rfl; rfl
     exact q _ _ g.ty g.num g.fl g.crc e
    rw [this]; omega
   .
    have b1 := BV.bytes_le (hb i hi)
    rcases e with e | e | e
    . rw [if_pos e]; omega
    . rw [if_pos (c := (R i).ty = 7) e]; omega
    . rw [if_pos (c := (R i).ty = 10) e]; omega
  have c6 := hR.c6
  have c7 := hR.c7
  have c10 := hR.c10
  unfold bunBytes at hl ⊢
  simp only [List.cons_append, List.length_cons, List.length_append] at hl ⊢
  omega
theorem num_first {bs : Nat -> BV} {k i : Nat} (hd : dupB bs k = false) (hi : i < k) : firstOf (fun j => decide ((bs j).num = (bs i).num)) k = some i :=
 firstOf_some hi (by simp) fun j hj => by
  have := dupB_iff.1 hd i j hi hj
  simp; exact fun e => this e.symm
def insP (bs : Nat -> BV) (i : Nat) (x : BV) : Nat -> BV := fun j => if j < i then bs j else if j = i then x else bs (j - 1)
theorem insP_cnt {bs : Nat -> BV} {i : Nat} {x : BV} (t : Int) : ∀ {k : Nat}, i <= k -> cntB (insP bs i x) t (k + 1) = cntB bs t k + (if x.ty = t then 1 else 0) := by
 have lo : ∀ {k : Nat}, k <= i -> cntB (insP bs i x) t k = cntB bs t k := fun {k} hk => cntB_congr' t fun j hj => by unfold insP; rw [if_pos (by omega)]
 intro k
 induction k with
 | zero =>
  intro h
  obtain rfl : i = 0 := by omega
  rw [cntB, cntB, cntB]
  unfold insP; simp
 | succ k ih =>
  intro h
  by_cases e : i = k + 1
  .
   subst e
   have : insP bs (k + 1) x (k + 1) = x := by unfold insP; simp
   rw [cntB, lo (Nat.le_refl _), this]
  .
   rw [cntB, ih (by omega), cntB]
   have : insP bs i x (k + 1) = bs k := by unfold insP; rw [if_neg (by omega), if_neg (by omega)]; rfl
   rw [this]; omega
theorem insP_len {bs : Nat -> BV} {i : Nat} {x : BV} : ∀ {k : Nat}, i <= k -> (blksB (insP bs i x) (k + 1)).length = (blksB bs k).length + x.bytes.length := by
 have lo : ∀ {k : Nat}, k <= i -> blksB (insP bs i x) k = blksB bs k := by
  intro k
  induction k with
  | zero => intro _; rfl
  | succ k ih =>
   intro h
   have : insP bs i x k = bs k := by unfold insP; rw [if_pos (by omega)]
   rw [blksB, blksB, ih (by omega), this]
 intro k
 induction k with
 | zero =>
  intro h
  obtain rfl : i = 0 := by omega
  have : insP bs 0 x 0 = x := by unfold insP; simp
  simp [blksB, this]
 | succ k ih =>
  intro h
  by_cases e : i = k + 1
  .
   subst e
   have : insP bs (k + 1) x (k + 1) = x := by unfold insP; simp
   rw [blksB, lo (Nat.le_refl _), this, List.length_append]
  .
   have : insP bs i x (k + 1) = bs k := by unfold insP; rw [if_neg (by omega), if_neg (by omega)]; rfl
   rw [blksB, List.length_append, ih (by omega), this, blksB, List.length_append]; omega
theorem insP_bok {p : PV} {bs : Nat -> BV} {k : Nat} (h : BOK p bs k) {x : BV} (hx : x.right = 0) (ht : x.ty = 6) (h6 : cntB bs 6 k = 0) (hk : k <= 15) (hn : ∀ j, j < k -> (bs j).num ≠ x.num) (hl : (bunBytes p bs k).length + x.bytes.length <= 4000) : BOK p (insP bs (k - 1) x) (k + 1) /\ (bunBytes p (insP bs (k - 1) x) (k + 1)).length = (bunBytes p bs k).length + x.bytes.length := by
 have k0 := h.k0
 have hc : ∀ t, cntB (insP bs (k - 1) x) t (k + 1) = cntB bs t k + (if x.ty = t then 1 else 0) := fun t => insP_cnt t (by omega)
 have hla : insP bs (k - 1) x k = bs (k - 1) := by unfold insP; rw [if_neg (by omega), if_neg (by omega)]
 have hlen : (bunBytes p (insP bs (k - 1) x) (k + 1)).length = (bunBytes p bs k).length + x.bytes.length := by
  unfold bunBytes
  simp only [List.cons_append, List.length_cons, List.length_append]
  rw [insP_len (by omega)]; omega
 refine ⟨⟨h.pr, fun i hi => ?_, by omega, by omega, by rw [hc, ht]; have := h.c1; simpa using this, ?_, by rw [hc, ht, h6]; simp, by rw [hc, ht]; have := h.c7; simpa using this, by rw [hc, ht]; have := h.c10; simpa using this, by rw [Nat.add_sub_cancel, hla]; exact h.la, fun e => by rw [hc, ht]; have := h.t0 e; simpa using this, fun e => by rw [Nat.add_sub_cancel, hla]; exact h.fr e, by rw [hlen]; exact hl⟩, hlen⟩
 .
  unfold insP
  split
  . exact h.br i (by omega)
  .
   split
   . exact hx
   . exact h.br (i - 1) (by omega)
 .
  rw [dupB_iff]
  intro i j hi hj
  have hd := dupB_iff.1 h.du
  unfold insP
  by_cases a : i < k - 1
  . rw [if_pos a, if_pos (by omega)]; exact hd i j (by omega) hj
  .
   rw [if_neg a]
   by_cases b : i = k - 1
   . rw [if_pos b, if_pos (by omega)]; exact fun e => hn j (by omega) e.symm
   .
    rw [if_neg b]
    by_cases c : j < k - 1
    . rw [if_pos c]; exact hd (i - 1) j (by omega) (by omega)
    . rw [if_neg c, if_pos (by omega)]; exact hn (i - 1) (by omega)
end Go.Proofs.YthecmnbkjchjmaaGreat


namespace Go.Proofs.YthecmnbkjchjmaaGreat
open Go.RowKit Go.Maps
set_option linter.unusedVariables false
set_option linter.unusedSimpArgs false

def cntNo (bs : Nat -> BV) (num : Int) : Nat -> Nat
 | 0 => 0
 | i + 1 => cntNo bs num i + (if (bs i).num = num then 1 else 0)
theorem cntNo_le (bs : Nat -> BV) (num : Int) : ∀ k, cntNo bs num k <= k
 | 0 => Nat.le_refl _
 | k + 1 => by have := cntNo_le bs num k; rw [cntNo]; split <;> omega
theorem cntNo_zero {bs : Nat -> BV} {num : Int} : ∀ {k : Nat}, (∀ j, j < k -> (bs j).num ≠ num) -> cntNo bs num k = 0
 | 0, _ => rfl
 | k + 1, h => by rw [cntNo, cntNo_zero fun j hj => h j (by omega), if_neg (h k (by omega))]
theorem cntNo_pos {bs : Nat -> BV} {num : Int} {i : Nat} : ∀ {k : Nat}, i < k -> (bs i).num = num -> 1 <= cntNo bs num k
 | k + 1, h, ht => by
  rw [cntNo]
  by_cases e : i = k
  . subst e; rw [if_pos ht]; omega
  . have := cntNo_pos (k := k) (by omega) ht; omega
theorem cntNo_dup {bs : Nat -> BV} {i : Nat} : dupAt bs i = decide (1 <= cntNo bs (bs i).num i) := by
 unfold dupAt
 cases h : firstOf (hasNumOf bs i) i with
 | none =>
  have h2 := firstOf_no h
  rw [cntNo_zero fun j hj e => by have := h2 j hj; simp [hasNumOf] at this; exact this e.symm]; rfl
 | some j =>
  obtain ⟨h1, h2, _⟩ := firstOf_spec h
  have := cntNo_pos (num := (bs i).num) h1 (by simp [hasNumOf] at h2; exact h2.symm)
  symm; simpa using this
def onceB (bs : Nat -> BV) (k : Nat) : Bool := !dupB bs k && decide (cntB bs 1 k = 1) && decide (cntB bs 6 k < 2) && decide (cntB bs 7 k < 2) && decide (cntB bs 10 k < 2)
theorem cntNo_upd (bs : Nat -> BV) (i : Nat) (x : Int) : upd (fun x => cntNo bs x i) (bs i).num x = cntNo bs x (i + 1) := by
 unfold upd
 rw [cntNo]
 by_cases e : x = (bs i).num
 . subst e; rw [if_pos rfl, if_pos rfl]
 . rw [if_neg e, if_neg (fun h => e h.symm)]; rfl
theorem cntB_upd (bs : Nat -> BV) (i : Nat) (x : Int) : upd (fun x => cntB bs x i) (bs i).ty x = cntB bs x (i + 1) := by
 unfold upd
 rw [cntB]
 by_cases e : x = (bs i).ty
 . subst e; rw [if_pos rfl, if_pos rfl]
 . rw [if_neg e, if_neg (fun h => e h.symm)]; rfl
set_option maxRecDepth 20000 in
set_option maxHeartbeats 4000000 in
theorem once_any (bs : Nat -> BV) (k c : Nat) (A : Option Addr) (hk : k <= 16) (hr : ∀ i, i < k -> InI (bs i).num /\ InI (bs i).ty) (w : World) (h : BsL w A k bs) : Calls Tryz.prog 111 #[.slice A k c] w (Ret (.bool (onceB bs k)) w) := by
 have HL := hid h
 have HI := hid hr
 have k1 : (k : Int) <= 16 := by omega
 have HK := hid hk
 have hmm := @run_makeMap Tryz.prog
 clear h hr hk
 go_enter Tryz.func111, Tryz.ntmps111
 go_upto_region 2 with fail
 have HE0 : Hid (Ext w ((w.alloc (.map #[] 0)).alloc (.map #[] 0))) := hid (((Mod.refl [] w).alloc _).alloc _)
 have HN0 : Hid (Counts ((w.alloc (.map #[] 0)).alloc (.map #[] 0)) w.heap.size 0 (fun _ => 0)) := hid ((Counts.made w).kept ((Mod.refl [] _).alloc _) (by simp))
 have HT0 : Hid (Counts ((w.alloc (.map #[] 0)).alloc (.map #[] 0)) (w.heap.size + 1) 0 (fun _ => 0)) := hid (by have := Counts.made (w.alloc (.map #[] 0)); simpa using this)
 clear hmm
 generalize (w.alloc (.map #[] 0)).alloc (.map #[] 0) = V at *
 generalize hM : w.heap.size = M at *
 have HM := hid hM
 clear hM
 go_upto_region 3 with fail
 go_loopw [11] (fun s11 wr => ∃ i : Nat, s11 = .int .i64 (i : Int) /\ Hid (i <= k /\ (∀ j, j < i -> dupAt bs j = false) /\ Ext w wr /\ Counts wr M i (fun x => cntNo bs x i) /\ Counts wr (M + 1) i (fun x => cntB bs x i))) (fun s11 _ => k - (intOf s11).toNat)
 case atStart => exact ⟨0, rfl, (show Hid _ from ⟨Nat.zero_le _, fun j hj => by omega, HE0.out, HN0.out, HT0.out⟩)⟩
 case round =>
  clear HE0 HN0 HT0
  obtain ⟨i, rfl, hS⟩ := hrel
  rename World => wr
  have i0 : (0 : Int) <= (i : Int) := by omega
  by_cases hlt : i < k
  .
   obtain ⟨b, o, rfl, hb, q0, q1, q2, q3, q4⟩ := HL.out.cells hlt
   have tc : decide (i < k) = true := by simp [hlt]
   have i1 : (i : Int) < (k : Int) := by omega
   have i2 : i <= 16 := by have := HK.out; omega
   have HLT := hid hlt
   have u0 : wr.cell? ⟨b, o + i * 5, none⟩ = _ := q0 ⟨wr, hS.out.2.2.1⟩
   have u1 : wr.cell? ⟨b, o + i * 5 + 1, none⟩ = _ := q1 ⟨wr, hS.out.2.2.1⟩
   have u2 : wr.cell? ⟨b, o + i * 5 + 2, none⟩ = _ := q2 ⟨wr, hS.out.2.2.1⟩
   have u3 : wr.cell? ⟨b, o + i * 5 + 3, none⟩ = _ := q3 ⟨wr, hS.out.2.2.1⟩
   have u4 : wr.cell? ⟨b, o + i * 5 + 4, none⟩ = _ := q4 ⟨wr, hS.out.2.2.1⟩
   clear q0 q1 q2 q3 q4
   obtain ⟨hin, hit⟩ := HI.out i hlt
   clear hlt
   go_upto_region 5 with fail
   generalize hW1 : World.alloc wr _ = W1
   have HG1 : Hid (Blk W1 wr.heap.size 38 (BV.c (bs i))) := hid (by rw [<- hW1]; exact Blk.new _ _ _)
   have hS1 : Hid (Ext w W1 /\ Counts W1 M i (fun x => cntNo bs x i) /\ Counts W1 (M + 1) i (fun x => cntB bs x i)) := hid (by
    have h := hS.out.2.2
    rw [<- hW1]
    exact ⟨h.1.alloc _, h.2.1.kept (Mod.alloc (S := []) (Mod.refl _ _) _) (by simp), h.2.2.kept (Mod.alloc (S := []) (Mod.refl _ _) _) (by simp)⟩)
   have HGM : Hid (wr.heap.size ≠ M /\ wr.heap.size ≠ M + 1) := hid ⟨by have := hS.out.2.2.2.1.lt; omega, by have := hS.out.2.2.2.2.lt; omega⟩
   have hno := hS.out.2.1
   have HNO := hid hno
   clear hW1 hS u0 u1 u2 u3 u4 hno
   generalize wr.heap.size = G at *
   have HDA := hid (cntNo_dup (bs := bs) (i := i))
   have hUN := cntNo_upd bs i
   have hUT := cntB_upd bs i
   have HUN := hid hUN
   have HUT := hid hUT
   clear hUN hUT
   have hn1 := cntNo_le bs (bs i).num i
   have hn2 := cntB_le bs (bs i).ty i
   have g0 : W1.cell? ⟨G, 0, none⟩ = some (.int .i64 (bs i).ty) := HG1.out.cell 0
   have g1 : W1.cell? ⟨G, 1, none⟩ = some (.int .i64 (bs i).num) := HG1.out.cell 1
   have hl := hS1.out.2.1.look hin
   try dsimp only at hl
   have hN1 : cntNo bs (bs i).num (i + 1) = cntNo bs (bs i).num i + 1 := by rw [cntNo, if_pos rfl]
   have HN1 := hid hN1
   clear hN1
   obtain ⟨D, hown, hat⟩ := hS1.out.2.1
   have hkey := keyOf3 hin
   have u0 : (0 : Int) <= (cntNo bs (bs i).num i : Nat) := by omega
   have u1 : ((cntNo bs (bs i).num i : Nat) : Int) <= 16 := by omega
   have hw1 : (Lit.int .i64 (((cntNo bs (bs i).num i : Nat) : Int) + 1)).wf = true := InI.wf (by unfold InI; omega)
   generalize hnn : cntNo bs (bs i).num i = n1 at *
   have HNN := hid hnn
   clear hnn hn1
   go_upto_region 6 with (at_mapUpdate; refine wpList_mapUpdate_own _ rfl _ _ _ 165 rfl 3 3 law3 Tryz.underlying165 _ M i _ rfl hown (by unfold maxLen; omega) _ _ _ rfl rfl hkey _ [] (plainElem_int Tryz.underlying3 hw1) ?_; intro w2 hown2 hgrow2)
   have hC2 : Hid (Counts w2 M (i + 1) (fun x => cntNo bs x (i + 1))) := hid ((Counts.put (f := fun x => cntNo bs x i) hin hown hat (by (try dsimp only); rw [HNN.out]; exact hown2)).congr HUN.out)
   have m2 : Mod [M] W1 w2 := (Mod.refl _ _).grown hgrow2 (fun kk hkk => .inl (by cases hkk; simp))
   have HG2 := hid (HG1.out.mod m2 (by simpa using HGM.out.1))
   have HE2 : Hid (Ext w w2) := hid (Mod.new (S := [M]) (hS1.out.1.of_ext.trans m2) (fun kk hkk => .inr (by have := HM.out; simp at hkk; omega)))
   have hT2 := hS1.out.2.2.kept m2 (by simp)
   clear hl hown hat hown2 hgrow2 m2 g0 g1 hkey hw1 HG1 hS1 u0 u1
   have g0 : w2.cell? ⟨G, 0, none⟩ = some (.int .i64 (bs i).ty) := HG2.out.cell 0
   have hl := hT2.look hit
   try dsimp only at hl
   obtain ⟨D2, hown, hat⟩ := hT2
   have hkey := keyOf3 hit
   have u0 : (0 : Int) <= (cntB bs (bs i).ty i : Nat) := by omega
   have u1 : ((cntB bs (bs i).ty i : Nat) : Int) <= 16 := by omega
   have hw1 : (Lit.int .i64 (((cntB bs (bs i).ty i : Nat) : Int) + 1)).wf = true := InI.wf (by unfold InI; omega)
   generalize hnn2 : cntB bs (bs i).ty i = n2 at *
   have HNN2 := hid hnn2
   clear hnn2 hn2
   go_upto_region 7 with (at_mapUpdate; refine wpList_mapUpdate_own _ rfl _ _ _ 165 rfl 3 3 law3 Tryz.underlying165 _ (M + 1) i _ rfl hown (by unfold maxLen; omega) _ _ _ rfl rfl hkey _ [] (plainElem_int Tryz.underlying3 hw1) ?_; intro w3 hown3 hgrow3)
   have hC3 : Hid (Counts w3 (M + 1) (i + 1) (fun x => cntB bs x (i + 1))) := hid ((Counts.put (f := fun x => cntB bs x i) hit hown hat (by (try dsimp only); rw [HNN2.out]; exact hown3)).congr HUT.out)
   have m3 : Mod [M + 1] w2 w3 := (Mod.refl _ _).grown hgrow3 (fun kk hkk => .inl (by cases hkk; simp))
   have HG3 := hid (HG2.out.mod m3 (by simpa using HGM.out.2))
   have HE3 : Hid (Ext w w3) := hid (Mod.new (S := [M + 1]) (HE2.out.of_ext.trans m3) (fun kk hkk => .inr (by have := HM.out; simp at hkk; omega)))
   have hC4 := hid (hC2.out.kept m3 (by simp))
   clear hl hown hat hown3 hgrow3 m3 g0 hkey hw1 HG2 HE2 hC2 u0 u1
   have g1 : w3.cell? ⟨G, 1, none⟩ = some (.int .i64 (bs i).num) := HG3.out.cell 1
   have hl := hC4.out.look hin
   try dsimp only at hl
   rw [HN1.out, show ((n1 + 1 : Nat) : Int) = (n1 : Int) + 1 by omega] at hl

   by_cases hd : 1 <= n1
   .
    have HF : Hid (onceB bs k = false) := by
     have h1 : dupAt bs i = true := by rw [HDA.out]; simpa using hd
     have h2 : dupB bs k = true := by unfold dupB; rw [firstOf_some HLT.out h1 HNO.out]; rfl
     unfold Hid onceB; rw [h2]; rfl
    have ta : decide ((1 : Int) < (n1 : Int) + 1) = true := decide_eq_true (by omega)
    have tb : ((1 : Int) < (n1 : Int) + 1) = True := eq_true (by omega)
    have td : decide (1 < n1 + 1) = true := decide_eq_true (by omega)
    have te : (1 < n1 + 1) = True := eq_true (by omega)
    have te2 : (0 < n1) = True := eq_true (by omega)
    clear hd
    go_wp2_with fail
    go_ret
    exact Ret.mk (by rw [HF.out]; rfl) HE3.out
   .
    obtain rfl : n1 = 0 := by omega
    have HN : Hid (dupAt bs i = false) := hid (by rw [HDA.out]; rfl)
    clear hd
    go_wp2_with fail
    go_roundw
    case rel => exact ⟨i + 1, by go_num, (show Hid _ from ⟨HLT.out, fun j hj => by
     by_cases hji : j = i
     . subst hji; exact HN.out
     . exact HNO.out j (by omega), HE3.out, hC4.out, hC3.out⟩)⟩
    case measure => have := HLT.out; simp [intOf]; omega
  .
   obtain rfl : i = k := by have := hS.out.1; omega
   have tc : decide (i < i) = false := by simp
   have HD : Hid (dupB bs i = false) := by unfold Hid dupB; rw [firstOf_none hS.out.2.1]; rfl
   have HE := hid hS.out.2.2.1
   have hT := hS.out.2.2.2.2
   have l1 := hT.look (id := 1) (by unfold InI; omega)
   have l6 := hT.look (id := 6) (by unfold InI; omega)
   have l7 := hT.look (id := 7) (by unfold InI; omega)
   have l10 := hT.look (id := 10) (by unfold InI; omega)
   try dsimp only at l1 l6 l7 l10
   have HF : Hid (onceB bs i = (decide (cntB bs 1 i = 1) && decide (cntB bs 6 i < 2) && decide (cntB bs 7 i < 2) && decide (cntB bs 10 i < 2))) := by unfold Hid onceB; rw [HD.out]; rfl
   clear hT hS HD hlt HL
   generalize onceB bs i = R at *
   generalize cntB bs 1 i = n1 at *
   generalize cntB bs 6 i = n6 at *
   generalize cntB bs 7 i = n7 at *
   generalize cntB bs 10 i = n10 at *
   by_cases z1 : n1 = 1
   .
    subst z1
    have z1 : True := trivial
    by_cases z6 : n6 < 2
    .
     have HZ6 := hid z6
     have t6a : decide ((n6 : Int) < 2) = true := decide_eq_true (by omega)
     have t6b : ((n6 : Int) < 2) = True := eq_true (by omega)
     have t6na : decide (n6 < 2) = true := decide_eq_true (by omega)
     have t6nb : (n6 < 2) = True := eq_true (by omega)
     clear z6
     by_cases z7 : n7 < 2
     .
      have HZ7 := hid z7
      have t7a : decide ((n7 : Int) < 2) = true := decide_eq_true (by omega)
      have t7b : ((n7 : Int) < 2) = True := eq_true (by omega)
      have t7na : decide (n7 < 2) = true := decide_eq_true (by omega)
      have t7nb : (n7 < 2) = True := eq_true (by omega)
      clear z7
      by_cases z10 : n10 < 2
      .
       have HZ10 := hid z10
       have t10a : decide ((n10 : Int) < 2) = true := decide_eq_true (by omega)
       have t10b : ((n10 : Int) < 2) = True := eq_true (by omega)
       have t10na : decide (n10 < 2) = true := decide_eq_true (by omega)
       have t10nb : (n10 < 2) = True := eq_true (by omega)
       clear z10
       go_wp2_with fail
       go_ret
       exact Ret.mk (by rw [HF.out]; simp [HZ6.out, HZ7.out, HZ10.out]) HE.out
      .
       have HZ10 := hid z10
       have t10a : decide ((n10 : Int) < 2) = false := decide_eq_false (by omega)
       have t10b : ((n10 : Int) < 2) = False := eq_false (by omega)
       have t10na : decide (n10 < 2) = false := decide_eq_false (by omega)
       have t10nb : (n10 < 2) = False := eq_false (by omega)
       clear z10
       go_wp2_with fail
       go_ret
       exact Ret.mk (by rw [HF.out]; simp [HZ6.out, HZ7.out, HZ10.out]) HE.out
     .
      have HZ7 := hid z7
      have t7a : decide ((n7 : Int) < 2) = false := decide_eq_false (by omega)
      have t7b : ((n7 : Int) < 2) = False := eq_false (by omega)
      have t7na : decide (n7 < 2) = false := decide_eq_false (by omega)
      have t7nb : (n7 < 2) = False := eq_false (by omega)
      clear z7
      go_wp2_with fail
      go_ret
      exact Ret.mk (by rw [HF.out]; simp [HZ6.out, HZ7.out]) HE.out
    .
     have HZ6 := hid z6
     have t6a : decide ((n6 : Int) < 2) = false := decide_eq_false (by omega)
     have t6b : ((n6 : Int) < 2) = False := eq_false (by omega)
     have t6na : decide (n6 < 2) = false := decide_eq_false (by omega)
     have t6nb : (n6 < 2) = False := eq_false (by omega)
     clear z6
     go_wp2_with fail
     go_ret
     exact Ret.mk (by rw [HF.out]; simp [HZ6.out]) HE.out
   .
    have HZ1 := hid z1
    have t1a : (((n1 : Int)) == (1)) = false := by rw [beq_eq_false_iff_ne]; omega
    have t1b : (((n1 : Int)) = (1)) = False := eq_false (by omega)
    have t1c : (((n1 : Int)) != (1)) = true := by rw [bne_iff_ne]; omega
    have t1na : ((n1) == (1)) = false := by rw [beq_eq_false_iff_ne]; omega
    have t1nb : ((n1) = (1)) = False := eq_false (by omega)
    have t1nc : ((n1) != (1)) = true := by rw [bne_iff_ne]; omega
    clear z1
    go_wp2_with fail
    go_ret
    exact Ret.mk (by rw [HF.out]; simp [HZ1.out]) HE.out
end Go.Proofs.YthecmnbkjchjmaaGreat
