/-
  A bundle of one block.
  The layer's own awake; its argument At, opened.
  What is signed, of two bundles: the same just if all that is covered is: plain.
  Two primaries compared.
  A struct in the midst of a block, loaded in a region whose operations are held.
  What is covered, as the law tells it.
  The law ScopeTexts, walked.
-/
import Derived.Test.YtkeabdfgacicaaaMScopeAparth
import Derived.DeepKeys

namespace Go.Proofs.Ytkeabdfgacicaaa
open Go.RowKit
set_option linter.unusedVariables false
set_option linter.unusedSimpArgs false

def someP : PV := ⟨0, 0, ⟨2, [], 2, 0⟩, ⟨2, [], 1, 0⟩, ⟨1, [110, 111, 110, 101], 0, 0⟩, 5, 0, 100, 0, 0⟩
def someB : Nat → BV := fun _ => ⟨1, 1, 0, 0, [104, 105]⟩
/-- A bundle's value whose one block lies in a new memory block. -/
def SomeR (w : World) (e : Ending) (w' : World) : Prop := ∃ g, e = .returned (bunV someP (some ⟨g, 0, none⟩) 1 1) ∧ Ext w w' ∧ BsL w' (some ⟨g, 0, none⟩) 1 someB
set_option maxRecDepth 20000 in
theorem some_any (w : World) : Calls Try.prog 29 #[] w (SomeR w) := by
  have HE := hid ((Mod.refl [] w).alloc (.cells #[.int .u64 0, .int .i64 0, .int .i64 0, .string ⟨#[]⟩, .int .u64 0, .int .u64 0, .int .i64 0, .string ⟨#[]⟩, .int .u64 0, .int .u64 0, .int .i64 0, .string ⟨#[]⟩, .int .u64 0, .int .u64 0, .int .u64 0, .int .u64 0, .int .u64 0, .int .u64 0, .int .u64 0, .slice none 0 0] 29))
  have HR := hid (Blk.new w 29 #[.int .u64 0, .int .i64 0, .int .i64 0, .string ⟨#[]⟩, .int .u64 0, .int .u64 0, .int .i64 0, .string ⟨#[]⟩, .int .u64 0, .int .u64 0, .int .i64 0, .string ⟨#[]⟩, .int .u64 0, .int .u64 0, .int .u64 0, .int .u64 0, .int .u64 0, .int .u64 0, .int .u64 0, .slice none 0 0])
  go_enter Try.func29, Try.ntmps29
  go_upto_region 1 with fail
  generalize w.alloc (.cells #[.int .u64 0, .int .i64 0, .int .i64 0, .string ⟨#[]⟩, .int .u64 0, .int .u64 0, .int .i64 0, .string ⟨#[]⟩, .int .u64 0, .int .u64 0, .int .i64 0, .string ⟨#[]⟩, .int .u64 0, .int .u64 0, .int .u64 0, .int .u64 0, .int .u64 0, .int .u64 0, .int .u64 0, .slice none 0 0] 29) = V at *
  go_upto_region 2 with (refine wpList_store_mid rfl 26 _ _ rfl V.heap.size 0 #[.int .u64 0, .int .i64 0, .int .i64 2, str [], .int .u64 2, .int .u64 0, .int .i64 2, str [], .int .u64 1, .int .u64 0, .int .i64 1, str [110, 111, 110, 101], .int .u64 0, .int .u64 0, .int .u64 5, .int .u64 0, .int .u64 100, .int .u64 0, .int .u64 0] (by rfl) (by rfl) ((Blk.new _ _ _).there (Nat.le_refl 19)) (by kernel_rfl) (by simp [Value.oneCell']) ?_)
  generalize hU : World.setCells _ _ _ _ = U
  have HX : Hid (Blk U V.heap.size 26 #[.int .u64 0, .int .i64 0, .int .i64 2, str [], .int .u64 2, .int .u64 0, .int .i64 2, str [], .int .u64 1, .int .u64 0, .int .i64 1, str [110, 111, 110, 101], .int .u64 0, .int .u64 0, .int .u64 5, .int .u64 0, .int .u64 100, .int .u64 0, .int .u64 0]) := hid (by rw [← hU]; exact setCells_all (ds := #[.int .u64 0, .int .i64 0, .int .i64 2, str [], .int .u64 2, .int .u64 0, .int .i64 2, str [], .int .u64 1, .int .u64 0, .int .i64 1, str [110, 111, 110, 101], .int .u64 0, .int .u64 0, .int .u64 5, .int .u64 0, .int .u64 100, .int .u64 0, .int .u64 0]) (Blk.new _ _ _) rfl)
  have HM : Hid (Ext V U) := hid (by rw [← hU]; exact setCells_mod _ _ ((Mod.refl [] V).alloc _) (.inr (Nat.le_refl _)))
  have HRU := hid (HR.out.ext HM.out)
  clear hU
  generalize V.heap.size = vs at *
  go_wp2_with (first | (refine wpList_row (by rfl) 26 _ rfl _ rfl HX.out Try.underlying26 rfl (by kernel_rfl) ?_) | (refine wpList_store_mid rfl 29 _ _ rfl w.heap.size 0 #[.int .u64 0, .int .i64 0, .int .i64 2, str [], .int .u64 2, .int .u64 0, .int .i64 2, str [], .int .u64 1, .int .u64 0, .int .i64 1, str [110, 111, 110, 101], .int .u64 0, .int .u64 0, .int .u64 5, .int .u64 0, .int .u64 100, .int .u64 0, .int .u64 0, .slice (some ⟨U.heap.size, 0, none⟩) 1 1] (by rfl) (by rfl) ((HRU.out.alloc _).there (Nat.le_refl 20)) (by kernel_rfl) (by simp [Value.oneCell']) ?_))
  generalize hW2 : World.setCells _ _ _ _ = W2
  have HXX : Hid (Blk W2 w.heap.size 29 #[.int .u64 0, .int .i64 0, .int .i64 2, str [], .int .u64 2, .int .u64 0, .int .i64 2, str [], .int .u64 1, .int .u64 0, .int .i64 1, str [110, 111, 110, 101], .int .u64 0, .int .u64 0, .int .u64 5, .int .u64 0, .int .u64 100, .int .u64 0, .int .u64 0, .slice (some ⟨U.heap.size, 0, none⟩) 1 1]) := hid (by rw [← hW2]; exact setCells_all (ds := #[.int .u64 0, .int .i64 0, .int .i64 2, str [], .int .u64 2, .int .u64 0, .int .i64 2, str [], .int .u64 1, .int .u64 0, .int .i64 1, str [110, 111, 110, 101], .int .u64 0, .int .u64 0, .int .u64 5, .int .u64 0, .int .u64 100, .int .u64 0, .int .u64 0, .slice (some ⟨U.heap.size, 0, none⟩) 1 1]) (HRU.out.alloc _) rfl)
  have HM2 : Hid (Ext w W2) := hid (by rw [← hW2]; exact setCells_mod _ _ ((HE.out.trans HM.out).alloc _) (.inr (Nat.le_refl _)))
  have HNB : Hid (Mod [w.heap.size] (U.alloc (.cells #[.int .i64 1, .int .i64 1, .int .u64 0, .int .i64 0, .string ⟨#[104, 105]⟩] 32)) W2) := hid (by rw [← hW2]; exact setCells_mod _ _ (Mod.refl _ _) (.inl (by simp)))
  have HNE : Hid (U.heap.size ≠ w.heap.size) := hid (by have := HRU.out.lt; omega)
  have HBX := hid (Blk.new U 32 #[.int .i64 1, .int .i64 1, .int .u64 0, .int .i64 0, .string ⟨#[104, 105]⟩])
  clear hW2
  refine bodyPost_ret (v := .agg #[.int .u64 0, .int .i64 0, .int .i64 2, str [], .int .u64 2, .int .u64 0, .int .i64 2, str [], .int .u64 1, .int .u64 0, .int .i64 1, str [110, 111, 110, 101], .int .u64 0, .int .u64 0, .int .u64 5, .int .u64 0, .int .u64 100, .int .u64 0, .int .u64 0, .slice (some ⟨U.heap.size, 0, none⟩) 1 1]) (results_cell Try.results29 _ rfl HXX.out Try.underlying29 rfl (by kernel_rfl)) rfl ?_
  have HB2 := HBX.out.mod HNB.out (by simpa using HNE.out)
  refine ⟨U.heap.size, rfl, HM2.out, fun _ => ⟨U.heap.size, 0, rfl, HB2.lt, fun i hi => ?_⟩⟩
  obtain rfl : i = 0 := by omega
  exact ⟨HB2.cell 0, HB2.cell 1, HB2.cell 2, HB2.cell 3, HB2.cell 4⟩
end Go.Proofs.Ytkeabdfgacicaaa


namespace Go.Proofs.Ytkeabdfgacicaaa
open Go.ChangeShapes Go.WideShapes Go.ChangeAt Go.RowKit Go.Deep
set_option linter.unusedVariables false
set_option linter.unusedSimpArgs false

def secB : BV := ⟨11, 2, 0, 0, []⟩
theorem someText : sText someP secB someB 1 1 0 = ([0, 66, 104, 105], 0) := by decide +kernel
set_option maxRecDepth 20000 in
theorem awake16_any (w : World) : Calls Try.prog 8 #[] w (Ret (.bool true) w) := by
  have KS := hid (fun W => some_any W)
  have KT : Hid (∀ W g, BsL W (some ⟨g, 0, none⟩) 1 someB → Calls Try.prog 10 #[bunV someP (some ⟨g, 0, none⟩) 1 1, .int .i64 1, secB.v, .int .i64 0] W (Ret (.tuple #[str [0, 66, 104, 105], .int .i64 0]) W)) := fun W g hL => by
    have := cText_any someP secB someB 1 1 (some ⟨g, 0, none⟩) 1 0 (by decide) (by omega) (fun i hi => by show [104, 105].length ≤ _; decide) (by unfold Hid; decide) W hL
    rw [someText] at this
    exact this
  go_enter Try.func8, Try.ntmps8
  go_wp2_with (first | (go_at_call 29; refine (KS.out _).mono ?_; rintro x w2 ⟨g, rfl, hx, hL⟩) | (go_at_call 10; refine (KT.out _ _ hL).mono ?_; rintro x w3 ⟨rfl, h3⟩))
  go_ret
  exact Ret.mk rfl (hx.trans h3)
section
variable {H : Type} {enc : TypeId × Value → H} {w : World} {base b0 : Nat} {spare : Nat → Bool} {held : Bool} {r : Reach}
set_option maxRecDepth 100000 in
theorem open_at {v : Value} {d : DataW H} {p : List MemPlace} (hval : Value.okWide Try.prog w r b0 35 v) (h : DataW.Trod enc Try.prog w base spare held 35 v d p) :
    ∃ n0 n1 : Int, v = .agg #[.int .i64 n0, .int .i64 n1] := by
  obtain ⟨cs, rfl, hsz⟩ := okWide_struct Try.underlying35 hval
  obtain ⟨fuel, hf⟩ := h
  obtain ⟨ys, n', hn', hy, hlen, hyl, hfl⟩ := DataW.trod_struct Try.underlying35 hf
  have hcs : (Value.agg cs).cells.toList = cs.toList := rfl
  rw [hcs] at hlen hfl
  obtain ⟨l⟩ := cs
  match l, hlen with
  | [c0, c1], _ =>
    have h0 := field_at (by kernel_rfl) hfl (i := 0) rfl rfl
    have h1 := field_at (by kernel_rfl) hfl (i := 1) rfl rfl
    clear hfl
    match ys, hyl with
    | [y0, y1], _ =>
      obtain ⟨t0, e0, _, w0⟩ := DataW.trod_int (k := .i64) (by kernel_rfl) h0
      obtain ⟨t1, e1, _, w1⟩ := DataW.trod_int (k := .i64) (by kernel_rfl) h1
      have q0 : c0 = .int .i64 t0 := by have : [c0] = [Value.int .i64 t0] := e0; simpa using this
      have q1 : c1 = .int .i64 t1 := by have : [c1] = [Value.int .i64 t1] := e1; simpa using this
      subst q0 q1
      exact ⟨t0, t1, rfl⟩
end
end Go.Proofs.Ytkeabdfgacicaaa


namespace Go.Proofs.Ytkeabdfgacicaaa
open Go.RowKit
set_option linter.unusedVariables false
set_option linter.unusedSimpArgs false

theorem PV.ext' {p q : PV} (h0 : p.fl = q.fl) (h1 : p.crc = q.crc) (h2 : p.d = q.d) (h3 : p.s = q.s) (h4 : p.r = q.r) (h5 : p.t = q.t) (h6 : p.q = q.q) (h7 : p.l = q.l) (h8 : p.o = q.o) (h9 : p.n = q.n) : p = q := by
  cases p; cases q
  simp only at h0 h1 h2 h3 h4 h5 h6 h7 h8 h9
  subst h0 h1 h2 h3 h4 h5 h6 h7 h8 h9
  rfl
theorem eid_same {a b : EV} (ha : a.ok = true) (hb : b.ok = true) (h : (eidT a).same (eidT b) = true) : a = b := by
  rw [← readE_same ha h, readE_same hb (T.same_refl (eidT b))]
theorem num_same {a b : Nat} (h : (numT a).same (numT b) = true) : a = b := (same_mk h).2.1.symm
theorem PV.no_frag {p : PV} (h : p.right = 0) (hf : ¬ p.fl % 2 = 1) : p.o = 0 ∧ p.n = 0 := by
  unfold PV.right at h
  rw [if_neg (by rw [PV.right_ranged (by unfold PV.right; exact h)]; decide)] at h
  split at h
  · exact absurd h (by decide)
  · omega
/-- A primary's items tell it. -/
theorem priL_inj {p q : PV} (hp : p.right = 0) (hq : q.right = 0) {k k' : Nat} {s s' : List UInt8} (h : (priT p k s).same (priT q k' s') = true) : p.plain = q.plain ∧ k = k' := by
  obtain ⟨a1, a2, a3, a4⟩ := PV.ranged_spec (PV.right_ranged hp)
  obtain ⟨b1, b2, b3, b4⟩ := PV.ranged_spec (PV.right_ranged hq)
  obtain ⟨_, _, _, _, hk, hc⟩ := same_mk h
  have hc' : ∀ i, i < (priL p k s).length → (((priL p k s)[i]?).getD T.nil).same (((priL q k' s')[i]?).getD T.nil) = true := hc
  rw [priL_length] at hc'
  have hN : 8 ≤ priN p k := by unfold priN; omega
  have c1 : (numT p.fl).same (numT q.fl) = true := hc' 1 (by omega)
  have c2 : (numT k).same (numT k') = true := hc' 2 (by omega)
  have c3 : (eidT p.d).same (eidT q.d) = true := hc' 3 (by omega)
  have c4 : (eidT p.s).same (eidT q.s) = true := hc' 4 (by omega)
  have c5 : (eidT p.r).same (eidT q.r) = true := hc' 5 (by omega)
  have c6 : (listT [numT p.t, numT p.q]).same (listT [numT q.t, numT q.q]) = true := hc' 6 (by omega)
  have c7 : (numT p.l).same (numT q.l) = true := hc' 7 (by omega)
  have e1 := num_same c1
  have c6' := (same_mk c6).2.2.2.2.2
  have d0 : (numT p.t).same (numT q.t) = true := c6' 0 (by simp)
  have d1 : (numT p.q).same (numT q.q) = true := c6' 1 (by simp)
  have e8 : p.o = q.o ∧ p.n = q.n := by
    by_cases hf : p.fl % 2 = 1
    · have hf' : q.fl % 2 = 1 := by omega
      have hN2 : 10 ≤ priN p k := by unfold priN; rw [if_pos hf]; omega
      have f8 := hc' 8 (by omega)
      have f9 := hc' 9 (by omega)
      unfold priL at f8 f9
      rw [if_pos hf, if_pos hf'] at f8 f9
      exact ⟨num_same f8, num_same f9⟩
    · have hf' : ¬ q.fl % 2 = 1 := by omega
      have x := PV.no_frag hp hf
      have y := PV.no_frag hq hf'
      omega
  refine ⟨PV.ext' e1 rfl (eid_same a1 b1 c3) (eid_same a2 b2 c4) (eid_same a3 b3 c5) (num_same d0) (num_same d1) (num_same c7) e8.1 e8.2, num_same c2⟩
theorem plain_same {p q : PV} (h : p.plain = q.plain) (hp : p.right = 0) : p.plain.bytes = q.plain.bytes := by rw [h]
theorem plain_inj {p q : PV} (hp : p.right = 0) (hq : q.right = 0) {x y : List UInt8} (h : p.plain.bytes ++ x = q.plain.bytes ++ y) : p.plain = q.plain ∧ x = y := by
  have hp' := PV.plain_right hp
  have hq' := PV.plain_right hq
  obtain ⟨u1, u2, _, u4⟩ := PV.tree_all (PV.right_ranged hp')
  obtain ⟨v1, v2, _, v4⟩ := PV.tree_all (PV.right_ranged hq')
  rw [← u4, ← v4] at h
  have := T.bytes_inj _ _ (T.plain_of (u2 8 (by omega))) (T.plain_of (v2 8 (by omega))) u1 v1 x y h
  exact ⟨(priL_inj hp' hq' this.1).1, this.2⟩
theorem hdr_inj {b c : BV} (hb : b.right = 0) (hc : c.right = 0) {x y : List UInt8} (h : b.hdr ++ x = c.hdr ++ y) : (b.ty = c.ty ∧ b.num = c.num ∧ b.fl = c.fl) ∧ x = y := by
  have h1 := BV.right_zero hb
  have h2 := BV.right_zero hc
  unfold BV.hdr at h
  simp only [List.append_assoc] at h
  obtain ⟨e1, h⟩ := headL_inj (by omega) (by omega) h
  obtain ⟨e2, h⟩ := headL_inj (by omega) (by omega) h
  obtain ⟨e3, h⟩ := headL_inj (by omega) (by omega) h
  exact ⟨⟨by omega, by omega, e3⟩, h⟩
theorem hdr_same {b c : BV} (h : b.ty = c.ty ∧ b.num = c.num ∧ b.fl = c.fl) : b.hdr = c.hdr := by
  obtain ⟨e1, e2, e3⟩ := h
  simp only [BV.hdr, e1, e2, e3]
def hdrB (b c : BV) : Bool := decide (b.ty = c.ty) && (decide (b.num = c.num) && decide (b.fl = c.fl))
theorem hdrB_iff {b c : BV} : hdrB b c = true ↔ b.ty = c.ty ∧ b.num = c.num ∧ b.fl = c.fl := by unfold hdrB; simp
noncomputable instance : DecidableEq PV := fun a b => Classical.propDecidable (a = b)
/-- Is all that is covered the same? (x, y: the targets, if there are any.) -/
noncomputable def covB (p q : PV) (x y s t : BV) (target : Int) (n : Nat) : Bool :=
  if n / 4 = 1 ∧ hdrB s t = false then false
  else if target = 0 then decide (p.plain = q.plain)
  else (decide (n % 2 = 0) || decide (p.plain = q.plain)) && (decide (n / 2 % 2 = 0) || hdrB x y)
/-- Of no target. -/
theorem apart_0 {p q : PV} {s t : BV} {n : Nat} (hn : n < 8) (hp : p.right = 0) (hq : q.right = 0) (hs : s.right = 0) (ht : t.right = 0) (x y : BV) :
    (besB p.plain.bytes [] s.hdr 0 n ++ p.plain.bytes = besB q.plain.bytes [] t.hdr 0 n ++ q.plain.bytes) ↔ covB p q x y s t 0 n = true := by
  unfold besB covB
  simp only [ne_eq, not_true_eq_false, and_false, if_false, List.append_nil, ite_self, if_true]
  constructor
  · intro h
    simp only [List.append_assoc] at h
    have h := List.append_cancel_left h
    by_cases h4 : n / 4 = 1
    · rw [if_pos h4, if_pos h4] at h
      obtain ⟨h1, h2⟩ := hdr_inj hs ht h
      have h3 := plain_inj (x := []) (y := []) hp hq (by simpa using h2)
      have h5 := hdrB_iff.2 h1
      rw [if_neg (by rw [h5]; simp)]
      simp [h3.1]
    · rw [if_neg h4, if_neg h4] at h
      have h3 := plain_inj (x := []) (y := []) hp hq (by simpa using h)
      rw [if_neg (fun h => h4 h.1)]
      simp [h3.1]
  · intro h
    split at h
    · cases h
    · rename_i h1
      have h2 : p.plain = q.plain := by simpa using h
      rw [h2]
      by_cases h4 : n / 4 = 1
      · have : hdrB s t = true := by
          cases hb : hdrB s t with
          | true => rfl
          | false => exact absurd ⟨h4, hb⟩ h1
        rw [hdr_same (hdrB_iff.1 this)]
      · rw [if_neg h4, if_neg h4]
/-- What goes with it, of a target. -/
theorem beside_t {p q : PV} {s t x y : BV} {n : Nat} {target : Int} (h0 : target ≠ 0) (hn : n < 8) (hp : p.right = 0) (hq : q.right = 0) (hs : s.right = 0) (ht : t.right = 0) (hx : x.right = 0) (hy : y.right = 0) (u v : List UInt8) :
    (besB p.plain.bytes x.hdr s.hdr target n ++ u = besB q.plain.bytes y.hdr t.hdr target n ++ v) ↔ covB p q x y s t target n = true ∧ u = v := by
  unfold besB covB
  rw [if_neg h0]
  constructor
  · intro h
    simp only [List.append_assoc] at h
    have h := List.append_cancel_left h
    have h1 : (decide (n % 2 = 0) || decide (p.plain = q.plain)) = true ∧ ((if n / 2 % 2 = 1 then x.hdr else []) ++ ((if n / 4 = 1 then s.hdr else []) ++ u) = (if n / 2 % 2 = 1 then y.hdr else []) ++ ((if n / 4 = 1 then t.hdr else []) ++ v)) := by
      by_cases c : n % 2 = 1
      · rw [if_pos (show n % 2 = 1 ∧ target ≠ 0 from ⟨c, h0⟩), if_pos (show n % 2 = 1 ∧ target ≠ 0 from ⟨c, h0⟩)] at h
        have := plain_inj hp hq h
        exact ⟨by simp [this.1], this.2⟩
      · rw [if_neg (show ¬ (n % 2 = 1 ∧ target ≠ 0) from fun h => c h.1), if_neg (show ¬ (n % 2 = 1 ∧ target ≠ 0) from fun h => c h.1)] at h
        exact ⟨by simp; omega, h⟩
    obtain ⟨g1, h⟩ := h1
    have h2 : (decide (n / 2 % 2 = 0) || hdrB x y) = true ∧ ((if n / 4 = 1 then s.hdr else []) ++ u = (if n / 4 = 1 then t.hdr else []) ++ v) := by
      by_cases c : n / 2 % 2 = 1
      · rw [if_pos c, if_pos c] at h
        have := hdr_inj hx hy h
        exact ⟨by rw [hdrB_iff.2 this.1]; simp, this.2⟩
      · rw [if_neg c, if_neg c] at h
        exact ⟨by simp; omega, h⟩
    obtain ⟨g2, h⟩ := h2
    by_cases c : n / 4 = 1
    · rw [if_pos c, if_pos c] at h
      have := hdr_inj hs ht h
      rw [if_neg (by rw [hdrB_iff.2 this.1]; simp), g1, g2]
      exact ⟨rfl, this.2⟩
    · rw [if_neg c, if_neg c] at h
      rw [if_neg (fun h => c h.1), g1, g2]
      exact ⟨rfl, h⟩
  · rintro ⟨h, rfl⟩
    split at h
    · cases h
    · rename_i h1
      simp only [Bool.and_eq_true, Bool.or_eq_true, decide_eq_true_eq] at h
      have e1 : (if n % 2 = 1 ∧ target ≠ 0 then p.plain.bytes else []) = (if n % 2 = 1 ∧ target ≠ 0 then q.plain.bytes else []) := by
        rcases h.1 with c | c
        · rw [if_neg (by omega), if_neg (by omega)]
        · rw [c]
      have e2 : (if n / 2 % 2 = 1 then x.hdr else []) = (if n / 2 % 2 = 1 then y.hdr else []) := by
        rcases h.2 with c | c
        · rw [if_neg (by omega), if_neg (by omega)]
        · rw [hdr_same (hdrB_iff.1 c)]
      have e3 : (if n / 4 = 1 then s.hdr else []) = (if n / 4 = 1 then t.hdr else []) := by
        by_cases c : n / 4 = 1
        · have : hdrB s t = true := by
            cases hb : hdrB s t with
            | true => rfl
            | false => exact absurd ⟨c, hb⟩ h1
          rw [hdr_same (hdrB_iff.1 this)]
        · rw [if_neg c, if_neg c]
      rw [e1, e2, e3]
end Go.Proofs.Ytkeabdfgacicaaa


namespace Go.Proofs.Ytkeabdfgacicaaa
open Go.RowKit
set_option linter.unusedVariables false
set_option linter.unusedSimpArgs false

theorem nat_int {a b : Nat} : (a : Int) = (b : Int) ↔ a = b := Int.ofNat_inj
theorem PV.eq_iff (p q : PV) : p = q ↔ p.fl = q.fl ∧ p.crc = q.crc ∧ (p.d.sch = q.d.sch ∧ p.d.name = q.d.name ∧ p.d.node = q.d.node ∧ p.d.svc = q.d.svc) ∧ (p.s.sch = q.s.sch ∧ p.s.name = q.s.name ∧ p.s.node = q.s.node ∧ p.s.svc = q.s.svc) ∧ (p.r.sch = q.r.sch ∧ p.r.name = q.r.name ∧ p.r.node = q.r.node ∧ p.r.svc = q.r.svc) ∧ p.t = q.t ∧ p.q = q.q ∧ p.l = q.l ∧ p.o = q.o ∧ p.n = q.n := by
  obtain ⟨a0, a1, ⟨d0, d1, d2, d3⟩, ⟨s0, s1, s2, s3⟩, ⟨r0, r1, r2, r3⟩, a5, a6, a7, a8, a9⟩ := p
  obtain ⟨b0, b1, ⟨e0, e1, e2, e3⟩, ⟨t0, t1, t2, t3⟩, ⟨u0, u1, u2, u3⟩, b5, b6, b7, b8, b9⟩ := q
  simp only [PV.mk.injEq, EV.mk.injEq]
section
theorem kl_u64 (d : Nat) (n : Nat) (h : n < 18446744073709551616) : Try.prog.keyLits (d + 1) 22 [.int .u64 (n : Int)] = some [.int .u64 (n : Int)] := by
  unfold Program.keyLits
  simp only [Try.underlying22]
  rw [if_pos ⟨trivial, by simp [Lit.wf, IntKind.min, IntKind.max, IntKind.signed, IntKind.bits]; omega⟩]
theorem kl_i64 (d : Nat) (n : Int) (h : -9223372036854775808 ≤ n ∧ n ≤ 9223372036854775807) : Try.prog.keyLits (d + 1) 3 [.int .i64 n] = some [.int .i64 n] := by
  unfold Program.keyLits
  simp only [Try.underlying3]
  rw [if_pos ⟨trivial, by simp [Lit.wf, IntKind.min, IntKind.max, IntKind.signed, IntKind.bits]; omega⟩]
theorem kl_str (d : Nat) (s : List UInt8) (h : s.length < 4611686018427387904) : Try.prog.keyLits (d + 1) 9 [str s] = some [.string s] := by
  unfold Program.keyLits
  simp only [Try.underlying9]
  have : (⟨s.toArray⟩ : ByteArray).size ≤ maxLen := by show s.toArray.size ≤ maxLen; simp [maxLen]; omega
  rw [if_pos this]
theorem kl_eid (d : Nat) (e : EV) (hw : e.wf) (hl : e.name.length < 4611686018427387904) : Try.prog.keyLits (d + 2) 24 [.int .i64 e.sch, str e.name, .int .u64 (e.node : Int), .int .u64 (e.svc : Int)] = some [.int .i64 e.sch, .string e.name, .int .u64 (e.node : Int), .int .u64 (e.svc : Int)] := by
  have k1 : Try.prog.cellsOf 3 = 1 := by kernel_rfl
  have k2 : Try.prog.cellsOf 9 = 1 := by kernel_rfl
  have k3 : Try.prog.cellsOf 22 = 1 := by kernel_rfl
  have k4 : Try.prog.cellsOf 24 = 4 := by kernel_rfl
  unfold Program.keyLits
  simp only [Try.underlying24]
  simp [k1, k2, k3, k4, kl_i64 d _ hw.1, kl_str d _ hl, kl_u64 d _ hw.2.1, kl_u64 d _ hw.2.2]
def PV.lits (p : PV) : List Lit := [.int .u64 p.fl, .int .i64 p.crc, .int .i64 p.d.sch, .string p.d.name, .int .u64 p.d.node, .int .u64 p.d.svc, .int .i64 p.s.sch, .string p.s.name, .int .u64 p.s.node, .int .u64 p.s.svc, .int .i64 p.r.sch, .string p.r.name, .int .u64 p.r.node, .int .u64 p.r.svc, .int .u64 p.t, .int .u64 p.q, .int .u64 p.l, .int .u64 p.o, .int .u64 p.n]
theorem kl_pri (p : PV) (hw : p.wf) (hl : p.d.name.length < 4611686018427387904 ∧ p.s.name.length < 4611686018427387904 ∧ p.r.name.length < 4611686018427387904) : Try.prog.keyLits 10 26 (Value.agg p.c).cells.toList = some p.lits := by
  have k1 : Try.prog.cellsOf 3 = 1 := by kernel_rfl
  have k3 : Try.prog.cellsOf 22 = 1 := by kernel_rfl
  have k4 : Try.prog.cellsOf 24 = 4 := by kernel_rfl
  have k5 : Try.prog.cellsOf 26 = 19 := by kernel_rfl
  obtain ⟨w0, w1, w2, w3, w4, w5, w6, w7, w8, w9⟩ := hw
  have e2 := kl_eid 7 p.d w2 hl.1
  have e3 := kl_eid 7 p.s w3 hl.2.1
  have e4 := kl_eid 7 p.r w4 hl.2.2
  unfold Program.keyLits
  simp only [Try.underlying26]
  simp [k1, k3, k4, k5, e2, e3, e4, kl_i64 8 _ w1, kl_u64 8 _ w0, kl_u64 8 _ w5, kl_u64 8 _ w6, kl_u64 8 _ w7, kl_u64 8 _ w8, kl_u64 8 _ w9, Value.cells, PV.lits]
end
theorem eq_pri_any (p q : PV) (hp : p.wf) (hq : q.wf) (hpl : p.d.name.length < 4611686018427387904 ∧ p.s.name.length < 4611686018427387904 ∧ p.r.name.length < 4611686018427387904) (hql : q.d.name.length < 4611686018427387904 ∧ q.s.name.length < 4611686018427387904 ∧ q.r.name.length < 4611686018427387904) : ∃ r : Bool, (r = true ↔ p = q) ∧ ∀ w, (binOp .eql 26 (.agg p.c) (.agg q.c)).run Try.prog w = .ok (.bool r) w := by
  have hk : Try.prog.keyTypeAt 5 26 = true := by kernel_rfl
  have hf : ∀ p : PV, (Value.agg p.c).formed Try.prog 26 = true := fun p => by kernel_rfl
  have key : ∀ w, ∃ r : Bool, (Op.equalIn (9995 + 5) 26 (.agg p.c) (.agg q.c)).run Try.prog w = .ok r w ∧ (r = true ↔ p = q) := fun w => by
    obtain ⟨r, h1, h2⟩ := run_equalIn_deep 9995 5 26 hk w 10 10 (.agg p.c) (.agg q.c) _ _ (hf p) (hf q) (kl_pri p hp hpl) (kl_pri q hq hql)
    refine ⟨r, h1, h2.trans ?_⟩
    rw [PV.eq_iff]
    simp only [PV.lits, List.cons.injEq, Lit.int.injEq, Lit.string.injEq, nat_int, true_and, and_true]
    constructor
    · rintro ⟨h0, h1, h2, h3, h4, h5, h6, h7, h8, h9, h10, h11, h12, h13, h14, h15, h16, h17, h18⟩; exact ⟨h0, h1, ⟨h2, h3, h4, h5⟩, ⟨h6, h7, h8, h9⟩, ⟨h10, h11, h12, h13⟩, h14, h15, h16, h17, h18⟩
    · rintro ⟨h0, h1, ⟨h2, h3, h4, h5⟩, ⟨h6, h7, h8, h9⟩, ⟨h10, h11, h12, h13⟩, h14, h15, h16, h17, h18⟩; exact ⟨h0, h1, h2, h3, h4, h5, h6, h7, h8, h9, h10, h11, h12, h13, h14, h15, h16, h17, h18⟩
  have run : ∀ (r : Bool) w, (Op.equalIn (9995 + 5) 26 (.agg p.c) (.agg q.c)).run Try.prog w = .ok r w → (binOp .eql 26 (.agg p.c) (.agg q.c)).run Try.prog w = .ok (.bool r) w := fun r w h => by
    simp only [binOp]
    simp [Op.equal, Op.maxDepth, h]
  by_cases e : p = q
  · refine ⟨true, by simp [e], fun w => ?_⟩
    obtain ⟨r, h1, h2⟩ := key w
    have : r = true := h2.2 e
    subst this
    exact run _ w h1
  · refine ⟨false, by simp [e], fun w => ?_⟩
    obtain ⟨r, h1, h2⟩ := key w
    have : r = false := by cases r with | false => rfl | true => exact absurd (h2.1 rfl) e
    subst this
    exact run _ w h1
end Go.Proofs.Ytkeabdfgacicaaa


namespace Go.Proofs.Ytkeabdfgacicaaa
open Go.RowKit
set_option linter.unusedVariables false
set_option linter.unusedSimpArgs false

theorem yieldsIf_mid {P : Program} {ops : Array Oper} {S : World → Prop} {op : Oper} {a : Act} (hw : Region.wanted op (yielded ops a.tmps) = true) (ty : TypeId) (x : Operand) (ho : op.op = .load ty x) (b o : Nat) (hx : a.eval x = .pointer (some ⟨b, o, none⟩))
    (cs : List Value) {d : TypeDesc} (hS : ∀ w, S w → w.rangeAt b o cs) (hu : P.underlying ty = some d) (hd : d.isRow = true)
    (hi : (P.info? ty).map (·.size) = some cs.length) : YieldsIf P ops S op (.agg cs.toArray) a :=
  .inl ⟨hw, fun w hw' => by
    unfold execOp
    simp only [ho, hx, Instr.loadAt, Instr.sureAddr, Sem.run_bind, Sem.run_pure, Result.andThen_ok, run_loadVar_mid w b o ty cs d (hS w hw') hu hd hi]⟩
theorem Blk.rangeE {w W : World} {g : Nat} {t : TypeId} {cs : Array Value} (h : Blk w g t cs) (hW : Ext w W) (o n : Nat) {l : List Value} (hl : (cs.extract o (o + n)).toList = l) : W.rangeAt g o l := hl ▸ World.rangeAt_of_block (h.ext hW) o n
end Go.Proofs.Ytkeabdfgacicaaa


namespace Go.Proofs.Ytkeabdfgacicaaa
open Go.RowKit
set_option linter.unusedVariables false
set_option linter.unusedSimpArgs false

abbrev secC (s t : BV) : Array Value := #[.int .i64 s.ty, .int .i64 s.num, .int .u64 (s.fl : Int), .int .i64 s.crc, str s.data, .int .i64 t.ty, .int .i64 t.num, .int .u64 (t.fl : Int), .int .i64 t.crc, str t.data]
set_option maxRecDepth 20000 in
theorem header16_any (x y : BV) (w : World) : Calls Try.prog 34 #[x.v, y.v] w (Ret (.bool (hdrB x y)) w) := by
  have HE := hid (((Mod.refl [] w).alloc (.cells (BV.c x) 32)).alloc (.cells (BV.c y) 32))
  have HB0 : Hid (Blk ((w.alloc (.cells (BV.c x) 32)).alloc (.cells (BV.c y) 32)) w.heap.size 32 (BV.c x)) := hid ((Blk.new w 32 (BV.c x)).alloc (.cells (BV.c y) 32))
  have HB1 : Hid (Blk ((w.alloc (.cells (BV.c x) 32)).alloc (.cells (BV.c y) 32)) (w.heap.size + 1) 32 (BV.c y)) := by unfold Hid; exact Blk.newL _ _ _ (by simp)
  by_cases h0 : x.ty = y.ty
  case neg =>
    have HR : Hid (hdrB x y = false) := hid (by unfold hdrB; simp [h0])
    have taa : ((x.ty) == (y.ty)) = false := by rw [beq_eq_false_iff_ne]; exact h0
    have tab : ((x.ty) = (y.ty)) = False := eq_false (by exact h0)
    have tac : ((x.ty) != (y.ty)) = true := by rw [bne_iff_ne]; exact h0
    clear h0
    go_enter Try.func34, Try.ntmps34
    go_upto_region 1 with fail
    generalize ((w.alloc (.cells (BV.c x) 32)).alloc (.cells (BV.c y) 32)) = V at *
    have q00 : ∀ e : Later V, e.x.cell? ⟨w.heap.size, 0, none⟩ = some (.int .i64 x.ty) := HB0.out.cellL 0 rfl
    have q01 : ∀ e : Later V, e.x.cell? ⟨w.heap.size, 1, none⟩ = some (.int .i64 x.num) := HB0.out.cellL 1 rfl
    have q02 : ∀ e : Later V, e.x.cell? ⟨w.heap.size, 2, none⟩ = some (.int .u64 (x.fl : Int)) := HB0.out.cellL 2 rfl
    have q10 : ∀ e : Later V, e.x.cell? ⟨w.heap.size + 1, 0, none⟩ = some (.int .i64 y.ty) := HB1.out.cellL 0 rfl
    have q11 : ∀ e : Later V, e.x.cell? ⟨w.heap.size + 1, 1, none⟩ = some (.int .i64 y.num) := HB1.out.cellL 1 rfl
    have q12 : ∀ e : Later V, e.x.cell? ⟨w.heap.size + 1, 2, none⟩ = some (.int .u64 (y.fl : Int)) := HB1.out.cellL 2 rfl
    obtain ⟨e, he⟩ := Later.self V
    rw [he]
    clear he
    go_wp2_with fail
    go_ret
    exact Ret.mk (by rw [HR.out]; rfl) (HE.out.trans e.h)
  have taa : ((x.ty) == (y.ty)) = true := by rw [beq_iff_eq]; exact h0
  have tab : ((x.ty) = (y.ty)) = True := eq_true (by exact h0)
  have tac : ((x.ty) != (y.ty)) = false := by rw [bne_eq_false_iff_eq]; exact h0
  by_cases h1 : x.num = y.num
  case neg =>
    have HR : Hid (hdrB x y = false) := hid (by unfold hdrB; simp [h1])
    have tba : ((x.num) == (y.num)) = false := by rw [beq_eq_false_iff_ne]; exact h1
    have tbb : ((x.num) = (y.num)) = False := eq_false (by exact h1)
    have tbc : ((x.num) != (y.num)) = true := by rw [bne_iff_ne]; exact h1
    clear h0 h1
    go_enter Try.func34, Try.ntmps34
    go_upto_region 1 with fail
    generalize ((w.alloc (.cells (BV.c x) 32)).alloc (.cells (BV.c y) 32)) = V at *
    have q00 : ∀ e : Later V, e.x.cell? ⟨w.heap.size, 0, none⟩ = some (.int .i64 x.ty) := HB0.out.cellL 0 rfl
    have q01 : ∀ e : Later V, e.x.cell? ⟨w.heap.size, 1, none⟩ = some (.int .i64 x.num) := HB0.out.cellL 1 rfl
    have q02 : ∀ e : Later V, e.x.cell? ⟨w.heap.size, 2, none⟩ = some (.int .u64 (x.fl : Int)) := HB0.out.cellL 2 rfl
    have q10 : ∀ e : Later V, e.x.cell? ⟨w.heap.size + 1, 0, none⟩ = some (.int .i64 y.ty) := HB1.out.cellL 0 rfl
    have q11 : ∀ e : Later V, e.x.cell? ⟨w.heap.size + 1, 1, none⟩ = some (.int .i64 y.num) := HB1.out.cellL 1 rfl
    have q12 : ∀ e : Later V, e.x.cell? ⟨w.heap.size + 1, 2, none⟩ = some (.int .u64 (y.fl : Int)) := HB1.out.cellL 2 rfl
    obtain ⟨e, he⟩ := Later.self V
    rw [he]
    clear he
    go_wp2_with fail
    go_ret
    exact Ret.mk (by rw [HR.out]; rfl) (HE.out.trans e.h)
  have tba : ((x.num) == (y.num)) = true := by rw [beq_iff_eq]; exact h1
  have tbb : ((x.num) = (y.num)) = True := eq_true (by exact h1)
  have tbc : ((x.num) != (y.num)) = false := by rw [bne_eq_false_iff_eq]; exact h1
  by_cases h2 : x.fl = y.fl
  case neg =>
    have HR : Hid (hdrB x y = false) := hid (by unfold hdrB; simp [h2])
    have tca : (((x.fl : Int)) == ((y.fl : Int))) = false := by rw [beq_eq_false_iff_ne]; omega
    have tcb : (((x.fl : Int)) = ((y.fl : Int))) = False := eq_false (by omega)
    have tcc : (((x.fl : Int)) != ((y.fl : Int))) = true := by rw [bne_iff_ne]; omega
    have tda : ((x.fl) == (y.fl)) = false := by rw [beq_eq_false_iff_ne]; omega
    have tdb : ((x.fl) = (y.fl)) = False := eq_false (by omega)
    have tdc : ((x.fl) != (y.fl)) = true := by rw [bne_iff_ne]; omega
    clear h0 h1 h2
    go_enter Try.func34, Try.ntmps34
    go_upto_region 1 with fail
    generalize ((w.alloc (.cells (BV.c x) 32)).alloc (.cells (BV.c y) 32)) = V at *
    have q00 : ∀ e : Later V, e.x.cell? ⟨w.heap.size, 0, none⟩ = some (.int .i64 x.ty) := HB0.out.cellL 0 rfl
    have q01 : ∀ e : Later V, e.x.cell? ⟨w.heap.size, 1, none⟩ = some (.int .i64 x.num) := HB0.out.cellL 1 rfl
    have q02 : ∀ e : Later V, e.x.cell? ⟨w.heap.size, 2, none⟩ = some (.int .u64 (x.fl : Int)) := HB0.out.cellL 2 rfl
    have q10 : ∀ e : Later V, e.x.cell? ⟨w.heap.size + 1, 0, none⟩ = some (.int .i64 y.ty) := HB1.out.cellL 0 rfl
    have q11 : ∀ e : Later V, e.x.cell? ⟨w.heap.size + 1, 1, none⟩ = some (.int .i64 y.num) := HB1.out.cellL 1 rfl
    have q12 : ∀ e : Later V, e.x.cell? ⟨w.heap.size + 1, 2, none⟩ = some (.int .u64 (y.fl : Int)) := HB1.out.cellL 2 rfl
    obtain ⟨e, he⟩ := Later.self V
    rw [he]
    clear he
    go_wp2_with fail
    go_ret
    exact Ret.mk (by rw [HR.out]; rfl) (HE.out.trans e.h)
  have HR : Hid (hdrB x y = true) := hid (by unfold hdrB; simp [h0, h1, h2])
  have tca : (((x.fl : Int)) == ((y.fl : Int))) = true := by rw [beq_iff_eq]; omega
  have tcb : (((x.fl : Int)) = ((y.fl : Int))) = True := eq_true (by omega)
  have tcc : (((x.fl : Int)) != ((y.fl : Int))) = false := by rw [bne_eq_false_iff_eq]; omega
  have tda : ((x.fl) == (y.fl)) = true := by rw [beq_iff_eq]; omega
  have tdb : ((x.fl) = (y.fl)) = True := eq_true (by omega)
  have tdc : ((x.fl) != (y.fl)) = false := by rw [bne_eq_false_iff_eq]; omega
  clear h0 h1 h2
  go_enter Try.func34, Try.ntmps34
  go_upto_region 1 with fail
  generalize ((w.alloc (.cells (BV.c x) 32)).alloc (.cells (BV.c y) 32)) = V at *
  have q00 : ∀ e : Later V, e.x.cell? ⟨w.heap.size, 0, none⟩ = some (.int .i64 x.ty) := HB0.out.cellL 0 rfl
  have q01 : ∀ e : Later V, e.x.cell? ⟨w.heap.size, 1, none⟩ = some (.int .i64 x.num) := HB0.out.cellL 1 rfl
  have q02 : ∀ e : Later V, e.x.cell? ⟨w.heap.size, 2, none⟩ = some (.int .u64 (x.fl : Int)) := HB0.out.cellL 2 rfl
  have q10 : ∀ e : Later V, e.x.cell? ⟨w.heap.size + 1, 0, none⟩ = some (.int .i64 y.ty) := HB1.out.cellL 0 rfl
  have q11 : ∀ e : Later V, e.x.cell? ⟨w.heap.size + 1, 1, none⟩ = some (.int .i64 y.num) := HB1.out.cellL 1 rfl
  have q12 : ∀ e : Later V, e.x.cell? ⟨w.heap.size + 1, 2, none⟩ = some (.int .u64 (y.fl : Int)) := HB1.out.cellL 2 rfl
  obtain ⟨e, he⟩ := Later.self V
  rw [he]
  clear he
  go_wp2_with fail
  go_ret
  exact Ret.mk (by rw [HR.out]; rfl) (HE.out.trans e.h)
set_option maxRecDepth 20000 in
theorem data16_0 (p : PV) (A : Option Addr) (k c : Nat) (w : World) : Calls Try.prog 14 #[bunV p A k c, .int .i64 0] w (Ret (str []) w) := by
  have HE := hid ((Mod.refl [] w).alloc (.cells (bunC p A k c) 29))
  have HB0 : Hid (Blk (w.alloc (.cells (bunC p A k c) 29)) w.heap.size 29 (bunC p A k c)) := hid (Blk.new w 29 (bunC p A k c))
  go_enter Try.func14, Try.ntmps14
  go_upto_region 1 with fail
  generalize (w.alloc (.cells (bunC p A k c) 29)) = V at *
  obtain ⟨e, he⟩ := Later.self V
  rw [he]
  clear he
  go_wp2_with fail
  go_ret
  exact Ret.mk rfl (HE.out.trans e.h)
set_option maxRecDepth 20000 in
set_option maxHeartbeats 800000 in
theorem data16_t (p : PV) (bs : Nat → BV) (k c : Nat) (A : Option Addr) (target : Int) (ht : target ≠ 0) (i : Nat) (hi : firstOf (numB bs target) k = some i) (hk : k < 4611686018427387904) (w : World) (h : BsL w A k bs) : Calls Try.prog 14 #[bunV p A k c, .int .i64 target] w (Ret (str (bs i).data) w) := by
  have hlt := (firstOf_spec hi).1
  have KA := hid (fun W (hW : BsL W A k bs) => At13_any p bs k c A target hk W hW)
  unfold firstI at KA
  rw [hi] at KA
  have HE := hid ((Mod.refl [] w).alloc (.cells (bunC p A k c) 29))
  have HB0 : Hid (Blk (w.alloc (.cells (bunC p A k c) 29)) w.heap.size 29 (bunC p A k c)) := hid (Blk.new w 29 (bunC p A k c))
  have HL := hid (BsL.ext h HE.out)
  obtain ⟨b, o, rfl, hb, q0, q1, q2, q3, q4⟩ := HL.out.cells hlt
  have taa : ((target) == (0)) = false := by rw [beq_eq_false_iff_ne]; exact ht
  have tab : ((target) = (0)) = False := eq_false (by exact ht)
  have tac : ((target) != (0)) = true := by rw [bne_iff_ne]; exact ht
  have i0 : (0 : Int) ≤ (i : Int) := by omega
  have i1 : (i : Int) < (k : Int) := by omega
  have i2 : (k : Int) < 4611686018427387904 := by omega
  clear hi hk h hb q0 q1 q2 q3 ht hlt
  go_enter Try.func14, Try.ntmps14
  go_upto_region 1 with fail
  generalize (w.alloc (.cells (bunC p (some ⟨b, o, none⟩) k c) 29)) = V at *
  have b19 : ∀ e : Later V, e.x.cell? ⟨w.heap.size, 19, none⟩ = some (.slice (some ⟨b, o, none⟩) k c) := HB0.out.cellL 19 rfl
  obtain ⟨e, he⟩ := Later.self V
  rw [he]
  clear he
  go_upto_region 3 with fail
  refine wp_region_later (by kernel_rfl) (by kernel_rfl) ?_
  repeat (first | (refine later_row (by rfl) 29 _ rfl _ rfl (HB0.out.later) Try.underlying29 rfl (by kernel_rfl) ?_; simp only [Act.put, List.setIfInBounds_toArray, List.set_cons_zero, List.set_cons_succ]) | go_big_quiet_step ((first | (go_at_call 12; exact Ret.later (KA.out _ (HL.out.ext (Later.h _)))))))
  refine wpQuiet_nil ?_
  rintro _ ⟨e, rfl⟩
  go_wp2_with fail
  go_ret
  exact Ret.mk rfl (HE.out.trans e.h)
theorem BsL.mod2 {w W W' : World} {A : Option Addr} {k : Nat} {bs : Nat → BV} {N M : Nat} (h : BsL w A k bs) (h1 : Ext w W) (h2 : Mod [N, M] W W') (hN : w.heap.size ≤ N) (hM : w.heap.size ≤ M) : BsL W' A k bs := fun hn => by
  obtain ⟨b, o, hA, hb, hc⟩ := h hn
  refine ⟨b, o, hA, Nat.lt_of_lt_of_le hb (Nat.le_trans h1.size h2.size), fun j hj => ?_⟩
  have hc1 := hc j hj
  have hm : Mod [N, M] w W' := h1.of_ext.trans h2
  exact hc1.mod hm hb (by simp; omega)
set_option maxRecDepth 20000 in
set_option maxHeartbeats 8000000 in
theorem covered_any (p q : PV) (bs ds : Nat → BV) (k m c d : Nat) (A B : Option Addr) (s t x y : BV) (target : Int) (n : Nat) (hn : n < 8) (hp : p.wf) (hq : q.wf) (hpl : p.d.name.length < 4611686018427387904 ∧ p.s.name.length < 4611686018427387904 ∧ p.r.name.length < 4611686018427387904) (hql : q.d.name.length < 4611686018427387904 ∧ q.s.name.length < 4611686018427387904 ∧ q.r.name.length < 4611686018427387904) (hk : k < 4611686018427387904) (hm : m < 4611686018427387904)
    (hx : target ≠ 0 → ∃ i, firstOf (numB bs target) k = some i ∧ bs i = x) (hy : target ≠ 0 → ∃ i, firstOf (numB ds target) m = some i ∧ ds i = y) (w : World) (h1 : BsL w A k bs) (h2 : BsL w B m ds) :
    Calls Try.prog 13 #[bunV p A k c, bunV q B m d, .agg (secC s t), .agg #[.int .i64 target, .int .i64 (n : Int)]] w (Ret (.bool (covB p q x y s t target n)) w) := by
  obtain ⟨r, hr, hEQ⟩ := eq_pri_any p.plain q.plain ⟨hp.1, ⟨by show (-9223372036854775808 : Int) ≤ 0; decide, by show (0 : Int) ≤ 9223372036854775807; decide⟩, hp.2.2⟩ ⟨hq.1, ⟨by show (-9223372036854775808 : Int) ≤ 0; decide, by show (0 : Int) ≤ 9223372036854775807; decide⟩, hq.2.2⟩ hpl hql
  have hr' : decide (p.plain = q.plain) = r := by
    by_cases e : p.plain = q.plain
    · rw [decide_eq_true e, hr.2 e]
    · rw [decide_eq_false e]; cases r with | false => rfl | true => exact absurd (hr.1 rfl) e
  have HCB : Hid (covB p q x y s t target n = if n / 4 = 1 ∧ hdrB s t = false then false else if target = 0 then r else (decide (n % 2 = 0) || r) && (decide (n / 2 % 2 = 0) || hdrB x y)) := hid (by unfold covB; rw [hr'])
  generalize covB p q x y s t target n = CB at *
  have HEQ := hid hEQ
  have KH := hid (fun W => header16_any s t W)
  have KXY := hid (fun W => header16_any x y W)
  have KA1 := hid (fun W (hW : BsL W A k bs) => At13_any p bs k c A target hk W hW)
  have KA2 := hid (fun W (hW : BsL W B m ds) => At13_any q ds m d B target hm W hW)
  have HX := hid hx
  have HY := hid hy
  have HN := hid hn
  have HE := hid (((((Mod.refl [] w).alloc (.cells (bunC p A k c) 29)).alloc (.cells (bunC q B m d) 29)).alloc (.cells (secC s t) 33)).alloc (.cells #[.int .i64 target, .int .i64 (n : Int)] 35))
  have HB0 : Hid (Blk ((((w.alloc (.cells (bunC p A k c) 29)).alloc (.cells (bunC q B m d) 29)).alloc (.cells (secC s t) 33)).alloc (.cells #[.int .i64 target, .int .i64 (n : Int)] 35)) w.heap.size 29 (bunC p A k c)) := hid ((((Blk.new w 29 (bunC p A k c)).alloc (.cells (bunC q B m d) 29)).alloc (.cells (secC s t) 33)).alloc (.cells #[.int .i64 target, .int .i64 (n : Int)] 35))
  have HB1 : Hid (Blk ((((w.alloc (.cells (bunC p A k c) 29)).alloc (.cells (bunC q B m d) 29)).alloc (.cells (secC s t) 33)).alloc (.cells #[.int .i64 target, .int .i64 (n : Int)] 35)) (w.heap.size + 1) 29 (bunC q B m d)) := by unfold Hid; have := (Blk.newL (N := (w.heap.size + 1)) (w.alloc (.cells (bunC p A k c) 29)) 29 (bunC q B m d) (by simp)); exact ((this.alloc (.cells (secC s t) 33)).alloc (.cells #[.int .i64 target, .int .i64 (n : Int)] 35))
  have HB2 : Hid (Blk ((((w.alloc (.cells (bunC p A k c) 29)).alloc (.cells (bunC q B m d) 29)).alloc (.cells (secC s t) 33)).alloc (.cells #[.int .i64 target, .int .i64 (n : Int)] 35)) (w.heap.size + 1 + 1) 33 (secC s t)) := by unfold Hid; have := (Blk.newL (N := (w.heap.size + 1 + 1)) ((w.alloc (.cells (bunC p A k c) 29)).alloc (.cells (bunC q B m d) 29)) 33 (secC s t) (by simp)); exact (this.alloc (.cells #[.int .i64 target, .int .i64 (n : Int)] 35))
  have HB3 : Hid (Blk ((((w.alloc (.cells (bunC p A k c) 29)).alloc (.cells (bunC q B m d) 29)).alloc (.cells (secC s t) 33)).alloc (.cells #[.int .i64 target, .int .i64 (n : Int)] 35)) (w.heap.size + 1 + 1 + 1) 35 #[.int .i64 target, .int .i64 (n : Int)]) := by unfold Hid; exact Blk.newL _ _ _ (by simp)
  have HL1 := hid (BsL.ext h1 HE.out)
  have HL2 := hid (BsL.ext h2 HE.out)
  have HK := hid hk
  have HMM := hid hm
  clear hr hr' hEQ hp hq hpl hql hk hm hx hy h1 h2 hn
  go_enter Try.func13, Try.ntmps13
  go_upto_region 1 with fail
  generalize ((((w.alloc (.cells (bunC p A k c) 29)).alloc (.cells (bunC q B m d) 29)).alloc (.cells (secC s t) 33)).alloc (.cells #[.int .i64 target, .int .i64 (n : Int)] 35)) = V at *
  obtain ⟨e, he⟩ := Later.self V
  rw [he]
  clear he
  go_cut [9, 10] (fun s9 s10 wx => ∃ N M, s9 = .pointer (some ⟨N, 0, none⟩) ∧ s10 = .pointer (some ⟨M, 0, none⟩) ∧ Hid (Ext V wx ∧ Blk wx N 26 p.c ∧ Blk wx M 26 q.c ∧ V.heap.size ≤ N ∧ V.heap.size ≤ M ∧ N ≠ M))
  case first =>
    refine wp_region_held_drew (S := fun w' => Ext V w') (by kernel_rfl) (Later.h e).drew (fun hHeld => ?_)
    generalize e.x.drew = u0 at *
    clear e
    refine' wpAnyH_take (i := 0) (v := _) rfl (by kernel_rfl) (by kernel_rfl) (by kernel_rfl) (fun _ _ _ h => h) (Or.inl ⟨by rfl, ?hy1⟩) hHeld ?rest1
    case hy1 => (rintro W hM; go_simp; (try with_reducible rfl))
    case rest1 =>
    (try simp only [Act.put, List.getElem_toArray, List.getElem_cons_zero, List.getElem_cons_succ, List.setIfInBounds_toArray, List.set_cons_zero, List.set_cons_succ])
    refine wpAnyH_take (i := 1) rfl (by kernel_rfl) (by kernel_rfl) (by kernel_rfl) (fun _ _ _ h => h) (yieldsIf_mid (by rfl) 26 _ rfl w.heap.size 0 rfl p.c.toList (fun W h => HB0.out.rangeE h 0 19 (by rw [Array.toList_extract]; rfl)) Try.underlying26 rfl (by kernel_rfl)) hHeld ?_
    (try simp only [Act.put, List.getElem_toArray, List.getElem_cons_zero, List.getElem_cons_succ, List.setIfInBounds_toArray, List.set_cons_zero, List.set_cons_succ])
    refine' wpAnyH_take (i := 2) (v := _) rfl (by kernel_rfl) (by kernel_rfl) (by kernel_rfl) (fun _ _ _ h => h) (Or.inl ⟨by rfl, ?hy2⟩) hHeld ?rest2
    case hy2 => (rintro W hM; go_simp; (try with_reducible rfl))
    case rest2 =>
    (try simp only [Act.put, List.getElem_toArray, List.getElem_cons_zero, List.getElem_cons_succ, List.setIfInBounds_toArray, List.set_cons_zero, List.set_cons_succ])
    refine wpAnyH_take (i := 3) rfl (by kernel_rfl) (by kernel_rfl) (by kernel_rfl) (fun _ _ _ h => h) (yieldsIf_mid (by rfl) 26 _ rfl (w.heap.size + 1) 0 rfl q.c.toList (fun W h => HB1.out.rangeE h 0 19 (by rw [Array.toList_extract]; rfl)) Try.underlying26 rfl (by kernel_rfl)) hHeld ?_
    (try simp only [Act.put, List.getElem_toArray, List.getElem_cons_zero, List.getElem_cons_succ, List.setIfInBounds_toArray, List.set_cons_zero, List.set_cons_succ])
    refine wpAnyH_ready (rs := [4, 5]) (by kernel_rfl) (by simp) ?_
    refine AllReadyH.cons rfl (fun K hK => ?_) (AllReadyH.cons rfl (fun K hK => ?_) AllReadyH.nil)
    · go_simp
      generalize hV : World.alloc u0 _ = y1
      have h9 : Blk y1 u0.heap.size 26 #[.int .u64 0, .int .i64 0, .int .i64 0, .string ⟨#[]⟩, .int .u64 0, .int .u64 0, .int .i64 0, .string ⟨#[]⟩, .int .u64 0, .int .u64 0, .int .i64 0, .string ⟨#[]⟩, .int .u64 0, .int .u64 0, .int .u64 0, .int .u64 0, .int .u64 0, .int .u64 0, .int .u64 0] := by rw [← hV]; exact Blk.new _ _ _
      have hXX : Ext u0 y1 := by rw [← hV]; exact (Mod.refl [] _).alloc _
      have h9_n : V.heap.size ≤ u0.heap.size := hHeld.size
      clear hV
      refine hK.out _ _ (hHeld.trans hXX) (fun hHeld => ?_)
      clear hK K
      (try simp only [Act.put, List.getElem_toArray, List.getElem_cons_zero, List.getElem_cons_succ, List.setIfInBounds_toArray, List.set_cons_zero, List.set_cons_succ])
      have hlt : u0.heap.size < y1.heap.size := h9.lt
      refine wpAnyH_ready (rs := [5]) (by kernel_rfl) (by simp) ?_
      refine AllReadyH.cons rfl (fun K hK => ?_) AllReadyH.nil
      go_simp
      generalize hV : World.alloc y1 _ = y2
      have h10 : Blk y2 y1.heap.size 26 #[.int .u64 0, .int .i64 0, .int .i64 0, .string ⟨#[]⟩, .int .u64 0, .int .u64 0, .int .i64 0, .string ⟨#[]⟩, .int .u64 0, .int .u64 0, .int .i64 0, .string ⟨#[]⟩, .int .u64 0, .int .u64 0, .int .u64 0, .int .u64 0, .int .u64 0, .int .u64 0, .int .u64 0] := by rw [← hV]; exact Blk.new _ _ _
      have hXX : Ext y1 y2 := by rw [← hV]; exact (Mod.refl [] _).alloc _
      have h10_n : V.heap.size ≤ y1.heap.size := hHeld.size
      clear hV
      have h9 := h9.ext hXX
      refine hK.out _ _ (hHeld.trans hXX) (fun hHeld => ?_)
      clear hK K
      (try simp only [Act.put, List.getElem_toArray, List.getElem_cons_zero, List.getElem_cons_succ, List.setIfInBounds_toArray, List.set_cons_zero, List.set_cons_succ])
      refine wpAnyH_ready (rs := [6]) (by kernel_rfl) (by simp) ?_
      refine AllReadyH.cons rfl (fun K hK => ?_) AllReadyH.nil
      refine wp_store_mid 26 _ _ rfl u0.heap.size 0 p.c (by rfl) (by rfl) (h9.there (Nat.le_refl 19)) (by kernel_rfl) (by simp [Value.oneCell']) ?_
      have hZB := setCells_all (ds := p.c) h9 rfl
      have hZM := setCells_mod (b := u0.heap.size) (p.c : Array Value).toList 0 hHeld (.inr h9_n)
      have hZO := setCells_mod (w := y2) (W := y2) (S := [u0.heap.size]) (b := u0.heap.size) (p.c : Array Value).toList 0 (Mod.refl _ _) (.inl (by simp))
      generalize hZ : World.setCells _ u0.heap.size 0 _ = y3 at *
      clear hZ
      have h10 := h10.mod hZO (by simpa using Nat.ne_of_gt hlt)
      have h9 := hZB
      refine hK.out _ _ hZM (fun hHeld => ?_)
      clear hK K hZB hZM hZO
      (try simp only [Act.put, List.getElem_toArray, List.getElem_cons_zero, List.getElem_cons_succ, List.setIfInBounds_toArray, List.set_cons_zero, List.set_cons_succ])
      refine wpAnyH_ready (rs := [7]) (by kernel_rfl) (by simp) ?_
      refine AllReadyH.cons rfl (fun K hK => ?_) AllReadyH.nil
      refine wp_store_mid 26 _ _ rfl y1.heap.size 0 q.c (by rfl) (by rfl) (h10.there (Nat.le_refl 19)) (by kernel_rfl) (by simp [Value.oneCell']) ?_
      have hZB := setCells_all (ds := q.c) h10 rfl
      have hZM := setCells_mod (b := y1.heap.size) (q.c : Array Value).toList 0 hHeld (.inr h10_n)
      have hZO := setCells_mod (w := y3) (W := y3) (S := [y1.heap.size]) (b := y1.heap.size) (q.c : Array Value).toList 0 (Mod.refl _ _) (.inl (by simp))
      generalize hZ : World.setCells _ y1.heap.size 0 _ = y4 at *
      clear hZ
      have h9 := h9.mod hZO (by simpa using Nat.ne_of_lt hlt)
      have h10 := hZB
      refine hK.out _ _ hZM (fun hHeld => ?_)
      clear hK K hZB hZM hZO
      (try simp only [Act.put, List.getElem_toArray, List.getElem_cons_zero, List.getElem_cons_succ, List.setIfInBounds_toArray, List.set_cons_zero, List.set_cons_succ])
      refine wpAnyH_done (by kernel_rfl) ?_ _
      go_wp2_with fail
      go_meet
      exact ⟨_, _, rfl, rfl, hHeld, h9, h10, h9_n, h10_n, Nat.ne_of_lt hlt⟩
    · go_simp
      generalize hV : World.alloc u0 _ = y1
      have h10 : Blk y1 u0.heap.size 26 #[.int .u64 0, .int .i64 0, .int .i64 0, .string ⟨#[]⟩, .int .u64 0, .int .u64 0, .int .i64 0, .string ⟨#[]⟩, .int .u64 0, .int .u64 0, .int .i64 0, .string ⟨#[]⟩, .int .u64 0, .int .u64 0, .int .u64 0, .int .u64 0, .int .u64 0, .int .u64 0, .int .u64 0] := by rw [← hV]; exact Blk.new _ _ _
      have hXX : Ext u0 y1 := by rw [← hV]; exact (Mod.refl [] _).alloc _
      have h10_n : V.heap.size ≤ u0.heap.size := hHeld.size
      clear hV
      refine hK.out _ _ (hHeld.trans hXX) (fun hHeld => ?_)
      clear hK K
      (try simp only [Act.put, List.getElem_toArray, List.getElem_cons_zero, List.getElem_cons_succ, List.setIfInBounds_toArray, List.set_cons_zero, List.set_cons_succ])
      have hlt : u0.heap.size < y1.heap.size := h10.lt
      refine wpAnyH_ready (rs := [4]) (by kernel_rfl) (by simp) ?_
      refine AllReadyH.cons rfl (fun K hK => ?_) AllReadyH.nil
      go_simp
      generalize hV : World.alloc y1 _ = y2
      have h9 : Blk y2 y1.heap.size 26 #[.int .u64 0, .int .i64 0, .int .i64 0, .string ⟨#[]⟩, .int .u64 0, .int .u64 0, .int .i64 0, .string ⟨#[]⟩, .int .u64 0, .int .u64 0, .int .i64 0, .string ⟨#[]⟩, .int .u64 0, .int .u64 0, .int .u64 0, .int .u64 0, .int .u64 0, .int .u64 0, .int .u64 0] := by rw [← hV]; exact Blk.new _ _ _
      have hXX : Ext y1 y2 := by rw [← hV]; exact (Mod.refl [] _).alloc _
      have h9_n : V.heap.size ≤ y1.heap.size := hHeld.size
      clear hV
      have h10 := h10.ext hXX
      refine hK.out _ _ (hHeld.trans hXX) (fun hHeld => ?_)
      clear hK K
      (try simp only [Act.put, List.getElem_toArray, List.getElem_cons_zero, List.getElem_cons_succ, List.setIfInBounds_toArray, List.set_cons_zero, List.set_cons_succ])
      refine wpAnyH_ready (rs := [6]) (by kernel_rfl) (by simp) ?_
      refine AllReadyH.cons rfl (fun K hK => ?_) AllReadyH.nil
      refine wp_store_mid 26 _ _ rfl y1.heap.size 0 p.c (by rfl) (by rfl) (h9.there (Nat.le_refl 19)) (by kernel_rfl) (by simp [Value.oneCell']) ?_
      have hZB := setCells_all (ds := p.c) h9 rfl
      have hZM := setCells_mod (b := y1.heap.size) (p.c : Array Value).toList 0 hHeld (.inr h9_n)
      have hZO := setCells_mod (w := y2) (W := y2) (S := [y1.heap.size]) (b := y1.heap.size) (p.c : Array Value).toList 0 (Mod.refl _ _) (.inl (by simp))
      generalize hZ : World.setCells _ y1.heap.size 0 _ = y3 at *
      clear hZ
      have h10 := h10.mod hZO (by simpa using Nat.ne_of_lt hlt)
      have h9 := hZB
      refine hK.out _ _ hZM (fun hHeld => ?_)
      clear hK K hZB hZM hZO
      (try simp only [Act.put, List.getElem_toArray, List.getElem_cons_zero, List.getElem_cons_succ, List.setIfInBounds_toArray, List.set_cons_zero, List.set_cons_succ])
      refine wpAnyH_ready (rs := [7]) (by kernel_rfl) (by simp) ?_
      refine AllReadyH.cons rfl (fun K hK => ?_) AllReadyH.nil
      refine wp_store_mid 26 _ _ rfl u0.heap.size 0 q.c (by rfl) (by rfl) (h10.there (Nat.le_refl 19)) (by kernel_rfl) (by simp [Value.oneCell']) ?_
      have hZB := setCells_all (ds := q.c) h10 rfl
      have hZM := setCells_mod (b := u0.heap.size) (q.c : Array Value).toList 0 hHeld (.inr h10_n)
      have hZO := setCells_mod (w := y3) (W := y3) (S := [u0.heap.size]) (b := u0.heap.size) (q.c : Array Value).toList 0 (Mod.refl _ _) (.inl (by simp))
      generalize hZ : World.setCells _ u0.heap.size 0 _ = y4 at *
      clear hZ
      have h9 := h9.mod hZO (by simpa using Nat.ne_of_gt hlt)
      have h10 := hZB
      refine hK.out _ _ hZM (fun hHeld => ?_)
      clear hK K hZB hZM hZO
      (try simp only [Act.put, List.getElem_toArray, List.getElem_cons_zero, List.getElem_cons_succ, List.setIfInBounds_toArray, List.set_cons_zero, List.set_cons_succ])
      refine wpAnyH_done (by kernel_rfl) ?_ _
      go_wp2_with fail
      go_meet
      exact ⟨_, _, rfl, rfl, hHeld, h9, h10, h9_n, h10_n, Nat.ne_of_gt hlt⟩
  obtain ⟨N, M, rfl, rfl, hG⟩ := hcut
  have BN := hid hG.out.2.1
  have BM := hid hG.out.2.2.1
  have HNM := hid hG.out.2.2.2.2.2
  have HNS : Hid (w.heap.size + 4 ≤ N ∧ w.heap.size + 4 ≤ M) := hid (by have a := HB3.out.lt; have b := hG.out.2.2.2; exact ⟨Nat.le_trans (Nat.succ_le_of_lt a) b.1, Nat.le_trans (Nat.succ_le_of_lt a) b.2.1⟩)
  have HB0 := hid (HB0.out.ext hG.out.1)
  have HB1 := hid (HB1.out.ext hG.out.1)
  have HB2 := hid (HB2.out.ext hG.out.1)
  have HB3 := hid (HB3.out.ext hG.out.1)
  have HL1' := hid (HL1.out.ext hG.out.1)
  have HL2' := hid (HL2.out.ext hG.out.1)
  have HE := hid (HE.out.trans hG.out.1)
  have y1 : wc.cell? ⟨N, 1, none⟩ = some (.int .i64 p.crc) := BN.out.cell 1
  have y2 : wc.frozen? ⟨N, 1, none⟩ = false := BN.out.frozen 1
  go_upto_region 2 with fail
  go_upto_region 3 with fail
  generalize hY : World.setCell _ ⟨N, 1, none⟩ _ = Y2
  have hM2 : Mod [N] wc Y2 := by rw [← hY]; exact (Mod.refl _ _).setCell (.inl (by simp)) _
  have BN2 : Hid (Blk Y2 N 26 p.plain.c) := hid (by rw [← hY]; exact BN.out.set_ 1 (.int .i64 0))
  have BM2 := hid (BM.out.mod hM2 (by have := HNM.out; simp; omega))
  clear hY y1 y2
  have HM2 := hid hM2
  clear hM2
  have y1 : Y2.cell? ⟨M, 1, none⟩ = some (.int .i64 q.crc) := BM2.out.cell 1
  have y2 : Y2.frozen? ⟨M, 1, none⟩ = false := BM2.out.frozen 1
  go_upto_region 4 with fail
  generalize hY : World.setCell _ ⟨M, 1, none⟩ _ = Y3
  have hM3 : Mod [N, M] wc Y3 := by rw [← hY]; exact (HM2.out.mono (by simp)).setCell (.inl (by simp)) _
  have hM4 : Mod [M] Y2 Y3 := by rw [← hY]; exact (Mod.refl _ _).setCell (.inl (by simp)) _
  have BM3 : Hid (Blk Y3 M 26 q.plain.c) := hid (by rw [← hY]; exact BM2.out.set_ 1 (.int .i64 0))
  have BN3 := hid (BN2.out.mod hM4 (by have := HNM.out; simp; omega))
  clear hY y1 y2
  have B0 := hid (HB0.out.mod hM3 (by have := HNS.out; simp; omega))
  have B1 := hid (HB1.out.mod hM3 (by have := HNS.out; simp; omega))
  have B2 := hid (HB2.out.mod hM3 (by have := HNS.out; simp; omega))
  have B3 := hid (HB3.out.mod hM3 (by have := HNS.out; simp; omega))
  have HE3 : Hid (Ext w Y3) := hid ((HE.out.of_ext.trans hM3).new (fun kk hkk => .inr (by have := HNS.out; simp at hkk; omega)))
  have L1 := hid (BsL.mod2 HL1.out hG.out.1 hM3 hG.out.2.2.2.1 hG.out.2.2.2.2.1)
  have L2 := hid (BsL.mod2 HL2.out hG.out.1 hM3 hG.out.2.2.2.1 hG.out.2.2.2.2.1)
  clear hM3 hM4 HM2 BN2 BM2 BN BM HB0 HB1 HB2 HB3 HE HL1 HL2 HL1' HL2' hG
  have n0 : (0 : Int) ≤ (n : Int) := by omega
  have n8 : (n : Int) < 8 := by have := HN.out; omega
  have t0 : ∀ e : Later Y3, e.x.cell? ⟨w.heap.size + 1 + 1 + 1, 0, none⟩ = some (.int .i64 target) := B3.out.cellL 0 rfl
  have t1 : ∀ e : Later Y3, e.x.cell? ⟨w.heap.size + 1 + 1 + 1, 1, none⟩ = some (.int .i64 (n : Int)) := B3.out.cellL 1 rfl
  have HS1 : Hid (∀ e : Later Y3, e.x.rangeAt (w.heap.size + 1 + 1) 0 s.c.toList) := B2.out.range 0 5 (by rw [Array.toList_extract]; rfl)
  have HS2 : Hid (∀ e : Later Y3, e.x.rangeAt (w.heap.size + 1 + 1) 5 t.c.toList) := B2.out.range 5 5 (by rw [Array.toList_extract]; rfl)
  obtain ⟨e, he⟩ := Later.self Y3
  rw [he]
  clear he
  obtain ⟨cb, hcb⟩ : ∃ cb, decide (n / 4 = 1 ∧ hdrB s t = false) = cb := ⟨_, rfl⟩
  have HC := hid hcb
  clear hcb
  go_cut [30] (fun s30 wx => s30 = .bool cb ∧ Hid (Ext Y3 wx))
  case first =>
    obtain ⟨q4, hq4⟩ : ∃ q4, n / 4 = q4 := ⟨_, rfl⟩
    have iq : (n : Int) / 4 = (q4 : Int) := by omega
    have HQ4 := hid hq4
    clear hq4
    by_cases h4 : q4 = 1
    case neg =>
      have HR : Hid (cb = false) := hid (by rw [← HC.out]; exact decide_eq_false (by have := HQ4.out; omega))
      have tqa : ((q4) == (1)) = false := by rw [beq_eq_false_iff_ne]; omega
      have tqb : ((q4) = (1)) = False := eq_false (by omega)
      have tqc : ((q4) != (1)) = true := by rw [bne_iff_ne]; omega
      have tra : (((q4 : Int)) == (1)) = false := by rw [beq_eq_false_iff_ne]; omega
      have trb : (((q4 : Int)) = (1)) = False := eq_false (by omega)
      have trc : (((q4 : Int)) != (1)) = true := by rw [bne_iff_ne]; omega
      clear h4
      go_wp2_with fail
      go_meet
      exact ⟨by rw [HR.out], e.h⟩
    have tqa : ((q4) == (1)) = true := by rw [beq_iff_eq]; omega
    have tqb : ((q4) = (1)) = True := eq_true (by omega)
    have tqc : ((q4) != (1)) = false := by rw [bne_eq_false_iff_eq]; omega
    have tra : (((q4 : Int)) == (1)) = true := by rw [beq_iff_eq]; omega
    have trb : (((q4 : Int)) = (1)) = True := eq_true (by omega)
    have trc : (((q4 : Int)) != (1)) = false := by rw [bne_eq_false_iff_eq]; omega
    have HR : Hid (cb = !hdrB s t) := hid (by rw [← HC.out, HQ4.out, h4]; cases hdrB s t <;> rfl)
    clear h4
    cases hh : hdrB s t with
    | false =>
      rw [hh] at KH HR
      clear hh
      go_wp2_with (first | (refine wpList_mid (by rfl) 32 _ rfl (w.heap.size + 1 + 1) 0 rfl s.c.toList _ (HS1.out _) Try.underlying32 rfl (by kernel_rfl) ?_) | (refine wpList_mid (by rfl) 32 _ rfl (w.heap.size + 1 + 1) 5 rfl t.c.toList _ (HS2.out _) Try.underlying32 rfl (by kernel_rfl) ?_) | (go_at_call 34; refine (Ret.later (KH.out _)).mono ?_; rintro x _ ⟨rfl, e, rfl⟩))
      go_meet
      exact ⟨by rw [HR.out]; rfl, e.h⟩
    | true =>
      rw [hh] at KH HR
      clear hh
      go_wp2_with (first | (refine wpList_mid (by rfl) 32 _ rfl (w.heap.size + 1 + 1) 0 rfl s.c.toList _ (HS1.out _) Try.underlying32 rfl (by kernel_rfl) ?_) | (refine wpList_mid (by rfl) 32 _ rfl (w.heap.size + 1 + 1) 5 rfl t.c.toList _ (HS2.out _) Try.underlying32 rfl (by kernel_rfl) ?_) | (go_at_call 34; refine (Ret.later (KH.out _)).mono ?_; rintro x _ ⟨rfl, e, rfl⟩))
      go_meet
      exact ⟨by rw [HR.out]; rfl, e.h⟩
  obtain ⟨rfl, hW⟩ := hcut
  cases cb with
  | true =>
    have HR : Hid (CB = false) := hid (by rw [HCB.out, if_pos (of_decide_eq_true HC.out)])
    clear e
    obtain ⟨e, he⟩ := Later.go (Later.mk Y3 (Mod.refl [] Y3)) hW
    rw [he]
    clear he
    go_wp2_with fail
    go_ret
    exact Ret.mk (by rw [HR.out]; rfl) (HE3.out.trans e.h)
  | false =>
  have HR : Hid (CB = if target = 0 then r else (decide (n % 2 = 0) || r) && (decide (n / 2 % 2 = 0) || hdrB x y)) := hid (by rw [HCB.out, if_neg (of_decide_eq_false HC.out)])
  clear e
  obtain ⟨e, he⟩ := Later.go (Later.mk Y3 (Mod.refl [] Y3)) hW
  rw [he]
  clear he HCB HC KH hW HS1 HS2
  by_cases ht : target = 0
  case pos =>
    have HT : Hid (CB = r) := hid (by rw [HR.out, if_pos ht])
    have hEQ := HEQ.out
    have tta : ((target) == (0)) = true := by rw [beq_iff_eq]; exact ht
    have ttb : ((target) = (0)) = True := eq_true (by exact ht)
    have ttc : ((target) != (0)) = false := by rw [bne_eq_false_iff_eq]; exact ht
    clear ht
    go_wp2_with (first | (refine wpList_row (by rfl) 26 _ rfl _ rfl (BN3.out.later _) Try.underlying26 rfl (by kernel_rfl) ?_) | (refine wpList_row (by rfl) 26 _ rfl _ rfl (BM3.out.later _) Try.underlying26 rfl (by kernel_rfl) ?_))
    go_ret
    exact Ret.mk (by rw [HT.out]; rfl) (HE3.out.trans e.h)
  have HT : Hid (CB = ((decide (n % 2 = 0) || r) && (decide (n / 2 % 2 = 0) || hdrB x y))) := hid (by rw [HR.out, if_neg ht])
  obtain ⟨i, hi, rfl⟩ := HX.out ht
  obtain ⟨j, hj, rfl⟩ := HY.out ht
  unfold firstI at KA1 KA2
  rw [hi] at KA1
  rw [hj] at KA2
  have hil := (firstOf_spec hi).1
  have hjl := (firstOf_spec hj).1
  have tta : ((target) == (0)) = false := by rw [beq_eq_false_iff_ne]; exact ht
  have ttb : ((target) = (0)) = False := eq_false (by exact ht)
  have ttc : ((target) != (0)) = true := by rw [bne_iff_ne]; exact ht
  clear ht hi hj HX HY HR
  obtain ⟨b1, o1, rfl, _, q0, q1, q2, q3, q4⟩ := L1.out.cells hil
  obtain ⟨b2, o2, rfl, _, v0, v1, v2, v3, v4⟩ := L2.out.cells hjl
  have HS8 : Hid (∀ W, Ext Y3 W → W.cell? ⟨w.heap.size, 19, none⟩ = some (.slice (some ⟨b1, o1, none⟩) k c) ∧ W.cell? ⟨w.heap.size + 1, 19, none⟩ = some (.slice (some ⟨b2, o2, none⟩) m d) ∧ W.cell? ⟨w.heap.size + 1 + 1 + 1, 0, none⟩ = some (.int .i64 target)) := hid (fun W hW => ⟨(B0.out.ext hW).cell 19, (B1.out.ext hW).cell 19, (B3.out.ext hW).cell 0⟩)
  have HQ := hid (fun (W : World) (hW : Ext Y3 W) => (⟨q0 ⟨W, hW⟩, q1 ⟨W, hW⟩, q2 ⟨W, hW⟩, q3 ⟨W, hW⟩, q4 ⟨W, hW⟩⟩ : _ ∧ _ ∧ _ ∧ _ ∧ _))
  have HV := hid (fun (W : World) (hW : Ext Y3 W) => (⟨v0 ⟨W, hW⟩, v1 ⟨W, hW⟩, v2 ⟨W, hW⟩, v3 ⟨W, hW⟩, v4 ⟨W, hW⟩⟩ : _ ∧ _ ∧ _ ∧ _ ∧ _))
  have i0 : (0 : Int) ≤ (i : Int) := by omega
  have i1 : (i : Int) < (k : Int) := by omega
  have i2 : (k : Int) < 4611686018427387904 := by have := HK.out; omega
  have j0 : (0 : Int) ≤ (j : Int) := by omega
  have j1 : (j : Int) < (m : Int) := by omega
  have j2 : (m : Int) < 4611686018427387904 := by have := HMM.out; omega
  clear q0 q1 q2 q3 q4 v0 v1 v2 v3 v4 hil hjl
  go_upto_region 8 with fail
  go_cut [11, 12] (fun s11 s12 wx => ∃ P Q, s11 = .pointer (some ⟨P, 0, none⟩) ∧ s12 = .pointer (some ⟨Q, 0, none⟩) ∧ Hid (Ext Y3 wx ∧ Blk wx P 32 (BV.c (bs i)) ∧ Blk wx Q 32 (BV.c (ds j))))
  case first =>
    clear t0 t1
    refine wp_region_held_drew (S := fun w' => Ext Y3 w') (by kernel_rfl) e.h.drew (fun hHeld => ?_)
    generalize e.x.drew = u0 at *
    clear e
    refine' wpAnyH_take (i := 0) (v := _) rfl (by kernel_rfl) (by kernel_rfl) (by kernel_rfl) (fun _ _ _ h => h) (Or.inl ⟨by rfl, ?hy3⟩) hHeld ?rest3
    case hy3 => (rintro W hM; go_simp; (try with_reducible rfl))
    case rest3 =>
    (try simp only [Act.put, List.getElem_toArray, List.getElem_cons_zero, List.getElem_cons_succ, List.setIfInBounds_toArray, List.set_cons_zero, List.set_cons_succ])
    refine' wpAnyH_take (i := 1) (v := _) rfl (by kernel_rfl) (by kernel_rfl) (by kernel_rfl) (fun _ _ _ h => h) (Or.inl ⟨by rfl, ?hy4⟩) hHeld ?rest4
    case hy4 => (rintro W hM; obtain ⟨p0, p1, p2⟩ := HS8.out W hM; go_simp; (try with_reducible rfl))
    case rest4 =>
    (try simp only [Act.put, List.getElem_toArray, List.getElem_cons_zero, List.getElem_cons_succ, List.setIfInBounds_toArray, List.set_cons_zero, List.set_cons_succ])
    refine wpAnyH_take (i := 2) rfl (by kernel_rfl) (by kernel_rfl) (by kernel_rfl) (fun _ _ _ h => h) (yieldsIf_row (by rfl) 29 _ rfl _ rfl (fun W h => B0.out.ext h) Try.underlying29 rfl (by kernel_rfl)) hHeld ?_
    (try simp only [Act.put, List.getElem_toArray, List.getElem_cons_zero, List.getElem_cons_succ, List.setIfInBounds_toArray, List.set_cons_zero, List.set_cons_succ])
    refine' wpAnyH_take (i := 3) (v := _) rfl (by kernel_rfl) (by kernel_rfl) (by kernel_rfl) (fun _ _ _ h => h) (Or.inl ⟨by rfl, ?hy5⟩) hHeld ?rest5
    case hy5 => (rintro W hM; go_simp; (try with_reducible rfl))
    case rest5 =>
    (try simp only [Act.put, List.getElem_toArray, List.getElem_cons_zero, List.getElem_cons_succ, List.setIfInBounds_toArray, List.set_cons_zero, List.set_cons_succ])
    refine' wpAnyH_take (i := 4) (v := _) rfl (by kernel_rfl) (by kernel_rfl) (by kernel_rfl) (fun _ _ _ h => h) (Or.inl ⟨by rfl, ?hy6⟩) hHeld ?rest6
    case hy6 => (rintro W hM; obtain ⟨p0, p1, p2⟩ := HS8.out W hM; go_simp; (try with_reducible rfl))
    case rest6 =>
    (try simp only [Act.put, List.getElem_toArray, List.getElem_cons_zero, List.getElem_cons_succ, List.setIfInBounds_toArray, List.set_cons_zero, List.set_cons_succ])
    refine' wpAnyH_take (i := 8) (v := _) rfl (by kernel_rfl) (by kernel_rfl) (by kernel_rfl) (fun _ _ _ h => h) (Or.inl ⟨by rfl, ?hy7⟩) hHeld ?rest7
    case hy7 => (rintro W hM; go_simp; (try with_reducible rfl))
    case rest7 =>
    (try simp only [Act.put, List.getElem_toArray, List.getElem_cons_zero, List.getElem_cons_succ, List.setIfInBounds_toArray, List.set_cons_zero, List.set_cons_succ])
    refine' wpAnyH_take (i := 9) (v := _) rfl (by kernel_rfl) (by kernel_rfl) (by kernel_rfl) (fun _ _ _ h => h) (Or.inl ⟨by rfl, ?hy8⟩) hHeld ?rest8
    case hy8 => (rintro W hM; obtain ⟨p0, p1, p2⟩ := HS8.out W hM; go_simp; (try with_reducible rfl))
    case rest8 =>
    (try simp only [Act.put, List.getElem_toArray, List.getElem_cons_zero, List.getElem_cons_succ, List.setIfInBounds_toArray, List.set_cons_zero, List.set_cons_succ])
    refine wpAnyH_take (i := 10) rfl (by kernel_rfl) (by kernel_rfl) (by kernel_rfl) (fun _ _ _ h => h) (yieldsIf_row (by rfl) 29 _ rfl _ rfl (fun W h => B1.out.ext h) Try.underlying29 rfl (by kernel_rfl)) hHeld ?_
    (try simp only [Act.put, List.getElem_toArray, List.getElem_cons_zero, List.getElem_cons_succ, List.setIfInBounds_toArray, List.set_cons_zero, List.set_cons_succ])
    refine' wpAnyH_take (i := 11) (v := _) rfl (by kernel_rfl) (by kernel_rfl) (by kernel_rfl) (fun _ _ _ h => h) (Or.inl ⟨by rfl, ?hy9⟩) hHeld ?rest9
    case hy9 => (rintro W hM; go_simp; (try with_reducible rfl))
    case rest9 =>
    (try simp only [Act.put, List.getElem_toArray, List.getElem_cons_zero, List.getElem_cons_succ, List.setIfInBounds_toArray, List.set_cons_zero, List.set_cons_succ])
    refine' wpAnyH_take (i := 12) (v := _) rfl (by kernel_rfl) (by kernel_rfl) (by kernel_rfl) (fun _ _ _ h => h) (Or.inl ⟨by rfl, ?hy10⟩) hHeld ?rest10
    case hy10 => (rintro W hM; obtain ⟨p0, p1, p2⟩ := HS8.out W hM; go_simp; (try with_reducible rfl))
    case rest10 =>
    (try simp only [Act.put, List.getElem_toArray, List.getElem_cons_zero, List.getElem_cons_succ, List.setIfInBounds_toArray, List.set_cons_zero, List.set_cons_succ])
    refine wpAnyH_ready (rs := [5, 16, 17]) (by kernel_rfl) (by simp) ?_
    refine AllReadyH.cons rfl (fun K hK => ?_) (AllReadyH.cons rfl (fun K hK => ?_) (AllReadyH.cons rfl (fun K hK => ?_) AllReadyH.nil))
    · go_simp
      (go_at_call 12; refine (KA1.out _ (L1.out.ext hHeld)).mono ?_; rintro yy y1 ⟨rfl, hb⟩)
      refine hK.out _ _ (hHeld.trans hb) (fun hHeld => ?_)
      clear hK K
      (try simp only [Act.put, List.getElem_toArray, List.getElem_cons_zero, List.getElem_cons_succ, List.setIfInBounds_toArray, List.set_cons_zero, List.set_cons_succ])
      clear hb
      refine' wpAnyH_take (i := 6) (v := _) rfl (by kernel_rfl) (by kernel_rfl) (by kernel_rfl) (fun _ _ _ h => h) (Or.inl ⟨by rfl, ?hy11⟩) hHeld ?rest11
      case hy11 => (rintro W hM; go_simp; (try with_reducible rfl))
      case rest11 =>
      (try simp only [Act.put, List.getElem_toArray, List.getElem_cons_zero, List.getElem_cons_succ, List.setIfInBounds_toArray, List.set_cons_zero, List.set_cons_succ])
      refine' wpAnyH_take (i := 7) (v := _) rfl (by kernel_rfl) (by kernel_rfl) (by kernel_rfl) (fun _ _ _ h => h) (Or.inl ⟨by rfl, ?hy12⟩) hHeld ?rest12
      case hy12 => (rintro W hM; obtain ⟨p0, p1, p2, p3, p4⟩ := HQ.out W hM; go_simp; (try with_reducible rfl))
      case rest12 =>
      (try simp only [Act.put, List.getElem_toArray, List.getElem_cons_zero, List.getElem_cons_succ, List.setIfInBounds_toArray, List.set_cons_zero, List.set_cons_succ])
      refine wpAnyH_ready (rs := [13, 16, 17]) (by kernel_rfl) (by simp) ?_
      refine AllReadyH.cons rfl (fun K hK => ?_) (AllReadyH.cons rfl (fun K hK => ?_) (AllReadyH.cons rfl (fun K hK => ?_) AllReadyH.nil))
      · go_simp
        (go_at_call 12; refine (KA2.out _ (L2.out.ext hHeld)).mono ?_; rintro yy y2 ⟨rfl, hb⟩)
        refine hK.out _ _ (hHeld.trans hb) (fun hHeld => ?_)
        clear hK K
        (try simp only [Act.put, List.getElem_toArray, List.getElem_cons_zero, List.getElem_cons_succ, List.setIfInBounds_toArray, List.set_cons_zero, List.set_cons_succ])
        clear hb
        refine' wpAnyH_take (i := 14) (v := _) rfl (by kernel_rfl) (by kernel_rfl) (by kernel_rfl) (fun _ _ _ h => h) (Or.inl ⟨by rfl, ?hy13⟩) hHeld ?rest13
        case hy13 => (rintro W hM; go_simp; (try with_reducible rfl))
        case rest13 =>
        (try simp only [Act.put, List.getElem_toArray, List.getElem_cons_zero, List.getElem_cons_succ, List.setIfInBounds_toArray, List.set_cons_zero, List.set_cons_succ])
        refine' wpAnyH_take (i := 15) (v := _) rfl (by kernel_rfl) (by kernel_rfl) (by kernel_rfl) (fun _ _ _ h => h) (Or.inl ⟨by rfl, ?hy14⟩) hHeld ?rest14
        case hy14 => (rintro W hM; obtain ⟨p0, p1, p2, p3, p4⟩ := HV.out W hM; go_simp; (try with_reducible rfl))
        case rest14 =>
        (try simp only [Act.put, List.getElem_toArray, List.getElem_cons_zero, List.getElem_cons_succ, List.setIfInBounds_toArray, List.set_cons_zero, List.set_cons_succ])
        refine wpAnyH_ready (rs := [16, 17]) (by kernel_rfl) (by simp) ?_
        refine AllReadyH.cons rfl (fun K hK => ?_) (AllReadyH.cons rfl (fun K hK => ?_) AllReadyH.nil)
        · go_simp
          generalize hV : World.alloc y2 _ = y3
          have h11 : Blk y3 y2.heap.size 32 #[.int .i64 0, .int .i64 0, .int .u64 0, .int .i64 0, .string ⟨#[]⟩] := by rw [← hV]; exact Blk.new _ _ _
          have hXX : Ext y2 y3 := by rw [← hV]; exact (Mod.refl [] _).alloc _
          have h11_n : Y3.heap.size ≤ y2.heap.size := hHeld.size
          clear hV
          refine hK.out _ _ (hHeld.trans hXX) (fun hHeld => ?_)
          clear hK K
          (try simp only [Act.put, List.getElem_toArray, List.getElem_cons_zero, List.getElem_cons_succ, List.setIfInBounds_toArray, List.set_cons_zero, List.set_cons_succ])
          refine wpAnyH_ready (rs := [17]) (by kernel_rfl) (by simp) ?_
          refine AllReadyH.cons rfl (fun K hK => ?_) AllReadyH.nil
          have hlt : y2.heap.size < y3.heap.size := h11.lt
          go_simp
          generalize hV : World.alloc y3 _ = y4
          have h12 : Blk y4 y3.heap.size 32 #[.int .i64 0, .int .i64 0, .int .u64 0, .int .i64 0, .string ⟨#[]⟩] := by rw [← hV]; exact Blk.new _ _ _
          have hXX : Ext y3 y4 := by rw [← hV]; exact (Mod.refl [] _).alloc _
          have h12_n : Y3.heap.size ≤ y3.heap.size := hHeld.size
          clear hV
          have h11 := h11.ext hXX
          refine hK.out _ _ (hHeld.trans hXX) (fun hHeld => ?_)
          clear hK K
          (try simp only [Act.put, List.getElem_toArray, List.getElem_cons_zero, List.getElem_cons_succ, List.setIfInBounds_toArray, List.set_cons_zero, List.set_cons_succ])
          refine wpAnyH_ready (rs := [18]) (by kernel_rfl) (by simp) ?_
          refine AllReadyH.cons rfl (fun K hK => ?_) AllReadyH.nil
          refine wp_store_mid 32 _ _ rfl y2.heap.size 0 (BV.c (bs i)) (by rfl) (by rfl) (h11.there (Nat.le_refl 5)) (by kernel_rfl) (by simp [Value.oneCell']) ?_
          have hZB := setCells_all (ds := (BV.c (bs i))) h11 rfl
          have hZM := setCells_mod (b := y2.heap.size) ((BV.c (bs i)) : Array Value).toList 0 hHeld (.inr h11_n)
          have hZO := setCells_mod (w := y4) (W := y4) (S := [y2.heap.size]) (b := y2.heap.size) ((BV.c (bs i)) : Array Value).toList 0 (Mod.refl _ _) (.inl (by simp))
          generalize hZ : World.setCells _ y2.heap.size 0 _ = z1 at *
          clear hZ
          have h12 := h12.mod hZO (by simpa using Nat.ne_of_gt hlt)
          have h11 := hZB
          refine hK.out _ _ hZM (fun hHeld => ?_)
          clear hK K hZB hZM hZO
          (try simp only [Act.put, List.getElem_toArray, List.getElem_cons_zero, List.getElem_cons_succ, List.setIfInBounds_toArray, List.set_cons_zero, List.set_cons_succ])
          refine wpAnyH_ready (rs := [19]) (by kernel_rfl) (by simp) ?_
          refine AllReadyH.cons rfl (fun K hK => ?_) AllReadyH.nil
          refine wp_store_mid 32 _ _ rfl y3.heap.size 0 (BV.c (ds j)) (by rfl) (by rfl) (h12.there (Nat.le_refl 5)) (by kernel_rfl) (by simp [Value.oneCell']) ?_
          have hZB := setCells_all (ds := (BV.c (ds j))) h12 rfl
          have hZM := setCells_mod (b := y3.heap.size) ((BV.c (ds j)) : Array Value).toList 0 hHeld (.inr h12_n)
          have hZO := setCells_mod (w := z1) (W := z1) (S := [y3.heap.size]) (b := y3.heap.size) ((BV.c (ds j)) : Array Value).toList 0 (Mod.refl _ _) (.inl (by simp))
          generalize hZ : World.setCells _ y3.heap.size 0 _ = z2 at *
          clear hZ
          have h11 := h11.mod hZO (by simpa using Nat.ne_of_lt hlt)
          have h12 := hZB
          refine hK.out _ _ hZM (fun hHeld => ?_)
          clear hK K hZB hZM hZO
          (try simp only [Act.put, List.getElem_toArray, List.getElem_cons_zero, List.getElem_cons_succ, List.setIfInBounds_toArray, List.set_cons_zero, List.set_cons_succ])
          refine wpAnyH_done (by kernel_rfl) ?_ _
          go_wp2_with fail
          go_meet
          exact ⟨_, _, rfl, rfl, hHeld, h11, h12⟩
        · go_simp
          generalize hV : World.alloc y2 _ = y3
          have h12 : Blk y3 y2.heap.size 32 #[.int .i64 0, .int .i64 0, .int .u64 0, .int .i64 0, .string ⟨#[]⟩] := by rw [← hV]; exact Blk.new _ _ _
          have hXX : Ext y2 y3 := by rw [← hV]; exact (Mod.refl [] _).alloc _
          have h12_n : Y3.heap.size ≤ y2.heap.size := hHeld.size
          clear hV
          refine hK.out _ _ (hHeld.trans hXX) (fun hHeld => ?_)
          clear hK K
          (try simp only [Act.put, List.getElem_toArray, List.getElem_cons_zero, List.getElem_cons_succ, List.setIfInBounds_toArray, List.set_cons_zero, List.set_cons_succ])
          refine wpAnyH_ready (rs := [16]) (by kernel_rfl) (by simp) ?_
          refine AllReadyH.cons rfl (fun K hK => ?_) AllReadyH.nil
          have hlt : y2.heap.size < y3.heap.size := h12.lt
          go_simp
          generalize hV : World.alloc y3 _ = y4
          have h11 : Blk y4 y3.heap.size 32 #[.int .i64 0, .int .i64 0, .int .u64 0, .int .i64 0, .string ⟨#[]⟩] := by rw [← hV]; exact Blk.new _ _ _
          have hXX : Ext y3 y4 := by rw [← hV]; exact (Mod.refl [] _).alloc _
          have h11_n : Y3.heap.size ≤ y3.heap.size := hHeld.size
          clear hV
          have h12 := h12.ext hXX
          refine hK.out _ _ (hHeld.trans hXX) (fun hHeld => ?_)
          clear hK K
          (try simp only [Act.put, List.getElem_toArray, List.getElem_cons_zero, List.getElem_cons_succ, List.setIfInBounds_toArray, List.set_cons_zero, List.set_cons_succ])
          refine wpAnyH_ready (rs := [18]) (by kernel_rfl) (by simp) ?_
          refine AllReadyH.cons rfl (fun K hK => ?_) AllReadyH.nil
          refine wp_store_mid 32 _ _ rfl y3.heap.size 0 (BV.c (bs i)) (by rfl) (by rfl) (h11.there (Nat.le_refl 5)) (by kernel_rfl) (by simp [Value.oneCell']) ?_
          have hZB := setCells_all (ds := (BV.c (bs i))) h11 rfl
          have hZM := setCells_mod (b := y3.heap.size) ((BV.c (bs i)) : Array Value).toList 0 hHeld (.inr h11_n)
          have hZO := setCells_mod (w := y4) (W := y4) (S := [y3.heap.size]) (b := y3.heap.size) ((BV.c (bs i)) : Array Value).toList 0 (Mod.refl _ _) (.inl (by simp))
          generalize hZ : World.setCells _ y3.heap.size 0 _ = z1 at *
          clear hZ
          have h12 := h12.mod hZO (by simpa using Nat.ne_of_lt hlt)
          have h11 := hZB
          refine hK.out _ _ hZM (fun hHeld => ?_)
          clear hK K hZB hZM hZO
          (try simp only [Act.put, List.getElem_toArray, List.getElem_cons_zero, List.getElem_cons_succ, List.setIfInBounds_toArray, List.set_cons_zero, List.set_cons_succ])
          refine wpAnyH_ready (rs := [19]) (by kernel_rfl) (by simp) ?_
          refine AllReadyH.cons rfl (fun K hK => ?_) AllReadyH.nil
          refine wp_store_mid 32 _ _ rfl y2.heap.size 0 (BV.c (ds j)) (by rfl) (by rfl) (h12.there (Nat.le_refl 5)) (by kernel_rfl) (by simp [Value.oneCell']) ?_
          have hZB := setCells_all (ds := (BV.c (ds j))) h12 rfl
          have hZM := setCells_mod (b := y2.heap.size) ((BV.c (ds j)) : Array Value).toList 0 hHeld (.inr h12_n)
          have hZO := setCells_mod (w := z1) (W := z1) (S := [y2.heap.size]) (b := y2.heap.size) ((BV.c (ds j)) : Array Value).toList 0 (Mod.refl _ _) (.inl (by simp))
          generalize hZ : World.setCells _ y2.heap.size 0 _ = z2 at *
          clear hZ
          have h11 := h11.mod hZO (by simpa using Nat.ne_of_gt hlt)
          have h12 := hZB
          refine hK.out _ _ hZM (fun hHeld => ?_)
          clear hK K hZB hZM hZO
          (try simp only [Act.put, List.getElem_toArray, List.getElem_cons_zero, List.getElem_cons_succ, List.setIfInBounds_toArray, List.set_cons_zero, List.set_cons_succ])
          refine wpAnyH_done (by kernel_rfl) ?_ _
          go_wp2_with fail
          go_meet
          exact ⟨_, _, rfl, rfl, hHeld, h11, h12⟩
      · go_simp
        generalize hV : World.alloc y1 _ = y2
        have h11 : Blk y2 y1.heap.size 32 #[.int .i64 0, .int .i64 0, .int .u64 0, .int .i64 0, .string ⟨#[]⟩] := by rw [← hV]; exact Blk.new _ _ _
        have hXX : Ext y1 y2 := by rw [← hV]; exact (Mod.refl [] _).alloc _
        have h11_n : Y3.heap.size ≤ y1.heap.size := hHeld.size
        clear hV
        refine hK.out _ _ (hHeld.trans hXX) (fun hHeld => ?_)
        clear hK K
        (try simp only [Act.put, List.getElem_toArray, List.getElem_cons_zero, List.getElem_cons_succ, List.setIfInBounds_toArray, List.set_cons_zero, List.set_cons_succ])
        refine wpAnyH_ready (rs := [13, 17]) (by kernel_rfl) (by simp) ?_
        refine AllReadyH.cons rfl (fun K hK => ?_) (AllReadyH.cons rfl (fun K hK => ?_) AllReadyH.nil)
        · go_simp
          (go_at_call 12; refine (KA2.out _ (L2.out.ext hHeld)).mono ?_; rintro yy y3 ⟨rfl, hb⟩)
          have h11 := h11.ext hb
          refine hK.out _ _ (hHeld.trans hb) (fun hHeld => ?_)
          clear hK K
          (try simp only [Act.put, List.getElem_toArray, List.getElem_cons_zero, List.getElem_cons_succ, List.setIfInBounds_toArray, List.set_cons_zero, List.set_cons_succ])
          clear hb
          refine' wpAnyH_take (i := 14) (v := _) rfl (by kernel_rfl) (by kernel_rfl) (by kernel_rfl) (fun _ _ _ h => h) (Or.inl ⟨by rfl, ?hy15⟩) hHeld ?rest15
          case hy15 => (rintro W hM; go_simp; (try with_reducible rfl))
          case rest15 =>
          (try simp only [Act.put, List.getElem_toArray, List.getElem_cons_zero, List.getElem_cons_succ, List.setIfInBounds_toArray, List.set_cons_zero, List.set_cons_succ])
          refine' wpAnyH_take (i := 15) (v := _) rfl (by kernel_rfl) (by kernel_rfl) (by kernel_rfl) (fun _ _ _ h => h) (Or.inl ⟨by rfl, ?hy16⟩) hHeld ?rest16
          case hy16 => (rintro W hM; obtain ⟨p0, p1, p2, p3, p4⟩ := HV.out W hM; go_simp; (try with_reducible rfl))
          case rest16 =>
          (try simp only [Act.put, List.getElem_toArray, List.getElem_cons_zero, List.getElem_cons_succ, List.setIfInBounds_toArray, List.set_cons_zero, List.set_cons_succ])
          refine wpAnyH_ready (rs := [17]) (by kernel_rfl) (by simp) ?_
          refine AllReadyH.cons rfl (fun K hK => ?_) AllReadyH.nil
          have hlt : y1.heap.size < y3.heap.size := h11.lt
          go_simp
          generalize hV : World.alloc y3 _ = y4
          have h12 : Blk y4 y3.heap.size 32 #[.int .i64 0, .int .i64 0, .int .u64 0, .int .i64 0, .string ⟨#[]⟩] := by rw [← hV]; exact Blk.new _ _ _
          have hXX : Ext y3 y4 := by rw [← hV]; exact (Mod.refl [] _).alloc _
          have h12_n : Y3.heap.size ≤ y3.heap.size := hHeld.size
          clear hV
          have h11 := h11.ext hXX
          refine hK.out _ _ (hHeld.trans hXX) (fun hHeld => ?_)
          clear hK K
          (try simp only [Act.put, List.getElem_toArray, List.getElem_cons_zero, List.getElem_cons_succ, List.setIfInBounds_toArray, List.set_cons_zero, List.set_cons_succ])
          refine wpAnyH_ready (rs := [18]) (by kernel_rfl) (by simp) ?_
          refine AllReadyH.cons rfl (fun K hK => ?_) AllReadyH.nil
          refine wp_store_mid 32 _ _ rfl y1.heap.size 0 (BV.c (bs i)) (by rfl) (by rfl) (h11.there (Nat.le_refl 5)) (by kernel_rfl) (by simp [Value.oneCell']) ?_
          have hZB := setCells_all (ds := (BV.c (bs i))) h11 rfl
          have hZM := setCells_mod (b := y1.heap.size) ((BV.c (bs i)) : Array Value).toList 0 hHeld (.inr h11_n)
          have hZO := setCells_mod (w := y4) (W := y4) (S := [y1.heap.size]) (b := y1.heap.size) ((BV.c (bs i)) : Array Value).toList 0 (Mod.refl _ _) (.inl (by simp))
          generalize hZ : World.setCells _ y1.heap.size 0 _ = z1 at *
          clear hZ
          have h12 := h12.mod hZO (by simpa using Nat.ne_of_gt hlt)
          have h11 := hZB
          refine hK.out _ _ hZM (fun hHeld => ?_)
          clear hK K hZB hZM hZO
          (try simp only [Act.put, List.getElem_toArray, List.getElem_cons_zero, List.getElem_cons_succ, List.setIfInBounds_toArray, List.set_cons_zero, List.set_cons_succ])
          refine wpAnyH_ready (rs := [19]) (by kernel_rfl) (by simp) ?_
          refine AllReadyH.cons rfl (fun K hK => ?_) AllReadyH.nil
          refine wp_store_mid 32 _ _ rfl y3.heap.size 0 (BV.c (ds j)) (by rfl) (by rfl) (h12.there (Nat.le_refl 5)) (by kernel_rfl) (by simp [Value.oneCell']) ?_
          have hZB := setCells_all (ds := (BV.c (ds j))) h12 rfl
          have hZM := setCells_mod (b := y3.heap.size) ((BV.c (ds j)) : Array Value).toList 0 hHeld (.inr h12_n)
          have hZO := setCells_mod (w := z1) (W := z1) (S := [y3.heap.size]) (b := y3.heap.size) ((BV.c (ds j)) : Array Value).toList 0 (Mod.refl _ _) (.inl (by simp))
          generalize hZ : World.setCells _ y3.heap.size 0 _ = z2 at *
          clear hZ
          have h11 := h11.mod hZO (by simpa using Nat.ne_of_lt hlt)
          have h12 := hZB
          refine hK.out _ _ hZM (fun hHeld => ?_)
          clear hK K hZB hZM hZO
          (try simp only [Act.put, List.getElem_toArray, List.getElem_cons_zero, List.getElem_cons_succ, List.setIfInBounds_toArray, List.set_cons_zero, List.set_cons_succ])
          refine wpAnyH_done (by kernel_rfl) ?_ _
          go_wp2_with fail
          go_meet
          exact ⟨_, _, rfl, rfl, hHeld, h11, h12⟩
        · have hlt : y1.heap.size < y2.heap.size := h11.lt
          go_simp
          generalize hV : World.alloc y2 _ = y3
          have h12 : Blk y3 y2.heap.size 32 #[.int .i64 0, .int .i64 0, .int .u64 0, .int .i64 0, .string ⟨#[]⟩] := by rw [← hV]; exact Blk.new _ _ _
          have hXX : Ext y2 y3 := by rw [← hV]; exact (Mod.refl [] _).alloc _
          have h12_n : Y3.heap.size ≤ y2.heap.size := hHeld.size
          clear hV
          have h11 := h11.ext hXX
          refine hK.out _ _ (hHeld.trans hXX) (fun hHeld => ?_)
          clear hK K
          (try simp only [Act.put, List.getElem_toArray, List.getElem_cons_zero, List.getElem_cons_succ, List.setIfInBounds_toArray, List.set_cons_zero, List.set_cons_succ])
          refine wpAnyH_ready (rs := [13]) (by kernel_rfl) (by simp) ?_
          refine AllReadyH.cons rfl (fun K hK => ?_) AllReadyH.nil
          go_simp
          (go_at_call 12; refine (KA2.out _ (L2.out.ext hHeld)).mono ?_; rintro yy y4 ⟨rfl, hb⟩)
          have h11 := h11.ext hb
          have h12 := h12.ext hb
          refine hK.out _ _ (hHeld.trans hb) (fun hHeld => ?_)
          clear hK K
          (try simp only [Act.put, List.getElem_toArray, List.getElem_cons_zero, List.getElem_cons_succ, List.setIfInBounds_toArray, List.set_cons_zero, List.set_cons_succ])
          clear hb
          refine' wpAnyH_take (i := 14) (v := _) rfl (by kernel_rfl) (by kernel_rfl) (by kernel_rfl) (fun _ _ _ h => h) (Or.inl ⟨by rfl, ?hy17⟩) hHeld ?rest17
          case hy17 => (rintro W hM; go_simp; (try with_reducible rfl))
          case rest17 =>
          (try simp only [Act.put, List.getElem_toArray, List.getElem_cons_zero, List.getElem_cons_succ, List.setIfInBounds_toArray, List.set_cons_zero, List.set_cons_succ])
          refine' wpAnyH_take (i := 15) (v := _) rfl (by kernel_rfl) (by kernel_rfl) (by kernel_rfl) (fun _ _ _ h => h) (Or.inl ⟨by rfl, ?hy18⟩) hHeld ?rest18
          case hy18 => (rintro W hM; obtain ⟨p0, p1, p2, p3, p4⟩ := HV.out W hM; go_simp; (try with_reducible rfl))
          case rest18 =>
          (try simp only [Act.put, List.getElem_toArray, List.getElem_cons_zero, List.getElem_cons_succ, List.setIfInBounds_toArray, List.set_cons_zero, List.set_cons_succ])
          refine wpAnyH_ready (rs := [18]) (by kernel_rfl) (by simp) ?_
          refine AllReadyH.cons rfl (fun K hK => ?_) AllReadyH.nil
          refine wp_store_mid 32 _ _ rfl y1.heap.size 0 (BV.c (bs i)) (by rfl) (by rfl) (h11.there (Nat.le_refl 5)) (by kernel_rfl) (by simp [Value.oneCell']) ?_
          have hZB := setCells_all (ds := (BV.c (bs i))) h11 rfl
          have hZM := setCells_mod (b := y1.heap.size) ((BV.c (bs i)) : Array Value).toList 0 hHeld (.inr h11_n)
          have hZO := setCells_mod (w := y4) (W := y4) (S := [y1.heap.size]) (b := y1.heap.size) ((BV.c (bs i)) : Array Value).toList 0 (Mod.refl _ _) (.inl (by simp))
          generalize hZ : World.setCells _ y1.heap.size 0 _ = z1 at *
          clear hZ
          have h12 := h12.mod hZO (by simpa using Nat.ne_of_gt hlt)
          have h11 := hZB
          refine hK.out _ _ hZM (fun hHeld => ?_)
          clear hK K hZB hZM hZO
          (try simp only [Act.put, List.getElem_toArray, List.getElem_cons_zero, List.getElem_cons_succ, List.setIfInBounds_toArray, List.set_cons_zero, List.set_cons_succ])
          refine wpAnyH_ready (rs := [19]) (by kernel_rfl) (by simp) ?_
          refine AllReadyH.cons rfl (fun K hK => ?_) AllReadyH.nil
          refine wp_store_mid 32 _ _ rfl y2.heap.size 0 (BV.c (ds j)) (by rfl) (by rfl) (h12.there (Nat.le_refl 5)) (by kernel_rfl) (by simp [Value.oneCell']) ?_
          have hZB := setCells_all (ds := (BV.c (ds j))) h12 rfl
          have hZM := setCells_mod (b := y2.heap.size) ((BV.c (ds j)) : Array Value).toList 0 hHeld (.inr h12_n)
          have hZO := setCells_mod (w := z1) (W := z1) (S := [y2.heap.size]) (b := y2.heap.size) ((BV.c (ds j)) : Array Value).toList 0 (Mod.refl _ _) (.inl (by simp))
          generalize hZ : World.setCells _ y2.heap.size 0 _ = z2 at *
          clear hZ
          have h11 := h11.mod hZO (by simpa using Nat.ne_of_lt hlt)
          have h12 := hZB
          refine hK.out _ _ hZM (fun hHeld => ?_)
          clear hK K hZB hZM hZO
          (try simp only [Act.put, List.getElem_toArray, List.getElem_cons_zero, List.getElem_cons_succ, List.setIfInBounds_toArray, List.set_cons_zero, List.set_cons_succ])
          refine wpAnyH_done (by kernel_rfl) ?_ _
          go_wp2_with fail
          go_meet
          exact ⟨_, _, rfl, rfl, hHeld, h11, h12⟩
      · go_simp
        generalize hV : World.alloc y1 _ = y2
        have h12 : Blk y2 y1.heap.size 32 #[.int .i64 0, .int .i64 0, .int .u64 0, .int .i64 0, .string ⟨#[]⟩] := by rw [← hV]; exact Blk.new _ _ _
        have hXX : Ext y1 y2 := by rw [← hV]; exact (Mod.refl [] _).alloc _
        have h12_n : Y3.heap.size ≤ y1.heap.size := hHeld.size
        clear hV
        refine hK.out _ _ (hHeld.trans hXX) (fun hHeld => ?_)
        clear hK K
        (try simp only [Act.put, List.getElem_toArray, List.getElem_cons_zero, List.getElem_cons_succ, List.setIfInBounds_toArray, List.set_cons_zero, List.set_cons_succ])
        refine wpAnyH_ready (rs := [13, 16]) (by kernel_rfl) (by simp) ?_
        refine AllReadyH.cons rfl (fun K hK => ?_) (AllReadyH.cons rfl (fun K hK => ?_) AllReadyH.nil)
        · go_simp
          (go_at_call 12; refine (KA2.out _ (L2.out.ext hHeld)).mono ?_; rintro yy y3 ⟨rfl, hb⟩)
          have h12 := h12.ext hb
          refine hK.out _ _ (hHeld.trans hb) (fun hHeld => ?_)
          clear hK K
          (try simp only [Act.put, List.getElem_toArray, List.getElem_cons_zero, List.getElem_cons_succ, List.setIfInBounds_toArray, List.set_cons_zero, List.set_cons_succ])
          clear hb
          refine' wpAnyH_take (i := 14) (v := _) rfl (by kernel_rfl) (by kernel_rfl) (by kernel_rfl) (fun _ _ _ h => h) (Or.inl ⟨by rfl, ?hy19⟩) hHeld ?rest19
          case hy19 => (rintro W hM; go_simp; (try with_reducible rfl))
          case rest19 =>
          (try simp only [Act.put, List.getElem_toArray, List.getElem_cons_zero, List.getElem_cons_succ, List.setIfInBounds_toArray, List.set_cons_zero, List.set_cons_succ])
          refine' wpAnyH_take (i := 15) (v := _) rfl (by kernel_rfl) (by kernel_rfl) (by kernel_rfl) (fun _ _ _ h => h) (Or.inl ⟨by rfl, ?hy20⟩) hHeld ?rest20
          case hy20 => (rintro W hM; obtain ⟨p0, p1, p2, p3, p4⟩ := HV.out W hM; go_simp; (try with_reducible rfl))
          case rest20 =>
          (try simp only [Act.put, List.getElem_toArray, List.getElem_cons_zero, List.getElem_cons_succ, List.setIfInBounds_toArray, List.set_cons_zero, List.set_cons_succ])
          refine wpAnyH_ready (rs := [16]) (by kernel_rfl) (by simp) ?_
          refine AllReadyH.cons rfl (fun K hK => ?_) AllReadyH.nil
          have hlt : y1.heap.size < y3.heap.size := h12.lt
          go_simp
          generalize hV : World.alloc y3 _ = y4
          have h11 : Blk y4 y3.heap.size 32 #[.int .i64 0, .int .i64 0, .int .u64 0, .int .i64 0, .string ⟨#[]⟩] := by rw [← hV]; exact Blk.new _ _ _
          have hXX : Ext y3 y4 := by rw [← hV]; exact (Mod.refl [] _).alloc _
          have h11_n : Y3.heap.size ≤ y3.heap.size := hHeld.size
          clear hV
          have h12 := h12.ext hXX
          refine hK.out _ _ (hHeld.trans hXX) (fun hHeld => ?_)
          clear hK K
          (try simp only [Act.put, List.getElem_toArray, List.getElem_cons_zero, List.getElem_cons_succ, List.setIfInBounds_toArray, List.set_cons_zero, List.set_cons_succ])
          refine wpAnyH_ready (rs := [18]) (by kernel_rfl) (by simp) ?_
          refine AllReadyH.cons rfl (fun K hK => ?_) AllReadyH.nil
          refine wp_store_mid 32 _ _ rfl y3.heap.size 0 (BV.c (bs i)) (by rfl) (by rfl) (h11.there (Nat.le_refl 5)) (by kernel_rfl) (by simp [Value.oneCell']) ?_
          have hZB := setCells_all (ds := (BV.c (bs i))) h11 rfl
          have hZM := setCells_mod (b := y3.heap.size) ((BV.c (bs i)) : Array Value).toList 0 hHeld (.inr h11_n)
          have hZO := setCells_mod (w := y4) (W := y4) (S := [y3.heap.size]) (b := y3.heap.size) ((BV.c (bs i)) : Array Value).toList 0 (Mod.refl _ _) (.inl (by simp))
          generalize hZ : World.setCells _ y3.heap.size 0 _ = z1 at *
          clear hZ
          have h12 := h12.mod hZO (by simpa using Nat.ne_of_lt hlt)
          have h11 := hZB
          refine hK.out _ _ hZM (fun hHeld => ?_)
          clear hK K hZB hZM hZO
          (try simp only [Act.put, List.getElem_toArray, List.getElem_cons_zero, List.getElem_cons_succ, List.setIfInBounds_toArray, List.set_cons_zero, List.set_cons_succ])
          refine wpAnyH_ready (rs := [19]) (by kernel_rfl) (by simp) ?_
          refine AllReadyH.cons rfl (fun K hK => ?_) AllReadyH.nil
          refine wp_store_mid 32 _ _ rfl y1.heap.size 0 (BV.c (ds j)) (by rfl) (by rfl) (h12.there (Nat.le_refl 5)) (by kernel_rfl) (by simp [Value.oneCell']) ?_
          have hZB := setCells_all (ds := (BV.c (ds j))) h12 rfl
          have hZM := setCells_mod (b := y1.heap.size) ((BV.c (ds j)) : Array Value).toList 0 hHeld (.inr h12_n)
          have hZO := setCells_mod (w := z1) (W := z1) (S := [y1.heap.size]) (b := y1.heap.size) ((BV.c (ds j)) : Array Value).toList 0 (Mod.refl _ _) (.inl (by simp))
          generalize hZ : World.setCells _ y1.heap.size 0 _ = z2 at *
          clear hZ
          have h11 := h11.mod hZO (by simpa using Nat.ne_of_gt hlt)
          have h12 := hZB
          refine hK.out _ _ hZM (fun hHeld => ?_)
          clear hK K hZB hZM hZO
          (try simp only [Act.put, List.getElem_toArray, List.getElem_cons_zero, List.getElem_cons_succ, List.setIfInBounds_toArray, List.set_cons_zero, List.set_cons_succ])
          refine wpAnyH_done (by kernel_rfl) ?_ _
          go_wp2_with fail
          go_meet
          exact ⟨_, _, rfl, rfl, hHeld, h11, h12⟩
        · have hlt : y1.heap.size < y2.heap.size := h12.lt
          go_simp
          generalize hV : World.alloc y2 _ = y3
          have h11 : Blk y3 y2.heap.size 32 #[.int .i64 0, .int .i64 0, .int .u64 0, .int .i64 0, .string ⟨#[]⟩] := by rw [← hV]; exact Blk.new _ _ _
          have hXX : Ext y2 y3 := by rw [← hV]; exact (Mod.refl [] _).alloc _
          have h11_n : Y3.heap.size ≤ y2.heap.size := hHeld.size
          clear hV
          have h12 := h12.ext hXX
          refine hK.out _ _ (hHeld.trans hXX) (fun hHeld => ?_)
          clear hK K
          (try simp only [Act.put, List.getElem_toArray, List.getElem_cons_zero, List.getElem_cons_succ, List.setIfInBounds_toArray, List.set_cons_zero, List.set_cons_succ])
          refine wpAnyH_ready (rs := [13]) (by kernel_rfl) (by simp) ?_
          refine AllReadyH.cons rfl (fun K hK => ?_) AllReadyH.nil
          go_simp
          (go_at_call 12; refine (KA2.out _ (L2.out.ext hHeld)).mono ?_; rintro yy y4 ⟨rfl, hb⟩)
          have h12 := h12.ext hb
          have h11 := h11.ext hb
          refine hK.out _ _ (hHeld.trans hb) (fun hHeld => ?_)
          clear hK K
          (try simp only [Act.put, List.getElem_toArray, List.getElem_cons_zero, List.getElem_cons_succ, List.setIfInBounds_toArray, List.set_cons_zero, List.set_cons_succ])
          clear hb
          refine' wpAnyH_take (i := 14) (v := _) rfl (by kernel_rfl) (by kernel_rfl) (by kernel_rfl) (fun _ _ _ h => h) (Or.inl ⟨by rfl, ?hy21⟩) hHeld ?rest21
          case hy21 => (rintro W hM; go_simp; (try with_reducible rfl))
          case rest21 =>
          (try simp only [Act.put, List.getElem_toArray, List.getElem_cons_zero, List.getElem_cons_succ, List.setIfInBounds_toArray, List.set_cons_zero, List.set_cons_succ])
          refine' wpAnyH_take (i := 15) (v := _) rfl (by kernel_rfl) (by kernel_rfl) (by kernel_rfl) (fun _ _ _ h => h) (Or.inl ⟨by rfl, ?hy22⟩) hHeld ?rest22
          case hy22 => (rintro W hM; obtain ⟨p0, p1, p2, p3, p4⟩ := HV.out W hM; go_simp; (try with_reducible rfl))
          case rest22 =>
          (try simp only [Act.put, List.getElem_toArray, List.getElem_cons_zero, List.getElem_cons_succ, List.setIfInBounds_toArray, List.set_cons_zero, List.set_cons_succ])
          refine wpAnyH_ready (rs := [18]) (by kernel_rfl) (by simp) ?_
          refine AllReadyH.cons rfl (fun K hK => ?_) AllReadyH.nil
          refine wp_store_mid 32 _ _ rfl y2.heap.size 0 (BV.c (bs i)) (by rfl) (by rfl) (h11.there (Nat.le_refl 5)) (by kernel_rfl) (by simp [Value.oneCell']) ?_
          have hZB := setCells_all (ds := (BV.c (bs i))) h11 rfl
          have hZM := setCells_mod (b := y2.heap.size) ((BV.c (bs i)) : Array Value).toList 0 hHeld (.inr h11_n)
          have hZO := setCells_mod (w := y4) (W := y4) (S := [y2.heap.size]) (b := y2.heap.size) ((BV.c (bs i)) : Array Value).toList 0 (Mod.refl _ _) (.inl (by simp))
          generalize hZ : World.setCells _ y2.heap.size 0 _ = z1 at *
          clear hZ
          have h12 := h12.mod hZO (by simpa using Nat.ne_of_lt hlt)
          have h11 := hZB
          refine hK.out _ _ hZM (fun hHeld => ?_)
          clear hK K hZB hZM hZO
          (try simp only [Act.put, List.getElem_toArray, List.getElem_cons_zero, List.getElem_cons_succ, List.setIfInBounds_toArray, List.set_cons_zero, List.set_cons_succ])
          refine wpAnyH_ready (rs := [19]) (by kernel_rfl) (by simp) ?_
          refine AllReadyH.cons rfl (fun K hK => ?_) AllReadyH.nil
          refine wp_store_mid 32 _ _ rfl y1.heap.size 0 (BV.c (ds j)) (by rfl) (by rfl) (h12.there (Nat.le_refl 5)) (by kernel_rfl) (by simp [Value.oneCell']) ?_
          have hZB := setCells_all (ds := (BV.c (ds j))) h12 rfl
          have hZM := setCells_mod (b := y1.heap.size) ((BV.c (ds j)) : Array Value).toList 0 hHeld (.inr h12_n)
          have hZO := setCells_mod (w := z1) (W := z1) (S := [y1.heap.size]) (b := y1.heap.size) ((BV.c (ds j)) : Array Value).toList 0 (Mod.refl _ _) (.inl (by simp))
          generalize hZ : World.setCells _ y1.heap.size 0 _ = z2 at *
          clear hZ
          have h11 := h11.mod hZO (by simpa using Nat.ne_of_gt hlt)
          have h12 := hZB
          refine hK.out _ _ hZM (fun hHeld => ?_)
          clear hK K hZB hZM hZO
          (try simp only [Act.put, List.getElem_toArray, List.getElem_cons_zero, List.getElem_cons_succ, List.setIfInBounds_toArray, List.set_cons_zero, List.set_cons_succ])
          refine wpAnyH_done (by kernel_rfl) ?_ _
          go_wp2_with fail
          go_meet
          exact ⟨_, _, rfl, rfl, hHeld, h11, h12⟩
    · go_simp
      generalize hV : World.alloc u0 _ = y1
      have h11 : Blk y1 u0.heap.size 32 #[.int .i64 0, .int .i64 0, .int .u64 0, .int .i64 0, .string ⟨#[]⟩] := by rw [← hV]; exact Blk.new _ _ _
      have hXX : Ext u0 y1 := by rw [← hV]; exact (Mod.refl [] _).alloc _
      have h11_n : Y3.heap.size ≤ u0.heap.size := hHeld.size
      clear hV
      refine hK.out _ _ (hHeld.trans hXX) (fun hHeld => ?_)
      clear hK K
      (try simp only [Act.put, List.getElem_toArray, List.getElem_cons_zero, List.getElem_cons_succ, List.setIfInBounds_toArray, List.set_cons_zero, List.set_cons_succ])
      refine wpAnyH_ready (rs := [5, 17]) (by kernel_rfl) (by simp) ?_
      refine AllReadyH.cons rfl (fun K hK => ?_) (AllReadyH.cons rfl (fun K hK => ?_) AllReadyH.nil)
      · go_simp
        (go_at_call 12; refine (KA1.out _ (L1.out.ext hHeld)).mono ?_; rintro yy y2 ⟨rfl, hb⟩)
        have h11 := h11.ext hb
        refine hK.out _ _ (hHeld.trans hb) (fun hHeld => ?_)
        clear hK K
        (try simp only [Act.put, List.getElem_toArray, List.getElem_cons_zero, List.getElem_cons_succ, List.setIfInBounds_toArray, List.set_cons_zero, List.set_cons_succ])
        clear hb
        refine' wpAnyH_take (i := 6) (v := _) rfl (by kernel_rfl) (by kernel_rfl) (by kernel_rfl) (fun _ _ _ h => h) (Or.inl ⟨by rfl, ?hy23⟩) hHeld ?rest23
        case hy23 => (rintro W hM; go_simp; (try with_reducible rfl))
        case rest23 =>
        (try simp only [Act.put, List.getElem_toArray, List.getElem_cons_zero, List.getElem_cons_succ, List.setIfInBounds_toArray, List.set_cons_zero, List.set_cons_succ])
        refine' wpAnyH_take (i := 7) (v := _) rfl (by kernel_rfl) (by kernel_rfl) (by kernel_rfl) (fun _ _ _ h => h) (Or.inl ⟨by rfl, ?hy24⟩) hHeld ?rest24
        case hy24 => (rintro W hM; obtain ⟨p0, p1, p2, p3, p4⟩ := HQ.out W hM; go_simp; (try with_reducible rfl))
        case rest24 =>
        (try simp only [Act.put, List.getElem_toArray, List.getElem_cons_zero, List.getElem_cons_succ, List.setIfInBounds_toArray, List.set_cons_zero, List.set_cons_succ])
        refine wpAnyH_ready (rs := [13, 17]) (by kernel_rfl) (by simp) ?_
        refine AllReadyH.cons rfl (fun K hK => ?_) (AllReadyH.cons rfl (fun K hK => ?_) AllReadyH.nil)
        · go_simp
          (go_at_call 12; refine (KA2.out _ (L2.out.ext hHeld)).mono ?_; rintro yy y3 ⟨rfl, hb⟩)
          have h11 := h11.ext hb
          refine hK.out _ _ (hHeld.trans hb) (fun hHeld => ?_)
          clear hK K
          (try simp only [Act.put, List.getElem_toArray, List.getElem_cons_zero, List.getElem_cons_succ, List.setIfInBounds_toArray, List.set_cons_zero, List.set_cons_succ])
          clear hb
          refine' wpAnyH_take (i := 14) (v := _) rfl (by kernel_rfl) (by kernel_rfl) (by kernel_rfl) (fun _ _ _ h => h) (Or.inl ⟨by rfl, ?hy25⟩) hHeld ?rest25
          case hy25 => (rintro W hM; go_simp; (try with_reducible rfl))
          case rest25 =>
          (try simp only [Act.put, List.getElem_toArray, List.getElem_cons_zero, List.getElem_cons_succ, List.setIfInBounds_toArray, List.set_cons_zero, List.set_cons_succ])
          refine' wpAnyH_take (i := 15) (v := _) rfl (by kernel_rfl) (by kernel_rfl) (by kernel_rfl) (fun _ _ _ h => h) (Or.inl ⟨by rfl, ?hy26⟩) hHeld ?rest26
          case hy26 => (rintro W hM; obtain ⟨p0, p1, p2, p3, p4⟩ := HV.out W hM; go_simp; (try with_reducible rfl))
          case rest26 =>
          (try simp only [Act.put, List.getElem_toArray, List.getElem_cons_zero, List.getElem_cons_succ, List.setIfInBounds_toArray, List.set_cons_zero, List.set_cons_succ])
          refine wpAnyH_ready (rs := [17]) (by kernel_rfl) (by simp) ?_
          refine AllReadyH.cons rfl (fun K hK => ?_) AllReadyH.nil
          have hlt : u0.heap.size < y3.heap.size := h11.lt
          go_simp
          generalize hV : World.alloc y3 _ = y4
          have h12 : Blk y4 y3.heap.size 32 #[.int .i64 0, .int .i64 0, .int .u64 0, .int .i64 0, .string ⟨#[]⟩] := by rw [← hV]; exact Blk.new _ _ _
          have hXX : Ext y3 y4 := by rw [← hV]; exact (Mod.refl [] _).alloc _
          have h12_n : Y3.heap.size ≤ y3.heap.size := hHeld.size
          clear hV
          have h11 := h11.ext hXX
          refine hK.out _ _ (hHeld.trans hXX) (fun hHeld => ?_)
          clear hK K
          (try simp only [Act.put, List.getElem_toArray, List.getElem_cons_zero, List.getElem_cons_succ, List.setIfInBounds_toArray, List.set_cons_zero, List.set_cons_succ])
          refine wpAnyH_ready (rs := [18]) (by kernel_rfl) (by simp) ?_
          refine AllReadyH.cons rfl (fun K hK => ?_) AllReadyH.nil
          refine wp_store_mid 32 _ _ rfl u0.heap.size 0 (BV.c (bs i)) (by rfl) (by rfl) (h11.there (Nat.le_refl 5)) (by kernel_rfl) (by simp [Value.oneCell']) ?_
          have hZB := setCells_all (ds := (BV.c (bs i))) h11 rfl
          have hZM := setCells_mod (b := u0.heap.size) ((BV.c (bs i)) : Array Value).toList 0 hHeld (.inr h11_n)
          have hZO := setCells_mod (w := y4) (W := y4) (S := [u0.heap.size]) (b := u0.heap.size) ((BV.c (bs i)) : Array Value).toList 0 (Mod.refl _ _) (.inl (by simp))
          generalize hZ : World.setCells _ u0.heap.size 0 _ = z1 at *
          clear hZ
          have h12 := h12.mod hZO (by simpa using Nat.ne_of_gt hlt)
          have h11 := hZB
          refine hK.out _ _ hZM (fun hHeld => ?_)
          clear hK K hZB hZM hZO
          (try simp only [Act.put, List.getElem_toArray, List.getElem_cons_zero, List.getElem_cons_succ, List.setIfInBounds_toArray, List.set_cons_zero, List.set_cons_succ])
          refine wpAnyH_ready (rs := [19]) (by kernel_rfl) (by simp) ?_
          refine AllReadyH.cons rfl (fun K hK => ?_) AllReadyH.nil
          refine wp_store_mid 32 _ _ rfl y3.heap.size 0 (BV.c (ds j)) (by rfl) (by rfl) (h12.there (Nat.le_refl 5)) (by kernel_rfl) (by simp [Value.oneCell']) ?_
          have hZB := setCells_all (ds := (BV.c (ds j))) h12 rfl
          have hZM := setCells_mod (b := y3.heap.size) ((BV.c (ds j)) : Array Value).toList 0 hHeld (.inr h12_n)
          have hZO := setCells_mod (w := z1) (W := z1) (S := [y3.heap.size]) (b := y3.heap.size) ((BV.c (ds j)) : Array Value).toList 0 (Mod.refl _ _) (.inl (by simp))
          generalize hZ : World.setCells _ y3.heap.size 0 _ = z2 at *
          clear hZ
          have h11 := h11.mod hZO (by simpa using Nat.ne_of_lt hlt)
          have h12 := hZB
          refine hK.out _ _ hZM (fun hHeld => ?_)
          clear hK K hZB hZM hZO
          (try simp only [Act.put, List.getElem_toArray, List.getElem_cons_zero, List.getElem_cons_succ, List.setIfInBounds_toArray, List.set_cons_zero, List.set_cons_succ])
          refine wpAnyH_done (by kernel_rfl) ?_ _
          go_wp2_with fail
          go_meet
          exact ⟨_, _, rfl, rfl, hHeld, h11, h12⟩
        · have hlt : u0.heap.size < y2.heap.size := h11.lt
          go_simp
          generalize hV : World.alloc y2 _ = y3
          have h12 : Blk y3 y2.heap.size 32 #[.int .i64 0, .int .i64 0, .int .u64 0, .int .i64 0, .string ⟨#[]⟩] := by rw [← hV]; exact Blk.new _ _ _
          have hXX : Ext y2 y3 := by rw [← hV]; exact (Mod.refl [] _).alloc _
          have h12_n : Y3.heap.size ≤ y2.heap.size := hHeld.size
          clear hV
          have h11 := h11.ext hXX
          refine hK.out _ _ (hHeld.trans hXX) (fun hHeld => ?_)
          clear hK K
          (try simp only [Act.put, List.getElem_toArray, List.getElem_cons_zero, List.getElem_cons_succ, List.setIfInBounds_toArray, List.set_cons_zero, List.set_cons_succ])
          refine wpAnyH_ready (rs := [13]) (by kernel_rfl) (by simp) ?_
          refine AllReadyH.cons rfl (fun K hK => ?_) AllReadyH.nil
          go_simp
          (go_at_call 12; refine (KA2.out _ (L2.out.ext hHeld)).mono ?_; rintro yy y4 ⟨rfl, hb⟩)
          have h11 := h11.ext hb
          have h12 := h12.ext hb
          refine hK.out _ _ (hHeld.trans hb) (fun hHeld => ?_)
          clear hK K
          (try simp only [Act.put, List.getElem_toArray, List.getElem_cons_zero, List.getElem_cons_succ, List.setIfInBounds_toArray, List.set_cons_zero, List.set_cons_succ])
          clear hb
          refine' wpAnyH_take (i := 14) (v := _) rfl (by kernel_rfl) (by kernel_rfl) (by kernel_rfl) (fun _ _ _ h => h) (Or.inl ⟨by rfl, ?hy27⟩) hHeld ?rest27
          case hy27 => (rintro W hM; go_simp; (try with_reducible rfl))
          case rest27 =>
          (try simp only [Act.put, List.getElem_toArray, List.getElem_cons_zero, List.getElem_cons_succ, List.setIfInBounds_toArray, List.set_cons_zero, List.set_cons_succ])
          refine' wpAnyH_take (i := 15) (v := _) rfl (by kernel_rfl) (by kernel_rfl) (by kernel_rfl) (fun _ _ _ h => h) (Or.inl ⟨by rfl, ?hy28⟩) hHeld ?rest28
          case hy28 => (rintro W hM; obtain ⟨p0, p1, p2, p3, p4⟩ := HV.out W hM; go_simp; (try with_reducible rfl))
          case rest28 =>
          (try simp only [Act.put, List.getElem_toArray, List.getElem_cons_zero, List.getElem_cons_succ, List.setIfInBounds_toArray, List.set_cons_zero, List.set_cons_succ])
          refine wpAnyH_ready (rs := [18]) (by kernel_rfl) (by simp) ?_
          refine AllReadyH.cons rfl (fun K hK => ?_) AllReadyH.nil
          refine wp_store_mid 32 _ _ rfl u0.heap.size 0 (BV.c (bs i)) (by rfl) (by rfl) (h11.there (Nat.le_refl 5)) (by kernel_rfl) (by simp [Value.oneCell']) ?_
          have hZB := setCells_all (ds := (BV.c (bs i))) h11 rfl
          have hZM := setCells_mod (b := u0.heap.size) ((BV.c (bs i)) : Array Value).toList 0 hHeld (.inr h11_n)
          have hZO := setCells_mod (w := y4) (W := y4) (S := [u0.heap.size]) (b := u0.heap.size) ((BV.c (bs i)) : Array Value).toList 0 (Mod.refl _ _) (.inl (by simp))
          generalize hZ : World.setCells _ u0.heap.size 0 _ = z1 at *
          clear hZ
          have h12 := h12.mod hZO (by simpa using Nat.ne_of_gt hlt)
          have h11 := hZB
          refine hK.out _ _ hZM (fun hHeld => ?_)
          clear hK K hZB hZM hZO
          (try simp only [Act.put, List.getElem_toArray, List.getElem_cons_zero, List.getElem_cons_succ, List.setIfInBounds_toArray, List.set_cons_zero, List.set_cons_succ])
          refine wpAnyH_ready (rs := [19]) (by kernel_rfl) (by simp) ?_
          refine AllReadyH.cons rfl (fun K hK => ?_) AllReadyH.nil
          refine wp_store_mid 32 _ _ rfl y2.heap.size 0 (BV.c (ds j)) (by rfl) (by rfl) (h12.there (Nat.le_refl 5)) (by kernel_rfl) (by simp [Value.oneCell']) ?_
          have hZB := setCells_all (ds := (BV.c (ds j))) h12 rfl
          have hZM := setCells_mod (b := y2.heap.size) ((BV.c (ds j)) : Array Value).toList 0 hHeld (.inr h12_n)
          have hZO := setCells_mod (w := z1) (W := z1) (S := [y2.heap.size]) (b := y2.heap.size) ((BV.c (ds j)) : Array Value).toList 0 (Mod.refl _ _) (.inl (by simp))
          generalize hZ : World.setCells _ y2.heap.size 0 _ = z2 at *
          clear hZ
          have h11 := h11.mod hZO (by simpa using Nat.ne_of_lt hlt)
          have h12 := hZB
          refine hK.out _ _ hZM (fun hHeld => ?_)
          clear hK K hZB hZM hZO
          (try simp only [Act.put, List.getElem_toArray, List.getElem_cons_zero, List.getElem_cons_succ, List.setIfInBounds_toArray, List.set_cons_zero, List.set_cons_succ])
          refine wpAnyH_done (by kernel_rfl) ?_ _
          go_wp2_with fail
          go_meet
          exact ⟨_, _, rfl, rfl, hHeld, h11, h12⟩
      · have hlt : u0.heap.size < y1.heap.size := h11.lt
        go_simp
        generalize hV : World.alloc y1 _ = y2
        have h12 : Blk y2 y1.heap.size 32 #[.int .i64 0, .int .i64 0, .int .u64 0, .int .i64 0, .string ⟨#[]⟩] := by rw [← hV]; exact Blk.new _ _ _
        have hXX : Ext y1 y2 := by rw [← hV]; exact (Mod.refl [] _).alloc _
        have h12_n : Y3.heap.size ≤ y1.heap.size := hHeld.size
        clear hV
        have h11 := h11.ext hXX
        refine hK.out _ _ (hHeld.trans hXX) (fun hHeld => ?_)
        clear hK K
        (try simp only [Act.put, List.getElem_toArray, List.getElem_cons_zero, List.getElem_cons_succ, List.setIfInBounds_toArray, List.set_cons_zero, List.set_cons_succ])
        refine wpAnyH_ready (rs := [5]) (by kernel_rfl) (by simp) ?_
        refine AllReadyH.cons rfl (fun K hK => ?_) AllReadyH.nil
        go_simp
        (go_at_call 12; refine (KA1.out _ (L1.out.ext hHeld)).mono ?_; rintro yy y3 ⟨rfl, hb⟩)
        have h11 := h11.ext hb
        have h12 := h12.ext hb
        refine hK.out _ _ (hHeld.trans hb) (fun hHeld => ?_)
        clear hK K
        (try simp only [Act.put, List.getElem_toArray, List.getElem_cons_zero, List.getElem_cons_succ, List.setIfInBounds_toArray, List.set_cons_zero, List.set_cons_succ])
        clear hb
        refine' wpAnyH_take (i := 6) (v := _) rfl (by kernel_rfl) (by kernel_rfl) (by kernel_rfl) (fun _ _ _ h => h) (Or.inl ⟨by rfl, ?hy29⟩) hHeld ?rest29
        case hy29 => (rintro W hM; go_simp; (try with_reducible rfl))
        case rest29 =>
        (try simp only [Act.put, List.getElem_toArray, List.getElem_cons_zero, List.getElem_cons_succ, List.setIfInBounds_toArray, List.set_cons_zero, List.set_cons_succ])
        refine' wpAnyH_take (i := 7) (v := _) rfl (by kernel_rfl) (by kernel_rfl) (by kernel_rfl) (fun _ _ _ h => h) (Or.inl ⟨by rfl, ?hy30⟩) hHeld ?rest30
        case hy30 => (rintro W hM; obtain ⟨p0, p1, p2, p3, p4⟩ := HQ.out W hM; go_simp; (try with_reducible rfl))
        case rest30 =>
        (try simp only [Act.put, List.getElem_toArray, List.getElem_cons_zero, List.getElem_cons_succ, List.setIfInBounds_toArray, List.set_cons_zero, List.set_cons_succ])
        refine wpAnyH_ready (rs := [13]) (by kernel_rfl) (by simp) ?_
        refine AllReadyH.cons rfl (fun K hK => ?_) AllReadyH.nil
        go_simp
        (go_at_call 12; refine (KA2.out _ (L2.out.ext hHeld)).mono ?_; rintro yy y4 ⟨rfl, hb⟩)
        have h11 := h11.ext hb
        have h12 := h12.ext hb
        refine hK.out _ _ (hHeld.trans hb) (fun hHeld => ?_)
        clear hK K
        (try simp only [Act.put, List.getElem_toArray, List.getElem_cons_zero, List.getElem_cons_succ, List.setIfInBounds_toArray, List.set_cons_zero, List.set_cons_succ])
        clear hb
        refine' wpAnyH_take (i := 14) (v := _) rfl (by kernel_rfl) (by kernel_rfl) (by kernel_rfl) (fun _ _ _ h => h) (Or.inl ⟨by rfl, ?hy31⟩) hHeld ?rest31
        case hy31 => (rintro W hM; go_simp; (try with_reducible rfl))
        case rest31 =>
        (try simp only [Act.put, List.getElem_toArray, List.getElem_cons_zero, List.getElem_cons_succ, List.setIfInBounds_toArray, List.set_cons_zero, List.set_cons_succ])
        refine' wpAnyH_take (i := 15) (v := _) rfl (by kernel_rfl) (by kernel_rfl) (by kernel_rfl) (fun _ _ _ h => h) (Or.inl ⟨by rfl, ?hy32⟩) hHeld ?rest32
        case hy32 => (rintro W hM; obtain ⟨p0, p1, p2, p3, p4⟩ := HV.out W hM; go_simp; (try with_reducible rfl))
        case rest32 =>
        (try simp only [Act.put, List.getElem_toArray, List.getElem_cons_zero, List.getElem_cons_succ, List.setIfInBounds_toArray, List.set_cons_zero, List.set_cons_succ])
        refine wpAnyH_ready (rs := [18]) (by kernel_rfl) (by simp) ?_
        refine AllReadyH.cons rfl (fun K hK => ?_) AllReadyH.nil
        refine wp_store_mid 32 _ _ rfl u0.heap.size 0 (BV.c (bs i)) (by rfl) (by rfl) (h11.there (Nat.le_refl 5)) (by kernel_rfl) (by simp [Value.oneCell']) ?_
        have hZB := setCells_all (ds := (BV.c (bs i))) h11 rfl
        have hZM := setCells_mod (b := u0.heap.size) ((BV.c (bs i)) : Array Value).toList 0 hHeld (.inr h11_n)
        have hZO := setCells_mod (w := y4) (W := y4) (S := [u0.heap.size]) (b := u0.heap.size) ((BV.c (bs i)) : Array Value).toList 0 (Mod.refl _ _) (.inl (by simp))
        generalize hZ : World.setCells _ u0.heap.size 0 _ = z1 at *
        clear hZ
        have h12 := h12.mod hZO (by simpa using Nat.ne_of_gt hlt)
        have h11 := hZB
        refine hK.out _ _ hZM (fun hHeld => ?_)
        clear hK K hZB hZM hZO
        (try simp only [Act.put, List.getElem_toArray, List.getElem_cons_zero, List.getElem_cons_succ, List.setIfInBounds_toArray, List.set_cons_zero, List.set_cons_succ])
        refine wpAnyH_ready (rs := [19]) (by kernel_rfl) (by simp) ?_
        refine AllReadyH.cons rfl (fun K hK => ?_) AllReadyH.nil
        refine wp_store_mid 32 _ _ rfl y1.heap.size 0 (BV.c (ds j)) (by rfl) (by rfl) (h12.there (Nat.le_refl 5)) (by kernel_rfl) (by simp [Value.oneCell']) ?_
        have hZB := setCells_all (ds := (BV.c (ds j))) h12 rfl
        have hZM := setCells_mod (b := y1.heap.size) ((BV.c (ds j)) : Array Value).toList 0 hHeld (.inr h12_n)
        have hZO := setCells_mod (w := z1) (W := z1) (S := [y1.heap.size]) (b := y1.heap.size) ((BV.c (ds j)) : Array Value).toList 0 (Mod.refl _ _) (.inl (by simp))
        generalize hZ : World.setCells _ y1.heap.size 0 _ = z2 at *
        clear hZ
        have h11 := h11.mod hZO (by simpa using Nat.ne_of_lt hlt)
        have h12 := hZB
        refine hK.out _ _ hZM (fun hHeld => ?_)
        clear hK K hZB hZM hZO
        (try simp only [Act.put, List.getElem_toArray, List.getElem_cons_zero, List.getElem_cons_succ, List.setIfInBounds_toArray, List.set_cons_zero, List.set_cons_succ])
        refine wpAnyH_done (by kernel_rfl) ?_ _
        go_wp2_with fail
        go_meet
        exact ⟨_, _, rfl, rfl, hHeld, h11, h12⟩
    · go_simp
      generalize hV : World.alloc u0 _ = y1
      have h12 : Blk y1 u0.heap.size 32 #[.int .i64 0, .int .i64 0, .int .u64 0, .int .i64 0, .string ⟨#[]⟩] := by rw [← hV]; exact Blk.new _ _ _
      have hXX : Ext u0 y1 := by rw [← hV]; exact (Mod.refl [] _).alloc _
      have h12_n : Y3.heap.size ≤ u0.heap.size := hHeld.size
      clear hV
      refine hK.out _ _ (hHeld.trans hXX) (fun hHeld => ?_)
      clear hK K
      (try simp only [Act.put, List.getElem_toArray, List.getElem_cons_zero, List.getElem_cons_succ, List.setIfInBounds_toArray, List.set_cons_zero, List.set_cons_succ])
      refine wpAnyH_ready (rs := [5, 16]) (by kernel_rfl) (by simp) ?_
      refine AllReadyH.cons rfl (fun K hK => ?_) (AllReadyH.cons rfl (fun K hK => ?_) AllReadyH.nil)
      · go_simp
        (go_at_call 12; refine (KA1.out _ (L1.out.ext hHeld)).mono ?_; rintro yy y2 ⟨rfl, hb⟩)
        have h12 := h12.ext hb
        refine hK.out _ _ (hHeld.trans hb) (fun hHeld => ?_)
        clear hK K
        (try simp only [Act.put, List.getElem_toArray, List.getElem_cons_zero, List.getElem_cons_succ, List.setIfInBounds_toArray, List.set_cons_zero, List.set_cons_succ])
        clear hb
        refine' wpAnyH_take (i := 6) (v := _) rfl (by kernel_rfl) (by kernel_rfl) (by kernel_rfl) (fun _ _ _ h => h) (Or.inl ⟨by rfl, ?hy33⟩) hHeld ?rest33
        case hy33 => (rintro W hM; go_simp; (try with_reducible rfl))
        case rest33 =>
        (try simp only [Act.put, List.getElem_toArray, List.getElem_cons_zero, List.getElem_cons_succ, List.setIfInBounds_toArray, List.set_cons_zero, List.set_cons_succ])
        refine' wpAnyH_take (i := 7) (v := _) rfl (by kernel_rfl) (by kernel_rfl) (by kernel_rfl) (fun _ _ _ h => h) (Or.inl ⟨by rfl, ?hy34⟩) hHeld ?rest34
        case hy34 => (rintro W hM; obtain ⟨p0, p1, p2, p3, p4⟩ := HQ.out W hM; go_simp; (try with_reducible rfl))
        case rest34 =>
        (try simp only [Act.put, List.getElem_toArray, List.getElem_cons_zero, List.getElem_cons_succ, List.setIfInBounds_toArray, List.set_cons_zero, List.set_cons_succ])
        refine wpAnyH_ready (rs := [13, 16]) (by kernel_rfl) (by simp) ?_
        refine AllReadyH.cons rfl (fun K hK => ?_) (AllReadyH.cons rfl (fun K hK => ?_) AllReadyH.nil)
        · go_simp
          (go_at_call 12; refine (KA2.out _ (L2.out.ext hHeld)).mono ?_; rintro yy y3 ⟨rfl, hb⟩)
          have h12 := h12.ext hb
          refine hK.out _ _ (hHeld.trans hb) (fun hHeld => ?_)
          clear hK K
          (try simp only [Act.put, List.getElem_toArray, List.getElem_cons_zero, List.getElem_cons_succ, List.setIfInBounds_toArray, List.set_cons_zero, List.set_cons_succ])
          clear hb
          refine' wpAnyH_take (i := 14) (v := _) rfl (by kernel_rfl) (by kernel_rfl) (by kernel_rfl) (fun _ _ _ h => h) (Or.inl ⟨by rfl, ?hy35⟩) hHeld ?rest35
          case hy35 => (rintro W hM; go_simp; (try with_reducible rfl))
          case rest35 =>
          (try simp only [Act.put, List.getElem_toArray, List.getElem_cons_zero, List.getElem_cons_succ, List.setIfInBounds_toArray, List.set_cons_zero, List.set_cons_succ])
          refine' wpAnyH_take (i := 15) (v := _) rfl (by kernel_rfl) (by kernel_rfl) (by kernel_rfl) (fun _ _ _ h => h) (Or.inl ⟨by rfl, ?hy36⟩) hHeld ?rest36
          case hy36 => (rintro W hM; obtain ⟨p0, p1, p2, p3, p4⟩ := HV.out W hM; go_simp; (try with_reducible rfl))
          case rest36 =>
          (try simp only [Act.put, List.getElem_toArray, List.getElem_cons_zero, List.getElem_cons_succ, List.setIfInBounds_toArray, List.set_cons_zero, List.set_cons_succ])
          refine wpAnyH_ready (rs := [16]) (by kernel_rfl) (by simp) ?_
          refine AllReadyH.cons rfl (fun K hK => ?_) AllReadyH.nil
          have hlt : u0.heap.size < y3.heap.size := h12.lt
          go_simp
          generalize hV : World.alloc y3 _ = y4
          have h11 : Blk y4 y3.heap.size 32 #[.int .i64 0, .int .i64 0, .int .u64 0, .int .i64 0, .string ⟨#[]⟩] := by rw [← hV]; exact Blk.new _ _ _
          have hXX : Ext y3 y4 := by rw [← hV]; exact (Mod.refl [] _).alloc _
          have h11_n : Y3.heap.size ≤ y3.heap.size := hHeld.size
          clear hV
          have h12 := h12.ext hXX
          refine hK.out _ _ (hHeld.trans hXX) (fun hHeld => ?_)
          clear hK K
          (try simp only [Act.put, List.getElem_toArray, List.getElem_cons_zero, List.getElem_cons_succ, List.setIfInBounds_toArray, List.set_cons_zero, List.set_cons_succ])
          refine wpAnyH_ready (rs := [18]) (by kernel_rfl) (by simp) ?_
          refine AllReadyH.cons rfl (fun K hK => ?_) AllReadyH.nil
          refine wp_store_mid 32 _ _ rfl y3.heap.size 0 (BV.c (bs i)) (by rfl) (by rfl) (h11.there (Nat.le_refl 5)) (by kernel_rfl) (by simp [Value.oneCell']) ?_
          have hZB := setCells_all (ds := (BV.c (bs i))) h11 rfl
          have hZM := setCells_mod (b := y3.heap.size) ((BV.c (bs i)) : Array Value).toList 0 hHeld (.inr h11_n)
          have hZO := setCells_mod (w := y4) (W := y4) (S := [y3.heap.size]) (b := y3.heap.size) ((BV.c (bs i)) : Array Value).toList 0 (Mod.refl _ _) (.inl (by simp))
          generalize hZ : World.setCells _ y3.heap.size 0 _ = z1 at *
          clear hZ
          have h12 := h12.mod hZO (by simpa using Nat.ne_of_lt hlt)
          have h11 := hZB
          refine hK.out _ _ hZM (fun hHeld => ?_)
          clear hK K hZB hZM hZO
          (try simp only [Act.put, List.getElem_toArray, List.getElem_cons_zero, List.getElem_cons_succ, List.setIfInBounds_toArray, List.set_cons_zero, List.set_cons_succ])
          refine wpAnyH_ready (rs := [19]) (by kernel_rfl) (by simp) ?_
          refine AllReadyH.cons rfl (fun K hK => ?_) AllReadyH.nil
          refine wp_store_mid 32 _ _ rfl u0.heap.size 0 (BV.c (ds j)) (by rfl) (by rfl) (h12.there (Nat.le_refl 5)) (by kernel_rfl) (by simp [Value.oneCell']) ?_
          have hZB := setCells_all (ds := (BV.c (ds j))) h12 rfl
          have hZM := setCells_mod (b := u0.heap.size) ((BV.c (ds j)) : Array Value).toList 0 hHeld (.inr h12_n)
          have hZO := setCells_mod (w := z1) (W := z1) (S := [u0.heap.size]) (b := u0.heap.size) ((BV.c (ds j)) : Array Value).toList 0 (Mod.refl _ _) (.inl (by simp))
          generalize hZ : World.setCells _ u0.heap.size 0 _ = z2 at *
          clear hZ
          have h11 := h11.mod hZO (by simpa using Nat.ne_of_gt hlt)
          have h12 := hZB
          refine hK.out _ _ hZM (fun hHeld => ?_)
          clear hK K hZB hZM hZO
          (try simp only [Act.put, List.getElem_toArray, List.getElem_cons_zero, List.getElem_cons_succ, List.setIfInBounds_toArray, List.set_cons_zero, List.set_cons_succ])
          refine wpAnyH_done (by kernel_rfl) ?_ _
          go_wp2_with fail
          go_meet
          exact ⟨_, _, rfl, rfl, hHeld, h11, h12⟩
        · have hlt : u0.heap.size < y2.heap.size := h12.lt
          go_simp
          generalize hV : World.alloc y2 _ = y3
          have h11 : Blk y3 y2.heap.size 32 #[.int .i64 0, .int .i64 0, .int .u64 0, .int .i64 0, .string ⟨#[]⟩] := by rw [← hV]; exact Blk.new _ _ _
          have hXX : Ext y2 y3 := by rw [← hV]; exact (Mod.refl [] _).alloc _
          have h11_n : Y3.heap.size ≤ y2.heap.size := hHeld.size
          clear hV
          have h12 := h12.ext hXX
          refine hK.out _ _ (hHeld.trans hXX) (fun hHeld => ?_)
          clear hK K
          (try simp only [Act.put, List.getElem_toArray, List.getElem_cons_zero, List.getElem_cons_succ, List.setIfInBounds_toArray, List.set_cons_zero, List.set_cons_succ])
          refine wpAnyH_ready (rs := [13]) (by kernel_rfl) (by simp) ?_
          refine AllReadyH.cons rfl (fun K hK => ?_) AllReadyH.nil
          go_simp
          (go_at_call 12; refine (KA2.out _ (L2.out.ext hHeld)).mono ?_; rintro yy y4 ⟨rfl, hb⟩)
          have h12 := h12.ext hb
          have h11 := h11.ext hb
          refine hK.out _ _ (hHeld.trans hb) (fun hHeld => ?_)
          clear hK K
          (try simp only [Act.put, List.getElem_toArray, List.getElem_cons_zero, List.getElem_cons_succ, List.setIfInBounds_toArray, List.set_cons_zero, List.set_cons_succ])
          clear hb
          refine' wpAnyH_take (i := 14) (v := _) rfl (by kernel_rfl) (by kernel_rfl) (by kernel_rfl) (fun _ _ _ h => h) (Or.inl ⟨by rfl, ?hy37⟩) hHeld ?rest37
          case hy37 => (rintro W hM; go_simp; (try with_reducible rfl))
          case rest37 =>
          (try simp only [Act.put, List.getElem_toArray, List.getElem_cons_zero, List.getElem_cons_succ, List.setIfInBounds_toArray, List.set_cons_zero, List.set_cons_succ])
          refine' wpAnyH_take (i := 15) (v := _) rfl (by kernel_rfl) (by kernel_rfl) (by kernel_rfl) (fun _ _ _ h => h) (Or.inl ⟨by rfl, ?hy38⟩) hHeld ?rest38
          case hy38 => (rintro W hM; obtain ⟨p0, p1, p2, p3, p4⟩ := HV.out W hM; go_simp; (try with_reducible rfl))
          case rest38 =>
          (try simp only [Act.put, List.getElem_toArray, List.getElem_cons_zero, List.getElem_cons_succ, List.setIfInBounds_toArray, List.set_cons_zero, List.set_cons_succ])
          refine wpAnyH_ready (rs := [18]) (by kernel_rfl) (by simp) ?_
          refine AllReadyH.cons rfl (fun K hK => ?_) AllReadyH.nil
          refine wp_store_mid 32 _ _ rfl y2.heap.size 0 (BV.c (bs i)) (by rfl) (by rfl) (h11.there (Nat.le_refl 5)) (by kernel_rfl) (by simp [Value.oneCell']) ?_
          have hZB := setCells_all (ds := (BV.c (bs i))) h11 rfl
          have hZM := setCells_mod (b := y2.heap.size) ((BV.c (bs i)) : Array Value).toList 0 hHeld (.inr h11_n)
          have hZO := setCells_mod (w := y4) (W := y4) (S := [y2.heap.size]) (b := y2.heap.size) ((BV.c (bs i)) : Array Value).toList 0 (Mod.refl _ _) (.inl (by simp))
          generalize hZ : World.setCells _ y2.heap.size 0 _ = z1 at *
          clear hZ
          have h12 := h12.mod hZO (by simpa using Nat.ne_of_lt hlt)
          have h11 := hZB
          refine hK.out _ _ hZM (fun hHeld => ?_)
          clear hK K hZB hZM hZO
          (try simp only [Act.put, List.getElem_toArray, List.getElem_cons_zero, List.getElem_cons_succ, List.setIfInBounds_toArray, List.set_cons_zero, List.set_cons_succ])
          refine wpAnyH_ready (rs := [19]) (by kernel_rfl) (by simp) ?_
          refine AllReadyH.cons rfl (fun K hK => ?_) AllReadyH.nil
          refine wp_store_mid 32 _ _ rfl u0.heap.size 0 (BV.c (ds j)) (by rfl) (by rfl) (h12.there (Nat.le_refl 5)) (by kernel_rfl) (by simp [Value.oneCell']) ?_
          have hZB := setCells_all (ds := (BV.c (ds j))) h12 rfl
          have hZM := setCells_mod (b := u0.heap.size) ((BV.c (ds j)) : Array Value).toList 0 hHeld (.inr h12_n)
          have hZO := setCells_mod (w := z1) (W := z1) (S := [u0.heap.size]) (b := u0.heap.size) ((BV.c (ds j)) : Array Value).toList 0 (Mod.refl _ _) (.inl (by simp))
          generalize hZ : World.setCells _ u0.heap.size 0 _ = z2 at *
          clear hZ
          have h11 := h11.mod hZO (by simpa using Nat.ne_of_gt hlt)
          have h12 := hZB
          refine hK.out _ _ hZM (fun hHeld => ?_)
          clear hK K hZB hZM hZO
          (try simp only [Act.put, List.getElem_toArray, List.getElem_cons_zero, List.getElem_cons_succ, List.setIfInBounds_toArray, List.set_cons_zero, List.set_cons_succ])
          refine wpAnyH_done (by kernel_rfl) ?_ _
          go_wp2_with fail
          go_meet
          exact ⟨_, _, rfl, rfl, hHeld, h11, h12⟩
      · have hlt : u0.heap.size < y1.heap.size := h12.lt
        go_simp
        generalize hV : World.alloc y1 _ = y2
        have h11 : Blk y2 y1.heap.size 32 #[.int .i64 0, .int .i64 0, .int .u64 0, .int .i64 0, .string ⟨#[]⟩] := by rw [← hV]; exact Blk.new _ _ _
        have hXX : Ext y1 y2 := by rw [← hV]; exact (Mod.refl [] _).alloc _
        have h11_n : Y3.heap.size ≤ y1.heap.size := hHeld.size
        clear hV
        have h12 := h12.ext hXX
        refine hK.out _ _ (hHeld.trans hXX) (fun hHeld => ?_)
        clear hK K
        (try simp only [Act.put, List.getElem_toArray, List.getElem_cons_zero, List.getElem_cons_succ, List.setIfInBounds_toArray, List.set_cons_zero, List.set_cons_succ])
        refine wpAnyH_ready (rs := [5]) (by kernel_rfl) (by simp) ?_
        refine AllReadyH.cons rfl (fun K hK => ?_) AllReadyH.nil
        go_simp
        (go_at_call 12; refine (KA1.out _ (L1.out.ext hHeld)).mono ?_; rintro yy y3 ⟨rfl, hb⟩)
        have h12 := h12.ext hb
        have h11 := h11.ext hb
        refine hK.out _ _ (hHeld.trans hb) (fun hHeld => ?_)
        clear hK K
        (try simp only [Act.put, List.getElem_toArray, List.getElem_cons_zero, List.getElem_cons_succ, List.setIfInBounds_toArray, List.set_cons_zero, List.set_cons_succ])
        clear hb
        refine' wpAnyH_take (i := 6) (v := _) rfl (by kernel_rfl) (by kernel_rfl) (by kernel_rfl) (fun _ _ _ h => h) (Or.inl ⟨by rfl, ?hy39⟩) hHeld ?rest39
        case hy39 => (rintro W hM; go_simp; (try with_reducible rfl))
        case rest39 =>
        (try simp only [Act.put, List.getElem_toArray, List.getElem_cons_zero, List.getElem_cons_succ, List.setIfInBounds_toArray, List.set_cons_zero, List.set_cons_succ])
        refine' wpAnyH_take (i := 7) (v := _) rfl (by kernel_rfl) (by kernel_rfl) (by kernel_rfl) (fun _ _ _ h => h) (Or.inl ⟨by rfl, ?hy40⟩) hHeld ?rest40
        case hy40 => (rintro W hM; obtain ⟨p0, p1, p2, p3, p4⟩ := HQ.out W hM; go_simp; (try with_reducible rfl))
        case rest40 =>
        (try simp only [Act.put, List.getElem_toArray, List.getElem_cons_zero, List.getElem_cons_succ, List.setIfInBounds_toArray, List.set_cons_zero, List.set_cons_succ])
        refine wpAnyH_ready (rs := [13]) (by kernel_rfl) (by simp) ?_
        refine AllReadyH.cons rfl (fun K hK => ?_) AllReadyH.nil
        go_simp
        (go_at_call 12; refine (KA2.out _ (L2.out.ext hHeld)).mono ?_; rintro yy y4 ⟨rfl, hb⟩)
        have h12 := h12.ext hb
        have h11 := h11.ext hb
        refine hK.out _ _ (hHeld.trans hb) (fun hHeld => ?_)
        clear hK K
        (try simp only [Act.put, List.getElem_toArray, List.getElem_cons_zero, List.getElem_cons_succ, List.setIfInBounds_toArray, List.set_cons_zero, List.set_cons_succ])
        clear hb
        refine' wpAnyH_take (i := 14) (v := _) rfl (by kernel_rfl) (by kernel_rfl) (by kernel_rfl) (fun _ _ _ h => h) (Or.inl ⟨by rfl, ?hy41⟩) hHeld ?rest41
        case hy41 => (rintro W hM; go_simp; (try with_reducible rfl))
        case rest41 =>
        (try simp only [Act.put, List.getElem_toArray, List.getElem_cons_zero, List.getElem_cons_succ, List.setIfInBounds_toArray, List.set_cons_zero, List.set_cons_succ])
        refine' wpAnyH_take (i := 15) (v := _) rfl (by kernel_rfl) (by kernel_rfl) (by kernel_rfl) (fun _ _ _ h => h) (Or.inl ⟨by rfl, ?hy42⟩) hHeld ?rest42
        case hy42 => (rintro W hM; obtain ⟨p0, p1, p2, p3, p4⟩ := HV.out W hM; go_simp; (try with_reducible rfl))
        case rest42 =>
        (try simp only [Act.put, List.getElem_toArray, List.getElem_cons_zero, List.getElem_cons_succ, List.setIfInBounds_toArray, List.set_cons_zero, List.set_cons_succ])
        refine wpAnyH_ready (rs := [18]) (by kernel_rfl) (by simp) ?_
        refine AllReadyH.cons rfl (fun K hK => ?_) AllReadyH.nil
        refine wp_store_mid 32 _ _ rfl y1.heap.size 0 (BV.c (bs i)) (by rfl) (by rfl) (h11.there (Nat.le_refl 5)) (by kernel_rfl) (by simp [Value.oneCell']) ?_
        have hZB := setCells_all (ds := (BV.c (bs i))) h11 rfl
        have hZM := setCells_mod (b := y1.heap.size) ((BV.c (bs i)) : Array Value).toList 0 hHeld (.inr h11_n)
        have hZO := setCells_mod (w := y4) (W := y4) (S := [y1.heap.size]) (b := y1.heap.size) ((BV.c (bs i)) : Array Value).toList 0 (Mod.refl _ _) (.inl (by simp))
        generalize hZ : World.setCells _ y1.heap.size 0 _ = z1 at *
        clear hZ
        have h12 := h12.mod hZO (by simpa using Nat.ne_of_lt hlt)
        have h11 := hZB
        refine hK.out _ _ hZM (fun hHeld => ?_)
        clear hK K hZB hZM hZO
        (try simp only [Act.put, List.getElem_toArray, List.getElem_cons_zero, List.getElem_cons_succ, List.setIfInBounds_toArray, List.set_cons_zero, List.set_cons_succ])
        refine wpAnyH_ready (rs := [19]) (by kernel_rfl) (by simp) ?_
        refine AllReadyH.cons rfl (fun K hK => ?_) AllReadyH.nil
        refine wp_store_mid 32 _ _ rfl u0.heap.size 0 (BV.c (ds j)) (by rfl) (by rfl) (h12.there (Nat.le_refl 5)) (by kernel_rfl) (by simp [Value.oneCell']) ?_
        have hZB := setCells_all (ds := (BV.c (ds j))) h12 rfl
        have hZM := setCells_mod (b := u0.heap.size) ((BV.c (ds j)) : Array Value).toList 0 hHeld (.inr h12_n)
        have hZO := setCells_mod (w := z1) (W := z1) (S := [u0.heap.size]) (b := u0.heap.size) ((BV.c (ds j)) : Array Value).toList 0 (Mod.refl _ _) (.inl (by simp))
        generalize hZ : World.setCells _ u0.heap.size 0 _ = z2 at *
        clear hZ
        have h11 := h11.mod hZO (by simpa using Nat.ne_of_gt hlt)
        have h12 := hZB
        refine hK.out _ _ hZM (fun hHeld => ?_)
        clear hK K hZB hZM hZO
        (try simp only [Act.put, List.getElem_toArray, List.getElem_cons_zero, List.getElem_cons_succ, List.setIfInBounds_toArray, List.set_cons_zero, List.set_cons_succ])
        refine wpAnyH_done (by kernel_rfl) ?_ _
        go_wp2_with fail
        go_meet
        exact ⟨_, _, rfl, rfl, hHeld, h11, h12⟩
  obtain ⟨P, Q, rfl, rfl, hG⟩ := hcut
  have BP := hid hG.out.2.1
  have BQ := hid hG.out.2.2
  have HG1 := hid hG.out.1
  clear hG e
  generalize bs i = x at *
  generalize ds j = y at *
  have n2 : ∀ e : Later wc, e.x.cell? ⟨w.heap.size + 1 + 1 + 1, 1, none⟩ = some (.int .i64 (n : Int)) := (B3.out.ext HG1.out).cellL 1 rfl
  have BN4 := hid (BN3.out.ext HG1.out)
  have BM4 := hid (BM3.out.ext HG1.out)
  have HE4 := hid (HE3.out.trans HG1.out)
  obtain ⟨e, he⟩ := Later.self wc
  rw [he]
  clear he KA1 KA2 HS8 HQ HV i0 i1 i2 j0 j1 j2
  have hn8 := HN.out
  have a2 : n % 2 = 0 ∨ n % 2 = 1 := by omega
  have b2 : n / 2 % 2 = 0 ∨ n / 2 % 2 = 1 := by omega
  rcases a2 with a2 | a2 <;> rcases b2 with b2 | b2
  all_goals
    rw [a2, b2] at HT
    clear hn8
  · have z1 : (n : Int) % 2 = 0 := by omega
    have z2 : (n : Int) / 2 % 2 = 0 := by omega
    clear a2 b2
    go_wp2_with (first | (refine wpList_row (by rfl) 26 _ rfl _ rfl (BN4.out.later _) Try.underlying26 rfl (by kernel_rfl) ?_) | (refine wpList_row (by rfl) 26 _ rfl _ rfl (BM4.out.later _) Try.underlying26 rfl (by kernel_rfl) ?_) | (refine wpList_row (by rfl) 32 _ rfl _ rfl (BP.out.later _) Try.underlying32 rfl (by kernel_rfl) ?_) | (refine wpList_row (by rfl) 32 _ rfl _ rfl (BQ.out.later _) Try.underlying32 rfl (by kernel_rfl) ?_) | (go_at_call 34; refine (Ret.later (KXY.out _)).mono ?_; rintro x _ ⟨rfl, e, rfl⟩))
    go_ret
    exact Ret.mk (by rw [HT.out]; cases r <;> rfl) (HE4.out.trans e.h)
  · have z1 : (n : Int) % 2 = 0 := by omega
    have z2 : (n : Int) / 2 % 2 = 1 := by omega
    clear a2 b2
    go_wp2_with (first | (refine wpList_row (by rfl) 26 _ rfl _ rfl (BN4.out.later _) Try.underlying26 rfl (by kernel_rfl) ?_) | (refine wpList_row (by rfl) 26 _ rfl _ rfl (BM4.out.later _) Try.underlying26 rfl (by kernel_rfl) ?_) | (refine wpList_row (by rfl) 32 _ rfl _ rfl (BP.out.later _) Try.underlying32 rfl (by kernel_rfl) ?_) | (refine wpList_row (by rfl) 32 _ rfl _ rfl (BQ.out.later _) Try.underlying32 rfl (by kernel_rfl) ?_) | (go_at_call 34; refine (Ret.later (KXY.out _)).mono ?_; rintro x _ ⟨rfl, e, rfl⟩))
    go_ret
    exact Ret.mk (by rw [HT.out]; cases r <;> cases hdrB x y <;> rfl) (HE4.out.trans e.h)
  · have z1 : (n : Int) % 2 = 1 := by omega
    have z2 : (n : Int) / 2 % 2 = 0 := by omega
    clear a2 b2
    have hEQ := HEQ.out
    cases r
    · have tkN : True := trivial
      have tkM : True := trivial
      go_wp2_with (first | (clear tkN; refine wpList_row (by rfl) 26 _ rfl _ rfl (BN4.out.later _) Try.underlying26 rfl (by kernel_rfl) ?_) | (clear tkM; refine wpList_row (by rfl) 26 _ rfl _ rfl (BM4.out.later _) Try.underlying26 rfl (by kernel_rfl) ?_))
      go_ret
      exact Ret.mk (by rw [HT.out]; rfl) (HE4.out.trans e.h)
    · go_wp2_with (first | (refine wpList_row (by rfl) 26 _ rfl _ rfl (BN4.out.later _) Try.underlying26 rfl (by kernel_rfl) ?_) | (refine wpList_row (by rfl) 26 _ rfl _ rfl (BM4.out.later _) Try.underlying26 rfl (by kernel_rfl) ?_) | (refine wpList_row (by rfl) 32 _ rfl _ rfl (BP.out.later _) Try.underlying32 rfl (by kernel_rfl) ?_) | (refine wpList_row (by rfl) 32 _ rfl _ rfl (BQ.out.later _) Try.underlying32 rfl (by kernel_rfl) ?_) | (go_at_call 34; refine (Ret.later (KXY.out _)).mono ?_; rintro x _ ⟨rfl, e, rfl⟩))
      go_ret
      exact Ret.mk (by rw [HT.out]; rfl) (HE4.out.trans e.h)
  · have z1 : (n : Int) % 2 = 1 := by omega
    have z2 : (n : Int) / 2 % 2 = 1 := by omega
    clear a2 b2
    have hEQ := HEQ.out
    cases r
    · have tkN : True := trivial
      have tkM : True := trivial
      go_wp2_with (first | (clear tkN; refine wpList_row (by rfl) 26 _ rfl _ rfl (BN4.out.later _) Try.underlying26 rfl (by kernel_rfl) ?_) | (clear tkM; refine wpList_row (by rfl) 26 _ rfl _ rfl (BM4.out.later _) Try.underlying26 rfl (by kernel_rfl) ?_))
      go_ret
      exact Ret.mk (by rw [HT.out]; cases hdrB x y <;> rfl) (HE4.out.trans e.h)
    · go_wp2_with (first | (refine wpList_row (by rfl) 26 _ rfl _ rfl (BN4.out.later _) Try.underlying26 rfl (by kernel_rfl) ?_) | (refine wpList_row (by rfl) 26 _ rfl _ rfl (BM4.out.later _) Try.underlying26 rfl (by kernel_rfl) ?_) | (refine wpList_row (by rfl) 32 _ rfl _ rfl (BP.out.later _) Try.underlying32 rfl (by kernel_rfl) ?_) | (refine wpList_row (by rfl) 32 _ rfl _ rfl (BQ.out.later _) Try.underlying32 rfl (by kernel_rfl) ?_) | (go_at_call 34; refine (Ret.later (KXY.out _)).mono ?_; rintro x _ ⟨rfl, e, rfl⟩))
      go_ret
      exact Ret.mk (by rw [HT.out]; cases hdrB x y <;> rfl) (HE4.out.trans e.h)
end Go.Proofs.Ytkeabdfgacicaaa


namespace Go.Proofs.Ytkeabdfgacicaaa
open Go.RowKit
set_option linter.unusedVariables false
set_option linter.unusedSimpArgs false

theorem few_names {p : PV} (h : p.few = true) : p.d.name.length < 4611686018427387904 ∧ p.s.name.length < 4611686018427387904 ∧ p.r.name.length < 4611686018427387904 := by
  unfold PV.few at h
  simp only [Bool.and_eq_true, decide_eq_true_eq] at h
  omega
end Go.Proofs.Ytkeabdfgacicaaa
