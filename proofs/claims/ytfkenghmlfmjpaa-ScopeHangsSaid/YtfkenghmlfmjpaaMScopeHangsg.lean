/-
  What is signed, and what goes with what is sealed: code and reference against one plain answer.
  A bundle of one block.
  The layer's own awake; its argument At, opened.
  The law ScopeTexts, walked.
  Bundles that are right, and their bytes: plain.
  Bundles: how often a type occurs, whether a number does twice, the bytes, as the reference tells.
  Why a bundle is not right, as the reference tells.
  Rows of blocks of the call's own: their cells; what is appended to them.
  What is signed hangs on no sum and on no other block: plain.
  The law ScopeHangs, walked.
-/
import Derived.Test.YtfkenghmlfmjpaaMScopeHangsf
import Derived.Deep.AppendLies
import Derived.Deep.RegionLaw

namespace Go.Proofs.Ytfkenghmlfmjpaa
open Go.RowKit
set_option linter.unusedVariables false
set_option linter.unusedSimpArgs false

/-- What ref16.beside answers. -/
def r16Of (p : PV) (sec : BV) (bs : Nat → BV) (k : Nat) (target s : Int) : List UInt8 × List UInt8 × Int :=
  if s < 0 ∨ 7 < s then ([], [], 1)
  else if target = 0 then (if p.right ≠ 0 then ([], [], p.right) else if sec.right ≠ 0 then ([], [], sec.right) else (besB p.plain.bytes [] sec.hdr 0 s.toNat, p.plain.bytes, 0))
  else match firstOf (numB bs target) k with
    | none => ([], [], 15)
    | some i => if p.right ≠ 0 then ([], [], p.right) else if (bs i).right ≠ 0 then ([], [], (bs i).right) else if sec.right ≠ 0 then ([], [], sec.right)
        else (besB p.plain.bytes (bs i).hdr sec.hdr target s.toNat, headL 2 (bs i).data.length ++ (bs i).data, 0)
theorem besB_length {pr tg sc : List UInt8} {target : Int} {n : Nat} (h1 : pr.length ≤ 100000) (h2 : tg.length ≤ 100000) (h3 : sc.length ≤ 100000) : (besB pr tg sc target n).length ≤ 400000 := by
  have := headL_le 0 n
  unfold besB
  simp only [List.length_append]
  split <;> split <;> split <;> simp <;> omega
theorem hdr_length (b : BV) : b.hdr.length ≤ 100 := by have a := headL_le 0 b.ty.toNat; have c := headL_le 0 b.num.toNat; have d := headL_le 0 b.fl; unfold BV.hdr; simp only [List.length_append]; omega
theorem plain_length {p : PV} (h : p.right = 0) : p.plain.bytes.length ≤ 40000 := PV.bytes_length (PV.right_ranged (PV.plain_right h))
theorem r16Of_length {p : PV} {sec : BV} {bs : Nat → BV} {k : Nat} {target s : Int} (hd : ∀ i, i < k → (bs i).data.length ≤ 100000) : (r16Of p sec bs k target s).1.length ≤ 400000 ∧ (r16Of p sec bs k target s).2.1.length ≤ 200000 := by
  unfold r16Of
  by_cases c1 : s < 0 ∨ 7 < s
  · rw [if_pos c1]; simp
  · rw [if_neg c1]
    by_cases ht : target = 0
    · rw [if_pos ht]
      by_cases hb : p.right = 0
      · rw [if_neg (by simpa using hb)]
        have := plain_length hb
        by_cases hs : sec.right = 0
        · rw [if_neg (by simpa using hs)]
          exact ⟨besB_length (by omega) (by simp) (by have := hdr_length sec; omega), by show p.plain.bytes.length ≤ _; omega⟩
        · rw [if_pos hs]; simp
      · rw [if_pos hb]; simp
    · rw [if_neg ht]
      cases hfo : firstOf (numB bs target) k with
      | none => simp
      | some i =>
        have hi := (firstOf_spec hfo).1
        have := hd i hi
        have := headL_le 2 (bs i).data.length
        dsimp only
        by_cases hb : p.right = 0
        · rw [if_neg (by simpa using hb)]
          have := plain_length hb
          by_cases hx : (bs i).right = 0
          · rw [if_neg (by simpa using hx)]
            by_cases hs : sec.right = 0
            · rw [if_neg (by simpa using hs)]
              exact ⟨besB_length (by omega) (by have := hdr_length (bs i); omega) (by have := hdr_length sec; omega), by simp only [List.length_append]; omega⟩
            · rw [if_pos hs]; simp
          · rw [if_pos hx]; simp
        · rw [if_pos hb]; simp
theorem r16_any (p : PV) (sec : BV) (bs : Nat → BV) (k c : Nat) (A : Option Addr) (target s : Int) (hf : p.fl < 18446744073709551616) (hk : k < 4611686018427387904) (hd : ∀ i, i < k → (bs i).data.length ≤ 100000) (w : World) (h : BsL w A k bs) :
    Calls Try.prog 27 #[bunV p A k c, .int .i64 target, sec.v, .int .i64 s] w (Ret (.tuple #[str (r16Of p sec bs k target s).1, str (r16Of p sec bs k target s).2.1, .int .i64 (r16Of p sec bs k target s).2.2]) w) := by
  unfold r16Of
  by_cases c1 : s < 0 ∨ 7 < s
  · rw [if_pos c1]
    rcases c1 with c1 | c1
    · exact r16_neg p sec bs k c A target s c1 hk w h
    · exact r16_big p sec bs k c A target s c1 hk w h
  · rw [if_neg c1]
    obtain ⟨n, rfl⟩ : ∃ n : Nat, s = (n : Int) := ⟨s.toNat, by omega⟩
    have hn : n < 8 := by omega
    simp only [Int.toNat_natCast]
    by_cases ht : target = 0
    · subst ht
      rw [if_pos rfl]
      by_cases hb : p.right = 0
      · rw [if_neg (by simpa using hb)]
        by_cases hs : sec.right = 0
        · rw [if_neg (by simpa using hs)]; exact r16_ok0 p sec bs k c A n hn hb hs hk w h
        · rw [if_pos hs]; exact r16_sbad0 p sec bs k c A n hn hf hb hs hk w h
      · rw [if_pos hb]; exact r16_pbad0 p sec bs k c A n hn hf hb hk w h
    · rw [if_neg ht]
      cases hfo : firstOf (numB bs target) k with
      | none => exact r16_none p sec bs k c A target n hn hfo ht hk w h
      | some i =>
        dsimp only
        by_cases hb : p.right = 0
        · rw [if_neg (by simpa using hb)]
          by_cases hx : (bs i).right = 0
          · rw [if_neg (by simpa using hx)]
            by_cases hs : sec.right = 0
            · rw [if_neg (by simpa using hs)]; exact r16_okT p sec bs k c A target n hn hb hs i hx hfo ht (hd i (firstOf_spec hfo).1) hk w h
            · rw [if_pos hs]; exact r16_sbad p sec bs k c A target n hn hf hb i hx hs hfo ht hk w h
          · rw [if_pos hx]; exact r16_xbad p sec bs k c A target n hn hf hb i hx hfo ht hk w h
        · rw [if_pos hb]; exact r16_pbad p sec bs k c A target n hn hf hb i hfo ht hk w h
/-- What Text answers. -/
def sText (p : PV) (sec : BV) (bs : Nat → BV) (k : Nat) (target s : Int) : List UInt8 × Int := ((r16Of p sec bs k target s).1 ++ (r16Of p sec bs k target s).2.1, (r16Of p sec bs k target s).2.2)
/-- What Beside answers. -/
def sBes (p : PV) (sec : BV) (bs : Nat → BV) (k : Nat) (target s : Int) : List UInt8 × Int :=
  if (0 ≤ s ∧ s ≤ 7) ∧ target = 0 then ([], 8) else ((r16Of p sec bs k target s).1, (r16Of p sec bs k target s).2.2)
def tv (r : List UInt8 × Int) : Value := .tuple #[str r.1, .int .i64 r.2]
set_option maxRecDepth 20000 in
theorem rSText_any (p : PV) (sec : BV) (bs : Nat → BV) (k c : Nat) (A : Option Addr) (target s : Int) (hf : p.fl < 18446744073709551616) (hk : k < 4611686018427387904) (hd : ∀ i, i < k → (bs i).data.length ≤ 100000) (w : World) (h : BsL w A k bs) : Calls Try.prog 10 #[bunV p A k c, .int .i64 target, sec.v, .int .i64 s] w (Ret (tv (sText p sec bs k target s)) w) := by
  show Calls _ _ _ _ (Ret (.tuple #[str ((r16Of p sec bs k target s).1 ++ (r16Of p sec bs k target s).2.1), .int .i64 (r16Of p sec bs k target s).2.2]) w)
  have hl := r16Of_length (p := p) (sec := sec) (bs := bs) (k := k) (target := target) (s := s) hd
  generalize hX : r16Of p sec bs k target s = X at *
  have HE := hid (((Mod.refl [] w).alloc (.cells (bunC p A k c) 29)).alloc (.cells (BV.c sec) 31))
  have HB0 : Hid (Blk ((w.alloc (.cells (bunC p A k c) 29)).alloc (.cells (BV.c sec) 31)) w.heap.size 29 (bunC p A k c)) := hid ((Blk.new w 29 (bunC p A k c)).alloc (.cells (BV.c sec) 31))
  have HB1 : Hid (Blk ((w.alloc (.cells (bunC p A k c) 29)).alloc (.cells (BV.c sec) 31)) (w.heap.size + 1) 31 (BV.c sec)) := by unfold Hid; exact Blk.newL _ _ _ (by simp)
  have KB : Hid (∀ e : Later ((w.alloc (.cells (bunC p A k c) 29)).alloc (.cells (BV.c sec) 31)), Calls Try.prog 27 #[bunV p A k c, .int .i64 target, sec.v, .int .i64 s] e.x (Ret (.tuple #[str X.1, str X.2.1, .int .i64 X.2.2]) e.x)) := fun e => by rw [← hX]; exact r16_any p sec bs k c A target s hf hk hd e.x (h.ext (HE.out.trans e.h))
  clear hX hf hk hd h
  have l1 := hl.1
  have l2 := hl.2
  clear hl
  obtain ⟨x1, x2, x3⟩ := X
  dsimp only at *
  go_enter Try.func10, Try.ntmps10
  go_upto_region 1 with fail
  generalize ((w.alloc (.cells (bunC p A k c) 29)).alloc (.cells (BV.c sec) 31)) = V at *
  obtain ⟨e, he⟩ := Later.self V
  rw [he]
  clear he
  go_wp2_with (first | (refine wpList_cat (by rfl) _ _ _ _ rfl _ _ rfl rfl (by (try simp only [List.length_append, List.length_cons, List.length_nil]); omega) ?_) | (refine wpList_row (by rfl) 29 _ rfl _ rfl (HB0.out.later _) Try.underlying29 rfl (by kernel_rfl) ?_) | (refine wpList_row (by rfl) 31 _ rfl _ rfl (HB1.out.later _) Try.underlying31 rfl (by kernel_rfl) ?_) | (go_at_call 27; refine (Ret.later (KB.out _)).mono ?_; rintro x _ ⟨rfl, e, rfl⟩))
  go_ret2
  exact Ret.mk rfl (HE.out.trans e.h)
set_option maxRecDepth 20000 in
theorem rBes_0 (p : PV) (sec : BV) (bs : Nat → BV) (k c : Nat) (A : Option Addr) (target s : Int) (hf : p.fl < 18446744073709551616) (hk : k < 4611686018427387904) (hd : ∀ i, i < k → (bs i).data.length ≤ 100000) (h0 : 0 ≤ s) (h7 : s ≤ 7) (ht : target = 0) (w : World) (h : BsL w A k bs) : Calls Try.prog 12 #[bunV p A k c, .int .i64 target, sec.v, .int .i64 s] w (Ret (tv ([], 8)) w) := by
  have hl := r16Of_length (p := p) (sec := sec) (bs := bs) (k := k) (target := target) (s := s) hd
  generalize hX : r16Of p sec bs k target s = X at *
  have HE := hid (((Mod.refl [] w).alloc (.cells (bunC p A k c) 29)).alloc (.cells (BV.c sec) 31))
  have HB0 : Hid (Blk ((w.alloc (.cells (bunC p A k c) 29)).alloc (.cells (BV.c sec) 31)) w.heap.size 29 (bunC p A k c)) := hid ((Blk.new w 29 (bunC p A k c)).alloc (.cells (BV.c sec) 31))
  have HB1 : Hid (Blk ((w.alloc (.cells (bunC p A k c) 29)).alloc (.cells (BV.c sec) 31)) (w.heap.size + 1) 31 (BV.c sec)) := by unfold Hid; exact Blk.newL _ _ _ (by simp)
  have KB : Hid (∀ e : Later ((w.alloc (.cells (bunC p A k c) 29)).alloc (.cells (BV.c sec) 31)), Calls Try.prog 27 #[bunV p A k c, .int .i64 target, sec.v, .int .i64 s] e.x (Ret (.tuple #[str X.1, str X.2.1, .int .i64 X.2.2]) e.x)) := fun e => by rw [← hX]; exact r16_any p sec bs k c A target s hf hk hd e.x (h.ext (HE.out.trans e.h))
  clear hX hf hk hd h hl
  obtain ⟨x1, x2, x3⟩ := X
  dsimp only at *
  subst ht
  have saa : decide ((0 : Int) ≤ s) = true := decide_eq_true (by omega)
  have sab : ((0 : Int) ≤ s) = True := eq_true (by omega)
  have sba : decide (s ≤ (7 : Int)) = true := decide_eq_true (by omega)
  have sbb : (s ≤ (7 : Int)) = True := eq_true (by omega)
  clear h0 h7
  go_enter Try.func12, Try.ntmps12
  go_upto_region 1 with fail
  generalize ((w.alloc (.cells (bunC p A k c) 29)).alloc (.cells (BV.c sec) 31)) = V at *
  obtain ⟨e, he⟩ := Later.self V
  rw [he]
  clear he
  go_wp2_with (first | (refine wpList_row (by rfl) 29 _ rfl _ rfl (HB0.out.later _) Try.underlying29 rfl (by kernel_rfl) ?_) | (refine wpList_row (by rfl) 31 _ rfl _ rfl (HB1.out.later _) Try.underlying31 rfl (by kernel_rfl) ?_) | (go_at_call 27; refine (Ret.later (KB.out _)).mono ?_; rintro x _ ⟨rfl, e, rfl⟩))
  go_ret2
  exact Ret.mk rfl (HE.out.trans e.h)
set_option maxRecDepth 20000 in
theorem rBes_neg (p : PV) (sec : BV) (bs : Nat → BV) (k c : Nat) (A : Option Addr) (target s : Int) (hf : p.fl < 18446744073709551616) (hk : k < 4611686018427387904) (hd : ∀ i, i < k → (bs i).data.length ≤ 100000) (h0 : s < 0) (w : World) (h : BsL w A k bs) : Calls Try.prog 12 #[bunV p A k c, .int .i64 target, sec.v, .int .i64 s] w (Ret (.tuple #[str (r16Of p sec bs k target s).1, .int .i64 (r16Of p sec bs k target s).2.2]) w) := by
  have hl := r16Of_length (p := p) (sec := sec) (bs := bs) (k := k) (target := target) (s := s) hd
  generalize hX : r16Of p sec bs k target s = X at *
  have HE := hid (((Mod.refl [] w).alloc (.cells (bunC p A k c) 29)).alloc (.cells (BV.c sec) 31))
  have HB0 : Hid (Blk ((w.alloc (.cells (bunC p A k c) 29)).alloc (.cells (BV.c sec) 31)) w.heap.size 29 (bunC p A k c)) := hid ((Blk.new w 29 (bunC p A k c)).alloc (.cells (BV.c sec) 31))
  have HB1 : Hid (Blk ((w.alloc (.cells (bunC p A k c) 29)).alloc (.cells (BV.c sec) 31)) (w.heap.size + 1) 31 (BV.c sec)) := by unfold Hid; exact Blk.newL _ _ _ (by simp)
  have KB : Hid (∀ e : Later ((w.alloc (.cells (bunC p A k c) 29)).alloc (.cells (BV.c sec) 31)), Calls Try.prog 27 #[bunV p A k c, .int .i64 target, sec.v, .int .i64 s] e.x (Ret (.tuple #[str X.1, str X.2.1, .int .i64 X.2.2]) e.x)) := fun e => by rw [← hX]; exact r16_any p sec bs k c A target s hf hk hd e.x (h.ext (HE.out.trans e.h))
  clear hX hf hk hd h hl
  obtain ⟨x1, x2, x3⟩ := X
  dsimp only at *
  have saa : decide ((0 : Int) ≤ s) = false := decide_eq_false (by omega)
  have sab : ((0 : Int) ≤ s) = False := eq_false (by omega)
  clear h0
  go_enter Try.func12, Try.ntmps12
  go_upto_region 1 with fail
  generalize ((w.alloc (.cells (bunC p A k c) 29)).alloc (.cells (BV.c sec) 31)) = V at *
  obtain ⟨e, he⟩ := Later.self V
  rw [he]
  clear he
  go_wp2_with (first | (refine wpList_row (by rfl) 29 _ rfl _ rfl (HB0.out.later _) Try.underlying29 rfl (by kernel_rfl) ?_) | (refine wpList_row (by rfl) 31 _ rfl _ rfl (HB1.out.later _) Try.underlying31 rfl (by kernel_rfl) ?_) | (go_at_call 27; refine (Ret.later (KB.out _)).mono ?_; rintro x _ ⟨rfl, e, rfl⟩))
  go_ret2
  exact Ret.mk rfl (HE.out.trans e.h)
set_option maxRecDepth 20000 in
theorem rBes_big (p : PV) (sec : BV) (bs : Nat → BV) (k c : Nat) (A : Option Addr) (target s : Int) (hf : p.fl < 18446744073709551616) (hk : k < 4611686018427387904) (hd : ∀ i, i < k → (bs i).data.length ≤ 100000) (h7 : 7 < s) (w : World) (h : BsL w A k bs) : Calls Try.prog 12 #[bunV p A k c, .int .i64 target, sec.v, .int .i64 s] w (Ret (.tuple #[str (r16Of p sec bs k target s).1, .int .i64 (r16Of p sec bs k target s).2.2]) w) := by
  have hl := r16Of_length (p := p) (sec := sec) (bs := bs) (k := k) (target := target) (s := s) hd
  generalize hX : r16Of p sec bs k target s = X at *
  have HE := hid (((Mod.refl [] w).alloc (.cells (bunC p A k c) 29)).alloc (.cells (BV.c sec) 31))
  have HB0 : Hid (Blk ((w.alloc (.cells (bunC p A k c) 29)).alloc (.cells (BV.c sec) 31)) w.heap.size 29 (bunC p A k c)) := hid ((Blk.new w 29 (bunC p A k c)).alloc (.cells (BV.c sec) 31))
  have HB1 : Hid (Blk ((w.alloc (.cells (bunC p A k c) 29)).alloc (.cells (BV.c sec) 31)) (w.heap.size + 1) 31 (BV.c sec)) := by unfold Hid; exact Blk.newL _ _ _ (by simp)
  have KB : Hid (∀ e : Later ((w.alloc (.cells (bunC p A k c) 29)).alloc (.cells (BV.c sec) 31)), Calls Try.prog 27 #[bunV p A k c, .int .i64 target, sec.v, .int .i64 s] e.x (Ret (.tuple #[str X.1, str X.2.1, .int .i64 X.2.2]) e.x)) := fun e => by rw [← hX]; exact r16_any p sec bs k c A target s hf hk hd e.x (h.ext (HE.out.trans e.h))
  clear hX hf hk hd h hl
  obtain ⟨x1, x2, x3⟩ := X
  dsimp only at *
  have saa : decide ((0 : Int) ≤ s) = true := decide_eq_true (by omega)
  have sab : ((0 : Int) ≤ s) = True := eq_true (by omega)
  have sba : decide (s ≤ (7 : Int)) = false := decide_eq_false (by omega)
  have sbb : (s ≤ (7 : Int)) = False := eq_false (by omega)
  clear h7
  go_enter Try.func12, Try.ntmps12
  go_upto_region 1 with fail
  generalize ((w.alloc (.cells (bunC p A k c) 29)).alloc (.cells (BV.c sec) 31)) = V at *
  obtain ⟨e, he⟩ := Later.self V
  rw [he]
  clear he
  go_wp2_with (first | (refine wpList_row (by rfl) 29 _ rfl _ rfl (HB0.out.later _) Try.underlying29 rfl (by kernel_rfl) ?_) | (refine wpList_row (by rfl) 31 _ rfl _ rfl (HB1.out.later _) Try.underlying31 rfl (by kernel_rfl) ?_) | (go_at_call 27; refine (Ret.later (KB.out _)).mono ?_; rintro x _ ⟨rfl, e, rfl⟩))
  go_ret2
  exact Ret.mk rfl (HE.out.trans e.h)
set_option maxRecDepth 20000 in
theorem rBes_t (p : PV) (sec : BV) (bs : Nat → BV) (k c : Nat) (A : Option Addr) (target s : Int) (hf : p.fl < 18446744073709551616) (hk : k < 4611686018427387904) (hd : ∀ i, i < k → (bs i).data.length ≤ 100000) (h0 : 0 ≤ s) (h7 : s ≤ 7) (ht : target ≠ 0) (w : World) (h : BsL w A k bs) : Calls Try.prog 12 #[bunV p A k c, .int .i64 target, sec.v, .int .i64 s] w (Ret (.tuple #[str (r16Of p sec bs k target s).1, .int .i64 (r16Of p sec bs k target s).2.2]) w) := by
  have hl := r16Of_length (p := p) (sec := sec) (bs := bs) (k := k) (target := target) (s := s) hd
  generalize hX : r16Of p sec bs k target s = X at *
  have HE := hid (((Mod.refl [] w).alloc (.cells (bunC p A k c) 29)).alloc (.cells (BV.c sec) 31))
  have HB0 : Hid (Blk ((w.alloc (.cells (bunC p A k c) 29)).alloc (.cells (BV.c sec) 31)) w.heap.size 29 (bunC p A k c)) := hid ((Blk.new w 29 (bunC p A k c)).alloc (.cells (BV.c sec) 31))
  have HB1 : Hid (Blk ((w.alloc (.cells (bunC p A k c) 29)).alloc (.cells (BV.c sec) 31)) (w.heap.size + 1) 31 (BV.c sec)) := by unfold Hid; exact Blk.newL _ _ _ (by simp)
  have KB : Hid (∀ e : Later ((w.alloc (.cells (bunC p A k c) 29)).alloc (.cells (BV.c sec) 31)), Calls Try.prog 27 #[bunV p A k c, .int .i64 target, sec.v, .int .i64 s] e.x (Ret (.tuple #[str X.1, str X.2.1, .int .i64 X.2.2]) e.x)) := fun e => by rw [← hX]; exact r16_any p sec bs k c A target s hf hk hd e.x (h.ext (HE.out.trans e.h))
  clear hX hf hk hd h hl
  obtain ⟨x1, x2, x3⟩ := X
  dsimp only at *
  have saa : decide ((0 : Int) ≤ s) = true := decide_eq_true (by omega)
  have sab : ((0 : Int) ≤ s) = True := eq_true (by omega)
  have sba : decide (s ≤ (7 : Int)) = true := decide_eq_true (by omega)
  have sbb : (s ≤ (7 : Int)) = True := eq_true (by omega)
  have ta : ((target) == (0)) = false := by rw [beq_eq_false_iff_ne]; exact ht
  have tb : ((target) = (0)) = False := eq_false (by exact ht)
  have tc : ((target) != (0)) = true := by rw [bne_iff_ne]; exact ht
  clear h0 h7 ht
  go_enter Try.func12, Try.ntmps12
  go_upto_region 1 with fail
  generalize ((w.alloc (.cells (bunC p A k c) 29)).alloc (.cells (BV.c sec) 31)) = V at *
  obtain ⟨e, he⟩ := Later.self V
  rw [he]
  clear he
  go_wp2_with (first | (refine wpList_row (by rfl) 29 _ rfl _ rfl (HB0.out.later _) Try.underlying29 rfl (by kernel_rfl) ?_) | (refine wpList_row (by rfl) 31 _ rfl _ rfl (HB1.out.later _) Try.underlying31 rfl (by kernel_rfl) ?_) | (go_at_call 27; refine (Ret.later (KB.out _)).mono ?_; rintro x _ ⟨rfl, e, rfl⟩))
  go_ret2
  exact Ret.mk rfl (HE.out.trans e.h)
theorem rBes_any (p : PV) (sec : BV) (bs : Nat → BV) (k c : Nat) (A : Option Addr) (target s : Int) (hf : p.fl < 18446744073709551616) (hk : k < 4611686018427387904) (hd : ∀ i, i < k → (bs i).data.length ≤ 100000) (w : World) (h : BsL w A k bs) : Calls Try.prog 12 #[bunV p A k c, .int .i64 target, sec.v, .int .i64 s] w (Ret (tv (sBes p sec bs k target s)) w) := by
  unfold sBes
  by_cases c1 : (0 ≤ s ∧ s ≤ 7) ∧ target = 0
  · rw [if_pos c1]; exact rBes_0 p sec bs k c A target s hf hk hd c1.1.1 c1.1.2 c1.2 w h
  · rw [if_neg c1]
    by_cases c2 : s < 0
    · exact rBes_neg p sec bs k c A target s hf hk hd c2 w h
    · by_cases c3 : 7 < s
      · exact rBes_big p sec bs k c A target s hf hk hd c3 w h
      · exact rBes_t p sec bs k c A target s hf hk hd (by omega) (by omega) (fun ht => c1 ⟨⟨by omega, by omega⟩, ht⟩) w h
theorem cText_any (p : PV) (sec : BV) (bs : Nat → BV) (k c : Nat) (A : Option Addr) (target s : Int) (hf : p.fl < 18446744073709551616) (hk : k < 4611686018427387904) (hd : ∀ i, i < k → (bs i).data.length ≤ 100000) (hnl : Hid (p.d.name.length < 4611686018427387904 ∧ p.s.name.length < 4611686018427387904 ∧ p.r.name.length < 4611686018427387904)) (w : World) (h : BsL w A k bs) : Calls Try.prog 9 #[bunV p A k c, .int .i64 target, sec.v, .int .i64 s] w (Ret (tv (sText p sec bs k target s)) w) := by
  have hR : ∀ W, Ext w W → Calls Try.prog 25 #[bunV p A k c, .int .i64 target, sec.v] W (Ret (partsOf p bs k target sec).v W) := fun W hW => read_any p bs k c A target sec hnl hf hk hd W (h.ext hW)
  unfold sText r16Of
  by_cases c1 : s < 0 ∨ 7 < s
  · rw [if_pos c1]; exact cText_bad p sec k c A target s c1 w
  · rw [if_neg c1]
    obtain ⟨n, rfl⟩ : ∃ n : Nat, s = (n : Int) := ⟨s.toNat, by omega⟩
    have hn : n < 8 := by omega
    simp only [Int.toNat_natCast]
    by_cases hE : (partsOf p bs k target sec).err = 0
    · have hT : (∀ l1 l2 l3 l4, Calls Try.prog 9 #[bunV p A k c, .int .i64 target, sec.v, .int .i64 (n : Int)] w (Ret (.tuple #[str (besB (partsOf p bs k target sec).pr (partsOf p bs k target sec).tg (partsOf p bs k target sec).sc target n ++ (partsOf p bs k target sec).ow), .int .i64 0]) w)) := fun l1 l2 l3 l4 => cText_ok p sec k c A target n hn (partsOf p bs k target sec) hE l1 l2 l3 l4 w hR
      clear hR
      unfold partsOf at hE hT
      by_cases ht : target = 0
      · subst ht
        simp only [if_true] at hE hT ⊢
        by_cases hb : p.right = 0
        · simp only [hb, if_true, hdr0] at hE hT ⊢
          have := plain_length hb
          have := hdr_length sec
          simp only [hE, if_true] at hT ⊢
          exact hT (by omega) (by simp) (by omega) (by omega)
        · simp only [hb, if_false] at hE
      · simp only [ht, if_false] at hE hT ⊢
        cases hfo : firstOf (numB bs target) k with
        | none => rw [hfo] at hE; simp at hE
        | some i =>
          rw [hfo] at hE hT
          dsimp only at hE hT ⊢
          have := hd i (firstOf_spec hfo).1
          have := headL_le 2 (bs i).data.length
          by_cases hb : p.right = 0
          · simp only [hb, if_true] at hE hT ⊢
            have := plain_length hb
            have := hdr_length sec
            have := hdr_length (bs i)
            by_cases hx : (bs i).right = 0
            · simp only [hx, if_true, hdr0] at hE hT ⊢
              simp only [hE, if_true] at hT ⊢
              exact hT (by omega) (by omega) (by omega) (by simp only [List.length_append]; omega)
            · simp only [hx, if_false] at hE
          · simp only [hb, if_false] at hE
    · have hT := cText_err p sec k c A target n hn (partsOf p bs k target sec) hE w hR
      clear hR
      unfold partsOf at hE hT
      by_cases ht : target = 0
      · subst ht
        simp only [if_true] at hE hT ⊢
        by_cases hb : p.right = 0
        · simp only [hb, if_true, ne_eq, not_true_eq_false, if_false] at hE hT ⊢; rw [if_pos hE]; exact hT
        · simp only [hb, if_false, ne_eq, not_false_eq_true, if_true] at hE hT ⊢; exact hT
      · simp only [ht, if_false] at hE hT ⊢
        cases hfo : firstOf (numB bs target) k with
        | none => rw [hfo] at hT; exact hT
        | some i =>
          rw [hfo] at hE hT
          dsimp only at hE hT ⊢
          by_cases hb : p.right = 0
          · simp only [hb, if_true, ne_eq, not_true_eq_false, if_false] at hE hT ⊢
            by_cases hx : (bs i).right = 0
            · simp only [hx, if_true, ne_eq, not_true_eq_false, if_false] at hE hT ⊢; rw [if_pos hE]; exact hT
            · simp only [hx, if_false, ne_eq, not_false_eq_true, if_true] at hE hT ⊢; exact hT
          · simp only [hb, if_false, ne_eq, not_false_eq_true, if_true] at hE hT ⊢; exact hT
theorem cBes_any (p : PV) (sec : BV) (bs : Nat → BV) (k c : Nat) (A : Option Addr) (target s : Int) (hf : p.fl < 18446744073709551616) (hk : k < 4611686018427387904) (hd : ∀ i, i < k → (bs i).data.length ≤ 100000) (hnl : Hid (p.d.name.length < 4611686018427387904 ∧ p.s.name.length < 4611686018427387904 ∧ p.r.name.length < 4611686018427387904)) (w : World) (h : BsL w A k bs) : Calls Try.prog 11 #[bunV p A k c, .int .i64 target, sec.v, .int .i64 s] w (Ret (tv (sBes p sec bs k target s)) w) := by
  have hR : ∀ W, Ext w W → Calls Try.prog 25 #[bunV p A k c, .int .i64 target, sec.v] W (Ret (partsOf p bs k target sec).v W) := fun W hW => read_any p bs k c A target sec hnl hf hk hd W (h.ext hW)
  unfold sBes
  by_cases c1 : s < 0 ∨ 7 < s
  · rw [if_neg (by omega)]; unfold r16Of; rw [if_pos c1]; exact cBeside_bad p sec k c A target s c1 w
  · obtain ⟨n, rfl⟩ : ∃ n : Nat, s = (n : Int) := ⟨s.toNat, by omega⟩
    have hn : n < 8 := by omega
    by_cases ht : target = 0
    · rw [if_pos (by omega)]; subst ht; exact cBeside_0 p sec k c A n hn w
    · rw [if_neg (fun h => ht h.2)]
      unfold r16Of
      rw [if_neg c1, if_neg ht]
      simp only [Int.toNat_natCast]
      by_cases hE : (partsOf p bs k target sec).err = 0
      · have hT : (∀ l1 l2 l3 l4, Calls Try.prog 11 #[bunV p A k c, .int .i64 target, sec.v, .int .i64 (n : Int)] w (Ret (.tuple #[str (besB (partsOf p bs k target sec).pr (partsOf p bs k target sec).tg (partsOf p bs k target sec).sc target n), .int .i64 0]) w)) := fun l1 l2 l3 l4 => cBeside_ok p sec k c A target n hn (partsOf p bs k target sec) hE ht l1 l2 l3 l4 w hR
        clear hR
        unfold partsOf at hE hT
        simp only [ht, if_false] at hE hT ⊢
        cases hfo : firstOf (numB bs target) k with
        | none => rw [hfo] at hE; simp at hE
        | some i =>
          rw [hfo] at hE hT
          dsimp only at hE hT ⊢
          have := hd i (firstOf_spec hfo).1
          have := headL_le 2 (bs i).data.length
          by_cases hb : p.right = 0
          · simp only [hb, if_true] at hE hT ⊢
            have := plain_length hb
            have := hdr_length sec
            have := hdr_length (bs i)
            by_cases hx : (bs i).right = 0
            · simp only [hx, if_true, hdr0] at hE hT ⊢
              simp only [hE, if_true] at hT ⊢
              exact hT (by omega) (by omega) (by omega) (by simp only [List.length_append]; omega)
            · simp only [hx, if_false] at hE
          · simp only [hb, if_false] at hE
      · have hT := cBeside_err p sec k c A target n hn (partsOf p bs k target sec) hE ht w hR
        clear hR
        unfold partsOf at hE hT
        simp only [ht, if_false] at hE hT ⊢
        cases hfo : firstOf (numB bs target) k with
        | none => rw [hfo] at hT; exact hT
        | some i =>
          rw [hfo] at hE hT
          dsimp only at hE hT ⊢
          by_cases hb : p.right = 0
          · simp only [hb, if_true, ne_eq, not_true_eq_false, if_false] at hE hT ⊢
            by_cases hx : (bs i).right = 0
            · simp only [hx, if_true, ne_eq, not_true_eq_false, if_false] at hE hT ⊢; rw [if_pos hE]; exact hT
            · simp only [hx, if_false, ne_eq, not_false_eq_true, if_true] at hE hT ⊢; exact hT
          · simp only [hb, if_false, ne_eq, not_false_eq_true, if_true] at hE hT ⊢; exact hT
end Go.Proofs.Ytfkenghmlfmjpaa


namespace Go.Proofs.Ytfkenghmlfmjpaa
open Go.RowKit
set_option linter.unusedVariables false
set_option linter.unusedSimpArgs false

def someP : PV := ⟨0, 0, ⟨2, [], 2, 0⟩, ⟨2, [], 1, 0⟩, ⟨1, [110, 111, 110, 101], 0, 0⟩, 5, 0, 100, 0, 0⟩
def someB : Nat → BV := fun _ => ⟨1, 1, 0, 0, [104, 105]⟩
/-- A bundle's value whose one block lies in a new memory block. -/
def SomeR (w : World) (e : Ending) (w' : World) : Prop := ∃ g, e = .returned (bunV someP (some ⟨g, 0, none⟩) 1 1) ∧ Ext w w' ∧ BsL w' (some ⟨g, 0, none⟩) 1 someB
set_option maxRecDepth 20000 in
theorem some_any (w : World) : Calls Try.prog 16 #[] w (SomeR w) := by
  have HE := hid ((Mod.refl [] w).alloc (.cells #[.int .u64 0, .int .i64 0, .int .i64 0, .string ⟨#[]⟩, .int .u64 0, .int .u64 0, .int .i64 0, .string ⟨#[]⟩, .int .u64 0, .int .u64 0, .int .i64 0, .string ⟨#[]⟩, .int .u64 0, .int .u64 0, .int .u64 0, .int .u64 0, .int .u64 0, .int .u64 0, .int .u64 0, .slice none 0 0] 29))
  have HR := hid (Blk.new w 29 #[.int .u64 0, .int .i64 0, .int .i64 0, .string ⟨#[]⟩, .int .u64 0, .int .u64 0, .int .i64 0, .string ⟨#[]⟩, .int .u64 0, .int .u64 0, .int .i64 0, .string ⟨#[]⟩, .int .u64 0, .int .u64 0, .int .u64 0, .int .u64 0, .int .u64 0, .int .u64 0, .int .u64 0, .slice none 0 0])
  go_enter Try.func16, Try.ntmps16
  go_upto_region 1 with fail
  generalize w.alloc (.cells #[.int .u64 0, .int .i64 0, .int .i64 0, .string ⟨#[]⟩, .int .u64 0, .int .u64 0, .int .i64 0, .string ⟨#[]⟩, .int .u64 0, .int .u64 0, .int .i64 0, .string ⟨#[]⟩, .int .u64 0, .int .u64 0, .int .u64 0, .int .u64 0, .int .u64 0, .int .u64 0, .int .u64 0, .slice none 0 0] 29) = V at *
  go_upto_region 2 with (refine wpList_store_mid rfl 26 _ _ rfl V.heap.size 0 #[.int .u64 0, .int .i64 0, .int .i64 2, str [], .int .u64 2, .int .u64 0, .int .i64 2, str [], .int .u64 1, .int .u64 0, .int .i64 1, str [110, 111, 110, 101], .int .u64 0, .int .u64 0, .int .u64 5, .int .u64 0, .int .u64 100, .int .u64 0, .int .u64 0] (by rfl) (by rfl) ((Blk.new _ _ _).there (Nat.le_refl 19)) (by kernel_rfl) (by simp [Value.oneCell']) ?_)
  generalize hU : World.setCells _ _ _ _ = U
  have HX : Hid (Blk U V.heap.size 26 #[.int .u64 0, .int .i64 0, .int .i64 2, str [], .int .u64 2, .int .u64 0, .int .i64 2, str [], .int .u64 1, .int .u64 0, .int .i64 1, str [110, 111, 110, 101], .int .u64 0, .int .u64 0, .int .u64 5, .int .u64 0, .int .u64 100, .int .u64 0, .int .u64 0]) := hid (by rw [← hU]; exact setCells_all (ds := #[.int .u64 0, .int .i64 0, .int .i64 2, str [], .int .u64 2, .int .u64 0, .int .i64 2, str [], .int .u64 1, .int .u64 0, .int .i64 1, str [110, 111, 110, 101], .int .u64 0, .int .u64 0, .int .u64 5, .int .u64 0, .int .u64 100, .int .u64 0, .int .u64 0]) (Blk.new _ _ _) rfl)
  have HM : Hid (Ext V U) := hid (by rw [← hU]; exact setCells_mod _ _ ((Mod.refl [] V).alloc _) (.inr (Nat.le_refl _)))
  have HRU := hid (HR.out.ext HM.out)
  clear hU
  generalize V.heap.size = vs at *
  go_wp2_with (first | (refine wpList_row (by rfl) 26 _ rfl _ rfl HX.out Try.underlying26 rfl (by kernel_rfl) ?_) | (refine wpList_store_mid rfl 29 _ _ rfl w.heap.size 0 #[.int .u64 0, .int .i64 0, .int .i64 2, str [], .int .u64 2, .int .u64 0, .int .i64 2, str [], .int .u64 1, .int .u64 0, .int .i64 1, str [110, 111, 110, 101], .int .u64 0, .int .u64 0, .int .u64 5, .int .u64 0, .int .u64 100, .int .u64 0, .int .u64 0, .slice (some ⟨U.heap.size, 0, none⟩) 1 1] (by rfl) (by rfl) ((HRU.out.alloc _).there (Nat.le_refl 20)) (by kernel_rfl) (by simp [Value.oneCell']) ?_))
  generalize hW2 : World.setCells _ _ _ _ = W2
  have HXX : Hid (Blk W2 w.heap.size 29 #[.int .u64 0, .int .i64 0, .int .i64 2, str [], .int .u64 2, .int .u64 0, .int .i64 2, str [], .int .u64 1, .int .u64 0, .int .i64 1, str [110, 111, 110, 101], .int .u64 0, .int .u64 0, .int .u64 5, .int .u64 0, .int .u64 100, .int .u64 0, .int .u64 0, .slice (some ⟨U.heap.size, 0, none⟩) 1 1]) := hid (by rw [← hW2]; exact setCells_all (ds := #[.int .u64 0, .int .i64 0, .int .i64 2, str [], .int .u64 2, .int .u64 0, .int .i64 2, str [], .int .u64 1, .int .u64 0, .int .i64 1, str [110, 111, 110, 101], .int .u64 0, .int .u64 0, .int .u64 5, .int .u64 0, .int .u64 100, .int .u64 0, .int .u64 0, .slice (some ⟨U.heap.size, 0, none⟩) 1 1]) (HRU.out.alloc _) rfl)
  have HM2 : Hid (Ext w W2) := hid (by rw [← hW2]; exact setCells_mod _ _ ((HE.out.trans HM.out).alloc _) (.inr (Nat.le_refl _)))
  have HNB : Hid (Mod [w.heap.size] (U.alloc (.cells #[.int .i64 1, .int .i64 1, .int .u64 0, .int .i64 0, .string ⟨#[104, 105]⟩] 31)) W2) := hid (by rw [← hW2]; exact setCells_mod _ _ (Mod.refl _ _) (.inl (by simp)))
  have HNE : Hid (U.heap.size ≠ w.heap.size) := hid (by have := HRU.out.lt; omega)
  have HBX := hid (Blk.new U 31 #[.int .i64 1, .int .i64 1, .int .u64 0, .int .i64 0, .string ⟨#[104, 105]⟩])
  clear hW2
  refine bodyPost_ret (v := .agg #[.int .u64 0, .int .i64 0, .int .i64 2, str [], .int .u64 2, .int .u64 0, .int .i64 2, str [], .int .u64 1, .int .u64 0, .int .i64 1, str [110, 111, 110, 101], .int .u64 0, .int .u64 0, .int .u64 5, .int .u64 0, .int .u64 100, .int .u64 0, .int .u64 0, .slice (some ⟨U.heap.size, 0, none⟩) 1 1]) (results_cell Try.results16 _ rfl HXX.out Try.underlying29 rfl (by kernel_rfl)) rfl ?_
  have HB2 := HBX.out.mod HNB.out (by simpa using HNE.out)
  refine ⟨U.heap.size, rfl, HM2.out, fun _ => ⟨U.heap.size, 0, rfl, HB2.lt, fun i hi => ?_⟩⟩
  obtain rfl : i = 0 := by omega
  exact ⟨HB2.cell 0, HB2.cell 1, HB2.cell 2, HB2.cell 3, HB2.cell 4⟩
end Go.Proofs.Ytfkenghmlfmjpaa


namespace Go.Proofs.Ytfkenghmlfmjpaa
open Go.ChangeShapes Go.WideShapes Go.ChangeAt Go.RowKit Go.Deep
set_option linter.unusedVariables false
set_option linter.unusedSimpArgs false

def secB : BV := ⟨11, 2, 0, 0, []⟩
theorem someText : sText someP secB someB 1 1 0 = ([0, 66, 104, 105], 0) := by decide +kernel
set_option maxRecDepth 20000 in
theorem awake16_any (w : World) : Calls Try.prog 6 #[] w (Ret (.bool true) w) := by
  have KS := hid (fun W => some_any W)
  have KT : Hid (∀ W g, BsL W (some ⟨g, 0, none⟩) 1 someB → Calls Try.prog 9 #[bunV someP (some ⟨g, 0, none⟩) 1 1, .int .i64 1, secB.v, .int .i64 0] W (Ret (.tuple #[str [0, 66, 104, 105], .int .i64 0]) W)) := fun W g hL => by
    have := cText_any someP secB someB 1 1 (some ⟨g, 0, none⟩) 1 0 (by decide) (by omega) (fun i hi => by show [104, 105].length ≤ _; decide) (by unfold Hid; decide) W hL
    rw [someText] at this
    exact this
  go_enter Try.func6, Try.ntmps6
  go_wp2_with (first | (go_at_call 16; refine (KS.out _).mono ?_; rintro x w2 ⟨g, rfl, hx, hL⟩) | (go_at_call 9; refine (KT.out _ _ hL).mono ?_; rintro x w3 ⟨rfl, h3⟩))
  go_ret
  exact Ret.mk rfl (hx.trans h3)
section
variable {H : Type} {enc : TypeId × Value → H} {w : World} {base b0 : Nat} {spare : Nat → Bool} {held : Bool} {r : Reach}
set_option maxRecDepth 100000 in
theorem open_at {v : Value} {d : DataW H} {p : List MemPlace} (hval : Value.okWide Try.prog w r b0 33 v) (h : DataW.Trod enc Try.prog w base spare held 33 v d p) :
    ∃ n0 n1 : Int, v = .agg #[.int .i64 n0, .int .i64 n1] := by
  obtain ⟨cs, rfl, hsz⟩ := okWide_struct Try.underlying33 hval
  obtain ⟨fuel, hf⟩ := h
  obtain ⟨ys, n', hn', hy, hlen, hyl, hfl⟩ := DataW.trod_struct Try.underlying33 hf
  have hcs : (Value.agg cs).cells.toList = cs.toList := rfl
  rw [hcs] at hlen hfl
  obtain ⟨l⟩ := cs
  match l, hlen with
  | [c0, c1], _ =>
    have h0 := field_at (by kernel_rfl) hfl (i := 0) rfl rfl
    have h1 := field_at (by kernel_rfl) hfl (i := 1) rfl rfl
    clear hfl
    match ys, hyl with
    | [y0, y1], _ =>
      obtain ⟨t0, e0, _, w0⟩ := DataW.trod_int (k := .i64) (by kernel_rfl) h0
      obtain ⟨t1, e1, _, w1⟩ := DataW.trod_int (k := .i64) (by kernel_rfl) h1
      have q0 : c0 = .int .i64 t0 := by have : [c0] = [Value.int .i64 t0] := e0; simpa using this
      have q1 : c1 = .int .i64 t1 := by have : [c1] = [Value.int .i64 t1] := e1; simpa using this
      subst q0 q1
      exact ⟨t0, t1, rfl⟩
end
end Go.Proofs.Ytfkenghmlfmjpaa


namespace Go.Proofs.Ytfkenghmlfmjpaa
open Go.RowKit
set_option linter.unusedVariables false
set_option linter.unusedSimpArgs false

theorem few_names {p : PV} (h : p.few = true) : p.d.name.length < 4611686018427387904 ∧ p.s.name.length < 4611686018427387904 ∧ p.r.name.length < 4611686018427387904 := by
  unfold PV.few at h
  simp only [Bool.and_eq_true, decide_eq_true_eq] at h
  omega
set_option maxRecDepth 20000 in
set_option maxHeartbeats 1600000 in
theorem lawTexts_any (p : PV) (sec : BV) (bs : Nat → BV) (k c : Nat) (A : Option Addr) (target s : Int) (hf : p.fl < 18446744073709551616) (hk : k < 4611686018427387904) (w : World) (h : BsL w A k bs) : Calls Try.prog 4 #[bunV p A k c, sec.v, .agg #[.int .i64 target, .int .i64 s]] w (Ret (.bool true) w) := by
  have KA := hid (fun W => awake16_any W)
  have KF := hid (fun W (hW : BsL W A k bs) => few13_any p bs k c A hk W hW)
  have HE := hid ((((Mod.refl [] w).alloc (.cells (bunC p A k c) 29)).alloc (.cells (BV.c sec) 31)).alloc (.cells #[.int .i64 target, .int .i64 s] 33))
  have HB0 : Hid (Blk (((w.alloc (.cells (bunC p A k c) 29)).alloc (.cells (BV.c sec) 31)).alloc (.cells #[.int .i64 target, .int .i64 s] 33)) w.heap.size 29 (bunC p A k c)) := hid (((Blk.new w 29 (bunC p A k c)).alloc (.cells (BV.c sec) 31)).alloc (.cells #[.int .i64 target, .int .i64 s] 33))
  have HB1 : Hid (Blk (((w.alloc (.cells (bunC p A k c) 29)).alloc (.cells (BV.c sec) 31)).alloc (.cells #[.int .i64 target, .int .i64 s] 33)) (w.heap.size + 1) 31 (BV.c sec)) := by unfold Hid; have := (Blk.newL (N := (w.heap.size + 1)) (w.alloc (.cells (bunC p A k c) 29)) 31 (BV.c sec) (by simp)); exact (this.alloc (.cells #[.int .i64 target, .int .i64 s] 33))
  have HB2 : Hid (Blk (((w.alloc (.cells (bunC p A k c) 29)).alloc (.cells (BV.c sec) 31)).alloc (.cells #[.int .i64 target, .int .i64 s] 33)) (w.heap.size + 1 + 1) 33 #[.int .i64 target, .int .i64 s]) := by unfold Hid; exact Blk.newL _ _ _ (by simp)
  have HL := hid (BsL.ext h HE.out)
  clear h
  cases hF : bunFew p bs k with
  | false =>
    rw [hF] at KF
    clear hF
    clear hf hk
    go_enter Try.func4, Try.ntmps4
    go_upto_region 1 with fail
    generalize (((w.alloc (.cells (bunC p A k c) 29)).alloc (.cells (BV.c sec) 31)).alloc (.cells #[.int .i64 target, .int .i64 s] 33)) = V at *
    have c0 : ∀ e : Later V, e.x.cell? ⟨w.heap.size + 1 + 1, 0, none⟩ = some (.int .i64 target) := HB2.out.cellL 0 rfl
    have c1 : ∀ e : Later V, e.x.cell? ⟨w.heap.size + 1 + 1, 1, none⟩ = some (.int .i64 s) := HB2.out.cellL 1 rfl
    have d4 : ∀ e : Later V, e.x.cell? ⟨w.heap.size + 1, 4, none⟩ = some (str sec.data) := HB1.out.cellL 4 rfl
    obtain ⟨e, he⟩ := Later.self V
    rw [he]
    clear he
    go_wp2_with (first | (refine wpList_row (by rfl) 29 _ rfl _ rfl (HB0.out.later _) Try.underlying29 rfl (by kernel_rfl) ?_) | (refine wpList_row (by rfl) 31 _ rfl _ rfl (HB1.out.later _) Try.underlying31 rfl (by kernel_rfl) ?_) | (go_at_call 6; refine (Ret.later (KA.out _)).mono ?_; rintro x _ ⟨rfl, e, rfl⟩) | (go_at_call 7; refine (Ret.later (KF.out _ (HL.out.ext (Later.h _)))).mono ?_; rintro x _ ⟨rfl, e, rfl⟩))
    go_ret
    exact Ret.mk (by simp) (HE.out.trans e.h)
  | true =>
    obtain ⟨h20, hfew, hd2⟩ := bunFew_spec hF
    have hd : ∀ i, i < k → (bs i).data.length ≤ 100000 := fun i hi => by have := hd2 i hi; omega
    have hnl : Hid (p.d.name.length < 4611686018427387904 ∧ p.s.name.length < 4611686018427387904 ∧ p.r.name.length < 4611686018427387904) := few_names hfew
    rw [hF] at KF
    clear hF hfew hd2 h20
    have K1 : Hid (∀ W, BsL W A k bs → Calls Try.prog 9 #[bunV p A k c, .int .i64 target, sec.v, .int .i64 s] W (Ret (.tuple #[str (sText p sec bs k target s).1, .int .i64 (sText p sec bs k target s).2]) W)) := fun W hW => cText_any p sec bs k c A target s hf hk hd hnl W hW
    have K2 : Hid (∀ W, BsL W A k bs → Calls Try.prog 10 #[bunV p A k c, .int .i64 target, sec.v, .int .i64 s] W (Ret (.tuple #[str (sText p sec bs k target s).1, .int .i64 (sText p sec bs k target s).2]) W)) := fun W hW => rSText_any p sec bs k c A target s hf hk hd  W hW
    have K3 : Hid (∀ W, BsL W A k bs → Calls Try.prog 11 #[bunV p A k c, .int .i64 target, sec.v, .int .i64 s] W (Ret (.tuple #[str (sBes p sec bs k target s).1, .int .i64 (sBes p sec bs k target s).2]) W)) := fun W hW => cBes_any p sec bs k c A target s hf hk hd hnl W hW
    have K4 : Hid (∀ W, BsL W A k bs → Calls Try.prog 12 #[bunV p A k c, .int .i64 target, sec.v, .int .i64 s] W (Ret (.tuple #[str (sBes p sec bs k target s).1, .int .i64 (sBes p sec bs k target s).2]) W)) := fun W hW => rBes_any p sec bs k c A target s hf hk hd  W hW
    clear hd hnl
    generalize sText p sec bs k target s = T at *
    generalize sBes p sec bs k target s = U at *
    obtain ⟨t1, t2⟩ := T
    obtain ⟨u1, u2⟩ := U
    dsimp only at K1 K2 K3 K4
    by_cases hdat : sec.data.length ≤ 4100
    · have la : decide (4100 < sec.data.length) = false := decide_eq_false (by omega)
      have lb : (4100 < sec.data.length) = False := eq_false (by omega)
      have lc : decide ((4100 : Int) < (sec.data.length : Int)) = false := decide_eq_false (by omega)
      clear hdat
      clear hf hk
      go_enter Try.func4, Try.ntmps4
      go_upto_region 1 with fail
      generalize (((w.alloc (.cells (bunC p A k c) 29)).alloc (.cells (BV.c sec) 31)).alloc (.cells #[.int .i64 target, .int .i64 s] 33)) = V at *
      have c0 : ∀ e : Later V, e.x.cell? ⟨w.heap.size + 1 + 1, 0, none⟩ = some (.int .i64 target) := HB2.out.cellL 0 rfl
      have c1 : ∀ e : Later V, e.x.cell? ⟨w.heap.size + 1 + 1, 1, none⟩ = some (.int .i64 s) := HB2.out.cellL 1 rfl
      have d4 : ∀ e : Later V, e.x.cell? ⟨w.heap.size + 1, 4, none⟩ = some (str sec.data) := HB1.out.cellL 4 rfl
      obtain ⟨e, he⟩ := Later.self V
      rw [he]
      clear he
      go_wp2_with (first | (refine wpList_row (by rfl) 29 _ rfl _ rfl (HB0.out.later _) Try.underlying29 rfl (by kernel_rfl) ?_) | (refine wpList_row (by rfl) 31 _ rfl _ rfl (HB1.out.later _) Try.underlying31 rfl (by kernel_rfl) ?_) | (go_at_call 6; refine (Ret.later (KA.out _)).mono ?_; rintro x _ ⟨rfl, e, rfl⟩) | (go_at_call 7; refine (Ret.later (KF.out _ (HL.out.ext (Later.h _)))).mono ?_; rintro x _ ⟨rfl, e, rfl⟩) | (go_at_call 9; refine (Ret.later (K1.out _ (HL.out.ext (Later.h _)))).mono ?_; rintro x _ ⟨rfl, e, rfl⟩) | (go_at_call 10; refine (Ret.later (K2.out _ (HL.out.ext (Later.h _)))).mono ?_; rintro x _ ⟨rfl, e, rfl⟩) | (go_at_call 11; refine (Ret.later (K3.out _ (HL.out.ext (Later.h _)))).mono ?_; rintro x _ ⟨rfl, e, rfl⟩) | (go_at_call 12; refine (Ret.later (K4.out _ (HL.out.ext (Later.h _)))).mono ?_; rintro x _ ⟨rfl, e, rfl⟩))
      go_ret
      exact Ret.mk (by simp) (HE.out.trans e.h)
    · have la : decide (4100 < sec.data.length) = true := decide_eq_true (by omega)
      have lb : (4100 < sec.data.length) = True := eq_true (by omega)
      have lc : decide ((4100 : Int) < (sec.data.length : Int)) = true := decide_eq_true (by omega)
      clear hdat
      clear hf hk
      go_enter Try.func4, Try.ntmps4
      go_upto_region 1 with fail
      generalize (((w.alloc (.cells (bunC p A k c) 29)).alloc (.cells (BV.c sec) 31)).alloc (.cells #[.int .i64 target, .int .i64 s] 33)) = V at *
      have c0 : ∀ e : Later V, e.x.cell? ⟨w.heap.size + 1 + 1, 0, none⟩ = some (.int .i64 target) := HB2.out.cellL 0 rfl
      have c1 : ∀ e : Later V, e.x.cell? ⟨w.heap.size + 1 + 1, 1, none⟩ = some (.int .i64 s) := HB2.out.cellL 1 rfl
      have d4 : ∀ e : Later V, e.x.cell? ⟨w.heap.size + 1, 4, none⟩ = some (str sec.data) := HB1.out.cellL 4 rfl
      obtain ⟨e, he⟩ := Later.self V
      rw [he]
      clear he
      go_wp2_with (first | (refine wpList_row (by rfl) 29 _ rfl _ rfl (HB0.out.later _) Try.underlying29 rfl (by kernel_rfl) ?_) | (refine wpList_row (by rfl) 31 _ rfl _ rfl (HB1.out.later _) Try.underlying31 rfl (by kernel_rfl) ?_) | (go_at_call 6; refine (Ret.later (KA.out _)).mono ?_; rintro x _ ⟨rfl, e, rfl⟩) | (go_at_call 7; refine (Ret.later (KF.out _ (HL.out.ext (Later.h _)))).mono ?_; rintro x _ ⟨rfl, e, rfl⟩))
      go_ret
      exact Ret.mk (by simp) (HE.out.trans e.h)
end Go.Proofs.Ytfkenghmlfmjpaa


namespace Go.Proofs.Ytfkenghmlfmjpaa
open Go.RowKit
set_option linter.unusedVariables false
set_option linter.unusedSimpArgs false

def BV.bytes (b : BV) : List UInt8 := blkB b.ty.toNat b.num.toNat b.fl b.crc.toNat b.data (sumB b.ty.toNat b.num.toNat b.fl b.crc.toNat b.data)
/-- How many of the first k blocks have a type. -/
def cntB (bs : Nat → BV) (typ : Int) : Nat → Nat
  | 0 => 0
  | k + 1 => cntB bs typ k + (if (bs k).ty = typ then 1 else 0)
theorem cntB_le (bs : Nat → BV) (typ : Int) : ∀ k, cntB bs typ k ≤ k
  | 0 => Nat.le_refl _
  | k + 1 => by have := cntB_le bs typ k; rw [cntB]; split <;> omega
theorem cntB_no {bs : Nat → BV} {typ : Int} : ∀ {k : Nat}, (∀ j, j < k → tyB bs typ j = false) → cntB bs typ k = 0
  | 0, _ => rfl
  | k + 1, h => by
    have h1 := h k (by omega)
    have : (bs k).ty ≠ typ := by intro e; rw [tyB_yes e] at h1; cases h1
    rw [cntB, cntB_no fun j hj => h j (by omega), if_neg this]
theorem cntB_pos {bs : Nat → BV} {typ : Int} {i : Nat} : ∀ {k : Nat}, i < k → tyB bs typ i = true → 1 ≤ cntB bs typ k
  | k + 1, h, ht => by
    rw [cntB]
    by_cases e : i = k
    · subst e
      have : (bs i).ty = typ := by simpa [tyB] using ht
      rw [if_pos this]; omega
    · have := cntB_pos (k := k) (by omega) ht; omega
theorem cntB_find {bs : Nat → BV} {typ : Int} {k : Nat} : (firstOf (tyB bs typ) k).isSome = decide (cntB bs typ k ≠ 0) := by
  cases h : firstOf (tyB bs typ) k with
  | none => rw [cntB_no (firstOf_no h)]; rfl
  | some i => have := cntB_pos (firstOf_spec h).1 (firstOf_spec h).2.1; symm; simp; omega
/-- Has an earlier block this one's number? -/
def hasNumOf (bs : Nat → BV) (i j : Nat) : Bool := decide ((bs i).num = (bs j).num)
def dupAt (bs : Nat → BV) (i : Nat) : Bool := (firstOf (hasNumOf bs i) i).isSome
def dupB (bs : Nat → BV) (k : Nat) : Bool := (firstOf (dupAt bs) k).isSome
/-- The blocks' bytes, one behind the other. -/
def blksB (bs : Nat → BV) : Nat → List UInt8
  | 0 => []
  | k + 1 => blksB bs k ++ (bs k).bytes
def bunBytes (p : PV) (bs : Nat → BV) (k : Nat) : List UInt8 := 159 :: p.bytes ++ blksB bs k ++ [255]
def badAt (bs : Nat → BV) (i : Nat) : Bool := decide ((bs i).right ≠ 0)
def bunRule1 (bs : Nat → BV) (k : Nat) : Bool := decide (k = 0) || decide (cntB bs 1 k ≠ 1) || dupB bs k || decide (1 < cntB bs 6 k) || decide (1 < cntB bs 7 k) || decide (1 < cntB bs 10 k)
def bunRule2 (p : PV) (bs : Nat → BV) (k : Nat) : Bool := decide ((bs (k - 1)).ty ≠ 1) || (decide (p.t = 0) && decide (cntB bs 7 k = 0))
def bunRule3 (p : PV) (bs : Nat → BV) (k : Nat) : Bool := has p.fl 1 && decide (p.n < p.o + (bs (k - 1)).data.length)
/-- Why a bundle is not right. -/
def bunRight (p : PV) (bs : Nat → BV) (k : Nat) : Int :=
  if p.right ≠ 0 then p.right else match firstOf (badAt bs) k with
    | some i => (bs i).right
    | none => if 16 < k then 4 else if bunRule1 bs k then 8 else if bunRule2 p bs k then 8 else if bunRule3 p bs k then 8 else if 4000 < (bunBytes p bs k).length then 4 else 0
theorem bad_no {bs : Nat → BV} {i : Nat} (h : badAt bs i = false) : (bs i).right = 0 := by unfold badAt at h; simpa using h
theorem bunRight_zero {p : PV} {bs : Nat → BV} {k : Nat} (h : bunRight p bs k = 0) : p.right = 0 ∧ (∀ i, i < k → (bs i).right = 0) ∧ k ≤ 16 ∧ bunRule1 bs k = false ∧ bunRule2 p bs k = false ∧ bunRule3 p bs k = false ∧ (bunBytes p bs k).length ≤ 4000 := by
  unfold bunRight at h
  by_cases hb : p.right = 0
  · rw [if_neg (by simpa using hb)] at h
    cases hf : firstOf (badAt bs) k with
    | some i => rw [hf] at h; have := (firstOf_spec hf).2.1; exact absurd h (by simpa [badAt] using this)
    | none =>
      rw [hf] at h
      dsimp only at h
      by_cases h1 : 16 < k
      · rw [if_pos h1] at h; exact absurd h (by decide)
      · rw [if_neg h1] at h
        cases h2 : bunRule1 bs k with
        | true => rw [h2, if_pos rfl] at h; exact absurd h (by decide)
        | false =>
          rw [h2, if_neg (by decide)] at h
          cases h3 : bunRule2 p bs k with
          | true => rw [h3, if_pos rfl] at h; exact absurd h (by decide)
          | false =>
            rw [h3, if_neg (by decide)] at h
            cases h4 : bunRule3 p bs k with
            | true => rw [h4, if_pos rfl] at h; exact absurd h (by decide)
            | false =>
              rw [h4, if_neg (by decide)] at h
              by_cases h5 : 4000 < (bunBytes p bs k).length
              · rw [if_pos h5] at h; exact absurd h (by decide)
              · exact ⟨hb, fun i hi => bad_no (firstOf_no hf i hi), by omega, rfl, rfl, rfl, by omega⟩
  · rw [if_pos hb] at h; exact absurd h hb
/-- Numbers are there once. -/
theorem dup_no {bs : Nat → BV} {k : Nat} (h : dupB bs k = false) {i j : Nat} (hi : i < k) (hj : j < i) : (bs i).num ≠ (bs j).num := by
  unfold dupB at h
  have h1 : firstOf (dupAt bs) k = none := by cases hf : firstOf (dupAt bs) k with | none => rfl | some x => rw [hf] at h; cases h
  have h2 := firstOf_no h1 i hi
  unfold dupAt at h2
  have h3 : firstOf (hasNumOf bs i) i = none := by cases hf : firstOf (hasNumOf bs i) i with | none => rfl | some x => rw [hf] at h2; cases h2
  have h4 := firstOf_no h3 j hj
  simpa [hasNumOf] using h4
theorem rule1_dup {bs : Nat → BV} {k : Nat} (h : bunRule1 bs k = false) : dupB bs k = false := by
  unfold bunRule1 at h
  simp only [Bool.or_eq_false_iff] at h
  exact h.1.1.1.2
theorem BV.bytes_length {b : BV} (h : b.right = 0) : b.bytes.length < 1000000 := by
  obtain ⟨h1, h2, h3, h4, h5, h6, h7, h8, h9⟩ := BV.right_zero h
  exact blkB_length h8 (by rw [sumB_length (by omega)]; omega)
theorem blksB_length {bs : Nat → BV} : ∀ {k : Nat}, (∀ i, i < k → (bs i).right = 0) → (blksB bs k).length ≤ k * 1000000
  | 0, _ => by simp [blksB]
  | k + 1, h => by
    have h1 := blksB_length (k := k) fun i hi => h i (by omega)
    have h2 := BV.bytes_length (h k (by omega))
    rw [blksB, List.length_append]
    omega
theorem r12Build_any {b : BV} (h : b.right = 0) (w : World) : Calls Try.prog 32 #[b.v] w (Ret (str b.bytes) w) := by
  have hz := BV.right_zero h
  obtain ⟨ty, num, e⟩ := bv_nat h
  obtain ⟨crc, e2⟩ : ∃ c : Nat, b.crc = (c : Int) := ⟨b.crc.toNat, by omega⟩
  obtain ⟨bty, bnum, bfl, bcrc, bdata⟩ := b
  simp only [BV.mk.injEq] at e e2
  obtain ⟨rfl, rfl, -⟩ := e
  subst e2
  simp only [] at hz
  simpa [BV.bytes] using rBuild_ok ty num bfl crc bdata (by unfold Hid; omega) (by unfold Hid; omega) (by unfold Hid; omega) (by unfold Hid; omega) (by unfold Hid; omega) w
end Go.Proofs.Ytfkenghmlfmjpaa


namespace Go.Proofs.Ytfkenghmlfmjpaa
open Go.RowKit
set_option linter.unusedVariables false
set_option linter.unusedSimpArgs false

set_option maxRecDepth 20000 in
set_option maxHeartbeats 800000 in
theorem r13count_any (bs : Nat → BV) (k c : Nat) (A : Option Addr) (typ : Int) (hk : k < 4611686018427387904) (w : World) (h : BsL w A k bs) : Calls Try.prog 20 #[.slice A k c, .int .i64 typ] w (Ret (.int .i64 (cntB bs typ k : Nat)) w) := by
  have HL := hid h
  have k1 : (k : Int) < 4611686018427387904 := by omega
  clear h hk
  obtain ⟨e0, he0⟩ := Later.self w
  go_enter Try.func20, Try.ntmps20
  go_wp2_with fail
  go_loopw [5, 6] (fun s5 s6 wr => ∃ i : Nat, s6 = .int .i64 (i : Int) ∧ s5 = .int .i64 (cntB bs typ i : Nat) ∧ Hid (i ≤ k) ∧ ∃ e : Later w, wr = e.x) (fun _ s6 _ => k - (intOf s6).toNat)
  case atStart => exact ⟨0, rfl, rfl, (show Hid _ from Nat.zero_le _), e0, (by first | exact he0 | rfl)⟩
  case round =>
    clear he0 e0
    obtain ⟨i, rfl, rfl, hi, e, rfl⟩ := hrel
    have i0 : (0 : Int) ≤ (i : Int) := by omega
    by_cases hlt : i < k
    · obtain ⟨b, o, rfl, hb, q0, q1, q2, q3, q4⟩ := HL.out.cells hlt
      have tc : decide (i < k) = true := by simp [hlt]
      have i1 : (i : Int) < (k : Int) := by omega
      have HLT := hid hlt
      have hc0 : (0 : Int) ≤ (cntB bs typ i : Nat) := by omega
      have hc1 : ((cntB bs typ i : Nat) : Int) < 4611686018427387904 := by have := cntB_le bs typ i; omega
      clear hlt
      by_cases ht : (bs i).ty = typ
      · have HC : Hid (cntB bs typ (i + 1) = cntB bs typ i + 1) := by unfold Hid; rw [cntB, if_pos ht]
        have t1 : ((bs i).ty == typ) = true := by simpa using ht
        have t2 : ((bs i).ty = typ) = True := by simpa using ht
        clear ht
        generalize cntB bs typ i = n at *
        go_wp2_with fail
        go_roundw
        case rel => exact ⟨i + 1, by go_num, by rw [HC.out]; go_num, (show Hid _ from HLT.out), e, rfl⟩
        case measure => have := HLT.out; simp [intOf]; omega
      · have HC : Hid (cntB bs typ (i + 1) = cntB bs typ i) := by unfold Hid; rw [cntB, if_neg ht]; rfl
        have t1 : ((bs i).ty == typ) = false := by simpa using ht
        have t2 : ((bs i).ty = typ) = False := by simpa using ht
        clear ht
        generalize cntB bs typ i = n at *
        go_wp2_with fail
        go_roundw
        case rel => exact ⟨i + 1, by go_num, by rw [HC.out], (show Hid _ from HLT.out), e, rfl⟩
        case measure => have := HLT.out; simp [intOf]; omega
    · obtain rfl : i = k := by have := hi.out; omega
      have tc : decide (i < i) = false := by simp
      go_wp2_with fail
      go_ret
      exact Ret.mk rfl e.h
set_option maxRecDepth 20000 in
set_option maxHeartbeats 1600000 in
theorem r13twice_any (bs : Nat → BV) (k c : Nat) (A : Option Addr) (hk : k < 4611686018427387904) (w : World) (h : BsL w A k bs) : Calls Try.prog 21 #[.slice A k c] w (Ret (.bool (dupB bs k)) w) := by
  have HL := hid h
  have k1 : (k : Int) < 4611686018427387904 := by omega
  clear h hk
  obtain ⟨e0, he0⟩ := Later.self w
  go_enter Try.func21, Try.ntmps21
  go_wp2_with fail
  go_loopw [3] (fun s3 wr => ∃ i : Nat, s3 = .int .i64 (i : Int) ∧ Hid (i ≤ k ∧ ∀ j, j < i → dupAt bs j = false) ∧ ∃ e : Later w, wr = e.x) (fun s3 _ => k - (intOf s3).toNat)
  case atStart => exact ⟨0, rfl, (show Hid _ from ⟨Nat.zero_le _, fun j hj => by omega⟩), e0, (by first | exact he0 | rfl)⟩
  case round =>
    clear he0 e0
    obtain ⟨i, rfl, hi, e, rfl⟩ := hrel
    have i0 : (0 : Int) ≤ (i : Int) := by omega
    by_cases hlt : i < k
    · obtain ⟨b, o, rfl, hb, q0, q1, q2, q3, q4⟩ := HL.out.cells hlt
      have tc : decide (i < k) = true := by simp [hlt]
      have i1 : (i : Int) < (k : Int) := by omega
      have HLT := hid hlt
      clear hlt
      go_wp2_with fail
      go_loopw [4] (fun s4 wr => ∃ j : Nat, s4 = .int .i64 (j : Int) ∧ Hid (j ≤ i ∧ ∀ m, m < j → hasNumOf bs i m = false) ∧ ∃ e : Later w, wr = e.x) (fun s4 _ => i - (intOf s4).toNat)
      case atStart => exact ⟨0, rfl, (show Hid _ from ⟨Nat.zero_le _, fun j hj => by omega⟩), e, rfl⟩
      case round =>
        obtain ⟨j, rfl, hj, e3, rfl⟩ := hrel
        have j0 : (0 : Int) ≤ (j : Int) := by omega
        by_cases hjt : j < i
        · have hjk : j < k := Nat.lt_trans hjt HLT.out
          obtain ⟨b', o', hA', hb', u0, u1, u2, u3, u4⟩ := HL.out.cells hjk
          cases hA'
          have tj : decide (j < i) = true := by simp [hjt]
          have j1 : (j : Int) < (i : Int) := by omega
          have j2 : (j : Int) < (k : Int) := by omega
          have HJT := hid hjt
          clear hjt hjk
          by_cases ht : hasNumOf bs i j = true
          · have HF : Hid (dupB bs k = true) := by
              unfold Hid dupB
              rw [firstOf_some HLT.out (by unfold dupAt; rw [firstOf_some HJT.out ht hj.out.2]; rfl) hi.out.2]; rfl
            have hn : (bs i).num = (bs j).num := by simpa [hasNumOf] using ht
            have t1 : ((bs i).num == (bs j).num) = true := by simpa using hn
            have t2 : ((bs i).num = (bs j).num) = True := by simpa using hn
            clear ht hn
            generalize (bs i).num = ni at *
            generalize (bs j).num = nj at *
            clear hb hb'
            go_upto_region 7 with fail
            refine wp_region_later (by kernel_rfl) (by kernel_rfl) ?_
            repeat (first | go_big_quiet_step (fail))
            refine wpQuiet_nil ?_
            rintro _ ⟨e, rfl⟩
            go_wp2_with fail
            go_ret
            exact Ret.mk (by rw [HF.out]; rfl) e.h
          · have HN : Hid (hasNumOf bs i j = false) := by unfold Hid; simpa using ht
            have hn : ¬ (bs i).num = (bs j).num := by simpa [hasNumOf] using ht
            have t1 : ((bs i).num == (bs j).num) = false := by simpa using hn
            have t2 : ((bs i).num = (bs j).num) = False := by simpa using hn
            clear ht hn
            generalize hni : (bs i).num = ni at *
            generalize hnj : (bs j).num = nj at *
            clear hni hnj hb hb'
            go_upto_region 7 with fail
            refine wp_region_later (by kernel_rfl) (by kernel_rfl) ?_
            repeat (first | go_big_quiet_step (fail))
            refine wpQuiet_nil ?_
            rintro _ ⟨e, rfl⟩
            go_wp2_with fail
            go_roundw
            case rel => exact ⟨j + 1, by go_num, (show Hid _ from ⟨HJT.out, fun m hm => by
              by_cases hmj : m = j
              · subst hmj; exact HN.out
              · exact hj.out.2 m (by omega)⟩), e, rfl⟩
            case measure => have := HJT.out; simp [intOf]; omega
        · obtain rfl : j = i := by have := hj.out.1; omega
          have tj : decide (j < j) = false := by simp
          have HN : Hid (dupAt bs j = false) := by unfold Hid dupAt; rw [firstOf_none hj.out.2]; rfl
          go_wp2_with fail
          go_roundw
          case rel => exact ⟨j + 1, by go_num, (show Hid _ from ⟨HLT.out, fun m hm => by
            by_cases hmj : m = j
            · subst hmj; exact HN.out
            · exact hi.out.2 m (by omega)⟩), e3, rfl⟩
          case measure => have := HLT.out; simp [intOf]; omega
    · obtain rfl : i = k := by have := hi.out.1; omega
      have tc : decide (i < i) = false := by simp
      have HF : Hid (dupB bs i = false) := by unfold Hid dupB; rw [firstOf_none hi.out.2]; rfl
      go_wp2_with fail
      go_ret
      exact Ret.mk (by rw [HF.out]; rfl) e.h
set_option maxRecDepth 20000 in
set_option maxHeartbeats 1600000 in
theorem r13Bytes_any (p : PV) (bs : Nat → BV) (k c : Nat) (A : Option Addr) (hk : k ≤ 100000) (hp : p.right = 0) (hbs : ∀ i, i < k → (bs i).right = 0) (w : World) (h : BsL w A k bs) : Calls Try.prog 23 #[bunV p A k c] w (Ret (str (bunBytes p bs k)) w) := by
  have HE := hid ((Mod.refl [] w).alloc (.cells (bunC p A k c) 29))
  have HB0 : Hid (Blk (w.alloc (.cells (bunC p A k c) 29)) w.heap.size 29 (bunC p A k c)) := hid (Blk.new w 29 (bunC p A k c))
  have HL := hid (BsL.ext h HE.out)
  have k1 : (k : Int) ≤ 100000 := by omega
  have HK := hid hk
  have HBS := hid hbs
  have KP := hid (fun W => r11Build_ok p (PV.right_ranged hp) W)
  have lP : p.bytes.length ≤ 40000 := PV.bytes_length (PV.right_ranged hp)
  have HRes : Hid (bunBytes p bs k = (159 :: p.bytes) ++ blksB bs k ++ [255]) := rfl
  clear h hk hbs hp
  generalize p.bytes = PB at *
  generalize bunBytes p bs k = RES at *
  go_enter Try.func23, Try.ntmps23
  go_upto_region 1 with fail
  generalize (w.alloc (.cells (bunC p A k c) 29)) = V at *
  have HPR : Hid (∀ e : Later V, e.x.rangeAt w.heap.size 0 p.c.toList) := HB0.out.range 0 19 (by rw [Array.toList_extract]; rfl)
  have b19 : ∀ e : Later V, e.x.cell? ⟨w.heap.size, 19, none⟩ = some (.slice A k c) := HB0.out.cellL 19 rfl
  obtain ⟨e0, he0⟩ := Later.self V
  rw [he0]
  go_wp2_with (first | (refine wpList_mid (by rfl) 26 _ rfl _ 0 rfl _ _ (HPR.out _) Try.underlying26 rfl (by kernel_rfl) ?_) | (go_at_call 31; refine (Ret.later (KP.out _)).mono ?_; rintro x _ ⟨rfl, e, rfl⟩) | (refine wpList_cat (by rfl) _ _ [159] PB rfl _ _ rfl rfl (by simp only [List.length_cons, List.length_nil]; omega) ?_))
  go_loopw [3, 4] (fun s3 s4 wr => ∃ i : Nat, s4 = .int .i64 (i : Int) ∧ s3 = str ((159 :: PB) ++ blksB bs i) ∧ Hid (i ≤ k) ∧ ∃ e : Later V, wr = e.x) (fun _ s4 _ => k - (intOf s4).toNat)
  case atStart => exact ⟨0, rfl, by simp only [blksB, List.append_nil]; exact str_app [159] PB, (show Hid _ from Nat.zero_le _), e, rfl⟩
  case round =>
    clear he0 e0 e
    obtain ⟨i, rfl, rfl, hi, e, rfl⟩ := hrel
    have i0 : (0 : Int) ≤ (i : Int) := by omega
    have lX : ((159 :: PB) ++ blksB bs i).length ≤ 200000000000 := by
      have := blksB_length (bs := bs) (k := i) (fun j hj => HBS.out j (by have := hi.out; omega))
      have := hi.out
      have := HK.out
      rw [List.length_append, List.length_cons]
      omega
    by_cases hlt : i < k
    · obtain ⟨b, o, rfl, hb, q0, q1, q2, q3, q4⟩ := HL.out.cells hlt
      have tc : decide (i < k) = true := by simp [hlt]
      have i1 : (i : Int) < (k : Int) := by omega
      have HLT := hid hlt
      have KB := hid (fun W => r12Build_any (HBS.out i hlt) W)
      have lB := BV.bytes_length (HBS.out i hlt)
      have HC : Hid ((159 :: PB) ++ blksB bs (i + 1) = ((159 :: PB) ++ blksB bs i) ++ (bs i).bytes) := by unfold Hid; rw [blksB, List.append_assoc]
      clear hlt
      generalize (bs i).bytes = BB at *
      generalize (159 :: PB) ++ blksB bs i = X at *
      go_wp2_with (first | (go_at_call 32; refine (Ret.later (KB.out _)).mono ?_; rintro x _ ⟨rfl, e, rfl⟩) | (refine wpList_cat (by rfl) _ _ _ _ rfl _ _ rfl rfl (by (try simp only [List.length_append, List.length_cons, List.length_nil]); omega) ?_))
      go_roundw
      case rel => exact ⟨i + 1, by go_num, by (rw [HC.out]) <;> exact str_app _ _, (show Hid _ from HLT.out), e, rfl⟩
      case measure => have := HLT.out; simp [intOf]; omega
    · obtain rfl : i = k := by have := hi.out; omega
      have tc : decide (i < i) = false := by simp
      generalize (159 :: PB) ++ blksB bs i = X at *
      go_wp2_with (refine wpList_cat (by rfl) _ _ X [255] rfl _ _ rfl rfl (by simp only [List.length_cons, List.length_nil]; omega) ?_)
      go_ret
      exact Ret.mk (by rw [HRes.out]; rfl) (HE.out.trans e.h)
end Go.Proofs.Ytfkenghmlfmjpaa


namespace Go.Proofs.Ytfkenghmlfmjpaa
open Go.RowKit
set_option linter.unusedVariables false
set_option linter.unusedSimpArgs false

set_option maxRecDepth 20000 in
theorem r13Right_p (p : PV) (bs : Nat → BV) (k c : Nat) (A : Option Addr) (hf : p.fl < 18446744073709551616) (hk : k < 4611686018427387904) (hb : p.right ≠ 0) (w : World) (h : BsL w A k bs) : Calls Try.prog 8 #[bunV p A k c] w (Ret (.int .i64 p.right) w) := by
  have KP := hid (fun W => r11Right_any p hf W)
  have HE := hid ((Mod.refl [] w).alloc (.cells (bunC p A k c) 29))
  have HB0 : Hid (Blk (w.alloc (.cells (bunC p A k c) 29)) w.heap.size 29 (bunC p A k c)) := hid (Blk.new w 29 (bunC p A k c))
  generalize p.right = r at *
  have ra : ((r) == (0)) = false := by rw [beq_eq_false_iff_ne]; exact hb
  have rb : ((r) = (0)) = False := eq_false (by exact hb)
  have rc : ((r) != (0)) = true := by rw [bne_iff_ne]; exact hb
  clear hb hf hk h
  go_enter Try.func8, Try.ntmps8
  go_upto_region 1 with fail
  generalize (w.alloc (.cells (bunC p A k c) 29)) = V at *
  have HPR : Hid (∀ e : Later V, e.x.rangeAt w.heap.size 0 p.c.toList) := HB0.out.range 0 19 (by rw [Array.toList_extract]; rfl)
  have b19 : ∀ e : Later V, e.x.cell? ⟨w.heap.size, 19, none⟩ = some (.slice A k c) := HB0.out.cellL 19 rfl
  obtain ⟨e, he⟩ := Later.self V
  rw [he]
  clear he
  go_wp2_with (first | (refine wpList_mid (by rfl) 26 _ rfl _ 0 rfl _ _ (HPR.out _) Try.underlying26 rfl (by kernel_rfl) ?_) | (go_at_call 18; refine (Ret.later (KP.out _)).mono ?_; rintro x _ ⟨rfl, e, rfl⟩))
  go_ret
  exact Ret.mk rfl (HE.out.trans e.h)
set_option maxRecDepth 20000 in
set_option maxHeartbeats 40000000 in
theorem r13Right_ok (p : PV) (bs : Nat → BV) (k c : Nat) (A : Option Addr) (hf : p.fl < 18446744073709551616) (hk : k < 4611686018427387904) (hb : p.right = 0) (hd : ∀ i, i < k → (bs i).data.length ≤ 100000) (w : World) (h : BsL w A k bs) : Calls Try.prog 8 #[bunV p A k c] w (Ret (.int .i64 (match firstOf (badAt bs) k with | some i => (bs i).right | none => if 16 < k then 4 else if bunRule1 bs k then 8 else if bunRule2 p bs k then 8 else if bunRule3 p bs k then 8 else if 4000 < (bunBytes p bs k).length then 4 else 0)) w) := by
  generalize hRES : (match firstOf (badAt bs) k with | some i => (bs i).right | none => if 16 < k then 4 else if bunRule1 bs k then 8 else if bunRule2 p bs k then 8 else if bunRule3 p bs k then 8 else if 4000 < (bunBytes p bs k).length then 4 else 0) = RES
  have HRES := hid hRES
  clear hRES
  have KP := hid (fun W => r11Right_any p hf W)
  rw [hb] at KP
  have HE := hid ((Mod.refl [] w).alloc (.cells (bunC p A k c) 29))
  have HB0 : Hid (Blk (w.alloc (.cells (bunC p A k c) 29)) w.heap.size 29 (bunC p A k c)) := hid (Blk.new w 29 (bunC p A k c))
  have HL := hid (BsL.ext h HE.out)
  have k1 : (k : Int) < 4611686018427387904 := by omega
  have HK := hid hk
  have HD := hid hd
  have HF := hid hf
  have HP := hid hb
  have hrs := PV.ranged_spec (PV.right_ranged hb)
  have fl2 : p.fl < 2097152 := by omega
  have po : p.o ≤ 1099511627776 := by omega
  have pn : p.n ≤ 1099511627776 := by omega
  clear hb hf hk hd h hrs
  go_enter Try.func8, Try.ntmps8
  go_upto_region 1 with fail
  generalize (w.alloc (.cells (bunC p A k c) 29)) = V at *
  have HPR : Hid (∀ e : Later V, e.x.rangeAt w.heap.size 0 p.c.toList) := HB0.out.range 0 19 (by rw [Array.toList_extract]; rfl)
  have b19 : ∀ e : Later V, e.x.cell? ⟨w.heap.size, 19, none⟩ = some (.slice A k c) := HB0.out.cellL 19 rfl
  have b5 : ∀ e : Later V, e.x.cell? ⟨w.heap.size, 14, none⟩ = some (.int .u64 (p.t : Int)) := HB0.out.cellL 14 rfl
  have b0 : ∀ e : Later V, e.x.cell? ⟨w.heap.size, 0, none⟩ = some (.int .u64 (p.fl : Int)) := HB0.out.cellL 0 rfl
  have b17 : ∀ e : Later V, e.x.cell? ⟨w.heap.size, 17, none⟩ = some (.int .u64 (p.o : Int)) := HB0.out.cellL 17 rfl
  have b18 : ∀ e : Later V, e.x.cell? ⟨w.heap.size, 18, none⟩ = some (.int .u64 (p.n : Int)) := HB0.out.cellL 18 rfl
  have KC : Hid (∀ (e : Later V) typ, Calls Try.prog 20 #[.slice A k c, .int .i64 typ] e.x (Ret (.int .i64 (cntB bs typ k : Nat)) e.x)) := fun e typ => r13count_any bs k c A typ HK.out e.x (HL.out.ext e.h)
  have KT : Hid (∀ (e : Later V), Calls Try.prog 21 #[.slice A k c] e.x (Ret (.bool (dupB bs k)) e.x)) := fun e => r13twice_any bs k c A HK.out e.x (HL.out.ext e.h)
  have KH : Hid (∀ W, Calls Try.prog 22 #[.int .u64 (p.fl : Int), .int .i64 1] W (Ret (.bool (has p.fl 1)) W)) := fun W => Has_any p.fl 1 HF.out (by omega) (by omega) W
  obtain ⟨e0, he0⟩ := Later.self V
  rw [he0]
  go_upto_region 6 with (first | (refine wpList_mid (by rfl) 26 _ rfl _ 0 rfl _ _ (HPR.out _) Try.underlying26 rfl (by kernel_rfl) ?_) | (go_at_call 18; refine (Ret.later (KP.out _)).mono ?_; rintro x _ ⟨rfl, e, rfl⟩))
  go_loopw [5] (fun s5 wr => ∃ i : Nat, s5 = .int .i64 (i : Int) ∧ Hid (i ≤ k ∧ ∀ j, j < i → badAt bs j = false) ∧ ∃ e : Later V, wr = e.x) (fun s5 _ => k - (intOf s5).toNat)
  case atStart => exact ⟨0, rfl, (show Hid _ from ⟨Nat.zero_le _, fun j hj => by omega⟩), e, rfl⟩
  case round =>
    clear he0 e0 e
    obtain ⟨i, rfl, hi, e, rfl⟩ := hrel
    have i0 : (0 : Int) ≤ (i : Int) := by omega
    by_cases hlt : i < k
    · clear KC KT KH b5 b0 b17 b18 HF fl2 po pn
      obtain ⟨b, o, rfl, hb, q0, q1, q2, q3, q4⟩ := HL.out.cells hlt
      have tc : decide (i < k) = true := by simp [hlt]
      have i1 : (i : Int) < (k : Int) := by omega
      have HLT := hid hlt
      have KX := hid (fun W => rbRight_any (bs i) W)
      clear hlt
      by_cases ht : badAt bs i = true
      · have HR : Hid (RES = (bs i).right) := by unfold Hid; rw [← HRES.out, firstOf_some HLT.out ht hi.out.2]
        have hx : (bs i).right ≠ 0 := by simpa [badAt] using ht
        clear ht
        generalize (bs i).right = r at *
        have ra : ((r) == (0)) = false := by rw [beq_eq_false_iff_ne]; exact hx
        have rb : ((r) = (0)) = False := eq_false (by exact hx)
        have rc : ((r) != (0)) = true := by rw [bne_iff_ne]; exact hx
        clear hx
        go_wp2_with (first | (go_at_call 19; refine (Ret.later (KX.out _)).mono ?_; rintro x _ ⟨rfl, e, rfl⟩))
        go_ret
        exact Ret.mk (by rw [HR.out]; rfl) (HE.out.trans e.h)
      · have HN : Hid (badAt bs i = false) := by unfold Hid; simpa using ht
        rw [bad_no HN.out] at KX
        clear ht
        go_wp2_with (first | (go_at_call 19; refine (Ret.later (KX.out _)).mono ?_; rintro x _ ⟨rfl, e, rfl⟩))
        go_roundw
        case rel => exact ⟨i + 1, by go_num, (show Hid _ from ⟨HLT.out, fun j hj => by
          by_cases hji : j = i
          · subst hji; exact HN.out
          · exact hi.out.2 j (by omega)⟩), e, rfl⟩
        case measure => have := HLT.out; simp [intOf]; omega
    · obtain rfl : i = k := by have := hi.out.1; omega
      have tc : decide (i < i) = false := by simp
      have HR1 : Hid (RES = if 16 < i then 4 else if bunRule1 bs i then 8 else if bunRule2 p bs i then 8 else if bunRule3 p bs i then 8 else if 4000 < (bunBytes p bs i).length then 4 else 0) := by unfold Hid; rw [← HRES.out, firstOf_none hi.out.2]
      have HB' : Hid (∀ j, j < i → (bs j).right = 0) := fun j hj => bad_no (hi.out.2 j hj)
      clear HRES hi hlt KP
      have K1 := hid (fun e => KC.out e 1)
      have K6 := hid (fun e => KC.out e 6)
      have K7 := hid (fun e => KC.out e 7)
      have K10 := hid (fun e => KC.out e 10)
      clear KC
      have HR0 : Hid (bunRule1 bs i = (decide (i = 0) || decide (cntB bs 1 i ≠ 1) || dupB bs i || decide (1 < cntB bs 6 i) || decide (1 < cntB bs 7 i) || decide (1 < cntB bs 10 i))) := rfl
      have HR00 : Hid (bunRule2 p bs i = (decide ((bs (i - 1)).ty ≠ 1) || (decide (p.t = 0) && decide (cntB bs 7 i = 0)))) := rfl
      generalize cntB bs 1 i = n1 at *
      generalize cntB bs 6 i = n6 at *
      generalize cntB bs 7 i = n7 at *
      generalize cntB bs 10 i = n10 at *
      by_cases h16 : 16 < i
      · have HR : Hid (RES = 4) := by unfold Hid; rw [HR1.out, if_pos h16]
        have xa : decide ((16 : Int) < (i : Int)) = true := decide_eq_true (by omega)
        have xb : ((16 : Int) < (i : Int)) = True := eq_true (by omega)
        have xc : decide (16 < i) = true := decide_eq_true h16
        clear h16
        go_wp2_with fail
        go_ret
        exact Ret.mk (by rw [HR.out]; rfl) (HE.out.trans e.h)
      · have HR2 : Hid (RES = if bunRule1 bs i then 8 else if bunRule2 p bs i then 8 else if bunRule3 p bs i then 8 else if 4000 < (bunBytes p bs i).length then 4 else 0) := by unfold Hid; rw [HR1.out, if_neg h16]
        have H16 := hid h16
        clear HR1
        have xa : decide ((16 : Int) < (i : Int)) = false := decide_eq_false (by omega)
        have xb : ((16 : Int) < (i : Int)) = False := eq_false (by omega)
        have xc : decide (16 < i) = false := decide_eq_false h16
        clear h16
        cases hR1 : bunRule1 bs i with
        | true =>
          have HR : Hid (RES = 8) := by unfold Hid; rw [HR2.out, hR1]; rfl
          clear HR2
          rw [HR0.out] at hR1
          by_cases z0 : i = 0
          · subst z0
            have za : ((0 : Int) == 0) = true := rfl
            clear hR1
            go_wp2_with (first | (go_at_call 20; first | ((with_reducible refine (Ret.later (K1.out _)).mono ?_); rintro x _ ⟨rfl, e, rfl⟩) | ((with_reducible refine (Ret.later (K6.out _)).mono ?_); rintro x _ ⟨rfl, e, rfl⟩) | ((with_reducible refine (Ret.later (K7.out _)).mono ?_); rintro x _ ⟨rfl, e, rfl⟩) | ((with_reducible refine (Ret.later (K10.out _)).mono ?_); rintro x _ ⟨rfl, e, rfl⟩)) | (go_at_call 21; refine (Ret.later (KT.out _)).mono ?_; rintro x _ ⟨rfl, e, rfl⟩))
            go_ret
            exact Ret.mk (by rw [HR.out]; rfl) (HE.out.trans e.h)
          have n0 : ((i : Int) == 0) = false := by rw [beq_eq_false_iff_ne]; omega
          have n0a : ((i : Int) = 0) = False := eq_false (by omega)
          have n0b : (i == 0) = false := by rw [beq_eq_false_iff_ne]; omega
          have n0c : (i = 0) = False := eq_false (by omega)
          by_cases z1 : n1 ≠ 1
          · clear hR1
            have c1a : (((n1 : Int)) == (1)) = false := by rw [beq_eq_false_iff_ne]; omega
            have c1b : (((n1 : Int)) = (1)) = False := eq_false (by omega)
            have c1c : (((n1 : Int)) != (1)) = true := by rw [bne_iff_ne]; omega
            have c1na : ((n1) == (1)) = false := by rw [beq_eq_false_iff_ne]; omega
            have c1nb : ((n1) = (1)) = False := eq_false (by omega)
            have c1nc : ((n1) != (1)) = true := by rw [bne_iff_ne]; omega
            go_wp2_with (first | (go_at_call 20; first | ((with_reducible refine (Ret.later (K1.out _)).mono ?_); rintro x _ ⟨rfl, e, rfl⟩) | ((with_reducible refine (Ret.later (K6.out _)).mono ?_); rintro x _ ⟨rfl, e, rfl⟩) | ((with_reducible refine (Ret.later (K7.out _)).mono ?_); rintro x _ ⟨rfl, e, rfl⟩) | ((with_reducible refine (Ret.later (K10.out _)).mono ?_); rintro x _ ⟨rfl, e, rfl⟩)) | (go_at_call 21; refine (Ret.later (KT.out _)).mono ?_; rintro x _ ⟨rfl, e, rfl⟩))
            go_ret
            exact Ret.mk (by rw [HR.out]; rfl) (HE.out.trans e.h)
          obtain rfl : n1 = 1 := by omega
          cases zt : dupB bs i with
          | true =>
            rw [zt] at KT
            clear hR1
            go_wp2_with (first | (go_at_call 20; first | ((with_reducible refine (Ret.later (K1.out _)).mono ?_); rintro x _ ⟨rfl, e, rfl⟩) | ((with_reducible refine (Ret.later (K6.out _)).mono ?_); rintro x _ ⟨rfl, e, rfl⟩) | ((with_reducible refine (Ret.later (K7.out _)).mono ?_); rintro x _ ⟨rfl, e, rfl⟩) | ((with_reducible refine (Ret.later (K10.out _)).mono ?_); rintro x _ ⟨rfl, e, rfl⟩)) | (go_at_call 21; refine (Ret.later (KT.out _)).mono ?_; rintro x _ ⟨rfl, e, rfl⟩))
            go_ret
            exact Ret.mk (by rw [HR.out]; rfl) (HE.out.trans e.h)
          | false =>
          rw [zt] at KT
          by_cases z6 : 1 < n6
          · clear hR1
            have c6a : decide ((1 : Int) < (n6 : Int)) = true := decide_eq_true (by omega)
            have c6b : ((1 : Int) < (n6 : Int)) = True := eq_true (by omega)
            have c6na : decide (1 < n6) = true := decide_eq_true (by omega)
            have c6nb : (1 < n6) = True := eq_true (by omega)
            go_wp2_with (first | (go_at_call 20; first | ((with_reducible refine (Ret.later (K1.out _)).mono ?_); rintro x _ ⟨rfl, e, rfl⟩) | ((with_reducible refine (Ret.later (K6.out _)).mono ?_); rintro x _ ⟨rfl, e, rfl⟩) | ((with_reducible refine (Ret.later (K7.out _)).mono ?_); rintro x _ ⟨rfl, e, rfl⟩) | ((with_reducible refine (Ret.later (K10.out _)).mono ?_); rintro x _ ⟨rfl, e, rfl⟩)) | (go_at_call 21; refine (Ret.later (KT.out _)).mono ?_; rintro x _ ⟨rfl, e, rfl⟩))
            go_ret
            exact Ret.mk (by rw [HR.out]; rfl) (HE.out.trans e.h)
          have c6a : decide ((1 : Int) < (n6 : Int)) = false := decide_eq_false (by omega)
          have c6b : ((1 : Int) < (n6 : Int)) = False := eq_false (by omega)
          have c6na : decide (1 < n6) = false := decide_eq_false (by omega)
          have c6nb : (1 < n6) = False := eq_false (by omega)
          by_cases z7 : 1 < n7
          · clear hR1
            have c7a : decide ((1 : Int) < (n7 : Int)) = true := decide_eq_true (by omega)
            have c7b : ((1 : Int) < (n7 : Int)) = True := eq_true (by omega)
            have c7na : decide (1 < n7) = true := decide_eq_true (by omega)
            have c7nb : (1 < n7) = True := eq_true (by omega)
            go_wp2_with (first | (go_at_call 20; first | ((with_reducible refine (Ret.later (K1.out _)).mono ?_); rintro x _ ⟨rfl, e, rfl⟩) | ((with_reducible refine (Ret.later (K6.out _)).mono ?_); rintro x _ ⟨rfl, e, rfl⟩) | ((with_reducible refine (Ret.later (K7.out _)).mono ?_); rintro x _ ⟨rfl, e, rfl⟩) | ((with_reducible refine (Ret.later (K10.out _)).mono ?_); rintro x _ ⟨rfl, e, rfl⟩)) | (go_at_call 21; refine (Ret.later (KT.out _)).mono ?_; rintro x _ ⟨rfl, e, rfl⟩))
            go_ret
            exact Ret.mk (by rw [HR.out]; rfl) (HE.out.trans e.h)
          have c7a : decide ((1 : Int) < (n7 : Int)) = false := decide_eq_false (by omega)
          have c7b : ((1 : Int) < (n7 : Int)) = False := eq_false (by omega)
          have c7na : decide (1 < n7) = false := decide_eq_false (by omega)
          have c7nb : (1 < n7) = False := eq_false (by omega)
          have z10 : 1 < n10 := by simpa [n0c, zt, z1, z6, z7] using hR1
          have c10a : decide ((1 : Int) < (n10 : Int)) = true := decide_eq_true (by omega)
          have c10b : ((1 : Int) < (n10 : Int)) = True := eq_true (by omega)
          have c10na : decide (1 < n10) = true := decide_eq_true (by omega)
          have c10nb : (1 < n10) = True := eq_true (by omega)
          clear hR1
          go_wp2_with (first | (go_at_call 20; first | ((with_reducible refine (Ret.later (K1.out _)).mono ?_); rintro x _ ⟨rfl, e, rfl⟩) | ((with_reducible refine (Ret.later (K6.out _)).mono ?_); rintro x _ ⟨rfl, e, rfl⟩) | ((with_reducible refine (Ret.later (K7.out _)).mono ?_); rintro x _ ⟨rfl, e, rfl⟩) | ((with_reducible refine (Ret.later (K10.out _)).mono ?_); rintro x _ ⟨rfl, e, rfl⟩)) | (go_at_call 21; refine (Ret.later (KT.out _)).mono ?_; rintro x _ ⟨rfl, e, rfl⟩))
          go_ret
          exact Ret.mk (by rw [HR.out]; rfl) (HE.out.trans e.h)
        | false =>
          have HR3 : Hid (RES = if bunRule2 p bs i then 8 else if bunRule3 p bs i then 8 else if 4000 < (bunBytes p bs i).length then 4 else 0) := by unfold Hid; rw [HR2.out, hR1]; rfl
          clear HR2
          rw [HR0.out] at hR1
          simp only [Bool.or_eq_false_iff, decide_eq_false_iff_not] at hR1
          obtain ⟨⟨⟨⟨⟨z0, z1⟩, zt⟩, z6⟩, z7⟩, z10⟩ := hR1
          have H16' := H16.out
          have n0 : ((i : Int) == 0) = false := by rw [beq_eq_false_iff_ne]; omega
          have n0a : ((i : Int) = 0) = False := eq_false (by omega)
          have n0b : (i == 0) = false := by rw [beq_eq_false_iff_ne]; omega
          have n0c : (i = 0) = False := eq_false (by omega)
          rw [zt] at KT
          obtain rfl : n1 = 1 := by omega
          have c6a : decide ((1 : Int) < (n6 : Int)) = false := decide_eq_false (by omega)
          have c6b : ((1 : Int) < (n6 : Int)) = False := eq_false (by omega)
          have c6na : decide (1 < n6) = false := decide_eq_false (by omega)
          have c6nb : (1 < n6) = False := eq_false (by omega)
          have c7a : decide ((1 : Int) < (n7 : Int)) = false := decide_eq_false (by omega)
          have c7b : ((1 : Int) < (n7 : Int)) = False := eq_false (by omega)
          have c7na : decide (1 < n7) = false := decide_eq_false (by omega)
          have c7nb : (1 < n7) = False := eq_false (by omega)
          have c10a : decide ((1 : Int) < (n10 : Int)) = false := decide_eq_false (by omega)
          have c10b : ((1 : Int) < (n10 : Int)) = False := eq_false (by omega)
          have c10na : decide (1 < n10) = false := decide_eq_false (by omega)
          have c10nb : (1 < n10) = False := eq_false (by omega)
          have i2 := hid ((show (1 : Int) ≤ (i : Int) by omega))
          have i3 := hid (show (i : Int) ≤ 16 by omega)
          have HI0 : Hid (i ≠ 0) := hid z0
          clear z0 z1 zt z6 z7 z10 H16'
          go_upto_region 15 with (first | (go_at_call 20; first | ((with_reducible refine (Ret.later (K1.out _)).mono ?_); rintro x _ ⟨rfl, e, rfl⟩) | ((with_reducible refine (Ret.later (K6.out _)).mono ?_); rintro x _ ⟨rfl, e, rfl⟩) | ((with_reducible refine (Ret.later (K7.out _)).mono ?_); rintro x _ ⟨rfl, e, rfl⟩) | ((with_reducible refine (Ret.later (K10.out _)).mono ?_); rintro x _ ⟨rfl, e, rfl⟩)) | (go_at_call 21; refine (Ret.later (KT.out _)).mono ?_; rintro x _ ⟨rfl, e, rfl⟩))
          clear n0 n0a n0b n0c c6a c6b c6na c6nb c10a c10b c10na c10nb c7a c7b c7na c7nb tc xa xb xc
          obtain ⟨m, rfl⟩ : ∃ m : Nat, i = m + 1 := ⟨i - 1, by have := HI0.out; omega⟩
          clear HI0
          obtain ⟨b, o, rfl, hb, q0, q1, q2, q3, q4⟩ := HL.out.cells (Nat.lt_succ_self m)
          have m0 : (0 : Int) ≤ (m : Int) := by omega
          have m1 : (m : Int) ≤ 15 := by have := i3.out; omega
          clear i2 i3
          go_upto_region 16 with fail
          generalize hU : World.alloc e.x _ = U
          have HX : Hid (Blk U e.x.heap.size 31 (BV.c (bs m))) := hid (by rw [← hU]; exact Blk.new _ _ _)
          have HM : Hid (Ext V U) := hid (by rw [← hU]; exact e.h.alloc _)
          clear hU q0 q1 q2 q3 q4 hb m0 m1 i0 k1 K1 K6 K10 KT
          have L7 : Hid (∀ e : Later U, Calls Try.prog 20 #[.slice (some ⟨b, o, none⟩) (m + 1) c, .int .i64 7] e.x (Ret (.int .i64 (n7 : Int)) e.x)) := fun e => K7.out ⟨e.x, HM.out.trans e.h⟩
          clear K7
          have x0 : ∀ e : Later U, e.x.cell? ⟨w.heap.size, 0, none⟩ = some (.int .u64 (p.fl : Int)) := fun e => b0 ⟨e.x, HM.out.trans e.h⟩
          have x5 : ∀ e : Later U, e.x.cell? ⟨w.heap.size, 14, none⟩ = some (.int .u64 (p.t : Int)) := fun e => b5 ⟨e.x, HM.out.trans e.h⟩
          have x17 : ∀ e : Later U, e.x.cell? ⟨w.heap.size, 17, none⟩ = some (.int .u64 (p.o : Int)) := fun e => b17 ⟨e.x, HM.out.trans e.h⟩
          have x18 : ∀ e : Later U, e.x.cell? ⟨w.heap.size, 18, none⟩ = some (.int .u64 (p.n : Int)) := fun e => b18 ⟨e.x, HM.out.trans e.h⟩
          have x19 : ∀ e : Later U, e.x.cell? ⟨w.heap.size, 19, none⟩ = some (.slice (some ⟨b, o, none⟩) (m + 1) c) := fun e => b19 ⟨e.x, HM.out.trans e.h⟩
          have HB1 := hid (HB0.out.ext HM.out)
          have KB : Hid (∀ e : Later U, Calls Try.prog 23 #[bunV p (some ⟨b, o, none⟩) (m + 1) c] e.x (Ret (str (bunBytes p bs (m + 1))) e.x)) := fun e => r13Bytes_any p bs (m + 1) c (some ⟨b, o, none⟩) (by have := H16.out; omega) HP.out HB'.out e.x (HL.out.ext (HM.out.trans e.h))
          clear b0 b5 b17 b18 b19 HPR HB0 HP HF H16 HR0 HK
          have HE1 := hid (HE.out.trans HM.out)
          have HR2' : Hid (bunRule2 p bs (m + 1) = (decide ((bs m).ty ≠ 1) || (decide (p.t = 0) && decide (n7 = 0)))) := HR00.out
          have HR3' : Hid (bunRule3 p bs (m + 1) = (has p.fl 1 && decide (p.n < p.o + (bs m).data.length))) := rfl
          clear HR00 HE
          have ld : ((bs m).data.length : Int) ≤ 100000 := by have := HD.out m (by omega); omega
          have po2 : (p.o : Int) ≤ 1099511627776 := by omega
          clear HD HB' po pn fl2 HL
          generalize bunRule2 p bs (m + 1) = R2 at *
          generalize bunRule3 p bs (m + 1) = R3 at *
          generalize bunBytes p bs (m + 1) = BB at *
          have y0 : ∀ e : Later U, e.x.cell? ⟨e.x.heap.size, 0, none⟩ = e.x.cell? ⟨e.x.heap.size, 0, none⟩ := fun _ => rfl
          clear y0
          generalize hpay : e.x.heap.size = pay at *
          clear hpay
          have z0 : ∀ e : Later U, e.x.cell? ⟨pay, 0, none⟩ = some (.int .i64 (bs m).ty) := HX.out.cellL 0 rfl
          have z4 : ∀ e : Later U, e.x.cell? ⟨pay, 4, none⟩ = some (str (bs m).data) := HX.out.cellL 4 rfl
          clear HX HM
          generalize (bs m).ty = ty at *
          generalize (bs m).data = dat at *
          generalize p.o = po at *
          generalize p.n = pn at *
          generalize p.t = pt at *
          clear e
          obtain ⟨e, he⟩ := Later.self U
          rw [he]
          clear he
          by_cases zt : ty = 1
          · have HT1 := hid zt
            have ta : ((ty) == (1)) = true := by rw [beq_iff_eq]; exact zt
            have tb : ((ty) = (1)) = True := eq_true (by exact zt)
            have tc : ((ty) != (1)) = false := by rw [bne_eq_false_iff_eq]; exact zt
            clear zt
            by_cases zp : pt = 0
            · have HP0 := hid zp
              have ua : (((pt : Int)) == (0)) = true := by rw [beq_iff_eq]; omega
              have ub : (((pt : Int)) = (0)) = True := eq_true (by omega)
              have uc : (((pt : Int)) != (0)) = false := by rw [bne_eq_false_iff_eq]; omega
              have una : ((pt) == (0)) = true := by rw [beq_iff_eq]; omega
              have unb : ((pt) = (0)) = True := eq_true (by omega)
              have unc : ((pt) != (0)) = false := by rw [bne_eq_false_iff_eq]; omega
              clear zp
              by_cases z7 : n7 = 0
              · have HR : Hid (RES = 8) := by unfold Hid; rw [HR3.out, HR2'.out]; simp [HT1.out, HP0.out, z7]
                have sa : (((n7 : Int)) == (0)) = true := by rw [beq_iff_eq]; omega
                have sb : (((n7 : Int)) = (0)) = True := eq_true (by omega)
                have sc : (((n7 : Int)) != (0)) = false := by rw [bne_eq_false_iff_eq]; omega
                have sna : ((n7) == (0)) = true := by rw [beq_iff_eq]; omega
                have snb : ((n7) = (0)) = True := eq_true (by omega)
                have snc : ((n7) != (0)) = false := by rw [bne_eq_false_iff_eq]; omega
                clear z7
                go_wp2_with (first | (go_at_call 20; refine (Ret.later (L7.out _)).mono ?_; rintro x _ ⟨rfl, e, rfl⟩) | (go_at_call 22; refine (Ret.later (KH.out _)).mono ?_; rintro x _ ⟨rfl, e, rfl⟩))
                go_ret
                exact Ret.mk (by rw [HR.out]; rfl) (HE1.out.trans e.h)
              · have HF2 : Hid (R2 = false) := by unfold Hid; rw [HR2'.out]; simp [HT1.out, z7]
                have sa : (((n7 : Int)) == (0)) = false := by rw [beq_eq_false_iff_ne]; omega
                have sb : (((n7 : Int)) = (0)) = False := eq_false (by omega)
                have sc : (((n7 : Int)) != (0)) = true := by rw [bne_iff_ne]; omega
                have sna : ((n7) == (0)) = false := by rw [beq_eq_false_iff_ne]; omega
                have snb : ((n7) = (0)) = False := eq_false (by omega)
                have snc : ((n7) != (0)) = true := by rw [bne_iff_ne]; omega
                clear z7
                go_upto_region 18 with (first | (go_at_call 20; refine (Ret.later (L7.out _)).mono ?_; rintro x _ ⟨rfl, e, rfl⟩) | (go_at_call 22; refine (Ret.later (KH.out _)).mono ?_; rintro x _ ⟨rfl, e, rfl⟩))
                clear sa sb sc sna snb snc ta tb tc ua ub uc una unb unc
                have HR4 : Hid (RES = if R3 = true then 8 else if 4000 < BB.length then 4 else 0) := by unfold Hid; rw [HR3.out, HF2.out]; rfl
                cases hh : has p.fl 1 with
                | false =>
                  rw [hh] at KH
                  have HR5 : Hid (RES = if 4000 < BB.length then 4 else 0) := by unfold Hid; rw [HR4.out, HR3'.out, hh]; rfl
                  clear hh
                  go_upto_region 20 with (first | (go_at_call 20; refine (Ret.later (L7.out _)).mono ?_; rintro x _ ⟨rfl, e, rfl⟩) | (go_at_call 22; refine (Ret.later (KH.out _)).mono ?_; rintro x _ ⟨rfl, e, rfl⟩))
                  by_cases hl : 4000 < BB.length
                  · have HR : Hid (RES = 4) := by unfold Hid; rw [HR5.out, if_pos hl]
                    have la : decide ((4000 : Int) < (BB.length : Int)) = true := decide_eq_true (by omega)
                    have lb : ((4000 : Int) < (BB.length : Int)) = True := eq_true (by omega)
                    have lc : decide (4000 < BB.length) = true := decide_eq_true hl
                    clear hl
                    go_wp2_with (first | (refine wpList_row (by rfl) 29 _ rfl _ rfl (HB1.out.later _) Try.underlying29 rfl (by kernel_rfl) ?_) | (go_at_call 23; refine (Ret.later (KB.out _)).mono ?_; rintro x _ ⟨rfl, e, rfl⟩))
                    go_ret
                    exact Ret.mk (by rw [HR.out]; rfl) (HE1.out.trans e.h)
                  · have HR : Hid (RES = 0) := by unfold Hid; rw [HR5.out, if_neg hl]
                    have la : decide ((4000 : Int) < (BB.length : Int)) = false := decide_eq_false (by omega)
                    have lb : ((4000 : Int) < (BB.length : Int)) = False := eq_false (by omega)
                    have lc : decide (4000 < BB.length) = false := decide_eq_false hl
                    clear hl
                    go_wp2_with (first | (refine wpList_row (by rfl) 29 _ rfl _ rfl (HB1.out.later _) Try.underlying29 rfl (by kernel_rfl) ?_) | (go_at_call 23; refine (Ret.later (KB.out _)).mono ?_; rintro x _ ⟨rfl, e, rfl⟩))
                    go_ret
                    exact Ret.mk (by rw [HR.out]; rfl) (HE1.out.trans e.h)
                | true =>
                  rw [hh] at KH
                  by_cases hv : pn < po + dat.length
                  · have HR : Hid (RES = 8) := by unfold Hid; rw [HR4.out, HR3'.out, hh, decide_eq_true hv]; rfl
                    clear hh
                    have va : decide ((pn : Int) < (po : Int) + (dat.length : Int)) = true := decide_eq_true (by omega)
                    have vb : ((pn : Int) < (po : Int) + (dat.length : Int)) = True := eq_true (by omega)
                    have vc : decide (pn < po + dat.length) = true := decide_eq_true hv
                    clear hv
                    go_wp2_with (first | (go_at_call 20; refine (Ret.later (L7.out _)).mono ?_; rintro x _ ⟨rfl, e, rfl⟩) | (go_at_call 22; refine (Ret.later (KH.out _)).mono ?_; rintro x _ ⟨rfl, e, rfl⟩))
                    go_ret
                    exact Ret.mk (by rw [HR.out]; rfl) (HE1.out.trans e.h)
                  · have HR5 : Hid (RES = if 4000 < BB.length then 4 else 0) := by unfold Hid; rw [HR4.out, HR3'.out, hh, decide_eq_false hv]; rfl
                    clear hh
                    have va : decide ((pn : Int) < (po : Int) + (dat.length : Int)) = false := decide_eq_false (by omega)
                    have vb : ((pn : Int) < (po : Int) + (dat.length : Int)) = False := eq_false (by omega)
                    have vc : decide (pn < po + dat.length) = false := decide_eq_false hv
                    clear hv
                    go_upto_region 20 with (first | (go_at_call 20; refine (Ret.later (L7.out _)).mono ?_; rintro x _ ⟨rfl, e, rfl⟩) | (go_at_call 22; refine (Ret.later (KH.out _)).mono ?_; rintro x _ ⟨rfl, e, rfl⟩))
                    by_cases hl : 4000 < BB.length
                    · have HR : Hid (RES = 4) := by unfold Hid; rw [HR5.out, if_pos hl]
                      have la : decide ((4000 : Int) < (BB.length : Int)) = true := decide_eq_true (by omega)
                      have lb : ((4000 : Int) < (BB.length : Int)) = True := eq_true (by omega)
                      have lc : decide (4000 < BB.length) = true := decide_eq_true hl
                      clear hl
                      go_wp2_with (first | (refine wpList_row (by rfl) 29 _ rfl _ rfl (HB1.out.later _) Try.underlying29 rfl (by kernel_rfl) ?_) | (go_at_call 23; refine (Ret.later (KB.out _)).mono ?_; rintro x _ ⟨rfl, e, rfl⟩))
                      go_ret
                      exact Ret.mk (by rw [HR.out]; rfl) (HE1.out.trans e.h)
                    · have HR : Hid (RES = 0) := by unfold Hid; rw [HR5.out, if_neg hl]
                      have la : decide ((4000 : Int) < (BB.length : Int)) = false := decide_eq_false (by omega)
                      have lb : ((4000 : Int) < (BB.length : Int)) = False := eq_false (by omega)
                      have lc : decide (4000 < BB.length) = false := decide_eq_false hl
                      clear hl
                      go_wp2_with (first | (refine wpList_row (by rfl) 29 _ rfl _ rfl (HB1.out.later _) Try.underlying29 rfl (by kernel_rfl) ?_) | (go_at_call 23; refine (Ret.later (KB.out _)).mono ?_; rintro x _ ⟨rfl, e, rfl⟩))
                      go_ret
                      exact Ret.mk (by rw [HR.out]; rfl) (HE1.out.trans e.h)
            · have HF2 : Hid (R2 = false) := by unfold Hid; rw [HR2'.out]; simp [HT1.out, zp]
              have sa : (((pt : Int)) == (0)) = false := by rw [beq_eq_false_iff_ne]; omega
              have sb : (((pt : Int)) = (0)) = False := eq_false (by omega)
              have sc : (((pt : Int)) != (0)) = true := by rw [bne_iff_ne]; omega
              have sna : ((pt) == (0)) = false := by rw [beq_eq_false_iff_ne]; omega
              have snb : ((pt) = (0)) = False := eq_false (by omega)
              have snc : ((pt) != (0)) = true := by rw [bne_iff_ne]; omega
              clear zp
              go_upto_region 18 with (first | (go_at_call 20; refine (Ret.later (L7.out _)).mono ?_; rintro x _ ⟨rfl, e, rfl⟩) | (go_at_call 22; refine (Ret.later (KH.out _)).mono ?_; rintro x _ ⟨rfl, e, rfl⟩))
              clear sa sb sc sna snb snc ta tb tc
              have HR4 : Hid (RES = if R3 = true then 8 else if 4000 < BB.length then 4 else 0) := by unfold Hid; rw [HR3.out, HF2.out]; rfl
              cases hh : has p.fl 1 with
              | false =>
                rw [hh] at KH
                have HR5 : Hid (RES = if 4000 < BB.length then 4 else 0) := by unfold Hid; rw [HR4.out, HR3'.out, hh]; rfl
                clear hh
                go_upto_region 20 with (first | (go_at_call 20; refine (Ret.later (L7.out _)).mono ?_; rintro x _ ⟨rfl, e, rfl⟩) | (go_at_call 22; refine (Ret.later (KH.out _)).mono ?_; rintro x _ ⟨rfl, e, rfl⟩))
                by_cases hl : 4000 < BB.length
                · have HR : Hid (RES = 4) := by unfold Hid; rw [HR5.out, if_pos hl]
                  have la : decide ((4000 : Int) < (BB.length : Int)) = true := decide_eq_true (by omega)
                  have lb : ((4000 : Int) < (BB.length : Int)) = True := eq_true (by omega)
                  have lc : decide (4000 < BB.length) = true := decide_eq_true hl
                  clear hl
                  go_wp2_with (first | (refine wpList_row (by rfl) 29 _ rfl _ rfl (HB1.out.later _) Try.underlying29 rfl (by kernel_rfl) ?_) | (go_at_call 23; refine (Ret.later (KB.out _)).mono ?_; rintro x _ ⟨rfl, e, rfl⟩))
                  go_ret
                  exact Ret.mk (by rw [HR.out]; rfl) (HE1.out.trans e.h)
                · have HR : Hid (RES = 0) := by unfold Hid; rw [HR5.out, if_neg hl]
                  have la : decide ((4000 : Int) < (BB.length : Int)) = false := decide_eq_false (by omega)
                  have lb : ((4000 : Int) < (BB.length : Int)) = False := eq_false (by omega)
                  have lc : decide (4000 < BB.length) = false := decide_eq_false hl
                  clear hl
                  go_wp2_with (first | (refine wpList_row (by rfl) 29 _ rfl _ rfl (HB1.out.later _) Try.underlying29 rfl (by kernel_rfl) ?_) | (go_at_call 23; refine (Ret.later (KB.out _)).mono ?_; rintro x _ ⟨rfl, e, rfl⟩))
                  go_ret
                  exact Ret.mk (by rw [HR.out]; rfl) (HE1.out.trans e.h)
              | true =>
                rw [hh] at KH
                by_cases hv : pn < po + dat.length
                · have HR : Hid (RES = 8) := by unfold Hid; rw [HR4.out, HR3'.out, hh, decide_eq_true hv]; rfl
                  clear hh
                  have va : decide ((pn : Int) < (po : Int) + (dat.length : Int)) = true := decide_eq_true (by omega)
                  have vb : ((pn : Int) < (po : Int) + (dat.length : Int)) = True := eq_true (by omega)
                  have vc : decide (pn < po + dat.length) = true := decide_eq_true hv
                  clear hv
                  go_wp2_with (first | (go_at_call 20; refine (Ret.later (L7.out _)).mono ?_; rintro x _ ⟨rfl, e, rfl⟩) | (go_at_call 22; refine (Ret.later (KH.out _)).mono ?_; rintro x _ ⟨rfl, e, rfl⟩))
                  go_ret
                  exact Ret.mk (by rw [HR.out]; rfl) (HE1.out.trans e.h)
                · have HR5 : Hid (RES = if 4000 < BB.length then 4 else 0) := by unfold Hid; rw [HR4.out, HR3'.out, hh, decide_eq_false hv]; rfl
                  clear hh
                  have va : decide ((pn : Int) < (po : Int) + (dat.length : Int)) = false := decide_eq_false (by omega)
                  have vb : ((pn : Int) < (po : Int) + (dat.length : Int)) = False := eq_false (by omega)
                  have vc : decide (pn < po + dat.length) = false := decide_eq_false hv
                  clear hv
                  go_upto_region 20 with (first | (go_at_call 20; refine (Ret.later (L7.out _)).mono ?_; rintro x _ ⟨rfl, e, rfl⟩) | (go_at_call 22; refine (Ret.later (KH.out _)).mono ?_; rintro x _ ⟨rfl, e, rfl⟩))
                  by_cases hl : 4000 < BB.length
                  · have HR : Hid (RES = 4) := by unfold Hid; rw [HR5.out, if_pos hl]
                    have la : decide ((4000 : Int) < (BB.length : Int)) = true := decide_eq_true (by omega)
                    have lb : ((4000 : Int) < (BB.length : Int)) = True := eq_true (by omega)
                    have lc : decide (4000 < BB.length) = true := decide_eq_true hl
                    clear hl
                    go_wp2_with (first | (refine wpList_row (by rfl) 29 _ rfl _ rfl (HB1.out.later _) Try.underlying29 rfl (by kernel_rfl) ?_) | (go_at_call 23; refine (Ret.later (KB.out _)).mono ?_; rintro x _ ⟨rfl, e, rfl⟩))
                    go_ret
                    exact Ret.mk (by rw [HR.out]; rfl) (HE1.out.trans e.h)
                  · have HR : Hid (RES = 0) := by unfold Hid; rw [HR5.out, if_neg hl]
                    have la : decide ((4000 : Int) < (BB.length : Int)) = false := decide_eq_false (by omega)
                    have lb : ((4000 : Int) < (BB.length : Int)) = False := eq_false (by omega)
                    have lc : decide (4000 < BB.length) = false := decide_eq_false hl
                    clear hl
                    go_wp2_with (first | (refine wpList_row (by rfl) 29 _ rfl _ rfl (HB1.out.later _) Try.underlying29 rfl (by kernel_rfl) ?_) | (go_at_call 23; refine (Ret.later (KB.out _)).mono ?_; rintro x _ ⟨rfl, e, rfl⟩))
                    go_ret
                    exact Ret.mk (by rw [HR.out]; rfl) (HE1.out.trans e.h)
          · have HR : Hid (RES = 8) := by unfold Hid; rw [HR3.out, HR2'.out]; simp [zt]
            have sa : ((ty) == (1)) = false := by rw [beq_eq_false_iff_ne]; exact zt
            have sb : ((ty) = (1)) = False := eq_false (by exact zt)
            have sc : ((ty) != (1)) = true := by rw [bne_iff_ne]; exact zt
            clear zt
            go_wp2_with (first | (go_at_call 20; refine (Ret.later (L7.out _)).mono ?_; rintro x _ ⟨rfl, e, rfl⟩) | (go_at_call 22; refine (Ret.later (KH.out _)).mono ?_; rintro x _ ⟨rfl, e, rfl⟩))
            go_ret
            exact Ret.mk (by rw [HR.out]; rfl) (HE1.out.trans e.h)
theorem r13Right_any (p : PV) (bs : Nat → BV) (k c : Nat) (A : Option Addr) (hf : p.fl < 18446744073709551616) (hk : k < 4611686018427387904) (hd : ∀ i, i < k → (bs i).data.length ≤ 100000) (w : World) (h : BsL w A k bs) : Calls Try.prog 8 #[bunV p A k c] w (Ret (.int .i64 (bunRight p bs k)) w) := by
  unfold bunRight
  by_cases hb : p.right = 0
  · rw [if_neg (by simpa using hb)]; exact r13Right_ok p bs k c A hf hk hb hd w h
  · rw [if_pos hb]; exact r13Right_p p bs k c A hf hk hb w h
end Go.Proofs.Ytfkenghmlfmjpaa


namespace Go.Proofs.Ytfkenghmlfmjpaa
open Go.RowKit
set_option linter.unusedVariables false
set_option linter.unusedSimpArgs false

theorem infoBlock : (Try.prog.info? 31).map (fun i => (i.zero, i.size, i.bytes)) = some (some (.agg #[.int .i64 0, .int .i64 0, .int .u64 0, .int .i64 0, .string ⟨#[]⟩]), 5, 48) := by kernel_rfl
/-- The row's cells: the first i blocks'. -/
def flatB (bs : Nat → BV) : Nat → List Value
  | 0 => []
  | i + 1 => flatB bs i ++ [.int .i64 (bs i).ty, .int .i64 (bs i).num, .int .u64 ((bs i).fl : Int), .int .i64 (bs i).crc, str (bs i).data]
theorem flatB_length (bs : Nat → BV) (i : Nat) : (flatB bs i).length = i * 5 := by
  induction i with
  | zero => rfl
  | succ i ih => rw [flatB, List.length_append, ih]; simp; omega
theorem flatB_congr {bs bs' : Nat → BV} {i : Nat} (h : ∀ j, j < i → bs j = bs' j) : flatB bs i = flatB bs' i := by
  induction i with
  | zero => rfl
  | succ i ih => rw [flatB, flatB, ih (fun j hj => h j (by omega)), h i (by omega)]
theorem flatB_get (bs : Nat → BV) (i : Nat) : ∀ j, j < i → (flatB bs i)[j * 5]? = some (.int .i64 (bs j).ty) ∧ (flatB bs i)[j * 5 + 1]? = some (.int .i64 (bs j).num) ∧ (flatB bs i)[j * 5 + 2]? = some (.int .u64 ((bs j).fl : Int)) ∧
    (flatB bs i)[j * 5 + 3]? = some (.int .i64 (bs j).crc) ∧ (flatB bs i)[j * 5 + 4]? = some (str (bs j).data) := by
  induction i with
  | zero => intro j hj; omega
  | succ i ih =>
    intro j hj
    have hl := flatB_length bs i
    rw [flatB]
    by_cases e : j = i
    · subst e
      refine ⟨?_, ?_, ?_, ?_, ?_⟩ <;> (rw [List.getElem?_append_right (by omega), hl]; simp)
    · have := ih j (by omega)
      refine ⟨?_, ?_, ?_, ?_, ?_⟩ <;> rw [List.getElem?_append_left (by omega)]
      · exact this.1
      · exact this.2.1
      · exact this.2.2.1
      · exact this.2.2.2.1
      · exact this.2.2.2.2
theorem flatB_idx (bs : Nat → BV) (k : Nat) {j : Nat} {u : Value} (h : (flatB bs k)[j]? = some u) : ∃ i r, i < k ∧ r < 5 ∧ j = i * 5 + r := by
  have := (List.getElem?_eq_some_iff.1 h).1
  rw [flatB_length] at this
  exact ⟨j / 5, j % 5, by omega, by omega, by omega⟩
theorem flatB_news {W : World} {b o : Nat} {bs : Nat → BV} {k : Nat} (h : ∀ i, i < k → BAt W b (o + i * 5) (bs i)) : ∀ j u, (flatB bs k)[j]? = some u → W.cell? ((⟨b, o, none⟩ : Addr).add j) = some u := by
  intro j u hj
  obtain ⟨i, r, hi, hr, rfl⟩ := flatB_idx bs k hj
  obtain ⟨g0, g1, g2, g3, g4⟩ := flatB_get bs k i hi
  obtain ⟨a0, a1, a2, a3, a4⟩ := h i hi
  rw [addr_add, ← Nat.add_assoc]
  have h5 : r = 0 ∨ r = 1 ∨ r = 2 ∨ r = 3 ∨ r = 4 := by omega
  rcases h5 with rfl | rfl | rfl | rfl | rfl
  · rw [← hj, Nat.add_zero, Nat.add_zero, g0]; exact a0
  · rw [← hj, g1]; exact a1
  · rw [← hj, g2]; exact a2
  · rw [← hj, g3]; exact a3
  · rw [← hj, g4]; exact a4
theorem flatB_one (bs : Nat → BV) (k : Nat) : ∀ u ∈ flatB bs k, u.oneCell' = true := by
  intro u hu
  obtain ⟨j, hj⟩ := List.getElem?_of_mem hu
  obtain ⟨i, r, hi, hr, rfl⟩ := flatB_idx bs k hj
  obtain ⟨g0, g1, g2, g3, g4⟩ := flatB_get bs k i hi
  have h5 : r = 0 ∨ r = 1 ∨ r = 2 ∨ r = 3 ∨ r = 4 := by omega
  rcases h5 with rfl | rfl | rfl | rfl | rfl
  · rw [Nat.add_zero, g0] at hj; cases hj; rfl
  · rw [g1] at hj; cases hj; rfl
  · rw [g2] at hj; cases hj; rfl
  · rw [g3] at hj; cases hj; rfl
  · rw [g4] at hj; cases hj; rfl
/-- One block's cells, just made. -/
theorem newsB (W : World) (b : BV) : ∀ j u, [Value.int .i64 b.ty, .int .i64 b.num, .int .u64 (b.fl : Int), .int .i64 b.crc, str b.data][j]? = some u →
    (W.alloc (.cells (BV.c b) 31)).cell? ((⟨W.heap.size, 0, none⟩ : Addr).add j) = some u := by
  intro j u hj
  rw [addr_add, Nat.zero_add]
  rw [(Blk.new W 31 (BV.c b)).cell j]
  simpa using hj
theorem oneB (b : BV) : ∀ u ∈ [Value.int .i64 b.ty, .int .i64 b.num, .int .u64 (b.fl : Int), .int .i64 b.crc, str b.data], u.oneCell' = true := by
  intro u hu
  simp at hu
  rcases hu with rfl | rfl | rfl | rfl | rfl <;> rfl
/-- A row of one's own lies in memory as a bundle's blocks do. -/
theorem own_BsL {W : World} {base k c : Nat} {A : Option Addr} {bs : Nat → BV} (h : W.ownsRow base 31 5 (.slice A k c) k (flatB bs k)) : BsL W A k bs := by
  intro h0
  obtain ⟨k', rfl⟩ : ∃ k', k = k' + 1 := ⟨k - 1, by omega⟩
  obtain ⟨g, c', hv, hb, hlt⟩ := own_form h
  simp only [Value.slice.injEq] at hv
  obtain ⟨rfl, _, rfl⟩ := hv
  refine ⟨g, 0, rfl, hlt, fun i hi => ?_⟩
  obtain ⟨g0, g1, g2, g3, g4⟩ := flatB_get bs (k' + 1) i hi
  refine ⟨?_, ?_, ?_, ?_, ?_⟩ <;> rw [Nat.zero_add]
  · exact own_cells h g0
  · exact own_cells h g1
  · exact own_cells h g2
  · exact own_cells h g3
  · exact own_cells h g4
/-- Which blocks an append turns: the row's own. -/
theorem own_turned {w2 w4 : World} {base n size : Nat} {e : TypeId} {v : Value} {xs : List Value} (h : w2.ownsRow base e size v n xs) {w : World} {S : List Nat} (hw : Mod S w w2) (hgr : w2.grownBy w4 v.ownBlock) (hb : w.heap.size ≤ base) : Mod S w w4 :=
  hw.grown hgr (fun k hk => .inr (Nat.le_trans hb (h.lt k hk).1))
theorem own_far {w2 w4 : World} {base n size : Nat} {e : TypeId} {v : Value} {xs : List Value} (h : w2.ownsRow base e size v n xs) (hgr : w2.grownBy w4 v.ownBlock) {b : Nat} {ty : TypeId} {cs : Array Value} (hB : Blk w2 b ty cs) (hbN : b < base) : Blk w4 b ty cs :=
  (hgr.block b hB.lt (fun e => by have := (h.lt b e.symm).1; omega)).trans hB
end Go.Proofs.Ytfkenghmlfmjpaa


namespace Go.Proofs.Ytfkenghmlfmjpaa
open Go.RowKit
set_option linter.unusedVariables false
set_option linter.unusedSimpArgs false

def flipP (p : PV) : PV := { p with crc := 2 - p.crc }
def flipB (b : BV) : BV := { b with crc := 2 - b.crc }
def bareB (b : BV) : BV := { b with crc := 0, data := [] }
theorem BV.right_iff {b : BV} : b.right = 0 ↔ (1 ≤ b.ty ∧ b.ty ≤ 65535 ∧ 1 ≤ b.num ∧ b.num ≤ 65535 ∧ b.fl ≤ 255 ∧ 0 ≤ b.crc ∧ b.crc ≤ 2 ∧ b.data.length ≤ 4000 ∧ (b.ty = 1 ↔ b.num = 1)) :=
  ⟨BV.right_zero, fun h => by unfold BV.right; rw [if_neg (by omega), if_neg (by omega), if_neg (by omega)]⟩
theorem flipB_right {b : BV} (h : b.right = 0) : (flipB b).right = 0 := by
  rw [BV.right_iff] at h ⊢
  exact ⟨h.1, h.2.1, h.2.2.1, h.2.2.2.1, h.2.2.2.2.1, by show 0 ≤ 2 - b.crc; omega, by show 2 - b.crc ≤ 2; omega, h.2.2.2.2.2.2.2⟩
theorem bareB_right {b : BV} (h : b.right = 0) : (bareB b).right = 0 := by
  rw [BV.right_iff] at h ⊢
  exact ⟨h.1, h.2.1, h.2.2.1, h.2.2.2.1, h.2.2.2.2.1, by show (0 : Int) ≤ 0; omega, by show (0 : Int) ≤ 2; omega, by show 0 ≤ 4000; omega, h.2.2.2.2.2.2.2.2⟩
theorem flipP_right {p : PV} (h : p.right = 0) : (flipP p).right = 0 := by
  have hr := PV.right_ranged h
  have hs := PV.ranged_spec hr
  have hr2 : (flipP p).ranged = true := by
    unfold PV.ranged flipP
    simp only [Bool.and_eq_true, decide_eq_true_eq]
    exact ⟨hs.1, hs.2.1, hs.2.2.1, by omega, by omega, hs.2.2.2.2.2⟩
  unfold PV.right at h ⊢
  rw [hr, if_neg (by decide)] at h
  rw [hr2, if_neg (by decide)]
  exact h
/-- What the other bundle's blocks are: the target's alone, with another sum. -/
def Only (bs : Nat → BV) (target : Int) (k k' : Nat) (ch : Nat → BV) : Prop := match firstOf (numB bs target) k with | none => k' = 0 | some j => k' = 1 ∧ ch 0 = flipB (bs j)
theorem hangs_law {p : PV} {sec : BV} {bs ch : Nat → BV} {k k' : Nat} {target s : Int} (hO : Only bs target k k' ch) (h : (sText p sec bs k target s).2 = 0) : sText (flipP p) (bareB sec) ch k' target s = sText p sec bs k target s := by
  unfold sText at h ⊢
  have h2 : r16Of (flipP p) (bareB sec) ch k' target s = r16Of p sec bs k target s := by
    dsimp only at h
    unfold r16Of at h ⊢
    by_cases c1 : s < 0 ∨ 7 < s
    · rw [if_pos c1] at h; exact absurd h (by decide)
    · rw [if_neg c1] at h ⊢
      rw [if_neg c1]
      by_cases ht : target = 0
      · rw [if_pos ht] at h ⊢
        rw [if_pos ht]
        by_cases hb : p.right = 0
        · rw [if_neg (show ¬ p.right ≠ 0 by simpa using hb)] at h
          rw [if_neg (show ¬ (flipP p).right ≠ 0 by simpa using flipP_right hb), if_neg (show ¬ p.right ≠ 0 by simpa using hb)]
          by_cases hs : sec.right = 0
          · rw [if_neg (show ¬ (bareB sec).right ≠ 0 by simpa using bareB_right hs), if_neg (show ¬ sec.right ≠ 0 by simpa using hs)]; rfl
          · rw [if_pos hs] at h; exact absurd h hs
        · rw [if_pos hb] at h; exact absurd h hb
      · rw [if_neg ht] at h ⊢
        rw [if_neg ht]
        unfold Only at hO
        cases hfo : firstOf (numB bs target) k with
        | none => rw [hfo] at h; exact absurd (show (15 : Int) = 0 from h) (by decide)
        | some i =>
          rw [hfo] at h hO
          obtain ⟨rfl, hch⟩ := hO
          have hn : numB ch target 0 = true := by
            have := (firstOf_spec hfo).2.1
            unfold numB at this ⊢
            rw [hch]
            exact this
          rw [firstOf_some (i := 0) (by omega) hn (fun j hj => by omega)]
          dsimp only at h ⊢
          rw [hch]
          by_cases hb : p.right = 0
          · rw [if_neg (show ¬ p.right ≠ 0 by simpa using hb)] at h
            rw [if_neg (show ¬ (flipP p).right ≠ 0 by simpa using flipP_right hb), if_neg (show ¬ p.right ≠ 0 by simpa using hb)]
            by_cases hx : (bs i).right = 0
            · rw [if_neg (show ¬ (bs i).right ≠ 0 by simpa using hx)] at h
              rw [if_neg (show ¬ (flipB (bs i)).right ≠ 0 by simpa using flipB_right hx), if_neg (show ¬ (bs i).right ≠ 0 by simpa using hx)]
              by_cases hs : sec.right = 0
              · rw [if_neg (show ¬ (bareB sec).right ≠ 0 by simpa using bareB_right hs), if_neg (show ¬ sec.right ≠ 0 by simpa using hs)]; rfl
              · rw [if_pos hs] at h; exact absurd h hs
            · rw [if_pos hx] at h; exact absurd h hx
          · rw [if_pos hb] at h; exact absurd h hb
  rw [h2]
/-- One block more. -/
theorem firstOf_succ_no {p : Nat → Bool} {i : Nat} (h : p i = false) : firstOf p (i + 1) = firstOf p i := by
  cases hf : firstOf p i with
  | none =>
    refine firstOf_none fun j hj => ?_
    by_cases e : j = i
    · subst e; exact h
    · exact firstOf_no hf j (by omega)
  | some x => obtain ⟨h1, h2, h3⟩ := firstOf_spec hf; exact firstOf_some (by omega) h2 h3
theorem Only.skip {bs ch : Nat → BV} {target : Int} {i k' : Nat} (h : Only bs target i k' ch) (hn : numB bs target i = false) : Only bs target (i + 1) k' ch := by
  unfold Only; rw [firstOf_succ_no hn]; exact h
theorem Only.take {bs ch : Nat → BV} {target : Int} {k i k' : Nat} (h : Only bs target i k' ch) (hd : dupB bs k = false) (hi : i < k) (hn : numB bs target i = true) : k' = 0 ∧ ∀ ch', ch' 0 = flipB (bs i) → Only bs target (i + 1) 1 ch' := by
  have hno : ∀ j, j < i → numB bs target j = false := fun j hj => by
    have h1 := dup_no hd hi hj
    have h2 : (bs i).num = target := by simpa [numB, hasNum] using hn
    simp only [numB, hasNum, decide_eq_false_iff_not]
    intro e; exact h1 (h2.trans e.symm)
  constructor
  · unfold Only at h; rw [firstOf_none hno] at h; exact h
  · intro ch' hc; unfold Only; rw [firstOf_some (Nat.lt_succ_self i) hn hno]; exact ⟨rfl, hc⟩
end Go.Proofs.Ytfkenghmlfmjpaa


namespace Go.Proofs.Ytfkenghmlfmjpaa
open Go.RowKit
set_option linter.unusedVariables false
set_option linter.unusedSimpArgs false

set_option maxRecDepth 20000 in
set_option maxHeartbeats 1600000 in
theorem hangs_few (p : PV) (sec : BV) (bs : Nat → BV) (k c : Nat) (A : Option Addr) (target s : Int) (hf : p.fl < 18446744073709551616) (hk : k < 4611686018427387904) (hF : bunFew p bs k = false) (w : World) (h : BsL w A k bs) : Calls Try.prog 3 #[bunV p A k c, sec.v, .agg #[.int .i64 target, .int .i64 s]] w (Ret (.bool true) w) := by
  have KA := hid (fun W => awake16_any W)
  have KF := hid (fun W (hW : BsL W A k bs) => few13_any p bs k c A hk W hW)
  rw [hF] at KF
  clear hF
  have HE := hid ((((Mod.refl [] w).alloc (.cells (bunC p A k c) 29)).alloc (.cells (BV.c sec) 31)).alloc (.cells #[.int .i64 target, .int .i64 s] 33))
  have HB0 : Hid (Blk (((w.alloc (.cells (bunC p A k c) 29)).alloc (.cells (BV.c sec) 31)).alloc (.cells #[.int .i64 target, .int .i64 s] 33)) w.heap.size 29 (bunC p A k c)) := hid (((Blk.new w 29 (bunC p A k c)).alloc (.cells (BV.c sec) 31)).alloc (.cells #[.int .i64 target, .int .i64 s] 33))
  have HB1 : Hid (Blk (((w.alloc (.cells (bunC p A k c) 29)).alloc (.cells (BV.c sec) 31)).alloc (.cells #[.int .i64 target, .int .i64 s] 33)) (w.heap.size + 1) 31 (BV.c sec)) := by unfold Hid; have := (Blk.newL (N := (w.heap.size + 1)) (w.alloc (.cells (bunC p A k c) 29)) 31 (BV.c sec) (by simp)); exact (this.alloc (.cells #[.int .i64 target, .int .i64 s] 33))
  have HB2 : Hid (Blk (((w.alloc (.cells (bunC p A k c) 29)).alloc (.cells (BV.c sec) 31)).alloc (.cells #[.int .i64 target, .int .i64 s] 33)) (w.heap.size + 1 + 1) 33 #[.int .i64 target, .int .i64 s]) := by unfold Hid; exact Blk.newL _ _ _ (by simp)
  have HL := hid (BsL.ext h HE.out)
  clear h hf hk
  go_enter Try.func3, Try.ntmps3
  go_upto_region 1 with fail
  generalize (((w.alloc (.cells (bunC p A k c) 29)).alloc (.cells (BV.c sec) 31)).alloc (.cells #[.int .i64 target, .int .i64 s] 33)) = V at *
  have c0 : ∀ e : Later V, e.x.cell? ⟨w.heap.size + 1 + 1, 0, none⟩ = some (.int .i64 target) := HB2.out.cellL 0 rfl
  have c1 : ∀ e : Later V, e.x.cell? ⟨w.heap.size + 1 + 1, 1, none⟩ = some (.int .i64 s) := HB2.out.cellL 1 rfl
  have d4 : ∀ e : Later V, e.x.cell? ⟨w.heap.size + 1, 4, none⟩ = some (str sec.data) := HB1.out.cellL 4 rfl
  obtain ⟨e, he⟩ := Later.self V
  rw [he]
  clear he
  go_wp2_with (first | (refine wpList_row (by rfl) 29 _ rfl _ rfl (HB0.out.later _) Try.underlying29 rfl (by kernel_rfl) ?_) | (refine wpList_row (by rfl) 31 _ rfl _ rfl (HB1.out.later _) Try.underlying31 rfl (by kernel_rfl) ?_) | (go_at_call 6; refine (Ret.later (KA.out _)).mono ?_; rintro x _ ⟨rfl, e, rfl⟩) | (go_at_call 7; refine (Ret.later (KF.out _ (HL.out.ext (Later.h _)))).mono ?_; rintro x _ ⟨rfl, e, rfl⟩) | (go_at_call 8; refine (Ret.later (KR.out _ (HL.out.ext (Later.h _)))).mono ?_; rintro x _ ⟨rfl, e, rfl⟩))
  go_ret
  exact Ret.mk rfl (HE.out.trans e.h)
set_option maxRecDepth 20000 in
set_option maxHeartbeats 1600000 in
theorem hangs_long (p : PV) (sec : BV) (bs : Nat → BV) (k c : Nat) (A : Option Addr) (target s : Int) (hf : p.fl < 18446744073709551616) (hk : k < 4611686018427387904) (hF : bunFew p bs k = true) (hdat : ¬ sec.data.length ≤ 4100) (w : World) (h : BsL w A k bs) : Calls Try.prog 3 #[bunV p A k c, sec.v, .agg #[.int .i64 target, .int .i64 s]] w (Ret (.bool true) w) := by
  have KA := hid (fun W => awake16_any W)
  have KF := hid (fun W (hW : BsL W A k bs) => few13_any p bs k c A hk W hW)
  rw [hF] at KF
  clear hF
  have la : decide (4100 < sec.data.length) = true := decide_eq_true (by omega)
  have lb : (4100 < sec.data.length) = True := eq_true (by omega)
  have lc : decide ((4100 : Int) < (sec.data.length : Int)) = true := decide_eq_true (by omega)
  clear hdat
  have HE := hid ((((Mod.refl [] w).alloc (.cells (bunC p A k c) 29)).alloc (.cells (BV.c sec) 31)).alloc (.cells #[.int .i64 target, .int .i64 s] 33))
  have HB0 : Hid (Blk (((w.alloc (.cells (bunC p A k c) 29)).alloc (.cells (BV.c sec) 31)).alloc (.cells #[.int .i64 target, .int .i64 s] 33)) w.heap.size 29 (bunC p A k c)) := hid (((Blk.new w 29 (bunC p A k c)).alloc (.cells (BV.c sec) 31)).alloc (.cells #[.int .i64 target, .int .i64 s] 33))
  have HB1 : Hid (Blk (((w.alloc (.cells (bunC p A k c) 29)).alloc (.cells (BV.c sec) 31)).alloc (.cells #[.int .i64 target, .int .i64 s] 33)) (w.heap.size + 1) 31 (BV.c sec)) := by unfold Hid; have := (Blk.newL (N := (w.heap.size + 1)) (w.alloc (.cells (bunC p A k c) 29)) 31 (BV.c sec) (by simp)); exact (this.alloc (.cells #[.int .i64 target, .int .i64 s] 33))
  have HB2 : Hid (Blk (((w.alloc (.cells (bunC p A k c) 29)).alloc (.cells (BV.c sec) 31)).alloc (.cells #[.int .i64 target, .int .i64 s] 33)) (w.heap.size + 1 + 1) 33 #[.int .i64 target, .int .i64 s]) := by unfold Hid; exact Blk.newL _ _ _ (by simp)
  have HL := hid (BsL.ext h HE.out)
  clear h hf hk
  go_enter Try.func3, Try.ntmps3
  go_upto_region 1 with fail
  generalize (((w.alloc (.cells (bunC p A k c) 29)).alloc (.cells (BV.c sec) 31)).alloc (.cells #[.int .i64 target, .int .i64 s] 33)) = V at *
  have c0 : ∀ e : Later V, e.x.cell? ⟨w.heap.size + 1 + 1, 0, none⟩ = some (.int .i64 target) := HB2.out.cellL 0 rfl
  have c1 : ∀ e : Later V, e.x.cell? ⟨w.heap.size + 1 + 1, 1, none⟩ = some (.int .i64 s) := HB2.out.cellL 1 rfl
  have d4 : ∀ e : Later V, e.x.cell? ⟨w.heap.size + 1, 4, none⟩ = some (str sec.data) := HB1.out.cellL 4 rfl
  obtain ⟨e, he⟩ := Later.self V
  rw [he]
  clear he
  go_wp2_with (first | (refine wpList_row (by rfl) 29 _ rfl _ rfl (HB0.out.later _) Try.underlying29 rfl (by kernel_rfl) ?_) | (refine wpList_row (by rfl) 31 _ rfl _ rfl (HB1.out.later _) Try.underlying31 rfl (by kernel_rfl) ?_) | (go_at_call 6; refine (Ret.later (KA.out _)).mono ?_; rintro x _ ⟨rfl, e, rfl⟩) | (go_at_call 7; refine (Ret.later (KF.out _ (HL.out.ext (Later.h _)))).mono ?_; rintro x _ ⟨rfl, e, rfl⟩) | (go_at_call 8; refine (Ret.later (KR.out _ (HL.out.ext (Later.h _)))).mono ?_; rintro x _ ⟨rfl, e, rfl⟩))
  go_ret
  exact Ret.mk rfl (HE.out.trans e.h)
set_option maxRecDepth 20000 in
set_option maxHeartbeats 1600000 in
theorem hangs_bad (p : PV) (sec : BV) (bs : Nat → BV) (k c : Nat) (A : Option Addr) (target s : Int) (hf : p.fl < 18446744073709551616) (hk : k < 4611686018427387904) (hF : bunFew p bs k = true) (hdat : sec.data.length ≤ 4100) (hR : bunRight p bs k ≠ 0) (w : World) (h : BsL w A k bs) : Calls Try.prog 3 #[bunV p A k c, sec.v, .agg #[.int .i64 target, .int .i64 s]] w (Ret (.bool true) w) := by
  have KA := hid (fun W => awake16_any W)
  have KF := hid (fun W (hW : BsL W A k bs) => few13_any p bs k c A hk W hW)
  have hd : ∀ i, i < k → (bs i).data.length ≤ 100000 := fun i hi => by have := (bunFew_spec hF).2.2 i hi; omega
  have KR := hid (fun W (hW : BsL W A k bs) => r13Right_any p bs k c A hf hk hd W hW)
  rw [hF] at KF
  generalize bunRight p bs k = r at *
  clear hF hd
  have la : decide (4100 < sec.data.length) = false := decide_eq_false (by omega)
  have lb : (4100 < sec.data.length) = False := eq_false (by omega)
  have lc : decide ((4100 : Int) < (sec.data.length : Int)) = false := decide_eq_false (by omega)
  have ra : ((r) == (0)) = false := by rw [beq_eq_false_iff_ne]; exact hR
  have rb : ((r) = (0)) = False := eq_false (by exact hR)
  have rc : ((r) != (0)) = true := by rw [bne_iff_ne]; exact hR
  clear hdat hR
  have HE := hid ((((Mod.refl [] w).alloc (.cells (bunC p A k c) 29)).alloc (.cells (BV.c sec) 31)).alloc (.cells #[.int .i64 target, .int .i64 s] 33))
  have HB0 : Hid (Blk (((w.alloc (.cells (bunC p A k c) 29)).alloc (.cells (BV.c sec) 31)).alloc (.cells #[.int .i64 target, .int .i64 s] 33)) w.heap.size 29 (bunC p A k c)) := hid (((Blk.new w 29 (bunC p A k c)).alloc (.cells (BV.c sec) 31)).alloc (.cells #[.int .i64 target, .int .i64 s] 33))
  have HB1 : Hid (Blk (((w.alloc (.cells (bunC p A k c) 29)).alloc (.cells (BV.c sec) 31)).alloc (.cells #[.int .i64 target, .int .i64 s] 33)) (w.heap.size + 1) 31 (BV.c sec)) := by unfold Hid; have := (Blk.newL (N := (w.heap.size + 1)) (w.alloc (.cells (bunC p A k c) 29)) 31 (BV.c sec) (by simp)); exact (this.alloc (.cells #[.int .i64 target, .int .i64 s] 33))
  have HB2 : Hid (Blk (((w.alloc (.cells (bunC p A k c) 29)).alloc (.cells (BV.c sec) 31)).alloc (.cells #[.int .i64 target, .int .i64 s] 33)) (w.heap.size + 1 + 1) 33 #[.int .i64 target, .int .i64 s]) := by unfold Hid; exact Blk.newL _ _ _ (by simp)
  have HL := hid (BsL.ext h HE.out)
  clear h hf hk
  go_enter Try.func3, Try.ntmps3
  go_upto_region 1 with fail
  generalize (((w.alloc (.cells (bunC p A k c) 29)).alloc (.cells (BV.c sec) 31)).alloc (.cells #[.int .i64 target, .int .i64 s] 33)) = V at *
  have c0 : ∀ e : Later V, e.x.cell? ⟨w.heap.size + 1 + 1, 0, none⟩ = some (.int .i64 target) := HB2.out.cellL 0 rfl
  have c1 : ∀ e : Later V, e.x.cell? ⟨w.heap.size + 1 + 1, 1, none⟩ = some (.int .i64 s) := HB2.out.cellL 1 rfl
  have d4 : ∀ e : Later V, e.x.cell? ⟨w.heap.size + 1, 4, none⟩ = some (str sec.data) := HB1.out.cellL 4 rfl
  obtain ⟨e, he⟩ := Later.self V
  rw [he]
  clear he
  go_wp2_with (first | (refine wpList_row (by rfl) 29 _ rfl _ rfl (HB0.out.later _) Try.underlying29 rfl (by kernel_rfl) ?_) | (refine wpList_row (by rfl) 31 _ rfl _ rfl (HB1.out.later _) Try.underlying31 rfl (by kernel_rfl) ?_) | (go_at_call 6; refine (Ret.later (KA.out _)).mono ?_; rintro x _ ⟨rfl, e, rfl⟩) | (go_at_call 7; refine (Ret.later (KF.out _ (HL.out.ext (Later.h _)))).mono ?_; rintro x _ ⟨rfl, e, rfl⟩) | (go_at_call 8; refine (Ret.later (KR.out _ (HL.out.ext (Later.h _)))).mono ?_; rintro x _ ⟨rfl, e, rfl⟩))
  go_ret
  exact Ret.mk rfl (HE.out.trans e.h)
set_option maxRecDepth 20000 in
set_option maxHeartbeats 4000000 in
theorem hangs_right (p : PV) (sec : BV) (bs : Nat → BV) (k c : Nat) (A : Option Addr) (target s : Int) (hf : p.fl < 18446744073709551616) (hk : k < 4611686018427387904) (hF : bunFew p bs k = true) (hdat : sec.data.length ≤ 4100) (hR : bunRight p bs k = 0) (w : World) (h : BsL w A k bs) : Calls Try.prog 3 #[bunV p A k c, sec.v, .agg #[.int .i64 target, .int .i64 s]] w (Ret (.bool true) w) := by
  have KA := hid (fun W => awake16_any W)
  have KF := hid (fun W (hW : BsL W A k bs) => few13_any p bs k c A hk W hW)
  have hd : ∀ i, i < k → (bs i).data.length ≤ 100000 := fun i hi => by have := (bunFew_spec hF).2.2 i hi; omega
  have hnl : Hid (p.d.name.length < 4611686018427387904 ∧ p.s.name.length < 4611686018427387904 ∧ p.r.name.length < 4611686018427387904) := few_names (bunFew_spec hF).2.1
  have KR := hid (fun W (hW : BsL W A k bs) => r13Right_any p bs k c A hf hk hd W hW)
  rw [hR] at KR
  obtain ⟨hp, hbs, h16, hr1, -⟩ := bunRight_zero hR
  have hps := PV.ranged_spec (PV.right_ranged hp)
  rw [hF] at KF
  have KT : Hid (∀ W, BsL W A k bs → Calls Try.prog 9 #[bunV p A k c, .int .i64 target, sec.v, .int .i64 s] W (Ret (.tuple #[str (sText p sec bs k target s).1, .int .i64 (sText p sec bs k target s).2]) W)) := fun W hW => cText_any p sec bs k c A target s hf hk hd hnl W hW
  have KU : Hid (∀ W A' k' c' ch, BsL W A' k' ch → Only bs target k k' ch → Calls Try.prog 9 #[bunV (flipP p) A' k' c', .int .i64 target, (bareB sec).v, .int .i64 s] W (Ret (.tuple #[str (sText (flipP p) (bareB sec) ch k' target s).1, .int .i64 (sText (flipP p) (bareB sec) ch k' target s).2]) W)) := fun W A' k' c' ch hW hO => by
    have hk' : k' ≤ 1 := by unfold Only at hO; split at hO <;> omega
    refine cText_any (flipP p) (bareB sec) ch k' c' A' target s hf (by omega) (fun i hi => ?_) hnl W hW
    unfold Only at hO
    split at hO
    · omega
    · rename_i j hj
      obtain rfl : i = 0 := by omega
      rw [hO.2]
      exact hd j (firstOf_spec hj).1
  have HRZ : Hid (∀ j, j < k → 0 ≤ (bs j).crc ∧ (bs j).crc ≤ 2) := fun j hj => by have := BV.right_zero (hbs j hj); omega
  have HDUP : Hid (dupB bs k = false) := rule1_dup hr1
  have HLAW : Hid (∀ k' ch, Only bs target k k' ch → (sText p sec bs k target s).2 = 0 → sText (flipP p) (bareB sec) ch k' target s = sText p sec bs k target s) := fun k' ch hO h0 => hangs_law hO h0
  have pc0 : 0 ≤ p.crc := by omega
  have pc2 : p.crc ≤ 2 := by omega
  have k1 : (k : Int) ≤ 16 := by omega
  have HK := hid hk
  have la : decide (4100 < sec.data.length) = false := decide_eq_false (by omega)
  have lb : (4100 < sec.data.length) = False := eq_false (by omega)
  have lc : decide ((4100 : Int) < (sec.data.length : Int)) = false := decide_eq_false (by omega)
  have HE := hid ((((Mod.refl [] w).alloc (.cells (bunC p A k c) 29)).alloc (.cells (BV.c sec) 31)).alloc (.cells #[.int .i64 target, .int .i64 s] 33))
  have HB0 : Hid (Blk (((w.alloc (.cells (bunC p A k c) 29)).alloc (.cells (BV.c sec) 31)).alloc (.cells #[.int .i64 target, .int .i64 s] 33)) w.heap.size 29 (bunC p A k c)) := hid (((Blk.new w 29 (bunC p A k c)).alloc (.cells (BV.c sec) 31)).alloc (.cells #[.int .i64 target, .int .i64 s] 33))
  have HB1 : Hid (Blk (((w.alloc (.cells (bunC p A k c) 29)).alloc (.cells (BV.c sec) 31)).alloc (.cells #[.int .i64 target, .int .i64 s] 33)) (w.heap.size + 1) 31 (BV.c sec)) := by unfold Hid; have := (Blk.newL (N := (w.heap.size + 1)) (w.alloc (.cells (bunC p A k c) 29)) 31 (BV.c sec) (by simp)); exact (this.alloc (.cells #[.int .i64 target, .int .i64 s] 33))
  have HB2 : Hid (Blk (((w.alloc (.cells (bunC p A k c) 29)).alloc (.cells (BV.c sec) 31)).alloc (.cells #[.int .i64 target, .int .i64 s] 33)) (w.heap.size + 1 + 1) 33 #[.int .i64 target, .int .i64 s]) := by unfold Hid; exact Blk.newL _ _ _ (by simp)
  have HL := hid (BsL.ext h HE.out)
  clear h hf hk hF hdat hR hd hnl hp hbs h16 hr1 hps
  go_enter Try.func3, Try.ntmps3
  go_upto_region 1 with fail
  generalize (((w.alloc (.cells (bunC p A k c) 29)).alloc (.cells (BV.c sec) 31)).alloc (.cells #[.int .i64 target, .int .i64 s] 33)) = V at *
  have c0 : ∀ e : Later V, e.x.cell? ⟨w.heap.size + 1 + 1, 0, none⟩ = some (.int .i64 target) := HB2.out.cellL 0 rfl
  have c1 : ∀ e : Later V, e.x.cell? ⟨w.heap.size + 1 + 1, 1, none⟩ = some (.int .i64 s) := HB2.out.cellL 1 rfl
  have d4 : ∀ e : Later V, e.x.cell? ⟨w.heap.size + 1, 4, none⟩ = some (str sec.data) := HB1.out.cellL 4 rfl
  have b19 : ∀ e : Later V, e.x.cell? ⟨w.heap.size, 19, none⟩ = some (.slice A k c) := HB0.out.cellL 19 rfl
  have b1 : ∀ e : Later V, e.x.cell? ⟨w.heap.size, 1, none⟩ = some (.int .i64 p.crc) := HB0.out.cellL 1 rfl
  have HPR : Hid (∀ e : Later V, e.x.rangeAt w.heap.size 0 p.c.toList) := HB0.out.range 0 19 (by rw [Array.toList_extract]; rfl)
  obtain ⟨e, he⟩ := Later.self V
  rw [he]
  clear he
  go_upto_region 3 with (first | (refine wpList_row (by rfl) 29 _ rfl _ rfl (HB0.out.later _) Try.underlying29 rfl (by kernel_rfl) ?_) | (refine wpList_row (by rfl) 31 _ rfl _ rfl (HB1.out.later _) Try.underlying31 rfl (by kernel_rfl) ?_) | (go_at_call 6; refine (Ret.later (KA.out _)).mono ?_; rintro x _ ⟨rfl, e, rfl⟩) | (go_at_call 7; refine (Ret.later (KF.out _ (HL.out.ext (Later.h _)))).mono ?_; rintro x _ ⟨rfl, e, rfl⟩) | (go_at_call 8; refine (Ret.later (KR.out _ (HL.out.ext (Later.h _)))).mono ?_; rintro x _ ⟨rfl, e, rfl⟩))
  go_upto_region 4 with (first | (refine wpList_row (by rfl) 29 _ rfl _ rfl (HB0.out.later _) Try.underlying29 rfl (by kernel_rfl) ?_) | (refine wpList_row (by rfl) 31 _ rfl _ rfl (HB1.out.later _) Try.underlying31 rfl (by kernel_rfl) ?_) | (go_at_call 9; refine (Ret.later (KT.out _ (HL.out.ext (Later.h _)))).mono ?_; rintro x _ ⟨rfl, e, rfl⟩))
  go_upto_region 5 with (first | (refine wpList_mid (by rfl) 26 _ rfl _ 0 rfl _ _ (HPR.out _) Try.underlying26 rfl (by kernel_rfl) ?_) | (refine wpList_store_mid rfl 29 _ _ rfl e.x.heap.size 0 (bunC p none 0 0) (by rfl) (by rfl) ((Blk.new _ _ _).there (Nat.le_refl 20)) (by kernel_rfl) (by simp [Value.oneCell']) ?_))
  generalize hU : World.setCells _ _ _ _ = U
  have HX0 : Hid (Blk U e.x.heap.size 29 (bunC p none 0 0)) := hid (by rw [← hU]; exact setCells_all (ds := bunC p none 0 0) (Blk.new _ _ _) rfl)
  have HV0 : Hid (Ext V U) := hid (by rw [← hU]; exact setCells_mod _ _ (e.h.alloc _) (.inr e.h.size))
  have HXV : Hid (V.heap.size ≤ e.x.heap.size ∧ w.heap.size + 2 < e.x.heap.size) := hid ⟨e.h.size, by have := HB2.out.lt; have := e.h.size; omega⟩
  clear hU KA KF KR KT d4 la lb lc HPR
  generalize e.x.heap.size = X at *
  have b1u := b1 ⟨U, HV0.out⟩
  have x1 : U.cell? ⟨X, 1, none⟩ = some (.int .i64 p.crc) := HX0.out.cell 1
  have x1f : U.frozen? ⟨X, 1, none⟩ = false := HX0.out.frozen 1
  clear b1
  go_upto_region 6 with fail
  generalize hU2 : World.setCell U _ _ = U2
  have HX1 : Hid (Blk U2 X 29 (bunC (flipP p) none 0 0)) := hid (by rw [← hU2]; exact HX0.out.set_ 1 (.int .i64 (2 - p.crc)))
  have HV1 : Hid (Ext V U2) := hid (by rw [← hU2]; exact HV0.out.setCell (.inr HXV.out.1) _)
  clear hU2 HX0 HV0 b1u x1 x1f
  go_upto_region 7 with fail
  go_loopw [10] (fun s10 wr => ∃ (i : Nat) (A' : Option Addr) (k' c' : Nat) (ch : Nat → BV), s10 = .int .i64 (i : Int) ∧ Hid (i ≤ k ∧ Ext V wr ∧ Blk wr X 29 (bunC (flipP p) A' k' c') ∧ wr.ownsRow (X + 1) 31 5 (.slice A' k' c') k' (flatB ch k') ∧ X + 1 ≤ wr.heap.size ∧ Only bs target i k' ch)) (fun s10 _ => k - (intOf s10).toNat)
  case atStart => exact ⟨0, none, 0, 0, fun _ => zeroB, rfl, (show Hid _ from ⟨Nat.zero_le _, HV1.out, HX1.out, World.ownsRow_nil _ _ _ _, HX1.out.lt, rfl⟩)⟩
  case round =>
    clear HX1 HV1 e
    obtain ⟨i, A', k', c', ch, rfl, hS⟩ := hrel
    rename World => wr
    have i0 : (0 : Int) ≤ (i : Int) := by omega
    have b19r : wr.cell? ⟨w.heap.size, 19, none⟩ = some (.slice A k c) := b19 ⟨wr, hS.out.2.1⟩
    by_cases hlt : i < k
    · obtain ⟨b, o, rfl, hb, q0, q1, q2, q3, q4⟩ := HL.out.cells hlt
      have tc : decide (i < k) = true := by simp [hlt]
      have i1 : (i : Int) < (k : Int) := by omega
      have HLT := hid hlt
      have u0 := q0 ⟨wr, hS.out.2.1⟩
      have u1 := q1 ⟨wr, hS.out.2.1⟩
      have u2 := q2 ⟨wr, hS.out.2.1⟩
      have u3 := q3 ⟨wr, hS.out.2.1⟩
      have u4 := q4 ⟨wr, hS.out.2.1⟩
      have hcz := HRZ.out i hlt
      have z0 : 0 ≤ (bs i).crc := hcz.1
      have z2 : (bs i).crc ≤ 2 := hcz.2
      clear q0 q1 q2 q3 q4 hlt hcz
      go_upto_region 10 with fail
      generalize hW1 : World.alloc wr _ = W1
      have HG1 : Hid (Blk W1 wr.heap.size 31 (BV.c (bs i))) := hid (by rw [← hW1]; exact Blk.new _ _ _)
      have hS1 : Hid (i ≤ k ∧ Ext V W1 ∧ Blk W1 X 29 (bunC (flipP p) A' k' c') ∧ W1.ownsRow (X + 1) 31 5 (.slice A' k' c') k' (flatB ch k') ∧ X + 1 ≤ wr.heap.size ∧ Only bs target i k' ch) := hid (by
        have h := hS.out
        rw [← hW1]; exact ⟨h.1, h.2.1.alloc _, h.2.2.1.alloc _, h.2.2.2.1.alloc _, h.2.2.2.2⟩)
      have HWS : Hid (∀ kk, (Value.slice A' k' c').ownBlock = some kk → kk < wr.heap.size) := fun kk hkk => (hS.out.2.2.2.1.lt kk hkk).2
      clear hW1 hS u0 u1 u2 u3 u4 b19r
      generalize wr.heap.size = G at *
      have g1 : W1.cell? ⟨G, 1, none⟩ = some (.int .i64 (bs i).num) := HG1.out.cell 1
      have c0r := c0 ⟨W1, hS1.out.2.1⟩
      by_cases hn : numB bs target i = true
      · obtain ⟨hk0, hTake⟩ := hS1.out.2.2.2.2.2.take HDUP.out HLT.out hn
        have HT := hid hTake
        subst hk0
        have hq : (bs i).num = target := by simpa [numB, hasNum] using hn
        have t1 : ((bs i).num == target) = true := by simpa using hq
        have t2 : ((bs i).num = target) = True := by simpa using hq
        clear hn hq hTake
        have g3 : W1.cell? ⟨G, 3, none⟩ = some (.int .i64 (bs i).crc) := HG1.out.cell 3
        have g3f : W1.frozen? ⟨G, 3, none⟩ = false := HG1.out.frozen 3
        go_upto_region 12 with fail
        generalize hW2 : World.setCell W1 _ _ = W2
        have HG2 : Hid (Blk W2 G 31 (BV.c (flipB (bs i)))) := hid (by rw [← hW2]; exact HG1.out.set_ 3 (.int .i64 (2 - (bs i).crc)))
        have hGX : G ≠ X := by have := hS1.out.2.2.2.2.1; omega
        have HXX2 : Hid (Blk W2 X 29 (bunC (flipP p) A' 0 c')) := hid (by rw [← hW2]; exact hS1.out.2.2.1.far (fun h => hGX h.symm) _)
        have HO2 : Hid (W2.ownsRow (X + 1) 31 5 (.slice A' 0 c') 0 (flatB ch 0)) := hid (by rw [← hW2]; exact ownsRow_mod hS1.out.2.2.2.1 (Mod.setCell (S := [G]) (Mod.refl _ _) (.inl (by simp)) _) (fun kk hkk hm => by have := HWS.out kk hkk; simp at hm; omega))
        have HV2 : Hid (Ext V W2) := hid (by rw [← hW2]; exact hS1.out.2.1.setCell (.inr (by have := hS1.out.2.2.2.2.1; have := HXV.out.1; simp; omega)) _)
        have HSZ : Hid (X + 1 ≤ W2.heap.size ∧ G < W2.heap.size) := hid ⟨HXX2.out.lt, HG2.out.lt⟩
        clear hW2 g1 g3 g3f c0r hS1 HWS HG1
        obtain ⟨ib, hi, hz0, hz1, hz2⟩ := info_parts infoBlock
        have x19 : W2.cell? ⟨X, 19, none⟩ = some (.slice A' 0 c') := HXX2.out.cell 19
        go_wp2_with (first | (refine wpList_row (by rfl) 31 _ rfl _ rfl HG2.out Try.underlying31 rfl (by kernel_rfl) ?_) | (at_builtin; refine wpList_append_own _ rfl _ _ 27 rfl (X + 1) 31 ib _ 5 48 Try.underlying27 hi hz0 hz1 hz2 rfl (by decide) _ _ _ rfl (HO2.out.alloc _) ⟨W2.heap.size, 0, none⟩ 1 1 [Value.int .i64 (flipB (bs i)).ty, .int .i64 (flipB (bs i)).num, .int .u64 ((flipB (bs i)).fl : Int), .int .i64 (flipB (bs i)).crc, str (flipB (bs i)).data] rfl rfl (newsB W2 (flipB (bs i))) (oneB _) (by decide) (by decide) (by have := HSZ.out.1; simp; omega) ?_; intro v' w4 hown' hgrow _; obtain ⟨g', c4, rfl, hg', hlt'⟩ := own_form hown'; have hX4 := own_far (HO2.out.alloc _) hgrow (HXX2.out.alloc _) (Nat.lt_succ_self X); have x19 := hX4.cell 19; have x19f := hX4.frozen 19; have hE4 := own_turned (HO2.out.alloc _) (HV2.out.alloc _) hgrow (by have := HXV.out.1; omega)))
        go_roundw
        case rel => exact ⟨i + 1, some ⟨g', 0, none⟩, 1, c4, fun _ => flipB (bs i), by go_num, (show Hid _ from ⟨HLT.out, hE4.setCell (.inr HXV.out.1) _, hX4.set_ 19 _, ownsRow_mod (by simpa [flatB] using hown') (Mod.setCell (S := [X]) (Mod.refl _ _) (.inl (by simp)) _) (fun kk hkk hm => by cases hkk; simp at hm; omega), by have := hX4.lt; simp [World.setCell]; omega, HT.out _ rfl⟩)⟩
        case measure => have := HLT.out; simp [intOf]; omega
      · have hn' : numB bs target i = false := by simpa using hn
        have HN := hid hn'
        have hq : (bs i).num ≠ target := by simpa [numB, hasNum] using hn
        have t1 : ((bs i).num == target) = false := by simpa using hq
        have t2 : ((bs i).num = target) = False := by simpa using hq
        clear hn hn' hq
        go_wp2_with fail
        go_roundw
        case rel => exact ⟨i + 1, A', k', c', ch, by go_num, (show Hid _ from ⟨HLT.out, hS1.out.2.1, hS1.out.2.2.1, hS1.out.2.2.2.1, hS1.out.2.2.1.lt, hS1.out.2.2.2.2.2.skip HN.out⟩)⟩
        case measure => have := HLT.out; simp [intOf]; omega
    · obtain rfl : i = k := by have := hS.out.1; omega
      have tc : decide (i < i) = false := by simp
      obtain ⟨-, h2, h3, h4, h5, h6⟩ := hS.out
      have HS1 := hid (HB1.out.ext h2)
      have HS2 := hid (HB2.out.ext h2)
      have y3 : wr.cell? ⟨w.heap.size + 1, 3, none⟩ = some (.int .i64 sec.crc) := HS1.out.cell 3
      have y4 : wr.cell? ⟨w.heap.size + 1, 4, none⟩ = some (str sec.data) := HS1.out.cell 4
      have y3f : wr.frozen? ⟨w.heap.size + 1, 3, none⟩ = false := HS1.out.frozen 3
      have y4f : wr.frozen? ⟨w.heap.size + 1, 4, none⟩ = false := HS1.out.frozen 4
      have HX3 := hid h3
      have HOW := hid h4
      have HONLY := hid h6
      have HM := hid (HE.out.trans h2)
      clear h2 h3 h4 h5 h6 hS b19 hlt
      go_upto_region 15 with fail
      generalize hW5 : World.setCell (World.setCell wr _ _) _ _ = W5
      have Z1 : Hid (Blk W5 (w.heap.size + 1) 31 (BV.c (bareB sec))) := hid (by rw [← hW5]; exact (HS1.out.set_ 3 (.int .i64 0)).set_ 4 (str []))
      have Z2 : Hid (Blk W5 (w.heap.size + 1 + 1) 33 #[.int .i64 target, .int .i64 s]) := hid (by rw [← hW5]; exact (HS2.out.far (by simp) _).far (by simp) _)
      have ZX : Hid (Blk W5 X 29 (bunC (flipP p) A' k' c')) := hid (by rw [← hW5]; exact (HX3.out.far (by have := HXV.out.2; simp; omega) _).far (by have := HXV.out.2; simp; omega) _)
      have ZO : Hid (BsL W5 A' k' ch) := hid (by
        rw [← hW5]
        refine own_BsL (ownsRow_mod HOW.out (S := [w.heap.size + 1]) (Mod.setCell (Mod.setCell (Mod.refl _ _) (.inl (by simp)) _) (.inl (by simp)) _) (fun kk hkk hm => ?_))
        have := (HOW.out.lt kk hkk).1; have := HXV.out.2; simp at hm; omega)
      have ZM : Hid (Ext w W5) := hid (by rw [← hW5]; exact (HM.out.setCell (.inr (by simp)) _).setCell (.inr (by simp)) _)
      clear hW5 y3 y4 y3f y4f HS1 HS2 HX3 HOW HM
      have KU2 := hid (KU.out W5 A' k' c' ch ZO.out HONLY.out)
      have HL2 := hid (HLAW.out k' ch HONLY.out)
      clear KU HLAW c0 c1
      have c0 : W5.cell? ⟨w.heap.size + 1 + 1, 0, none⟩ = some (.int .i64 target) := Z2.out.cell 0
      have c1 : W5.cell? ⟨w.heap.size + 1 + 1, 1, none⟩ = some (.int .i64 s) := Z2.out.cell 1
      by_cases h0 : (sText p sec bs i target s).2 = 0
      · rw [HL2.out h0] at KU2
        clear HL2
        generalize sText p sec bs i target s = T at *
        obtain ⟨t1, t2⟩ := T
        obtain rfl : t2 = 0 := h0
        dsimp only at KU2
        go_wp2_with (first | (refine wpList_row (by rfl) 29 _ rfl _ rfl ZX.out Try.underlying29 rfl (by kernel_rfl) ?_) | (refine wpList_row (by rfl) 31 _ rfl _ rfl Z1.out Try.underlying31 rfl (by kernel_rfl) ?_) | (go_at_call 9; refine KU2.out.mono ?_; rintro x w6 ⟨rfl, h6⟩))
        go_ret
        exact Ret.mk (by simp) (ZM.out.trans h6)
      · clear HL2
        generalize sText (flipP p) (bareB sec) ch k' target s = T2 at *
        generalize sText p sec bs i target s = T at *
        obtain ⟨t1, t2⟩ := T
        have ra : (t2 == 0) = false := by rw [beq_eq_false_iff_ne]; exact h0
        have rb : (t2 = 0) = False := eq_false h0
        have rc : (t2 != 0) = true := by rw [bne_iff_ne]; exact h0
        clear h0
        go_wp2_with (first | (refine wpList_row (by rfl) 29 _ rfl _ rfl ZX.out Try.underlying29 rfl (by kernel_rfl) ?_) | (refine wpList_row (by rfl) 31 _ rfl _ rfl Z1.out Try.underlying31 rfl (by kernel_rfl) ?_) | (go_at_call 9; refine KU2.out.mono ?_; rintro x w6 ⟨rfl, h6⟩))
        go_ret
        exact Ret.mk (by simp) (ZM.out.trans h6)
theorem lawHangs_any (p : PV) (sec : BV) (bs : Nat → BV) (k c : Nat) (A : Option Addr) (target s : Int) (hf : p.fl < 18446744073709551616) (hk : k < 4611686018427387904) (w : World) (h : BsL w A k bs) : Calls Try.prog 3 #[bunV p A k c, sec.v, .agg #[.int .i64 target, .int .i64 s]] w (Ret (.bool true) w) := by
  cases hF : bunFew p bs k with
  | false => exact hangs_few p sec bs k c A target s hf hk hF w h
  | true =>
    by_cases hdat : sec.data.length ≤ 4100
    · by_cases hR : bunRight p bs k = 0
      · exact hangs_right p sec bs k c A target s hf hk hF hdat hR w h
      · exact hangs_bad p sec bs k c A target s hf hk hF hdat hR w h
    · exact hangs_long p sec bs k c A target s hf hk hF hdat w h
end Go.Proofs.Ytfkenghmlfmjpaa
