/-
  What is signed, and what goes with what is sealed: code and reference against one plain answer.
  A bundle of one block.
  The layer's own awake; its argument At, opened.
  The law ScopeTexts, walked.
-/
import Derived.Test.YtfkenghmlfmjpaaMScopeTextsf

namespace Go.Proofs.Ytfkenghmlfmjpaa
open Go.RowKit
set_option linter.unusedVariables false
set_option linter.unusedSimpArgs false

/-- What ref16.beside answers. -/
def r16Of (p : PV) (sec : BV) (bs : Nat → BV) (k : Nat) (target s : Int) : List UInt8 × List UInt8 × Int :=
  if s < 0 ∨ 7 < s then ([], [], 1)
  else if target = 0 then (if p.right ≠ 0 then ([], [], p.right) else if sec.right ≠ 0 then ([], [], sec.right) else (besB p.plain.bytes [] sec.hdr 0 s.toNat, p.plain.bytes, 0))
  else match firstOf (numB bs target) k with
    | none => ([], [], 15)
    | some i => if p.right ≠ 0 then ([], [], p.right) else if (bs i).right ≠ 0 then ([], [], (bs i).right) else if sec.right ≠ 0 then ([], [], sec.right)
        else (besB p.plain.bytes (bs i).hdr sec.hdr target s.toNat, headL 2 (bs i).data.length ++ (bs i).data, 0)
theorem besB_length {pr tg sc : List UInt8} {target : Int} {n : Nat} (h1 : pr.length ≤ 100000) (h2 : tg.length ≤ 100000) (h3 : sc.length ≤ 100000) : (besB pr tg sc target n).length ≤ 400000 := by
  have := headL_le 0 n
  unfold besB
  simp only [List.length_append]
  split <;> split <;> split <;> simp <;> omega
theorem hdr_length (b : BV) : b.hdr.length ≤ 100 := by have a := headL_le 0 b.ty.toNat; have c := headL_le 0 b.num.toNat; have d := headL_le 0 b.fl; unfold BV.hdr; simp only [List.length_append]; omega
theorem plain_length {p : PV} (h : p.right = 0) : p.plain.bytes.length ≤ 40000 := PV.bytes_length (PV.right_ranged (PV.plain_right h))
theorem r16Of_length {p : PV} {sec : BV} {bs : Nat → BV} {k : Nat} {target s : Int} (hd : ∀ i, i < k → (bs i).data.length ≤ 100000) : (r16Of p sec bs k target s).1.length ≤ 400000 ∧ (r16Of p sec bs k target s).2.1.length ≤ 200000 := by
  unfold r16Of
  by_cases c1 : s < 0 ∨ 7 < s
  · rw [if_pos c1]; simp
  · rw [if_neg c1]
    by_cases ht : target = 0
    · rw [if_pos ht]
      by_cases hb : p.right = 0
      · rw [if_neg (by simpa using hb)]
        have := plain_length hb
        by_cases hs : sec.right = 0
        · rw [if_neg (by simpa using hs)]
          exact ⟨besB_length (by omega) (by simp) (by have := hdr_length sec; omega), by show p.plain.bytes.length ≤ _; omega⟩
        · rw [if_pos hs]; simp
      · rw [if_pos hb]; simp
    · rw [if_neg ht]
      cases hfo : firstOf (numB bs target) k with
      | none => simp
      | some i =>
        have hi := (firstOf_spec hfo).1
        have := hd i hi
        have := headL_le 2 (bs i).data.length
        dsimp only
        by_cases hb : p.right = 0
        · rw [if_neg (by simpa using hb)]
          have := plain_length hb
          by_cases hx : (bs i).right = 0
          · rw [if_neg (by simpa using hx)]
            by_cases hs : sec.right = 0
            · rw [if_neg (by simpa using hs)]
              exact ⟨besB_length (by omega) (by have := hdr_length (bs i); omega) (by have := hdr_length sec; omega), by simp only [List.length_append]; omega⟩
            · rw [if_pos hs]; simp
          · rw [if_pos hx]; simp
        · rw [if_pos hb]; simp
theorem r16_any (p : PV) (sec : BV) (bs : Nat → BV) (k c : Nat) (A : Option Addr) (target s : Int) (hf : p.fl < 18446744073709551616) (hk : k < 4611686018427387904) (hd : ∀ i, i < k → (bs i).data.length ≤ 100000) (w : World) (h : BsL w A k bs) :
    Calls Try.prog 27 #[bunV p A k c, .int .i64 target, sec.v, .int .i64 s] w (Ret (.tuple #[str (r16Of p sec bs k target s).1, str (r16Of p sec bs k target s).2.1, .int .i64 (r16Of p sec bs k target s).2.2]) w) := by
  unfold r16Of
  by_cases c1 : s < 0 ∨ 7 < s
  · rw [if_pos c1]
    rcases c1 with c1 | c1
    · exact r16_neg p sec bs k c A target s c1 hk w h
    · exact r16_big p sec bs k c A target s c1 hk w h
  · rw [if_neg c1]
    obtain ⟨n, rfl⟩ : ∃ n : Nat, s = (n : Int) := ⟨s.toNat, by omega⟩
    have hn : n < 8 := by omega
    simp only [Int.toNat_natCast]
    by_cases ht : target = 0
    · subst ht
      rw [if_pos rfl]
      by_cases hb : p.right = 0
      · rw [if_neg (by simpa using hb)]
        by_cases hs : sec.right = 0
        · rw [if_neg (by simpa using hs)]; exact r16_ok0 p sec bs k c A n hn hb hs hk w h
        · rw [if_pos hs]; exact r16_sbad0 p sec bs k c A n hn hf hb hs hk w h
      · rw [if_pos hb]; exact r16_pbad0 p sec bs k c A n hn hf hb hk w h
    · rw [if_neg ht]
      cases hfo : firstOf (numB bs target) k with
      | none => exact r16_none p sec bs k c A target n hn hfo ht hk w h
      | some i =>
        dsimp only
        by_cases hb : p.right = 0
        · rw [if_neg (by simpa using hb)]
          by_cases hx : (bs i).right = 0
          · rw [if_neg (by simpa using hx)]
            by_cases hs : sec.right = 0
            · rw [if_neg (by simpa using hs)]; exact r16_okT p sec bs k c A target n hn hb hs i hx hfo ht (hd i (firstOf_spec hfo).1) hk w h
            · rw [if_pos hs]; exact r16_sbad p sec bs k c A target n hn hf hb i hx hs hfo ht hk w h
          · rw [if_pos hx]; exact r16_xbad p sec bs k c A target n hn hf hb i hx hfo ht hk w h
        · rw [if_pos hb]; exact r16_pbad p sec bs k c A target n hn hf hb i hfo ht hk w h
/-- What Text answers. -/
def sText (p : PV) (sec : BV) (bs : Nat → BV) (k : Nat) (target s : Int) : List UInt8 × Int := ((r16Of p sec bs k target s).1 ++ (r16Of p sec bs k target s).2.1, (r16Of p sec bs k target s).2.2)
/-- What Beside answers. -/
def sBes (p : PV) (sec : BV) (bs : Nat → BV) (k : Nat) (target s : Int) : List UInt8 × Int :=
  if (0 ≤ s ∧ s ≤ 7) ∧ target = 0 then ([], 8) else ((r16Of p sec bs k target s).1, (r16Of p sec bs k target s).2.2)
def tv (r : List UInt8 × Int) : Value := .tuple #[str r.1, .int .i64 r.2]
set_option maxRecDepth 20000 in
theorem rSText_any (p : PV) (sec : BV) (bs : Nat → BV) (k c : Nat) (A : Option Addr) (target s : Int) (hf : p.fl < 18446744073709551616) (hk : k < 4611686018427387904) (hd : ∀ i, i < k → (bs i).data.length ≤ 100000) (w : World) (h : BsL w A k bs) : Calls Try.prog 10 #[bunV p A k c, .int .i64 target, sec.v, .int .i64 s] w (Ret (tv (sText p sec bs k target s)) w) := by
  show Calls _ _ _ _ (Ret (.tuple #[str ((r16Of p sec bs k target s).1 ++ (r16Of p sec bs k target s).2.1), .int .i64 (r16Of p sec bs k target s).2.2]) w)
  have hl := r16Of_length (p := p) (sec := sec) (bs := bs) (k := k) (target := target) (s := s) hd
  generalize hX : r16Of p sec bs k target s = X at *
  have HE := hid (((Mod.refl [] w).alloc (.cells (bunC p A k c) 29)).alloc (.cells (BV.c sec) 31))
  have HB0 : Hid (Blk ((w.alloc (.cells (bunC p A k c) 29)).alloc (.cells (BV.c sec) 31)) w.heap.size 29 (bunC p A k c)) := hid ((Blk.new w 29 (bunC p A k c)).alloc (.cells (BV.c sec) 31))
  have HB1 : Hid (Blk ((w.alloc (.cells (bunC p A k c) 29)).alloc (.cells (BV.c sec) 31)) (w.heap.size + 1) 31 (BV.c sec)) := by unfold Hid; exact Blk.newL _ _ _ (by simp)
  have KB : Hid (∀ e : Later ((w.alloc (.cells (bunC p A k c) 29)).alloc (.cells (BV.c sec) 31)), Calls Try.prog 27 #[bunV p A k c, .int .i64 target, sec.v, .int .i64 s] e.x (Ret (.tuple #[str X.1, str X.2.1, .int .i64 X.2.2]) e.x)) := fun e => by rw [← hX]; exact r16_any p sec bs k c A target s hf hk hd e.x (h.ext (HE.out.trans e.h))
  clear hX hf hk hd h
  have l1 := hl.1
  have l2 := hl.2
  clear hl
  obtain ⟨x1, x2, x3⟩ := X
  dsimp only at *
  go_enter Try.func10, Try.ntmps10
  go_upto_region 1 with fail
  generalize ((w.alloc (.cells (bunC p A k c) 29)).alloc (.cells (BV.c sec) 31)) = V at *
  obtain ⟨e, he⟩ := Later.self V
  rw [he]
  clear he
  go_wp2_with (first | (refine wpList_cat (by rfl) _ _ _ _ rfl _ _ rfl rfl (by (try simp only [List.length_append, List.length_cons, List.length_nil]); omega) ?_) | (refine wpList_row (by rfl) 29 _ rfl _ rfl (HB0.out.later _) Try.underlying29 rfl (by kernel_rfl) ?_) | (refine wpList_row (by rfl) 31 _ rfl _ rfl (HB1.out.later _) Try.underlying31 rfl (by kernel_rfl) ?_) | (go_at_call 27; refine (Ret.later (KB.out _)).mono ?_; rintro x _ ⟨rfl, e, rfl⟩))
  go_ret2
  exact Ret.mk rfl (HE.out.trans e.h)
set_option maxRecDepth 20000 in
theorem rBes_0 (p : PV) (sec : BV) (bs : Nat → BV) (k c : Nat) (A : Option Addr) (target s : Int) (hf : p.fl < 18446744073709551616) (hk : k < 4611686018427387904) (hd : ∀ i, i < k → (bs i).data.length ≤ 100000) (h0 : 0 ≤ s) (h7 : s ≤ 7) (ht : target = 0) (w : World) (h : BsL w A k bs) : Calls Try.prog 12 #[bunV p A k c, .int .i64 target, sec.v, .int .i64 s] w (Ret (tv ([], 8)) w) := by
  have hl := r16Of_length (p := p) (sec := sec) (bs := bs) (k := k) (target := target) (s := s) hd
  generalize hX : r16Of p sec bs k target s = X at *
  have HE := hid (((Mod.refl [] w).alloc (.cells (bunC p A k c) 29)).alloc (.cells (BV.c sec) 31))
  have HB0 : Hid (Blk ((w.alloc (.cells (bunC p A k c) 29)).alloc (.cells (BV.c sec) 31)) w.heap.size 29 (bunC p A k c)) := hid ((Blk.new w 29 (bunC p A k c)).alloc (.cells (BV.c sec) 31))
  have HB1 : Hid (Blk ((w.alloc (.cells (bunC p A k c) 29)).alloc (.cells (BV.c sec) 31)) (w.heap.size + 1) 31 (BV.c sec)) := by unfold Hid; exact Blk.newL _ _ _ (by simp)
  have KB : Hid (∀ e : Later ((w.alloc (.cells (bunC p A k c) 29)).alloc (.cells (BV.c sec) 31)), Calls Try.prog 27 #[bunV p A k c, .int .i64 target, sec.v, .int .i64 s] e.x (Ret (.tuple #[str X.1, str X.2.1, .int .i64 X.2.2]) e.x)) := fun e => by rw [← hX]; exact r16_any p sec bs k c A target s hf hk hd e.x (h.ext (HE.out.trans e.h))
  clear hX hf hk hd h hl
  obtain ⟨x1, x2, x3⟩ := X
  dsimp only at *
  subst ht
  have saa : decide ((0 : Int) ≤ s) = true := decide_eq_true (by omega)
  have sab : ((0 : Int) ≤ s) = True := eq_true (by omega)
  have sba : decide (s ≤ (7 : Int)) = true := decide_eq_true (by omega)
  have sbb : (s ≤ (7 : Int)) = True := eq_true (by omega)
  clear h0 h7
  go_enter Try.func12, Try.ntmps12
  go_upto_region 1 with fail
  generalize ((w.alloc (.cells (bunC p A k c) 29)).alloc (.cells (BV.c sec) 31)) = V at *
  obtain ⟨e, he⟩ := Later.self V
  rw [he]
  clear he
  go_wp2_with (first | (refine wpList_row (by rfl) 29 _ rfl _ rfl (HB0.out.later _) Try.underlying29 rfl (by kernel_rfl) ?_) | (refine wpList_row (by rfl) 31 _ rfl _ rfl (HB1.out.later _) Try.underlying31 rfl (by kernel_rfl) ?_) | (go_at_call 27; refine (Ret.later (KB.out _)).mono ?_; rintro x _ ⟨rfl, e, rfl⟩))
  go_ret2
  exact Ret.mk rfl (HE.out.trans e.h)
set_option maxRecDepth 20000 in
theorem rBes_neg (p : PV) (sec : BV) (bs : Nat → BV) (k c : Nat) (A : Option Addr) (target s : Int) (hf : p.fl < 18446744073709551616) (hk : k < 4611686018427387904) (hd : ∀ i, i < k → (bs i).data.length ≤ 100000) (h0 : s < 0) (w : World) (h : BsL w A k bs) : Calls Try.prog 12 #[bunV p A k c, .int .i64 target, sec.v, .int .i64 s] w (Ret (.tuple #[str (r16Of p sec bs k target s).1, .int .i64 (r16Of p sec bs k target s).2.2]) w) := by
  have hl := r16Of_length (p := p) (sec := sec) (bs := bs) (k := k) (target := target) (s := s) hd
  generalize hX : r16Of p sec bs k target s = X at *
  have HE := hid (((Mod.refl [] w).alloc (.cells (bunC p A k c) 29)).alloc (.cells (BV.c sec) 31))
  have HB0 : Hid (Blk ((w.alloc (.cells (bunC p A k c) 29)).alloc (.cells (BV.c sec) 31)) w.heap.size 29 (bunC p A k c)) := hid ((Blk.new w 29 (bunC p A k c)).alloc (.cells (BV.c sec) 31))
  have HB1 : Hid (Blk ((w.alloc (.cells (bunC p A k c) 29)).alloc (.cells (BV.c sec) 31)) (w.heap.size + 1) 31 (BV.c sec)) := by unfold Hid; exact Blk.newL _ _ _ (by simp)
  have KB : Hid (∀ e : Later ((w.alloc (.cells (bunC p A k c) 29)).alloc (.cells (BV.c sec) 31)), Calls Try.prog 27 #[bunV p A k c, .int .i64 target, sec.v, .int .i64 s] e.x (Ret (.tuple #[str X.1, str X.2.1, .int .i64 X.2.2]) e.x)) := fun e => by rw [← hX]; exact r16_any p sec bs k c A target s hf hk hd e.x (h.ext (HE.out.trans e.h))
  clear hX hf hk hd h hl
  obtain ⟨x1, x2, x3⟩ := X
  dsimp only at *
  have saa : decide ((0 : Int) ≤ s) = false := decide_eq_false (by omega)
  have sab : ((0 : Int) ≤ s) = False := eq_false (by omega)
  clear h0
  go_enter Try.func12, Try.ntmps12
  go_upto_region 1 with fail
  generalize ((w.alloc (.cells (bunC p A k c) 29)).alloc (.cells (BV.c sec) 31)) = V at *
  obtain ⟨e, he⟩ := Later.self V
  rw [he]
  clear he
  go_wp2_with (first | (refine wpList_row (by rfl) 29 _ rfl _ rfl (HB0.out.later _) Try.underlying29 rfl (by kernel_rfl) ?_) | (refine wpList_row (by rfl) 31 _ rfl _ rfl (HB1.out.later _) Try.underlying31 rfl (by kernel_rfl) ?_) | (go_at_call 27; refine (Ret.later (KB.out _)).mono ?_; rintro x _ ⟨rfl, e, rfl⟩))
  go_ret2
  exact Ret.mk rfl (HE.out.trans e.h)
set_option maxRecDepth 20000 in
theorem rBes_big (p : PV) (sec : BV) (bs : Nat → BV) (k c : Nat) (A : Option Addr) (target s : Int) (hf : p.fl < 18446744073709551616) (hk : k < 4611686018427387904) (hd : ∀ i, i < k → (bs i).data.length ≤ 100000) (h7 : 7 < s) (w : World) (h : BsL w A k bs) : Calls Try.prog 12 #[bunV p A k c, .int .i64 target, sec.v, .int .i64 s] w (Ret (.tuple #[str (r16Of p sec bs k target s).1, .int .i64 (r16Of p sec bs k target s).2.2]) w) := by
  have hl := r16Of_length (p := p) (sec := sec) (bs := bs) (k := k) (target := target) (s := s) hd
  generalize hX : r16Of p sec bs k target s = X at *
  have HE := hid (((Mod.refl [] w).alloc (.cells (bunC p A k c) 29)).alloc (.cells (BV.c sec) 31))
  have HB0 : Hid (Blk ((w.alloc (.cells (bunC p A k c) 29)).alloc (.cells (BV.c sec) 31)) w.heap.size 29 (bunC p A k c)) := hid ((Blk.new w 29 (bunC p A k c)).alloc (.cells (BV.c sec) 31))
  have HB1 : Hid (Blk ((w.alloc (.cells (bunC p A k c) 29)).alloc (.cells (BV.c sec) 31)) (w.heap.size + 1) 31 (BV.c sec)) := by unfold Hid; exact Blk.newL _ _ _ (by simp)
  have KB : Hid (∀ e : Later ((w.alloc (.cells (bunC p A k c) 29)).alloc (.cells (BV.c sec) 31)), Calls Try.prog 27 #[bunV p A k c, .int .i64 target, sec.v, .int .i64 s] e.x (Ret (.tuple #[str X.1, str X.2.1, .int .i64 X.2.2]) e.x)) := fun e => by rw [← hX]; exact r16_any p sec bs k c A target s hf hk hd e.x (h.ext (HE.out.trans e.h))
  clear hX hf hk hd h hl
  obtain ⟨x1, x2, x3⟩ := X
  dsimp only at *
  have saa : decide ((0 : Int) ≤ s) = true := decide_eq_true (by omega)
  have sab : ((0 : Int) ≤ s) = True := eq_true (by omega)
  have sba : decide (s ≤ (7 : Int)) = false := decide_eq_false (by omega)
  have sbb : (s ≤ (7 : Int)) = False := eq_false (by omega)
  clear h7
  go_enter Try.func12, Try.ntmps12
  go_upto_region 1 with fail
  generalize ((w.alloc (.cells (bunC p A k c) 29)).alloc (.cells (BV.c sec) 31)) = V at *
  obtain ⟨e, he⟩ := Later.self V
  rw [he]
  clear he
  go_wp2_with (first | (refine wpList_row (by rfl) 29 _ rfl _ rfl (HB0.out.later _) Try.underlying29 rfl (by kernel_rfl) ?_) | (refine wpList_row (by rfl) 31 _ rfl _ rfl (HB1.out.later _) Try.underlying31 rfl (by kernel_rfl) ?_) | (go_at_call 27; refine (Ret.later (KB.out _)).mono ?_; rintro x _ ⟨rfl, e, rfl⟩))
  go_ret2
  exact Ret.mk rfl (HE.out.trans e.h)
set_option maxRecDepth 20000 in
theorem rBes_t (p : PV) (sec : BV) (bs : Nat → BV) (k c : Nat) (A : Option Addr) (target s : Int) (hf : p.fl < 18446744073709551616) (hk : k < 4611686018427387904) (hd : ∀ i, i < k → (bs i).data.length ≤ 100000) (h0 : 0 ≤ s) (h7 : s ≤ 7) (ht : target ≠ 0) (w : World) (h : BsL w A k bs) : Calls Try.prog 12 #[bunV p A k c, .int .i64 target, sec.v, .int .i64 s] w (Ret (.tuple #[str (r16Of p sec bs k target s).1, .int .i64 (r16Of p sec bs k target s).2.2]) w) := by
  have hl := r16Of_length (p := p) (sec := sec) (bs := bs) (k := k) (target := target) (s := s) hd
  generalize hX : r16Of p sec bs k target s = X at *
  have HE := hid (((Mod.refl [] w).alloc (.cells (bunC p A k c) 29)).alloc (.cells (BV.c sec) 31))
  have HB0 : Hid (Blk ((w.alloc (.cells (bunC p A k c) 29)).alloc (.cells (BV.c sec) 31)) w.heap.size 29 (bunC p A k c)) := hid ((Blk.new w 29 (bunC p A k c)).alloc (.cells (BV.c sec) 31))
  have HB1 : Hid (Blk ((w.alloc (.cells (bunC p A k c) 29)).alloc (.cells (BV.c sec) 31)) (w.heap.size + 1) 31 (BV.c sec)) := by unfold Hid; exact Blk.newL _ _ _ (by simp)
  have KB : Hid (∀ e : Later ((w.alloc (.cells (bunC p A k c) 29)).alloc (.cells (BV.c sec) 31)), Calls Try.prog 27 #[bunV p A k c, .int .i64 target, sec.v, .int .i64 s] e.x (Ret (.tuple #[str X.1, str X.2.1, .int .i64 X.2.2]) e.x)) := fun e => by rw [← hX]; exact r16_any p sec bs k c A target s hf hk hd e.x (h.ext (HE.out.trans e.h))
  clear hX hf hk hd h hl
  obtain ⟨x1, x2, x3⟩ := X
  dsimp only at *
  have saa : decide ((0 : Int) ≤ s) = true := decide_eq_true (by omega)
  have sab : ((0 : Int) ≤ s) = True := eq_true (by omega)
  have sba : decide (s ≤ (7 : Int)) = true := decide_eq_true (by omega)
  have sbb : (s ≤ (7 : Int)) = True := eq_true (by omega)
  have ta : ((target) == (0)) = false := by rw [beq_eq_false_iff_ne]; exact ht
  have tb : ((target) = (0)) = False := eq_false (by exact ht)
  have tc : ((target) != (0)) = true := by rw [bne_iff_ne]; exact ht
  clear h0 h7 ht
  go_enter Try.func12, Try.ntmps12
  go_upto_region 1 with fail
  generalize ((w.alloc (.cells (bunC p A k c) 29)).alloc (.cells (BV.c sec) 31)) = V at *
  obtain ⟨e, he⟩ := Later.self V
  rw [he]
  clear he
  go_wp2_with (first | (refine wpList_row (by rfl) 29 _ rfl _ rfl (HB0.out.later _) Try.underlying29 rfl (by kernel_rfl) ?_) | (refine wpList_row (by rfl) 31 _ rfl _ rfl (HB1.out.later _) Try.underlying31 rfl (by kernel_rfl) ?_) | (go_at_call 27; refine (Ret.later (KB.out _)).mono ?_; rintro x _ ⟨rfl, e, rfl⟩))
  go_ret2
  exact Ret.mk rfl (HE.out.trans e.h)
theorem rBes_any (p : PV) (sec : BV) (bs : Nat → BV) (k c : Nat) (A : Option Addr) (target s : Int) (hf : p.fl < 18446744073709551616) (hk : k < 4611686018427387904) (hd : ∀ i, i < k → (bs i).data.length ≤ 100000) (w : World) (h : BsL w A k bs) : Calls Try.prog 12 #[bunV p A k c, .int .i64 target, sec.v, .int .i64 s] w (Ret (tv (sBes p sec bs k target s)) w) := by
  unfold sBes
  by_cases c1 : (0 ≤ s ∧ s ≤ 7) ∧ target = 0
  · rw [if_pos c1]; exact rBes_0 p sec bs k c A target s hf hk hd c1.1.1 c1.1.2 c1.2 w h
  · rw [if_neg c1]
    by_cases c2 : s < 0
    · exact rBes_neg p sec bs k c A target s hf hk hd c2 w h
    · by_cases c3 : 7 < s
      · exact rBes_big p sec bs k c A target s hf hk hd c3 w h
      · exact rBes_t p sec bs k c A target s hf hk hd (by omega) (by omega) (fun ht => c1 ⟨⟨by omega, by omega⟩, ht⟩) w h
theorem cText_any (p : PV) (sec : BV) (bs : Nat → BV) (k c : Nat) (A : Option Addr) (target s : Int) (hf : p.fl < 18446744073709551616) (hk : k < 4611686018427387904) (hd : ∀ i, i < k → (bs i).data.length ≤ 100000) (hnl : Hid (p.d.name.length < 4611686018427387904 ∧ p.s.name.length < 4611686018427387904 ∧ p.r.name.length < 4611686018427387904)) (w : World) (h : BsL w A k bs) : Calls Try.prog 9 #[bunV p A k c, .int .i64 target, sec.v, .int .i64 s] w (Ret (tv (sText p sec bs k target s)) w) := by
  have hR : ∀ W, Ext w W → Calls Try.prog 25 #[bunV p A k c, .int .i64 target, sec.v] W (Ret (partsOf p bs k target sec).v W) := fun W hW => read_any p bs k c A target sec hnl hf hk hd W (h.ext hW)
  unfold sText r16Of
  by_cases c1 : s < 0 ∨ 7 < s
  · rw [if_pos c1]; exact cText_bad p sec k c A target s c1 w
  · rw [if_neg c1]
    obtain ⟨n, rfl⟩ : ∃ n : Nat, s = (n : Int) := ⟨s.toNat, by omega⟩
    have hn : n < 8 := by omega
    simp only [Int.toNat_natCast]
    by_cases hE : (partsOf p bs k target sec).err = 0
    · have hT : (∀ l1 l2 l3 l4, Calls Try.prog 9 #[bunV p A k c, .int .i64 target, sec.v, .int .i64 (n : Int)] w (Ret (.tuple #[str (besB (partsOf p bs k target sec).pr (partsOf p bs k target sec).tg (partsOf p bs k target sec).sc target n ++ (partsOf p bs k target sec).ow), .int .i64 0]) w)) := fun l1 l2 l3 l4 => cText_ok p sec k c A target n hn (partsOf p bs k target sec) hE l1 l2 l3 l4 w hR
      clear hR
      unfold partsOf at hE hT
      by_cases ht : target = 0
      · subst ht
        simp only [if_true] at hE hT ⊢
        by_cases hb : p.right = 0
        · simp only [hb, if_true, hdr0] at hE hT ⊢
          have := plain_length hb
          have := hdr_length sec
          simp only [hE, if_true] at hT ⊢
          exact hT (by omega) (by simp) (by omega) (by omega)
        · simp only [hb, if_false] at hE
      · simp only [ht, if_false] at hE hT ⊢
        cases hfo : firstOf (numB bs target) k with
        | none => rw [hfo] at hE; simp at hE
        | some i =>
          rw [hfo] at hE hT
          dsimp only at hE hT ⊢
          have := hd i (firstOf_spec hfo).1
          have := headL_le 2 (bs i).data.length
          by_cases hb : p.right = 0
          · simp only [hb, if_true] at hE hT ⊢
            have := plain_length hb
            have := hdr_length sec
            have := hdr_length (bs i)
            by_cases hx : (bs i).right = 0
            · simp only [hx, if_true, hdr0] at hE hT ⊢
              simp only [hE, if_true] at hT ⊢
              exact hT (by omega) (by omega) (by omega) (by simp only [List.length_append]; omega)
            · simp only [hx, if_false] at hE
          · simp only [hb, if_false] at hE
    · have hT := cText_err p sec k c A target n hn (partsOf p bs k target sec) hE w hR
      clear hR
      unfold partsOf at hE hT
      by_cases ht : target = 0
      · subst ht
        simp only [if_true] at hE hT ⊢
        by_cases hb : p.right = 0
        · simp only [hb, if_true, ne_eq, not_true_eq_false, if_false] at hE hT ⊢; rw [if_pos hE]; exact hT
        · simp only [hb, if_false, ne_eq, not_false_eq_true, if_true] at hE hT ⊢; exact hT
      · simp only [ht, if_false] at hE hT ⊢
        cases hfo : firstOf (numB bs target) k with
        | none => rw [hfo] at hT; exact hT
        | some i =>
          rw [hfo] at hE hT
          dsimp only at hE hT ⊢
          by_cases hb : p.right = 0
          · simp only [hb, if_true, ne_eq, not_true_eq_false, if_false] at hE hT ⊢
            by_cases hx : (bs i).right = 0
            · simp only [hx, if_true, ne_eq, not_true_eq_false, if_false] at hE hT ⊢; rw [if_pos hE]; exact hT
            · simp only [hx, if_false, ne_eq, not_false_eq_true, if_true] at hE hT ⊢; exact hT
          · simp only [hb, if_false, ne_eq, not_false_eq_true, if_true] at hE hT ⊢; exact hT
theorem cBes_any (p : PV) (sec : BV) (bs : Nat → BV) (k c : Nat) (A : Option Addr) (target s : Int) (hf : p.fl < 18446744073709551616) (hk : k < 4611686018427387904) (hd : ∀ i, i < k → (bs i).data.length ≤ 100000) (hnl : Hid (p.d.name.length < 4611686018427387904 ∧ p.s.name.length < 4611686018427387904 ∧ p.r.name.length < 4611686018427387904)) (w : World) (h : BsL w A k bs) : Calls Try.prog 11 #[bunV p A k c, .int .i64 target, sec.v, .int .i64 s] w (Ret (tv (sBes p sec bs k target s)) w) := by
  have hR : ∀ W, Ext w W → Calls Try.prog 25 #[bunV p A k c, .int .i64 target, sec.v] W (Ret (partsOf p bs k target sec).v W) := fun W hW => read_any p bs k c A target sec hnl hf hk hd W (h.ext hW)
  unfold sBes
  by_cases c1 : s < 0 ∨ 7 < s
  · rw [if_neg (by omega)]; unfold r16Of; rw [if_pos c1]; exact cBeside_bad p sec k c A target s c1 w
  · obtain ⟨n, rfl⟩ : ∃ n : Nat, s = (n : Int) := ⟨s.toNat, by omega⟩
    have hn : n < 8 := by omega
    by_cases ht : target = 0
    · rw [if_pos (by omega)]; subst ht; exact cBeside_0 p sec k c A n hn w
    · rw [if_neg (fun h => ht h.2)]
      unfold r16Of
      rw [if_neg c1, if_neg ht]
      simp only [Int.toNat_natCast]
      by_cases hE : (partsOf p bs k target sec).err = 0
      · have hT : (∀ l1 l2 l3 l4, Calls Try.prog 11 #[bunV p A k c, .int .i64 target, sec.v, .int .i64 (n : Int)] w (Ret (.tuple #[str (besB (partsOf p bs k target sec).pr (partsOf p bs k target sec).tg (partsOf p bs k target sec).sc target n), .int .i64 0]) w)) := fun l1 l2 l3 l4 => cBeside_ok p sec k c A target n hn (partsOf p bs k target sec) hE ht l1 l2 l3 l4 w hR
        clear hR
        unfold partsOf at hE hT
        simp only [ht, if_false] at hE hT ⊢
        cases hfo : firstOf (numB bs target) k with
        | none => rw [hfo] at hE; simp at hE
        | some i =>
          rw [hfo] at hE hT
          dsimp only at hE hT ⊢
          have := hd i (firstOf_spec hfo).1
          have := headL_le 2 (bs i).data.length
          by_cases hb : p.right = 0
          · simp only [hb, if_true] at hE hT ⊢
            have := plain_length hb
            have := hdr_length sec
            have := hdr_length (bs i)
            by_cases hx : (bs i).right = 0
            · simp only [hx, if_true, hdr0] at hE hT ⊢
              simp only [hE, if_true] at hT ⊢
              exact hT (by omega) (by omega) (by omega) (by simp only [List.length_append]; omega)
            · simp only [hx, if_false] at hE
          · simp only [hb, if_false] at hE
      · have hT := cBeside_err p sec k c A target n hn (partsOf p bs k target sec) hE ht w hR
        clear hR
        unfold partsOf at hE hT
        simp only [ht, if_false] at hE hT ⊢
        cases hfo : firstOf (numB bs target) k with
        | none => rw [hfo] at hT; exact hT
        | some i =>
          rw [hfo] at hE hT
          dsimp only at hE hT ⊢
          by_cases hb : p.right = 0
          · simp only [hb, if_true, ne_eq, not_true_eq_false, if_false] at hE hT ⊢
            by_cases hx : (bs i).right = 0
            · simp only [hx, if_true, ne_eq, not_true_eq_false, if_false] at hE hT ⊢; rw [if_pos hE]; exact hT
            · simp only [hx, if_false, ne_eq, not_false_eq_true, if_true] at hE hT ⊢; exact hT
          · simp only [hb, if_false, ne_eq, not_false_eq_true, if_true] at hE hT ⊢; exact hT
end Go.Proofs.Ytfkenghmlfmjpaa


namespace Go.Proofs.Ytfkenghmlfmjpaa
open Go.RowKit
set_option linter.unusedVariables false
set_option linter.unusedSimpArgs false

def someP : PV := ⟨0, 0, ⟨2, [], 2, 0⟩, ⟨2, [], 1, 0⟩, ⟨1, [110, 111, 110, 101], 0, 0⟩, 5, 0, 100, 0, 0⟩
def someB : Nat → BV := fun _ => ⟨1, 1, 0, 0, [104, 105]⟩
/-- A bundle's value whose one block lies in a new memory block. -/
def SomeR (w : World) (e : Ending) (w' : World) : Prop := ∃ g, e = .returned (bunV someP (some ⟨g, 0, none⟩) 1 1) ∧ Ext w w' ∧ BsL w' (some ⟨g, 0, none⟩) 1 someB
set_option maxRecDepth 20000 in
theorem some_any (w : World) : Calls Try.prog 16 #[] w (SomeR w) := by
  have HE := hid ((Mod.refl [] w).alloc (.cells #[.int .u64 0, .int .i64 0, .int .i64 0, .string ⟨#[]⟩, .int .u64 0, .int .u64 0, .int .i64 0, .string ⟨#[]⟩, .int .u64 0, .int .u64 0, .int .i64 0, .string ⟨#[]⟩, .int .u64 0, .int .u64 0, .int .u64 0, .int .u64 0, .int .u64 0, .int .u64 0, .int .u64 0, .slice none 0 0] 29))
  have HR := hid (Blk.new w 29 #[.int .u64 0, .int .i64 0, .int .i64 0, .string ⟨#[]⟩, .int .u64 0, .int .u64 0, .int .i64 0, .string ⟨#[]⟩, .int .u64 0, .int .u64 0, .int .i64 0, .string ⟨#[]⟩, .int .u64 0, .int .u64 0, .int .u64 0, .int .u64 0, .int .u64 0, .int .u64 0, .int .u64 0, .slice none 0 0])
  go_enter Try.func16, Try.ntmps16
  go_upto_region 1 with fail
  generalize w.alloc (.cells #[.int .u64 0, .int .i64 0, .int .i64 0, .string ⟨#[]⟩, .int .u64 0, .int .u64 0, .int .i64 0, .string ⟨#[]⟩, .int .u64 0, .int .u64 0, .int .i64 0, .string ⟨#[]⟩, .int .u64 0, .int .u64 0, .int .u64 0, .int .u64 0, .int .u64 0, .int .u64 0, .int .u64 0, .slice none 0 0] 29) = V at *
  go_upto_region 2 with (refine wpList_store_mid rfl 26 _ _ rfl V.heap.size 0 #[.int .u64 0, .int .i64 0, .int .i64 2, str [], .int .u64 2, .int .u64 0, .int .i64 2, str [], .int .u64 1, .int .u64 0, .int .i64 1, str [110, 111, 110, 101], .int .u64 0, .int .u64 0, .int .u64 5, .int .u64 0, .int .u64 100, .int .u64 0, .int .u64 0] (by rfl) (by rfl) ((Blk.new _ _ _).there (Nat.le_refl 19)) (by kernel_rfl) (by simp [Value.oneCell']) ?_)
  generalize hU : World.setCells _ _ _ _ = U
  have HX : Hid (Blk U V.heap.size 26 #[.int .u64 0, .int .i64 0, .int .i64 2, str [], .int .u64 2, .int .u64 0, .int .i64 2, str [], .int .u64 1, .int .u64 0, .int .i64 1, str [110, 111, 110, 101], .int .u64 0, .int .u64 0, .int .u64 5, .int .u64 0, .int .u64 100, .int .u64 0, .int .u64 0]) := hid (by rw [← hU]; exact setCells_all (ds := #[.int .u64 0, .int .i64 0, .int .i64 2, str [], .int .u64 2, .int .u64 0, .int .i64 2, str [], .int .u64 1, .int .u64 0, .int .i64 1, str [110, 111, 110, 101], .int .u64 0, .int .u64 0, .int .u64 5, .int .u64 0, .int .u64 100, .int .u64 0, .int .u64 0]) (Blk.new _ _ _) rfl)
  have HM : Hid (Ext V U) := hid (by rw [← hU]; exact setCells_mod _ _ ((Mod.refl [] V).alloc _) (.inr (Nat.le_refl _)))
  have HRU := hid (HR.out.ext HM.out)
  clear hU
  generalize V.heap.size = vs at *
  go_wp2_with (first | (refine wpList_row (by rfl) 26 _ rfl _ rfl HX.out Try.underlying26 rfl (by kernel_rfl) ?_) | (refine wpList_store_mid rfl 29 _ _ rfl w.heap.size 0 #[.int .u64 0, .int .i64 0, .int .i64 2, str [], .int .u64 2, .int .u64 0, .int .i64 2, str [], .int .u64 1, .int .u64 0, .int .i64 1, str [110, 111, 110, 101], .int .u64 0, .int .u64 0, .int .u64 5, .int .u64 0, .int .u64 100, .int .u64 0, .int .u64 0, .slice (some ⟨U.heap.size, 0, none⟩) 1 1] (by rfl) (by rfl) ((HRU.out.alloc _).there (Nat.le_refl 20)) (by kernel_rfl) (by simp [Value.oneCell']) ?_))
  generalize hW2 : World.setCells _ _ _ _ = W2
  have HXX : Hid (Blk W2 w.heap.size 29 #[.int .u64 0, .int .i64 0, .int .i64 2, str [], .int .u64 2, .int .u64 0, .int .i64 2, str [], .int .u64 1, .int .u64 0, .int .i64 1, str [110, 111, 110, 101], .int .u64 0, .int .u64 0, .int .u64 5, .int .u64 0, .int .u64 100, .int .u64 0, .int .u64 0, .slice (some ⟨U.heap.size, 0, none⟩) 1 1]) := hid (by rw [← hW2]; exact setCells_all (ds := #[.int .u64 0, .int .i64 0, .int .i64 2, str [], .int .u64 2, .int .u64 0, .int .i64 2, str [], .int .u64 1, .int .u64 0, .int .i64 1, str [110, 111, 110, 101], .int .u64 0, .int .u64 0, .int .u64 5, .int .u64 0, .int .u64 100, .int .u64 0, .int .u64 0, .slice (some ⟨U.heap.size, 0, none⟩) 1 1]) (HRU.out.alloc _) rfl)
  have HM2 : Hid (Ext w W2) := hid (by rw [← hW2]; exact setCells_mod _ _ ((HE.out.trans HM.out).alloc _) (.inr (Nat.le_refl _)))
  have HNB : Hid (Mod [w.heap.size] (U.alloc (.cells #[.int .i64 1, .int .i64 1, .int .u64 0, .int .i64 0, .string ⟨#[104, 105]⟩] 31)) W2) := hid (by rw [← hW2]; exact setCells_mod _ _ (Mod.refl _ _) (.inl (by simp)))
  have HNE : Hid (U.heap.size ≠ w.heap.size) := hid (by have := HRU.out.lt; omega)
  have HBX := hid (Blk.new U 31 #[.int .i64 1, .int .i64 1, .int .u64 0, .int .i64 0, .string ⟨#[104, 105]⟩])
  clear hW2
  refine bodyPost_ret (v := .agg #[.int .u64 0, .int .i64 0, .int .i64 2, str [], .int .u64 2, .int .u64 0, .int .i64 2, str [], .int .u64 1, .int .u64 0, .int .i64 1, str [110, 111, 110, 101], .int .u64 0, .int .u64 0, .int .u64 5, .int .u64 0, .int .u64 100, .int .u64 0, .int .u64 0, .slice (some ⟨U.heap.size, 0, none⟩) 1 1]) (results_cell Try.results16 _ rfl HXX.out Try.underlying29 rfl (by kernel_rfl)) rfl ?_
  have HB2 := HBX.out.mod HNB.out (by simpa using HNE.out)
  refine ⟨U.heap.size, rfl, HM2.out, fun _ => ⟨U.heap.size, 0, rfl, HB2.lt, fun i hi => ?_⟩⟩
  obtain rfl : i = 0 := by omega
  exact ⟨HB2.cell 0, HB2.cell 1, HB2.cell 2, HB2.cell 3, HB2.cell 4⟩
end Go.Proofs.Ytfkenghmlfmjpaa


namespace Go.Proofs.Ytfkenghmlfmjpaa
open Go.ChangeShapes Go.WideShapes Go.ChangeAt Go.RowKit Go.Deep
set_option linter.unusedVariables false
set_option linter.unusedSimpArgs false

def secB : BV := ⟨11, 2, 0, 0, []⟩
theorem someText : sText someP secB someB 1 1 0 = ([0, 66, 104, 105], 0) := by decide +kernel
set_option maxRecDepth 20000 in
theorem awake16_any (w : World) : Calls Try.prog 6 #[] w (Ret (.bool true) w) := by
  have KS := hid (fun W => some_any W)
  have KT : Hid (∀ W g, BsL W (some ⟨g, 0, none⟩) 1 someB → Calls Try.prog 9 #[bunV someP (some ⟨g, 0, none⟩) 1 1, .int .i64 1, secB.v, .int .i64 0] W (Ret (.tuple #[str [0, 66, 104, 105], .int .i64 0]) W)) := fun W g hL => by
    have := cText_any someP secB someB 1 1 (some ⟨g, 0, none⟩) 1 0 (by decide) (by omega) (fun i hi => by show [104, 105].length ≤ _; decide) (by unfold Hid; decide) W hL
    rw [someText] at this
    exact this
  go_enter Try.func6, Try.ntmps6
  go_wp2_with (first | (go_at_call 16; refine (KS.out _).mono ?_; rintro x w2 ⟨g, rfl, hx, hL⟩) | (go_at_call 9; refine (KT.out _ _ hL).mono ?_; rintro x w3 ⟨rfl, h3⟩))
  go_ret
  exact Ret.mk rfl (hx.trans h3)
section
variable {H : Type} {enc : TypeId × Value → H} {w : World} {base b0 : Nat} {spare : Nat → Bool} {held : Bool} {r : Reach}
set_option maxRecDepth 100000 in
theorem open_at {v : Value} {d : DataW H} {p : List MemPlace} (hval : Value.okWide Try.prog w r b0 33 v) (h : DataW.Trod enc Try.prog w base spare held 33 v d p) :
    ∃ n0 n1 : Int, v = .agg #[.int .i64 n0, .int .i64 n1] := by
  obtain ⟨cs, rfl, hsz⟩ := okWide_struct Try.underlying33 hval
  obtain ⟨fuel, hf⟩ := h
  obtain ⟨ys, n', hn', hy, hlen, hyl, hfl⟩ := DataW.trod_struct Try.underlying33 hf
  have hcs : (Value.agg cs).cells.toList = cs.toList := rfl
  rw [hcs] at hlen hfl
  obtain ⟨l⟩ := cs
  match l, hlen with
  | [c0, c1], _ =>
    have h0 := field_at (by kernel_rfl) hfl (i := 0) rfl rfl
    have h1 := field_at (by kernel_rfl) hfl (i := 1) rfl rfl
    clear hfl
    match ys, hyl with
    | [y0, y1], _ =>
      obtain ⟨t0, e0, _, w0⟩ := DataW.trod_int (k := .i64) (by kernel_rfl) h0
      obtain ⟨t1, e1, _, w1⟩ := DataW.trod_int (k := .i64) (by kernel_rfl) h1
      have q0 : c0 = .int .i64 t0 := by have : [c0] = [Value.int .i64 t0] := e0; simpa using this
      have q1 : c1 = .int .i64 t1 := by have : [c1] = [Value.int .i64 t1] := e1; simpa using this
      subst q0 q1
      exact ⟨t0, t1, rfl⟩
end
end Go.Proofs.Ytfkenghmlfmjpaa


namespace Go.Proofs.Ytfkenghmlfmjpaa
open Go.RowKit
set_option linter.unusedVariables false
set_option linter.unusedSimpArgs false

theorem few_names {p : PV} (h : p.few = true) : p.d.name.length < 4611686018427387904 ∧ p.s.name.length < 4611686018427387904 ∧ p.r.name.length < 4611686018427387904 := by
  unfold PV.few at h
  simp only [Bool.and_eq_true, decide_eq_true_eq] at h
  omega
set_option maxRecDepth 20000 in
set_option maxHeartbeats 1600000 in
theorem lawTexts_any (p : PV) (sec : BV) (bs : Nat → BV) (k c : Nat) (A : Option Addr) (target s : Int) (hf : p.fl < 18446744073709551616) (hk : k < 4611686018427387904) (w : World) (h : BsL w A k bs) : Calls Try.prog 4 #[bunV p A k c, sec.v, .agg #[.int .i64 target, .int .i64 s]] w (Ret (.bool true) w) := by
  have KA := hid (fun W => awake16_any W)
  have KF := hid (fun W (hW : BsL W A k bs) => few13_any p bs k c A hk W hW)
  have HE := hid ((((Mod.refl [] w).alloc (.cells (bunC p A k c) 29)).alloc (.cells (BV.c sec) 31)).alloc (.cells #[.int .i64 target, .int .i64 s] 33))
  have HB0 : Hid (Blk (((w.alloc (.cells (bunC p A k c) 29)).alloc (.cells (BV.c sec) 31)).alloc (.cells #[.int .i64 target, .int .i64 s] 33)) w.heap.size 29 (bunC p A k c)) := hid (((Blk.new w 29 (bunC p A k c)).alloc (.cells (BV.c sec) 31)).alloc (.cells #[.int .i64 target, .int .i64 s] 33))
  have HB1 : Hid (Blk (((w.alloc (.cells (bunC p A k c) 29)).alloc (.cells (BV.c sec) 31)).alloc (.cells #[.int .i64 target, .int .i64 s] 33)) (w.heap.size + 1) 31 (BV.c sec)) := by unfold Hid; have := (Blk.newL (N := (w.heap.size + 1)) (w.alloc (.cells (bunC p A k c) 29)) 31 (BV.c sec) (by simp)); exact (this.alloc (.cells #[.int .i64 target, .int .i64 s] 33))
  have HB2 : Hid (Blk (((w.alloc (.cells (bunC p A k c) 29)).alloc (.cells (BV.c sec) 31)).alloc (.cells #[.int .i64 target, .int .i64 s] 33)) (w.heap.size + 1 + 1) 33 #[.int .i64 target, .int .i64 s]) := by unfold Hid; exact Blk.newL _ _ _ (by simp)
  have HL := hid (BsL.ext h HE.out)
  clear h
  cases hF : bunFew p bs k with
  | false =>
    rw [hF] at KF
    clear hF
    clear hf hk
    go_enter Try.func4, Try.ntmps4
    go_upto_region 1 with fail
    generalize (((w.alloc (.cells (bunC p A k c) 29)).alloc (.cells (BV.c sec) 31)).alloc (.cells #[.int .i64 target, .int .i64 s] 33)) = V at *
    have c0 : ∀ e : Later V, e.x.cell? ⟨w.heap.size + 1 + 1, 0, none⟩ = some (.int .i64 target) := HB2.out.cellL 0 rfl
    have c1 : ∀ e : Later V, e.x.cell? ⟨w.heap.size + 1 + 1, 1, none⟩ = some (.int .i64 s) := HB2.out.cellL 1 rfl
    have d4 : ∀ e : Later V, e.x.cell? ⟨w.heap.size + 1, 4, none⟩ = some (str sec.data) := HB1.out.cellL 4 rfl
    obtain ⟨e, he⟩ := Later.self V
    rw [he]
    clear he
    go_wp2_with (first | (refine wpList_row (by rfl) 29 _ rfl _ rfl (HB0.out.later _) Try.underlying29 rfl (by kernel_rfl) ?_) | (refine wpList_row (by rfl) 31 _ rfl _ rfl (HB1.out.later _) Try.underlying31 rfl (by kernel_rfl) ?_) | (go_at_call 6; refine (Ret.later (KA.out _)).mono ?_; rintro x _ ⟨rfl, e, rfl⟩) | (go_at_call 7; refine (Ret.later (KF.out _ (HL.out.ext (Later.h _)))).mono ?_; rintro x _ ⟨rfl, e, rfl⟩))
    go_ret
    exact Ret.mk (by simp) (HE.out.trans e.h)
  | true =>
    obtain ⟨h20, hfew, hd2⟩ := bunFew_spec hF
    have hd : ∀ i, i < k → (bs i).data.length ≤ 100000 := fun i hi => by have := hd2 i hi; omega
    have hnl : Hid (p.d.name.length < 4611686018427387904 ∧ p.s.name.length < 4611686018427387904 ∧ p.r.name.length < 4611686018427387904) := few_names hfew
    rw [hF] at KF
    clear hF hfew hd2 h20
    have K1 : Hid (∀ W, BsL W A k bs → Calls Try.prog 9 #[bunV p A k c, .int .i64 target, sec.v, .int .i64 s] W (Ret (.tuple #[str (sText p sec bs k target s).1, .int .i64 (sText p sec bs k target s).2]) W)) := fun W hW => cText_any p sec bs k c A target s hf hk hd hnl W hW
    have K2 : Hid (∀ W, BsL W A k bs → Calls Try.prog 10 #[bunV p A k c, .int .i64 target, sec.v, .int .i64 s] W (Ret (.tuple #[str (sText p sec bs k target s).1, .int .i64 (sText p sec bs k target s).2]) W)) := fun W hW => rSText_any p sec bs k c A target s hf hk hd  W hW
    have K3 : Hid (∀ W, BsL W A k bs → Calls Try.prog 11 #[bunV p A k c, .int .i64 target, sec.v, .int .i64 s] W (Ret (.tuple #[str (sBes p sec bs k target s).1, .int .i64 (sBes p sec bs k target s).2]) W)) := fun W hW => cBes_any p sec bs k c A target s hf hk hd hnl W hW
    have K4 : Hid (∀ W, BsL W A k bs → Calls Try.prog 12 #[bunV p A k c, .int .i64 target, sec.v, .int .i64 s] W (Ret (.tuple #[str (sBes p sec bs k target s).1, .int .i64 (sBes p sec bs k target s).2]) W)) := fun W hW => rBes_any p sec bs k c A target s hf hk hd  W hW
    clear hd hnl
    generalize sText p sec bs k target s = T at *
    generalize sBes p sec bs k target s = U at *
    obtain ⟨t1, t2⟩ := T
    obtain ⟨u1, u2⟩ := U
    dsimp only at K1 K2 K3 K4
    by_cases hdat : sec.data.length ≤ 4100
    · have la : decide (4100 < sec.data.length) = false := decide_eq_false (by omega)
      have lb : (4100 < sec.data.length) = False := eq_false (by omega)
      have lc : decide ((4100 : Int) < (sec.data.length : Int)) = false := decide_eq_false (by omega)
      clear hdat
      clear hf hk
      go_enter Try.func4, Try.ntmps4
      go_upto_region 1 with fail
      generalize (((w.alloc (.cells (bunC p A k c) 29)).alloc (.cells (BV.c sec) 31)).alloc (.cells #[.int .i64 target, .int .i64 s] 33)) = V at *
      have c0 : ∀ e : Later V, e.x.cell? ⟨w.heap.size + 1 + 1, 0, none⟩ = some (.int .i64 target) := HB2.out.cellL 0 rfl
      have c1 : ∀ e : Later V, e.x.cell? ⟨w.heap.size + 1 + 1, 1, none⟩ = some (.int .i64 s) := HB2.out.cellL 1 rfl
      have d4 : ∀ e : Later V, e.x.cell? ⟨w.heap.size + 1, 4, none⟩ = some (str sec.data) := HB1.out.cellL 4 rfl
      obtain ⟨e, he⟩ := Later.self V
      rw [he]
      clear he
      go_wp2_with (first | (refine wpList_row (by rfl) 29 _ rfl _ rfl (HB0.out.later _) Try.underlying29 rfl (by kernel_rfl) ?_) | (refine wpList_row (by rfl) 31 _ rfl _ rfl (HB1.out.later _) Try.underlying31 rfl (by kernel_rfl) ?_) | (go_at_call 6; refine (Ret.later (KA.out _)).mono ?_; rintro x _ ⟨rfl, e, rfl⟩) | (go_at_call 7; refine (Ret.later (KF.out _ (HL.out.ext (Later.h _)))).mono ?_; rintro x _ ⟨rfl, e, rfl⟩) | (go_at_call 9; refine (Ret.later (K1.out _ (HL.out.ext (Later.h _)))).mono ?_; rintro x _ ⟨rfl, e, rfl⟩) | (go_at_call 10; refine (Ret.later (K2.out _ (HL.out.ext (Later.h _)))).mono ?_; rintro x _ ⟨rfl, e, rfl⟩) | (go_at_call 11; refine (Ret.later (K3.out _ (HL.out.ext (Later.h _)))).mono ?_; rintro x _ ⟨rfl, e, rfl⟩) | (go_at_call 12; refine (Ret.later (K4.out _ (HL.out.ext (Later.h _)))).mono ?_; rintro x _ ⟨rfl, e, rfl⟩))
      go_ret
      exact Ret.mk (by simp) (HE.out.trans e.h)
    · have la : decide (4100 < sec.data.length) = true := decide_eq_true (by omega)
      have lb : (4100 < sec.data.length) = True := eq_true (by omega)
      have lc : decide ((4100 : Int) < (sec.data.length : Int)) = true := decide_eq_true (by omega)
      clear hdat
      clear hf hk
      go_enter Try.func4, Try.ntmps4
      go_upto_region 1 with fail
      generalize (((w.alloc (.cells (bunC p A k c) 29)).alloc (.cells (BV.c sec) 31)).alloc (.cells #[.int .i64 target, .int .i64 s] 33)) = V at *
      have c0 : ∀ e : Later V, e.x.cell? ⟨w.heap.size + 1 + 1, 0, none⟩ = some (.int .i64 target) := HB2.out.cellL 0 rfl
      have c1 : ∀ e : Later V, e.x.cell? ⟨w.heap.size + 1 + 1, 1, none⟩ = some (.int .i64 s) := HB2.out.cellL 1 rfl
      have d4 : ∀ e : Later V, e.x.cell? ⟨w.heap.size + 1, 4, none⟩ = some (str sec.data) := HB1.out.cellL 4 rfl
      obtain ⟨e, he⟩ := Later.self V
      rw [he]
      clear he
      go_wp2_with (first | (refine wpList_row (by rfl) 29 _ rfl _ rfl (HB0.out.later _) Try.underlying29 rfl (by kernel_rfl) ?_) | (refine wpList_row (by rfl) 31 _ rfl _ rfl (HB1.out.later _) Try.underlying31 rfl (by kernel_rfl) ?_) | (go_at_call 6; refine (Ret.later (KA.out _)).mono ?_; rintro x _ ⟨rfl, e, rfl⟩) | (go_at_call 7; refine (Ret.later (KF.out _ (HL.out.ext (Later.h _)))).mono ?_; rintro x _ ⟨rfl, e, rfl⟩))
      go_ret
      exact Ret.mk (by simp) (HE.out.trans e.h)
end Go.Proofs.Ytfkenghmlfmjpaa
