/-
  The reference's Fault: where, and what, is wrong first.
  The law ItemParses: its walk.
  Items: the code's same.
  An argument item.Item, opened: it is a tree whose items lie in memory.
  The law ItemSame: its walk.
  Names of the scheme 2: Right, Item; None.
  Names: the code's look at them.
  Names: which the code takes for right.
  The item of a name.
  The reference's look at names.
  The reference's right names.
  An argument api.EID, opened; two numbers in a row.
  A right name's item, by the code and by the reference.
-/
import Derived.Test.YtagjhkknefiieaaMExtLivesc
import Derived.Deep.Slices
import Derived.Deep.Fields
import Derived.ChangeSame
import Derived.SizedLaws
import Derived.Laws.RangeAny
import Derived.Lib.Strings
import Derived.OpenShut

namespace Go.Proofs.Ytagjhkknefiieaa
open Go.RowKit
set_option linter.unusedVariables false

def faultV (p : Nat) (R : Nat × Int) : Value := .tuple #[.int .i64 ((p + R.1 : Nat) : Int), .int .i64 R.2]

set_option maxRecDepth 20000 in
set_option maxHeartbeats 1600000 in
theorem fault_none (l : List UInt8) (p : Nat) (hp : Hid (p ≤ l.length ∧ l.length ≤ 1073741824)) (d : Nat) (hr : Hid (readH (l.drop p) = none)) (w : World) :
    Calls Try.prog 41 #[str l, .int .i64 (p : Int), .int .i64 (d : Int)] w (Ret (faultV p (flt d (l.drop p))) w) := by
  have HF := hid (flt_none (d := d) hr.out)
  have p0 : (0 : Int) ≤ (p : Int) := by omega
  have p1 : (p : Int) ≤ (l.length : Int) := by have := hp.out; omega
  have l1 : (l.length : Int) ≤ 1073741824 := by have := hp.out; omega
  go_enter Try.func41, Try.ntmps41
  go_wp2_with (go_at_call 46; rw [extract_rest]; refine (read_any (l.drop p) _).mono ?_; rintro x w1 ⟨rfl, hb1⟩; rw [hr.out]; dsimp only [gotOf, gotV])
  go_ret2
  refine Ret.mk (by rw [HF.out]; simp [faultV]) ?_
  exact ((hb1).alloc _)

set_option maxRecDepth 20000 in
set_option maxHeartbeats 1600000 in
theorem fault_noK (l : List UInt8) (p : Nat) (hp : Hid (p ≤ l.length ∧ l.length ≤ 1073741824)) (d sz m n : Nat) (o : Bool) (hm : Hid (m = 1 ∨ m = 5 ∨ m = 6 ∨ m = 7)) (hr : Hid (readH (l.drop p) = some (sz, m, n, o))) (w : World) :
    Calls Try.prog 41 #[str l, .int .i64 (p : Int), .int .i64 (d : Int)] w (Ret (faultV p (flt d (l.drop p))) w) := by
  have HF := hid (flt_noK (d := d) hr.out (by rcases hm.out with rfl | rfl | rfl | rfl <;> rfl))
  have hs := readH_some hr.out
  have hsz : Hid (p + sz ≤ l.length) := by have h1 := hs.le; have h2 := hp.out; rw [List.length_drop] at h1; unfold Hid; omega
  have s1 : (p : Int) + (sz : Int) ≤ (l.length : Int) := by have := hsz.out; omega
  have s0 : (0 : Int) < (sz : Int) := by have := hs.pos; omega
  have s2 : ((sz : Int) == 0) = false := by simp; omega
  have s3 : (sz = 0) = False := by simp; have := hs.pos; omega
  have n0 : (0 : Int) ≤ (n : Int) := by omega
  clear hs
  have p0 : (0 : Int) ≤ (p : Int) := by omega
  have p1 : (p : Int) ≤ (l.length : Int) := by have := hp.out; omega
  have l1 : (l.length : Int) ≤ 1073741824 := by have := hp.out; omega
  go_enter Try.func41, Try.ntmps41
  rcases hm.out with rfl | rfl | rfl | rfl
  · go_wp2_with (go_at_call 46; rw [extract_rest]; refine (read_any (l.drop p) _).mono ?_; rintro x w1 ⟨rfl, hb1⟩; rw [hr.out]; dsimp only [gotOf, gotV])
    go_ret2
    refine Ret.mk (by rw [HF.out]; simp [faultV]) ?_
    exact ((hb1).alloc _)
  · go_wp2_with (go_at_call 46; rw [extract_rest]; refine (read_any (l.drop p) _).mono ?_; rintro x w1 ⟨rfl, hb1⟩; rw [hr.out]; dsimp only [gotOf, gotV])
    go_ret2
    refine Ret.mk (by rw [HF.out]; simp [faultV]) ?_
    exact ((hb1).alloc _)
  · go_wp2_with (go_at_call 46; rw [extract_rest]; refine (read_any (l.drop p) _).mono ?_; rintro x w1 ⟨rfl, hb1⟩; rw [hr.out]; dsimp only [gotOf, gotV])
    go_ret2
    refine Ret.mk (by rw [HF.out]; simp [faultV]) ?_
    exact ((hb1).alloc _)
  · go_wp2_with (go_at_call 46; rw [extract_rest]; refine (read_any (l.drop p) _).mono ?_; rintro x w1 ⟨rfl, hb1⟩; rw [hr.out]; dsimp only [gotOf, gotV])
    go_ret2
    refine Ret.mk (by rw [HF.out]; simp [faultV]) ?_
    exact ((hb1).alloc _)

set_option maxRecDepth 20000 in
set_option maxHeartbeats 1600000 in
theorem fault_deep (l : List UInt8) (p : Nat) (hp : Hid (p ≤ l.length ∧ l.length ≤ 1073741824)) (sz m n : Nat) (o : Bool) (hm : Hid (m = 0 ∨ m = 2 ∨ m = 3 ∨ m = 4)) (hr : Hid (readH (l.drop p) = some (sz, m, n, o))) (w : World) :
    Calls Try.prog 41 #[str l, .int .i64 (p : Int), .int .i64 0] w (Ret (faultV p (flt 0 (l.drop p))) w) := by
  have HF := hid (flt_deep hr.out (by rcases hm.out with rfl | rfl | rfl | rfl <;> rfl))
  have hs := readH_some hr.out
  have hsz : Hid (p + sz ≤ l.length) := by have h1 := hs.le; have h2 := hp.out; rw [List.length_drop] at h1; unfold Hid; omega
  have s1 : (p : Int) + (sz : Int) ≤ (l.length : Int) := by have := hsz.out; omega
  have s0 : (0 : Int) < (sz : Int) := by have := hs.pos; omega
  have s2 : ((sz : Int) == 0) = false := by simp; omega
  have s3 : (sz = 0) = False := by simp; have := hs.pos; omega
  have n0 : (0 : Int) ≤ (n : Int) := by omega
  clear hs
  have p0 : (0 : Int) ≤ (p : Int) := by omega
  have p1 : (p : Int) ≤ (l.length : Int) := by have := hp.out; omega
  have l1 : (l.length : Int) ≤ 1073741824 := by have := hp.out; omega
  go_enter Try.func41, Try.ntmps41
  rcases hm.out with rfl | rfl | rfl | rfl
  · go_wp2_with (go_at_call 46; rw [extract_rest]; refine (read_any (l.drop p) _).mono ?_; rintro x w1 ⟨rfl, hb1⟩; rw [hr.out]; dsimp only [gotOf, gotV])
    go_ret2
    refine Ret.mk (by rw [HF.out]; simp [faultV]) ?_
    exact ((hb1).alloc _)
  · go_wp2_with (go_at_call 46; rw [extract_rest]; refine (read_any (l.drop p) _).mono ?_; rintro x w1 ⟨rfl, hb1⟩; rw [hr.out]; dsimp only [gotOf, gotV])
    go_ret2
    refine Ret.mk (by rw [HF.out]; simp [faultV]) ?_
    exact ((hb1).alloc _)
  · go_wp2_with (go_at_call 46; rw [extract_rest]; refine (read_any (l.drop p) _).mono ?_; rintro x w1 ⟨rfl, hb1⟩; rw [hr.out]; dsimp only [gotOf, gotV])
    go_ret2
    refine Ret.mk (by rw [HF.out]; simp [faultV]) ?_
    exact ((hb1).alloc _)
  · go_wp2_with (go_at_call 46; rw [extract_rest]; refine (read_any (l.drop p) _).mono ?_; rintro x w1 ⟨rfl, hb1⟩; rw [hr.out]; dsimp only [gotOf, gotV])
    go_ret2
    refine Ret.mk (by rw [HF.out]; simp [faultV]) ?_
    exact ((hb1).alloc _)

set_option maxRecDepth 20000 in
set_option maxHeartbeats 1600000 in
theorem fault_num (l : List UInt8) (p : Nat) (hp : Hid (p ≤ l.length ∧ l.length ≤ 1073741824)) (d sz n : Nat) (o : Bool) (hr : Hid (readH (l.drop p) = some (sz, 0, n, o))) (w : World) :
    Calls Try.prog 41 #[str l, .int .i64 (p : Int), .int .i64 ((d : Int) + 1)] w (Ret (faultV p (flt (d + 1) (l.drop p))) w) := by
  have HF := hid (flt_num (d := d) hr.out)
  have hs := readH_some hr.out
  have hsz : Hid (p + sz ≤ l.length) := by have h1 := hs.le; have h2 := hp.out; rw [List.length_drop] at h1; unfold Hid; omega
  have s1 : (p : Int) + (sz : Int) ≤ (l.length : Int) := by have := hsz.out; omega
  have s0 : (0 : Int) < (sz : Int) := by have := hs.pos; omega
  have s2 : ((sz : Int) == 0) = false := by simp; omega
  have s3 : (sz = 0) = False := by simp; have := hs.pos; omega
  have n0 : (0 : Int) ≤ (n : Int) := by omega
  clear hs
  have dz : ((d : Int) + 1 == 0) = false := by simp; omega
  have dz2 : ((d : Int) + 1 = 0) = False := by simp; omega
  have p0 : (0 : Int) ≤ (p : Int) := by omega
  have p1 : (p : Int) ≤ (l.length : Int) := by have := hp.out; omega
  have l1 : (l.length : Int) ≤ 1073741824 := by have := hp.out; omega
  go_enter Try.func41, Try.ntmps41
  go_wp2_with (go_at_call 46; rw [extract_rest]; refine (read_any (l.drop p) _).mono ?_; rintro x w1 ⟨rfl, hb1⟩; rw [hr.out]; dsimp only [gotOf, gotV])
  go_ret2
  refine Ret.mk (by rw [HF.out]; simp [faultV]) ?_
  exact ((hb1).alloc _)

set_option maxRecDepth 20000 in
set_option maxHeartbeats 1600000 in
theorem fault_str_open (l : List UInt8) (p : Nat) (hp : Hid (p ≤ l.length ∧ l.length ≤ 1073741824)) (d sz m n : Nat) (hm : Hid (m = 2 ∨ m = 3)) (hr : Hid (readH (l.drop p) = some (sz, m, n, true))) (w : World) :
    Calls Try.prog 41 #[str l, .int .i64 (p : Int), .int .i64 ((d : Int) + 1)] w (Ret (faultV p (flt (d + 1) (l.drop p))) w) := by
  have HF0 := flt_str (d := d) hr.out hm.out
  have HF : Hid (flt (d + 1) (l.drop p) = (0, 2)) := by unfold Hid; rw [HF0]; exact if_pos (.inl rfl)
  clear HF0
  have hs := readH_some hr.out
  have hsz : Hid (p + sz ≤ l.length) := by have h1 := hs.le; have h2 := hp.out; rw [List.length_drop] at h1; unfold Hid; omega
  have s1 : (p : Int) + (sz : Int) ≤ (l.length : Int) := by have := hsz.out; omega
  have s0 : (0 : Int) < (sz : Int) := by have := hs.pos; omega
  have s2 : ((sz : Int) == 0) = false := by simp; omega
  have s3 : (sz = 0) = False := by simp; have := hs.pos; omega
  have n0 : (0 : Int) ≤ (n : Int) := by omega
  clear hs
  have dz : ((d : Int) + 1 == 0) = false := by simp; omega
  have dz2 : ((d : Int) + 1 = 0) = False := by simp; omega
  have p0 : (0 : Int) ≤ (p : Int) := by omega
  have p1 : (p : Int) ≤ (l.length : Int) := by have := hp.out; omega
  have l1 : (l.length : Int) ≤ 1073741824 := by have := hp.out; omega
  go_enter Try.func41, Try.ntmps41
  rcases hm.out with rfl | rfl
  · go_wp2_with (go_at_call 46; rw [extract_rest]; refine (read_any (l.drop p) _).mono ?_; rintro x w1 ⟨rfl, hb1⟩; rw [hr.out]; dsimp only [gotOf, gotV])
    go_ret2
    refine Ret.mk (by rw [HF.out]; simp [faultV]) ?_
    exact ((hb1).alloc _)
  · go_wp2_with (go_at_call 46; rw [extract_rest]; refine (read_any (l.drop p) _).mono ?_; rintro x w1 ⟨rfl, hb1⟩; rw [hr.out]; dsimp only [gotOf, gotV])
    go_ret2
    refine Ret.mk (by rw [HF.out]; simp [faultV]) ?_
    exact ((hb1).alloc _)

set_option maxRecDepth 20000 in
set_option maxHeartbeats 1600000 in
theorem fault_str_bad (l : List UInt8) (p : Nat) (hp : Hid (p ≤ l.length ∧ l.length ≤ 1073741824)) (d sz m n : Nat) (hm : Hid (m = 2 ∨ m = 3)) (hr : Hid (readH (l.drop p) = some (sz, m, n, false))) (hb : Hid ((l.drop p).length - sz < n)) (w : World) :
    Calls Try.prog 41 #[str l, .int .i64 (p : Int), .int .i64 ((d : Int) + 1)] w (Ret (faultV p (flt (d + 1) (l.drop p))) w) := by
  have HF0 := flt_str (d := d) hr.out hm.out
  have HF : Hid (flt (d + 1) (l.drop p) = (0, 2)) := by unfold Hid; rw [HF0]; exact if_pos (.inr hb.out)
  clear HF0
  have hs := readH_some hr.out
  have hsz : Hid (p + sz ≤ l.length) := by have h1 := hs.le; have h2 := hp.out; rw [List.length_drop] at h1; unfold Hid; omega
  have s1 : (p : Int) + (sz : Int) ≤ (l.length : Int) := by have := hsz.out; omega
  have s0 : (0 : Int) < (sz : Int) := by have := hs.pos; omega
  have s2 : ((sz : Int) == 0) = false := by simp; omega
  have s3 : (sz = 0) = False := by simp; have := hs.pos; omega
  have n0 : (0 : Int) ≤ (n : Int) := by omega
  have n1 : (n : Int) < 18446744073709551616 := by have := hs.n64; omega
  clear hs
  have dz : ((d : Int) + 1 == 0) = false := by simp; omega
  have dz2 : ((d : Int) + 1 = 0) = False := by simp; omega
  have tt : decide ((l.length : Int) - ((p : Int) + (sz : Int)) < (n : Int)) = true := by have h1 := hb.out; rw [List.length_drop] at h1; simp; omega
  have tt2 : ((l.length : Int) - ((p : Int) + (sz : Int)) < (n : Int)) = True := by have h1 := hb.out; rw [List.length_drop] at h1; simp; omega
  clear n1
  have p0 : (0 : Int) ≤ (p : Int) := by omega
  have p1 : (p : Int) ≤ (l.length : Int) := by have := hp.out; omega
  have l1 : (l.length : Int) ≤ 1073741824 := by have := hp.out; omega
  go_enter Try.func41, Try.ntmps41
  rcases hm.out with rfl | rfl
  · go_wp2_with (go_at_call 46; rw [extract_rest]; refine (read_any (l.drop p) _).mono ?_; rintro x w1 ⟨rfl, hb1⟩; rw [hr.out]; dsimp only [gotOf, gotV])
    go_ret2
    refine Ret.mk (by rw [HF.out]; simp [faultV]) ?_
    exact ((hb1).alloc _)
  · go_wp2_with (go_at_call 46; rw [extract_rest]; refine (read_any (l.drop p) _).mono ?_; rintro x w1 ⟨rfl, hb1⟩; rw [hr.out]; dsimp only [gotOf, gotV])
    go_ret2
    refine Ret.mk (by rw [HF.out]; simp [faultV]) ?_
    exact ((hb1).alloc _)

set_option maxRecDepth 20000 in
set_option maxHeartbeats 1600000 in
theorem fault_str_good (l : List UInt8) (p : Nat) (hp : Hid (p ≤ l.length ∧ l.length ≤ 1073741824)) (d sz m n : Nat) (hm : Hid (m = 2 ∨ m = 3)) (hr : Hid (readH (l.drop p) = some (sz, m, n, false))) (hb : Hid (¬ (l.drop p).length - sz < n)) (w : World) :
    Calls Try.prog 41 #[str l, .int .i64 (p : Int), .int .i64 ((d : Int) + 1)] w (Ret (faultV p (flt (d + 1) (l.drop p))) w) := by
  have HF0 := flt_str (d := d) hr.out hm.out
  have HF : Hid (flt (d + 1) (l.drop p) = (sz + n, 0)) := by unfold Hid; rw [HF0]; exact if_neg (by rintro (h | h); cases h; exact hb.out h)
  clear HF0
  have hs := readH_some hr.out
  have hsz : Hid (p + sz ≤ l.length) := by have h1 := hs.le; have h2 := hp.out; rw [List.length_drop] at h1; unfold Hid; omega
  have s1 : (p : Int) + (sz : Int) ≤ (l.length : Int) := by have := hsz.out; omega
  have s0 : (0 : Int) < (sz : Int) := by have := hs.pos; omega
  have s2 : ((sz : Int) == 0) = false := by simp; omega
  have s3 : (sz = 0) = False := by simp; have := hs.pos; omega
  have n0 : (0 : Int) ≤ (n : Int) := by omega
  have n1 : (n : Int) < 18446744073709551616 := by have := hs.n64; omega
  clear hs
  have dz : ((d : Int) + 1 == 0) = false := by simp; omega
  have dz2 : ((d : Int) + 1 = 0) = False := by simp; omega
  have tt : decide ((l.length : Int) - ((p : Int) + (sz : Int)) < (n : Int)) = false := by have h1 := hb.out; rw [List.length_drop] at h1; simp; omega
  have tt2 : ((l.length : Int) - ((p : Int) + (sz : Int)) < (n : Int)) = False := by have h1 := hb.out; rw [List.length_drop] at h1; simp; omega
  have n2 : (p : Int) + (sz : Int) + (n : Int) ≤ (l.length : Int) := by have h1 := hb.out; rw [List.length_drop] at h1; omega
  clear n1
  have p0 : (0 : Int) ≤ (p : Int) := by omega
  have p1 : (p : Int) ≤ (l.length : Int) := by have := hp.out; omega
  have l1 : (l.length : Int) ≤ 1073741824 := by have := hp.out; omega
  go_enter Try.func41, Try.ntmps41
  rcases hm.out with rfl | rfl
  · go_wp2_with (go_at_call 46; rw [extract_rest]; refine (read_any (l.drop p) _).mono ?_; rintro x w1 ⟨rfl, hb1⟩; rw [hr.out]; dsimp only [gotOf, gotV])
    go_ret2
    refine Ret.mk (by rw [HF.out]; simp [faultV, Int.add_assoc]) ?_
    exact ((hb1).alloc _)
  · go_wp2_with (go_at_call 46; rw [extract_rest]; refine (read_any (l.drop p) _).mono ?_; rintro x w1 ⟨rfl, hb1⟩; rw [hr.out]; dsimp only [gotOf, gotV])
    go_ret2
    refine Ret.mk (by rw [HF.out]; simp [faultV, Int.add_assoc]) ?_
    exact ((hb1).alloc _)

set_option maxRecDepth 20000 in
set_option maxHeartbeats 1600000 in
theorem fault_long (l : List UInt8) (p : Nat) (hp : Hid (p ≤ l.length ∧ l.length ≤ 1073741824)) (d sz n : Nat) (hn : Hid (1000 < n)) (hr : Hid (readH (l.drop p) = some (sz, 4, n, false))) (w : World) :
    Calls Try.prog 41 #[str l, .int .i64 (p : Int), .int .i64 ((d : Int) + 1)] w (Ret (faultV p (flt (d + 1) (l.drop p))) w) := by
  have HF := hid (flt_long (d := d) hr.out hn.out)
  have tn : decide (1000 < (n : Int)) = true := by have := hn.out; simp; omega
  have hs := readH_some hr.out
  have hsz : Hid (p + sz ≤ l.length) := by have h1 := hs.le; have h2 := hp.out; rw [List.length_drop] at h1; unfold Hid; omega
  have s1 : (p : Int) + (sz : Int) ≤ (l.length : Int) := by have := hsz.out; omega
  have s0 : (0 : Int) < (sz : Int) := by have := hs.pos; omega
  have s2 : ((sz : Int) == 0) = false := by simp; omega
  have s3 : (sz = 0) = False := by simp; have := hs.pos; omega
  have n0 : (0 : Int) ≤ (n : Int) := by omega
  clear hs
  have dz : ((d : Int) + 1 == 0) = false := by simp; omega
  have dz2 : ((d : Int) + 1 = 0) = False := by simp; omega
  have p0 : (0 : Int) ≤ (p : Int) := by omega
  have p1 : (p : Int) ≤ (l.length : Int) := by have := hp.out; omega
  have l1 : (l.length : Int) ≤ 1073741824 := by have := hp.out; omega
  go_enter Try.func41, Try.ntmps41
  go_wp2_with (go_at_call 46; rw [extract_rest]; refine (read_any (l.drop p) _).mono ?_; rintro x w1 ⟨rfl, hb1⟩; rw [hr.out]; dsimp only [gotOf, gotV])
  go_ret2
  refine Ret.mk (by rw [HF.out]; simp [faultV]) ?_
  exact ((hb1).alloc _)

theorem floop_next {f : List UInt8 → Nat × Int} {L : List UInt8} {o : Bool} {n i e : Nat} (hi : i < 1000) (hin : o = false → i < n) (hnb : ¬ (o = true ∧ L[e]? = some 255)) :
    floop f L o n (1000 - i) e = if (f (L.drop e)).2 = 0 then floop f L o n (1000 - (i + 1)) (e + (f (L.drop e)).1) else (e + (f (L.drop e)).1, (f (L.drop e)).2) := by
  rw [show 1000 - i = (1000 - (i + 1)) + 1 by omega]
  conv => lhs; unfold floop
  rw [if_neg (by rintro ⟨ho, hn⟩; have := hin ho; omega), if_neg hnb]
theorem floop_end {f : List UInt8 → Nat × Int} {L : List UInt8} {n i e : Nat} (h1 : i ≤ 1000) (hi : i = n) : floop f L false n (1000 - i) e = (e, 0) := by
  cases hj : 1000 - i with
  | zero => unfold floop; rw [if_pos ⟨rfl, by omega⟩]
  | succ j => unfold floop; rw [if_pos ⟨rfl, by omega⟩]
theorem floop_break {f : List UInt8 → Nat × Int} {L : List UInt8} {n i e : Nat} (hb : L[e]? = some 255) : floop f L true n (1000 - i) e = (e + 1, 0) := by
  cases hj : 1000 - i with
  | zero => unfold floop; rw [if_neg (by simp), if_pos ⟨rfl, hb⟩]
  | succ j => unfold floop; rw [if_neg (by simp), if_pos ⟨rfl, hb⟩]
theorem floop_long {f : List UInt8 → Nat × Int} {L : List UInt8} {n i e : Nat} (hi : i = 1000) (hb : ¬ L[e]? = some 255) : floop f L true n (1000 - i) e = (e, 4) := by
  rw [hi, show 1000 - 1000 = 0 from rfl]
  unfold floop
  rw [if_neg (by simp), if_neg (fun x => hb x.2)]

set_option maxRecDepth 20000 in
set_option maxHeartbeats 1600000 in
theorem fault_arr_false (l : List UInt8) (p : Nat) (hp : Hid (p ≤ l.length ∧ l.length ≤ 1073741824)) (d sz n : Nat) (hd : Hid (d ≤ 8)) (IH : Hid (∀ q, q ≤ l.length → ∀ w, Calls Try.prog 41 #[str l, .int .i64 (q : Int), .int .i64 (d : Int)] w (Ret (faultV q (flt d (l.drop q))) w))) (hn : Hid (¬ (false = false ∧ 1000 < n))) (hr : Hid (readH (l.drop p) = some (sz, 4, n, false))) (w : World) :
    Calls Try.prog 41 #[str l, .int .i64 (p : Int), .int .i64 ((d : Int) + 1)] w (Ret (faultV p (flt (d + 1) (l.drop p))) w) := by
  have HF := hid (flt_arr (d := d) hr.out hn.out)
  have hs := readH_some hr.out
  have hsz : Hid (p + sz ≤ l.length) := by have h1 := hs.le; have h2 := hp.out; rw [List.length_drop] at h1; unfold Hid; omega
  have s1 : (p : Int) + (sz : Int) ≤ (l.length : Int) := by have := hsz.out; omega
  have s0 : (0 : Int) < (sz : Int) := by have := hs.pos; omega
  have s2 : ((sz : Int) == 0) = false := by simp; omega
  have s3 : (sz = 0) = False := by simp; have := hs.pos; omega
  have n0 : (0 : Int) ≤ (n : Int) := by omega
  clear hs
  have dz : ((d : Int) + 1 == 0) = false := by simp; omega
  have dz2 : ((d : Int) + 1 = 0) = False := by simp; omega
  have tn : decide (1000 < (n : Int)) = false := by have := hn.out; simp at this ⊢; omega
  have p0 : (0 : Int) ≤ (p : Int) := by omega
  have p1 : (p : Int) ≤ (l.length : Int) := by have := hp.out; omega
  have l1 : (l.length : Int) ≤ 1073741824 := by have := hp.out; omega
  go_enter Try.func41, Try.ntmps41
  go_upto_region 17 with (go_at_call 46; rw [extract_rest]; refine (read_any (l.drop p) _).mono ?_; rintro x w1 ⟨rfl, hb1⟩; rw [hr.out]; dsimp only [gotOf, gotV])
  have HBG : Hid (Blk (w1.alloc (.cells #[.int .i64 (sz : Int), .int .i64 4, .int .u64 (n : Int), .bool false] 85)) w1.heap.size 85 #[.int .i64 (sz : Int), .int .i64 4, .int .u64 (n : Int), .bool false]) := Blk.new _ _ _
  have HEG : Hid (Ext w (w1.alloc (.cells #[.int .i64 (sz : Int), .int .i64 4, .int .u64 (n : Int), .bool false] 85))) := hb1.alloc _
  clear hb1
  generalize w1.heap.size = G at *
  go_wp2_with fail
  go_loopw [9, 10] (fun s9 s10 wr => ∃ i e q : Nat, s10 = .int .i64 (i : Int) ∧ s9 = .int .i64 (q : Int) ∧ Hid (q = p + e ∧ i ≤ 1000 ∧ q ≤ l.length ∧ floop (flt d) (l.drop p) false n (1000 - i) e = floop (flt d) (l.drop p) false n 1000 sz ∧ (false = false → i ≤ n)) ∧ Hid (Ext w wr ∧ Blk wr G 85 #[.int .i64 (sz : Int), .int .i64 4, .int .u64 (n : Int), .bool false])) (fun _ k _ => 1001 - (intOf k).toNat)
  case atStart => exact ⟨0, sz, p + sz, rfl, by simp, ⟨rfl, by omega, hsz.out, rfl, fun _ => Nat.zero_le _⟩, HEG.out, HBG.out⟩
  case round =>
    clear HEG HBG s1 s0 s2 s3
    obtain ⟨i, e, q, rfl, rfl, hQ, hW⟩ := hrel
    have i0 : (0 : Int) ≤ (i : Int) := by omega
    have i1 : (i : Int) ≤ 1000 := by have := hQ.out; omega
    have q0 : (0 : Int) ≤ (q : Int) := by omega
    have q1 : (q : Int) ≤ (l.length : Int) := by have := hQ.out; omega
    have g2 : wr.cell? ⟨G, 2, none⟩ = some (.int .u64 (n : Int)) := hW.out.2.cell 2
    have g3 : wr.cell? ⟨G, 3, none⟩ = some (.bool false) := hW.out.2.cell 3
    have d0 : (0 : Int) ≤ (d : Int) := by omega
    have d1 : (d : Int) ≤ 8 := by have := hd.out; omega
    by_cases hlt : i < n
    · have ti : decide (i < n) = true := by simp [hlt]
      have HI9 : Hid (i < 1000) := by have := hn.out; simp at this; unfold Hid; omega
      have tk : ((i : Int) == 1000) = false := by have := HI9.out; simp; omega
      have tk2 : (i = 1000) = False := by have := HI9.out; simp; omega
      have HLT := hid hlt
      clear hlt
      go_wp2_with fail
      refine (IH.out q hQ.out.2.2.1 _).mono ?_
      rintro x w3 ⟨rfl, hb3⟩
      have HW3 := hid (show Ext w w3 ∧ Blk w3 G 85 #[.int .i64 (sz : Int), .int .i64 4, .int .u64 (n : Int), .bool false] from ⟨hW.out.1.trans hb3, hW.out.2.ext hb3⟩)
      have hle := flt_le d (l.drop q)
      rw [List.length_drop] at hle
      have HR : Hid (floop (flt d) (l.drop p) false n 1000 sz = if (flt d (l.drop q)).2 = 0 then floop (flt d) (l.drop p) false n (1000 - (i + 1)) (e + (flt d (l.drop q)).1) else (e + (flt d (l.drop q)).1, (flt d (l.drop q)).2)) := by
        unfold Hid
        rw [← hQ.out.2.2.2.1, floop_next HI9.out (fun _ => HLT.out) (by simp), List.drop_drop, ← hQ.out.1]
      generalize flt d (l.drop q) = Rq at *
      obtain ⟨r, E⟩ := Rq
      dsimp only [faultV] at HR ⊢
      have hle2 : r ≤ l.length - q := hle
      have HLE := hid hle2
      have r1 : ((q + r : Nat) : Int) ≤ (l.length : Int) := by have := hQ.out; omega
      clear hle hle2 hb3 g2 g3
      by_cases hE : E = 0
      · subst hE
        have HR2 := HR.out
        rw [if_pos rfl] at HR2
        have HR3 := hid HR2
        clear HR HR2
        go_wp2_with fail
        have hq := hQ.out
        have hle := HLE.out
        have hi9 := HI9.out
        refine ⟨⟨i + 1, e + r, q + r, by simp, by simp, (show Hid _ from ⟨by omega, by omega, by omega, HR3.out.symm, fun _ => by have := HLT.out; omega⟩), (show Hid _ from HW3.out)⟩, ?_⟩
        simp only [intOf]; omega
      · have te : (E == 0) = false := by simp [hE]
        have te2 : (E = 0) = False := by simp [hE]
        have tn3 : (E != 0) = true := by simp [hE]
        have HR2 := HR.out
        rw [if_neg hE] at HR2
        have HR3 := hid HR2
        clear HR HR2 hE
        go_wp2_with fail
        go_ret2
        refine Ret.mk ?_ HW3.out.1
        rw [HF.out, HR3.out, faultV]
        have := hQ.out.1
        simp; omega
    · obtain rfl : i = n := by have := hQ.out.2.2.2.2 rfl; omega
      have ti : decide (i < i) = false := by simp
      have HFE := hid (floop_end (f := flt d) (L := l.drop p) (e := e) hQ.out.2.1 rfl)
      go_wp2_with fail
      go_ret2
      refine Ret.mk ?_ hW.out.1
      rw [HF.out, ← hQ.out.2.2.2.1, HFE.out, faultV, ← hQ.out.1]
      rfl

set_option maxRecDepth 20000 in
set_option maxHeartbeats 1600000 in
theorem fault_arr_true (l : List UInt8) (p : Nat) (hp : Hid (p ≤ l.length ∧ l.length ≤ 1073741824)) (d sz n : Nat) (hd : Hid (d ≤ 8)) (IH : Hid (∀ q, q ≤ l.length → ∀ w, Calls Try.prog 41 #[str l, .int .i64 (q : Int), .int .i64 (d : Int)] w (Ret (faultV q (flt d (l.drop q))) w))) (hn : Hid (¬ (true = false ∧ 1000 < n))) (hr : Hid (readH (l.drop p) = some (sz, 4, n, true))) (w : World) :
    Calls Try.prog 41 #[str l, .int .i64 (p : Int), .int .i64 ((d : Int) + 1)] w (Ret (faultV p (flt (d + 1) (l.drop p))) w) := by
  have HF := hid (flt_arr (d := d) hr.out hn.out)
  have hs := readH_some hr.out
  have hsz : Hid (p + sz ≤ l.length) := by have h1 := hs.le; have h2 := hp.out; rw [List.length_drop] at h1; unfold Hid; omega
  have s1 : (p : Int) + (sz : Int) ≤ (l.length : Int) := by have := hsz.out; omega
  have s0 : (0 : Int) < (sz : Int) := by have := hs.pos; omega
  have s2 : ((sz : Int) == 0) = false := by simp; omega
  have s3 : (sz = 0) = False := by simp; have := hs.pos; omega
  have n0 : (0 : Int) ≤ (n : Int) := by omega
  clear hs
  have dz : ((d : Int) + 1 == 0) = false := by simp; omega
  have dz2 : ((d : Int) + 1 = 0) = False := by simp; omega
  have p0 : (0 : Int) ≤ (p : Int) := by omega
  have p1 : (p : Int) ≤ (l.length : Int) := by have := hp.out; omega
  have l1 : (l.length : Int) ≤ 1073741824 := by have := hp.out; omega
  go_enter Try.func41, Try.ntmps41
  go_upto_region 17 with (go_at_call 46; rw [extract_rest]; refine (read_any (l.drop p) _).mono ?_; rintro x w1 ⟨rfl, hb1⟩; rw [hr.out]; dsimp only [gotOf, gotV])
  have HBG : Hid (Blk (w1.alloc (.cells #[.int .i64 (sz : Int), .int .i64 4, .int .u64 (n : Int), .bool true] 85)) w1.heap.size 85 #[.int .i64 (sz : Int), .int .i64 4, .int .u64 (n : Int), .bool true]) := Blk.new _ _ _
  have HEG : Hid (Ext w (w1.alloc (.cells #[.int .i64 (sz : Int), .int .i64 4, .int .u64 (n : Int), .bool true] 85))) := hb1.alloc _
  clear hb1
  generalize w1.heap.size = G at *
  go_wp2_with fail
  go_loopw [9, 10] (fun s9 s10 wr => ∃ i e q : Nat, s10 = .int .i64 (i : Int) ∧ s9 = .int .i64 (q : Int) ∧ Hid (q = p + e ∧ i ≤ 1000 ∧ q ≤ l.length ∧ floop (flt d) (l.drop p) true n (1000 - i) e = floop (flt d) (l.drop p) true n 1000 sz ∧ (true = false → i ≤ n)) ∧ Hid (Ext w wr ∧ Blk wr G 85 #[.int .i64 (sz : Int), .int .i64 4, .int .u64 (n : Int), .bool true])) (fun _ k _ => 1001 - (intOf k).toNat)
  case atStart => exact ⟨0, sz, p + sz, rfl, by simp, ⟨rfl, by omega, hsz.out, rfl, fun _ => Nat.zero_le _⟩, HEG.out, HBG.out⟩
  case round =>
    clear HEG HBG s1 s0 s2 s3
    obtain ⟨i, e, q, rfl, rfl, hQ, hW⟩ := hrel
    have i0 : (0 : Int) ≤ (i : Int) := by omega
    have i1 : (i : Int) ≤ 1000 := by have := hQ.out; omega
    have q0 : (0 : Int) ≤ (q : Int) := by omega
    have q1 : (q : Int) ≤ (l.length : Int) := by have := hQ.out; omega
    have g2 : wr.cell? ⟨G, 2, none⟩ = some (.int .u64 (n : Int)) := hW.out.2.cell 2
    have g3 : wr.cell? ⟨G, 3, none⟩ = some (.bool true) := hW.out.2.cell 3
    have d0 : (0 : Int) ≤ (d : Int) := by omega
    have d1 : (d : Int) ≤ 8 := by have := hd.out; omega
    by_cases hb : l[q]? = some 255
    · have HFB := hid (floop_break (f := flt d) (L := l.drop p) (n := n) (i := i) (e := e) (by rw [List.getElem?_drop, ← hQ.out.1]; exact hb))
      obtain ⟨hq, hv⟩ := List.getElem?_eq_some_iff.1 hb
      have tq : decide (q < l.length) = true := by simp [hq]
      have hv2 : ∀ h : q < (⟨l.toArray⟩ : ByteArray).size, (⟨l.toArray⟩ : ByteArray)[q]'h = 255 := fun h => by show l.toArray[q] = 255; simpa using hv
      have hv3 : l[q] = 255 := hv
      have hq2 : (q : Int) < (l.length : Int) := by omega
      clear hb hv
      go_wp2_with fail
      go_ret2
      refine Ret.mk ?_ hW.out.1
      rw [HF.out, ← hQ.out.2.2.2.1, HFB.out, faultV]
      have := hQ.out.1
      simp; omega
    · have HNB : Hid (¬ (l.drop p)[e]? = some 255) := by unfold Hid; rw [List.getElem?_drop, ← hQ.out.1]; exact hb
      by_cases hq : q < l.length
      · have hv3 : ¬ l[q] = 255 := fun h => hb (List.getElem?_eq_some_iff.2 ⟨hq, h⟩)
        have tq : decide (q < l.length) = true := by simp [hq]
        have hq2 : (q : Int) < (l.length : Int) := by omega
        have hv6 : ∀ h : q < (⟨l.toArray⟩ : ByteArray).size, ((((⟨l.toArray⟩ : ByteArray)[q]'h).toNat : Int) == 255) = false := fun h => by
          have e : ¬ ((⟨l.toArray⟩ : ByteArray)[q]'h).toNat = 255 := fun e => hv3 (by have e2 : l[q].toNat = 255 := e; rw [← b8_toNat l[q], e2]; rfl)
          simp; omega
        clear hb
        by_cases hi : i = 1000
        · have tk : ((i : Int) == 1000) = true := by simp [hi]
          have tk2 : (i = 1000) = True := by simp [hi]
          have HFL := hid (floop_long (f := flt d) (L := l.drop p) (n := n) (e := e) hi HNB.out)
          clear hi
          go_wp2_with fail
          go_ret2
          refine Ret.mk ?_ hW.out.1
          rw [HF.out, ← hQ.out.2.2.2.1, HFL.out, faultV, ← hQ.out.1]
          rfl
        · have HI9 : Hid (i < 1000) := by have := hQ.out; unfold Hid; omega
          have tk : ((i : Int) == 1000) = false := by simp; omega
          have tk2 : (i = 1000) = False := by simp [hi]
          clear hi
          go_wp2_with fail
          refine (IH.out q hQ.out.2.2.1 _).mono ?_
          rintro x w3 ⟨rfl, hb3⟩
          have HW3 := hid (show Ext w w3 ∧ Blk w3 G 85 #[.int .i64 (sz : Int), .int .i64 4, .int .u64 (n : Int), .bool true] from ⟨hW.out.1.trans hb3, hW.out.2.ext hb3⟩)
          have hle := flt_le d (l.drop q)
          rw [List.length_drop] at hle
          have HR : Hid (floop (flt d) (l.drop p) true n 1000 sz = if (flt d (l.drop q)).2 = 0 then floop (flt d) (l.drop p) true n (1000 - (i + 1)) (e + (flt d (l.drop q)).1) else (e + (flt d (l.drop q)).1, (flt d (l.drop q)).2)) := by
            unfold Hid
            rw [← hQ.out.2.2.2.1, floop_next HI9.out (fun h => by cases h) (fun h => HNB.out h.2), List.drop_drop, ← hQ.out.1]
          generalize flt d (l.drop q) = Rq at *
          obtain ⟨r, E⟩ := Rq
          dsimp only [faultV] at HR ⊢
          have hle2 : r ≤ l.length - q := hle
          have HLE := hid hle2
          have r1 : ((q + r : Nat) : Int) ≤ (l.length : Int) := by have := hQ.out; omega
          clear hle hle2 hb3 g2 g3
          by_cases hE : E = 0
          · subst hE
            have HR2 := HR.out
            rw [if_pos rfl] at HR2
            have HR3 := hid HR2
            clear HR HR2
            go_wp2_with fail
            have hq := hQ.out
            have hle := HLE.out
            have hi9 := HI9.out
            refine ⟨⟨i + 1, e + r, q + r, by simp, by simp, (show Hid _ from ⟨by omega, by omega, by omega, HR3.out.symm, fun h => by cases h⟩), (show Hid _ from HW3.out)⟩, ?_⟩
            simp only [intOf]; omega
          · have te : (E == 0) = false := by simp [hE]
            have te2 : (E = 0) = False := by simp [hE]
            have tn3 : (E != 0) = true := by simp [hE]
            have HR2 := HR.out
            rw [if_neg hE] at HR2
            have HR3 := hid HR2
            clear HR HR2 hE
            go_wp2_with fail
            go_ret2
            refine Ret.mk ?_ HW3.out.1
            rw [HF.out, HR3.out, faultV]
            have := hQ.out.1
            simp; omega
      · have tq : decide (q < l.length) = false := by simp [hq]
        clear hb
        by_cases hi : i = 1000
        · have tk : ((i : Int) == 1000) = true := by simp [hi]
          have tk2 : (i = 1000) = True := by simp [hi]
          have HFL := hid (floop_long (f := flt d) (L := l.drop p) (n := n) (e := e) hi HNB.out)
          clear hi
          go_wp2_with fail
          go_ret2
          refine Ret.mk ?_ hW.out.1
          rw [HF.out, ← hQ.out.2.2.2.1, HFL.out, faultV, ← hQ.out.1]
          rfl
        · have HI9 : Hid (i < 1000) := by have := hQ.out; unfold Hid; omega
          have tk : ((i : Int) == 1000) = false := by simp; omega
          have tk2 : (i = 1000) = False := by simp [hi]
          clear hi
          go_wp2_with fail
          refine (IH.out q hQ.out.2.2.1 _).mono ?_
          rintro x w3 ⟨rfl, hb3⟩
          have HW3 := hid (show Ext w w3 ∧ Blk w3 G 85 #[.int .i64 (sz : Int), .int .i64 4, .int .u64 (n : Int), .bool true] from ⟨hW.out.1.trans hb3, hW.out.2.ext hb3⟩)
          have hle := flt_le d (l.drop q)
          rw [List.length_drop] at hle
          have HR : Hid (floop (flt d) (l.drop p) true n 1000 sz = if (flt d (l.drop q)).2 = 0 then floop (flt d) (l.drop p) true n (1000 - (i + 1)) (e + (flt d (l.drop q)).1) else (e + (flt d (l.drop q)).1, (flt d (l.drop q)).2)) := by
            unfold Hid
            rw [← hQ.out.2.2.2.1, floop_next HI9.out (fun h => by cases h) (fun h => HNB.out h.2), List.drop_drop, ← hQ.out.1]
          generalize flt d (l.drop q) = Rq at *
          obtain ⟨r, E⟩ := Rq
          dsimp only [faultV] at HR ⊢
          have hle2 : r ≤ l.length - q := hle
          have HLE := hid hle2
          have r1 : ((q + r : Nat) : Int) ≤ (l.length : Int) := by have := hQ.out; omega
          clear hle hle2 hb3 g2 g3
          by_cases hE : E = 0
          · subst hE
            have HR2 := HR.out
            rw [if_pos rfl] at HR2
            have HR3 := hid HR2
            clear HR HR2
            go_wp2_with fail
            have hq := hQ.out
            have hle := HLE.out
            have hi9 := HI9.out
            refine ⟨⟨i + 1, e + r, q + r, by simp, by simp, (show Hid _ from ⟨by omega, by omega, by omega, HR3.out.symm, fun h => by cases h⟩), (show Hid _ from HW3.out)⟩, ?_⟩
            simp only [intOf]; omega
          · have te : (E == 0) = false := by simp [hE]
            have te2 : (E = 0) = False := by simp [hE]
            have tn3 : (E != 0) = true := by simp [hE]
            have HR2 := HR.out
            rw [if_neg hE] at HR2
            have HR3 := hid HR2
            clear HR HR2 hE
            go_wp2_with fail
            go_ret2
            refine Ret.mk ?_ HW3.out.1
            rw [HF.out, HR3.out, faultV]
            have := hQ.out.1
            simp; omega

end Go.Proofs.Ytagjhkknefiieaa


namespace Go.Proofs.Ytagjhkknefiieaa
open Go.RowKit
set_option linter.unusedVariables false

theorem fault_any (l : List UInt8) (hl : l.length ≤ 1073741824) : ∀ d : Nat, d ≤ 9 → ∀ p, p ≤ l.length → ∀ w, Calls Try.prog 41 #[str l, .int .i64 (p : Int), .int .i64 (d : Int)] w (Ret (faultV p (flt d (l.drop p))) w) := by
  intro d
  induction d with
  | zero =>
    intro _ p hp w
    cases hr : readH (l.drop p) with
    | none => exact fault_none l p ⟨hp, hl⟩ 0 hr w
    | some x =>
      obtain ⟨sz, m, n, o⟩ := x
      have hm := (readH_some hr).m7
      have h8 : (m = 1 ∨ m = 5 ∨ m = 6 ∨ m = 7) ∨ (m = 0 ∨ m = 2 ∨ m = 3 ∨ m = 4) := by omega
      rcases h8 with h8 | h8
      · exact fault_noK l p ⟨hp, hl⟩ 0 sz m n o h8 hr w
      · exact fault_deep l p ⟨hp, hl⟩ sz m n o h8 hr w
  | succ d ih =>
    intro hd p hp w
    have ih' := ih (by omega)
    have e : ((d + 1 : Nat) : Int) = (d : Int) + 1 := by omega
    cases hr : readH (l.drop p) with
    | none => exact fault_none l p ⟨hp, hl⟩ (d + 1) hr w
    | some x =>
      obtain ⟨sz, m, n, o⟩ := x
      have hm := (readH_some hr).m7
      have h8 : (m = 1 ∨ m = 5 ∨ m = 6 ∨ m = 7) ∨ m = 0 ∨ (m = 2 ∨ m = 3) ∨ m = 4 := by omega
      rcases h8 with h8 | rfl | h8 | rfl
      · exact fault_noK l p ⟨hp, hl⟩ (d + 1) sz m n o h8 hr w
      · rw [e]; exact fault_num l p ⟨hp, hl⟩ d sz n o hr w
      · rw [e]
        cases o with
        | true => exact fault_str_open l p ⟨hp, hl⟩ d sz m n h8 hr w
        | false =>
          by_cases hb : (l.drop p).length - sz < n
          · exact fault_str_bad l p ⟨hp, hl⟩ d sz m n h8 hr hb w
          · exact fault_str_good l p ⟨hp, hl⟩ d sz m n h8 hr hb w
      · rw [e]
        cases o with
        | false =>
          by_cases hn : 1000 < n
          · exact fault_long l p ⟨hp, hl⟩ d sz n hn hr w
          · exact fault_arr_false l p ⟨hp, hl⟩ d sz n (by unfold Hid; omega) ih' (fun h => hn h.2) hr w
        | true => exact fault_arr_true l p ⟨hp, hl⟩ d sz n (by unfold Hid; omega) ih' (fun h => by cases h.1) hr w
theorem nul_count : nulT.count 2 = 1 := by decide
theorem nul_ok : nulT.ok := by unfold nulT T.ok; exact ⟨by omega, by omega, by simp, by omega, fun i hi => by omega⟩

end Go.Proofs.Ytagjhkknefiieaa


namespace Go.Proofs.Ytagjhkknefiieaa
open Go.RowKit
set_option linter.unusedVariables false

set_option maxRecDepth 20000 in
set_option maxHeartbeats 3200000 in
theorem same_any (a : T) : ∀ b : T, a.ok → b.ok → ∀ A c B d w, IsL w (fun _ => True) a A → IsL w (fun _ => True) b B →
    Calls Try.prog 67 #[itemV a A c, itemV b B d] w (Ret (.bool (a.same b)) w) := by
  induction a with
  | nil => intro b hok; cases hok
  | mk kind n s op k ch ih =>
    intro b
    rcases b with _ | ⟨kind', n', s', op', k', ch'⟩
    · intro _ hok; cases hok
    intro hok hok' A c B d w h h'
    have H := hid h; have HO := hid hok
    have H' := hid h'; have HO' := hid hok'
    have HI := hid ih
    have hk : Hid (k < 4611686018427387904) := by unfold T.ok at hok; exact hok.2.2.2.1
    have HR : Hid ((T.mk kind n s op k ch).same (T.mk kind' n' s' op' k' ch') = (kind == kind' && n == n' && s == s' && op == op' && k == k' && T.all (fun i => (ch i).same (ch' i)) k)) := rfl
    show Calls Try.prog 67 #[.agg #[.int .i64 kind, .int .u64 (n : Int), str s, .slice A k c, .bool op], .agg #[.int .i64 kind', .int .u64 (n' : Int), str s', .slice B k' d, .bool op']] w (Ret (.bool ((T.mk kind n s op k ch).same (T.mk kind' n' s' op' k' ch'))) w)
    rw [HR.out]
    have HBa : Hid (Blk ((w.alloc (.cells #[.int .i64 kind, .int .u64 (n : Int), str s, .slice A k c, .bool op] 63)).alloc (.cells #[.int .i64 kind', .int .u64 (n' : Int), str s', .slice B k' d, .bool op'] 63)) w.heap.size 63 #[.int .i64 kind, .int .u64 (n : Int), str s, .slice A k c, .bool op]) := (Blk.new _ _ _).alloc _
    have HBb : Hid (Blk ((w.alloc (.cells #[.int .i64 kind, .int .u64 (n : Int), str s, .slice A k c, .bool op] 63)).alloc (.cells #[.int .i64 kind', .int .u64 (n' : Int), str s', .slice B k' d, .bool op'] 63)) (w.heap.size + 1) 63 #[.int .i64 kind', .int .u64 (n' : Int), str s', .slice B k' d, .bool op']) := by
      exact Blk.new' _ _ _ (by simp)
    have HE0 := hid (((Mod.refl [] w).alloc (.cells #[.int .i64 kind, .int .u64 (n : Int), str s, .slice A k c, .bool op] 63)).alloc (.cells #[.int .i64 kind', .int .u64 (n' : Int), str s', .slice B k' d, .bool op'] 63))
    clear h hok h' hok' ih HR
    go_enter Try.func67, Try.ntmps67
    by_cases e1 : kind = kind'
    · subst e1
      by_cases e2 : n = n'
      · subst e2
        by_cases e3 : s = s'
        · subst e3
          by_cases e4 : op = op'
          · subst e4
            by_cases e5 : k = k'
            · subst e5
              have tk : ((k : Int) == (k : Int)) = true := by simp
              have HA := hid (fun (wr : World) (hX : Ext ((w.alloc (.cells #[.int .i64 kind, .int .u64 (n : Int), str s, .slice A k c, .bool op] 63)).alloc (.cells #[.int .i64 kind, .int .u64 (n : Int), str s, .slice B k d, .bool op] 63)) wr) => (show wr.cell? ⟨w.heap.size, 3, none⟩ = some (.slice A k c) ∧ wr.cell? ⟨w.heap.size + 1, 3, none⟩ = some (.slice B k d) from ⟨(HBa.out.ext hX).cell 3, (HBb.out.ext hX).cell 3⟩))
              have HEB := hid (Mod.refl [] ((w.alloc (.cells #[.int .i64 kind, .int .u64 (n : Int), str s, .slice A k c, .bool op] 63)).alloc (.cells #[.int .i64 kind, .int .u64 (n : Int), str s, .slice B k d, .bool op] 63)))
              go_wp2_with fail
              go_loopw [44] (fun s44 wr => ∃ i : Nat, i ≤ k ∧ s44 = .int .i64 (i : Int) ∧ Hid (Ext ((w.alloc (.cells #[.int .i64 kind, .int .u64 (n : Int), str s, .slice A k c, .bool op] 63)).alloc (.cells #[.int .i64 kind, .int .u64 (n : Int), str s, .slice B k d, .bool op] 63)) wr ∧ T.all (fun i => (ch i).same (ch' i)) i = true)) (fun i _ => k - (intOf i).toNat)
              case atStart => exact ⟨0, Nat.zero_le _, rfl, HEB.out, rfl⟩
              case round =>
                obtain ⟨i, hi, rfl, hX⟩ := hrel
                have HEW := hid (HE0.out.trans hX.out.1)
                have i0 : (0 : Int) ≤ (i : Int) := by omega
                by_cases hlt : i < k
                · obtain ⟨y0, y1⟩ := HA.out wr hX.out.1
                  obtain ⟨b, o, Ai, ci, rfl, hb, ⟨k0, k1, k2, k3, k4⟩, hL⟩ := H.out.cells HEW.out hlt
                  obtain ⟨b', o', Ai', ci', rfl, hb', ⟨l0, l1, l2, l3, l4⟩, hL'⟩ := H'.out.cells HEW.out hlt
                  have i1 : (i : Int) < (k : Int) := by omega
                  have ti : decide (i < k) = true := by simp [hlt]
                  have HL := hid hL; have HL' := hid hL'; have HLT := hid hlt
                  have HOi : Hid (ch i).ok := by have := HO.out; unfold T.ok at this; exact this.2.2.2.2 i hlt
                  have HOi' : Hid (ch' i).ok := by have := HO'.out; unfold T.ok at this; exact this.2.2.2.2 i hlt
                  have hb0 : b < wr.heap.size := Nat.lt_of_lt_of_le hb HEW.out.size
                  have hb0' : b' < wr.heap.size := Nat.lt_of_lt_of_le hb' HEW.out.size
                  have HL5 : Hid (∀ W, Ext wr W → W.cell? ⟨b, o + i * 5 + 3, none⟩ = some (.slice Ai (ch i).k ci)) := fun W hW => (hW.cell hb0 (by simp)).trans k3
                  have HL5' : Hid (∀ W, Ext wr W → W.cell? ⟨b', o' + i * 5 + 3, none⟩ = some (.slice Ai' (ch' i).k ci')) := fun W hW => (hW.cell hb0' (by simp)).trans l3
                  clear hb hb' hb0 hb0'
                  have HC := hid (fun W hW => HI.out i (ch' i) HOi.out HOi'.out Ai ci Ai' ci' W (HL.out.ext hW) (HL'.out.ext hW))
                  have HS : Hid (∀ W, Ext wr W → W.cell? ⟨w.heap.size, 3, none⟩ = some (.slice (some ⟨b, o, none⟩) k c) ∧ W.cell? ⟨w.heap.size + 1, 3, none⟩ = some (.slice (some ⟨b', o', none⟩) k d) ∧ W.cell? ⟨b, o + i * 5, none⟩ = some (.int .i64 (ch i).kind) ∧ W.cell? ⟨b, o + i * 5 + 1, none⟩ = some (.int .u64 ((ch i).n : Int)) ∧ W.cell? ⟨b, o + i * 5 + 2, none⟩ = some (str (ch i).s) ∧ W.cell? ⟨b, o + i * 5 + 3, none⟩ = some (.slice Ai (ch i).k ci) ∧ W.cell? ⟨b, o + i * 5 + 4, none⟩ = some (.bool (ch i).op) ∧ W.cell? ⟨b', o' + i * 5, none⟩ = some (.int .i64 (ch' i).kind) ∧ W.cell? ⟨b', o' + i * 5 + 1, none⟩ = some (.int .u64 ((ch' i).n : Int)) ∧ W.cell? ⟨b', o' + i * 5 + 2, none⟩ = some (str (ch' i).s) ∧ W.cell? ⟨b', o' + i * 5 + 3, none⟩ = some (.slice Ai' (ch' i).k ci') ∧ W.cell? ⟨b', o' + i * 5 + 4, none⟩ = some (.bool (ch' i).op)) := fun W hW => by
                    obtain ⟨z0, z1⟩ := HA.out W (hX.out.1.trans hW)
                    obtain ⟨e1, e2, Ai2, ci2, e3, _, ⟨p0, p1, p2, p3, p4⟩, _⟩ := H.out.cells (HEW.out.trans hW) hlt
                    obtain ⟨e1', e2', Ai2', ci2', e3', _, ⟨q0, q1, q2, q3, q4⟩, _⟩ := H'.out.cells (HEW.out.trans hW) hlt
                    simp only [Option.some.injEq, Addr.mk.injEq, and_true] at e3 e3'
                    obtain ⟨rfl, rfl⟩ := e3
                    obtain ⟨rfl, rfl⟩ := e3'
                    have g3 := HL5.out W hW; have g3' := HL5'.out W hW
                    rw [p3] at g3; rw [q3] at g3'
                    exact ⟨z0, z1, p0, p1, p2, p3.trans g3, p4, q0, q1, q2, q3.trans g3', q4⟩
                  clear hL hL' hlt
                  have hk2 : (k : Int) < 4611686018427387904 := by have := hk.out; omega
                  go_upto_region 6 with fail
                  go_region_held3 (fun w' => w'.cell? ⟨w.heap.size, 3, none⟩ = some (.slice (some ⟨b, o, none⟩) k c) ∧ w'.cell? ⟨w.heap.size + 1, 3, none⟩ = some (.slice (some ⟨b', o', none⟩) k d) ∧ w'.cell? ⟨b, o + i * 5, none⟩ = some (.int .i64 (ch i).kind) ∧ w'.cell? ⟨b, o + i * 5 + 1, none⟩ = some (.int .u64 ((ch i).n : Int)) ∧ w'.cell? ⟨b, o + i * 5 + 2, none⟩ = some (str (ch i).s) ∧ w'.cell? ⟨b, o + i * 5 + 3, none⟩ = some (.slice Ai (ch i).k ci) ∧ w'.cell? ⟨b, o + i * 5 + 4, none⟩ = some (.bool (ch i).op) ∧ w'.cell? ⟨b', o' + i * 5, none⟩ = some (.int .i64 (ch' i).kind) ∧ w'.cell? ⟨b', o' + i * 5 + 1, none⟩ = some (.int .u64 ((ch' i).n : Int)) ∧ w'.cell? ⟨b', o' + i * 5 + 2, none⟩ = some (str (ch' i).s) ∧ w'.cell? ⟨b', o' + i * 5 + 3, none⟩ = some (.slice Ai' (ch' i).k ci') ∧ w'.cell? ⟨b', o' + i * 5 + 4, none⟩ = some (.bool (ch' i).op)) (exact HS.out _ (by (repeat (first | with_reducible assumption | with_reducible exact Mod.refl _ _ | with_reducible refine Mod.drew ?_))))
                    ((go_at_call 67; refine (HC.out _ ?_).mono ?_; (repeat (first | with_reducible assumption | with_reducible exact Mod.refl _ _ | with_reducible refine Mod.drew ?_)); rintro e w3 ⟨rfl, hb3⟩; have hx3 : Ext wr w3 := (by with_reducible refine Mod.trans ?_ hb3; (repeat (first | with_reducible assumption | with_reducible exact Mod.refl _ _ | with_reducible refine Mod.drew ?_)))))
                  have HE3 := hid (hX.out.1.trans hx3)
                  have HE4 := hid (HEW.out.trans hx3)
                  have HW1 : Hid (wrap64 ((i : Int) + 1) = (i : Int) + 1) := IntWalk.wrap64_in _ (by omega)
                  clear hb3 hk2
                  cases hpl : (ch i).same (ch' i)
                  · have hno : T.all (fun i => (ch i).same (ch' i)) k = false := by
                      have hlt := HLT.out
                      cases hh : T.all (fun i => (ch i).same (ch' i)) k with
                      | false => rfl
                      | true => have := T.all_iff.1 hh i hlt; rw [hpl] at this; cases this
                    have HNO := hid hno
                    clear hno hpl
                    go_wp2_with fail
                    go_ret
                    exact Ret.mk (by rw [HNO.out]; simp) HE4.out
                  · have HPL := hid hpl
                    clear hpl
                    go_wp2_with fail
                    have hlt := HLT.out
                    have G1 : Value.int .i64 (wrap64 ((i : Int) + 1)) = .int .i64 ((i + 1 : Nat) : Int) := by rw [HW1.out]; simp
                    have G2 : T.all (fun i => (ch i).same (ch' i)) (i + 1) = true := by rw [T.all, hX.out.2, HPL.out]; rfl
                    have G3 : k - (intOf (Value.int .i64 (wrap64 ((i : Int) + 1)))).toNat < k - (intOf (.int .i64 (i : Int))).toNat := by rw [G1]; simp only [intOf]; omega
                    refine ⟨⟨i + 1, by omega, G1, (show Hid _ from ⟨HE3.out, G2⟩)⟩, G3⟩
                · obtain rfl : i = k := by omega
                  have ti : decide (i < i) = false := by simp
                  go_wp2_with fail
                  go_ret
                  exact Ret.mk (by rw [hX.out.2]; simp) HEW.out
            · have f5 : (k = k') = False := by simp [e5]
              have f5' : ((k : Int) == (k' : Int)) = false := by simp; omega
              cases op
              · go_wp2_with fail
                go_ret
                exact Ret.mk (by simp [e5]) HE0.out
              · go_wp2_with fail
                go_ret
                exact Ret.mk (by simp [e5]) HE0.out
          · have f4 : (op == op') = false := by simp [e4]
            have f4' : (op = op') = False := by simp [e4]
            go_wp2_with fail
            go_ret
            exact Ret.mk (by simp) HE0.out
        · have f3 : (s == s') = false := by simp [e3]
          have f3' : (s = s') = False := by simp [e3]
          go_wp2_with fail
          go_ret
          exact Ret.mk (by simp) HE0.out
      · have f2 : ((n : Int) == (n' : Int)) = false := by simp; omega
        have f2' : (n = n') = False := by simp [e2]
        go_wp2_with fail
        go_ret
        exact Ret.mk (by simp [e2]) HE0.out
    · have f1 : (kind == kind') = false := by simp [e1]
      have f1' : (kind = kind') = False := by simp [e1]
      go_wp2_with fail
      go_ret
      exact Ret.mk (by simp) HE0.out
end Go.Proofs.Ytagjhkknefiieaa


namespace Go.Proofs.Ytagjhkknefiieaa
open Go.ChangeShapes Go.WideShapes Go.ChangeAt Go.RowKit Go.Deep
set_option linter.unusedVariables false

section
variable {H : Type} {enc : TypeId × Value → H} {w : World} {base b0 : Nat} {spare : Nat → Bool} {held : Bool} {r : Reach}
/-- A field of one cell, read alone. -/
theorem field_at {P : Program} {fs : Array Field} {cs : List Value} {ys : List (DataW H × List MemPlace)} {n : Nat} (hone : oneCellFields P fs = true)
    (hfl : ∀ (i : Nat) (f : Field), fs[i]? = some f → DataW.trod enc P w base spare held n f.type ((cs.drop f.offset).take (P.cellsOf f.type)) = ys[i]?)
    {i : Nat} {f : Field} (h : fs[i]? = some f) {c : Value} (hc : cs[i]? = some c) : DataW.trod enc P w base spare held n f.type [c] = ys[i]? := by
  obtain ⟨ho, hk⟩ := hone_of hone i f h
  have := hfl i f h
  rw [ho, hk] at this
  obtain ⟨hlt, hv⟩ := List.getElem?_eq_some_iff.1 hc
  rw [List.drop_eq_getElem_cons hlt, hv] at this
  exact this

theorem weights_mem_all {P : Program} {e : TypeId} {d : DataW H} {n : Nat} (hn : n ∈ d.weights P e) : ∀ {l : List (DataW H)}, d ∈ l → n ∈ DataW.weightsAll P e l
  | x :: r, h => by
    simp only [DataW.weightsAll, List.mem_append]
    rcases List.mem_cons.1 h with rfl | h
    · exact .inl hn
    · exact .inr (weights_mem_all hn h)

set_option maxRecDepth 100000 in
theorem trod_item : ∀ (fuel : Nat) (cs : List Value) (x : DataW H × List MemPlace), DataW.trod enc Try.prog w base spare held fuel 63 cs = some x → (∀ n ∈ x.1.weights Try.prog 63, n ≤ reachBytes) →
    ∃ (t : T) (A : Option Addr) (c : Nat), cs = [.int .i64 t.kind, .int .u64 (t.n : Int), str t.s, .slice A t.k c, .bool t.op] ∧ t.ok ∧ IsL w (fun _ => True) t A := by
  intro fuel
  induction fuel using Nat.strongRecOn with
  | ind fuel ih =>
    intro cs x h hz
    obtain ⟨ys, n', hn', hy, hlen, hyl, hfl⟩ := DataW.trod_struct Try.underlying63 h
    subst hn' hy
    have hz' : ∀ n ∈ DataW.weightsEach Try.prog [3, 22, 9, 61, 4] (ys.map (·.1)), n ≤ reachBytes := by
      intro n hn
      apply hz
      simp only [DataW.weights, Try.underlying63]
      exact hn
    clear hz
    have hR : reachBytes < 140737488355328 := by decide
    match cs, hlen with
    | [c0, c1, c2, c3, c4], _ =>
      have h0 := field_at (by kernel_rfl) hfl (i := 0) rfl rfl
      have h1 := field_at (by kernel_rfl) hfl (i := 1) rfl rfl
      have h2 := field_at (by kernel_rfl) hfl (i := 2) rfl rfl
      have h3 := field_at (by kernel_rfl) hfl (i := 3) rfl rfl
      have h4 := field_at (by kernel_rfl) hfl (i := 4) rfl rfl
      clear hfl h
      match ys, hyl with
      | [y0, y1, y2, y3, y4], _ =>
        obtain ⟨kd, hk, _, hkw⟩ := DataW.trod_int (k := .i64) (by kernel_rfl) h0
        obtain ⟨nn, hnn, _, hnw⟩ := DataW.trod_int (k := .u64) (by kernel_rfl) h1
        obtain ⟨s, hs, hsd, hsw⟩ := DataW.trod_string (by kernel_rfl) h2
        obtain ⟨op, hop, _⟩ := DataW.trod_bool (by kernel_rfl) h4
        have e0 : c0 = .int .i64 kd := by
          have : [c0] = [Value.int .i64 kd] := hk
          simpa using this
        have e1 : c1 = .int .u64 nn := by
          have : [c1] = [Value.int .u64 nn] := hnn
          simpa using this
        have e2 : c2 = .string s := by
          have : [c2] = [Value.string s] := hs
          simpa using this
        have e4 : c4 = .bool op := by
          have : [c4] = [Value.bool op] := hop
          simpa using this
        subst e0 e1 e2 e4
        have bk : -9223372036854775808 ≤ kd ∧ kd ≤ 9223372036854775807 := by simpa [Lit.wf, IntKind.min, IntKind.max, IntKind.signed, IntKind.bits] using hkw
        have bn : 0 ≤ nn ∧ nn ≤ 18446744073709551615 := by simpa [Lit.wf, IntKind.min, IntKind.max, IntKind.signed, IntKind.bits] using hnw
        have bs : s.data.toList.length < 4611686018427387904 := by
          have := hz' s.data.toList.length (DataW.weights_mem_each (j := 2) rfl (show _ = some (DataW.lit (.string s.data.toList)) by simp only [List.map, List.getElem?_cons_succ, List.getElem?_cons_zero]; rw [hsd]) _ (by simp [DataW.weights]))
          omega
        obtain ⟨nm, rfl⟩ := Int.eq_ofNat_of_zero_le bn.1
        rcases DataW.trod_slice (e := 63) (by kernel_rfl) h3 with ⟨hcs, _⟩ | ⟨a, len, cap', elems, rest, f, hf, hcs, hx, hb, hl, hm, hlen, hel, _, _⟩
        · have e3 : c3 = .slice none 0 0 := by simpa using hcs
          subst e3
          refine ⟨T.mk kd nm s.data.toList op 0 (fun _ => T.nil), none, 0, rfl, ?_, fun h => by omega⟩
          unfold T.ok
          exact ⟨bk, by omega, bs, by omega, fun i hi => by omega⟩
        · have e3 : c3 = .slice (some a) len cap' := by simpa using hcs
          subst e3
          have hC : Try.prog.cellsOf 63 = 5 := by kernel_rfl
          have hBy : Try.prog.bytesOf 63 = 64 := by kernel_rfl
          have hzs : ∀ n ∈ (y3.1).weights Try.prog 61, n ≤ reachBytes := fun n hn => hz' n (DataW.weights_mem_each (j := 3) rfl (show _ = some y3.1 by rfl) _ hn)
          rw [hx] at hzs
          simp only [DataW.weights, Try.underlying61] at hzs
          have bl : len < 4611686018427387904 := by
            have h8 := hzs _ List.mem_cons_self
            rw [hBy, List.length_map, hlen] at h8
            have h9 : len * 64 ≤ (len + (List.map (fun x => x.1) rest).length) * 64 := Nat.mul_le_mul_right _ (Nat.le_add_right _ _)
            omega
          have key : ∀ i, i < len → ∃ (t : T) (Ai : Option Addr) (ci : Nat), (w.cell? ((a.add (i * 5)).add 0) = some (.int .i64 t.kind) ∧ w.cell? ((a.add (i * 5)).add 1) = some (.int .u64 (t.n : Int)) ∧ w.cell? ((a.add (i * 5)).add 2) = some (str t.s) ∧ w.cell? ((a.add (i * 5)).add 3) = some (.slice Ai t.k ci) ∧ w.cell? ((a.add (i * 5)).add 4) = some (.bool t.op)) ∧ t.ok ∧ IsL w (fun _ => True) t Ai := by
            intro i hin
            have hi := hel i hin
            rw [List.getElem?_eq_getElem (by omega)] at hi
            obtain ⟨cs', hc, ht⟩ := Option.bind_eq_some_iff.1 hi
            have hz2 : ∀ n ∈ (elems[i]'(by omega)).1.weights Try.prog 63, n ≤ reachBytes := fun n hn => by
              apply hzs
              refine List.mem_cons_of_mem _ (List.mem_append_left _ (weights_mem_all hn ?_))
              exact List.mem_map.2 ⟨_, List.getElem_mem _, rfl⟩
            obtain ⟨t, Ai, ci, rfl, hok, hL⟩ := ih f (by omega) cs' _ ht hz2
            rw [hC] at hc
            obtain ⟨_, hcl, hat⟩ := World.cells?_some hc
            exact ⟨t, Ai, ci, ⟨hat 0 (by omega), hat 1 (by omega), hat 2 (by omega), hat 3 (by omega), hat 4 (by omega)⟩, hok, hL⟩
          have key2 : ∀ i, ∃ z : T × Option Addr × Nat, i < len → (w.cell? ((a.add (i * 5)).add 0) = some (.int .i64 z.1.kind) ∧ w.cell? ((a.add (i * 5)).add 1) = some (.int .u64 (z.1.n : Int)) ∧ w.cell? ((a.add (i * 5)).add 2) = some (str z.1.s) ∧ w.cell? ((a.add (i * 5)).add 3) = some (.slice z.2.1 z.1.k z.2.2) ∧ w.cell? ((a.add (i * 5)).add 4) = some (.bool z.1.op)) ∧ z.1.ok ∧ IsL w (fun _ => True) z.1 z.2.1 := fun i => by
            by_cases hin : i < len
            · obtain ⟨t, Ai, ci, h5⟩ := key i hin
              exact ⟨(t, Ai, ci), fun _ => h5⟩
            · exact ⟨(T.nil, none, 0), fun h => absurd h hin⟩
          obtain ⟨g, hg⟩ : ∃ g : Nat → T × Option Addr × Nat, ∀ i, i < len → (w.cell? ((a.add (i * 5)).add 0) = some (.int .i64 (g i).1.kind) ∧ w.cell? ((a.add (i * 5)).add 1) = some (.int .u64 ((g i).1.n : Int)) ∧ w.cell? ((a.add (i * 5)).add 2) = some (str (g i).1.s) ∧ w.cell? ((a.add (i * 5)).add 3) = some (.slice (g i).2.1 (g i).1.k (g i).2.2) ∧ w.cell? ((a.add (i * 5)).add 4) = some (.bool (g i).1.op)) ∧ (g i).1.ok ∧ IsL w (fun _ => True) (g i).1 (g i).2.1 :=
            ⟨fun i => Classical.choose (key2 i), fun i => Classical.choose_spec (key2 i)⟩
          refine ⟨T.mk kd nm s.data.toList op len (fun i => (g i).1), some a, cap', rfl, ?_, ?_⟩
          · unfold T.ok
            exact ⟨bk, by omega, bs, bl, fun i hi => (hg i hi).2.1⟩
          · intro h0
            obtain ⟨⟨z0, _⟩, _⟩ := hg 0 h0
            have z1 : w.cell? a = some (.int .i64 (g 0).1.kind) := by simpa [Addr.add] using z0
            have hsp := World.cell?_spot z1
            obtain ⟨ab, ao, sp⟩ := a
            simp only at hsp
            subst hsp
            refine ⟨ab, ao, rfl, World.block_lt_of_cell? w _ z1, trivial, fun i hin => ⟨(g i).2.1, (g i).2.2, ?_, (hg i hin).2.2⟩⟩
            obtain ⟨⟨g0, g1, g2, g3, g4⟩, _⟩ := hg i hin
            rw [addr_add, addr_add] at g0 g1 g2 g3 g4
            exact ⟨g0, g1, g2, g3, g4⟩

set_option maxRecDepth 100000 in
/-- An argument item.Item, opened. -/
theorem open_item {v : Value} {d : DataW H} {p : List MemPlace} (hval : Value.okWide Try.prog w r b0 63 v) (h : DataW.Trod enc Try.prog w base spare held 63 v d p) (hz : ∀ n ∈ d.weights Try.prog 63, n ≤ reachBytes) :
    ∃ (t : T) (A : Option Addr) (c : Nat), v = itemV t A c ∧ t.ok ∧ IsL w (fun _ => True) t A := by
  obtain ⟨cs, rfl, hsz⟩ := okWide_struct Try.underlying63 hval
  obtain ⟨fuel, hf⟩ := h
  obtain ⟨t, A, c, e, hok, hL⟩ := trod_item fuel _ _ hf hz
  refine ⟨t, A, c, ?_, hok, hL⟩
  have e2 : cs.toList = [.int .i64 t.kind, .int .u64 (t.n : Int), str t.s, .slice A t.k c, .bool t.op] := e
  rw [itemV, ← e2]
end
end Go.Proofs.Ytagjhkknefiieaa


namespace Go.Proofs.Ytagjhkknefiieaa
open Go.RowKit
set_option linter.unusedVariables false

def t82 : T := T.mk 4 0 [] false 2 fun i => if i = 0 then numT 1 else strT [97]
theorem t82_build : buildV t82 = .tuple #[str [130, 1, 65, 97], .int .i64 0] := by
  have h1 : t82.right 8 = true := by decide
  have h2 : t82.bytes = [130, 1, 65, 97] := by decide
  rw [buildV, h1, h2]; rfl
theorem t82_ok : t82.ok := by
  unfold t82 T.ok
  refine ⟨by omega, by omega, by simp, by omega, fun i hi => ?_⟩
  dsimp only
  split
  · unfold numT T.ok; exact ⟨by omega, by omega, by simp, by omega, fun i hi => by omega⟩
  · unfold strT T.ok; exact ⟨by omega, by omega, by simp, by omega, fun i hi => by omega⟩
set_option maxRecDepth 20000 in
set_option maxHeartbeats 1600000 in
/-- The code's Same. -/
theorem Same_any (a b : T) (hoa : a.ok) (hob : b.ok) (A B : Option Addr) (c d : Nat) (w : World) (ha : IsL w (fun _ => True) a A) (hb : IsL w (fun _ => True) b B) :
    Calls Try.prog 57 #[itemV a A c, itemV b B d] w (Ret (.bool (a.right 8 && b.right 8 && a.same b)) w) := by
  have H := hid ha; have H' := hid hb; have HO := hid hoa; have HO' := hid hob
  have HBa : Hid (Blk ((w.alloc (.cells (itemC a A c) 63)).alloc (.cells (itemC b B d) 63)) w.heap.size 63 (itemC a A c)) := (Blk.new _ _ _).alloc _
  have HBb : Hid (Blk ((w.alloc (.cells (itemC a A c) 63)).alloc (.cells (itemC b B d) 63)) (w.heap.size + 1) 63 (itemC b B d)) := Blk.new' _ _ _ (by simp)
  have HE0 := hid (((Mod.refl [] w).alloc (.cells (itemC a A c) 63)).alloc (.cells (itemC b B d) 63))
  clear ha hb hoa hob
  go_enter Try.func57, Try.ntmps57
  go_wp2_with fail
  refine (iRight_any a HO.out A c _ (H.out.ext HE0.out)).mono ?_
  rintro e w2 ⟨rfl, hb2⟩
  have HE2 := hid (HE0.out.trans hb2)
  have hBa2 := HBa.out.ext hb2
  have hBb2 := HBb.out.ext hb2
  have ca0 : w2.cell? ⟨w.heap.size, 0, none⟩ = some (.int .i64 a.kind) := hBa2.cell 0
  have ca1 : w2.cell? ⟨w.heap.size, 1, none⟩ = some (.int .u64 (a.n : Int)) := hBa2.cell 1
  have ca2 : w2.cell? ⟨w.heap.size, 2, none⟩ = some (str a.s) := hBa2.cell 2
  have ca3 : w2.cell? ⟨w.heap.size, 3, none⟩ = some (.slice A a.k c) := hBa2.cell 3
  have ca4 : w2.cell? ⟨w.heap.size, 4, none⟩ = some (.bool a.op) := hBa2.cell 4
  have cb0 : w2.cell? ⟨w.heap.size + 1, 0, none⟩ = some (.int .i64 b.kind) := hBb2.cell 0
  have cb1 : w2.cell? ⟨w.heap.size + 1, 1, none⟩ = some (.int .u64 (b.n : Int)) := hBb2.cell 1
  have cb2 : w2.cell? ⟨w.heap.size + 1, 2, none⟩ = some (str b.s) := hBb2.cell 2
  have cb3 : w2.cell? ⟨w.heap.size + 1, 3, none⟩ = some (.slice B b.k d) := hBb2.cell 3
  have cb4 : w2.cell? ⟨w.heap.size + 1, 4, none⟩ = some (.bool b.op) := hBb2.cell 4
  have HA2 := hid hBa2; have HB2 := hid hBb2
  clear hBa2 hBb2 hb2
  cases hr : a.right 8
  · have HR := hid hr
    clear hr
    go_wp2_with fail
    go_ret
    exact Ret.mk (by simp [show a.right 8 = false from HR.out]) HE2.out
  · have HR := hid hr
    clear hr
    go_wp2_with fail
    refine (iRight_any b HO'.out B d _ (H'.out.ext HE2.out)).mono ?_
    rintro e w3 ⟨rfl, hb3⟩
    have HE3 := hid (HE2.out.trans hb3)
    have hBa2 := HA2.out.ext hb3
    have hBb2 := HB2.out.ext hb3
    clear ca0 ca1 ca2 ca3 ca4 cb0 cb1 cb2 cb3 cb4
    have ca0 : w3.cell? ⟨w.heap.size, 0, none⟩ = some (.int .i64 a.kind) := hBa2.cell 0
    have ca1 : w3.cell? ⟨w.heap.size, 1, none⟩ = some (.int .u64 (a.n : Int)) := hBa2.cell 1
    have ca2 : w3.cell? ⟨w.heap.size, 2, none⟩ = some (str a.s) := hBa2.cell 2
    have ca3 : w3.cell? ⟨w.heap.size, 3, none⟩ = some (.slice A a.k c) := hBa2.cell 3
    have ca4 : w3.cell? ⟨w.heap.size, 4, none⟩ = some (.bool a.op) := hBa2.cell 4
    have cb0 : w3.cell? ⟨w.heap.size + 1, 0, none⟩ = some (.int .i64 b.kind) := hBb2.cell 0
    have cb1 : w3.cell? ⟨w.heap.size + 1, 1, none⟩ = some (.int .u64 (b.n : Int)) := hBb2.cell 1
    have cb2 : w3.cell? ⟨w.heap.size + 1, 2, none⟩ = some (str b.s) := hBb2.cell 2
    have cb3 : w3.cell? ⟨w.heap.size + 1, 3, none⟩ = some (.slice B b.k d) := hBb2.cell 3
    have cb4 : w3.cell? ⟨w.heap.size + 1, 4, none⟩ = some (.bool b.op) := hBb2.cell 4
    clear hBa2 hBb2 hb3
    cases hr : b.right 8
    · have HR2 := hid hr
      clear hr
      go_wp2_with fail
      go_ret
      exact Ret.mk (by simp [show b.right 8 = false from HR2.out]) HE3.out
    · have HR2 := hid hr
      clear hr
      go_wp2_with fail
      refine (same_any a b HO.out HO'.out A c B d _ (H.out.ext HE3.out) (H'.out.ext HE3.out)).mono ?_
      rintro e w4 ⟨rfl, hb4⟩
      go_wp2_with fail
      go_ret
      exact Ret.mk (by simp [show a.right 8 = true from HR.out, show b.right 8 = true from HR2.out]) (HE3.out.trans hb4)

theorem same_law {a b : T} (hoa : a.ok) (hob : b.ok) (hra : a.right 8 = true) (hrb : b.right 8 = true) : a.same b = decide (a.bytes = b.bytes) := by
  have pa : a.plain = true := by rw [T.right_eq] at hra; simp at hra; exact hra.2
  have pb : b.plain = true := by rw [T.right_eq] at hrb; simp at hrb; exact hrb.2
  rw [Bool.eq_iff_iff, decide_eq_true_iff]
  exact ⟨T.same_bytes a b hob, fun h => (T.bytes_inj a b pa pb hoa hob [] [] (by rw [h])).1⟩

/-- The two arguments' blocks in a later world. -/
structure Two (W : World) (g : Nat) (a b : T) (A B : Option Addr) (c d : Nat) : Prop where
  a0 : W.cell? ⟨g, 0, none⟩ = some (.int .i64 a.kind)
  a1 : W.cell? ⟨g, 1, none⟩ = some (.int .u64 (a.n : Int))
  a2 : W.cell? ⟨g, 2, none⟩ = some (str a.s)
  a3 : W.cell? ⟨g, 3, none⟩ = some (.slice A a.k c)
  a4 : W.cell? ⟨g, 4, none⟩ = some (.bool a.op)
  b0 : W.cell? ⟨g + 1, 0, none⟩ = some (.int .i64 b.kind)
  b1 : W.cell? ⟨g + 1, 1, none⟩ = some (.int .u64 (b.n : Int))
  b2 : W.cell? ⟨g + 1, 2, none⟩ = some (str b.s)
  b3 : W.cell? ⟨g + 1, 3, none⟩ = some (.slice B b.k d)
  b4 : W.cell? ⟨g + 1, 4, none⟩ = some (.bool b.op)
theorem Two.new (w : World) (a b : T) (A B : Option Addr) (c d : Nat) : Hid (∀ W, Ext ((w.alloc (.cells (itemC a A c) 63)).alloc (.cells (itemC b B d) 63)) W → Two W w.heap.size a b A B c d) := fun W hW => by
  have h1 : Blk W w.heap.size 63 (itemC a A c) := ((Blk.new _ _ _).alloc _).ext hW
  have h2 : Blk W (w.heap.size + 1) 63 (itemC b B d) := (Blk.new' _ _ _ (by simp)).ext hW
  exact ⟨h1.cell 0, h1.cell 1, h1.cell 2, h1.cell 3, h1.cell 4, h2.cell 0, h2.cell 1, h2.cell 2, h2.cell 3, h2.cell 4⟩

end Go.Proofs.Ytagjhkknefiieaa


namespace Go.Proofs.Ytagjhkknefiieaa
open Go.RowKit
set_option linter.unusedVariables false

/-- A name's value, its cells. -/
abbrev eidC (sch : Int) (name : List UInt8) (node svc : Nat) : Array Value := #[.int .i64 sch, str name, .int .u64 (node : Int), .int .u64 (svc : Int)]
abbrev eidV (sch : Int) (name : List UInt8) (node svc : Nat) : Value := .agg (eidC sch name node svc)

theorem eidNone_any (w : World) : Calls Try.prog 66 #[] w (Ret (eidV 1 [110, 111, 110, 101] 0 0) w) := by
  go_enter Try.func66, Try.ntmps66
  go_wp2
  refine bodyPost_ret (v := eidV 1 [110, 111, 110, 101] 0 0) ?_ rfl (Ret.mk rfl ((Mod.refl _ _).alloc _))
  simp [results, Try.results66, go_sem]

theorem eidRight_ipn (node svc : Nat) (hn : node ≤ 4294967295) (hs : svc ≤ 4294967295) (w : World) : Calls Try.prog 52 #[eidV 2 [] node svc] w (Ret (.bool true) w) := by
  have t1 : decide ((node : Int) ≤ 4294967295) = true := by simp; omega
  have t2 : decide ((svc : Int) ≤ 4294967295) = true := by simp; omega
  clear hn hs
  go_enter Try.func52, Try.ntmps52
  go_wp2
  go_ret
  exact Ret.mk rfl ((Mod.refl _ _).alloc _)

/-- Such a name's item. -/
def ipnT (node svc : Nat) : T := T.mk 4 0 [] false 2 fun i => if i = 0 then numT 2 else T.mk 4 0 [] false 2 fun j => if j = 0 then numT node else numT svc
set_option maxRecDepth 20000 in
set_option maxHeartbeats 1600000 in
theorem eidItem_ipn (node svc : Nat) (hn : Hid (node ≤ 4294967295)) (hs : Hid (svc ≤ 4294967295)) (w : World) : Calls Try.prog 28 #[eidV 2 [] node svc] w (fun e w' => ∃ A, e = .returned (.tuple #[itemV (ipnT node svc) A 2, .int .i64 0]) ∧ Ext w w' ∧ IsL w' (fun b => w.heap.size ≤ b) (ipnT node svc) A) := by
  have HB := hid ((Blk.new w 24 (eidC 2 [] node svc)).alloc (.cells #[.int .i64 0, .int .u64 0, str [], .slice none 0 0, .bool false] 63))
  have HR : Hid (Blk ((w.alloc (.cells (eidC 2 [] node svc) 24)).alloc (.cells #[.int .i64 0, .int .u64 0, str [], .slice none 0 0, .bool false] 63)) (w.heap.size + 1) 63 #[.int .i64 0, .int .u64 0, str [], .slice none 0 0, .bool false]) := by
    have := Blk.new (w.alloc (.cells (eidC 2 [] node svc) 24)) 63 #[.int .i64 0, .int .u64 0, str [], .slice none 0 0, .bool false]
    unfold Hid
    simpa using this
  have HE := hid (((Mod.refl [] w).alloc (.cells (eidC 2 [] node svc) 24)).alloc (.cells #[.int .i64 0, .int .u64 0, str [], .slice none 0 0, .bool false] 63))
  go_enter Try.func28, Try.ntmps28
  go_wp2_with fail
  refine (eidRight_ipn node svc hn.out hs.out _).mono ?_
  rintro e w1 ⟨rfl, hb1⟩
  have HB1 := hid (HB.out.ext hb1)
  have HR1 := hid (HR.out.ext hb1)
  have HE1 := hid (HE.out.trans hb1)
  have x0 : w1.cell? ⟨w.heap.size, 0, none⟩ = some (.int .i64 2) := HB1.out.cell 0
  clear hb1 HB HR HE
  have HS : Hid (∀ W, Ext w1 W → W.cell? ⟨w.heap.size, 2, none⟩ = some (.int .u64 (node : Int)) ∧ W.cell? ⟨w.heap.size, 3, none⟩ = some (.int .u64 (svc : Int))) := fun W hW => ⟨(HB1.out.ext hW).cell 2, (HB1.out.ext hW).cell 3⟩
  have y2 := (HS.out w1 (Mod.refl _ _)).1
  have y3 := (HS.out w1 (Mod.refl _ _)).2
  go_upto_region 4 with fail
  go_region_held3 (fun w' => w'.cell? ⟨w.heap.size, 2, none⟩ = some (.int .u64 (node : Int)) ∧ w'.cell? ⟨w.heap.size, 3, none⟩ = some (.int .u64 (svc : Int))) (go_keep)
    (first
      | (go_at_call 34; refine (NumI_any _ _).mono ?_; rintro x w3 ⟨rfl, hb3⟩; have hx : Ext w1 w3 := (by (with_reducible refine Mod.trans ?_ hb3); (repeat (first | with_reducible assumption | with_reducible exact Mod.refl _ _ | with_reducible refine Mod.drew ?_ | with_reducible refine Mod.alloc ?_ _))); have z := HS.out w3 hx)
      | (go_at_call 36; have hI := hIn; refine (ListV_any 2 _ 2 _).mono ?_; rintro x w5 ⟨rfl, hb5⟩; have hx : Ext w1 w5 := (by (with_reducible refine Mod.trans ?_ hb5); (repeat (first | with_reducible assumption | with_reducible exact Mod.refl _ _ | with_reducible refine Mod.drew ?_ | with_reducible refine Mod.alloc ?_ _))); have z := HS.out w5 hx; have hOut := (Blk.new _ _ _).ext hb5; have hIn2 := (Blk.alloc hIn _).ext hb5; have r0 : w5.cell? ⟨w.heap.size + 1, 0, none⟩ = some (.int .i64 0) := (HR1.out.ext hx).cell 0; have g0 : w5.frozen? ⟨w.heap.size + 1, 0, none⟩ = false := (HR1.out.ext hx).frozen 0; have r1 : w5.cell? ⟨w.heap.size + 1, 1, none⟩ = some (.int .u64 0) := (HR1.out.ext hx).cell 1; have g1 : w5.frozen? ⟨w.heap.size + 1, 1, none⟩ = false := (HR1.out.ext hx).frozen 1; have r2 : w5.cell? ⟨w.heap.size + 1, 2, none⟩ = some (str []) := (HR1.out.ext hx).cell 2; have g2 : w5.frozen? ⟨w.heap.size + 1, 2, none⟩ = false := (HR1.out.ext hx).frozen 2; have r3 : w5.cell? ⟨w.heap.size + 1, 3, none⟩ = some (.slice none 0 0) := (HR1.out.ext hx).cell 3; have g3 : w5.frozen? ⟨w.heap.size + 1, 3, none⟩ = false := (HR1.out.ext hx).frozen 3; have r4 : w5.cell? ⟨w.heap.size + 1, 4, none⟩ = some (.bool false) := (HR1.out.ext hx).cell 4; have g4 : w5.frozen? ⟨w.heap.size + 1, 4, none⟩ = false := (HR1.out.ext hx).frozen 4)
      | (go_at_call 36; refine (ListV_any 2 _ 2 _).mono ?_; rintro x w4 ⟨rfl, hb4⟩; have hx : Ext w1 w4 := (by (with_reducible refine Mod.trans ?_ hb4); (repeat (first | with_reducible assumption | with_reducible exact Mod.refl _ _ | with_reducible refine Mod.drew ?_ | with_reducible refine Mod.alloc ?_ _))); have z := HS.out w4 hx; have hIn := (Blk.new _ _ _).ext hb4))
  have h3 : Ext w1 w3 := by assumption
  have h4 : Ext w1 w4 := by assumption
  have hl : w.heap.size + 1 < w1.heap.size := HR1.out.lt
  have hs3 := h3.size
  have hs4 := h4.size
  have HR5 := hid (HR1.out.ext hx)
  have HFin : Hid (Ext w (set5 w5 (w.heap.size + 1) (ipnT node svc) (some ⟨w4.heap.size, 0, none⟩) 2) ∧ Blk (set5 w5 (w.heap.size + 1) (ipnT node svc) (some ⟨w4.heap.size, 0, none⟩) 2) (w.heap.size + 1) 63 (itemC (ipnT node svc) (some ⟨w4.heap.size, 0, none⟩) 2) ∧
      IsL (set5 w5 (w.heap.size + 1) (ipnT node svc) (some ⟨w4.heap.size, 0, none⟩) 2) (fun b => w.heap.size ≤ b) (ipnT node svc) (some ⟨w4.heap.size, 0, none⟩)) := by
    have hm : Mod [w.heap.size + 1] w5 (set5 w5 (w.heap.size + 1) (ipnT node svc) (some ⟨w4.heap.size, 0, none⟩) 2) := set5_modb
    have b1 := hOut.mod hm (by simp; omega)
    have b2 := hIn2.mod hm (by simp; omega)
    refine ⟨set5_mod (HE1.out.trans hx) (by omega), set5_blk (t0 := T.mk 0 0 [] false 0 fun _ => T.nil) (A0 := none) (c0 := 0) HR5.out, fun _ => ⟨w4.heap.size, 0, rfl, b1.lt, (show w.heap.size ≤ w4.heap.size by omega), fun i hi => ?_⟩⟩
    have hi2 : i = 0 ∨ i = 1 := by omega
    rcases hi2 with rfl | rfl
    · exact ⟨none, 0, ⟨b1.cell 0, b1.cell 1, b1.cell 2, b1.cell 3, b1.cell 4⟩, fun h => absurd h (by decide)⟩
    · refine ⟨some ⟨w3.heap.size, 0, none⟩, 2, ⟨b1.cell 5, b1.cell 6, b1.cell 7, b1.cell 8, b1.cell 9⟩, fun _ => ⟨w3.heap.size, 0, rfl, b2.lt, (show w.heap.size ≤ w3.heap.size by omega), fun j hj => ?_⟩⟩
      have hj2 : j = 0 ∨ j = 1 := by omega
      rcases hj2 with rfl | rfl
      · exact ⟨none, 0, ⟨b2.cell 0, b2.cell 1, b2.cell 2, b2.cell 3, b2.cell 4⟩, fun h => absurd h (by decide)⟩
      · exact ⟨none, 0, ⟨b2.cell 5, b2.cell 6, b2.cell 7, b2.cell 8, b2.cell 9⟩, fun h => absurd h (by decide)⟩
  obtain ⟨d0, d1, d2, d3, d4⟩ := cells5 HFin.out.2.1
  clear hOut hIn2 hIn h3 h4 hl hs3 hs4
  go_wp2_with fail
  show bodyPost _ _ _ _ _ (set5 w5 (w.heap.size + 1) (ipnT node svc) (some ⟨w4.heap.size, 0, none⟩) 2)
  refine bodyPost_ret (v := .tuple #[itemV (ipnT node svc) (some ⟨w4.heap.size, 0, none⟩) 2, .int .i64 0]) (by simp [results, Try.results28, go_sem, d0, d1, d2, d3, d4]) rfl ?_
  exact ⟨_, rfl, HFin.out.1, HFin.out.2.2⟩
end Go.Proofs.Ytagjhkknefiieaa


namespace Go.Proofs.Ytagjhkknefiieaa
open Go.RowKit
set_option linter.unusedVariables false

abbrev EV.c (e : EV) : Array Value := #[.int .i64 e.sch, str e.name, .int .u64 (e.node : Int), .int .u64 (e.svc : Int)]
abbrev EV.v (e : EV) : Value := .agg e.c
def lettN (n : Nat) : Bool := decide (97 ≤ n ∧ n ≤ 122) || decide (48 ≤ n ∧ n ≤ 57) || decide (n = 45) || decide (n = 46)
set_option maxHeartbeats 800000 in
theorem nodeByte_any (n : Nat) (h : n ≤ 2147483647) (w : World) : Calls Try.prog 84 #[.int .i32 (n : Int)] w (fun e w' => e = .returned (.bool (lettN n)) ∧ w' = w) := by
  go_enter Try.func84, Try.ntmps84
  go_wp2
  all_goals go_ret
  all_goals refine ⟨?_, rfl⟩
  all_goals (refine congrArg Ending.returned (congrArg Value.bool ?_))
  all_goals unfold lettN
  all_goals rw [Bool.eq_iff_iff]
  all_goals simp
  all_goals omega
theorem ext0 (s : List UInt8) (a b : Nat) : ((⟨s.toArray⟩ : ByteArray).extract a b) = ⟨((s.drop a).take (b - a)).toArray⟩ := by
  rw [Go.Lib.extract_eq]
set_option maxHeartbeats 800000 in
theorem CutPrefix_yes (s : List UInt8) (hs : Hid (s.length < 4611686018427387904)) (h : Hid (s.take 2 = [47, 47])) (w : World) : Calls Try.prog 83 #[str s, .string ⟨#[47, 47]⟩] w (fun e w' => e = .returned (.tuple #[str (s.drop 2), .bool true]) ∧ w' = w) := by
  have hl : 2 ≤ s.length := by
    have := congrArg List.length h.out
    rw [List.length_take] at this
    simp at this
    omega
  have hx : ((⟨s.toArray⟩ : ByteArray).extract 0 2) = ⟨([47, 47] : List UInt8).toArray⟩ := by rw [ext0, List.drop_zero, h.out]
  have hd : ((⟨s.toArray⟩ : ByteArray).extract 2 s.length) = ⟨(s.drop 2).toArray⟩ := by rw [ext0, List.take_of_length_le (by simp)]
  go_enter Try.func83, Try.ntmps83
  go_wp2
  refine bodyPost_ret (v := .tuple #[str (s.drop 2), .bool true]) (by simp [results, Try.results83, go_sem]) rfl ⟨rfl, rfl⟩
set_option maxHeartbeats 800000 in
theorem CutPrefix_no (s : List UInt8) (hs : Hid (s.length < 4611686018427387904)) (h : Hid (s.take 2 ≠ [47, 47])) (w : World) : Calls Try.prog 83 #[str s, .string ⟨#[47, 47]⟩] w (fun e w' => e = .returned (.tuple #[str s, .bool false]) ∧ w' = w) := by
  by_cases hl : 2 ≤ s.length
  · have hx : ((⟨s.toArray⟩ : ByteArray).extract 0 2) = ⟨(s.take 2).toArray⟩ := by rw [ext0, List.drop_zero]
    have h1 : (s.take 2 == [47, 47]) = false := by simpa using h.out
    have h2 : (s.take 2 = [47, 47]) = False := by simpa using h.out
    generalize s.take 2 = t at *
    go_enter Try.func83, Try.ntmps83
    go_wp2
    refine bodyPost_ret (v := .tuple #[str s, .bool false]) (by simp [results, Try.results83, go_sem]) rfl ⟨rfl, rfl⟩
  · have hl2 : decide ((2 : Int) ≤ (s.length : Int)) = false := by simp; omega
    clear hl
    go_enter Try.func83, Try.ntmps83
    go_wp2
    refine bodyPost_ret (v := .tuple #[str s, .bool false]) (by simp [results, Try.results83, go_sem]) rfl ⟨rfl, rfl⟩

set_option maxHeartbeats 1600000 in
theorem node_any (s : List UInt8) (hs : Hid (s.length < 4611686018427387904)) (w : World) : Calls Try.prog 70 #[str s] w (Ret (.int .i64 (nodeN s : Nat)) w) := by
  by_cases ht : s.take 2 = [47, 47]
  · have K := hid (fun W => CutPrefix_yes s hs ht W)
    by_cases hl : 60 < s.length
    · have hN : nodeN s = 0 := by unfold nodeN; rw [if_neg (by omega)]
      rw [hN]
      have t1 : decide (60 < (s.length : Int)) = true := by simp; omega
      go_enter Try.func70, Try.ntmps70
      go_wp2_with fail
      refine (K.out _).mono ?_
      rintro e w1 ⟨rfl, rfl⟩
      go_wp2_with fail
      go_ret
      exact Ret.mk rfl (Mod.refl _ _)
    · have hN : nodeN s = nodeA (s.drop 2) 0 := by unfold nodeN; rw [if_pos ⟨ht, by omega⟩]
      have t1 : decide (60 < (s.length : Int)) = false := by simp; omega
      have hr : Hid ((s.drop 2).length ≤ 60) := by unfold Hid; simp; omega
      rw [hN]
      clear hN
      go_enter Try.func70, Try.ntmps70
      go_wp2_with fail
      refine (K.out _).mono ?_
      rintro e w1 ⟨rfl, hw1⟩
      rw [hw1]
      clear hw1 w1 K ht hl
      generalize s.drop 2 = r at *
      generalize hNN : nodeA r 0 = N at *
      have HN : Hid (nodeA (r.drop 0) 0 = N) := hNN
      clear hNN
      go_wp2_with fail
      go_loopw [5, 6] (fun i c wr => ∃ pos : Nat, pos ≤ r.length ∧ wr = w.iter ⟨r.toArray⟩ pos ∧ Hid (nodeA (r.drop pos) pos = N)) (fun _ _ wr => r.length - wr.iterPos w.heap.size)
      case atStart => exact ⟨0, Nat.zero_le _, rfl, HN⟩
      case round =>
        obtain ⟨pos, hp, rfl, HP⟩ := hrel
        have hr60 := hr.out
        have hE : Ext w (w.iter ⟨r.toArray⟩ pos) := (Mod.refl _ _).alloc _
        by_cases hlt : pos < r.length
        · have hd : r.drop pos = r[pos] :: r.drop (pos + 1) := List.drop_eq_getElem_cons hlt
          rw [hd, nodeA] at HP
          clear hd
          by_cases h128 : (r[pos]).toNat < 128
          · have hnx : ∀ ty, (Instr.next (.pointer (some ⟨w.heap.size, 0, none⟩)) true ty).run Try.prog (w.iter ⟨r.toArray⟩ pos) = .ok (.tuple #[.bool true, .int .i64 pos, .int .i32 (r[pos]).toNat]) (w.iter ⟨r.toArray⟩ (pos + 1)) := fun ty => run_next_ascii w ⟨r.toArray⟩ pos ty hlt h128
            have KB := hid (fun W => nodeByte_any (r[pos]).toNat (by omega) W)
            have hL : lettN (r[pos]).toNat = lett r[pos] := rfl
            rw [hL] at KB
            generalize r[pos] = x at *
            go_wp2_with fail
            refine (KB.out _).mono ?_
            rintro e w1 ⟨rfl, hw1⟩
            rw [hw1]
            clear hw1 w1 KB hL
            by_cases hl : lett x = true
            · rw [hl]
              have HP2 : Hid (nodeA (r.drop (pos + 1)) (pos + 1) = N) := by have := HP.out; rw [if_pos hl] at this; exact this
              clear HP
              go_wp2_with fail
              go_roundw
              case rel => exact ⟨pos + 1, by omega, rfl, HP2⟩
              case measure => simp; omega
            · have hl2 : lett x = false := by simpa using hl
              rw [hl2]
              have HP2 : Hid ((if x.toNat = 47 ∧ 0 < pos then pos + 3 else 0) = N) := by have := HP.out; rw [if_neg (by simp [hl2])] at this; exact this
              clear HP
              by_cases h47 : x.toNat = 47
              · by_cases h0 : 0 < pos
                · have e3 : pos + 3 = N := by have := HP2.out; rw [if_pos ⟨h47, h0⟩] at this; exact this
                  rw [h47]
                  have t2 : decide (0 < (pos : Int)) = true := by simp; omega
                  go_wp2_with fail
                  go_ret
                  exact ⟨by rw [← e3]; go_num, (Mod.refl _ _).alloc _⟩
                · have e3 : 0 = N := by have := HP2.out; rw [if_neg (fun h => h0 h.2)] at this; exact this
                  rw [h47]
                  have t2 : decide (0 < (pos : Int)) = false := by simp; omega
                  go_wp2_with fail
                  go_ret
                  exact ⟨by rw [← e3]; rfl, (Mod.refl _ _).alloc _⟩
              · have e3 : 0 = N := by have := HP2.out; rw [if_neg (fun h => h47 h.1)] at this; exact this
                have t3 : ((x.toNat : Int) == 47) = false := by simp; omega
                have t4 : ((x.toNat : Int) = 47) = False := by simp; omega
                go_wp2_with fail
                go_ret
                exact ⟨by rw [← e3]; rfl, (Mod.refl _ _).alloc _⟩
          · have hdc := decode_high ⟨r.toArray⟩ pos hlt (by show 128 ≤ (r[pos]).toNat; omega)
            have hdl := decode_le ⟨r.toArray⟩ pos
            have hnx : ∀ ty, (Instr.next (.pointer (some ⟨w.heap.size, 0, none⟩)) true ty).run Try.prog (w.iter ⟨r.toArray⟩ pos) = _ := fun ty => run_next_any w ⟨r.toArray⟩ pos ty hlt
            have KB := hid (fun W => nodeByte_any (Utf8.decode ⟨r.toArray⟩ pos).1 hdl W)
            have hL : lettN (Utf8.decode ⟨r.toArray⟩ pos).1 = false := by simp [lettN]; omega
            rw [hL] at KB
            have hl2 : lett r[pos] = false := by
              show lettN (r[pos]).toNat = false
              simp [lettN]; omega
            have e3 : Hid (0 = N) := by have := HP.out; rw [if_neg (by simp [hl2]), if_neg (by omega)] at this; exact this
            clear HP hl2 hL
            have t3 : (((Utf8.decode ⟨r.toArray⟩ pos).1 : Int) == 47) = false := by simp; omega
            have t4 : (((Utf8.decode ⟨r.toArray⟩ pos).1 : Int) = 47) = False := by simp; omega
            have hE2 : Ext w (w.iter ⟨r.toArray⟩ (pos + (Utf8.decode ⟨r.toArray⟩ pos).2)) := (Mod.refl _ _).alloc _
            generalize (Utf8.decode ⟨r.toArray⟩ pos).1 = R at *
            generalize pos + (Utf8.decode ⟨r.toArray⟩ pos).2 = pos2 at *
            go_wp2_with fail
            refine (KB.out _).mono ?_
            rintro e w1 ⟨rfl, hw1⟩
            rw [hw1]
            clear hw1 w1 KB
            go_wp2_with fail
            go_ret
            exact ⟨by rw [← e3.out]; rfl, hE2⟩
        · obtain rfl : pos = r.length := by omega
          have e3 : Hid (0 = N) := by have := HP.out; rw [List.drop_length] at this; exact this
          have hnx : ∀ ty, (Instr.next (.pointer (some ⟨w.heap.size, 0, none⟩)) true ty).run Try.prog (w.iter ⟨r.toArray⟩ r.length) = _ := fun ty => run_next_end w ⟨r.toArray⟩ r.length ty (by show ¬ r.length < r.length; omega)
          go_wp2_with fail
          go_ret
          exact ⟨by rw [← e3.out]; rfl, hE⟩
  · have K := hid (fun W => CutPrefix_no s hs ht W)
    have hN : nodeN s = 0 := by unfold nodeN; rw [if_neg (fun h => ht h.1)]
    rw [hN]
    go_enter Try.func70, Try.ntmps70
    go_wp2_with fail
    refine (K.out _).mono ?_
    rintro e w1 ⟨rfl, rfl⟩
    go_wp2_with fail
    go_ret
    exact Ret.mk rfl (Mod.refl _ _)
end Go.Proofs.Ytagjhkknefiieaa


namespace Go.Proofs.Ytagjhkknefiieaa
open Go.RowKit
set_option linter.unusedVariables false

theorem nodeA_le : ∀ (l : List UInt8) (j : Nat), nodeA l j ≤ j + l.length + 2
  | [], _ => by simp [nodeA]
  | c :: l, j => by
    have ih := nodeA_le l (j + 1)
    rw [nodeA, List.length_cons]
    split
    · omega
    · split <;> omega
theorem nodeN_le (s : List UInt8) : nodeN s ≤ s.length := by
  unfold nodeN
  split
  · rename_i h
    have := nodeA_le (s.drop 2) 0
    have hl := congrArg List.length h.1
    rw [List.length_take] at hl
    rw [List.length_drop] at this
    simp at hl
    omega
  · omega
theorem cell_row8e (w : World) (l : List UInt8) (cap t : Nat) (fz : Nat × Nat) (j : Nat) (h : j < l.length) :
    (w.alloc (.cells (bytesRow ⟨l.toArray⟩ cap) t fz)).cell? ⟨w.heap.size, j, none⟩ = some (.int .u8 (l[j].toNat : Int)) := by
  rw [World.cell?_alloc_mark]
  simp only [bytesRow]
  rw [Array.getElem?_append_left (by simpa using h)]
  simp [h]
theorem named_none (w : World) : Calls Try.prog 61 #[str [110, 111, 110, 101]] w (Ret (.bool true) w) := by
  go_enter Try.func61, Try.ntmps61
  go_wp2_with fail
  go_ret
  exact Ret.mk rfl (Mod.refl _ _)
set_option maxHeartbeats 800000 in
theorem named_any (s : List UInt8) (hs : Hid (s.length < 4611686018427387904)) (w : World) : Calls Try.prog 61 #[str s] w (Ret (.bool (namedL s)) w) := by
  by_cases h0 : s = noneL
  · subst h0; exact named_none w
  have hm : namedL s = (decide (nodeN s ≠ 0) && (s.drop (nodeN s)).all prin) := by simp [namedL, h0]
  rw [hm]
  have n1 : (s == [110, 111, 110, 101]) = false := by simpa [noneL] using h0
  have n2 : (s = [110, 111, 110, 101]) = False := by simpa [noneL] using h0
  have K := hid (fun W => node_any s hs W)
  have hle := nodeN_le s
  clear hm h0
  by_cases hn0 : nodeN s = 0
  · rw [hn0] at K
    rw [hn0]
    clear hle hn0
    go_enter Try.func61, Try.ntmps61
    go_wp2_with fail
    refine (K.out _).mono ?_
    rintro e w1 ⟨rfl, hb1⟩
    go_wp2_with fail
    go_ret
    exact Ret.mk (by simp) hb1
  · have hd : ((⟨s.toArray⟩ : ByteArray).extract (nodeN s) s.length) = ⟨(s.drop (nodeN s)).toArray⟩ := by rw [ext0, List.take_of_length_le (by simp)]
    have z1 : ((nodeN s : Int) == 0) = false := by simp; omega
    have z2 : ((nodeN s : Int) = 0) = False := by simp; omega
    have hconv := fun (w : World) (s : ByteArray) => run_bytes_of_string (P := Try.prog) w 9 97 5 s Try.underlying9 Try.underlying97 Try.underlying5
    have hB : (decide (nodeN s ≠ 0) && (s.drop (nodeN s)).all prin) = (s.drop (nodeN s)).all prin := by simp [hn0]
    rw [hB]
    have hlen : (s.drop (nodeN s)).length < 4611686018427387904 := by have := hs.out; rw [List.length_drop]; omega
    clear hB hn0
    generalize nodeN s = n at *
    generalize s.drop n = t at *
    generalize hT : t.all prin = B at *
    have HT : Hid ((t.drop 0).all prin = B) := hT
    clear hT
    go_enter Try.func61, Try.ntmps61
    go_wp2_with fail
    refine (K.out _).mono ?_
    rintro e w1 ⟨rfl, hb1⟩
    clear K
    have HB1 := hid hb1
    clear hb1
    go_wp2_with fail
    have hext := (HB1.out.alloc (Obj.cells (bytesRow { data := t.toArray } (grownCap w1 t.length 0 5)) 5 ((bytesRow { data := t.toArray } (grownCap w1 t.length 0 5)).size, (bytesRow { data := t.toArray } (grownCap w1 t.length 0 5)).size + 1)))
    have hcell : ∀ j (h : j < t.length), (w1.alloc (Obj.cells (bytesRow { data := t.toArray } (grownCap w1 t.length 0 5)) 5 ((bytesRow { data := t.toArray } (grownCap w1 t.length 0 5)).size, (bytesRow { data := t.toArray } (grownCap w1 t.length 0 5)).size + 1))).cell? ⟨w1.heap.size, j, none⟩ = some (.int .u8 (t[j].toNat : Int)) := fun j h => cell_row8e w1 t _ _ _ j h
    generalize hW : World.alloc w1 _ = W at *
    have HX := hid hext; clear hext hW
    have HC := hid hcell; clear hcell
    go_loop [5, 17] (fun c i => ∃ j : Nat, j ≤ t.length ∧ i = .int .i64 j ∧ Hid ((t.drop j).all prin = B)) (fun _ i => t.length - (intOf i).toNat)
    case atStart => exact ⟨0, Nat.zero_le _, rfl, HT⟩
    case round =>
      obtain ⟨j, hj, rfl, HP⟩ := hrel
      by_cases hlt : j < t.length
      · have hcc := HC.out j hlt
        have hdr : t.drop j = t[j] :: t.drop (j + 1) := List.drop_eq_getElem_cons hlt
        rw [hdr, List.all_cons] at HP
        clear hdr
        generalize t[j] = x at *
        have hx := x.toNat_lt
        by_cases h1 : x.toNat < 33
        · have hp : prin x = false := by simp [prin]; omega
          have HB2 : Hid (false = B) := by have := HP.out; rw [hp] at this; exact this
          have t1 : decide ((x.toNat : Int) < 33) = true := by simp; omega
          clear HP hp h1
          go_wp2_with fail
          go_ret
          exact Ret.mk (by rw [← HB2.out]; rfl) HX.out.drew
        · by_cases h2 : 126 < x.toNat
          · have hp : prin x = false := by simp [prin]; omega
            have HB2 : Hid (false = B) := by have := HP.out; rw [hp] at this; exact this
            have t1 : decide ((x.toNat : Int) < 33) = false := by simp; omega
            have t2 : decide (126 < (x.toNat : Int)) = true := by simp; omega
            clear HP hp h1 h2
            go_wp2_with fail
            go_ret
            exact Ret.mk (by rw [← HB2.out]; rfl) HX.out.drew
          · have hp : prin x = true := by simp [prin]; omega
            have HP2 : Hid ((t.drop (j + 1)).all prin = B) := by have := HP.out; rw [hp] at this; exact this
            have t1 : decide ((x.toNat : Int) < 33) = false := by simp; omega
            have t2 : decide (126 < (x.toNat : Int)) = false := by simp; omega
            clear HP hp h1 h2
            go_wp2_with fail
            go_round
            case rel => exact ⟨j + 1, by omega, by go_num, HP2⟩
            case measure => simp [intOf]; omega
      · obtain rfl : j = t.length := by omega
        have HB2 : Hid (true = B) := by have := HP.out; rw [List.drop_length] at this; exact this
        clear HP
        go_wp2_with fail
        go_ret
        exact Ret.mk (by rw [← HB2.out]; rfl) HX.out.drew

set_option maxRecDepth 20000 in
theorem eidRight_any (e : EV) (hs : Hid (e.name.length < 4611686018427387904)) (w : World) : Calls Try.prog 52 #[e.v] w (Ret (.bool e.ok) w) := by
  obtain ⟨sch, name, node, svc⟩ := e
  by_cases h1 : sch = 1
  · subst h1
    have e1 : EV.ok ⟨1, name, node, svc⟩ = (decide (node = 0) && decide (svc = 0) && namedL name) := rfl
    rw [e1]
    clear e1
    by_cases hn : node = 0
    · subst hn
      by_cases hv : svc = 0
      · subst hv
        have K := hid (fun W => named_any name hs W)
        generalize namedL name = b at *
        have HE := hid ((Mod.refl [] w).alloc (.cells (EV.c ⟨1, name, 0, 0⟩) 24))
        go_enter Try.func52, Try.ntmps52
        go_wp2_with fail
        refine (K.out _).mono ?_
        rintro e w1 ⟨rfl, hb1⟩
        go_wp2_with fail
        go_ret
        exact Ret.mk (by simp) (HE.out.trans hb1)
      · have z1 : ((svc : Int) == 0) = false := by simp; omega
        have z2 : ((svc : Int) = 0) = False := by simp; omega
        have hb : (decide ((0 : Nat) = 0) && decide (svc = 0) && namedL name) = false := by simp [hv]
        rw [hb]
        clear hb hv
        go_enter Try.func52, Try.ntmps52
        go_wp2_with fail
        go_ret
        exact Ret.mk rfl ((Mod.refl _ _).alloc _)
    · have z1 : ((node : Int) == 0) = false := by simp; omega
      have z2 : ((node : Int) = 0) = False := by simp; omega
      have hb : (decide (node = 0) && decide (svc = 0) && namedL name) = false := by simp [hn]
      rw [hb]
      clear hb hn
      go_enter Try.func52, Try.ntmps52
      go_wp2_with fail
      go_ret
      exact Ret.mk rfl ((Mod.refl _ _).alloc _)
  · by_cases h2 : sch = 2
    · subst h2
      have e1 : EV.ok ⟨2, name, node, svc⟩ = (decide (name = []) && decide (node ≤ 4294967295) && decide (svc ≤ 4294967295)) := rfl
      rw [e1]
      clear e1 h1
      by_cases hn : name = []
      · subst hn
        by_cases ha : node ≤ 4294967295
        · have t1 : decide ((node : Int) ≤ 4294967295) = true := by simp; omega
          by_cases hb : svc ≤ 4294967295
          · have t2 : decide ((svc : Int) ≤ 4294967295) = true := by simp; omega
            have hr : (decide (([] : List UInt8) = []) && decide (node ≤ 4294967295) && decide (svc ≤ 4294967295)) = true := by simp [ha, hb]
            rw [hr]
            clear hr ha hb
            go_enter Try.func52, Try.ntmps52
            go_wp2_with fail
            go_ret
            exact Ret.mk rfl ((Mod.refl _ _).alloc _)
          · have t2 : decide ((svc : Int) ≤ 4294967295) = false := by simp; omega
            have hr : (decide (([] : List UInt8) = []) && decide (node ≤ 4294967295) && decide (svc ≤ 4294967295)) = false := by simp [hb]
            rw [hr]
            clear hr ha hb
            go_enter Try.func52, Try.ntmps52
            go_wp2_with fail
            go_ret
            exact Ret.mk rfl ((Mod.refl _ _).alloc _)
        · have t1 : decide ((node : Int) ≤ 4294967295) = false := by simp; omega
          have hr : (decide (([] : List UInt8) = []) && decide (node ≤ 4294967295) && decide (svc ≤ 4294967295)) = false := by simp [ha]
          rw [hr]
          clear hr ha
          go_enter Try.func52, Try.ntmps52
          go_wp2_with fail
          go_ret
          exact Ret.mk rfl ((Mod.refl _ _).alloc _)
      · have n1 : (name == []) = false := by simpa using hn
        have n2 : (name = []) = False := by simpa using hn
        have n3 : name.isEmpty = false := by simpa using hn
        have hr : (decide (name = []) && decide (node ≤ 4294967295) && decide (svc ≤ 4294967295)) = false := by simp [hn]
        rw [hr]
        clear hr hn
        go_enter Try.func52, Try.ntmps52
        go_wp2_with fail
        go_ret
        exact Ret.mk rfl ((Mod.refl _ _).alloc _)
    · have e1 : EV.ok ⟨sch, name, node, svc⟩ = false := by simp [EV.ok, h1, h2]
      rw [e1]
      have s1 : (sch = 1) = False := by simp [h1]
      have s2 : (sch == 1) = false := by simp [h1]
      have s3 : (sch = 2) = False := by simp [h2]
      have s4 : (sch == 2) = false := by simp [h2]
      clear e1 h1 h2
      go_enter Try.func52, Try.ntmps52
      go_wp2_with fail
      go_ret
      exact Ret.mk rfl ((Mod.refl _ _).alloc _)
end Go.Proofs.Ytagjhkknefiieaa


namespace Go.Proofs.Ytagjhkknefiieaa
open Go.RowKit
set_option linter.unusedVariables false

/-- Text; a name's item. -/
def textT (s : List UInt8) : T := T.mk 3 0 s false 0 fun _ => T.nil
def twoT (e : EV) : T := if e.sch = 2 then T.mk 4 0 [] false 2 (fun j => if j = 0 then numT e.node else numT e.svc) else if e.name = noneL then numT 0 else textT e.name
def eidT (e : EV) : T := T.mk 4 0 [] false 2 fun i => if i = 0 then numT e.sch.toNat else twoT e

set_option maxRecDepth 20000 in
set_option maxHeartbeats 800000 in
theorem eidItem_bad (sch : Int) (name : List UInt8) (node svc : Nat) (hs : Hid (name.length < 4611686018427387904)) (ho : EV.ok ⟨sch, name, node, svc⟩ = false) (w : World) :
    Calls Try.prog 28 #[EV.v ⟨sch, name, node, svc⟩] w (Ret (.tuple #[itemV (numT 0) none 0, .int .i64 1]) w) := by
  have K := hid (fun W => eidRight_any ⟨sch, name, node, svc⟩ hs W)
  rw [ho] at K
  have HB := hid ((Blk.new w 24 (EV.c ⟨sch, name, node, svc⟩)).alloc (.cells #[.int .i64 0, .int .u64 0, .string ⟨#[]⟩, .slice none 0 0, .bool false] 63))
  have HR : Hid (Blk ((w.alloc (.cells (EV.c ⟨sch, name, node, svc⟩) 24)).alloc (.cells #[.int .i64 0, .int .u64 0, .string ⟨#[]⟩, .slice none 0 0, .bool false] 63)) (w.heap.size + 1) 63 (itemC (numT 0) none 0)) := by
    have := Blk.new (w.alloc (.cells (EV.c ⟨sch, name, node, svc⟩) 24)) 63 (itemC (numT 0) none 0)
    unfold Hid
    simpa [itemC, numT, T.kind, T.n, T.s, T.k, T.op] using this
  have HE := hid (((Mod.refl [] w).alloc (.cells (EV.c ⟨sch, name, node, svc⟩) 24)).alloc (.cells #[.int .i64 0, .int .u64 0, .string ⟨#[]⟩, .slice none 0 0, .bool false] 63))
  go_enter Try.func28, Try.ntmps28
  go_wp2_with fail
  refine (K.out _).mono ?_
  rintro e w1 ⟨rfl, hb1⟩
  have HB1 := hid (HB.out.ext hb1)
  have HR1 := hid (HR.out.ext hb1)
  have HE1 := hid (HE.out.trans hb1)
  clear hb1 HB HR HE
  obtain ⟨c0, c1, c2, c3, c4⟩ := cells5 HR1.out
  have f0 := Blk.frozen HR1.out 0
  have f1 := Blk.frozen HR1.out 1
  have f2 := Blk.frozen HR1.out 2
  have f3 := Blk.frozen HR1.out 3
  have f4 := Blk.frozen HR1.out 4
  go_wp2_with fail
  obtain ⟨d0, d1, d2, d3, d4⟩ := cells5 (set5_blk (t := numT 0) (A := none) (c := 0) HR1.out)
  clear c0 c1 c2 c3 c4 f0 f1 f2 f3 f4
  show bodyPost _ _ _ _ _ (set5 w1 (w.heap.size + 1) (numT 0) none 0)
  refine bodyPost_ret (v := .tuple #[itemV (numT 0) none 0, .int .i64 1]) (by simp [results, Try.results28, go_sem, d0, d1, d2, d3, d4]) rfl ?_
  exact Ret.mk rfl (set5_mod HE1.out (by omega))

set_option maxRecDepth 20000 in
set_option maxHeartbeats 1600000 in
theorem eidItem_none (w : World) :
    Calls Try.prog 28 #[EV.v ⟨1, [110, 111, 110, 101], 0, 0⟩] w (fun e w' => ∃ A, e = .returned (.tuple #[itemV (eidT ⟨1, [110, 111, 110, 101], 0, 0⟩) A 2, .int .i64 0]) ∧ Ext w w' ∧ IsL w' (fun b => w.heap.size ≤ b) (eidT ⟨1, [110, 111, 110, 101], 0, 0⟩) A) := by
  have K : Hid (∀ W, Calls Try.prog 52 #[EV.v ⟨1, [110, 111, 110, 101], 0, 0⟩] W (Ret (.bool true) W)) := fun W => by have := eidRight_any ⟨1, [110, 111, 110, 101], 0, 0⟩ (by unfold Hid; decide) W; rw [show EV.ok ⟨1, [110, 111, 110, 101], 0, 0⟩ = true by decide] at this; exact this
  have HB := hid ((Blk.new w 24 (EV.c ⟨1, [110, 111, 110, 101], 0, 0⟩)).alloc (.cells #[.int .i64 0, .int .u64 0, .string ⟨#[]⟩, .slice none 0 0, .bool false] 63))
  have HR : Hid (Blk ((w.alloc (.cells (EV.c ⟨1, [110, 111, 110, 101], 0, 0⟩) 24)).alloc (.cells #[.int .i64 0, .int .u64 0, .string ⟨#[]⟩, .slice none 0 0, .bool false] 63)) (w.heap.size + 1) 63 (itemC (numT 0) none 0)) := by
    have := Blk.new (w.alloc (.cells (EV.c ⟨1, [110, 111, 110, 101], 0, 0⟩) 24)) 63 (itemC (numT 0) none 0)
    unfold Hid
    simpa [itemC, numT, T.kind, T.n, T.s, T.k, T.op] using this
  have HE := hid (((Mod.refl [] w).alloc (.cells (EV.c ⟨1, [110, 111, 110, 101], 0, 0⟩) 24)).alloc (.cells #[.int .i64 0, .int .u64 0, .string ⟨#[]⟩, .slice none 0 0, .bool false] 63))
  go_enter Try.func28, Try.ntmps28
  go_wp2_with fail
  refine (K.out _).mono ?_
  rintro e w1 ⟨rfl, hb1⟩
  have HB1 := hid (HB.out.ext hb1)
  have HR1 := hid (HR.out.ext hb1)
  have HE1 := hid (HE.out.trans hb1)
  clear hb1 HB HR HE
  have x0 : w1.cell? ⟨w.heap.size, 0, none⟩ = some (.int .i64 1) := HB1.out.cell 0
  have x1 : w1.cell? ⟨w.heap.size, 1, none⟩ = some (str [110, 111, 110, 101]) := HB1.out.cell 1
  go_wp2_with fail
  refine (NumI_any _ _).mono ?_
  rintro e w2 ⟨rfl, hb2⟩
  go_wp2_with fail
  refine (NumI_any _ _).mono ?_
  rintro e w3 ⟨rfl, hb3⟩
  have H13 : Hid (w1.heap.size ≤ w3.heap.size) := Nat.le_trans hb2.size hb3.size
  have HE3 := hid ((HE1.out.trans hb2).trans hb3)
  have HR3 := hid ((HR1.out.ext hb2).ext hb3)
  clear hb2 hb3 x0 x1
  go_wp2_with fail
  refine (ListV_any 2 _ 2 _).mono ?_
  rintro e w4 ⟨rfl, hb4⟩
  have HOut := hid ((Blk.new w3 63 #[.int .i64 0, .int .u64 1, str [], .slice none 0 0, .bool false, .int .i64 0, .int .u64 0, str [], .slice none 0 0, .bool false]).ext hb4)
  have HE4 := hid ((HE3.out.alloc _).trans hb4)
  have HR4 := hid ((HR3.out.alloc _).ext hb4)
  clear hb4 HE3 HR3
  obtain ⟨c0, c1, c2, c3, c4⟩ := cells5 HR4.out
  have f0 := Blk.frozen HR4.out 0
  have f1 := Blk.frozen HR4.out 1
  have f2 := Blk.frozen HR4.out 2
  have f3 := Blk.frozen HR4.out 3
  have f4 := Blk.frozen HR4.out 4
  have HTT : Hid (eidT ⟨1, [110, 111, 110, 101], 0, 0⟩ = T.mk 4 0 [] false 2 fun i => if i = 0 then numT 1 else numT 0) := rfl
  have HFin : Hid (Ext w (set5 w4 (w.heap.size + 1) (eidT ⟨1, [110, 111, 110, 101], 0, 0⟩) (some ⟨w3.heap.size, 0, none⟩) 2) ∧ Blk (set5 w4 (w.heap.size + 1) (eidT ⟨1, [110, 111, 110, 101], 0, 0⟩) (some ⟨w3.heap.size, 0, none⟩) 2) (w.heap.size + 1) 63 (itemC (eidT ⟨1, [110, 111, 110, 101], 0, 0⟩) (some ⟨w3.heap.size, 0, none⟩) 2) ∧
      IsL (set5 w4 (w.heap.size + 1) (eidT ⟨1, [110, 111, 110, 101], 0, 0⟩) (some ⟨w3.heap.size, 0, none⟩) 2) (fun b => w.heap.size ≤ b) (eidT ⟨1, [110, 111, 110, 101], 0, 0⟩) (some ⟨w3.heap.size, 0, none⟩)) := by
    have hm : Mod [w.heap.size + 1] w4 (set5 w4 (w.heap.size + 1) (eidT ⟨1, [110, 111, 110, 101], 0, 0⟩) (some ⟨w3.heap.size, 0, none⟩) 2) := set5_modb
    have hl := HR1.out.lt
    have hs3 := H13.out
    have b1 := HOut.out.mod hm (by simp; omega)
    refine ⟨set5_mod HE4.out (by omega), set5_blk HR4.out, ?_⟩
    rw [HTT.out] at b1 ⊢
    refine fun _ => ⟨w3.heap.size, 0, rfl, b1.lt, (show w.heap.size ≤ w3.heap.size by omega), fun i hi => ?_⟩
    have hi2 : i = 0 ∨ i = 1 := by omega
    rcases hi2 with rfl | rfl
    · exact ⟨none, 0, ⟨b1.cell 0, b1.cell 1, b1.cell 2, b1.cell 3, b1.cell 4⟩, fun h => absurd h (by decide)⟩
    · exact ⟨none, 0, ⟨b1.cell 5, b1.cell 6, b1.cell 7, b1.cell 8, b1.cell 9⟩, fun h => absurd h (by decide)⟩
  obtain ⟨d0, d1, d2, d3, d4⟩ := cells5 HFin.out.2.1
  go_wp2_with fail
  show bodyPost _ _ _ _ _ (set5 w4 (w.heap.size + 1) (eidT ⟨1, [110, 111, 110, 101], 0, 0⟩) (some ⟨w3.heap.size, 0, none⟩) 2)
  refine bodyPost_ret (v := .tuple #[itemV (eidT ⟨1, [110, 111, 110, 101], 0, 0⟩) (some ⟨w3.heap.size, 0, none⟩) 2, .int .i64 0]) (by simp [results, Try.results28, go_sem, d0, d1, d2, d3, d4]) rfl ?_
  exact ⟨_, rfl, HFin.out.1, HFin.out.2.2⟩

set_option maxRecDepth 20000 in
set_option maxHeartbeats 1600000 in
theorem eidItem_dtn (name : List UInt8) (hs : Hid (name.length < 4611686018427387904)) (hn : name ≠ [110, 111, 110, 101]) (ho : EV.ok ⟨1, name, 0, 0⟩ = true) (w : World) :
    Calls Try.prog 28 #[EV.v ⟨1, name, 0, 0⟩] w (fun e w' => ∃ A, e = .returned (.tuple #[itemV (eidT ⟨1, name, 0, 0⟩) A 2, .int .i64 0]) ∧ Ext w w' ∧ IsL w' (fun b => w.heap.size ≤ b) (eidT ⟨1, name, 0, 0⟩) A) := by
  have K : Hid (∀ W, Calls Try.prog 52 #[EV.v ⟨1, name, 0, 0⟩] W (Ret (.bool true) W)) := fun W => by have := eidRight_any ⟨1, name, 0, 0⟩ hs W; rw [ho] at this; exact this
  have hnn : Hid (¬ name = noneL) := hn
  have n1 : (name == [110, 111, 110, 101]) = false := by simpa using hn
  have n2 : (name = [110, 111, 110, 101]) = False := by simpa using hn
  clear hn
  have HB := hid ((Blk.new w 24 (EV.c ⟨1, name, 0, 0⟩)).alloc (.cells #[.int .i64 0, .int .u64 0, .string ⟨#[]⟩, .slice none 0 0, .bool false] 63))
  have HR : Hid (Blk ((w.alloc (.cells (EV.c ⟨1, name, 0, 0⟩) 24)).alloc (.cells #[.int .i64 0, .int .u64 0, .string ⟨#[]⟩, .slice none 0 0, .bool false] 63)) (w.heap.size + 1) 63 (itemC (numT 0) none 0)) := by
    have := Blk.new (w.alloc (.cells (EV.c ⟨1, name, 0, 0⟩) 24)) 63 (itemC (numT 0) none 0)
    unfold Hid
    simpa [itemC, numT, T.kind, T.n, T.s, T.k, T.op] using this
  have HE := hid (((Mod.refl [] w).alloc (.cells (EV.c ⟨1, name, 0, 0⟩) 24)).alloc (.cells #[.int .i64 0, .int .u64 0, .string ⟨#[]⟩, .slice none 0 0, .bool false] 63))
  go_enter Try.func28, Try.ntmps28
  go_wp2_with fail
  refine (K.out _).mono ?_
  rintro e w1 ⟨rfl, hb1⟩
  have HB1 := hid (HB.out.ext hb1)
  have HR1 := hid (HR.out.ext hb1)
  have HE1 := hid (HE.out.trans hb1)
  clear hb1 HB HR HE
  have x0 : w1.cell? ⟨w.heap.size, 0, none⟩ = some (.int .i64 1) := HB1.out.cell 0
  have x1 : w1.cell? ⟨w.heap.size, 1, none⟩ = some (str name) := HB1.out.cell 1
  have HS : Hid (∀ w', Ext w1 w' → w'.cell? ⟨w.heap.size, 0, none⟩ = some (.int .i64 1) ∧ w'.cell? ⟨w.heap.size, 1, none⟩ = some (str name)) := fun W hW => ⟨(HB1.out.ext hW).cell 0, (HB1.out.ext hW).cell 1⟩
  obtain ⟨c0, c1, c2, c3, c4⟩ := cells5 HR1.out
  have f0 := Blk.frozen HR1.out 0
  have f1 := Blk.frozen HR1.out 1
  have f2 := Blk.frozen HR1.out 2
  have f3 := Blk.frozen HR1.out 3
  have f4 := Blk.frozen HR1.out 4
  go_upto_region 7 with fail
  go_region_held3 (fun w' => w'.cell? ⟨w.heap.size, 0, none⟩ = some (.int .i64 1) ∧ w'.cell? ⟨w.heap.size, 1, none⟩ = some (str name)) (go_keep)
    (first
      | (go_at_call 34; refine (NumI_any _ _).mono ?_; rintro x w3 ⟨rfl, hb3⟩; have hx : Ext w1 w3 := (by (with_reducible refine Mod.trans ?_ hb3); (repeat (first | with_reducible assumption | with_reducible exact Mod.refl _ _ | with_reducible refine Mod.drew ?_ | with_reducible refine Mod.alloc ?_ _))); have z := HS.out w3 hx; have H13 : Hid (w1.heap.size ≤ w3.heap.size) := hx.size)
      | (go_at_call 36; refine (ListV_any 2 _ 2 _).mono ?_; rintro x w4 ⟨rfl, hb4⟩; have hx : Ext w1 w4 := (by (with_reducible refine Mod.trans ?_ hb4); (repeat (first | with_reducible assumption | with_reducible exact Mod.refl _ _ | with_reducible refine Mod.drew ?_ | with_reducible refine Mod.alloc ?_ _))); have z := HS.out w4 hx; have HOut := hid ((Blk.new _ _ _).ext hb4); have HR4 := hid (HR1.out.ext hx); have HE4 := hid (HE1.out.trans hx); obtain ⟨g0, g1, g2, g3, g4⟩ := cells5 HR4.out; have f0 := Blk.frozen HR4.out 0; have f1 := Blk.frozen HR4.out 1; have f2 := Blk.frozen HR4.out 2; have f3 := Blk.frozen HR4.out 3; have f4 := Blk.frozen HR4.out 4))
  have HTT : Hid (eidT ⟨1, name, 0, 0⟩ = T.mk 4 0 [] false 2 fun i => if i = 0 then numT 1 else textT name) := by unfold Hid eidT twoT; simp only []; rw [if_neg (by decide), if_neg hnn.out]; rfl
  have HFin : Hid (Ext w (set5 w4 (w.heap.size + 1) (eidT ⟨1, name, 0, 0⟩) (some ⟨w3.heap.size, 0, none⟩) 2) ∧ Blk (set5 w4 (w.heap.size + 1) (eidT ⟨1, name, 0, 0⟩) (some ⟨w3.heap.size, 0, none⟩) 2) (w.heap.size + 1) 63 (itemC (eidT ⟨1, name, 0, 0⟩) (some ⟨w3.heap.size, 0, none⟩) 2) ∧
      IsL (set5 w4 (w.heap.size + 1) (eidT ⟨1, name, 0, 0⟩) (some ⟨w3.heap.size, 0, none⟩) 2) (fun b => w.heap.size ≤ b) (eidT ⟨1, name, 0, 0⟩) (some ⟨w3.heap.size, 0, none⟩)) := by
    have hm : Mod [w.heap.size + 1] w4 (set5 w4 (w.heap.size + 1) (eidT ⟨1, name, 0, 0⟩) (some ⟨w3.heap.size, 0, none⟩) 2) := set5_modb
    have hl := HR1.out.lt
    have hs3 := H13.out
    have b1 := HOut.out.mod hm (by simp; omega)
    refine ⟨set5_mod HE4.out (by omega), set5_blk HR4.out, ?_⟩
    rw [HTT.out] at b1 ⊢
    refine fun _ => ⟨w3.heap.size, 0, rfl, b1.lt, (show w.heap.size ≤ w3.heap.size by omega), fun i hi => ?_⟩
    have hi2 : i = 0 ∨ i = 1 := by omega
    rcases hi2 with rfl | rfl
    · exact ⟨none, 0, ⟨b1.cell 0, b1.cell 1, b1.cell 2, b1.cell 3, b1.cell 4⟩, fun h => absurd h (by decide)⟩
    · exact ⟨none, 0, ⟨b1.cell 5, b1.cell 6, b1.cell 7, b1.cell 8, b1.cell 9⟩, fun h => absurd h (by decide)⟩
  obtain ⟨d0, d1, d2, d3, d4⟩ := cells5 HFin.out.2.1
  go_wp2_with fail
  show bodyPost _ _ _ _ _ (set5 w4 (w.heap.size + 1) (eidT ⟨1, name, 0, 0⟩) (some ⟨w3.heap.size, 0, none⟩) 2)
  refine bodyPost_ret (v := .tuple #[itemV (eidT ⟨1, name, 0, 0⟩) (some ⟨w3.heap.size, 0, none⟩) 2, .int .i64 0]) (by simp [results, Try.results28, go_sem, d0, d1, d2, d3, d4]) rfl ?_
  exact ⟨_, rfl, HFin.out.1, HFin.out.2.2⟩
end Go.Proofs.Ytagjhkknefiieaa


namespace Go.Proofs.Ytagjhkknefiieaa
open Go.RowKit
set_option linter.unusedVariables false

def lettersL : List UInt8 := [97, 98, 99, 100, 101, 102, 103, 104, 105, 106, 107, 108, 109, 110, 111, 112, 113, 114, 115, 116, 117, 118, 119, 120, 121, 122, 48, 49, 50, 51, 52, 53, 54, 55, 56, 57, 45, 46]
theorem lett_mem_n : ∀ n : Fin 256, lett (UInt8.ofNat n.val) = lettersL.contains (UInt8.ofNat n.val) := by decide +kernel
theorem lett_mem (c : UInt8) : lett c = lettersL.contains c := by
  have := lett_mem_n ⟨c.toNat, c.toNat_lt⟩
  simpa using this
set_option maxHeartbeats 800000 in
theorem letter_any (c : UInt8) (w : World) : Calls Try.prog 31 #[.int .u8 (c.toNat : Int)] w (Ret (.bool (lett c)) w) := by
  rw [lett_mem]
  obtain ⟨B, hB⟩ : ∃ B, lettersL.contains c = B := ⟨_, rfl⟩
  rw [hB]
  have HB : Hid ((lettersL.drop 0).contains c = B) := hB
  clear hB
  go_enter Try.func31, Try.ntmps31
  go_wp2_with fail
  go_loop [3] (fun i => ∃ j : Nat, j ≤ 38 ∧ i = .int .i64 j ∧ Hid ((lettersL.drop j).contains c = B)) (fun i => 38 - (intOf i).toNat)
  case atStart => exact ⟨0, Nat.zero_le _, rfl, HB⟩
  case round =>
    obtain ⟨j, hj, rfl, HP⟩ := hrel
    by_cases hlt : j < 38
    · have hlt2 : j < lettersL.length := hlt
      have hdr : lettersL.drop j = lettersL[j] :: lettersL.drop (j + 1) := List.drop_eq_getElem_cons hlt2
      rw [hdr] at HP
      by_cases hx : lettersL[j] = c
      · have q : ((((({ data := #[97, 98, 99, 100, 101, 102, 103, 104, 105, 106, 107, 108, 109, 110, 111, 112, 113, 114, 115, 116, 117, 118, 119, 120, 121, 122, 48, 49, 50, 51, 52, 53, 54, 55, 56, 57, 45, 46] } : ByteArray)[j]'hlt)).toNat : Int) == (c.toNat : Int)) = true := by show (((lettersL[j]).toNat : Int) == _) = true; simp [hx]
        have HT : Hid (true = B) := by have := HP.out; rw [hx, List.contains_cons] at this; rw [← this]; unfold Hid; simp
        clear HP hdr hx
        go_wp2_with fail
        go_ret
        exact Ret.mk (by rw [← HT.out]; rfl) (Mod.refl _ _)
      · have hn : ¬ (lettersL[j]).toNat = c.toNat := fun h => hx (UInt8.toNat_inj.1 h)
        have q : ((((({ data := #[97, 98, 99, 100, 101, 102, 103, 104, 105, 106, 107, 108, 109, 110, 111, 112, 113, 114, 115, 116, 117, 118, 119, 120, 121, 122, 48, 49, 50, 51, 52, 53, 54, 55, 56, 57, 45, 46] } : ByteArray)[j]'hlt)).toNat : Int) == (c.toNat : Int)) = false := by show (((lettersL[j]).toNat : Int) == _) = false; simp; omega
        have HT : Hid ((lettersL.drop (j + 1)).contains c = B) := by have := HP.out; rw [List.contains_cons] at this; have h2 : (c == lettersL[j]) = false := (by simpa using Ne.symm hx); rw [h2, Bool.false_or] at this; exact this
        clear HP hdr hx hn
        go_wp2_with fail
        go_round
        case rel => exact ⟨j + 1, by omega, by go_num, HT⟩
        case measure => simp [intOf]; omega
    · obtain rfl : j = 38 := by omega
      have HT : Hid (false = B) := HP
      clear HP
      go_wp2_with fail
      go_ret
      exact Ret.mk (by rw [← HT.out]; rfl) (Mod.refl _ _)

set_option maxHeartbeats 800000 in
theorem slash_any (s : List UInt8) (hs : Hid (s.length < 4611686018427387904)) (w : World) : Calls Try.prog 30 #[str s] w (Ret (.int .i64 (slash s : Nat)) w) := by
  obtain ⟨B, hB⟩ : ∃ B, slash s = B := ⟨_, rfl⟩
  rw [hB]
  have HB : Hid (slashA (s.drop 2) 2 = B) := hB
  clear hB
  go_enter Try.func30, Try.ntmps30
  go_wp2_with fail
  have hs2 := hs.out
  by_cases hl : s.length < 2
  · have HT : Hid (0 = B) := by have := HB.out; rw [List.drop_eq_nil_of_le (by omega)] at this; exact this
    go_loop [3] (fun i => i = .int .i64 2) (fun i => 0)
    case atStart => rfl
    case round =>
      subst hrel
      go_wp2_with fail
      go_ret
      exact Ret.mk (by rw [← HT.out]; rfl) (Mod.refl _ _)
  go_loop [3] (fun i => ∃ j : Nat, 2 ≤ j ∧ j ≤ s.length ∧ i = .int .i64 j ∧ Hid (slashA (s.drop j) j = B)) (fun i => s.length - (intOf i).toNat)
  case atStart => exact ⟨2, Nat.le_refl _, by omega, rfl, HB⟩
  case round =>
    obtain ⟨j, hj2, hj, rfl, HP⟩ := hrel
    by_cases hlt : j < s.length
    · have hdr : s.drop j = s[j] :: s.drop (j + 1) := List.drop_eq_getElem_cons hlt
      rw [hdr, slashA] at HP
      clear hdr
      by_cases hx : (s[j]).toNat = 47
      · have q : ((((⟨s.toArray⟩ : ByteArray)[j]'hlt).toNat : Int) == 47) = true := by show (((s[j]).toNat : Int) == 47) = true; simp; omega
        have q2 : ((((⟨s.toArray⟩ : ByteArray)[j]'hlt).toNat : Int) = 47) = True := by show (((s[j]).toNat : Int) = 47) = True; simp; omega
        have HT : Hid (j = B) := by have := HP.out; rw [if_pos hx] at this; exact this
        clear HP hx
        go_wp2_with fail
        go_ret
        exact Ret.mk (by rw [← HT.out]; rfl) (Mod.refl _ _)
      · have q : ((((⟨s.toArray⟩ : ByteArray)[j]'hlt).toNat : Int) == 47) = false := by show (((s[j]).toNat : Int) == 47) = false; simp; omega
        have q2 : ((((⟨s.toArray⟩ : ByteArray)[j]'hlt).toNat : Int) = 47) = False := by show (((s[j]).toNat : Int) = 47) = False; simp; omega
        have HT : Hid (slashA (s.drop (j + 1)) (j + 1) = B) := by have := HP.out; rw [if_neg hx] at this; exact this
        clear HP hx
        go_wp2_with fail
        go_round
        case rel => exact ⟨j + 1, by omega, by omega, by go_num, HT⟩
        case measure => simp [intOf]; omega
    · obtain rfl : j = s.length := by omega
      have HT : Hid (0 = B) := by have := HP.out; rw [List.drop_length] at this; exact this
      clear HP
      go_wp2_with fail
      go_ret
      exact Ret.mk (by rw [← HT.out]; rfl) (Mod.refl _ _)
end Go.Proofs.Ytagjhkknefiieaa


namespace Go.Proofs.Ytagjhkknefiieaa
open Go.RowKit
set_option linter.unusedVariables false

def rightCases (node svc : Nat) (name : List UInt8) : Bool := decide (name = []) && decide (node ≤ 4294967295) && decide (svc ≤ 4294967295)
set_option maxRecDepth 20000 in
set_option maxHeartbeats 800000 in
theorem r10_two (name : List UInt8) (node svc : Nat) (w : World) : Calls Try.prog 10 #[EV.v ⟨2, name, node, svc⟩] w (Ret (.bool (rightCases node svc name)) w) := by
  unfold rightCases
  by_cases hn : name = []
  · subst hn
    by_cases ha : node ≤ 4294967295
    · have t1 : decide ((node : Int) ≤ 4294967295) = true := by simp; omega
      by_cases hb : svc ≤ 4294967295
      · have t2 : decide ((svc : Int) ≤ 4294967295) = true := by simp; omega
        have hr : (decide (([] : List UInt8) = []) && decide (node ≤ 4294967295) && decide (svc ≤ 4294967295)) = true := by simp [ha, hb]
        rw [hr]
        clear hr ha hb
        go_enter Try.func10, Try.ntmps10
        go_wp2_with fail
        go_ret
        exact Ret.mk rfl ((Mod.refl _ _).alloc _)
      · have t2 : decide ((svc : Int) ≤ 4294967295) = false := by simp; omega
        have hr : (decide (([] : List UInt8) = []) && decide (node ≤ 4294967295) && decide (svc ≤ 4294967295)) = false := by simp [hb]
        rw [hr]
        clear hr ha hb
        go_enter Try.func10, Try.ntmps10
        go_wp2_with fail
        go_ret
        exact Ret.mk rfl ((Mod.refl _ _).alloc _)
    · have t1 : decide ((node : Int) ≤ 4294967295) = false := by simp; omega
      have hr : (decide (([] : List UInt8) = []) && decide (node ≤ 4294967295) && decide (svc ≤ 4294967295)) = false := by simp [ha]
      rw [hr]
      clear hr ha
      go_enter Try.func10, Try.ntmps10
      go_wp2_with fail
      go_ret
      exact Ret.mk rfl ((Mod.refl _ _).alloc _)
  · have n1 : (name == []) = false := by simpa using hn
    have n2 : (name = []) = False := by simpa using hn
    have n3 : name.isEmpty = false := by simpa using hn
    have hr : (decide (name = []) && decide (node ≤ 4294967295) && decide (svc ≤ 4294967295)) = false := by simp [hn]
    rw [hr]
    clear hr hn
    go_enter Try.func10, Try.ntmps10
    go_wp2_with fail
    go_ret
    exact Ret.mk rfl ((Mod.refl _ _).alloc _)
set_option maxRecDepth 20000 in
theorem r10_none (w : World) : Calls Try.prog 10 #[EV.v ⟨1, [110, 111, 110, 101], 0, 0⟩] w (Ret (.bool true) w) := by
  go_enter Try.func10, Try.ntmps10
  go_wp2_with fail
  go_ret
  exact Ret.mk rfl ((Mod.refl _ _).alloc _)
set_option maxRecDepth 20000 in
theorem r10_sch (sch : Int) (name : List UInt8) (node svc : Nat) (h2 : sch ≠ 2) (h1 : sch ≠ 1) (w : World) : Calls Try.prog 10 #[EV.v ⟨sch, name, node, svc⟩] w (Ret (.bool false) w) := by
  have s1 : (sch = 1) = False := by simp [h1]
  have s2 : (sch == 1) = false := by simp [h1]
  have s3 : (sch = 2) = False := by simp [h2]
  have s4 : (sch == 2) = false := by simp [h2]
  have s5 : (sch != 1) = true := by simp [h1]
  clear h1 h2
  go_enter Try.func10, Try.ntmps10
  go_wp2_with fail
  go_ret
  exact Ret.mk rfl ((Mod.refl _ _).alloc _)
set_option maxRecDepth 20000 in
theorem r10_node (name : List UInt8) (node svc : Nat) (h : node ≠ 0) (w : World) : Calls Try.prog 10 #[EV.v ⟨1, name, node, svc⟩] w (Ret (.bool false) w) := by
  have z1 : ((node : Int) == 0) = false := by simp; omega
  have z2 : ((node : Int) = 0) = False := by simp; omega
  have z3 : ((node : Int) != 0) = true := by simp; omega
  clear h
  go_enter Try.func10, Try.ntmps10
  go_wp2_with fail
  go_ret
  exact Ret.mk rfl ((Mod.refl _ _).alloc _)
set_option maxRecDepth 20000 in
theorem r10_svc (name : List UInt8) (svc : Nat) (h : svc ≠ 0) (w : World) : Calls Try.prog 10 #[EV.v ⟨1, name, 0, svc⟩] w (Ret (.bool false) w) := by
  have z1 : ((svc : Int) == 0) = false := by simp; omega
  have z2 : ((svc : Int) = 0) = False := by simp; omega
  have z3 : ((svc : Int) != 0) = true := by simp; omega
  clear h
  go_enter Try.func10, Try.ntmps10
  go_wp2_with fail
  go_ret
  exact Ret.mk rfl ((Mod.refl _ _).alloc _)
set_option maxRecDepth 20000 in
theorem r10_long (name : List UInt8) (h : 60 < name.length) (w : World) : Calls Try.prog 10 #[EV.v ⟨1, name, 0, 0⟩] w (Ret (.bool false) w) := by
  have t1 : decide (60 < (name.length : Int)) = true := by simp; omega
  clear h
  go_enter Try.func10, Try.ntmps10
  go_wp2_with fail
  go_ret
  exact Ret.mk rfl ((Mod.refl _ _).alloc _)
set_option maxRecDepth 20000 in
set_option maxHeartbeats 1600000 in
theorem r10_name (name : List UInt8) (h60 : name.length ≤ 60) (hn : name ≠ [110, 111, 110, 101]) (w : World) : Calls Try.prog 10 #[EV.v ⟨1, name, 0, 0⟩] w (Ret (.bool (if slash name < 3 ∨ name.take 2 ≠ [47, 47] then false else goodA (slash name) (name.drop 2) 2)) w) := by
  have t1 : decide (60 < (name.length : Int)) = false := by simp; omega
  have n1 : (name == [110, 111, 110, 101]) = false := by simpa using hn
  have n2 : (name = [110, 111, 110, 101]) = False := by simpa using hn
  have K := hid (fun W => slash_any name (by unfold Hid; omega) W)
  have HE := hid ((Mod.refl [] w).alloc (.cells (EV.c ⟨1, name, 0, 0⟩) 24))
  have HB := hid (Blk.new w 24 (EV.c ⟨1, name, 0, 0⟩))
  have hsl : slash name = 0 ∨ 2 ≤ slash name := slashA_ge _ _
  by_cases h3 : slash name < 3
  · have t2 : decide ((slash name : Int) < 3) = true := by simp; omega
    rw [if_pos (Or.inl h3)]
    clear hn h60 h3 hsl
    generalize slash name = k at *
    go_enter Try.func10, Try.ntmps10
    go_wp2_with fail
    refine (K.out _).mono ?_
    rintro e w1 ⟨rfl, hb1⟩
    have HE1 := hid (HE.out.trans hb1)
    clear hb1
    go_wp2_with fail
    go_ret
    exact Ret.mk rfl HE1.out
  have t2 : decide ((slash name : Int) < 3) = false := by simp; omega
  have hl2 : 2 ≤ name.length := by
    rcases Nat.lt_or_ge name.length 2 with hl | hl
    · exfalso
      apply h3
      unfold slash
      rw [List.drop_eq_nil_of_le (by omega)]
      decide
    · exact hl
  have hx : ((⟨name.toArray⟩ : ByteArray).extract 0 2) = ⟨(name.take 2).toArray⟩ := by rw [ext0, List.drop_zero]
  by_cases ht : name.take 2 = [47, 47]
  case neg =>
    rw [if_pos (Or.inr ht)]
    have m1 : (name.take 2 == [47, 47]) = false := by simpa using ht
    have m2 : (name.take 2 = [47, 47]) = False := by simpa using ht
    clear hn h3 hsl ht
    generalize slash name = k at *
    generalize name.take 2 = p at *
    go_enter Try.func10, Try.ntmps10
    go_wp2_with fail
    refine (K.out _).mono ?_
    rintro e w1 ⟨rfl, hb1⟩
    have HE1 := hid (HE.out.trans hb1)
    have c1 : w1.cell? ⟨w.heap.size, 1, none⟩ = some (str name) := (HB.out.ext hb1).cell 1
    clear hb1
    go_wp2_with fail
    go_ret
    exact Ret.mk rfl HE1.out
  rw [if_neg (by intro h; rcases h with h | h; exact h3 h; exact h ht)]
  rw [ht] at hx
  obtain ⟨B, hB⟩ : ∃ B, goodA (slash name) (name.drop 2) 2 = B := ⟨_, rfl⟩
  rw [hB]
  have HG := hid hB
  clear hB hn h3 hsl ht
  generalize slash name = k at *
  go_enter Try.func10, Try.ntmps10
  go_wp2_with fail
  refine (K.out _).mono ?_
  rintro e w1 ⟨rfl, hb1⟩
  have HE1 := hid (HE.out.trans hb1)
  have HB1 := hid (HB.out.ext hb1)
  have c1 : w1.cell? ⟨w.heap.size, 1, none⟩ = some (str name) := HB1.out.cell 1
  clear hb1
  go_wp2_with fail
  have HW1 : Hid (Ext w w1 ∧ w1.cell? ⟨w.heap.size, 1, none⟩ = some (str name) ∧ w.heap.size < w1.heap.size) := ⟨HE1.out, c1, HB1.out.lt⟩
  clear HE HB HE1 HB1 c1
  go_loopw [4] (fun i wr => ∃ j : Nat, 2 ≤ j ∧ j ≤ name.length ∧ i = .int .i64 j ∧ Hid (goodA k (name.drop j) j = B) ∧ Hid (Ext w wr ∧ wr.cell? ⟨w.heap.size, 1, none⟩ = some (str name) ∧ w.heap.size < wr.heap.size)) (fun i _ => name.length - (intOf i).toNat)
  case atStart => exact ⟨2, Nat.le_refl _, hl2, rfl, HG, HW1⟩
  case round =>
    obtain ⟨j, hj2, hj, rfl, HP, HW⟩ := hrel
    have c1 := HW.out.2.1
    by_cases hlt : j < name.length
    · have hdr : name.drop j = name[j] :: name.drop (j + 1) := List.drop_eq_getElem_cons hlt
      rw [hdr, goodA] at HP
      clear hdr
      by_cases hjk : j < k
      · have u1 : decide (j < k) = true := by simp; omega
        have u2 : decide (k < j) = false := by simp; omega
        have KL := hid (fun W => letter_any (name[j]) W)
        by_cases hl : lett name[j] = true
        · have HN : Hid (goodA k (name.drop (j + 1)) (j + 1) = B) := hid (by have := HP.out; simpa [hjk, hl, show ¬ k < j by omega] using this)
          rw [hl] at KL
          clear HP hl hjk
          go_wp2_with fail
          refine (KL.out _).mono ?_
          rintro e w2 ⟨rfl, hb2⟩
          have HW2 : Hid (Ext w w2 ∧ w2.cell? ⟨w.heap.size, 1, none⟩ = some (str name) ∧ w.heap.size < w2.heap.size) := ⟨HW.out.1.trans hb2, (hb2.cell HW.out.2.2 (by simp)).trans HW.out.2.1, Nat.lt_of_lt_of_le HW.out.2.2 hb2.size⟩
          clear hb2 c1
          go_wp2_with fail
          go_roundw
          case rel => exact ⟨j + 1, by omega, by omega, by go_num, HN, HW2⟩
          case measure => simp [intOf]; omega
        · have hl2 : lett name[j] = false := by simpa using hl
          have HN : Hid (false = B) := hid (by have := HP.out; simpa [hjk, hl2] using this)
          rw [hl2] at KL
          clear HP hl hl2 hjk
          go_wp2_with fail
          refine (KL.out _).mono ?_
          rintro e w2 ⟨rfl, hb2⟩
          go_wp2_with fail
          go_ret
          exact Ret.mk (by rw [← HN.out]; rfl) (HW.out.1.trans hb2)
      · have u1 : decide (j < k) = false := by simp; omega
        by_cases hkj : k < j
        · have u2 : decide (k < j) = true := by simp; omega
          have hx8 := (name[j]).toNat_lt
          by_cases hp : prin name[j] = true
          · have HN : Hid (goodA k (name.drop (j + 1)) (j + 1) = B) := hid (by have := HP.out; simpa [hjk, hkj, hp] using this)
            have hp2 : 33 ≤ (name[j]).toNat ∧ (name[j]).toNat ≤ 126 := by simpa [prin] using hp
            have v1 : decide ((((⟨name.toArray⟩ : ByteArray)[j]'hlt).toNat : Int) < 33) = false := by show decide (((name[j]).toNat : Int) < 33) = false; simp; omega
            have v2 : decide (126 < (((⟨name.toArray⟩ : ByteArray)[j]'hlt).toNat : Int)) = false := by show decide (126 < ((name[j]).toNat : Int)) = false; simp; omega
            clear HP hp hp2 hjk hkj hx8
            go_wp2_with fail
            go_roundw
            case rel => exact ⟨j + 1, by omega, by omega, by go_num, HN, HW⟩
            case measure => simp [intOf]; omega
          · have hp1 : prin name[j] = false := by simpa using hp
            have HN : Hid (false = B) := hid (by have := HP.out; simpa [hjk, hkj, hp1] using this)
            have hp2 : ¬ (33 ≤ (name[j]).toNat ∧ (name[j]).toNat ≤ 126) := by simpa [prin] using hp
            by_cases h33 : (name[j]).toNat < 33
            · have v1 : decide ((((⟨name.toArray⟩ : ByteArray)[j]'hlt).toNat : Int) < 33) = true := by show decide (((name[j]).toNat : Int) < 33) = true; simp; omega
              clear HP hp hp1 hp2 hjk hkj hx8 h33
              go_wp2_with fail
              go_ret
              exact Ret.mk (by rw [← HN.out]; rfl) HW.out.1
            · have v1 : decide ((((⟨name.toArray⟩ : ByteArray)[j]'hlt).toNat : Int) < 33) = false := by show decide (((name[j]).toNat : Int) < 33) = false; simp; omega
              have v2 : decide (126 < (((⟨name.toArray⟩ : ByteArray)[j]'hlt).toNat : Int)) = true := by show decide (126 < ((name[j]).toNat : Int)) = true; simp; omega
              clear HP hp hp1 hp2 hjk hkj hx8 h33
              go_wp2_with fail
              go_ret
              exact Ret.mk (by rw [← HN.out]; rfl) HW.out.1
        · have u2 : decide (k < j) = false := by simp; omega
          have HN : Hid (goodA k (name.drop (j + 1)) (j + 1) = B) := hid (by have := HP.out; simpa [hjk, hkj] using this)
          clear HP hjk hkj
          go_wp2_with fail
          go_roundw
          case rel => exact ⟨j + 1, by omega, by omega, by go_num, HN, HW⟩
          case measure => simp [intOf]; omega
    · obtain rfl : j = name.length := by omega
      have HN : Hid (true = B) := by have := HP.out; rw [List.drop_length] at this; exact this
      clear HP
      go_wp2_with fail
      go_ret
      exact Ret.mk (by rw [← HN.out]; rfl) HW.out.1
theorem r10_any (e : EV) (w : World) : Calls Try.prog 10 #[e.v] w (Ret (.bool e.ok) w) := by
  rw [← EV.ok_eq]
  obtain ⟨sch, name, node, svc⟩ := e
  unfold EV.okR
  simp only []
  by_cases h2 : sch = 2
  · subst h2; rw [if_pos rfl]; exact r10_two name node svc w
  rw [if_neg h2]
  by_cases h1 : sch = 1
  case neg => rw [if_pos (Or.inl h1)]; exact r10_sch sch name node svc h2 h1 w
  subst h1
  by_cases hn : node = 0
  case neg => rw [if_pos (by omega)]; exact r10_node name node svc hn w
  subst hn
  by_cases hv : svc = 0
  case neg => rw [if_pos (by omega)]; exact r10_svc name svc hv w
  subst hv
  by_cases hl : 60 < name.length
  · rw [if_pos (by omega)]; exact r10_long name hl w
  rw [if_neg (by omega)]
  by_cases h0 : name = noneL
  · rw [if_pos h0]; subst h0; exact r10_none w
  rw [if_neg h0]
  exact r10_name name (by omega) h0 w
end Go.Proofs.Ytagjhkknefiieaa


namespace Go.Proofs.Ytagjhkknefiieaa
open Go.ChangeShapes Go.WideShapes Go.ChangeAt Go.RowKit Go.Deep
set_option linter.unusedVariables false

section
variable {H : Type} {enc : TypeId × Value → H} {w : World} {base b0 : Nat} {spare : Nat → Bool} {held : Bool} {r : Reach}
set_option maxRecDepth 100000 in
theorem trod_eid {fuel : Nat} {cs : List Value} {x : DataW H × List MemPlace} (h : DataW.trod enc Try.prog w base spare held fuel 24 cs = some x) :
    ∃ e : EV, cs = [.int .i64 e.sch, str e.name, .int .u64 (e.node : Int), .int .u64 (e.svc : Int)] ∧ e.node < 18446744073709551616 ∧ e.svc < 18446744073709551616 ∧ (-9223372036854775808 ≤ e.sch ∧ e.sch ≤ 9223372036854775807) := by
  obtain ⟨ys, n', hn', hy, hlen, hyl, hfl⟩ := DataW.trod_struct Try.underlying24 h
  match cs, hlen with
  | [c0, c1, c2, c3], _ =>
    have h0 := field_at (by kernel_rfl) hfl (i := 0) rfl rfl
    have h1 := field_at (by kernel_rfl) hfl (i := 1) rfl rfl
    have h2 := field_at (by kernel_rfl) hfl (i := 2) rfl rfl
    have h3 := field_at (by kernel_rfl) hfl (i := 3) rfl rfl
    clear hfl h
    match ys, hyl with
    | [y0, y1, y2, y3], _ =>
      obtain ⟨sch, e0, _, w0⟩ := DataW.trod_int (k := .i64) (by kernel_rfl) h0
      obtain ⟨s, e1, _, _⟩ := DataW.trod_string (by kernel_rfl) h1
      obtain ⟨a, e2, _, w2⟩ := DataW.trod_int (k := .u64) (by kernel_rfl) h2
      obtain ⟨b, e3, _, w3⟩ := DataW.trod_int (k := .u64) (by kernel_rfl) h3
      have q0 : c0 = .int .i64 sch := by have : [c0] = [Value.int .i64 sch] := e0; simpa using this
      have q1 : c1 = .string s := by have : [c1] = [Value.string s] := e1; simpa using this
      have q2 : c2 = .int .u64 a := by have : [c2] = [Value.int .u64 a] := e2; simpa using this
      have q3 : c3 = .int .u64 b := by have : [c3] = [Value.int .u64 b] := e3; simpa using this
      subst q0 q1 q2 q3
      have b0 : -9223372036854775808 ≤ sch ∧ sch ≤ 9223372036854775807 := by simpa [Lit.wf, IntKind.min, IntKind.max, IntKind.signed, IntKind.bits] using w0
      have b2 : 0 ≤ a ∧ a ≤ 18446744073709551615 := by simpa [Lit.wf, IntKind.min, IntKind.max, IntKind.signed, IntKind.bits] using w2
      have b3 : 0 ≤ b ∧ b ≤ 18446744073709551615 := by simpa [Lit.wf, IntKind.min, IntKind.max, IntKind.signed, IntKind.bits] using w3
      obtain ⟨a, rfl⟩ := Int.eq_ofNat_of_zero_le b2.1
      obtain ⟨b, rfl⟩ := Int.eq_ofNat_of_zero_le b3.1
      exact ⟨⟨sch, s.data.toList, a, b⟩, rfl, by show a < _; omega, by show b < _; omega, b0⟩

set_option maxRecDepth 100000 in
theorem open_eid {v : Value} {d : DataW H} {p : List MemPlace} (hval : Value.okWide Try.prog w r b0 24 v) (h : DataW.Trod enc Try.prog w base spare held 24 v d p) :
    ∃ e : EV, v = e.v ∧ e.node < 18446744073709551616 ∧ e.svc < 18446744073709551616 ∧ (-9223372036854775808 ≤ e.sch ∧ e.sch ≤ 9223372036854775807) := by
  obtain ⟨cs, rfl, hsz⟩ := okWide_struct Try.underlying24 hval
  obtain ⟨fuel, hf⟩ := h
  have hcs : (Value.agg cs).cells.toList = cs.toList := rfl
  rw [hcs] at hf
  obtain ⟨e, he, h1, h2, h3⟩ := trod_eid hf
  refine ⟨e, ?_, h1, h2, h3⟩
  have : cs = (cs.toList).toArray := by simp
  rw [this, he]
theorem okWide_arr {P : Program} {t e : TypeId} {n : Nat} {v : Value} (ht : P.underlying t = some (.array n e)) (h : Value.okWide P w r base t v) : ∃ cs, v = .agg cs ∧ cs.size = P.cellsOf t := by
  simp only [Value.okWide, ht] at h
  obtain ⟨cs, h1, h2, _⟩ := h
  exact ⟨cs, h1, h2⟩
theorem two_ints {P : Program} {t e : TypeId} {k : IntKind} {fuel : Nat} {c0 c1 : Value} {x : DataW H × List MemPlace} (ht : P.underlying t = some (.array 2 e)) (he : P.underlying e = some (.int k)) (hC : P.cellsOf e = 1)
    (h : DataW.trod enc P w base spare held fuel t [c0, c1] = some x) : ∃ a b, c0 = .int k a ∧ c1 = .int k b ∧ (Lit.int k a).wf = true ∧ (Lit.int k b).wf = true := by
  obtain ⟨xs, m, _, _, _, hlen, hg⟩ := DataW.trod_array ht h
  have h0 := hg 0 (by omega)
  have h1 := hg 1 (by omega)
  rw [hC] at h0 h1
  match xs, hlen with
  | [y0, y1], _ =>
    obtain ⟨a, ha, _, hwa⟩ := DataW.trod_int (k := k) he h0
    obtain ⟨b, hb, _, hwb⟩ := DataW.trod_int (k := k) he h1
    exact ⟨a, b, by simpa using ha, by simpa using hb, hwa, hwb⟩
set_option maxRecDepth 100000 in
theorem open_two {v : Value} {d : DataW H} {p : List MemPlace} (hval : Value.okWide Try.prog w r b0 25 v) (h : DataW.Trod enc Try.prog w base spare held 25 v d p) :
    ∃ n0 n1 : Int, v = .agg #[.int .i64 n0, .int .i64 n1] := by
  obtain ⟨cs, rfl, hsz⟩ := okWide_arr Try.underlying25 hval
  have hC : Try.prog.cellsOf 25 = 2 := by kernel_rfl
  have hC1 : Try.prog.cellsOf 3 = 1 := by kernel_rfl
  rw [hC] at hsz
  obtain ⟨fuel, hf⟩ := h
  obtain ⟨l⟩ := cs
  match l, hsz with
  | [c0, c1], _ =>
    obtain ⟨a, b, rfl, rfl, wa, wb⟩ := two_ints Try.underlying25 Try.underlying3 hC1 (c0 := c0) (c1 := c1) (by simpa [Value.cells] using hf)
    exact ⟨a, b, rfl⟩
set_option maxRecDepth 100000 in
theorem open_two8 {v : Value} {d : DataW H} {p : List MemPlace} (hval : Value.okWide Try.prog w r b0 50 v) (h : DataW.Trod enc Try.prog w base spare held 50 v d p) :
    ∃ n0 n1 : Nat, v = .agg #[.int .u8 (n0 : Int), .int .u8 (n1 : Int)] ∧ n0 ≤ 255 ∧ n1 ≤ 255 := by
  obtain ⟨cs, rfl, hsz⟩ := okWide_arr Try.underlying50 hval
  have hC : Try.prog.cellsOf 50 = 2 := by kernel_rfl
  have hC1 : Try.prog.cellsOf 5 = 1 := by kernel_rfl
  rw [hC] at hsz
  obtain ⟨fuel, hf⟩ := h
  obtain ⟨l⟩ := cs
  match l, hsz with
  | [c0, c1], _ =>
    obtain ⟨a, b, rfl, rfl, wa, wb⟩ := two_ints Try.underlying50 Try.underlying5 hC1 (c0 := c0) (c1 := c1) (by simpa [Value.cells] using hf)
    have ba : 0 ≤ a ∧ a ≤ 255 := by simpa [Lit.wf, IntKind.min, IntKind.max, IntKind.signed, IntKind.bits] using wa
    have bb : 0 ≤ b ∧ b ≤ 255 := by simpa [Lit.wf, IntKind.min, IntKind.max, IntKind.signed, IntKind.bits] using wb
    obtain ⟨n, rfl⟩ := Int.eq_ofNat_of_zero_le ba.1
    obtain ⟨m, rfl⟩ := Int.eq_ofNat_of_zero_le bb.1
    exact ⟨n, m, rfl, by omega, by omega⟩
end
end Go.Proofs.Ytagjhkknefiieaa


namespace Go.Proofs.Ytagjhkknefiieaa
open Go.RowKit
set_option linter.unusedVariables false

theorem EV.ok_cases {e : EV} (h : e.ok = true) : (e = ⟨1, [110, 111, 110, 101], 0, 0⟩) ∨ (∃ name, e = ⟨1, name, 0, 0⟩ ∧ name ≠ [110, 111, 110, 101] ∧ name.length ≤ 60) ∨ (∃ node svc, e = ⟨2, [], node, svc⟩ ∧ node ≤ 4294967295 ∧ svc ≤ 4294967295) := by
  obtain ⟨sch, name, node, svc⟩ := e
  unfold EV.ok at h
  simp only [] at h
  by_cases h1 : sch = 1
  · rw [if_pos h1] at h
    simp only [Bool.and_eq_true, decide_eq_true_eq] at h
    obtain ⟨⟨rfl, rfl⟩, hn⟩ := h
    subst h1
    by_cases h0 : name = [110, 111, 110, 101]
    · subst h0; exact .inl rfl
    · refine .inr (.inl ⟨name, rfl, h0, ?_⟩)
      have h00 : ¬ name = noneL := h0
      simp only [namedL, h00, decide_false, Bool.false_or, Bool.and_eq_true, decide_eq_true_eq] at hn
      by_cases hl : name.length ≤ 60
      · exact hl
      · exfalso
        apply hn.1
        unfold nodeN
        rw [if_neg (fun h => hl h.2)]
  · rw [if_neg h1] at h
    by_cases h2 : sch = 2
    · rw [if_pos h2] at h
      simp only [Bool.and_eq_true, decide_eq_true_eq] at h
      obtain ⟨⟨rfl, ha⟩, hb⟩ := h
      subst h2
      exact .inr (.inr ⟨node, svc, rfl, ha, hb⟩)
    · rw [if_neg h2] at h
      cases h
theorem eidItem_ok (e : EV) (ho : e.ok = true) (w : World) : Calls Try.prog 28 #[e.v] w (fun r w' => ∃ A, r = .returned (.tuple #[itemV (eidT e) A 2, .int .i64 0]) ∧ Ext w w' ∧ IsL w' (fun b => w.heap.size ≤ b) (eidT e) A) := by
  rcases EV.ok_cases ho with rfl | ⟨name, rfl, hn, hl⟩ | ⟨node, svc, rfl, ha, hb⟩
  · exact eidItem_none w
  · exact eidItem_dtn name (by unfold Hid; omega) hn ho w
  · have e1 : eidT ⟨2, [], node, svc⟩ = ipnT node svc := rfl
    rw [e1]
    exact eidItem_ipn node svc ha hb w
theorem text_ok {s : List UInt8} (h : s.length < 4611686018427387904) : (textT s).ok := by unfold textT T.ok; exact ⟨by omega, by omega, h, by omega, fun i hi => by omega⟩
theorem eidT_ok {e : EV} (ho : e.ok = true) : (eidT e).ok ∧ (∀ d, 3 ≤ d → (eidT e).right d = true) ∧ (eidT e).plain = true ∧ (eidT e).size ≤ 100000 := by
  rcases EV.ok_cases ho with rfl | ⟨name, rfl, hn, hl⟩ | ⟨node, svc, rfl, ha, hb⟩
  · refine ⟨?_, fun d hd => ?_, by decide, by decide⟩
    · unfold eidT T.ok
      exact ⟨by omega, by omega, by simp, by omega, fun i hi => by dsimp only; split; exact num_ok (by decide); exact num_ok (by decide)⟩
    · have h1 : ¬ d < 1 := by omega
      have h2 : ¬ d - 1 < 1 := by omega
      simp [eidT, twoT, noneL, T.right, h1, h2, T.node, T.all, numT]
  · have h0 : ¬ name = noneL := hn
    have e1 : twoT ⟨1, name, 0, 0⟩ = textT name := by simp [twoT, h0]
    refine ⟨?_, fun d hd => ?_, ?_, ?_⟩
    · unfold eidT T.ok
      exact ⟨by omega, by omega, by simp, by omega, fun i hi => by dsimp only; split; exact num_ok (by decide); rw [e1]; exact text_ok (by omega)⟩
    · have h1 : ¬ d < 1 := by omega
      have h2 : ¬ d - 1 < 1 := by omega
      simp [eidT, e1, T.right, h1, h2, T.node, T.all, numT, textT]
    · simp [eidT, e1, T.plain, T.node, T.all, numT, textT]
    · simp [eidT, e1, T.size, T.sum, numT, textT]; omega
  · refine ⟨?_, fun d hd => ?_, ?_, ?_⟩
    · unfold eidT T.ok
      refine ⟨by omega, by omega, by simp, by omega, fun i hi => ?_⟩
      dsimp only
      split
      · exact num_ok (by decide)
      · show (T.mk 4 0 [] false 2 (fun j => if j = 0 then numT node else numT svc)).ok
        unfold T.ok
        exact ⟨by omega, by omega, by simp, by omega, fun i hi => by dsimp only; split; exact num_ok (by omega); exact num_ok (by omega)⟩
    · have h1 : ¬ d < 1 := by omega
      have h2 : ¬ d - 1 < 1 := by omega
      have h3 : ¬ d - 1 - 1 < 1 := by omega
      simp [eidT, twoT, T.right, h1, h2, h3, T.node, T.all, numT]
    · simp [eidT, twoT, T.plain, T.node, T.all, numT]
    · simp [eidT, twoT, T.size, T.sum, numT]

theorem two_IsL {W : World} {Q : Nat → Prop} {g : Nat} (t0 t1 : T) (A0 A1 : Option Addr) (c0 c1 : Nat) (q : Q g)
    (h : Blk W g 63 #[.int .i64 t0.kind, .int .u64 (t0.n : Int), str t0.s, .slice A0 t0.k c0, .bool t0.op, .int .i64 t1.kind, .int .u64 (t1.n : Int), str t1.s, .slice A1 t1.k c1, .bool t1.op]) (h0 : IsL W Q t0 A0) (h1 : IsL W Q t1 A1) : IsL W Q (T.mk 4 0 [] false 2 fun i => if i = 0 then t0 else t1) (some ⟨g, 0, none⟩) := fun _ => ⟨g, 0, rfl, h.lt, q, fun i hi => by
  have hi2 : i = 0 ∨ i = 1 := by omega
  rcases hi2 with rfl | rfl
  · exact ⟨A0, c0, ⟨h.cell 0, h.cell 1, h.cell 2, h.cell 3, h.cell 4⟩, h0⟩
  · exact ⟨A1, c1, ⟨h.cell 5, h.cell 6, h.cell 7, h.cell 8, h.cell 9⟩, h1⟩⟩
theorem leaf_IsL {W : World} {Q : Nat → Prop} {t : T} {A : Option Addr} (h : t.k = 0) (hn : t ≠ T.nil) : IsL W Q t A := by
  cases t with
  | nil => exact absurd rfl hn
  | mk kind n s op k ch => intro h0; have : k = 0 := h; omega

set_option maxRecDepth 20000 in
set_option maxHeartbeats 1600000 in
theorem r10Item_none (w : World) : Calls Try.prog 33 #[EV.v ⟨1, [110, 111, 110, 101], 0, 0⟩] w (fun r w' => ∃ A, r = .returned (itemV (eidT ⟨1, [110, 111, 110, 101], 0, 0⟩) A 2) ∧ Ext w w' ∧ IsL w' (fun b => w.heap.size ≤ b) (eidT ⟨1, [110, 111, 110, 101], 0, 0⟩) A) := by
  go_enter Try.func33, Try.ntmps33
  go_wp2_with fail
  refine bodyPost_ret (v := itemV (eidT ⟨1, [110, 111, 110, 101], 0, 0⟩) (some ⟨w.heap.size + 1 + 1 + 1, 0, none⟩) 2) (by simp [results, Try.results33, go_sem]; exact ⟨rfl, rfl, rfl, rfl, rfl⟩) rfl ?_
  refine ⟨_, rfl, ((((Mod.refl _ _).alloc _).alloc _).alloc _).alloc _, ?_⟩
  exact two_IsL (numT 1) (numT 0) none none 0 0 (show w.heap.size ≤ w.heap.size + 1 + 1 + 1 by omega) (Blk.new' _ _ _ (by simp)) (leaf_IsL rfl (by simp [numT])) (leaf_IsL rfl (by simp [numT]))
set_option maxRecDepth 20000 in
set_option maxHeartbeats 1600000 in
theorem r10Item_dtn (name : List UInt8) (hn : name ≠ [110, 111, 110, 101]) (w : World) : Calls Try.prog 33 #[EV.v ⟨1, name, 0, 0⟩] w (fun r w' => ∃ A, r = .returned (itemV (eidT ⟨1, name, 0, 0⟩) A 2) ∧ Ext w w' ∧ IsL w' (fun b => w.heap.size ≤ b) (eidT ⟨1, name, 0, 0⟩) A) := by
  have h0 : ¬ name = noneL := hn
  have e1 : eidT ⟨1, name, 0, 0⟩ = T.mk 4 0 [] false 2 fun i => if i = 0 then numT 1 else textT name := by simp [eidT, twoT, h0]
  rw [e1]
  have n1 : (name == [110, 111, 110, 101]) = false := by simpa using hn
  have n2 : (name = [110, 111, 110, 101]) = False := by simpa using hn
  have n3 : (name != [110, 111, 110, 101]) = true := by simpa using hn
  clear e1 h0 hn
  go_enter Try.func33, Try.ntmps33
  go_wp2_with fail
  refine bodyPost_ret (v := itemV (T.mk 4 0 [] false 2 fun i => if i = 0 then numT 1 else textT name) (some ⟨w.heap.size + 1 + 1 + 1, 0, none⟩) 2) (by simp [results, Try.results33, go_sem]; exact ⟨rfl, rfl, rfl, rfl, rfl⟩) rfl ?_
  refine ⟨_, rfl, ((((Mod.refl _ _).alloc _).alloc _).alloc _).alloc _, ?_⟩
  exact two_IsL (numT 1) (textT name) none none 0 0 (show w.heap.size ≤ w.heap.size + 1 + 1 + 1 by omega) (Blk.new' _ _ _ (by simp)) (leaf_IsL rfl (by simp [numT])) (leaf_IsL rfl (by simp [textT]))
set_option maxRecDepth 20000 in
set_option maxHeartbeats 1600000 in
theorem r10Item_ipn (node svc : Nat) (w : World) : Calls Try.prog 33 #[EV.v ⟨2, [], node, svc⟩] w (fun r w' => ∃ A, r = .returned (itemV (eidT ⟨2, [], node, svc⟩) A 2) ∧ Ext w w' ∧ IsL w' (fun b => w.heap.size ≤ b) (eidT ⟨2, [], node, svc⟩) A) := by
  go_enter Try.func33, Try.ntmps33
  go_wp2_with fail
  refine bodyPost_ret (v := itemV (eidT ⟨2, [], node, svc⟩) (some ⟨w.heap.size + 1 + 1 + 1 + 1, 0, none⟩) 2) (by simp [results, Try.results33, go_sem]; exact ⟨rfl, rfl, rfl, rfl, rfl⟩) rfl ?_
  refine ⟨_, rfl, (((((Mod.refl _ _).alloc _).alloc _).alloc _).alloc _).alloc _, ?_⟩
  refine two_IsL (numT 2) (T.mk 4 0 [] false 2 (fun j => if j = 0 then numT node else numT svc)) none (some ⟨w.heap.size + 1 + 1 + 1, 0, none⟩) 0 2 (show w.heap.size ≤ w.heap.size + 1 + 1 + 1 + 1 by omega) (Blk.new' _ _ _ (by simp)) (leaf_IsL rfl (by simp [numT])) ?_
  exact two_IsL (numT node) (numT svc) none none 0 0 (show w.heap.size ≤ w.heap.size + 1 + 1 + 1 by omega) ((Blk.new' _ _ _ (by simp)).alloc _) (leaf_IsL rfl (by simp [numT])) (leaf_IsL rfl (by simp [numT]))
theorem r10Item_ok (e : EV) (ho : e.ok = true) (w : World) : Calls Try.prog 33 #[e.v] w (fun r w' => ∃ A, r = .returned (itemV (eidT e) A 2) ∧ Ext w w' ∧ IsL w' (fun b => w.heap.size ≤ b) (eidT e) A) := by
  rcases EV.ok_cases ho with rfl | ⟨name, rfl, hn, hl⟩ | ⟨node, svc, rfl, ha, hb⟩
  · exact r10Item_none w
  · exact r10Item_dtn name hn w
  · exact r10Item_ipn node svc w
end Go.Proofs.Ytagjhkknefiieaa
