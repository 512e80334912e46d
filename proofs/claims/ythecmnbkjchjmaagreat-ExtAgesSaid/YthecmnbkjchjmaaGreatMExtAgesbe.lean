/-
 The reference's Fault: where, and what, is wrong first.
-/
import Derived.Test.YthecmnbkjchjmaaGreatMExtAgesas
import Derived.Test.YthecmnbkjchjmaaGreatMExtAgesau

namespace Go.Proofs.YthecmnbkjchjmaaGreat
open Go.RowKit
set_option linter.unusedVariables false
set_option linter.unusedSimpArgs false

def faultV (p : Nat) (R : Nat × Int) : Value := .tuple #[.int .i64 ((p + R.1 : Nat) : Int), .int .i64 R.2]

set_option maxRecDepth 20000 in
set_option maxHeartbeats 1600000 in
theorem fault_none (l : List UInt8) (p : Nat) (hp : Hid (p <= l.length /\ l.length <= 1073741824)) (d : Nat) (hr : Hid (readH (l.drop p) = none)) (w : World) :
  Calls Tryz.prog 49 #[str l, .int .i64 (p : Int), .int .i64 (d : Int)] w (Ret (faultV p (flt d (l.drop p))) w) := by
 have HF := hid (flt_none (d := d) hr.out)
 have p0 : (0 : Int) <= (p : Int) := by omega
 have p1 : (p : Int) <= (l.length : Int) := by have := hp.out; omega
 have l1 : (l.length : Int) <= 1073741824 := by have := hp.out; omega
 go_enter Tryz.func49, Tryz.ntmps49
 go_wp2_with (go_at_call 52; rw [extract_rest]; refine (read_any (l.drop p) _).mono ?_; rintro x w1 ⟨rfl, hb1⟩; rw [hr.out]; dsimp only [gotOf, gotV])
 go_ret2
 refine Ret.mk (by rw [HF.out]; simp [faultV]) ?_
 exact ((hb1).alloc _)

set_option maxRecDepth 20000 in
set_option maxHeartbeats 1600000 in
theorem fault_noK (l : List UInt8) (p : Nat) (hp : Hid (p <= l.length /\ l.length <= 1073741824)) (d sz m n : Nat) (o : Bool) (hm : Hid (m = 1 \/ m = 5 \/ m = 6 \/ m = 7)) (hr : Hid (readH (l.drop p) = some (sz, m, n, o))) (w : World) :
  Calls Tryz.prog 49 #[str l, .int .i64 (p : Int), .int .i64 (d : Int)] w (Ret (faultV p (flt d (l.drop p))) w) := by
 have HF := hid (flt_noK (d := d) hr.out (by rcases hm.out with rfl | rfl | rfl | rfl <;> rfl))
 have hs := readH_some hr.out
 have hsz : Hid (p + sz <= l.length) := by have h1 := hs.le; have h2 := hp.out; rw [List.length_drop] at h1; unfold Hid; omega
 have s1 : (p : Int) + (sz : Int) <= (l.length : Int) := by have := hsz.out; omega
 have s0 : (0 : Int) < (sz : Int) := by have := hs.pos; omega
 have s2 : ((sz : Int) == 0) = false := by simp; omega
 have s3 : (sz = 0) = False := by simp; have := hs.pos; omega
 have n0 : (0 : Int) <= (n : Int) := by omega
 clear hs
 have p0 : (0 : Int) <= (p : Int) := by omega
 have p1 : (p : Int) <= (l.length : Int) := by have := hp.out; omega
 have l1 : (l.length : Int) <= 1073741824 := by have := hp.out; omega
 go_enter Tryz.func49, Tryz.ntmps49
 rcases hm.out with rfl | rfl | rfl | rfl
 .
  go_wp2_with (go_at_call 52; rw [extract_rest]; refine (read_any (l.drop p) _).mono ?_; rintro x w1 ⟨rfl, hb1⟩; rw [hr.out]; dsimp only [gotOf, gotV])
  go_ret2
  refine Ret.mk (by rw [HF.out]; simp [faultV]) ?_
  exact ((hb1).alloc _)
 .
  go_wp2_with (go_at_call 52; rw [extract_rest]; refine (read_any (l.drop p) _).mono ?_; rintro x w1 ⟨rfl, hb1⟩; rw [hr.out]; dsimp only [gotOf, gotV])
  go_ret2
  refine Ret.mk (by rw [HF.out]; simp [faultV]) ?_
  exact ((hb1).alloc _)
 .
  go_wp2_with (go_at_call 52; rw [extract_rest]; refine (read_any (l.drop p) _).mono ?_; rintro x w1 ⟨rfl, hb1⟩; rw [hr.out]; dsimp only [gotOf, gotV])
  go_ret2
  refine Ret.mk (by rw [HF.out]; simp [faultV]) ?_
  exact ((hb1).alloc _)
 .
  go_wp2_with (go_at_call 52; rw [extract_rest]; refine (read_any (l.drop p) _).mono ?_; rintro x w1 ⟨rfl, hb1⟩; rw [hr.out]; dsimp only [gotOf, gotV])
  go_ret2
  refine Ret.mk (by rw [HF.out]; simp [faultV]) ?_
  exact ((hb1).alloc _)

set_option maxRecDepth 20000 in
set_option maxHeartbeats 1600000 in
theorem fault_deep (l : List UInt8) (p : Nat) (hp : Hid (p <= l.length /\ l.length <= 1073741824)) (sz m n : Nat) (o : Bool) (hm : Hid (m = 0 \/ m = 2 \/ m = 3 \/ m = 4)) (hr : Hid (readH (l.drop p) = some (sz, m, n, o))) (w : World) :
  Calls Tryz.prog 49 #[str l, .int .i64 (p : Int), .int .i64 0] w (Ret (faultV p (flt 0 (l.drop p))) w) := by
 have HF := hid (flt_deep hr.out (by rcases hm.out with rfl | rfl | rfl | rfl <;> rfl))
 have hs := readH_some hr.out
 have hsz : Hid (p + sz <= l.length) := by have h1 := hs.le; have h2 := hp.out; rw [List.length_drop] at h1; unfold Hid; omega
 have s1 : (p : Int) + (sz : Int) <= (l.length : Int) := by have := hsz.out; omega
 have s0 : (0 : Int) < (sz : Int) := by have := hs.pos; omega
 have s2 : ((sz : Int) == 0) = false := by simp; omega
 have s3 : (sz = 0) = False := by simp; have := hs.pos; omega
 have n0 : (0 : Int) <= (n : Int) := by omega
 clear hs
 have p0 : (0 : Int) <= (p : Int) := by omega
 have p1 : (p : Int) <= (l.length : Int) := by have := hp.out; omega
 have l1 : (l.length : Int) <= 1073741824 := by have := hp.out; omega
 go_enter Tryz.func49, Tryz.ntmps49
 rcases hm.out with rfl | rfl | rfl | rfl
 .
  go_wp2_with (go_at_call 52; rw [extract_rest]; refine (read_any (l.drop p) _).mono ?_; rintro x w1 ⟨rfl, hb1⟩; rw [hr.out]; dsimp only [gotOf, gotV])
  go_ret2
  refine Ret.mk (by rw [HF.out]; simp [faultV]) ?_
  exact ((hb1).alloc _)
 .
  go_wp2_with (go_at_call 52; rw [extract_rest]; refine (read_any (l.drop p) _).mono ?_; rintro x w1 ⟨rfl, hb1⟩; rw [hr.out]; dsimp only [gotOf, gotV])
  go_ret2
  refine Ret.mk (by rw [HF.out]; simp [faultV]) ?_
  exact ((hb1).alloc _)
 .
  go_wp2_with (go_at_call 52; rw [extract_rest]; refine (read_any (l.drop p) _).mono ?_; rintro x w1 ⟨rfl, hb1⟩; rw [hr.out]; dsimp only [gotOf, gotV])
  go_ret2
  refine Ret.mk (by rw [HF.out]; simp [faultV]) ?_
  exact ((hb1).alloc _)
 .
  go_wp2_with (go_at_call 52; rw [extract_rest]; refine (read_any (l.drop p) _).mono ?_; rintro x w1 ⟨rfl, hb1⟩; rw [hr.out]; dsimp only [gotOf, gotV])
  go_ret2
  refine Ret.mk (by rw [HF.out]; simp [faultV]) ?_
  exact ((hb1).alloc _)

set_option maxRecDepth 20000 in
set_option maxHeartbeats 1600000 in
theorem fault_num (l : List UInt8) (p : Nat) (hp : Hid (p <= l.length /\ l.length <= 1073741824)) (d sz n : Nat) (o : Bool) (hr : Hid (readH (l.drop p) = some (sz, 0, n, o))) (w : World) :
  Calls Tryz.prog 49 #[str l, .int .i64 (p : Int), .int .i64 ((d : Int) + 1)] w (Ret (faultV p (flt (d + 1) (l.drop p))) w) := by
 have HF := hid (flt_num (d := d) hr.out)
 have hs := readH_some hr.out
 have hsz : Hid (p + sz <= l.length) := by have h1 := hs.le; have h2 := hp.out; rw [List.length_drop] at h1; unfold Hid; omega
 have s1 : (p : Int) + (sz : Int) <= (l.length : Int) := by have := hsz.out; omega
 have s0 : (0 : Int) < (sz : Int) := by have := hs.pos; omega
 have s2 : ((sz : Int) == 0) = false := by simp; omega
 have s3 : (sz = 0) = False := by simp; have := hs.pos; omega
 have n0 : (0 : Int) <= (n : Int) := by omega
 clear hs
 have dz : ((d : Int) + 1 == 0) = false := by simp; omega
 have dz2 : ((d : Int) + 1 = 0) = False := by simp; omega
 have p0 : (0 : Int) <= (p : Int) := by omega
 have p1 : (p : Int) <= (l.length : Int) := by have := hp.out; omega
 have l1 : (l.length : Int) <= 1073741824 := by have := hp.out; omega
 go_enter Tryz.func49, Tryz.ntmps49
 go_wp2_with (go_at_call 52; rw [extract_rest]; refine (read_any (l.drop p) _).mono ?_; rintro x w1 ⟨rfl, hb1⟩; rw [hr.out]; dsimp only [gotOf, gotV])
 go_ret2
 refine Ret.mk (by rw [HF.out]; simp [faultV]) ?_
 exact ((hb1).alloc _)

set_option maxRecDepth 20000 in
set_option maxHeartbeats 1600000 in
theorem fault_str_open (l : List UInt8) (p : Nat) (hp : Hid (p <= l.length /\ l.length <= 1073741824)) (d sz m n : Nat) (hm : Hid (m = 2 \/ m = 3)) (hr : Hid (readH (l.drop p) = some (sz, m, n, true))) (w : World) :
  Calls Tryz.prog 49 #[str l, .int .i64 (p : Int), .int .i64 ((d : Int) + 1)] w (Ret (faultV p (flt (d + 1) (l.drop p))) w) := by
 have HF0 := flt_str (d := d) hr.out hm.out
 have HF : Hid (flt (d + 1) (l.drop p) = (0, 2)) := by unfold Hid; rw [HF0]; exact if_pos (.inl rfl)
 clear HF0
 have hs := readH_some hr.out
 have hsz : Hid (p + sz <= l.length) := by have h1 := hs.le; have h2 := hp.out; rw [List.length_drop] at h1; unfold Hid; omega
 have s1 : (p : Int) + (sz : Int) <= (l.length : Int) := by have := hsz.out; omega
 have s0 : (0 : Int) < (sz : Int) := by have := hs.pos; omega
 have s2 : ((sz : Int) == 0) = false := by simp; omega
 have s3 : (sz = 0) = False := by simp; have := hs.pos; omega
 have n0 : (0 : Int) <= (n : Int) := by omega
 clear hs
 have dz : ((d : Int) + 1 == 0) = false := by simp; omega
 have dz2 : ((d : Int) + 1 = 0) = False := by simp; omega
 have p0 : (0 : Int) <= (p : Int) := by omega
 have p1 : (p : Int) <= (l.length : Int) := by have := hp.out; omega
 have l1 : (l.length : Int) <= 1073741824 := by have := hp.out; omega
 go_enter Tryz.func49, Tryz.ntmps49
 rcases hm.out with rfl | rfl
 .
  go_wp2_with (go_at_call 52; rw [extract_rest]; refine (read_any (l.drop p) _).mono ?_; rintro x w1 ⟨rfl, hb1⟩; rw [hr.out]; dsimp only [gotOf, gotV])
  go_ret2
  refine Ret.mk (by rw [HF.out]; simp [faultV]) ?_
  exact ((hb1).alloc _)
 .
  go_wp2_with (go_at_call 52; rw [extract_rest]; refine (read_any (l.drop p) _).mono ?_; rintro x w1 ⟨rfl, hb1⟩; rw [hr.out]; dsimp only [gotOf, gotV])
  go_ret2
  refine Ret.mk (by rw [HF.out]; simp [faultV]) ?_
  exact ((hb1).alloc _)

set_option maxRecDepth 20000 in
set_option maxHeartbeats 1600000 in
theorem fault_str_bad (l : List UInt8) (p : Nat) (hp : Hid (p <= l.length /\ l.length <= 1073741824)) (d sz m n : Nat) (hm : Hid (m = 2 \/ m = 3)) (hr : Hid (readH (l.drop p) = some (sz, m, n, false))) (hb : Hid ((l.drop p).length - sz < n)) (w : World) :
  Calls Tryz.prog 49 #[str l, .int .i64 (p : Int), .int .i64 ((d : Int) + 1)] w (Ret (faultV p (flt (d + 1) (l.drop p))) w) := by
 have HF0 := flt_str (d := d) hr.out hm.out
 have HF : Hid (flt (d + 1) (l.drop p) = (0, 2)) := by unfold Hid; rw [HF0]; exact if_pos (.inr hb.out)
 clear HF0
 have hs := readH_some hr.out
 have hsz : Hid (p + sz <= l.length) := by have h1 := hs.le; have h2 := hp.out; rw [List.length_drop] at h1; unfold Hid; omega
 have s1 : (p : Int) + (sz : Int) <= (l.length : Int) := by have := hsz.out; omega
 have s0 : (0 : Int) < (sz : Int) := by have := hs.pos; omega
 have s2 : ((sz : Int) == 0) = false := by simp; omega
 have s3 : (sz = 0) = False := by simp; have := hs.pos; omega
 have n0 : (0 : Int) <= (n : Int) := by omega
 have n1 : (n : Int) < 18446744073709551616 := by have := hs.n64; omega
 clear hs
 have dz : ((d : Int) + 1 == 0) = false := by simp; omega
 have dz2 : ((d : Int) + 1 = 0) = False := by simp; omega
 have tt : decide ((l.length : Int) - ((p : Int) + (sz : Int)) < (n : Int)) = true := by have h1 := hb.out; rw [List.length_drop] at h1; simp; omega
 have tt2 : ((l.length : Int) - ((p : Int) + (sz : Int)) < (n : Int)) = True := by have h1 := hb.out; rw [List.length_drop] at h1; simp; omega
 clear n1
 have p0 : (0 : Int) <= (p : Int) := by omega
 have p1 : (p : Int) <= (l.length : Int) := by have := hp.out; omega
 have l1 : (l.length : Int) <= 1073741824 := by have := hp.out; omega
 go_enter Tryz.func49, Tryz.ntmps49
 rcases hm.out with rfl | rfl
 .
  go_wp2_with (go_at_call 52; rw [extract_rest]; refine (read_any (l.drop p) _).mono ?_; rintro x w1 ⟨rfl, hb1⟩; rw [hr.out]; dsimp only [gotOf, gotV])
  go_ret2
  refine Ret.mk (by rw [HF.out]; simp [faultV]) ?_
  exact ((hb1).alloc _)
 .
  go_wp2_with (go_at_call 52; rw [extract_rest]; refine (read_any (l.drop p) _).mono ?_; rintro x w1 ⟨rfl, hb1⟩; rw [hr.out]; dsimp only [gotOf, gotV])
  go_ret2
  refine Ret.mk (by rw [HF.out]; simp [faultV]) ?_
  exact ((hb1).alloc _)

set_option maxRecDepth 20000 in
set_option maxHeartbeats 1600000 in
theorem fault_str_good (l : List UInt8) (p : Nat) (hp : Hid (p <= l.length /\ l.length <= 1073741824)) (d sz m n : Nat) (hm : Hid (m = 2 \/ m = 3)) (hr : Hid (readH (l.drop p) = some (sz, m, n, false))) (hb : Hid (¬ (l.drop p).length - sz < n)) (w : World) :
  Calls Tryz.prog 49 #[str l, .int .i64 (p : Int), .int .i64 ((d : Int) + 1)] w (Ret (faultV p (flt (d + 1) (l.drop p))) w) := by
 have HF0 := flt_str (d := d) hr.out hm.out
 have HF : Hid (flt (d + 1) (l.drop p) = (sz + n, 0)) := by unfold Hid; rw [HF0]; exact if_neg (by rintro (h | h); cases h; exact hb.out h)
 clear HF0
 have hs := readH_some hr.out
 have hsz : Hid (p + sz <= l.length) := by have h1 := hs.le; have h2 := hp.out; rw [List.length_drop] at h1; unfold Hid; omega
 have s1 : (p : Int) + (sz : Int) <= (l.length : Int) := by have := hsz.out; omega
 have s0 : (0 : Int) < (sz : Int) := by have := hs.pos; omega
 have s2 : ((sz : Int) == 0) = false := by simp; omega
 have s3 : (sz = 0) = False := by simp; have := hs.pos; omega
 have n0 : (0 : Int) <= (n : Int) := by omega
 have n1 : (n : Int) < 18446744073709551616 := by have := hs.n64; omega
 clear hs
 have dz : ((d : Int) + 1 == 0) = false := by simp; omega
 have dz2 : ((d : Int) + 1 = 0) = False := by simp; omega
 have tt : decide ((l.length : Int) - ((p : Int) + (sz : Int)) < (n : Int)) = false := by have h1 := hb.out; rw [List.length_drop] at h1; simp; omega
 have tt2 : ((l.length : Int) - ((p : Int) + (sz : Int)) < (n : Int)) = False := by have h1 := hb.out; rw [List.length_drop] at h1; simp; omega
 have n2 : (p : Int) + (sz : Int) + (n : Int) <= (l.length : Int) := by have h1 := hb.out; rw [List.length_drop] at h1; omega
 clear n1
 have p0 : (0 : Int) <= (p : Int) := by omega
 have p1 : (p : Int) <= (l.length : Int) := by have := hp.out; omega
 have l1 : (l.length : Int) <= 1073741824 := by have := hp.out; omega
 go_enter Tryz.func49, Tryz.ntmps49
 rcases hm.out with rfl | rfl
 .
  go_wp2_with (go_at_call 52; rw [extract_rest]; refine (read_any (l.drop p) _).mono ?_; rintro x w1 ⟨rfl, hb1⟩; rw [hr.out]; dsimp only [gotOf, gotV])
  go_ret2
  refine Ret.mk (by rw [HF.out]; simp [faultV, Int.add_assoc]) ?_
  exact ((hb1).alloc _)
 .
  go_wp2_with (go_at_call 52; rw [extract_rest]; refine (read_any (l.drop p) _).mono ?_; rintro x w1 ⟨rfl, hb1⟩; rw [hr.out]; dsimp only [gotOf, gotV])
  go_ret2
  refine Ret.mk (by rw [HF.out]; simp [faultV, Int.add_assoc]) ?_
  exact ((hb1).alloc _)

set_option maxRecDepth 20000 in
set_option maxHeartbeats 1600000 in
theorem fault_long (l : List UInt8) (p : Nat) (hp : Hid (p <= l.length /\ l.length <= 1073741824)) (d sz n : Nat) (hn : Hid (1000 < n)) (hr : Hid (readH (l.drop p) = some (sz, 4, n, false))) (w : World) :
  Calls Tryz.prog 49 #[str l, .int .i64 (p : Int), .int .i64 ((d : Int) + 1)] w (Ret (faultV p (flt (d + 1) (l.drop p))) w) := by
 have HF := hid (flt_long (d := d) hr.out hn.out)
 have tn : decide (1000 < (n : Int)) = true := by have := hn.out; simp; omega
 have hs := readH_some hr.out
 have hsz : Hid (p + sz <= l.length) := by have h1 := hs.le; have h2 := hp.out; rw [List.length_drop] at h1; unfold Hid; omega
 have s1 : (p : Int) + (sz : Int) <= (l.length : Int) := by have := hsz.out; omega
 have s0 : (0 : Int) < (sz : Int) := by have := hs.pos; omega
 have s2 : ((sz : Int) == 0) = false := by simp; omega
 have s3 : (sz = 0) = False := by simp; have := hs.pos; omega
 have n0 : (0 : Int) <= (n : Int) := by omega
 clear hs
 have dz : ((d : Int) + 1 == 0) = false := by simp; omega
 have dz2 : ((d : Int) + 1 = 0) = False := by simp; omega
 have p0 : (0 : Int) <= (p : Int) := by omega
 have p1 : (p : Int) <= (l.length : Int) := by have := hp.out; omega
 have l1 : (l.length : Int) <= 1073741824 := by have := hp.out; omega
 go_enter Tryz.func49, Tryz.ntmps49
 go_wp2_with (go_at_call 52; rw [extract_rest]; refine (read_any (l.drop p) _).mono ?_; rintro x w1 ⟨rfl, hb1⟩; rw [hr.out]; dsimp only [gotOf, gotV])
 go_ret2
 refine Ret.mk (by rw [HF.out]; simp [faultV]) ?_
 exact ((hb1).alloc _)

theorem floop_next {f : List UInt8 -> Nat × Int} {L : List UInt8} {o : Bool} {n i e : Nat} (hi : i < 1000) (hin : o = false -> i < n) (hnb : ¬ (o = true /\ L[e]? = some 255)) :
  floop f L o n (1000 - i) e = if (f (L.drop e)).2 = 0 then floop f L o n (1000 - (i + 1)) (e + (f (L.drop e)).1) else (e + (f (L.drop e)).1, (f (L.drop e)).2) := by
 rw [show 1000 - i = (1000 - (i + 1)) + 1 by omega]
 conv => lhs; unfold floop
 rw [if_neg (by rintro ⟨ho, hn⟩; have := hin ho; omega), if_neg hnb]
theorem floop_end {f : List UInt8 -> Nat × Int} {L : List UInt8} {n i e : Nat} (h1 : i <= 1000) (hi : i = n) : floop f L false n (1000 - i) e = (e, 0) := by
 cases hj : 1000 - i with
 | zero => unfold floop; rw [if_pos ⟨rfl, by omega⟩]
 | succ j => unfold floop; rw [if_pos ⟨rfl, by omega⟩]
theorem floop_break {f : List UInt8 -> Nat × Int} {L : List UInt8} {n i e : Nat} (hb : L[e]? = some 255) : floop f L true n (1000 - i) e = (e + 1, 0) := by
 cases hj : 1000 - i with
 | zero => unfold floop; rw [if_neg (by simp), if_pos ⟨rfl, hb⟩]
 | succ j => unfold floop; rw [if_neg (by simp), if_pos ⟨rfl, hb⟩]
theorem floop_long {f : List UInt8 -> Nat × Int} {L : List UInt8} {n i e : Nat} (hi : i = 1000) (hb : ¬ L[e]? = some 255) : floop f L true n (1000 - i) e = (e, 4) := by
 rw [hi, show 1000 - 1000 = 0 from rfl]
 unfold floop
 rw [if_neg (by simp), if_neg (fun x => hb x.2)]

set_option maxRecDepth 20000 in
set_option maxHeartbeats 1600000 in
theorem fault_arr_false (l : List UInt8) (p : Nat) (hp : Hid (p <= l.length /\ l.length <= 1073741824)) (d sz n : Nat) (hd : Hid (d <= 8)) (IH : Hid (∀ q, q <= l.length -> ∀ w, Calls Tryz.prog 49 #[str l, .int .i64 (q : Int), .int .i64 (d : Int)] w (Ret (faultV q (flt d (l.drop q))) w))) (hn : Hid (¬ (false = false /\ 1000 < n))) (hr : Hid (readH (l.drop p) = some (sz, 4, n, false))) (w : World) :
  Calls Tryz.prog 49 #[str l, .int .i64 (p : Int), .int .i64 ((d : Int) + 1)] w (Ret (faultV p (flt (d + 1) (l.drop p))) w) := by
 have HF := hid (flt_arr (d := d) hr.out hn.out)
 have hs := readH_some hr.out
 have hsz : Hid (p + sz <= l.length) := by have h1 := hs.le; have h2 := hp.out; rw [List.length_drop] at h1; unfold Hid; omega
 have s1 : (p : Int) + (sz : Int) <= (l.length : Int) := by have := hsz.out; omega
 have s0 : (0 : Int) < (sz : Int) := by have := hs.pos; omega
 have s2 : ((sz : Int) == 0) = false := by simp; omega
 have s3 : (sz = 0) = False := by simp; have := hs.pos; omega
 have n0 : (0 : Int) <= (n : Int) := by omega
 clear hs
 have dz : ((d : Int) + 1 == 0) = false := by simp; omega
 have dz2 : ((d : Int) + 1 = 0) = False := by simp; omega
 have tn : decide (1000 < (n : Int)) = false := by have := hn.out; simp at this ⊢; omega
 have p0 : (0 : Int) <= (p : Int) := by omega
 have p1 : (p : Int) <= (l.length : Int) := by have := hp.out; omega
 have l1 : (l.length : Int) <= 1073741824 := by have := hp.out; omega
 go_enter Tryz.func49, Tryz.ntmps49
 go_upto_region 17 with (go_at_call 52; rw [extract_rest]; refine (read_any (l.drop p) _).mono ?_; rintro x w1 ⟨rfl, hb1⟩; rw [hr.out]; dsimp only [gotOf, gotV])
 have HBG : Hid (Blk (w1.alloc (.cells #[.int .i64 (sz : Int), .int .i64 4, .int .u64 (n : Int), .bool false] 96)) w1.heap.size 96 #[.int .i64 (sz : Int), .int .i64 4, .int .u64 (n : Int), .bool false]) := Blk.new _ _ _
 have HEG : Hid (Ext w (w1.alloc (.cells #[.int .i64 (sz : Int), .int .i64 4, .int .u64 (n : Int), .bool false] 96))) := hb1.alloc _
 clear hb1
 generalize w1.heap.size = G at *
 go_wp2_with fail
 go_loopw [9, 10] (fun s9 s10 wr => ∃ i e q : Nat, s10 = .int .i64 (i : Int) /\ s9 = .int .i64 (q : Int) /\ Hid (q = p + e /\ i <= 1000 /\ q <= l.length /\ floop (flt d) (l.drop p) false n (1000 - i) e = floop (flt d) (l.drop p) false n 1000 sz /\ (false = false -> i <= n)) /\ Hid (Ext w wr /\ Blk wr G 96 #[.int .i64 (sz : Int), .int .i64 4, .int .u64 (n : Int), .bool false])) (fun _ k _ => 1001 - (intOf k).toNat)
 case atStart => exact ⟨0, sz, p + sz, rfl, by simp, ⟨rfl, by omega, hsz.out, rfl, fun _ => Nat.zero_le _⟩, HEG.out, HBG.out⟩
 case round =>
  clear HEG HBG s1 s0 s2 s3
  obtain ⟨i, e, q, rfl, rfl, hQ, hW⟩ := hrel
  have i0 : (0 : Int) <= (i : Int) := by omega
  have i1 : (i : Int) <= 1000 := by have := hQ.out; omega
  have q0 : (0 : Int) <= (q : Int) := by omega
  have q1 : (q : Int) <= (l.length : Int) := by have := hQ.out; omega
  have g2 : wr.cell? ⟨G, 2, none⟩ = some (.int .u64 (n : Int)) := hW.out.2.cell 2
  have g3 : wr.cell? ⟨G, 3, none⟩ = some (.bool false) := hW.out.2.cell 3
  have d0 : (0 : Int) <= (d : Int) := by omega
  have d1 : (d : Int) <= 8 := by have := hd.out; omega
  by_cases hlt : i < n
  .
   have ti : decide (i < n) = true := by simp [hlt]
   have HI9 : Hid (i < 1000) := by have := hn.out; simp at this; unfold Hid; omega
   have tk : ((i : Int) == 1000) = false := by have := HI9.out; simp; omega
   have tk2 : (i = 1000) = False := by have := HI9.out; simp; omega
   have HLT := hid hlt
   clear hlt
   go_wp2_with fail
   refine (IH.out q hQ.out.2.2.1 _).mono ?_
   rintro x w3 ⟨rfl, hb3⟩
   have HW3 := hid (show Ext w w3 /\ Blk w3 G 96 #[.int .i64 (sz : Int), .int .i64 4, .int .u64 (n : Int), .bool false] from ⟨hW.out.1.trans hb3, hW.out.2.ext hb3⟩)
   have hle := flt_le d (l.drop q)
   rw [List.length_drop] at hle
   have HR : Hid (floop (flt d) (l.drop p) false n 1000 sz = if (flt d (l.drop q)).2 = 0 then floop (flt d) (l.drop p) false n (1000 - (i + 1)) (e + (flt d (l.drop q)).1) else (e + (flt d (l.drop q)).1, (flt d (l.drop q)).2)) := by
    unfold Hid
    rw [<- hQ.out.2.2.2.1, floop_next HI9.out (fun _ => HLT.out) (by simp), List.drop_drop, <- hQ.out.1]
   generalize flt d (l.drop q) = Rq at *
   obtain ⟨r, E⟩ := Rq
   dsimp only [faultV] at HR ⊢
   have hle2 : r <= l.length - q := hle
   have HLE := hid hle2
   have r1 : ((q + r : Nat) : Int) <= (l.length : Int) := by have := hQ.out; omega
   clear hle hle2 hb3 g2 g3
   by_cases hE : E = 0
   .
    subst hE
    have HR2 := HR.out
    rw [if_pos rfl] at HR2
    have HR3 := hid HR2
    clear HR HR2
    go_wp2_with fail
    have hq := hQ.out
    have hle := HLE.out
    have hi9 := HI9.out
    refine ⟨⟨i + 1, e + r, q + r, by simp, by simp, (show Hid _ from ⟨by omega, by omega, by omega, HR3.out.symm, fun _ => by have := HLT.out; omega⟩), (show Hid _ from HW3.out)⟩, ?_⟩
    simp only [intOf]; omega
   .
    have te : (E == 0) = false := by simp [hE]
    have te2 : (E = 0) = False := by simp [hE]
    have tn3 : (E != 0) = true := by simp [hE]
    have HR2 := HR.out
    rw [if_neg hE] at HR2
    have HR3 := hid HR2
    clear HR HR2 hE
    go_wp2_with fail
    go_ret2
    refine Ret.mk ?_ HW3.out.1
    rw [HF.out, HR3.out, faultV]
    have := hQ.out.1
    simp; omega
  .
   obtain rfl : i = n := by have := hQ.out.2.2.2.2 rfl; omega
   have ti : decide (i < i) = false := by simp
   have HFE := hid (floop_end (f := flt d) (L := l.drop p) (e := e) hQ.out.2.1 rfl)
   go_wp2_with fail
   go_ret2
   refine Ret.mk ?_ hW.out.1
   rw [HF.out, <- hQ.out.2.2.2.1, HFE.out, faultV, <- hQ.out.1]
   rfl

set_option maxRecDepth 20000 in
set_option maxHeartbeats 1600000 in
theorem fault_arr_true (l : List UInt8) (p : Nat) (hp : Hid (p <= l.length /\ l.length <= 1073741824)) (d sz n : Nat) (hd : Hid (d <= 8)) (IH : Hid (∀ q, q <= l.length -> ∀ w, Calls Tryz.prog 49 #[str l, .int .i64 (q : Int), .int .i64 (d : Int)] w (Ret (faultV q (flt d (l.drop q))) w))) (hn : Hid (¬ (true = false /\ 1000 < n))) (hr : Hid (readH (l.drop p) = some (sz, 4, n, true))) (w : World) :
  Calls Tryz.prog 49 #[str l, .int .i64 (p : Int), .int .i64 ((d : Int) + 1)] w (Ret (faultV p (flt (d + 1) (l.drop p))) w) := by
 have HF := hid (flt_arr (d := d) hr.out hn.out)
 have hs := readH_some hr.out
 have hsz : Hid (p + sz <= l.length) := by have h1 := hs.le; have h2 := hp.out; rw [List.length_drop] at h1; unfold Hid; omega
 have s1 : (p : Int) + (sz : Int) <= (l.length : Int) := by have := hsz.out; omega
 have s0 : (0 : Int) < (sz : Int) := by have := hs.pos; omega
 have s2 : ((sz : Int) == 0) = false := by simp; omega
 have s3 : (sz = 0) = False := by simp; have := hs.pos; omega
 have n0 : (0 : Int) <= (n : Int) := by omega
 clear hs
 have dz : ((d : Int) + 1 == 0) = false := by simp; omega
 have dz2 : ((d : Int) + 1 = 0) = False := by simp; omega
 have p0 : (0 : Int) <= (p : Int) := by omega
 have p1 : (p : Int) <= (l.length : Int) := by have := hp.out; omega
 have l1 : (l.length : Int) <= 1073741824 := by have := hp.out; omega
 go_enter Tryz.func49, Tryz.ntmps49
 go_upto_region 17 with (go_at_call 52; rw [extract_rest]; refine (read_any (l.drop p) _).mono ?_; rintro x w1 ⟨rfl, hb1⟩; rw [hr.out]; dsimp only [gotOf, gotV])
 have HBG : Hid (Blk (w1.alloc (.cells #[.int .i64 (sz : Int), .int .i64 4, .int .u64 (n : Int), .bool true] 96)) w1.heap.size 96 #[.int .i64 (sz : Int), .int .i64 4, .int .u64 (n : Int), .bool true]) := Blk.new _ _ _
 have HEG : Hid (Ext w (w1.alloc (.cells #[.int .i64 (sz : Int), .int .i64 4, .int .u64 (n : Int), .bool true] 96))) := hb1.alloc _
 clear hb1
 generalize w1.heap.size = G at *
 go_wp2_with fail
 go_loopw [9, 10] (fun s9 s10 wr => ∃ i e q : Nat, s10 = .int .i64 (i : Int) /\ s9 = .int .i64 (q : Int) /\ Hid (q = p + e /\ i <= 1000 /\ q <= l.length /\ floop (flt d) (l.drop p) true n (1000 - i) e = floop (flt d) (l.drop p) true n 1000 sz /\ (true = false -> i <= n)) /\ Hid (Ext w wr /\ Blk wr G 96 #[.int .i64 (sz : Int), .int .i64 4, .int .u64 (n : Int), .bool true])) (fun _ k _ => 1001 - (intOf k).toNat)
 case atStart => exact ⟨0, sz, p + sz, rfl, by simp, ⟨rfl, by omega, hsz.out, rfl, fun _ => Nat.zero_le _⟩, HEG.out, HBG.out⟩
 case round =>
  clear HEG HBG s1 s0 s2 s3
  obtain ⟨i, e, q, rfl, rfl, hQ, hW⟩ := hrel
  have i0 : (0 : Int) <= (i : Int) := by omega
  have i1 : (i : Int) <= 1000 := by have := hQ.out; omega
  have q0 : (0 : Int) <= (q : Int) := by omega
  have q1 : (q : Int) <= (l.length : Int) := by have := hQ.out; omega
  have g2 : wr.cell? ⟨G, 2, none⟩ = some (.int .u64 (n : Int)) := hW.out.2.cell 2
  have g3 : wr.cell? ⟨G, 3, none⟩ = some (.bool true) := hW.out.2.cell 3
  have d0 : (0 : Int) <= (d : Int) := by omega
  have d1 : (d : Int) <= 8 := by have := hd.out; omega
  by_cases hb : l[q]? = some 255
  .
   have HFB := hid (floop_break (f := flt d) (L := l.drop p) (n := n) (i := i) (e := e) (by rw [List.getElem?_drop, <- hQ.out.1]; exact hb))
   obtain ⟨hq, hv⟩ := List.getElem?_eq_some_iff.1 hb
   have tq : decide (q < l.length) = true := by simp [hq]
   have hv2 : ∀ h : q < (⟨l.toArray⟩ : ByteArray).size, (⟨l.toArray⟩ : ByteArray)[q]'h = 255 := fun h => by show l.toArray[q] = 255; simpa using hv
   have hv3 : l[q] = 255 := hv
   have hq2 : (q : Int) < (l.length : Int) := by omega
   clear hb hv
   go_wp2_with fail
   go_ret2
   refine Ret.mk ?_ hW.out.1
   rw [HF.out, <- hQ.out.2.2.2.1, HFB.out, faultV]
   have := hQ.out.1
   simp; omega
  .
   have HNB : Hid (¬ (l.drop p)[e]? = some 255) := by unfold Hid; rw [List.getElem?_drop, <- hQ.out.1]; exact hb
   by_cases hq : q < l.length
   .
    have hv3 : ¬ l[q] = 255 := fun h => hb (List.getElem?_eq_some_iff.2 ⟨hq, h⟩)
    have tq : decide (q < l.length) = true := by simp [hq]
    have hq2 : (q : Int) < (l.length : Int) := by omega
    have hv6 : ∀ h : q < (⟨l.toArray⟩ : ByteArray).size, ((((⟨l.toArray⟩ : ByteArray)[q]'h).toNat : Int) == 255) = false := fun h => by
     have e : ¬ ((⟨l.toArray⟩ : ByteArray)[q]'h).toNat = 255 := fun e => hv3 (by have e2 : l[q].toNat = 255 := e; rw [<- b8_toNat l[q], e2]; rfl)
     simp; omega
    clear hb
    by_cases hi : i = 1000
    .
     have tk : ((i : Int) == 1000) = true := by simp [hi]
     have tk2 : (i = 1000) = True := by simp [hi]
     have HFL := hid (floop_long (f := flt d) (L := l.drop p) (n := n) (e := e) hi HNB.out)
     clear hi
     go_wp2_with fail
     go_ret2
     refine Ret.mk ?_ hW.out.1
     rw [HF.out, <- hQ.out.2.2.2.1, HFL.out, faultV, <- hQ.out.1]
     rfl
    .
     have HI9 : Hid (i < 1000) := by have := hQ.out; unfold Hid; omega
     have tk : ((i : Int) == 1000) = false := by simp; omega
     have tk2 : (i = 1000) = False := by simp [hi]
     clear hi
     go_wp2_with fail
     refine (IH.out q hQ.out.2.2.1 _).mono ?_
     rintro x w3 ⟨rfl, hb3⟩
     have HW3 := hid (show Ext w w3 /\ Blk w3 G 96 #[.int .i64 (sz : Int), .int .i64 4, .int .u64 (n : Int), .bool true] from ⟨hW.out.1.trans hb3, hW.out.2.ext hb3⟩)
     have hle := flt_le d (l.drop q)
     rw [List.length_drop] at hle
     have HR : Hid (floop (flt d) (l.drop p) true n 1000 sz = if (flt d (l.drop q)).2 = 0 then floop (flt d) (l.drop p) true n (1000 - (i + 1)) (e + (flt d (l.drop q)).1) else (e + (flt d (l.drop q)).1, (flt d (l.drop q)).2)) := by
      unfold Hid
      rw [<- hQ.out.2.2.2.1, floop_next HI9.out (fun h => by cases h) (fun h => HNB.out h.2), List.drop_drop, <- hQ.out.1]
     generalize flt d (l.drop q) = Rq at *
     obtain ⟨r, E⟩ := Rq
     dsimp only [faultV] at HR ⊢
     have hle2 : r <= l.length - q := hle
     have HLE := hid hle2
     have r1 : ((q + r : Nat) : Int) <= (l.length : Int) := by have := hQ.out; omega
     clear hle hle2 hb3 g2 g3
     by_cases hE : E = 0
     .
      subst hE
      have HR2 := HR.out
      rw [if_pos rfl] at HR2
      have HR3 := hid HR2
      clear HR HR2
      go_wp2_with fail
      have hq := hQ.out
      have hle := HLE.out
      have hi9 := HI9.out
      refine ⟨⟨i + 1, e + r, q + r, by simp, by simp, (show Hid _ from ⟨by omega, by omega, by omega, HR3.out.symm, fun h => by cases h⟩), (show Hid _ from HW3.out)⟩, ?_⟩
      simp only [intOf]; omega
     .
      have te : (E == 0) = false := by simp [hE]
      have te2 : (E = 0) = False := by simp [hE]
      have tn3 : (E != 0) = true := by simp [hE]
      have HR2 := HR.out
      rw [if_neg hE] at HR2
      have HR3 := hid HR2
      clear HR HR2 hE
      go_wp2_with fail
      go_ret2
      refine Ret.mk ?_ HW3.out.1
      rw [HF.out, HR3.out, faultV]
      have := hQ.out.1
      simp; omega
   .
    have tq : decide (q < l.length) = false := by simp [hq]
    clear hb
    by_cases hi : i = 1000
    .
     have tk : ((i : Int) == 1000) = true := by simp [hi]
     have tk2 : (i = 1000) = True := by simp [hi]
     have HFL := hid (floop_long (f := flt d) (L := l.drop p) (n := n) (e := e) hi HNB.out)
     clear hi
     go_wp2_with fail
     go_ret2
     refine Ret.mk ?_ hW.out.1
     rw [HF.out, <- hQ.out.2.2.2.1, HFL.out, faultV, <- hQ.out.1]
     rfl
    .
     have HI9 : Hid (i < 1000) := by have := hQ.out; unfold Hid; omega
     have tk : ((i : Int) == 1000) = false := by simp; omega
     have tk2 : (i = 1000) = False := by simp [hi]
     clear hi
     go_wp2_with fail
     refine (IH.out q hQ.out.2.2.1 _).mono ?_
     rintro x w3 ⟨rfl, hb3⟩
     have HW3 := hid (show Ext w w3 /\ Blk w3 G 96 #[.int .i64 (sz : Int), .int .i64 4, .int .u64 (n : Int), .bool true] from ⟨hW.out.1.trans hb3, hW.out.2.ext hb3⟩)
     have hle := flt_le d (l.drop q)
     rw [List.length_drop] at hle
     have HR : Hid (floop (flt d) (l.drop p) true n 1000 sz = if (flt d (l.drop q)).2 = 0 then floop (flt d) (l.drop p) true n (1000 - (i + 1)) (e + (flt d (l.drop q)).1) else (e + (flt d (l.drop q)).1, (flt d (l.drop q)).2)) := by
      unfold Hid
      rw [<- hQ.out.2.2.2.1, floop_next HI9.out (fun h => by cases h) (fun h => HNB.out h.2), List.drop_drop, <- hQ.out.1]
     generalize flt d (l.drop q) = Rq at *
     obtain ⟨r, E⟩ := Rq
     dsimp only [faultV] at HR ⊢
     have hle2 : r <= l.length - q := hle
     have HLE := hid hle2
     have r1 : ((q + r : Nat) : Int) <= (l.length : Int) := by have := hQ.out; omega
     clear hle hle2 hb3 g2 g3
     by_cases hE : E = 0
     .
      subst hE
      have HR2 := HR.out
      rw [if_pos rfl] at HR2
      have HR3 := hid HR2
      clear HR HR2
      go_wp2_with fail
      have hq := hQ.out
      have hle := HLE.out
      have hi9 := HI9.out
      refine ⟨⟨i + 1, e + r, q + r, by simp, by simp, (show Hid _ from ⟨by omega, by omega, by omega, HR3.out.symm, fun h => by cases h⟩), (show Hid _ from HW3.out)⟩, ?_⟩
      simp only [intOf]; omega
     .
      have te : (E == 0) = false := by simp [hE]
      have te2 : (E = 0) = False := by simp [hE]
      have tn3 : (E != 0) = true := by simp [hE]
      have HR2 := HR.out
      rw [if_neg hE] at HR2
      have HR3 := hid HR2
      clear HR HR2 hE
      go_wp2_with fail
      go_ret2
      refine Ret.mk ?_ HW3.out.1
      rw [HF.out, HR3.out, faultV]
      have := hQ.out.1
      simp; omega

end Go.Proofs.YthecmnbkjchjmaaGreat
