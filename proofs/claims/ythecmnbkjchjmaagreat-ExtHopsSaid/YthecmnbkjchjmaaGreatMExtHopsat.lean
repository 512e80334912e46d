/-
 The reference's Fault: where, and what, is wrong first.
-/
import Derived.Test.YthecmnbkjchjmaaGreatMExtHopsar
import Derived.Maps.Own
import Derived.Maps.OwnOps
import Derived.Maps.Views
import Derived.Deep.AppendLies
import Derived.Deep.RegionLaw
import Derived.Lib.SliceRun
import Derived.Lib.Overlaps
import Derived.Laws.Externs
import Derived.Laws.IdiomCopy
import Derived.Shelf.Spec.SlicesInsert
import Derived.Lib.AppendZerosOnto
import Derived.Laws.NewBlocks
import Derived.OpenShut
import Derived.Laws.AppendOwnNone
namespace Go.Proofs.YthecmnbkjchjmaaGreat
open Go.RowKit
set_option linter.unusedVariables false
set_option linter.unusedSimpArgs false
def faultV (p : Nat) (R : Nat × Int) : Value := .tuple #[.int .i64 ((p + R.1 : Nat) : Int), .int .i64 R.2]
set_option maxRecDepth 20000 in
set_option maxHeartbeats 1600000 in
theorem fault_none (l : List UInt8) (p : Nat) (hp : Hid (p <= l.length /\ l.length <= 1073741824)) (d : Nat) (hr : Hid (readH (l.drop p) = none)) (w : World) :
  Calls Tryz.prog 49 #[str l, .int .i64 (p : Int), .int .i64 (d : Int)] w (Ret (faultV p (flt d (l.drop p))) w) := by
 have HF := hid (flt_none (d := d) hr.out)
 have p0 : (0 : Int) <= (p : Int) := by omega
 have p1 : (p : Int) <= (l.length : Int) := by have := hp.out; omega
 have l1 : (l.length : Int) <= 1073741824 := by have := hp.out; omega
 go_enter Tryz.func49, Tryz.ntmps49
 go_wp2_with (go_at_call 52; rw [extract_rest]; refine (read_any (l.drop p) _).mono ?_; rintro x w1 ⟨rfl, hb1⟩; rw [hr.out]; dsimp only [gotOf, gotV])
 go_ret2
 refine Ret.mk (by rw [HF.out]; simp [faultV]) ?_
 exact ((hb1).alloc _)
set_option maxRecDepth 20000 in
set_option maxHeartbeats 1600000 in
theorem fault_noK (l : List UInt8) (p : Nat) (hp : Hid (p <= l.length /\ l.length <= 1073741824)) (d sz m n : Nat) (o : Bool) (hm : Hid (m = 1 \/ m = 5 \/ m = 6 \/ m = 7)) (hr : Hid (readH (l.drop p) = some (sz, m, n, o))) (w : World) :
  Calls Tryz.prog 49 #[str l, .int .i64 (p : Int), .int .i64 (d : Int)] w (Ret (faultV p (flt d (l.drop p))) w) := by
 have HF := hid (flt_noK (d := d) hr.out (by rcases hm.out with rfl | rfl | rfl | rfl <;> rfl))
 have hs := readH_some hr.out
 have hsz : Hid (p + sz <= l.length) := by have h1 := hs.le; have h2 := hp.out; rw [List.length_drop] at h1; unfold Hid; omega
 have s1 : (p : Int) + (sz : Int) <= (l.length : Int) := by have := hsz.out; omega
 have s0 : (0 : Int) < (sz : Int) := by have := hs.pos; omega
 have s2 : ((sz : Int) == 0) = false := by simp; omega
 have s3 : (sz = 0) = False := by simp; have := hs.pos; omega
 have n0 : (0 : Int) <= (n : Int) := by omega
 clear hs
 have p0 : (0 : Int) <= (p : Int) := by omega
 have p1 : (p : Int) <= (l.length : Int) := by have := hp.out; omega
 have l1 : (l.length : Int) <= 1073741824 := by have := hp.out; omega
 go_enter Tryz.func49, Tryz.ntmps49
 rcases hm.out with rfl | rfl | rfl | rfl
 .
  go_wp2_with (go_at_call 52; rw [extract_rest]; refine (read_any (l.drop p) _).mono ?_; rintro x w1 ⟨rfl, hb1⟩; rw [hr.out]; dsimp only [gotOf, gotV])
  go_ret2
  refine Ret.mk (by rw [HF.out]; simp [faultV]) ?_
  exact ((hb1).alloc _)
 .
  go_wp2_with (go_at_call 52; rw [extract_rest]; refine (read_any (l.drop p) _).mono ?_; rintro x w1 ⟨rfl, hb1⟩; rw [hr.out]; dsimp only [gotOf, gotV])
  go_ret2
  refine Ret.mk (by rw [HF.out]; simp [faultV]) ?_
  exact ((hb1).alloc _)
 .
  go_wp2_with (go_at_call 52; rw [extract_rest]; refine (read_any (l.drop p) _).mono ?_; rintro x w1 ⟨rfl, hb1⟩; rw [hr.out]; dsimp only [gotOf, gotV])
  go_ret2
  refine Ret.mk (by rw [HF.out]; simp [faultV]) ?_
  exact ((hb1).alloc _)
 .
  go_wp2_with (go_at_call 52; rw [extract_rest]; refine (read_any (l.drop p) _).mono ?_; rintro x w1 ⟨rfl, hb1⟩; rw [hr.out]; dsimp only [gotOf, gotV])
  go_ret2
  refine Ret.mk (by rw [HF.out]; simp [faultV]) ?_
  exact ((hb1).alloc _)
set_option maxRecDepth 20000 in
set_option maxHeartbeats 1600000 in
theorem fault_deep (l : List UInt8) (p : Nat) (hp : Hid (p <= l.length /\ l.length <= 1073741824)) (sz m n : Nat) (o : Bool) (hm : Hid (m = 0 \/ m = 2 \/ m = 3 \/ m = 4)) (hr : Hid (readH (l.drop p) = some (sz, m, n, o))) (w : World) :
  Calls Tryz.prog 49 #[str l, .int .i64 (p : Int), .int .i64 0] w (Ret (faultV p (flt 0 (l.drop p))) w) := by
 have HF := hid (flt_deep hr.out (by rcases hm.out with rfl | rfl | rfl | rfl <;> rfl))
 have hs := readH_some hr.out
 have hsz : Hid (p + sz <= l.length) := by have h1 := hs.le; have h2 := hp.out; rw [List.length_drop] at h1; unfold Hid; omega
 have s1 : (p : Int) + (sz : Int) <= (l.length : Int) := by have := hsz.out; omega
 have s0 : (0 : Int) < (sz : Int) := by have := hs.pos; omega
 have s2 : ((sz : Int) == 0) = false := by simp; omega
 have s3 : (sz = 0) = False := by simp; have := hs.pos; omega
 have n0 : (0 : Int) <= (n : Int) := by omega
 clear hs
 have p0 : (0 : Int) <= (p : Int) := by omega
 have p1 : (p : Int) <= (l.length : Int) := by have := hp.out; omega
 have l1 : (l.length : Int) <= 1073741824 := by have := hp.out; omega
 go_enter Tryz.func49, Tryz.ntmps49
 rcases hm.out with rfl | rfl | rfl | rfl
 .
  go_wp2_with (go_at_call 52; rw [extract_rest]; refine (read_any (l.drop p) _).mono ?_; rintro x w1 ⟨rfl, hb1⟩; rw [hr.out]; dsimp only [gotOf, gotV])
  go_ret2
  refine Ret.mk (by rw [HF.out]; simp [faultV]) ?_
  exact ((hb1).alloc _)
 .
  go_wp2_with (go_at_call 52; rw [extract_rest]; refine (read_any (l.drop p) _).mono ?_; rintro x w1 ⟨rfl, hb1⟩; rw [hr.out]; dsimp only [gotOf, gotV])
  go_ret2
  refine Ret.mk (by rw [HF.out]; simp [faultV]) ?_
  exact ((hb1).alloc _)
 .
  go_wp2_with (go_at_call 52; rw [extract_rest]; refine (read_any (l.drop p) _).mono ?_; rintro x w1 ⟨rfl, hb1⟩; rw [hr.out]; dsimp only [gotOf, gotV])
  go_ret2
  refine Ret.mk (by rw [HF.out]; simp [faultV]) ?_
  exact ((hb1).alloc _)
 .
  go_wp2_with (go_at_call 52; rw [extract_rest]; refine (read_any (l.drop p) _).mono ?_; rintro x w1 ⟨rfl, hb1⟩; rw [hr.out]; dsimp only [gotOf, gotV])
  go_ret2
  refine Ret.mk (by rw [HF.out]; simp [faultV]) ?_
  exact ((hb1).alloc _)
set_option maxRecDepth 20000 in
set_option maxHeartbeats 1600000 in
theorem fault_num (l : List UInt8) (p : Nat) (hp : Hid (p <= l.length /\ l.length <= 1073741824)) (d sz n : Nat) (o : Bool) (hr : Hid (readH (l.drop p) = some (sz, 0, n, o))) (w : World) :
  Calls Tryz.prog 49 #[str l, .int .i64 (p : Int), .int .i64 ((d : Int) + 1)] w (Ret (faultV p (flt (d + 1) (l.drop p))) w) := by
 have HF := hid (flt_num (d := d) hr.out)
 have hs := readH_some hr.out
 have hsz : Hid (p + sz <= l.length) := by have h1 := hs.le; have h2 := hp.out; rw [List.length_drop] at h1; unfold Hid; omega
 have s1 : (p : Int) + (sz : Int) <= (l.length : Int) := by have := hsz.out; omega
 have s0 : (0 : Int) < (sz : Int) := by have := hs.pos; omega
 have s2 : ((sz : Int) == 0) = false := by simp; omega
 have s3 : (sz = 0) = False := by simp; have := hs.pos; omega
 have n0 : (0 : Int) <= (n : Int) := by omega
 clear hs
 have dz : ((d : Int) + 1 == 0) = false := by simp; omega
 have dz2 : ((d : Int) + 1 = 0) = False := by simp; omega
 have p0 : (0 : Int) <= (p : Int) := by omega
 have p1 : (p : Int) <= (l.length : Int) := by have := hp.out; omega
 have l1 : (l.length : Int) <= 1073741824 := by have := hp.out; omega
 go_enter Tryz.func49, Tryz.ntmps49
 go_wp2_with (go_at_call 52; rw [extract_rest]; refine (read_any (l.drop p) _).mono ?_; rintro x w1 ⟨rfl, hb1⟩; rw [hr.out]; dsimp only [gotOf, gotV])
 go_ret2
 refine Ret.mk (by rw [HF.out]; simp [faultV]) ?_
 exact ((hb1).alloc _)
set_option maxRecDepth 20000 in
set_option maxHeartbeats 1600000 in
theorem fault_str_open (l : List UInt8) (p : Nat) (hp : Hid (p <= l.length /\ l.length <= 1073741824)) (d sz m n : Nat) (hm : Hid (m = 2 \/ m = 3)) (hr : Hid (readH (l.drop p) = some (sz, m, n, true))) (w : World) :
  Calls Tryz.prog 49 #[str l, .int .i64 (p : Int), .int .i64 ((d : Int) + 1)] w (Ret (faultV p (flt (d + 1) (l.drop p))) w) := by
 have HF0 := flt_str (d := d) hr.out hm.out
 have HF : Hid (flt (d + 1) (l.drop p) = (0, 2)) := by unfold Hid; rw [HF0]; exact if_pos (.inl rfl)
 clear HF0
 have hs := readH_some hr.out
 have hsz : Hid (p + sz <= l.length) := by have h1 := hs.le; have h2 := hp.out; rw [List.length_drop] at h1; unfold Hid; omega
 have s1 : (p : Int) + (sz : Int) <= (l.length : Int) := by have := hsz.out; omega
 have s0 : (0 : Int) < (sz : Int) := by have := hs.pos; omega
 have s2 : ((sz : Int) == 0) = false := by simp; omega
 have s3 : (sz = 0) = False := by simp; have := hs.pos; omega
 have n0 : (0 : Int) <= (n : Int) := by omega
 clear hs
 have dz : ((d : Int) + 1 == 0) = false := by simp; omega
 have dz2 : ((d : Int) + 1 = 0) = False := by simp; omega
 have p0 : (0 : Int) <= (p : Int) := by omega
 have p1 : (p : Int) <= (l.length : Int) := by have := hp.out; omega
 have l1 : (l.length : Int) <= 1073741824 := by have := hp.out; omega
 go_enter Tryz.func49, Tryz.ntmps49
 rcases hm.out with rfl | rfl
 .
  go_wp2_with (go_at_call 52; rw [extract_rest]; refine (read_any (l.drop p) _).mono ?_; rintro x w1 ⟨rfl, hb1⟩; rw [hr.out]; dsimp only [gotOf, gotV])
  go_ret2
  refine Ret.mk (by rw [HF.out]; simp [faultV]) ?_
  exact ((hb1).alloc _)
 .
  go_wp2_with (go_at_call 52; rw [extract_rest]; refine (read_any (l.drop p) _).mono ?_; rintro x w1 ⟨rfl, hb1⟩; rw [hr.out]; dsimp only [gotOf, gotV])
  go_ret2
  refine Ret.mk (by rw [HF.out]; simp [faultV]) ?_
  exact ((hb1).alloc _)
set_option maxRecDepth 20000 in
set_option maxHeartbeats 1600000 in
theorem fault_str_bad (l : List UInt8) (p : Nat) (hp : Hid (p <= l.length /\ l.length <= 1073741824)) (d sz m n : Nat) (hm : Hid (m = 2 \/ m = 3)) (hr : Hid (readH (l.drop p) = some (sz, m, n, false))) (hb : Hid ((l.drop p).length - sz < n)) (w : World) :
  Calls Tryz.prog 49 #[str l, .int .i64 (p : Int), .int .i64 ((d : Int) + 1)] w (Ret (faultV p (flt (d + 1) (l.drop p))) w) := by
 have HF0 := flt_str (d := d) hr.out hm.out
 have HF : Hid (flt (d + 1) (l.drop p) = (0, 2)) := by unfold Hid; rw [HF0]; exact if_pos (.inr hb.out)
 clear HF0
 have hs := readH_some hr.out
 have hsz : Hid (p + sz <= l.length) := by have h1 := hs.le; have h2 := hp.out; rw [List.length_drop] at h1; unfold Hid; omega
 have s1 : (p : Int) + (sz : Int) <= (l.length : Int) := by have := hsz.out; omega
 have s0 : (0 : Int) < (sz : Int) := by have := hs.pos; omega
 have s2 : ((sz : Int) == 0) = false := by simp; omega
 have s3 : (sz = 0) = False := by simp; have := hs.pos; omega
 have n0 : (0 : Int) <= (n : Int) := by omega
 have n1 : (n : Int) < 18446744073709551616 := by have := hs.n64; omega
 clear hs
 have dz : ((d : Int) + 1 == 0) = false := by simp; omega
 have dz2 : ((d : Int) + 1 = 0) = False := by simp; omega
 have tt : decide ((l.length : Int) - ((p : Int) + (sz : Int)) < (n : Int)) = true := by have h1 := hb.out; rw [List.length_drop] at h1; simp; omega
 have tt2 : ((l.length : Int) - ((p : Int) + (sz : Int)) < (n : Int)) = True := by have h1 := hb.out; rw [List.length_drop] at h1; simp; omega
 clear n1
 have p0 : (0 : Int) <= (p : Int) := by omega
 have p1 : (p : Int) <= (l.length : Int) := by have := hp.out; omega
 have l1 : (l.length : Int) <= 1073741824 := by have := hp.out; omega
 go_enter Tryz.func49, Tryz.ntmps49
 rcases hm.out with rfl | rfl
 .
  go_wp2_with (go_at_call 52; rw [extract_rest]; refine (read_any (l.drop p) _).mono ?_; rintro x w1 ⟨rfl, hb1⟩; rw [hr.out]; dsimp only [gotOf, gotV])
  go_ret2
  refine Ret.mk (by rw [HF.out]; simp [faultV]) ?_
  exact ((hb1).alloc _)
 .
  go_wp2_with (go_at_call 52; rw [extract_rest]; refine (read_any (l.drop p) _).mono ?_; rintro x w1 ⟨rfl, hb1⟩; rw [hr.out]; dsimp only [gotOf, gotV])
  go_ret2
  refine Ret.mk (by rw [HF.out]; simp [faultV]) ?_
  exact ((hb1).alloc _)
set_option maxRecDepth 20000 in
set_option maxHeartbeats 1600000 in
theorem fault_str_good (l : List UInt8) (p : Nat) (hp : Hid (p <= l.length /\ l.length <= 1073741824)) (d sz m n : Nat) (hm : Hid (m = 2 \/ m = 3)) (hr : Hid (readH (l.drop p) = some (sz, m, n, false))) (hb : Hid (¬ (l.drop p).length - sz < n)) (w : World) :
  Calls Tryz.prog 49 #[str l, .int .i64 (p : Int), .int .i64 ((d : Int) + 1)] w (Ret (faultV p (flt (d + 1) (l.drop p))) w) := by
 have HF0 := flt_str (d := d) hr.out hm.out
 have HF : Hid (flt (d + 1) (l.drop p) = (sz + n, 0)) := by unfold Hid; rw [HF0]; exact if_neg (by rintro (h | h); cases h; exact hb.out h)
 clear HF0
 have hs := readH_some hr.out
 have hsz : Hid (p + sz <= l.length) := by have h1 := hs.le; have h2 := hp.out; rw [List.length_drop] at h1; unfold Hid; omega
 have s1 : (p : Int) + (sz : Int) <= (l.length : Int) := by have := hsz.out; omega
 have s0 : (0 : Int) < (sz : Int) := by have := hs.pos; omega
 have s2 : ((sz : Int) == 0) = false := by simp; omega
 have s3 : (sz = 0) = False := by simp; have := hs.pos; omega
 have n0 : (0 : Int) <= (n : Int) := by omega
 have n1 : (n : Int) < 18446744073709551616 := by have := hs.n64; omega
 clear hs
 have dz : ((d : Int) + 1 == 0) = false := by simp; omega
 have dz2 : ((d : Int) + 1 = 0) = False := by simp; omega
 have tt : decide ((l.length : Int) - ((p : Int) + (sz : Int)) < (n : Int)) = false := by have h1 := hb.out; rw [List.length_drop] at h1; simp; omega
 have tt2 : ((l.length : Int) - ((p : Int) + (sz : Int)) < (n : Int)) = False := by have h1 := hb.out; rw [List.length_drop] at h1; simp; omega
 have n2 : (p : Int) + (sz : Int) + (n : Int) <= (l.length : Int) := by have h1 := hb.out; rw [List.length_drop] at h1; omega
 clear n1
 have p0 : (0 : Int) <= (p : Int) := by omega
 have p1 : (p : Int) <= (l.length : Int) := by have := hp.out; omega
 have l1 : (l.length : Int) <= 1073741824 := by have := hp.out; omega
 go_enter Tryz.func49, Tryz.ntmps49
 rcases hm.out with rfl | rfl
 .
  go_wp2_with (go_at_call 52; rw [extract_rest]; refine (read_any (l.drop p) _).mono ?_; rintro x w1 ⟨rfl, hb1⟩; rw [hr.out]; dsimp only [gotOf, gotV])
  go_ret2
  refine Ret.mk (by rw [HF.out]; simp [faultV, Int.add_assoc]) ?_
  exact ((hb1).alloc _)
 .
  go_wp2_with (go_at_call 52; rw [extract_rest]; refine (read_any (l.drop p) _).mono ?_; rintro x w1 ⟨rfl, hb1⟩; rw [hr.out]; dsimp only [gotOf, gotV])
  go_ret2
  refine Ret.mk (by rw [HF.out]; simp [faultV, Int.add_assoc]) ?_
  exact ((hb1).alloc _)
set_option maxRecDepth 20000 in
set_option maxHeartbeats 1600000 in
theorem fault_long (l : List UInt8) (p : Nat) (hp : Hid (p <= l.length /\ l.length <= 1073741824)) (d sz n : Nat) (hn : Hid (1000 < n)) (hr : Hid (readH (l.drop p) = some (sz, 4, n, false))) (w : World) :
  Calls Tryz.prog 49 #[str l, .int .i64 (p : Int), .int .i64 ((d : Int) + 1)] w (Ret (faultV p (flt (d + 1) (l.drop p))) w) := by
 have HF := hid (flt_long (d := d) hr.out hn.out)
 have tn : decide (1000 < (n : Int)) = true := by have := hn.out; simp; omega
 have hs := readH_some hr.out
 have hsz : Hid (p + sz <= l.length) := by have h1 := hs.le; have h2 := hp.out; rw [List.length_drop] at h1; unfold Hid; omega
 have s1 : (p : Int) + (sz : Int) <= (l.length : Int) := by have := hsz.out; omega
 have s0 : (0 : Int) < (sz : Int) := by have := hs.pos; omega
 have s2 : ((sz : Int) == 0) = false := by simp; omega
 have s3 : (sz = 0) = False := by simp; have := hs.pos; omega
 have n0 : (0 : Int) <= (n : Int) := by omega
 clear hs
 have dz : ((d : Int) + 1 == 0) = false := by simp; omega
 have dz2 : ((d : Int) + 1 = 0) = False := by simp; omega
 have p0 : (0 : Int) <= (p : Int) := by omega
 have p1 : (p : Int) <= (l.length : Int) := by have := hp.out; omega
 have l1 : (l.length : Int) <= 1073741824 := by have := hp.out; omega
 go_enter Tryz.func49, Tryz.ntmps49
 go_wp2_with (go_at_call 52; rw [extract_rest]; refine (read_any (l.drop p) _).mono ?_; rintro x w1 ⟨rfl, hb1⟩; rw [hr.out]; dsimp only [gotOf, gotV])
 go_ret2
 refine Ret.mk (by rw [HF.out]; simp [faultV]) ?_
 exact ((hb1).alloc _)
theorem floop_next {f : List UInt8 -> Nat × Int} {L : List UInt8} {o : Bool} {n i e : Nat} (hi : i < 1000) (hin : o = false -> i < n) (hnb : ¬ (o = true /\ L[e]? = some 255)) :
  floop f L o n (1000 - i) e = if (f (L.drop e)).2 = 0 then floop f L o n (1000 - (i + 1)) (e + (f (L.drop e)).1) else (e + (f (L.drop e)).1, (f (L.drop e)).2) := by
 rw [show 1000 - i = (1000 - (i + 1)) + 1 by omega]
 conv => lhs; unfold floop
 rw [if_neg (by rintro ⟨ho, hn⟩; have := hin ho; omega), if_neg hnb]
theorem floop_end {f : List UInt8 -> Nat × Int} {L : List UInt8} {n i e : Nat} (h1 : i <= 1000) (hi : i = n) : floop f L false n (1000 - i) e = (e, 0) := by
 cases hj : 1000 - i with
 | zero => unfold floop; rw [if_pos ⟨rfl, by omega⟩]
 | succ j => unfold floop; rw [if_pos ⟨rfl, by omega⟩]
theorem floop_break {f : List UInt8 -> Nat × Int} {L : List UInt8} {n i e : Nat} (hb : L[e]? = some 255) : floop f L true n (1000 - i) e = (e + 1, 0) := by
 cases hj : 1000 - i with
 | zero => unfold floop; rw [if_neg (by simp), if_pos ⟨rfl, hb⟩]
 | succ j => unfold floop; rw [if_neg (by simp), if_pos ⟨rfl, hb⟩]
theorem floop_long {f : List UInt8 -> Nat × Int} {L : List UInt8} {n i e : Nat} (hi : i = 1000) (hb : ¬ L[e]? = some 255) : floop f L true n (1000 - i) e = (e, 4) := by
 rw [hi, show 1000 - 1000 = 0 from rfl]
 unfold floop
 rw [if_neg (by simp), if_neg (fun x => hb x.2)]
set_option maxRecDepth 20000 in
set_option maxHeartbeats 1600000 in
theorem fault_arr_false (l : List UInt8) (p : Nat) (hp : Hid (p <= l.length /\ l.length <= 1073741824)) (d sz n : Nat) (hd : Hid (d <= 8)) (IH : Hid (∀ q, q <= l.length -> ∀ w, Calls Tryz.prog 49 #[str l, .int .i64 (q : Int), .int .i64 (d : Int)] w (Ret (faultV q (flt d (l.drop q))) w))) (hn : Hid (¬ (false = false /\ 1000 < n))) (hr : Hid (readH (l.drop p) = some (sz, 4, n, false))) (w : World) :
  Calls Tryz.prog 49 #[str l, .int .i64 (p : Int), .int .i64 ((d : Int) + 1)] w (Ret (faultV p (flt (d + 1) (l.drop p))) w) := by
 have HF := hid (flt_arr (d := d) hr.out hn.out)
 have hs := readH_some hr.out
 have hsz : Hid (p + sz <= l.length) := by have h1 := hs.le; have h2 := hp.out; rw [List.length_drop] at h1; unfold Hid; omega
 have s1 : (p : Int) + (sz : Int) <= (l.length : Int) := by have := hsz.out; omega
 have s0 : (0 : Int) < (sz : Int) := by have := hs.pos; omega
 have s2 : ((sz : Int) == 0) = false := by simp; omega
 have s3 : (sz = 0) = False := by simp; have := hs.pos; omega
 have n0 : (0 : Int) <= (n : Int) := by omega
 clear hs
 have dz : ((d : Int) + 1 == 0) = false := by simp; omega
 have dz2 : ((d : Int) + 1 = 0) = False := by simp; omega
 have tn : decide (1000 < (n : Int)) = false := by have := hn.out; simp at this ⊢; omega
 have p0 : (0 : Int) <= (p : Int) := by omega
 have p1 : (p : Int) <= (l.length : Int) := by have := hp.out; omega
 have l1 : (l.length : Int) <= 1073741824 := by have := hp.out; omega
 go_enter Tryz.func49, Tryz.ntmps49
 go_upto_region 17 with (go_at_call 52; rw [extract_rest]; refine (read_any (l.drop p) _).mono ?_; rintro x w1 ⟨rfl, hb1⟩; rw [hr.out]; dsimp only [gotOf, gotV])
 have HBG : Hid (Blk (w1.alloc (.cells #[.int .i64 (sz : Int), .int .i64 4, .int .u64 (n : Int), .bool false] 96)) w1.heap.size 96 #[.int .i64 (sz : Int), .int .i64 4, .int .u64 (n : Int), .bool false]) := Blk.new _ _ _
 have HEG : Hid (Ext w (w1.alloc (.cells #[.int .i64 (sz : Int), .int .i64 4, .int .u64 (n : Int), .bool false] 96))) := hb1.alloc _
 clear hb1
 generalize w1.heap.size = G at *
 go_wp2_with fail
 go_loopw [9, 10] (fun s9 s10 wr => ∃ i e q : Nat, s10 = .int .i64 (i : Int) /\ s9 = .int .i64 (q : Int) /\ Hid (q = p + e /\ i <= 1000 /\ q <= l.length /\ floop (flt d) (l.drop p) false n (1000 - i) e = floop (flt d) (l.drop p) false n 1000 sz /\ (false = false -> i <= n)) /\ Hid (Ext w wr /\ Blk wr G 96 #[.int .i64 (sz : Int), .int .i64 4, .int .u64 (n : Int), .bool false])) (fun _ k _ => 1001 - (intOf k).toNat)
 case atStart => exact ⟨0, sz, p + sz, rfl, by simp, ⟨rfl, by omega, hsz.out, rfl, fun _ => Nat.zero_le _⟩, HEG.out, HBG.out⟩
 case round =>
  clear HEG HBG s1 s0 s2 s3
  obtain ⟨i, e, q, rfl, rfl, hQ, hW⟩ := hrel
  have i0 : (0 : Int) <= (i : Int) := by omega
  have i1 : (i : Int) <= 1000 := by have := hQ.out; omega
  have q0 : (0 : Int) <= (q : Int) := by omega
  have q1 : (q : Int) <= (l.length : Int) := by have := hQ.out; omega
  have g2 : wr.cell? ⟨G, 2, none⟩ = some (.int .u64 (n : Int)) := hW.out.2.cell 2
  have g3 : wr.cell? ⟨G, 3, none⟩ = some (.bool false) := hW.out.2.cell 3
  have d0 : (0 : Int) <= (d : Int) := by omega
  have d1 : (d : Int) <= 8 := by have := hd.out; omega
  by_cases hlt : i < n
  .
   have ti : decide (i < n) = true := by simp [hlt]
   have HI9 : Hid (i < 1000) := by have := hn.out; simp at this; unfold Hid; omega
   have tk : ((i : Int) == 1000) = false := by have := HI9.out; simp; omega
   have tk2 : (i = 1000) = False := by have := HI9.out; simp; omega
   have HLT := hid hlt
   clear hlt
   go_wp2_with fail
   refine (IH.out q hQ.out.2.2.1 _).mono ?_
   rintro x w3 ⟨rfl, hb3⟩
   have HW3 := hid (show Ext w w3 /\ Blk w3 G 96 #[.int .i64 (sz : Int), .int .i64 4, .int .u64 (n : Int), .bool false] from ⟨hW.out.1.trans hb3, hW.out.2.ext hb3⟩)
   have hle := flt_le d (l.drop q)
   rw [List.length_drop] at hle
   have HR : Hid (floop (flt d) (l.drop p) false n 1000 sz = if (flt d (l.drop q)).2 = 0 then floop (flt d) (l.drop p) false n (1000 - (i + 1)) (e + (flt d (l.drop q)).1) else (e + (flt d (l.drop q)).1, (flt d (l.drop q)).2)) := by
    unfold Hid
    rw [<- hQ.out.2.2.2.1, floop_next HI9.out (fun _ => HLT.out) (by simp), List.drop_drop, <- hQ.out.1]
   generalize flt d (l.drop q) = Rq at *
   obtain ⟨r, E⟩ := Rq
   dsimp only [faultV] at HR ⊢
   have hle2 : r <= l.length - q := hle
   have HLE := hid hle2
   have r1 : ((q + r : Nat) : Int) <= (l.length : Int) := by have := hQ.out; omega
   clear hle hle2 hb3 g2 g3
   by_cases hE : E = 0
   .
    subst hE
    have HR2 := HR.out
    rw [if_pos rfl] at HR2
    have HR3 := hid HR2
    clear HR HR2
    go_wp2_with fail
    have hq := hQ.out
    have hle := HLE.out
    have hi9 := HI9.out
    refine ⟨⟨i + 1, e + r, q + r, by simp, by simp, (show Hid _ from ⟨by omega, by omega, by omega, HR3.out.symm, fun _ => by have := HLT.out; omega⟩), (show Hid _ from HW3.out)⟩, ?_⟩
    simp only [intOf]; omega
   .
    have te : (E == 0) = false := by simp [hE]
    have te2 : (E = 0) = False := by simp [hE]
    have tn3 : (E != 0) = true := by simp [hE]
    have HR2 := HR.out
    rw [if_neg hE] at HR2
    have HR3 := hid HR2
    clear HR HR2 hE
    go_wp2_with fail
    go_ret2
    refine Ret.mk ?_ HW3.out.1
    rw [HF.out, HR3.out, faultV]
    have := hQ.out.1
    simp; omega
  .
   obtain rfl : i = n := by have := hQ.out.2.2.2.2 rfl; omega
   have ti : decide (i < i) = false := by simp
   have HFE := hid (floop_end (f := flt d) (L := l.drop p) (e := e) hQ.out.2.1 rfl)
   go_wp2_with fail
   go_ret2
   refine Ret.mk ?_ hW.out.1
   rw [HF.out, <- hQ.out.2.2.2.1, HFE.out, faultV, <- hQ.out.1]
   rfl
set_option maxRecDepth 20000 in
set_option maxHeartbeats 1600000 in
theorem fault_arr_true (l : List UInt8) (p : Nat) (hp : Hid (p <= l.length /\ l.length <= 1073741824)) (d sz n : Nat) (hd : Hid (d <= 8)) (IH : Hid (∀ q, q <= l.length -> ∀ w, Calls Tryz.prog 49 #[str l, .int .i64 (q : Int), .int .i64 (d : Int)] w (Ret (faultV q (flt d (l.drop q))) w))) (hn : Hid (¬ (true = false /\ 1000 < n))) (hr : Hid (readH (l.drop p) = some (sz, 4, n, true))) (w : World) :
  Calls Tryz.prog 49 #[str l, .int .i64 (p : Int), .int .i64 ((d : Int) + 1)] w (Ret (faultV p (flt (d + 1) (l.drop p))) w) := by
 have HF := hid (flt_arr (d := d) hr.out hn.out)
 have hs := readH_some hr.out
 have hsz : Hid (p + sz <= l.length) := by have h1 := hs.le; have h2 := hp.out; rw [List.length_drop] at h1; unfold Hid; omega
 have s1 : (p : Int) + (sz : Int) <= (l.length : Int) := by have := hsz.out; omega
 have s0 : (0 : Int) < (sz : Int) := by have := hs.pos; omega
 have s2 : ((sz : Int) == 0) = false := by simp; omega
 have s3 : (sz = 0) = False := by simp; have := hs.pos; omega
 have n0 : (0 : Int) <= (n : Int) := by omega
 clear hs
 have dz : ((d : Int) + 1 == 0) = false := by simp; omega
 have dz2 : ((d : Int) + 1 = 0) = False := by simp; omega
 have p0 : (0 : Int) <= (p : Int) := by omega
 have p1 : (p : Int) <= (l.length : Int) := by have := hp.out; omega
 have l1 : (l.length : Int) <= 1073741824 := by have := hp.out; omega
 go_enter Tryz.func49, Tryz.ntmps49
 go_upto_region 17 with (go_at_call 52; rw [extract_rest]; refine (read_any (l.drop p) _).mono ?_; rintro x w1 ⟨rfl, hb1⟩; rw [hr.out]; dsimp only [gotOf, gotV])
 have HBG : Hid (Blk (w1.alloc (.cells #[.int .i64 (sz : Int), .int .i64 4, .int .u64 (n : Int), .bool true] 96)) w1.heap.size 96 #[.int .i64 (sz : Int), .int .i64 4, .int .u64 (n : Int), .bool true]) := Blk.new _ _ _
 have HEG : Hid (Ext w (w1.alloc (.cells #[.int .i64 (sz : Int), .int .i64 4, .int .u64 (n : Int), .bool true] 96))) := hb1.alloc _
 clear hb1
 generalize w1.heap.size = G at *
 go_wp2_with fail
 go_loopw [9, 10] (fun s9 s10 wr => ∃ i e q : Nat, s10 = .int .i64 (i : Int) /\ s9 = .int .i64 (q : Int) /\ Hid (q = p + e /\ i <= 1000 /\ q <= l.length /\ floop (flt d) (l.drop p) true n (1000 - i) e = floop (flt d) (l.drop p) true n 1000 sz /\ (true = false -> i <= n)) /\ Hid (Ext w wr /\ Blk wr G 96 #[.int .i64 (sz : Int), .int .i64 4, .int .u64 (n : Int), .bool true])) (fun _ k _ => 1001 - (intOf k).toNat)
 case atStart => exact ⟨0, sz, p + sz, rfl, by simp, ⟨rfl, by omega, hsz.out, rfl, fun _ => Nat.zero_le _⟩, HEG.out, HBG.out⟩
 case round =>
  clear HEG HBG s1 s0 s2 s3
  obtain ⟨i, e, q, rfl, rfl, hQ, hW⟩ := hrel
  have i0 : (0 : Int) <= (i : Int) := by omega
  have i1 : (i : Int) <= 1000 := by have := hQ.out; omega
  have q0 : (0 : Int) <= (q : Int) := by omega
  have q1 : (q : Int) <= (l.length : Int) := by have := hQ.out; omega
  have g2 : wr.cell? ⟨G, 2, none⟩ = some (.int .u64 (n : Int)) := hW.out.2.cell 2
  have g3 : wr.cell? ⟨G, 3, none⟩ = some (.bool true) := hW.out.2.cell 3
  have d0 : (0 : Int) <= (d : Int) := by omega
  have d1 : (d : Int) <= 8 := by have := hd.out; omega
  by_cases hb : l[q]? = some 255
  .
   have HFB := hid (floop_break (f := flt d) (L := l.drop p) (n := n) (i := i) (e := e) (by rw [List.getElem?_drop, <- hQ.out.1]; exact hb))
   obtain ⟨hq, hv⟩ := List.getElem?_eq_some_iff.1 hb
   have tq : decide (q < l.length) = true := by simp [hq]
   have hv2 : ∀ h : q < (⟨l.toArray⟩ : ByteArray).size, (⟨l.toArray⟩ : ByteArray)[q]'h = 255 := fun h => by show l.toArray[q] = 255; simpa using hv
   have hv3 : l[q] = 255 := hv
   have hq2 : (q : Int) < (l.length : Int) := by omega
   clear hb hv
   go_wp2_with fail
   go_ret2
   refine Ret.mk ?_ hW.out.1
   rw [HF.out, <- hQ.out.2.2.2.1, HFB.out, faultV]
   have := hQ.out.1
   simp; omega
  .
   have HNB : Hid (¬ (l.drop p)[e]? = some 255) := by unfold Hid; rw [List.getElem?_drop, <- hQ.out.1]; exact hb
   by_cases hq : q < l.length
   .
    have hv3 : ¬ l[q] = 255 := fun h => hb (List.getElem?_eq_some_iff.2 ⟨hq, h⟩)
    have tq : decide (q < l.length) = true := by simp [hq]
    have hq2 : (q : Int) < (l.length : Int) := by omega
    have hv6 : ∀ h : q < (⟨l.toArray⟩ : ByteArray).size, ((((⟨l.toArray⟩ : ByteArray)[q]'h).toNat : Int) == 255) = false := fun h => by
     have e : ¬ ((⟨l.toArray⟩ : ByteArray)[q]'h).toNat = 255 := fun e => hv3 (by have e2 : l[q].toNat = 255 := e; rw [<- b8_toNat l[q], e2]; rfl)
     simp; omega
    clear hb
    by_cases hi : i = 1000
    .
     have tk : ((i : Int) == 1000) = true := by simp [hi]
     have tk2 : (i = 1000) = True := by simp [hi]
     have HFL := hid (floop_long (f := flt d) (L := l.drop p) (n := n) (e := e) hi HNB.out)
     clear hi
     go_wp2_with fail
     go_ret2
     refine Ret.mk ?_ hW.out.1
     rw [HF.out, <- hQ.out.2.2.2.1, HFL.out, faultV, <- hQ.out.1]
     rfl
    .
     have HI9 : Hid (i < 1000) := by have := hQ.out; unfold Hid; omega
     have tk : ((i : Int) == 1000) = false := by simp; omega
     have tk2 : (i = 1000) = False := by simp [hi]
     clear hi
     go_wp2_with fail
     refine (IH.out q hQ.out.2.2.1 _).mono ?_
     rintro x w3 ⟨rfl, hb3⟩
     have HW3 := hid (show Ext w w3 /\ Blk w3 G 96 #[.int .i64 (sz : Int), .int .i64 4, .int .u64 (n : Int), .bool true] from ⟨hW.out.1.trans hb3, hW.out.2.ext hb3⟩)
     have hle := flt_le d (l.drop q)
     rw [List.length_drop] at hle
     have HR : Hid (floop (flt d) (l.drop p) true n 1000 sz = if (flt d (l.drop q)).2 = 0 then floop (flt d) (l.drop p) true n (1000 - (i + 1)) (e + (flt d (l.drop q)).1) else (e + (flt d (l.drop q)).1, (flt d (l.drop q)).2)) := by
      unfold Hid
      rw [<- hQ.out.2.2.2.1, floop_next HI9.out (fun h => by cases h) (fun h => HNB.out h.2), List.drop_drop, <- hQ.out.1]
     generalize flt d (l.drop q) = Rq at *
     obtain ⟨r, E⟩ := Rq
     dsimp only [faultV] at HR ⊢
     have hle2 : r <= l.length - q := hle
     have HLE := hid hle2
     have r1 : ((q + r : Nat) : Int) <= (l.length : Int) := by have := hQ.out; omega
     clear hle hle2 hb3 g2 g3
     by_cases hE : E = 0
     .
      subst hE
      have HR2 := HR.out
      rw [if_pos rfl] at HR2
      have HR3 := hid HR2
      clear HR HR2
      go_wp2_with fail
      have hq := hQ.out
      have hle := HLE.out
      have hi9 := HI9.out
      refine ⟨⟨i + 1, e + r, q + r, by simp, by simp, (show Hid _ from ⟨by omega, by omega, by omega, HR3.out.symm, fun h => by cases h⟩), (show Hid _ from HW3.out)⟩, ?_⟩
      simp only [intOf]; omega
     .
      have te : (E == 0) = false := by simp [hE]
      have te2 : (E = 0) = False := by simp [hE]
      have tn3 : (E != 0) = true := by simp [hE]
      have HR2 := HR.out
      rw [if_neg hE] at HR2
      have HR3 := hid HR2
      clear HR HR2 hE
      go_wp2_with fail
      go_ret2
      refine Ret.mk ?_ HW3.out.1
      rw [HF.out, HR3.out, faultV]
      have := hQ.out.1
      simp; omega
   .
    have tq : decide (q < l.length) = false := by simp [hq]
    clear hb
    by_cases hi : i = 1000
    .
     have tk : ((i : Int) == 1000) = true := by simp [hi]
     have tk2 : (i = 1000) = True := by simp [hi]
     have HFL := hid (floop_long (f := flt d) (L := l.drop p) (n := n) (e := e) hi HNB.out)
     clear hi
     go_wp2_with fail
     go_ret2
     refine Ret.mk ?_ hW.out.1
     rw [HF.out, <- hQ.out.2.2.2.1, HFL.out, faultV, <- hQ.out.1]
     rfl
    .
     have HI9 : Hid (i < 1000) := by have := hQ.out; unfold Hid; omega
     have tk : ((i : Int) == 1000) = false := by simp; omega
     have tk2 : (i = 1000) = False := by simp [hi]
     clear hi
     go_wp2_with fail
     refine (IH.out q hQ.out.2.2.1 _).mono ?_
     rintro x w3 ⟨rfl, hb3⟩
     have HW3 := hid (show Ext w w3 /\ Blk w3 G 96 #[.int .i64 (sz : Int), .int .i64 4, .int .u64 (n : Int), .bool true] from ⟨hW.out.1.trans hb3, hW.out.2.ext hb3⟩)
     have hle := flt_le d (l.drop q)
     rw [List.length_drop] at hle
     have HR : Hid (floop (flt d) (l.drop p) true n 1000 sz = if (flt d (l.drop q)).2 = 0 then floop (flt d) (l.drop p) true n (1000 - (i + 1)) (e + (flt d (l.drop q)).1) else (e + (flt d (l.drop q)).1, (flt d (l.drop q)).2)) := by
      unfold Hid
      rw [<- hQ.out.2.2.2.1, floop_next HI9.out (fun h => by cases h) (fun h => HNB.out h.2), List.drop_drop, <- hQ.out.1]
     generalize flt d (l.drop q) = Rq at *
     obtain ⟨r, E⟩ := Rq
     dsimp only [faultV] at HR ⊢
     have hle2 : r <= l.length - q := hle
     have HLE := hid hle2
     have r1 : ((q + r : Nat) : Int) <= (l.length : Int) := by have := hQ.out; omega
     clear hle hle2 hb3 g2 g3
     by_cases hE : E = 0
     .
      subst hE
      have HR2 := HR.out
      rw [if_pos rfl] at HR2
      have HR3 := hid HR2
      clear HR HR2
      go_wp2_with fail
      have hq := hQ.out
      have hle := HLE.out
      have hi9 := HI9.out
      refine ⟨⟨i + 1, e + r, q + r, by simp, by simp, (show Hid _ from ⟨by omega, by omega, by omega, HR3.out.symm, fun h => by cases h⟩), (show Hid _ from HW3.out)⟩, ?_⟩
      simp only [intOf]; omega
     .
      have te : (E == 0) = false := by simp [hE]
      have te2 : (E = 0) = False := by simp [hE]
      have tn3 : (E != 0) = true := by simp [hE]
      have HR2 := HR.out
      rw [if_neg hE] at HR2
      have HR3 := hid HR2
      clear HR HR2 hE
      go_wp2_with fail
      go_ret2
      refine Ret.mk ?_ HW3.out.1
      rw [HF.out, HR3.out, faultV]
      have := hQ.out.1
      simp; omega
theorem fault_any (l : List UInt8) (hl : l.length <= 1073741824) : ∀ d : Nat, d <= 9 -> ∀ p, p <= l.length -> ∀ w, Calls Tryz.prog 49 #[str l, .int .i64 (p : Int), .int .i64 (d : Int)] w (Ret (faultV p (flt d (l.drop p))) w) := by
 intro d
 induction d with
 | zero =>
  intro _ p hp w
  cases hr : readH (l.drop p) with
  | none => exact fault_none l p ⟨hp, hl⟩ 0 hr w
  | some x =>
   obtain ⟨sz, m, n, o⟩ := x
   have hm := (readH_some hr).m7
   have h8 : (m = 1 \/ m = 5 \/ m = 6 \/ m = 7) \/ (m = 0 \/ m = 2 \/ m = 3 \/ m = 4) := by omega
   rcases h8 with h8 | h8
   . exact fault_noK l p ⟨hp, hl⟩ 0 sz m n o h8 hr w
   . exact fault_deep l p ⟨hp, hl⟩ sz m n o h8 hr w
 | succ d ih =>
  intro hd p hp w
  have ih' := ih (by omega)
  have e : ((d + 1 : Nat) : Int) = (d : Int) + 1 := by omega
  cases hr : readH (l.drop p) with
  | none => exact fault_none l p ⟨hp, hl⟩ (d + 1) hr w
  | some x =>
   obtain ⟨sz, m, n, o⟩ := x
   have hm := (readH_some hr).m7
   have h8 : (m = 1 \/ m = 5 \/ m = 6 \/ m = 7) \/ m = 0 \/ (m = 2 \/ m = 3) \/ m = 4 := by omega
   rcases h8 with h8 | rfl | h8 | rfl
   . exact fault_noK l p ⟨hp, hl⟩ (d + 1) sz m n o h8 hr w
   . rw [e]; exact fault_num l p ⟨hp, hl⟩ d sz n o hr w
   .
    rw [e]
    cases o with
    | true => exact fault_str_open l p ⟨hp, hl⟩ d sz m n h8 hr w
    | false =>
     by_cases hb : (l.drop p).length - sz < n
     . exact fault_str_bad l p ⟨hp, hl⟩ d sz m n h8 hr hb w
     . exact fault_str_good l p ⟨hp, hl⟩ d sz m n h8 hr hb w
   .
    rw [e]
    cases o with
    | false =>
     by_cases hn : 1000 < n
     . exact fault_long l p ⟨hp, hl⟩ d sz n hn hr w
     . exact fault_arr_false l p ⟨hp, hl⟩ d sz n (by unfold Hid; omega) ih' (fun h => hn h.2) hr w
    | true => exact fault_arr_true l p ⟨hp, hl⟩ d sz n (by unfold Hid; omega) ih' (fun h => by cases h.1) hr w
def cntGe (bs : Nat -> BV) (n : Int) : Nat -> Nat
 | 0 => 0
 | k + 1 => cntGe bs n k + (if n <= (bs k).num then 1 else 0)
theorem cntGe_le (bs : Nat -> BV) (n : Int) : ∀ k, cntGe bs n k <= k
 | 0 => Nat.le_refl _
 | k + 1 => by have := cntGe_le bs n k; rw [cntGe]; split <;> omega
theorem cntGe_mono (bs : Nat -> BV) (n : Int) : ∀ k, cntGe bs (n + 1) k <= cntGe bs n k
 | 0 => Nat.le_refl _
 | k + 1 => by
  have := cntGe_mono bs n k
  rw [cntGe, cntGe]
  split <;> split <;> omega
theorem cntGe_less {bs : Nat -> BV} {n : Int} {i : Nat} : ∀ {k : Nat}, i < k -> (bs i).num = n -> cntGe bs (n + 1) k + 1 <= cntGe bs n k
 | k + 1, h, hn => by
  rw [cntGe, cntGe]
  by_cases e : i = k
  .
   subst e
   have := cntGe_mono bs n i
   rw [if_neg (by omega), if_pos (by omega)]
   omega
  .
   have := cntGe_less (k := k) (by omega) hn
   split <;> split <;> omega
def usedB (bs : Nat -> BV) (k : Nat) (n : Nat) : Prop := ∃ i, firstOf (numB bs (n : Int)) k = some i
theorem free_ex (bs : Nat -> BV) (k : Nat) : ∀ (m n : Nat), cntGe bs (n : Int) k <= m -> ∃ N, n <= N /\ N <= n + m /\ firstOf (numB bs (N : Int)) k = none /\ ∀ j, n <= j -> j < N -> usedB bs k j
 | m, n, h => by
  cases hf : firstOf (numB bs (n : Int)) k with
  | none => exact ⟨n, Nat.le_refl _, by omega, hf, fun j h1 h2 => by omega⟩
  | some i =>
   obtain ⟨h1, h2, _⟩ := firstOf_spec hf
   have hn : (bs i).num = (n : Int) := by simpa [numB, hasNum] using h2
   have hl := cntGe_less h1 hn
   obtain ⟨m', rfl⟩ : ∃ m', m = m' + 1 := ⟨m - 1, by omega⟩
   have h3 : cntGe bs ((n + 1 : Nat) : Int) k <= m' := by
      have : ((n + 1 : Nat) : Int) = (n : Int) + 1 := by omega
      rw [this]; omega
   obtain ⟨N, a1, a2, a3, a4⟩ := free_ex bs k m' (n + 1) h3
   refine ⟨N, by omega, by omega, a3, fun j b1 b2 => ?_⟩
   by_cases e : j = n
   . subst e; exact ⟨i, hf⟩
   . exact a4 j (by omega) b2
noncomputable def freeN (bs : Nat -> BV) (k : Nat) : Nat := (free_ex bs k (cntGe bs ((2 : Nat) : Int) k) 2 (Nat.le_refl _)).choose
theorem freeN_spec (bs : Nat -> BV) (k : Nat) : 2 <= freeN bs k /\ freeN bs k <= 2 + k /\ firstOf (numB bs (freeN bs k : Int)) k = none /\ ∀ j, 2 <= j -> j < freeN bs k -> usedB bs k j := by
 obtain ⟨h1, h2, h3, h4⟩ := (free_ex bs k (cntGe bs ((2 : Nat) : Int) k) 2 (Nat.le_refl _)).choose_spec
 have := cntGe_le bs ((2 : Nat) : Int) k
 exact ⟨h1, Nat.le_trans h2 (by omega), h3, h4⟩
set_option maxRecDepth 20000 in
set_option maxHeartbeats 800000 in
theorem Free_any (p : PV) (bs : Nat -> BV) (k c : Nat) (A : Option Addr) (hk : k < 4611686018427387904) (w : World) (h : BsL w A k bs) : Calls Tryz.prog 63 #[bunV p A k c] w (Ret (.int .i64 (freeN bs k : Nat)) w) := by
 have HS := hid (freeN_spec bs k)
 have KA := hid (fun W n (hW : BsL W A k bs) => at_any p bs k c A n hk W hW)
 have n9 : ((freeN bs k : Nat) : Int) <= 4611686018427387910 := by have := HS.out.2.1; omega
 generalize freeN bs k = N at *
 have HE := hid ((Mod.refl [] w).alloc (.cells (bunC p A k c) 29))
 have HB0 : Hid (Blk (w.alloc (.cells (bunC p A k c) 29)) w.heap.size 29 (bunC p A k c)) := hid (Blk.new w 29 (bunC p A k c))
 have HL := hid (BsL.ext h HE.out)
 clear h hk
 go_enter Tryz.func63, Tryz.ntmps63
 go_upto_region 1 with fail
 generalize (w.alloc (.cells (bunC p A k c) 29)) = V at *
 obtain ⟨e, he⟩ := Later.self V
 rw [he]
 clear he
 go_upto_region 2 with fail
 go_loopw [3] (fun s3 wr => ∃ n : Nat, s3 = .int .i64 (n : Int) /\ Hid (2 <= n /\ n <= N) /\ ∃ e : Later V, wr = e.x) (fun s3 _ => N - (intOf s3).toNat)
 case atStart => exact ⟨2, rfl, (show Hid _ from ⟨by omega, HS.out.1⟩), e, rfl⟩
 case round =>
  clear e
  obtain ⟨n, rfl, hn, e, rfl⟩ := hrel
  have n0 : (0 : Int) <= (n : Int) := by omega
  have n1 : (n : Int) <= (N : Int) := by have := hn.out; omega
  by_cases hlt : n < N
  .
   obtain ⟨i, hi⟩ := HS.out.2.2.2 n hn.out.1 hlt
   have KB := hid (fun W hW => KA.out W (n : Int) hW)
   unfold firstI at KB
   rw [hi] at KB
   have HLT := hid hlt
   have i0 : (0 : Int) <= (i : Int) := by omega
   have i1 : decide ((i : Int) < 0) = false := by simp
   have i2 : ((i : Int) < 0) = False := eq_false (by omega)
   have i3 : decide ((0 : Int) <= (i : Int)) = true := decide_eq_true (by omega)
   have n2 : (n : Int) < (N : Int) := by omega
   clear hi hlt KA
   go_wp2_with (first | (refine wpList_row (by rfl) 29 _ rfl _ rfl (HB0.out.later _) vqA rfl (by kernel_rfl) ?_) | (go_at_call 83; refine (Ret.later (KB.out _ (HL.out.ext (Later.h _)))).mono ?_; rintro x _ ⟨rfl, e, rfl⟩))
   go_roundw
   case rel => exact ⟨n + 1, by go_num, (show Hid _ from ⟨by have := hn.out.1; omega, HLT.out⟩), e, rfl⟩
   case measure => have := HLT.out; simp [intOf]; omega
  .
   obtain rfl : n = N := by have := hn.out.2; omega
   have KB := hid (fun W hW => KA.out W (n : Int) hW)
   unfold firstI at KB
   rw [HS.out.2.2.1] at KB
   clear KA hlt
   go_wp2_with (first | (refine wpList_row (by rfl) 29 _ rfl _ rfl (HB0.out.later _) vqA rfl (by kernel_rfl) ?_) | (go_at_call 83; refine (Ret.later (KB.out _ (HL.out.ext (Later.h _)))).mono ?_; rintro x _ ⟨rfl, e, rfl⟩))
   go_ret
   exact Ret.mk rfl (HE.out.trans e.h)
section
open Go.Maps
theorem law3 : Keyed Tryz.prog 3 := int_keyed vqH
theorem zero3 (w : World) : (zeroValue 3).run Tryz.prog w = .ok (.int .i64 0) w := by kernel_rfl
abbrev UD := DataW Unit
def InI (x : Int) : Prop := -9223372036854775808 <= x /\ x <= 9223372036854775807
theorem InI.wf {x : Int} (h : InI x) : (Lit.int .i64 x).wf = true := by
 have := h
 simpa [InI, Lit.wf, IntKind.min, IntKind.max, IntKind.signed, IntKind.bits] using this
theorem keyOf3 {x : Int} (h : InI x) : keyOf Tryz.prog 3 (.int .i64 x) = some (.int .i64 x) := keyOf_int_mk vqH h.wf
def Counts (w : World) (m c : Nat) (f : Int -> Nat) : Prop :=
 ∃ D : UD, w.ownsMap Tryz.prog 3 (plainElem (H := Unit) Tryz.prog 3) m c D /\ ∀ id, InI id -> D.atKey (.int .i64 id) (.lit (.int .i64 0)) = .lit (.int .i64 (f id : Int))
theorem Counts.kept {w w' : World} {m c : Nat} {f : Int -> Nat} {S : List Nat} (h : Counts w m c f) (hm : Mod S w w') (hs : m ∉ S) : Counts w' m c f := by
 obtain ⟨D, ⟨es, clock, h1, h2, h3, h4⟩, h5⟩ := h
 have hlt : m < w.heap.size := by
  rcases Nat.lt_or_ge m w.heap.size with hlt | hge
  . exact hlt
  . rw [Array.getElem?_eq_none hge] at h1; cases h1
 exact ⟨D, ⟨es, clock, (hm.block m hlt hs).trans h1, h2, h3, h4⟩, h5⟩
theorem Counts.lt {w : World} {m c : Nat} {f : Int -> Nat} (h : Counts w m c f) : m < w.heap.size := by
 obtain ⟨D, h1, _⟩ := h
 exact h1.lt
theorem Counts.look {w : World} {m c : Nat} {f : Int -> Nat} (h : Counts w m c f) {id : Int} (hi : InI id) :
  (Instr.lookup 165 (.map (some m)) (.int .i64 id) false).run Tryz.prog w = .ok (.int .i64 (f id : Int)) w := by
 obtain ⟨D, hown, hat⟩ := h
 obtain ⟨v, hrun, h1, _⟩ := hown.lookup_int law3 Tryz.underlying165 vqH (zero3 w) (keyOf3 hi)
 rw [hat id hi] at h1
 have : v = (f id : Int) := by
  have := h1
  simp at this
  exact this.symm
 rw [hrun, this]
def upd (f : Int -> Nat) (id : Int) : Int -> Nat := fun x => if x = id then f id + 1 else f x
theorem Counts.put {w w' : World} {m c : Nat} {f : Int -> Nat} {D : UD} {id : Int} (hi : InI id) (hown : w.ownsMap Tryz.prog 3 (plainElem (H := Unit) Tryz.prog 3) m c D)
  (hat : ∀ id, InI id -> D.atKey (.int .i64 id) (.lit (.int .i64 0)) = .lit (.int .i64 (f id : Int)))
  (h1 : w'.ownsMap Tryz.prog 3 (plainElem (H := Unit) Tryz.prog 3) m (c + 1) (D.put (.int .i64 id) (.lit (.int .i64 ((f id : Int) + 1))))) : Counts w' m (c + 1) (upd f id) := by
 refine ⟨_, h1, fun x hx => ?_⟩
 obtain ⟨es, clock, e1, e2, e3, e4⟩ := hown
 by_cases e : x = id
 .
  subst e
  rw [atKey_put_same ⟨_, e4⟩ (by simp [WideAt.IsKeyLit])]
  simp [upd]
 .
  rw [atKey_put_other (by intro h; simp at h; exact e h)]
  rw [hat x hx]
  simp [upd, e]
theorem Counts.made (w : World) : Counts (w.alloc (.map #[] 0)) w.heap.size 0 (fun _ => 0) := ⟨.map [], World.ownsMap_made _ _ _ _, fun id _ => rfl⟩
theorem Counts.congr {w : World} {m c : Nat} {f g : Int -> Nat} (h : Counts w m c f) (e : ∀ x, f x = g x) : Counts w m c g := by
 obtain rfl : f = g := funext e
 exact h
end
theorem infoBlock : (Tryz.prog.info? 38).map (fun i => (i.zero, i.size, i.bytes)) = some (some (.agg #[.int .i64 0, .int .i64 0, .int .u64 0, .int .i64 0, .string ⟨#[]⟩]), 5, 48) := by kernel_rfl
def flatB (bs : Nat -> BV) : Nat -> List Value
 | 0 => []
 | i + 1 => flatB bs i ++ [.int .i64 (bs i).ty, .int .i64 (bs i).num, .int .u64 ((bs i).fl : Int), .int .i64 (bs i).crc, str (bs i).data]
theorem flatB_length (bs : Nat -> BV) (i : Nat) : (flatB bs i).length = i * 5 := by
 induction i with
 | zero => rfl
 | succ i ih => rw [flatB, List.length_append, ih]; simp; omega
theorem flatB_congr {bs bs' : Nat -> BV} {i : Nat} (h : ∀ j, j < i -> bs j = bs' j) : flatB bs i = flatB bs' i := by
 induction i with
 | zero => rfl
 | succ i ih => rw [flatB, flatB, ih (fun j hj => h j (by omega)), h i (by omega)]
theorem flatB_get (bs : Nat -> BV) (i : Nat) : ∀ j, j < i -> (flatB bs i)[j * 5]? = some (.int .i64 (bs j).ty) /\ (flatB bs i)[j * 5 + 1]? = some (.int .i64 (bs j).num) /\ (flatB bs i)[j * 5 + 2]? = some (.int .u64 ((bs j).fl : Int)) /\
  (flatB bs i)[j * 5 + 3]? = some (.int .i64 (bs j).crc) /\ (flatB bs i)[j * 5 + 4]? = some (str (bs j).data) := by
 induction i with
 | zero => intro j hj; omega
 | succ i ih =>
  intro j hj
  have hl := flatB_length bs i
  rw [flatB]
  by_cases e : j = i
  .
   subst e
   refine ⟨?_, ?_, ?_, ?_, ?_⟩ <;> (rw [List.getElem?_append_right (by omega), hl]; simp)
  .
   have := ih j (by omega)
   refine ⟨?_, ?_, ?_, ?_, ?_⟩ <;> rw [List.getElem?_append_left (by omega)]
   . exact this.1
   . exact this.2.1
   . exact this.2.2.1
   . exact this.2.2.2.1
   . exact this.2.2.2.2
theorem flatB_idx (bs : Nat -> BV) (k : Nat) {j : Nat} {u : Value} (h : (flatB bs k)[j]? = some u) : ∃ i r, i < k /\ r < 5 /\ j = i * 5 + r := by
 have := (List.getElem?_eq_some_iff.1 h).1
 rw [flatB_length] at this
 exact ⟨j / 5, j % 5, by omega, by omega, by omega⟩
theorem flatB_news {W : World} {b o : Nat} {bs : Nat -> BV} {k : Nat} (h : ∀ i, i < k -> BAt W b (o + i * 5) (bs i)) : ∀ j u, (flatB bs k)[j]? = some u -> W.cell? ((⟨b, o, none⟩ : Addr).add j) = some u := by
 intro j u hj
 obtain ⟨i, r, hi, hr, rfl⟩ := flatB_idx bs k hj
 obtain ⟨g0, g1, g2, g3, g4⟩ := flatB_get bs k i hi
 obtain ⟨a0, a1, a2, a3, a4⟩ := h i hi
 rw [addr_add, <- Nat.add_assoc]
 have h5 : r = 0 \/ r = 1 \/ r = 2 \/ r = 3 \/ r = 4 := by omega
 rcases h5 with rfl | rfl | rfl | rfl | rfl
 . rw [<- hj, Nat.add_zero, Nat.add_zero, g0]; exact a0
 . rw [<- hj, g1]; exact a1
 . rw [<- hj, g2]; exact a2
 . rw [<- hj, g3]; exact a3
 . rw [<- hj, g4]; exact a4
theorem flatB_one (bs : Nat -> BV) (k : Nat) : ∀ u ∈ flatB bs k, u.oneCell' = true := by
 intro u hu
 obtain ⟨j, hj⟩ := List.getElem?_of_mem hu
 obtain ⟨i, r, hi, hr, rfl⟩ := flatB_idx bs k hj
 obtain ⟨g0, g1, g2, g3, g4⟩ := flatB_get bs k i hi
 have h5 : r = 0 \/ r = 1 \/ r = 2 \/ r = 3 \/ r = 4 := by omega
 rcases h5 with rfl | rfl | rfl | rfl | rfl
 . rw [Nat.add_zero, g0] at hj; cases hj; rfl
 . rw [g1] at hj; cases hj; rfl
 . rw [g2] at hj; cases hj; rfl
 . rw [g3] at hj; cases hj; rfl
 . rw [g4] at hj; cases hj; rfl
theorem oneB (b : BV) : ∀ u ∈ [Value.int .i64 b.ty, .int .i64 b.num, .int .u64 (b.fl : Int), .int .i64 b.crc, str b.data], u.oneCell' = true := by
 intro u hu
 simp at hu
 rcases hu with rfl | rfl | rfl | rfl | rfl <;> rfl
theorem own_BsL {W : World} {base k c : Nat} {A : Option Addr} {bs : Nat -> BV} (h : W.ownsRow base 38 5 (.slice A k c) k (flatB bs k)) : BsL W A k bs := by
 intro h0
 obtain ⟨k', rfl⟩ : ∃ k', k = k' + 1 := ⟨k - 1, by omega⟩
 obtain ⟨g, c', hv, hb, hlt⟩ := own_form h
 simp only [Value.slice.injEq] at hv
 obtain ⟨rfl, _, rfl⟩ := hv
 refine ⟨g, 0, rfl, hlt, fun i hi => ?_⟩
 obtain ⟨g0, g1, g2, g3, g4⟩ := flatB_get bs (k' + 1) i hi
 refine ⟨?_, ?_, ?_, ?_, ?_⟩ <;> rw [Nat.zero_add]
 . exact own_cells h g0
 . exact own_cells h g1
 . exact own_cells h g2
 . exact own_cells h g3
 . exact own_cells h g4
theorem own_turned {w2 w4 : World} {base n size : Nat} {e : TypeId} {v : Value} {xs : List Value} (h : w2.ownsRow base e size v n xs) {w : World} {S : List Nat} (hw : Mod S w w2) (hgr : w2.grownBy w4 v.ownBlock) (hb : w.heap.size <= base) : Mod S w w4 :=
 hw.grown hgr (fun k hk => .inr (Nat.le_trans hb (h.lt k hk).1))
theorem run_copy_cells5 {P : Program} (w : World) (dT sT ty elem : TypeId) (b o dLen dCap : Nat) (a : Addr) (sLen sCap : Nat) (cs : List Value)
  (hu : P.underlying dT = some (.slice elem)) (hs : (P.info? elem).map (·.size) = some 5) (hn : cs.length = Nat.min sLen dLen * 5)
  (hsrc : ∀ j v, cs[j]? = some v -> w.cell? (a.add j) = some v) (hc : ∀ j, j < cs.length -> (w.cell? ⟨b, o + j, none⟩).isSome = true) (hf : ∀ j, j < cs.length -> w.frozen? ⟨b, o + j, none⟩ = false) (h1 : ∀ v ∈ cs, v.oneCell' = true) :
  (Builtin.copy_ #[dT, sT] ty #[.slice (some ⟨b, o, none⟩) dLen dCap, .slice (some a) sLen sCap]).run P w = .ok (goInt (Nat.min sLen dLen)) (w.setCells b o cs) := by
 have hl := run_loadCells_list (P := P) w a cs hsrc
 have hst := run_storeCells_cells (P := P) b o cs 0 w (by simpa using hc) (by simpa using hf) h1
 cases hq : P.info? elem with
 | none => simp [hq] at hs
 | some i =>
  have hi : i.size = 5 := by simpa [hq] using hs
  simp [Builtin.copy_, run_underlying hu, Builtin.lenOf, Builtin.firstCells, sizeOf, typeInfo, hq, hi, <- hn, hl, hst]
set_option maxHeartbeats 4000000 in
set_option maxRecDepth 100000 in
theorem InsB_shift (g k c i vb : Nat) (cs vs : List Value) (w : World) (hi : i < k) (hk : k <= 100000) (hroom : k + 1 <= c) (hc63 : c <= 9223372036854775807) (hvb : vb ≠ g)
  (hcl : cs.length = k * 5) (hvl : vs.length = 5)
  (hcs : ∀ j v, cs[j]? = some v -> w.cell? ⟨g, j, none⟩ = some v) (hsp : ∀ j, j < (k + 1) * 5 -> (w.cell? ⟨g, j, none⟩).isSome = true) (hfz : ∀ j, j < (k + 1) * 5 -> w.frozen? ⟨g, j, none⟩ = false)
  (hvs : ∀ j v, vs[j]? = some v -> w.cell? ⟨vb, j, none⟩ = some v) (h1c : ∀ v ∈ cs, v.oneCell' = true) (h1v : ∀ v ∈ vs, v.oneCell' = true)
  (tA tB : TypeId) (kA kB : Nat) (hsa : w.shape? vb = some (tA, kA)) (hsb : w.shape? g = some (tB, kB)) (hkB : kB ≠ 0) (hfa : w.frozen? ⟨vb, 0, none⟩ = false) (hfe : w.frozen? ⟨vb, kA, none⟩ = false) :
  Calls Tryz.prog 81 #[.slice (some ⟨g, 0, none⟩) k c, .int .i64 i, .slice (some ⟨vb, 0, none⟩) 1 1] w fun e w' =>
   e = .returned (.slice (some ⟨g, 0, none⟩) (k + 1) c) /\ w' = (w.drew.setCells g ((i + 1) * 5) (cs.drop (i * 5))).setCells g (i * 5) vs := by
 have hz2 : ¬ ((i : Int) = (k : Int)) := by omega
 have hz3 : ((i : Int) == (k : Int)) = false := by rw [beq_eq_false_iff_ne]; omega
 have hz4 : (i == k) = false := by rw [beq_eq_false_iff_ne]; omega
 have hr1 : decide ((c : Int) < (k : Int) + 1) = false := decide_eq_false (by omega)
 have hr2 : decide (c < k + 1) = false := decide_eq_false (by omega)
 have k0 : (0 : Int) <= (k : Int) := by omega
 have k1 : (k : Int) <= 100000 := by omega
 have i0 : (0 : Int) <= (i : Int) := by omega
 have i1 : (i : Int) < (k : Int) := by omega
 have hsz : (Tryz.prog.info? 38).map (·.size) = some 5 := by kernel_rfl
 have hov : ∀ lb cb, (callFunc 96 #[.slice (some ⟨vb, 0, none⟩) 1 1, .slice (some ⟨g, (i + 1) * 5, none⟩) lb cb]).run Tryz.prog w = .ok (.value (.bool false)) w := fun lb cb => by
  rw [run_callFunc_extern Tryz.func96 (by kernel_rfl) (by kernel_rfl) (by kernel_rfl) (e := Extern.SlicesOverlaps.overlaps #[27, 27] #[4]) (by kernel_rfl),
   Lib.run_overlaps_apart w 27 4 38 vqF 5 Tryz.sizeOf38 ⟨vb, 0, none⟩ ⟨g, (i + 1) * 5, none⟩ 1 1 lb cb hvb tA tB kA kB hsa hsb hkB hfa hfe]
  rfl
 have hdl : (cs.drop (i * 5)).length = (k - i) * 5 := by rw [List.length_drop, hcl]; omega
 have hcp1 : ∀ ty dc sc, (Builtin.copy_ #[27, 27] ty #[.slice (some ⟨g, (i + 1) * 5, none⟩) (k - i) dc, .slice (some ⟨g, i * 5, none⟩) (k + 1 - i) sc]).run Tryz.prog w.drew = .ok (goInt (Nat.min (k + 1 - i) (k - i))) (w.drew.setCells g ((i + 1) * 5) (cs.drop (i * 5))) := fun ty dc sc =>
  run_copy_cells5 w.drew _ _ ty 38 g ((i + 1) * 5) (k - i) dc ⟨g, i * 5, none⟩ (k + 1 - i) sc (cs.drop (i * 5)) vqF hsz (by rw [hdl]; simp only [Nat.min_def]; split <;> omega)
   (fun j v hj => by rw [addr_add]; exact hcs (i * 5 + j) v (by rwa [List.getElem?_drop] at hj))
   (fun j hj => hsp _ (by omega)) (fun j hj => hfz _ (by omega)) (fun v hv => h1c v (List.mem_of_mem_drop hv))
 obtain ⟨W1, hW1⟩ : ∃ W1, W1 = w.drew.setCells g ((i + 1) * 5) (cs.drop (i * 5)) := ⟨_, rfl⟩
 have hsp1 : ∀ n, n < (k + 1) * 5 -> (W1.cell? ⟨g, n, none⟩).isSome = true := fun n hn => by
  rw [hW1]
  exact isSome_setCells g (cs.drop (i * 5)) ((i + 1) * 5) w.drew (fun j hj => hsp _ (by omega)) _ (hsp n hn)
 have hcp2 : ∀ (W : World), (∀ x, W.cell? x = W1.cell? x) -> (∀ x, W.frozen? x = W1.frozen? x) -> ∀ ty dc, (Builtin.copy_ #[27, 27] ty #[.slice (some ⟨g, i * 5, none⟩) (k + 1 - i) dc, .slice (some ⟨vb, 0, none⟩) 1 1]).run Tryz.prog W = .ok (goInt (Nat.min 1 (k + 1 - i))) (W.setCells g (i * 5) vs) := fun W hWc hWf ty dc =>
  run_copy_cells5 W _ _ ty 38 g (i * 5) (k + 1 - i) dc ⟨vb, 0, none⟩ 1 1 vs vqF hsz (by rw [hvl]; simp only [Nat.min_def]; split <;> omega)
   (fun j v hj => by
    rw [addr_add, Nat.zero_add, hWc, hW1, World.cell?_setCells_out g _ _ _ _ (fun h _ => absurd h hvb)]
    exact hvs j v hj)
   (fun j hj => by rw [hWc]; exact hsp1 _ (by omega)) (fun j hj => by rw [hWf, hW1, World.frozen?_setCells]; exact hfz _ (by omega)) h1v
 rw [<- hW1] at hcp1
 clear hcs hsp hfz hvs h1c h1v hsp1 hsz hdl
 have mixed : Tryz.prog.follows Departure.mixedOrders = true := by kernel_rfl
 have hw1 : IntKind.i64.wrap ((i : Int) + 1) = (i : Int) + 1 := IntWalk.i64_in _ (by omega)
 have hb1 : (0 : Int) <= (i : Int) + 1 := by omega
 have htn : ((i : Int) + 1).toNat = i + 1 := by omega
 have hb2 : ¬ (c = i + 1) := by omega
 have hb3 : (i : Int) + 1 <= (k : Int) + 1 := by omega
 have hb4 : ¬ (c = i) := by omega
 have hb5 : (i : Int) <= (k : Int) + 1 := by omega
 go_enter Tryz.func81, Tryz.ntmps81
 go_upto_region 14 with fail
 go_wp2_with (simp only [hov])
 go_region_law_o (refine step_copy_runI rfl _ _ 27 27 rfl _ _ (by simp [Act.eval, Act.put]) (by simp [Act.eval, Act.put]) (hcp1 _ _ _) ?_)
 go_wp2_with (at_builtin; refine wpList_copy_runI _ rfl _ _ 27 27 rfl _ _ rfl rfl (hcp2 _ (fun _ => rfl) (fun _ => rfl) _ _) ?_)
 go_ret
 first | exact ⟨rfl, rfl⟩ | exact ⟨rfl, by rw [hW1]⟩
def zeroBV : Value := .agg #[.int .i64 0, .int .i64 0, .int .u64 0, .int .i64 0, .string ⟨#[]⟩]
theorem zeroCells_size (n : Nat) : (Builtin.zeroCells zeroBV.cells n).size = n * 5 := by
 simp [Builtin.zeroCells, Value.cells, zeroBV]
set_option maxHeartbeats 4000000 in
set_option maxRecDepth 100000 in
theorem InsB_grow (g k c i vb : Nat) (cs vs : List Value) (w : World) (hi : i < k) (hk : k <= 100000) (hnc : k <= c) (hroom : c < k + 1)
  (hcl : cs.length = k * 5) (hvl : vs.length = 5)
  (hcs : ∀ j v, cs[j]? = some v -> w.cell? ⟨g, j, none⟩ = some v)
  (hvs : ∀ j v, vs[j]? = some v -> w.cell? ⟨vb, j, none⟩ = some v) (h1c : ∀ v ∈ cs, v.oneCell' = true) (h1v : ∀ v ∈ vs, v.oneCell' = true) :
  Calls Tryz.prog 81 #[.slice (some ⟨g, 0, none⟩) k c, .int .i64 i, .slice (some ⟨vb, 0, none⟩) 1 1] w fun e w' =>
   e = .returned (.slice (some ⟨w.heap.size, 0, none⟩) (k + 1) (grownCap w (k + 1) c 38)) /\
   w' = (((w.alloc (.cells ((cs.take (i * 5)).toArray ++ Builtin.zeroCells zeroBV.cells (k + 1 - i) ++ Builtin.zeroCells zeroBV.cells (grownCap w (k + 1) c 38 - (k + 1))) 38)).drew.setCells w.heap.size (i * 5) vs).drew).setCells w.heap.size ((i + 1) * 5) (cs.drop (i * 5)) := by
 obtain ⟨i0, hi0, hz0, hzs, hzb⟩ := info_parts infoBlock
 have hz2 : ¬ ((i : Int) = (k : Int)) := by omega
 have hz3 : ((i : Int) == (k : Int)) = false := by rw [beq_eq_false_iff_ne]; omega
 have hz4 : (i == k) = false := by rw [beq_eq_false_iff_ne]; omega
 have hr1 : decide ((c : Int) < (k : Int) + 1) = true := decide_eq_true (by omega)
 have hr2 : decide (c < k + 1) = true := decide_eq_true (by omega)
 have k0 : (0 : Int) <= (k : Int) := by omega
 have k1 : (k : Int) <= 100000 := by omega
 have ii0 : (0 : Int) <= (i : Int) := by omega
 have ii1 : (i : Int) < (k : Int) := by omega
 have hsz : (Tryz.prog.info? 38).map (·.size) = some 5 := by kernel_rfl
 have hbw : g < w.heap.size := block_lt_of_cell (hcs 0 _ (List.getElem?_eq_getElem (by omega)))
 have hvw : vb < w.heap.size := block_lt_of_cell (hvs 0 _ (List.getElem?_eq_getElem (by omega)))
 have hkk : (k : Int) + 1 - (i : Int) = ((k + 1 - i : Nat) : Int) := by omega
 have hik : i + (k + 1 - i) = k + 1 := by omega
 have hold : (Builtin.firstCells i0.size i (.slice (some ⟨g, 0, none⟩) i c)).run Tryz.prog w.drew = .ok (cs.take (i * 5)).toArray w.drew := by
  rw [hzs]
  exact run_firstCells_some w.drew 5 i ⟨g, 0, none⟩ i c (cs.take (i * 5)) (by rw [List.length_take]; omega) (fun j v hj => by
   rw [addr_add, Nat.zero_add]
   rw [List.getElem?_take] at hj
   split at hj
   . exact hcs j v hj
   . cases hj)
 have hrz : ∀ ty, (Builtin.append_ #[27, 3] ty #[.slice (some ⟨g, 0, none⟩) i c, .int .i64 ((k : Int) + 1 - (i : Int))]).run Tryz.prog w =
   .ok (.slice (some ⟨w.heap.size, 0, none⟩) (k + 1) (grownCap w (k + 1) c 38)) (w.drew.alloc (.cells ((cs.take (i * 5)).toArray ++ Builtin.zeroCells zeroBV.cells (k + 1 - i) ++ Builtin.zeroCells zeroBV.cells (grownCap w (k + 1) c 38 - (k + 1))) 38)) := fun ty => by
  have h := Lib.run_append_grow_zeros w 27 3 ty 38 i0 _ .i64 .i64 vqF vqH hi0 hz0 (some ⟨g, 0, none⟩) i c (cs.take (i * 5)) hold (k + 1 - i) (by omega) (by omega) (by omega) (by omega) (by rw [hzb]; omega) (by rw [hzb, hik]; exact growslice_fits hroom (by omega))
  rw [hik] at h
  rw [hkk]
  exact h
 obtain ⟨G, hG⟩ : ∃ G, G = grownCap w (k + 1) c 38 := ⟨_, rfl⟩
 obtain ⟨ROW, hROW⟩ : ∃ ROW : Array Value, ROW = (cs.take (i * 5)).toArray ++ Builtin.zeroCells zeroBV.cells (k + 1 - i) ++ Builtin.zeroCells zeroBV.cells (G - (k + 1)) := ⟨_, rfl⟩
 rw [<- hG] at hrz ⊢
 rw [<- hROW] at hrz ⊢
 have hRl : (k + 1) * 5 <= ROW.size := by
  rw [hROW, Array.size_append, Array.size_append, zeroCells_size, zeroCells_size, List.size_toArray, List.length_take]
  omega
 obtain ⟨W1, hW1⟩ : ∃ W1, W1 = w.drew.alloc (.cells ROW 38) := ⟨_, rfl⟩
 rw [<- hW1] at hrz
 have hN : ∀ j, j < (k + 1) * 5 -> (W1.cell? ⟨w.heap.size, j, none⟩).isSome = true := fun j hj => by
  rw [hW1, World.cell?_alloc_at (w := w.drew) ROW _ w.heap.size j rfl, Array.getElem?_eq_getElem (by omega)]; rfl
 have hNf : ∀ j, W1.frozen? ⟨w.heap.size, j, none⟩ = false := fun j => by rw [hW1]; exact World.frozen?_alloc_at (w := w.drew) ROW _ w.heap.size j rfl
 have hOb : ∀ j v, w.cell? ⟨g, j, none⟩ = some v -> W1.cell? ⟨g, j, none⟩ = some v := fun j v h => by rw [hW1, World.cell?_alloc_past (w := w.drew) _ g j hbw]; exact h
 have hOv : ∀ j v, w.cell? ⟨vb, j, none⟩ = some v -> W1.cell? ⟨vb, j, none⟩ = some v := fun j v h => by rw [hW1, World.cell?_alloc_past (w := w.drew) _ vb j hvw]; exact h
 have hcpA : ∀ (W : World), (∀ x, W.cell? x = W1.cell? x) -> (∀ x, W.frozen? x = W1.frozen? x) -> ∀ ty dc, (Builtin.copy_ #[27, 27] ty #[.slice (some ⟨w.heap.size, i * 5, none⟩) (k + 1 - i) dc, .slice (some ⟨vb, 0, none⟩) 1 1]).run Tryz.prog W = .ok (goInt (Nat.min 1 (k + 1 - i))) (W.setCells w.heap.size (i * 5) vs) := fun W hWc hWf ty dc =>
  run_copy_cells5 W _ _ ty 38 w.heap.size (i * 5) (k + 1 - i) dc ⟨vb, 0, none⟩ 1 1 vs vqF hsz (by rw [hvl]; simp only [Nat.min_def]; split <;> omega)
   (fun j v hj => by rw [addr_add, Nat.zero_add, hWc]; exact hOv _ v (hvs j v hj))
   (fun j hj => by rw [hWc]; exact hN _ (by omega)) (fun j hj => by rw [hWf]; exact hNf _) h1v
 have hGn : k + 1 <= G := by rw [hG]; exact grownCap_ge w _ _ _
 have hG63 : G <= 9223372036854775807 := by
  have := grownCap_le_maxLen w (k + 1) c 38 (by unfold maxLen; omega)
  rw [<- hG] at this
  unfold maxLen at this
  omega
 have hGi : ¬ (G = i) := by omega
 have hGim : ¬ (G = i + 1) := by omega
 have hci : ¬ (c = i) := by omega
 have hbN : g ≠ w.heap.size := by omega
 have hdl : (cs.drop (i * 5)).length = (k - i) * 5 := by rw [List.length_drop, hcl]; omega
 have hcpB : ∀ (W : World), (∀ x, W.cell? x = (W1.setCells w.heap.size (i * 5) vs).cell? x) -> (∀ x, W.frozen? x = (W1.setCells w.heap.size (i * 5) vs).frozen? x) -> ∀ ty dc sc, (Builtin.copy_ #[27, 27] ty #[.slice (some ⟨w.heap.size, (i + 1) * 5, none⟩) (k - i) dc, .slice (some ⟨g, i * 5, none⟩) (k - i) sc]).run Tryz.prog W = .ok (goInt (Nat.min (k - i) (k - i))) (W.setCells w.heap.size ((i + 1) * 5) (cs.drop (i * 5))) := fun W hWc hWf ty dc sc =>
  run_copy_cells5 W _ _ ty 38 w.heap.size ((i + 1) * 5) (k - i) dc ⟨g, i * 5, none⟩ (k - i) sc (cs.drop (i * 5)) vqF hsz (by rw [hdl]; simp only [Nat.min_def]; split <;> omega)
   (fun j v hj => by
    rw [addr_add, hWc, World.cell?_setCells_out _ _ _ _ _ (fun h _ => absurd h hbN)]
    exact hOb _ v (hcs (i * 5 + j) v (by rwa [List.getElem?_drop] at hj)))
   (fun j hj => by rw [hWc]; exact isSome_setCells w.heap.size vs (i * 5) W1 (fun t ht => hN _ (by omega)) _ (hN _ (by omega)))
   (fun j hj => by rw [hWf, World.frozen?_setCells]; exact hNf _) (fun v hv => h1c v (List.mem_of_mem_drop hv))
 subst hW1
 have hE1 : ∀ x, ((w.alloc (.cells ROW 38)).drew).cell? x = (w.drew.alloc (.cells ROW 38)).cell? x := fun x => rfl
 have hE2 : ∀ x, ((w.alloc (.cells ROW 38)).drew).frozen? x = (w.drew.alloc (.cells ROW 38)).frozen? x := fun x => rfl
 have hF1 : ∀ x, (((w.alloc (.cells ROW 38)).drew.setCells w.heap.size (i * 5) vs).drew).cell? x = ((w.drew.alloc (.cells ROW 38)).setCells w.heap.size (i * 5) vs).cell? x := fun x => rfl
 have hF2 : ∀ x, (((w.alloc (.cells ROW 38)).drew.setCells w.heap.size (i * 5) vs).drew).frozen? x = ((w.drew.alloc (.cells ROW 38)).setCells w.heap.size (i * 5) vs).frozen? x := fun x => rfl
 have mixed : Tryz.prog.follows Departure.mixedOrders = true := by kernel_rfl
 have hw1 : IntKind.i64.wrap ((i : Int) + 1) = (i : Int) + 1 := IntWalk.i64_in _ (by omega)
 have hb1 : (0 : Int) <= (i : Int) + 1 := by omega
 have htn : ((i : Int) + 1).toNat = i + 1 := by omega
 have hb3 : (i : Int) <= (k : Int) := by omega
 have hb6 : (i : Int) + 1 <= (k : Int) + 1 := by omega
 have hb7 : (i : Int) <= (k : Int) + 1 := by omega
 clear hkk hik hold hROW hG hRl hN hNf hOb hOv hcs hvs h1c h1v hdl hsz hi0 hz0 hzs hzb
 go_enter Tryz.func81, Tryz.ntmps81
 go_wp2_with (first
  | (at_builtin; refine Lib.wpList_append_run _ rfl _ _ _ _ rfl _ _ rfl rfl _ _ (hrz _) ?_)
  | (at_builtin; refine wpList_copy_runI _ rfl _ _ 27 27 rfl _ _ rfl rfl (hcpA _ hE1 hE2 _ _) ?_)
  | (at_builtin; refine wpList_copy_runI _ rfl _ _ 27 27 rfl _ _ rfl rfl (hcpB _ (fun _ => rfl) (fun _ => rfl) _ _ _) ?_))
 go_region_law_o (refine step_copy_runI rfl _ _ 27 27 rfl (.slice (some ⟨w.heap.size, (i + 1) * 5, none⟩) (k - i) (G - (i + 1))) (.slice (some ⟨g, i * 5, none⟩) (k - i) (c - i)) (by simp [Act.eval, Act.put]) (by simp [Act.eval, Act.put]) (hcpB _ hF1 hF2 3 (G - (i + 1)) (c - i)) ?_)
 go_wp2
 go_ret
 exact ⟨rfl, rfl⟩
def cellB (b : BV) : Nat -> Value
 | 0 => .int .i64 b.ty
 | 1 => .int .i64 b.num
 | 2 => .int .u64 (b.fl : Int)
 | 3 => .int .i64 b.crc
 | _ => str b.data
theorem flatB_at (bs : Nat -> BV) (k j : Nat) (hj : j < k * 5) : (flatB bs k)[j]? = some (cellB (bs (j / 5)) (j % 5)) := by
 obtain ⟨g0, g1, g2, g3, g4⟩ := flatB_get bs k (j / 5) (by omega)
 have h5 : j % 5 = 0 \/ j % 5 = 1 \/ j % 5 = 2 \/ j % 5 = 3 \/ j % 5 = 4 := by omega
 rcases h5 with h | h | h | h | h
 . rw [h, show j = j / 5 * 5 by omega]; simpa [cellB] using g0
 . rw [h, show j = j / 5 * 5 + 1 by omega]; simpa [cellB, show (j / 5 * 5 + 1) / 5 = j / 5 by omega] using g1
 . rw [h, show j = j / 5 * 5 + 2 by omega]; simpa [cellB, show (j / 5 * 5 + 2) / 5 = j / 5 by omega] using g2
 . rw [h, show j = j / 5 * 5 + 3 by omega]; simpa [cellB, show (j / 5 * 5 + 3) / 5 = j / 5 by omega] using g3
 . rw [h, show j = j / 5 * 5 + 4 by omega]; simpa [cellB, show (j / 5 * 5 + 4) / 5 = j / 5 by omega] using g4
theorem flatB_of (bs : Nat -> BV) (k : Nat) {l : List Value} (hl : l.length = k * 5) (h : ∀ j, j < k * 5 -> l[j]? = some (cellB (bs (j / 5)) (j % 5))) : l = flatB bs k := by
 apply List.ext_getElem?
 intro j
 by_cases hj : j < k * 5
 . rw [h j hj, flatB_at bs k j hj]
 . rw [List.getElem?_eq_none (by omega), List.getElem?_eq_none (by rw [flatB_length]; omega)]
abbrev rowB (x : BV) : List Value := [.int .i64 x.ty, .int .i64 x.num, .int .u64 (x.fl : Int), .int .i64 x.crc, str x.data]
theorem rowB_at (x : BV) {j : Nat} (hj : j < 5) : (rowB x)[j]? = some (cellB x j) := by
 match j, hj with
 | 0, _ => rfl
 | 1, _ => rfl
 | 2, _ => rfl
 | 3, _ => rfl
 | 4, _ => rfl
def insB (bs : Nat -> BV) (i : Nat) (x : BV) (j : Nat) : BV := if j < i then bs j else if j = i then x else bs (j - 1)
theorem ins_at {cur : Nat -> Option Value} {bs : Nat -> BV} {i k : Nat} {x : BV} (hi : i < k) (j : Nat) (hj : j < (k + 1) * 5)
  (h0 : j < i * 5 -> cur j = some (cellB (bs (j / 5)) (j % 5))) (h1 : i * 5 <= j -> j < i * 5 + 5 -> cur j = (rowB x)[j - i * 5]?) (h2 : i * 5 + 5 <= j -> cur j = ((flatB bs k).drop (i * 5))[j - (i + 1) * 5]?) :
  cur j = some (cellB (insB bs i x (j / 5)) (j % 5)) := by
 unfold insB
 by_cases c0 : j < i * 5
 . rw [h0 c0, if_pos (by omega)]
 .
  by_cases c1 : j < i * 5 + 5
  . rw [h1 (by omega) c1, rowB_at x (by omega), if_neg (by omega), if_pos (by omega), show j - i * 5 = j % 5 by omega]
  . rw [h2 (by omega), List.getElem?_drop, show i * 5 + (j - (i + 1) * 5) = j - 5 by omega, flatB_at bs k (j - 5) (by omega), if_neg (by omega), if_neg (by omega), show (j - 5) / 5 = j / 5 - 1 by omega, show (j - 5) % 5 = j % 5 by omega]
theorem take_at (a : Array Value) (n : Nat) (hn : n <= a.size) (j : Nat) (hj : j < n) : (a.toList.take n)[j]? = a[j]? := by
 rw [List.getElem?_take, if_pos hj, Array.getElem?_toList]
theorem ins_A {cur : Array Value} {bs : Nat -> BV} {i k : Nat} {x : BV} (hi : i < k) (hs : (k + 1) * 5 <= cur.size) (h0 : ∀ j, j < i * 5 -> cur[j]? = some (cellB (bs (j / 5)) (j % 5))) :
  (writeFrom (writeFrom cur ((i + 1) * 5) ((flatB bs k).drop (i * 5))) (i * 5) (rowB x)).toList.take ((k + 1) * 5) = flatB (insB bs i x) (k + 1) := by
 have hd : ((flatB bs k).drop (i * 5)).length = (k - i) * 5 := by rw [List.length_drop, flatB_length]; omega
 have hr : (rowB x).length = 5 := rfl
 refine flatB_of _ _ (by rw [List.length_take, Array.length_toList, writeFrom_size, writeFrom_size]; omega) fun j hj => ?_
 rw [take_at _ _ (by rw [writeFrom_size, writeFrom_size]; omega) j hj]
 refine ins_at (cur := fun j => (writeFrom (writeFrom cur ((i + 1) * 5) ((flatB bs k).drop (i * 5))) (i * 5) (rowB x))[j]?) hi j hj (fun c => ?_) (fun c d => ?_) (fun c => ?_)
 .
  show (writeFrom _ _ _)[j]? = _
  rw [writeFrom_get _ _ _ _ (by rw [writeFrom_size, hr]; omega), if_neg (by omega), writeFrom_get _ _ _ _ (by rw [hd]; omega), if_neg (by omega), h0 j c]
 .
  show (writeFrom _ _ _)[j]? = _
  rw [writeFrom_get _ _ _ _ (by rw [writeFrom_size, hr]; omega), if_pos (by omega)]
 .
  show (writeFrom _ _ _)[j]? = _
  rw [writeFrom_get _ _ _ _ (by rw [writeFrom_size, hr]; omega), if_neg (by omega), writeFrom_get _ _ _ _ (by rw [hd]; omega), if_pos (by rw [hd]; omega)]
theorem ins_B {cur : Array Value} {bs : Nat -> BV} {i k : Nat} {x : BV} (hi : i < k) (hs : (k + 1) * 5 <= cur.size) (h0 : ∀ j, j < i * 5 -> cur[j]? = some (cellB (bs (j / 5)) (j % 5))) :
  (writeFrom (writeFrom cur (i * 5) (rowB x)) ((i + 1) * 5) ((flatB bs k).drop (i * 5))).toList.take ((k + 1) * 5) = flatB (insB bs i x) (k + 1) := by
 have hd : ((flatB bs k).drop (i * 5)).length = (k - i) * 5 := by rw [List.length_drop, flatB_length]; omega
 have hr : (rowB x).length = 5 := rfl
 refine flatB_of _ _ (by rw [List.length_take, Array.length_toList, writeFrom_size, writeFrom_size]; omega) fun j hj => ?_
 rw [take_at _ _ (by rw [writeFrom_size, writeFrom_size]; omega) j hj]
 refine ins_at (cur := fun j => (writeFrom (writeFrom cur (i * 5) (rowB x)) ((i + 1) * 5) ((flatB bs k).drop (i * 5)))[j]?) hi j hj (fun c => ?_) (fun c d => ?_) (fun c => ?_)
 .
  show (writeFrom _ _ _)[j]? = _
  rw [writeFrom_get _ _ _ _ (by rw [writeFrom_size, hd]; omega), if_neg (by omega), writeFrom_get _ _ _ _ (by rw [hr]; omega), if_neg (by omega), h0 j c]
 .
  show (writeFrom _ _ _)[j]? = _
  rw [writeFrom_get _ _ _ _ (by rw [writeFrom_size, hd]; omega), if_neg (by omega), writeFrom_get _ _ _ _ (by rw [hr]; omega), if_pos (by omega)]
 .
  show (writeFrom _ _ _)[j]? = _
  rw [writeFrom_get _ _ _ _ (by rw [writeFrom_size, hd]; omega), if_pos (by rw [hd]; omega)]
theorem InsB_any (bs : Nat -> BV) (x : BV) (base g k c i vb : Nat) (hi : i < k) (hk : k <= 100000) (w : World) (hown : w.ownsRow base 38 5 (.slice (some ⟨g, 0, none⟩) k c) k (flatB bs k)) (hv : Blk w vb 38 (BV.c x)) (hvb : vb ≠ g) (hbw : base <= w.heap.size) :
  Calls Tryz.prog 81 #[.slice (some ⟨g, 0, none⟩) k c, .int .i64 i, .slice (some ⟨vb, 0, none⟩) 1 1] w (fun e w' => ∃ g' c', e = .returned (.slice (some ⟨g', 0, none⟩) (k + 1) c') /\ Mod [g] w w' /\ w'.ownsRow base 38 5 (.slice (some ⟨g', 0, none⟩) (k + 1) c') (k + 1) (flatB (insB bs i x) (k + 1))) := by
 have hfl := flatB_length bs k
 have hcs0 : ∀ j v, (flatB bs k)[j]? = some v -> w.cell? ⟨g, j, none⟩ = some v := fun j v hj => own_cells hown hj
 have hvs : ∀ j v, (rowB x)[j]? = some v -> w.cell? ⟨vb, j, none⟩ = some v := fun j v hj => by rw [hv.cell j]; simpa using hj
 rcases hown.2 with ⟨h, _⟩ | ⟨q, cap, cur, h, hbg, hg, hnc, hcm, hcz, htk⟩
 . cases h
 .
  simp only [Value.slice.injEq, Option.some.injEq, Addr.mk.injEq, and_true, true_and] at h
  obtain ⟨rfl, rfl⟩ := h
  have hB : Blk w g 38 cur := hg
  have hm63 : c <= 9223372036854775807 := by unfold maxLen at hcm; omega
  have h0 : ∀ j, j < k * 5 -> cur[j]? = some (cellB (bs (j / 5)) (j % 5)) := fun j hj => by
   rw [<- take_at cur (k * 5) (by omega) j hj, htk, flatB_at bs k j hj]
  by_cases hroom : k + 1 <= c
  .
   refine (InsB_shift g k c i vb (flatB bs k) (rowB x) w hi hk hroom hm63 hvb hfl rfl hcs0 (fun j hj => ?_) (fun j hj => hB.frozen j) hvs (flatB_one bs k) (oneB x) 38 38 5 cur.size ?_ ?_ ?_ (hv.frozen 0) (hv.frozen 5)).mono ?_
   . rw [hB.cell j, Array.getElem?_eq_getElem (by omega)]; rfl
   . unfold Blk at hv; simp [World.shape?, hv]
   . simp [World.shape?, hg]
   . omega
   .
    rintro e w' ⟨rfl, rfl⟩
    have hB1 := setRow_blk ((flatB bs k).drop (i * 5)) w.drew ((i + 1) * 5) cur hB.drew
    have hB2 := setRow_blk (rowB x) _ (i * 5) _ hB1
    rw [setRow_eq, setRow_eq] at hB2
    refine ⟨g, c, rfl, ?_, by simp [flatB_length], .inr ⟨g, c, _, rfl, hbg, hB2, by omega, hcm, by rw [writeFrom_size, writeFrom_size]; exact hcz, ins_A hi (by omega) fun j hj => h0 j (by omega)⟩⟩
    exact setCells_mod _ _ (setCells_mod _ _ (Mod.drew (Mod.refl _ _)) (.inl (by simp))) (.inl (by simp))
  .
   refine (InsB_grow g k c i vb (flatB bs k) (rowB x) w hi hk hnc (by omega) hfl rfl hcs0 hvs (flatB_one bs k) (oneB x)).mono ?_
   rintro e w' ⟨rfl, rfl⟩
   have hG := grownCap_ge w (k + 1) c 38
   have hGm := grownCap_le_maxLen w (k + 1) c 38 (by unfold maxLen; omega)
   generalize grownCap w (k + 1) c 38 = G at *
   have hrs : (((flatB bs k).take (i * 5)).toArray ++ Builtin.zeroCells zeroBV.cells (k + 1 - i) ++ Builtin.zeroCells zeroBV.cells (G - (k + 1))).size = G * 5 := by
    rw [Array.size_append, Array.size_append, zeroCells_size, zeroCells_size, List.size_toArray, List.length_take, hfl]; omega
   have hr0 : ∀ j, j < i * 5 -> (((flatB bs k).take (i * 5)).toArray ++ Builtin.zeroCells zeroBV.cells (k + 1 - i) ++ Builtin.zeroCells zeroBV.cells (G - (k + 1)))[j]? = some (cellB (bs (j / 5)) (j % 5)) := fun j hj => by
    have hl1 : ((flatB bs k).take (i * 5)).toArray.size = i * 5 := by rw [List.size_toArray, List.length_take, hfl]; omega
    rw [Array.append_assoc, Array.getElem?_append_left (by omega), List.getElem?_toArray, List.getElem?_take, if_pos hj, flatB_at bs k j (by omega)]
   generalize (((flatB bs k).take (i * 5)).toArray ++ Builtin.zeroCells zeroBV.cells (k + 1 - i) ++ Builtin.zeroCells zeroBV.cells (G - (k + 1))) = ROW at *
   have hB0 := (Blk.new w 38 ROW).drew
   have hB1 := (setRow_blk (rowB x) _ (i * 5) _ hB0)
   rw [setRow_eq] at hB1
   have hB2 := setRow_blk ((flatB bs k).drop (i * 5)) _ ((i + 1) * 5) _ hB1.drew
   rw [setRow_eq] at hB2
   refine ⟨w.heap.size, G, rfl, ?_, by simp [flatB_length], .inr ⟨w.heap.size, G, _, rfl, hbw, hB2, hG, hGm, by rw [writeFrom_size, writeFrom_size]; exact hrs, ins_B hi (by omega) hr0⟩⟩
   exact setCells_mod _ _ (Mod.drew (setCells_mod _ _ (Mod.drew (Mod.alloc (Mod.refl _ _) _)) (.inr (Nat.le_refl _)))) (.inr (Nat.le_refl _))
section
open Go.ChangeShapes Go.WideShapes Go.ChangeAt Go.Deep
section
variable {H : Type} {enc : TypeId × Value -> H} {w : World} {base b0 : Nat} {spare : Nat -> Bool} {held : Bool} {r : Reach}
set_option maxRecDepth 100000 in
theorem trod_eid {fuel : Nat} {cs : List Value} {x : DataW H × List MemPlace} (h : DataW.trod enc Tryz.prog w base spare held fuel 24 cs = some x) :
  ∃ e : EV, cs = [.int .i64 e.sch, str e.name, .int .u64 (e.node : Int), .int .u64 (e.svc : Int)] /\ e.node < 18446744073709551616 /\ e.svc < 18446744073709551616 /\ (-9223372036854775808 <= e.sch /\ e.sch <= 9223372036854775807) := by
 obtain ⟨ys, n', hn', hy, hlen, hyl, hfl⟩ := DataW.trod_struct vqJ h
 match cs, hlen with
 | [c0, c1, c2, c3], _ =>
  have h0 := field_at (by kernel_rfl) hfl (i := 0) rfl rfl
  have h1 := field_at (by kernel_rfl) hfl (i := 1) rfl rfl
  have h2 := field_at (by kernel_rfl) hfl (i := 2) rfl rfl
  have h3 := field_at (by kernel_rfl) hfl (i := 3) rfl rfl
  clear hfl h
  match ys, hyl with
  | [y0, y1, y2, y3], _ =>
   obtain ⟨sch, e0, _, w0⟩ := DataW.trod_int (k := .i64) (by kernel_rfl) h0
   obtain ⟨s, e1, _, _⟩ := DataW.trod_string (by kernel_rfl) h1
   obtain ⟨a, e2, _, w2⟩ := DataW.trod_int (k := .u64) (by kernel_rfl) h2
   obtain ⟨b, e3, _, w3⟩ := DataW.trod_int (k := .u64) (by kernel_rfl) h3
   have q0 : c0 = .int .i64 sch := by have : [c0] = [Value.int .i64 sch] := e0; simpa using this
   have q1 : c1 = .string s := by have : [c1] = [Value.string s] := e1; simpa using this
   have q2 : c2 = .int .u64 a := by have : [c2] = [Value.int .u64 a] := e2; simpa using this
   have q3 : c3 = .int .u64 b := by have : [c3] = [Value.int .u64 b] := e3; simpa using this
   subst q0 q1 q2 q3
   have b0 : -9223372036854775808 <= sch /\ sch <= 9223372036854775807 := by simpa [Lit.wf, IntKind.min, IntKind.max, IntKind.signed, IntKind.bits] using w0
   have b2 : 0 <= a /\ a <= 18446744073709551615 := by simpa [Lit.wf, IntKind.min, IntKind.max, IntKind.signed, IntKind.bits] using w2
   have b3 : 0 <= b /\ b <= 18446744073709551615 := by simpa [Lit.wf, IntKind.min, IntKind.max, IntKind.signed, IntKind.bits] using w3
   obtain ⟨a, rfl⟩ := Int.eq_ofNat_of_zero_le b2.1
   obtain ⟨b, rfl⟩ := Int.eq_ofNat_of_zero_le b3.1
   exact ⟨⟨sch, s.data.toList, a, b⟩, rfl, by show a < _; omega, by show b < _; omega, b0⟩
end
end
section
open Go.ChangeShapes Go.WideShapes Go.ChangeAt Go.Deep
def SlA (A : Option Addr) (k c : Nat) : Prop := (A = none -> k = 0 /\ c = 0) /\ k <= c /\ c <= maxLen
def EV.wf (e : EV) : Prop := (-9223372036854775808 <= e.sch /\ e.sch <= 9223372036854775807) /\ e.node < 18446744073709551616 /\ e.svc < 18446744073709551616
def PV.wf (p : PV) : Prop := p.fl < 18446744073709551616 /\ (-9223372036854775808 <= p.crc /\ p.crc <= 9223372036854775807) /\ p.d.wf /\ p.s.wf /\ p.r.wf /\ p.t < 18446744073709551616 /\ p.q < 18446744073709551616 /\ p.l < 18446744073709551616 /\ p.o < 18446744073709551616 /\ p.n < 18446744073709551616
def BV.wf (b : BV) : Prop := (-9223372036854775808 <= b.ty /\ b.ty <= 9223372036854775807) /\ (-9223372036854775808 <= b.num /\ b.num <= 9223372036854775807) /\ b.fl < 18446744073709551616 /\ (-9223372036854775808 <= b.crc /\ b.crc <= 9223372036854775807)
section
variable {H : Type} {enc : TypeId × Value -> H} {w : World} {base b0 : Nat} {spare : Nat -> Bool} {held : Bool} {r : Reach}
theorem fldB {P : Program} {n k : Nat} {ty : TypeId} {l : List Value} {off : Nat} {y : Option (DataW H × List MemPlace)} (hk : P.cellsOf ty = k) (h : DataW.trod enc P w base spare held n ty ((l.drop off).take (P.cellsOf ty)) = y) : DataW.trod enc P w base spare held n ty ((l.drop off).take k) = y := by rw [hk] at h; exact h
set_option maxRecDepth 100000 in
theorem trod_blkC {fuel : Nat} {L : List Value} {x : DataW H × List MemPlace} (h : DataW.trod enc Tryz.prog w base spare held fuel 38 L = some x) : ∃ b : BV, L = [.int .i64 b.ty, .int .i64 b.num, .int .u64 (b.fl : Int), .int .i64 b.crc, str b.data] /\ b.wf := by
 obtain ⟨ys, n', hn', hy, hlen, hyl, hfl⟩ := DataW.trod_struct vqI h
 clear h
 match L, hlen with
 | [c0, c1, c2, c3, c4], _ =>
  have h0 := field_at (by kernel_rfl) hfl (i := 0) rfl rfl
  have h1 := field_at (by kernel_rfl) hfl (i := 1) rfl rfl
  have h2 := field_at (by kernel_rfl) hfl (i := 2) rfl rfl
  have h3 := field_at (by kernel_rfl) hfl (i := 3) rfl rfl
  have h4 := field_at (by kernel_rfl) hfl (i := 4) rfl rfl
  clear hfl
  match ys, hyl with
  | [y0, y1, y2, y3, y4], _ =>
   obtain ⟨ty, e0, _, w0⟩ := DataW.trod_int (k := .i64) (by kernel_rfl) h0
   obtain ⟨num, e1, _, w1⟩ := DataW.trod_int (k := .i64) (by kernel_rfl) h1
   obtain ⟨fl, e2, _, w2⟩ := DataW.trod_int (k := .u64) (by kernel_rfl) h2
   obtain ⟨crc, e3, _, w3⟩ := DataW.trod_int (k := .i64) (by kernel_rfl) h3
   obtain ⟨s, e4, _, _⟩ := DataW.trod_string (by kernel_rfl) h4
   have q0 : c0 = .int .i64 ty := by have : [c0] = [Value.int .i64 ty] := e0; simpa using this
   have q1 : c1 = .int .i64 num := by have : [c1] = [Value.int .i64 num] := e1; simpa using this
   have q2 : c2 = .int .u64 fl := by have : [c2] = [Value.int .u64 fl] := e2; simpa using this
   have q3 : c3 = .int .i64 crc := by have : [c3] = [Value.int .i64 crc] := e3; simpa using this
   have q4 : c4 = .string s := by have : [c4] = [Value.string s] := e4; simpa using this
   subst q0 q1 q2 q3 q4
   have b0 : -9223372036854775808 <= ty /\ ty <= 9223372036854775807 := by simpa [Lit.wf, IntKind.min, IntKind.max, IntKind.signed, IntKind.bits] using w0
   have b1 : -9223372036854775808 <= num /\ num <= 9223372036854775807 := by simpa [Lit.wf, IntKind.min, IntKind.max, IntKind.signed, IntKind.bits] using w1
   have b2 : 0 <= fl /\ fl <= 18446744073709551615 := by simpa [Lit.wf, IntKind.min, IntKind.max, IntKind.signed, IntKind.bits] using w2
   have b3 : -9223372036854775808 <= crc /\ crc <= 9223372036854775807 := by simpa [Lit.wf, IntKind.min, IntKind.max, IntKind.signed, IntKind.bits] using w3
   obtain ⟨fl, rfl⟩ := Int.eq_ofNat_of_zero_le b2.1
   exact ⟨⟨ty, num, fl, crc, s.data.toList⟩, rfl, b0, b1, by show fl < _; omega, b3⟩
set_option maxRecDepth 100000 in
theorem trod_priC {fuel : Nat} {L : List Value} {x : DataW H × List MemPlace} (h : DataW.trod enc Tryz.prog w base spare held fuel 26 L = some x) : ∃ p : PV, L = p.c.toList /\ p.wf := by
 obtain ⟨ys, n', hn', hy, hlen, hyl, hfl⟩ := DataW.trod_struct vqC h
 clear h
 have k1 : Tryz.prog.cellsOf 22 = 1 := by kernel_rfl
 have k2 : Tryz.prog.cellsOf 3 = 1 := by kernel_rfl
 have k3 : Tryz.prog.cellsOf 24 = 4 := by kernel_rfl
 match L, hlen with
 | [c0, c1, c2, c3, c4, c5, c6, c7, c8, c9, c10, c11, c12, c13, c14, c15, c16, c17, c18], _ =>
  match ys, hyl with
  | [y0, y1, y2, y3, y4, y5, y6, y7, y8, y9], _ =>
   have h0 : DataW.trod enc Tryz.prog w base spare held n' 22 [c0] = some y0 := fldB k1 (hfl 0 _ rfl)
   have h1 : DataW.trod enc Tryz.prog w base spare held n' 3 [c1] = some y1 := fldB k2 (hfl 1 _ rfl)
   have h2 : DataW.trod enc Tryz.prog w base spare held n' 24 [c2, c3, c4, c5] = some y2 := fldB k3 (hfl 2 _ rfl)
   have h3 : DataW.trod enc Tryz.prog w base spare held n' 24 [c6, c7, c8, c9] = some y3 := fldB k3 (hfl 3 _ rfl)
   have h4 : DataW.trod enc Tryz.prog w base spare held n' 24 [c10, c11, c12, c13] = some y4 := fldB k3 (hfl 4 _ rfl)
   have h5 : DataW.trod enc Tryz.prog w base spare held n' 22 [c14] = some y5 := fldB k1 (hfl 5 _ rfl)
   have h6 : DataW.trod enc Tryz.prog w base spare held n' 22 [c15] = some y6 := fldB k1 (hfl 6 _ rfl)
   have h7 : DataW.trod enc Tryz.prog w base spare held n' 22 [c16] = some y7 := fldB k1 (hfl 7 _ rfl)
   have h8 : DataW.trod enc Tryz.prog w base spare held n' 22 [c17] = some y8 := fldB k1 (hfl 8 _ rfl)
   have h9 : DataW.trod enc Tryz.prog w base spare held n' 22 [c18] = some y9 := fldB k1 (hfl 9 _ rfl)
   clear hfl
   obtain ⟨z1, e1, _, w1⟩ := DataW.trod_int (k := .i64) (by kernel_rfl) h1
   have b1 : -9223372036854775808 <= z1 /\ z1 <= 9223372036854775807 := by simpa [Lit.wf, IntKind.min, IntKind.max, IntKind.signed, IntKind.bits] using w1
   obtain ⟨E2, e2, n2, s2, x2⟩ := trod_eid h2
   obtain ⟨E3, e3, n3, s3, x3⟩ := trod_eid h3
   obtain ⟨E4, e4, n4, s4, x4⟩ := trod_eid h4
   obtain ⟨z0, e0, _, w0⟩ := DataW.trod_int (k := .u64) (by kernel_rfl) h0
   have b0 : 0 <= z0 /\ z0 <= 18446744073709551615 := by simpa [Lit.wf, IntKind.min, IntKind.max, IntKind.signed, IntKind.bits] using w0
   obtain ⟨z0, rfl⟩ := Int.eq_ofNat_of_zero_le b0.1
   obtain ⟨z5, e5, _, w5⟩ := DataW.trod_int (k := .u64) (by kernel_rfl) h5
   have b5 : 0 <= z5 /\ z5 <= 18446744073709551615 := by simpa [Lit.wf, IntKind.min, IntKind.max, IntKind.signed, IntKind.bits] using w5
   obtain ⟨z5, rfl⟩ := Int.eq_ofNat_of_zero_le b5.1
   obtain ⟨z6, e6, _, w6⟩ := DataW.trod_int (k := .u64) (by kernel_rfl) h6
   have b6 : 0 <= z6 /\ z6 <= 18446744073709551615 := by simpa [Lit.wf, IntKind.min, IntKind.max, IntKind.signed, IntKind.bits] using w6
   obtain ⟨z6, rfl⟩ := Int.eq_ofNat_of_zero_le b6.1
   obtain ⟨z7, e7, _, w7⟩ := DataW.trod_int (k := .u64) (by kernel_rfl) h7
   have b7 : 0 <= z7 /\ z7 <= 18446744073709551615 := by simpa [Lit.wf, IntKind.min, IntKind.max, IntKind.signed, IntKind.bits] using w7
   obtain ⟨z7, rfl⟩ := Int.eq_ofNat_of_zero_le b7.1
   obtain ⟨z8, e8, _, w8⟩ := DataW.trod_int (k := .u64) (by kernel_rfl) h8
   have b8 : 0 <= z8 /\ z8 <= 18446744073709551615 := by simpa [Lit.wf, IntKind.min, IntKind.max, IntKind.signed, IntKind.bits] using w8
   obtain ⟨z8, rfl⟩ := Int.eq_ofNat_of_zero_le b8.1
   obtain ⟨z9, e9, _, w9⟩ := DataW.trod_int (k := .u64) (by kernel_rfl) h9
   have b9 : 0 <= z9 /\ z9 <= 18446744073709551615 := by simpa [Lit.wf, IntKind.min, IntKind.max, IntKind.signed, IntKind.bits] using w9
   obtain ⟨z9, rfl⟩ := Int.eq_ofNat_of_zero_le b9.1
   simp only [List.cons.injEq, and_true] at e0 e1 e2 e3 e4 e5 e6 e7 e8 e9
   obtain ⟨rfl, rfl, rfl, rfl⟩ := e2
   obtain ⟨rfl, rfl, rfl, rfl⟩ := e3
   obtain ⟨rfl, rfl, rfl, rfl⟩ := e4
   subst e0 e1 e5 e6 e7 e8 e9
   exact ⟨⟨z0, z1, E2, E3, E4, z5, z6, z7, z8, z9⟩, rfl, by show z0 < _; omega, b1, ⟨x2, n2, s2⟩, ⟨x3, n3, s3⟩, ⟨x4, n4, s4⟩, by show z5 < _; omega, by show z6 < _; omega, by show z7 < _; omega, by show z8 < _; omega, by show z9 < _; omega⟩
theorem trod_blksS {fuel : Nat} {c3 : Value} {y : DataW H × List MemPlace} (h3 : DataW.trod enc Tryz.prog w base spare held fuel 27 [c3] = some y) (hz : ∀ n ∈ y.1.weights Tryz.prog 27, n <= reachBytes) :
  ∃ (A : Option Addr) (k c : Nat) (bs : Nat -> BV), c3 = .slice A k c /\ k < 4611686018427387904 /\ BsL w A k bs /\ (∀ i, i < k -> (bs i).wf) /\ SlA A k c := by
 have hR : reachBytes < 140737488355328 := by decide
 rcases DataW.trod_slice (e := 38) (by kernel_rfl) h3 with ⟨hcs, _⟩ | ⟨a, len, cap', elems, rest, f, hf, hcs, hx, hb, hl, hm, hlen, hel, _, _⟩
 .
  have e3 : c3 = .slice none 0 0 := by simpa using hcs
  subst e3
  exact ⟨none, 0, 0, fun _ => zeroB, rfl, by omega, fun h => by omega, fun i hi => by omega, fun _ => ⟨rfl, rfl⟩, Nat.le_refl _, Nat.zero_le _⟩
 .
  have e3 : c3 = .slice (some a) len cap' := by simpa using hcs
  subst e3
  have hC : Tryz.prog.cellsOf 38 = 5 := by kernel_rfl
  have hBy : Tryz.prog.bytesOf 38 = 48 := by kernel_rfl
  have hzs := hz
  rw [hx] at hzs
  simp only [DataW.weights, vqF] at hzs
  have bl : len < 4611686018427387904 := by
   have h8 := hzs _ List.mem_cons_self
   rw [hBy, List.length_map, hlen] at h8
   have h9 : len * 48 <= (len + (List.map (fun x => x.1) rest).length) * 48 := Nat.mul_le_mul_right _ (Nat.le_add_right _ _)
   omega
  have key : ∀ i, i < len -> ∃ t : BV, (w.cell? ((a.add (i * 5)).add 0) = some (.int .i64 t.ty) /\ w.cell? ((a.add (i * 5)).add 1) = some (.int .i64 t.num) /\ w.cell? ((a.add (i * 5)).add 2) = some (.int .u64 (t.fl : Int)) /\ w.cell? ((a.add (i * 5)).add 3) = some (.int .i64 t.crc) /\ w.cell? ((a.add (i * 5)).add 4) = some (str t.data)) /\ t.wf := by
   intro i hin
   have hi := hel i hin
   rw [List.getElem?_eq_getElem (by omega)] at hi
   obtain ⟨cs', hc, ht⟩ := Option.bind_eq_some_iff.1 hi
   obtain ⟨t, rfl, hw⟩ := trod_blkC ht
   rw [hC] at hc
   obtain ⟨_, hcl, hat⟩ := World.cells?_some hc
   exact ⟨t, ⟨hat 0 (by simp), hat 1 (by simp), hat 2 (by simp), hat 3 (by simp), hat 4 (by simp)⟩, hw⟩
  have key2 : ∀ i, ∃ t : BV, i < len -> (w.cell? ((a.add (i * 5)).add 0) = some (.int .i64 t.ty) /\ w.cell? ((a.add (i * 5)).add 1) = some (.int .i64 t.num) /\ w.cell? ((a.add (i * 5)).add 2) = some (.int .u64 (t.fl : Int)) /\ w.cell? ((a.add (i * 5)).add 3) = some (.int .i64 t.crc) /\ w.cell? ((a.add (i * 5)).add 4) = some (str t.data)) /\ t.wf := fun i => by
   by_cases hin : i < len
   .
    obtain ⟨t, h5⟩ := key i hin
    exact ⟨t, fun _ => h5⟩
   . exact ⟨zeroB, fun h => absurd h hin⟩
  obtain ⟨g, hg⟩ : ∃ g : Nat -> BV, ∀ i, i < len -> (w.cell? ((a.add (i * 5)).add 0) = some (.int .i64 (g i).ty) /\ w.cell? ((a.add (i * 5)).add 1) = some (.int .i64 (g i).num) /\ w.cell? ((a.add (i * 5)).add 2) = some (.int .u64 ((g i).fl : Int)) /\ w.cell? ((a.add (i * 5)).add 3) = some (.int .i64 (g i).crc) /\ w.cell? ((a.add (i * 5)).add 4) = some (str (g i).data)) /\ (g i).wf :=
   ⟨fun i => Classical.choose (key2 i), fun i => Classical.choose_spec (key2 i)⟩
  refine ⟨some a, len, cap', g, rfl, bl, fun h0 => ?_, fun i hi => (hg i hi).2, (fun h => by cases h), hl, hm⟩
  obtain ⟨⟨z0, _⟩, _⟩ := hg 0 h0
  have z1 : w.cell? a = some (.int .i64 (g 0).ty) := by simpa [Addr.add] using z0
  have hsp := World.cell?_spot z1
  obtain ⟨ab, ao, sp⟩ := a
  simp only at hsp
  subst hsp
  refine ⟨ab, ao, rfl, World.block_lt_of_cell? w _ z1, fun i hin => ?_⟩
  obtain ⟨⟨g0, g1, g2, g3, g4⟩, _⟩ := hg i hin
  rw [addr_add, addr_add] at g0 g1 g2 g3 g4
  exact ⟨g0, g1, g2, g3, g4⟩
set_option maxRecDepth 100000 in
theorem open_bundleS {v : Value} {d : DataW H} {q : List MemPlace} (hval : Value.okWide Tryz.prog w r b0 29 v) (h : DataW.Trod enc Tryz.prog w base spare held 29 v d q) (hz : ∀ n ∈ d.weights Tryz.prog 29, n <= reachBytes) :
  ∃ (p : PV) (A : Option Addr) (k c : Nat) (bs : Nat -> BV), v = bunV p A k c /\ p.wf /\ k < 4611686018427387904 /\ BsL w A k bs /\ (∀ i, i < k -> (bs i).wf) /\ SlA A k c := by
 obtain ⟨cs, rfl, hsz⟩ := okWide_struct vqA hval
 obtain ⟨fuel, hf⟩ := h
 obtain ⟨ys, n', hn', hy, hlen, hyl, hfl⟩ := DataW.trod_struct vqA hf
 have hcs : (Value.agg cs).cells.toList = cs.toList := rfl
 rw [hcs] at hlen hfl
 obtain ⟨L, hL⟩ : ∃ L, L = cs.toList := ⟨_, rfl⟩
 rw [<- hL] at hlen hfl
 have hcsL : cs = L.toArray := by rw [hL]
 subst hcsL
 have hd : d = .agg (ys.map (·.1)) := by simpa using congrArg Prod.fst hy
 have hz' : ∀ n ∈ DataW.weightsEach Tryz.prog [26, 27] (ys.map (·.1)), n <= reachBytes := by
  intro n hn
  apply hz
  rw [hd]
  simp only [DataW.weights, vqA]
  exact hn
 clear hL hcs hf hval hsz hz
 have k1 : Tryz.prog.cellsOf 26 = 19 := by kernel_rfl
 have k2 : Tryz.prog.cellsOf 27 = 1 := by kernel_rfl
 match L, hlen with
 | [c0, c1, c2, c3, c4, c5, c6, c7, c8, c9, c10, c11, c12, c13, c14, c15, c16, c17, c18, c19], _ =>
  obtain ⟨y0, y1, rfl⟩ : ∃ y0 y1, ys = [y0, y1] := by clear hd hz' hy hfl; match ys, hyl with | [a, b], _ => exact ⟨a, b, rfl⟩
  .
   have h0 : DataW.trod enc Tryz.prog w base spare held n' 26 [c0, c1, c2, c3, c4, c5, c6, c7, c8, c9, c10, c11, c12, c13, c14, c15, c16, c17, c18] = some y0 := fldB k1 (hfl 0 _ rfl)
   have h1 : DataW.trod enc Tryz.prog w base spare held n' 27 [c19] = some y1 := fldB k2 (hfl 1 _ rfl)
   clear hfl
   obtain ⟨p, hp, hw⟩ := trod_priC h0
   obtain ⟨A, k, c, bs, rfl, hk, hL, hbw⟩ := trod_blksS h1 (fun n hn => hz' n (DataW.weights_mem_each (j := 1) rfl rfl n hn))
   refine ⟨p, A, k, c, bs, ?_, hw, hk, hL, hbw⟩
   simp only [PV.c, List.cons.injEq, and_true] at hp
   obtain ⟨rfl, rfl, rfl, rfl, rfl, rfl, rfl, rfl, rfl, rfl, rfl, rfl, rfl, rfl, rfl, rfl, rfl, rfl, rfl⟩ := hp
   rfl
end
end
def catB (ch : Nat -> BV) (n : Nat) (bs : Nat -> BV) (j : Nat) : BV := if j < n then ch j else bs (j - n)
theorem flatB_cat (ch bs : Nat -> BV) (n m : Nat) : flatB ch n ++ flatB bs m = flatB (catB ch n bs) (n + m) := by
 refine flatB_of _ _ (by rw [List.length_append, flatB_length, flatB_length]; omega) fun j hj => ?_
 unfold catB
 by_cases c : j < n * 5
 . rw [List.getElem?_append_left (by rw [flatB_length]; omega), flatB_at ch n j c, if_pos (by omega)]
 . rw [List.getElem?_append_right (by rw [flatB_length]; omega), flatB_length, flatB_at bs m _ (by omega), if_neg (by omega), show (j - n * 5) / 5 = j / 5 - n by omega, show (j - n * 5) % 5 = j % 5 by omega]
theorem wpList_append_B {w : World} {ops : Array Oper} {rest : List Oper} {o : Oper} {a : Act} {Q : Exit -> Act -> World -> Prop} (hgd : o.guard = none) (s x : Operand)
  (ho : o.op = .call { callee := .builtin .append, args := #[s, x], argTypes := #[27, 27] })
  (base : Nat) (v : Value) (n : Nat) (ch : Nat -> BV) (hs : a.eval s = v) (hown : w.ownsRow base 38 5 v n (flatB ch n)) (A : Option Addr) (m c : Nat) (bs : Nat -> BV) (hx : a.eval x = .slice A m c) (hnil : A = none -> m = 0 /\ c = 0) (hL : BsL w A m bs) (hnm : n + m <= 1000000) (hb : base <= w.heap.size)
  (h : ∀ v' w', w'.ownsRow base 38 5 v' (n + m) (flatB (catB ch n bs) (n + m)) -> w.grownBy w' v.ownBlock -> wpList Tryz.prog ops Q rest (a.put o.dst v') w') : wpList Tryz.prog ops Q (o :: rest) a w := by
 obtain ⟨i0, hi, hz0, hz1, hz2⟩ := info_parts infoBlock
 cases A with
 | none =>
  obtain ⟨rfl, rfl⟩ := hnil rfl
  refine wpList_append_own_none hgd s x 27 ho base 38 i0 5 vqF hi v n (flatB ch n) hs hown hx (h v w ?_ ⟨rfl, rfl, rfl, Nat.le_refl _, fun _ _ _ => rfl⟩)
  have e := flatB_cat ch bs n 0
  rw [show flatB bs 0 = [] from rfl, List.append_nil] at e
  rw [Nat.add_zero] at e ⊢
  rw [<- e]
  exact hown
 | some ad =>
  have hnews : ∀ j u, (flatB bs m)[j]? = some u -> w.cell? (ad.add j) = some u := by
   intro j u hj
   have hm : 0 < m := by
    rcases Nat.eq_zero_or_pos m with e | e
    . subst e; simp [flatB] at hj
    . exact e
   obtain ⟨b, o', hA, hb, hc⟩ := hL hm
   cases hA
   exact flatB_news hc j u hj
  exact wpList_append_own _ hgd s x 27 ho base 38 i0 _ 5 48 vqF hi hz0 hz1 hz2 rfl (by decide) v n (flatB ch n) hs hown ad m c (flatB bs m) hx (flatB_length bs m) hnews (flatB_one bs m) (by unfold maxLen; omega) (by omega) hb fun v' w' h1 h2 _ => h v' w' (by rw [<- flatB_cat]; exact h1) h2
theorem BsL.drop {w : World} {b o k : Nat} {bs : Nat -> BV} (h : BsL w (some ⟨b, o, none⟩) k bs) (i : Nat) : BsL w (some ⟨b, o + i * 5, none⟩) (k - i) (fun j => bs (i + j)) := fun h0 => by
 obtain ⟨b', o', hA, hb, hc⟩ := h (by omega)
 cases hA
 refine ⟨b, o + i * 5, rfl, hb, fun j hj => ?_⟩
 have := hc (i + j) (by omega)
 rw [show o + (i + j) * 5 = o + i * 5 + j * 5 by omega] at this
 exact this
theorem BsL.take {w : World} {A : Option Addr} {k : Nat} {bs : Nat -> BV} (h : BsL w A k bs) {i : Nat} (hi : i <= k) : BsL w A i bs := fun h0 => by
 obtain ⟨b', o', hA, hb, hc⟩ := h (by omega)
 exact ⟨b', o', hA, hb, fun j hj => hc j (by omega)⟩
theorem own_slA {w : World} {base n : Nat} {v : Value} {xs : List Value} (h : w.ownsRow base 38 5 v n xs) : ∃ A c, v = .slice A n c /\ SlA A n c := by
 rcases h.2 with ⟨rfl, rfl⟩ | ⟨g, cap, cur, rfl, _, _, h1, h2, _⟩
 . exact ⟨none, 0, rfl, fun _ => ⟨rfl, rfl⟩, Nat.le_refl _, Nat.zero_le _⟩
 . exact ⟨some ⟨g, 0, none⟩, cap, rfl, fun h => (by cases h), h1, h2⟩
def withB (bs : Nat -> BV) (i gone m : Nat) (ls : Nat -> BV) : Nat -> BV := catB (catB bs i ls) (i + m) (fun j => bs (i + gone + j))
set_option maxRecDepth 20000 in
set_option maxHeartbeats 4000000 in
theorem With_some (p : PV) (bs : Nat -> BV) (k c : Nat) (A : Option Addr) (hS : SlA A k c) (i gone : Nat) (hg : i + gone <= k) (m cl : Nat) (Al : Option Addr) (ls : Nat -> BV) (hSl : SlA Al m cl) (h0 : 0 < k) (hk : k <= 100000) (hm : m <= 1000) (w : World) (h : BsL w A k bs) (hl : BsL w Al m ls) :
  Calls Tryz.prog 12 #[bunV p A k c, .int .i64 i, .int .i64 gone, .slice Al m cl] w (fun e w' => ∃ A' c', e = .returned (bunV p A' (i + m + (k - (i + gone))) c') /\ Ext w w' /\ BsL w' A' (i + m + (k - (i + gone))) (withB bs i gone m ls) /\ SlA A' (i + m + (k - (i + gone))) c') := by
 have HE := hid (((Mod.refl [] w).alloc (.cells (bunC p A k c) 29)).alloc (.cells #[.int .u64 0, .int .i64 0, .int .i64 0, .string ⟨#[]⟩, .int .u64 0, .int .u64 0, .int .i64 0, .string ⟨#[]⟩, .int .u64 0, .int .u64 0, .int .i64 0, .string ⟨#[]⟩, .int .u64 0, .int .u64 0, .int .u64 0, .int .u64 0, .int .u64 0, .int .u64 0, .int .u64 0, .slice none 0 0] 29))
 have HB0 : Hid (Blk ((w.alloc (.cells (bunC p A k c) 29)).alloc (.cells #[.int .u64 0, .int .i64 0, .int .i64 0, .string ⟨#[]⟩, .int .u64 0, .int .u64 0, .int .i64 0, .string ⟨#[]⟩, .int .u64 0, .int .u64 0, .int .i64 0, .string ⟨#[]⟩, .int .u64 0, .int .u64 0, .int .u64 0, .int .u64 0, .int .u64 0, .int .u64 0, .int .u64 0, .slice none 0 0] 29)) w.heap.size 29 (bunC p A k c)) := hid ((Blk.new w 29 (bunC p A k c)).alloc (.cells #[.int .u64 0, .int .i64 0, .int .i64 0, .string ⟨#[]⟩, .int .u64 0, .int .u64 0, .int .i64 0, .string ⟨#[]⟩, .int .u64 0, .int .u64 0, .int .i64 0, .string ⟨#[]⟩, .int .u64 0, .int .u64 0, .int .u64 0, .int .u64 0, .int .u64 0, .int .u64 0, .int .u64 0, .slice none 0 0] 29))
 have HB1 : Hid (Blk ((w.alloc (.cells (bunC p A k c) 29)).alloc (.cells #[.int .u64 0, .int .i64 0, .int .i64 0, .string ⟨#[]⟩, .int .u64 0, .int .u64 0, .int .i64 0, .string ⟨#[]⟩, .int .u64 0, .int .u64 0, .int .i64 0, .string ⟨#[]⟩, .int .u64 0, .int .u64 0, .int .u64 0, .int .u64 0, .int .u64 0, .int .u64 0, .int .u64 0, .slice none 0 0] 29)) (w.heap.size + 1) 29 #[.int .u64 0, .int .i64 0, .int .i64 0, .string ⟨#[]⟩, .int .u64 0, .int .u64 0, .int .i64 0, .string ⟨#[]⟩, .int .u64 0, .int .u64 0, .int .i64 0, .string ⟨#[]⟩, .int .u64 0, .int .u64 0, .int .u64 0, .int .u64 0, .int .u64 0, .int .u64 0, .int .u64 0, .slice none 0 0]) := by unfold Hid; exact Blk.newL _ _ _ (by simp)
 have HL := hid (BsL.ext h HE.out)
 have HLl := hid (BsL.ext hl HE.out)
 obtain ⟨b, o, rfl, hb, _⟩ := h h0
 have hc := hS.2.1
 have hcm := hS.2.2
 obtain ⟨AD, hAD, hLD⟩ : ∃ AD : Addr, (if c = i + gone then (some ⟨b, o, none⟩ : Option Addr) else some ⟨b, o + (i + gone) * 5, none⟩) = some AD /\ ∀ W, BsL W (some ⟨b, o, none⟩) k bs -> BsL W (some AD) (k - (i + gone)) (fun j => bs (i + gone + j)) := by
  by_cases hh : c = i + gone
  .
   refine ⟨⟨b, o, none⟩, by simp [hh], fun W hW => ?_⟩
   intro h1; omega
  . exact ⟨⟨b, o + (i + gone) * 5, none⟩, by simp [hh], fun W hW => hW.drop (i + gone)⟩
 have HLD := hid hLD
 have HSl := hid hSl
 have HSn := hid hSl.1
 clear h hl hb hLD hS hSl
 have hi0 : (0 : Int) <= (i : Int) := by omega
 have hi1 : i <= c := by omega
 have hi2 : (i : Int) <= (c : Int) := by omega
 have hi3 : (i : Int) <= 100000 := by omega
 have hg0 : (0 : Int) <= (gone : Int) := by omega
 have hg1 : (gone : Int) <= 100000 := by omega
 have hw1 : IntKind.i64.wrap ((i : Int) + (gone : Int)) = (i : Int) + (gone : Int) := IntWalk.i64_in _ (by omega)
 have htn : ((i : Int) + (gone : Int)).toNat = i + gone := by omega
 have hg2 : (i : Int) + (gone : Int) <= (k : Int) := by omega
 have hg3 : (0 : Int) <= (i : Int) + (gone : Int) := by omega
 have hg4 : i + gone <= k := hg
 have hg5 : i + gone <= c := by omega
 have HW2 := hid (show w.heap.size + 1 < (((w.alloc (.cells (bunC p (some ⟨b, o, none⟩) k c) 29)).alloc (.cells #[.int .u64 0, .int .i64 0, .int .i64 0, .string ⟨#[]⟩, .int .u64 0, .int .u64 0, .int .i64 0, .string ⟨#[]⟩, .int .u64 0, .int .u64 0, .int .i64 0, .string ⟨#[]⟩, .int .u64 0, .int .u64 0, .int .u64 0, .int .u64 0, .int .u64 0, .int .u64 0, .int .u64 0, .slice none 0 0] 29))).heap.size by simp)
 go_enter Tryz.func12, Tryz.ntmps12
 go_upto_region 1 with fail
 generalize ((w.alloc (.cells (bunC p (some ⟨b, o, none⟩) k c) 29)).alloc (.cells #[.int .u64 0, .int .i64 0, .int .i64 0, .string ⟨#[]⟩, .int .u64 0, .int .u64 0, .int .i64 0, .string ⟨#[]⟩, .int .u64 0, .int .u64 0, .int .i64 0, .string ⟨#[]⟩, .int .u64 0, .int .u64 0, .int .u64 0, .int .u64 0, .int .u64 0, .int .u64 0, .int .u64 0, .slice none 0 0] 29)) = V at *
 have b19 : V.cell? ⟨w.heap.size, 19, none⟩ = some (.slice (some ⟨b, o, none⟩) k c) := HB0.out.cell 19
 go_upto_region 3 with (at_builtin; refine wpList_append_B rfl _ _ rfl V.heap.size (.slice none 0 0) 0 bs rfl (World.ownsRow_nil _ _ _ _) (some ⟨b, o, none⟩) i c bs rfl (fun h => by cases h) (HL.out.take (by omega)) (by omega) (Nat.le_refl _) ?_; intro v1 w1 ho1 hgr1)
 have HE1 : Hid (Ext V w1) := hid ((Mod.refl [] V).grown hgr1 (fun kk hkk => by cases hkk))
 have ho1' : w1.ownsRow V.heap.size 38 5 v1 i (flatB bs i) := by
  rw [Nat.zero_add, flatB_congr (bs' := bs) (fun j hj => show catB bs 0 bs j = bs j by unfold catB; simp)] at ho1
  exact ho1
 have HO1 := hid ho1'
 have HN1 : Hid (V.heap.size <= w1.heap.size) := hid HE1.out.size
 have HLl1 := hid (HLl.out.ext HE1.out)
 clear ho1 ho1' hgr1 b19
 go_upto_region 4 with (at_builtin; refine wpList_append_B rfl _ _ rfl V.heap.size v1 i bs rfl HO1.out Al m cl ls rfl HSn.out HLl1.out (by omega) HN1.out ?_; intro v2 w2 ho2 hgr2)
 have HE2 : Hid (Ext V w2) := hid (own_turned HO1.out HE1.out hgr2 (Nat.le_refl _))
 have HO2 := hid ho2
 have HN2 : Hid (V.heap.size <= w2.heap.size) := hid HE2.out.size
 have HD2 := hid (HLD.out w2 (HL.out.ext HE2.out))
 have b19 : w2.cell? ⟨w.heap.size, 19, none⟩ = some (.slice (some ⟨b, o, none⟩) k c) := (HB0.out.ext HE2.out).cell 19
 clear ho2 hgr2 HO1 HN1 HLl1 HLD
 go_upto_region 5 with (at_builtin; refine wpList_append_B rfl _ _ rfl V.heap.size v2 (i + m) (catB bs i ls) rfl HO2.out (some AD) (k - (i + gone)) (c - (i + gone)) (fun j => bs (i + gone + j)) rfl (fun h => by cases h) HD2.out (by omega) HN2.out ?_; intro v3 w3 ho3 hgr3)
 have HE3 : Hid (Ext V w3) := hid (own_turned HO2.out HE2.out hgr3 (Nat.le_refl _))
 obtain ⟨A', c', rfl, hsa⟩ := own_slA ho3
 have HSA := hid hsa
 have HLR : Hid (BsL w3 A' (i + m + (k - (i + gone))) (withB bs i gone m ls)) := hid (own_BsL ho3)
 have HLT : Hid (∀ kk o', A' = some ⟨kk, o', none⟩ -> w.heap.size + 1 < kk) := hid (fun kk o' hA => by
  subst hA
  have := (ho3.lt kk rfl).1
  have := HW2.out
  omega)
 clear ho3 hgr3 HO2 HN2 HD2 b19 hsa
 have HR3 := hid (HB1.out.ext HE3.out)
 have HPR : w3.rangeAt w.heap.size 0 p.c.toList := (HB0.out.range 0 19 (by rw [Array.toList_extract]; rfl)) ⟨w3, HE3.out⟩
 have HPRh := hid HPR
 clear HPR
 generalize hnn : i + m + (k - (i + gone)) = n3 at *
 have HNN := hid hnn
 clear hnn
 go_wp2_with (first | (refine wpList_mid (by rfl) 26 _ rfl _ 0 rfl _ _ HPRh.out vqC rfl (by kernel_rfl) ?_) | (refine wpList_store_mid rfl 29 _ _ rfl (w.heap.size + 1) 0 (bunC p A' n3 c') (by rfl) (by rfl) (HR3.out.there (Nat.le_refl 20)) (by kernel_rfl) (by simp [Value.oneCell']) ?_))
 generalize hZ : World.setCells _ _ _ _ = Z
 have HZB : Hid (Blk Z (w.heap.size + 1) 29 (bunC p A' n3 c')) := hid (by rw [<- hZ]; exact setCells_all (ds := bunC p A' n3 c') HR3.out rfl)
 have HZM : Hid (Mod [w.heap.size + 1] w3 Z) := hid (by rw [<- hZ]; exact setCells_mod _ _ (Mod.refl _ _) (.inl (by simp)))
 clear hZ
 refine bodyPost_ret (v := bunV p A' n3 c') (results_cell Tryz.results12 _ rfl HZB.out vqA rfl (by kernel_rfl)) rfl ?_
 rw [HNN.out]
 refine ⟨A', c', rfl, Mod.new (S := [w.heap.size + 1]) ((HE.out.trans HE3.out).of_ext.trans HZM.out) (fun kk hkk => .inr (by simp at hkk; omega)), ?_, HSA.out⟩
 intro hn
 obtain ⟨bb, oo, hA, hbl, hcc⟩ := HLR.out hn
 have := HLT.out bb oo hA
 exact ⟨bb, oo, hA, Nat.lt_of_lt_of_le hbl HZM.out.size, fun j hj => (hcc j hj).mod HZM.out hbl (by simp; omega)⟩
section
open Go.ChangeShapes Go.WideShapes Go.ChangeAt Go.Deep
section
variable {H : Type} {enc : TypeId × Value -> H} {w : World} {base b0 : Nat} {spare : Nat -> Bool} {held : Bool} {r : Reach}
theorem trod_rows {Z : Type} [Nonempty Z] {te ts : TypeId} {z bz : Nat} (hu : Tryz.prog.underlying ts = some (.slice te)) (hC : Tryz.prog.cellsOf te = z) (hz0 : 0 < z) (hBy : Tryz.prog.bytesOf te = bz) (hb1 : 1 <= bz) (R : Z -> List Value -> Prop)
  (hstep : ∀ f cs x, DataW.trod enc Tryz.prog w base spare held f te cs = some x -> (∀ n ∈ x.1.weights Tryz.prog te, n <= reachBytes) -> ∃ t, R t cs)
  {fuel : Nat} {c3 : Value} {y : DataW H × List MemPlace} (h3 : DataW.trod enc Tryz.prog w base spare held fuel ts [c3] = some y) (hz : ∀ n ∈ y.1.weights Tryz.prog ts, n <= reachBytes) :
  ∃ (A : Option Addr) (k c : Nat) (g : Nat -> Z), c3 = .slice A k c /\ k < 4611686018427387904 /\ SlA A k c /\ (∀ i, i < k -> ∃ cs, R (g i) cs) /\
   (0 < k -> ∃ b o, A = some ⟨b, o, none⟩ /\ b < w.heap.size /\ ∀ i, i < k -> ∃ cs, cs.length = z /\ R (g i) cs /\ ∀ j u, cs[j]? = some u -> w.cell? ⟨b, o + i * z + j, none⟩ = some u) := by
 have hR : reachBytes < 140737488355328 := by decide
 rcases DataW.trod_slice (e := te) hu h3 with ⟨hcs, _⟩ | ⟨a, len, cap', elems, rest, f, hf, hcs, hx, hb, hl, hm, hlen, hel, _, _⟩
 .
  have e3 : c3 = .slice none 0 0 := by simpa using hcs
  subst e3
  exact ⟨none, 0, 0, fun _ => Classical.choice inferInstance, rfl, by omega, ⟨fun _ => ⟨rfl, rfl⟩, Nat.le_refl _, Nat.zero_le _⟩, fun i hi => by omega, fun h => by omega⟩
 .
  have e3 : c3 = .slice (some a) len cap' := by simpa using hcs
  subst e3
  have hzs := hz
  rw [hx] at hzs
  simp only [DataW.weights, hu] at hzs
  have bl : len < 4611686018427387904 := by
   have h8 := hzs _ List.mem_cons_self
   rw [hBy, List.length_map, hlen] at h8
   have h9 : len * 1 <= (len + (List.map (fun x => x.1) rest).length) * bz := Nat.mul_le_mul (Nat.le_add_right _ _) hb1
   omega
  have key : ∀ i, i < len -> ∃ (t : Z) (cs : List Value), cs.length = z /\ R t cs /\ ∀ j u, cs[j]? = some u -> w.cell? ((a.add (i * z)).add j) = some u := by
   intro i hin
   have hi := hel i hin
   rw [List.getElem?_eq_getElem (by omega)] at hi
   obtain ⟨cs', hc, ht⟩ := Option.bind_eq_some_iff.1 hi
   have hz2 : ∀ n ∈ (elems[i]'(by omega)).1.weights Tryz.prog te, n <= reachBytes := fun n hn => by
    apply hzs
    refine List.mem_cons_of_mem _ (List.mem_append_left _ (weights_mem_all hn ?_))
    exact List.mem_map.2 ⟨_, List.getElem_mem _, rfl⟩
   obtain ⟨t, ht⟩ := hstep f cs' _ ht hz2
   rw [hC] at hc
   obtain ⟨_, hcl, hat⟩ := World.cells?_some hc
   refine ⟨t, cs', hcl, ht, fun j u hu => ?_⟩
   have hj := (List.getElem?_eq_some_iff.1 hu).1
   rw [hat j (by omega)]; exact hu
  have key2 : ∀ i, ∃ t : Z, i < len -> ∃ cs : List Value, cs.length = z /\ R t cs /\ ∀ j u, cs[j]? = some u -> w.cell? ((a.add (i * z)).add j) = some u := fun i => by
   by_cases hin : i < len
   .
    obtain ⟨t, h5⟩ := key i hin
    exact ⟨t, fun _ => h5⟩
   . exact ⟨Classical.choice inferInstance, fun h => absurd h hin⟩
  obtain ⟨g, hg⟩ : ∃ g : Nat -> Z, ∀ i, i < len -> ∃ cs : List Value, cs.length = z /\ R (g i) cs /\ ∀ j u, cs[j]? = some u -> w.cell? ((a.add (i * z)).add j) = some u :=
   ⟨fun i => Classical.choose (key2 i), fun i => Classical.choose_spec (key2 i)⟩
  refine ⟨some a, len, cap', g, rfl, bl, ⟨(fun h => by cases h), hl, hm⟩, fun i hi => by obtain ⟨cs, _, h, _⟩ := hg i hi; exact ⟨cs, h⟩, fun h0 => ?_⟩
  obtain ⟨cs, hcl, _, hat⟩ := hg 0 h0
  have hc0 : cs[0]? = some (cs[0]'(by omega)) := List.getElem?_eq_getElem _
  have z1 : w.cell? a = some (cs[0]'(by omega)) := by
   have := hat 0 _ hc0
   simpa [Addr.add] using this
  have hsp := World.cell?_spot z1
  obtain ⟨ab, ao, sp⟩ := a
  simp only at hsp
  subst hsp
  refine ⟨ab, ao, rfl, World.block_lt_of_cell? w _ z1, fun i hin => ?_⟩
  obtain ⟨cs, hcl, hr, hat⟩ := hg i hin
  refine ⟨cs, hcl, hr, fun j u hj => ?_⟩
  have := hat j u hj
  rw [addr_add, addr_add] at this
  exact this
end
end
end Go.Proofs.YthecmnbkjchjmaaGreat
