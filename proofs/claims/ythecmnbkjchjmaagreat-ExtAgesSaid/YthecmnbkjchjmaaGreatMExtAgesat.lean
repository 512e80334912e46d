/-
 The walk of the reference's Read: it returns how a head is read.
-/
import Derived.Test.YthecmnbkjchjmaaGreatMExtAgesaq

namespace Go.Proofs.YthecmnbkjchjmaaGreat
open Go.RowKit
set_option linter.unusedVariables false
set_option linter.unusedSimpArgs false

def gotV (sz m n : Nat) (o : Bool) : Value := .agg #[.int .i64 (sz : Int), .int .i64 (m : Int), .int .u64 (n : Int), .bool o]
def gotOf (x : Option (Nat × Nat × Nat × Bool)) : Value := match x with | none => gotV 0 0 0 false | some (sz, m, n, o) => gotV sz m n o
theorem first_div' (c : UInt8) (l : List UInt8) {m : Nat} (h : 0 < (⟨(c :: l).toArray⟩ : ByteArray).size) (hm : Hid (c.toNat / 32 = m)) : Value.int .i64 (wrap64 ((wrap64 ((⟨(c :: l).toArray⟩ : ByteArray)[0].toNat : Int)).tdiv 32)) = .int .i64 (m : Int) := by
 rw [<- hm.out]
 show Value.int .i64 (wrap64 ((wrap64 (c.toNat : Int)).tdiv 32)) = _
 have := c.toNat_lt
 have e : wrap64 (c.toNat : Int) = (c.toNat : Int) := IntWalk.wrap64_in _ (by omega)
 rw [e, Int.tdiv_eq_ediv_of_nonneg (by omega), IntWalk.wrap64_in _ (by omega)]; rfl
theorem first_mod' (c : UInt8) (l : List UInt8) {k : Nat} (h : 0 < (⟨(c :: l).toArray⟩ : ByteArray).size) (hk : Hid (c.toNat % 32 = k)) : Value.int .i64 ((wrap64 ((⟨(c :: l).toArray⟩ : ByteArray)[0].toNat : Int)).tmod 32) = .int .i64 (k : Int) := by
 rw [<- hk.out]
 show Value.int .i64 ((wrap64 (c.toNat : Int)).tmod 32) = _
 have := c.toNat_lt
 have e : wrap64 (c.toNat : Int) = (c.toNat : Int) := IntWalk.wrap64_in _ (by omega)
 rw [e, Int.tmod_eq_emod_of_nonneg (by omega)]; rfl
def sz1 (k : Nat) : Nat := if k = 24 then 1 else 0
def sz2 (k : Nat) : Nat := if k = 25 then 2 else sz1 k
def sz3 (k : Nat) : Nat := if k = 26 then 4 else sz2 k
def sz4 (k : Nat) : Nat := if k = 27 then 8 else sz3 k
set_option maxRecDepth 20000 in
set_option maxHeartbeats 400000 in
theorem read_nil (w : World) : Calls Tryz.prog 52 #[str []] w (Ret (gotV 0 0 0 false) w) := by
 go_enter Tryz.func52, Tryz.ntmps52
 go_wp2
 refine bodyPost_ret (v := gotV 0 0 0 false) (by simp [results, Tryz.results52, go_sem, gotV]) rfl (Ret.mk rfl ?_)
 repeat (first | exact Mod.refl _ _ | apply Mod.drewN | apply Mod.alloc | refine Mod.setCell ?_ (.inr (Nat.le_refl _)) _)

set_option maxRecDepth 20000 in
set_option maxHeartbeats 400000 in
theorem read_small (c : UInt8) (l : List UInt8) (m k : Nat) (hmm : Hid (c.toNat / 32 = m)) (hkk : Hid (c.toNat % 32 = k)) (hk : Hid (k < 24)) (w : World) : Calls Tryz.prog 52 #[str (c :: l)] w (Ret (gotV 1 m k false) w) := by
 have hlen : (0 : Int) < (l.length : Int) + 1 := by omega
 go_enter Tryz.func52, Tryz.ntmps52
 go_upto_region 3 with fail
 go_cut [3, 4] (fun s6 s7 wx => s6 = .int .i64 (m : Int) /\ s7 = .int .i64 (k : Int) /\ ∃ n, wx = (w.alloc (.cells #[.int .i64 0, .int .i64 0, .int .u64 0, .bool false] 96)).drewN n)
 case first =>
  go_quiet (fail)
  go_wp2_with fail
  go_meet
  exact ⟨first_div' c l _ hmm, first_mod' c l _ hkk, _, rfl⟩
 obtain ⟨rfl, rfl, nw, rfl⟩ := hcut
 have hk32 : Hid (k <= 31) := by have := hkk.out; unfold Hid; omega
 have t1 : decide ((k : Int) < 24) = true := by have h1 := hk.out; have h2 := hk32.out; simp; omega
 have hw1 : IntKind.u64.wrap (k : Int) = k := IntWalk.u64_in _ (by have := hk32.out; omega)
 go_wp2
 refine bodyPost_ret (v := gotV 1 m k false) (by simp [results, Tryz.results52, go_sem, gotV]) rfl (Ret.mk rfl ?_)
 repeat (first | exact Mod.refl _ _ | apply Mod.drewN | apply Mod.alloc | refine Mod.setCell ?_ (.inr (Nat.le_refl _)) _)

set_option maxRecDepth 20000 in
set_option maxHeartbeats 400000 in
theorem read_open (c : UInt8) (l : List UInt8) (m k : Nat) (hmm : Hid (c.toNat / 32 = m)) (hkk : Hid (c.toNat % 32 = k)) (hk : Hid (k = 31)) (ho : Hid (opensB (m : Int) = true)) (w : World) : Calls Tryz.prog 52 #[str (c :: l)] w (Ret (gotV 1 m 0 true) w) := by
 have hlen : (0 : Int) < (l.length : Int) + 1 := by omega
 go_enter Tryz.func52, Tryz.ntmps52
 go_upto_region 3 with fail
 go_cut [3, 4] (fun s6 s7 wx => s6 = .int .i64 (m : Int) /\ s7 = .int .i64 (k : Int) /\ ∃ n, wx = (w.alloc (.cells #[.int .i64 0, .int .i64 0, .int .u64 0, .bool false] 96)).drewN n)
 case first =>
  go_quiet (fail)
  go_wp2_with fail
  go_meet
  exact ⟨first_div' c l _ hmm, first_mod' c l _ hkk, _, rfl⟩
 obtain ⟨rfl, rfl, nw, rfl⟩ := hcut
 have hk32 : Hid (k <= 31) := by have := hkk.out; unfold Hid; omega
 have t1 : decide ((k : Int) < 24) = false := by have h1 := hk.out; have h2 := hk32.out; simp; omega
 have t2 : ((k : Int) == 31) = true := by have h1 := hk.out; have h2 := hk32.out; simp; omega
 have t3 : ((m : Int) != 0) = true := by have h1 := ho.out; have h2 := hmm.out; have h3 := c.toNat_lt; unfold opensB at h1; simp at h1 ⊢; omega
 have t4 : ((m : Int) != 1) = true := by have h1 := ho.out; have h2 := hmm.out; have h3 := c.toNat_lt; unfold opensB at h1; simp at h1 ⊢; omega
 have t5 : ((m : Int) != 6) = true := by have h1 := ho.out; have h2 := hmm.out; have h3 := c.toNat_lt; unfold opensB at h1; simp at h1 ⊢; omega
 go_wp2
 refine bodyPost_ret (v := gotV 1 m 0 true) (by simp [results, Tryz.results52, go_sem, gotV]) rfl (Ret.mk rfl ?_)
 repeat (first | exact Mod.refl _ _ | apply Mod.drewN | apply Mod.alloc | refine Mod.setCell ?_ (.inr (Nat.le_refl _)) _)

set_option maxRecDepth 20000 in
set_option maxHeartbeats 400000 in
theorem read_none (c : UInt8) (l : List UInt8) (m k : Nat) (hmm : Hid (c.toNat / 32 = m)) (hkk : Hid (c.toNat % 32 = k)) (hk : Hid (24 <= k)) (ho : Hid (¬ (k = 31 /\ opensB (m : Int) = true))) (hz : Hid (sz4 k = 0)) (w : World) : Calls Tryz.prog 52 #[str (c :: l)] w (Ret (gotV 0 0 0 false) w) := by
 have hlen : (0 : Int) < (l.length : Int) + 1 := by omega
 go_enter Tryz.func52, Tryz.ntmps52
 go_upto_region 3 with fail
 go_cut [3, 4] (fun s6 s7 wx => s6 = .int .i64 (m : Int) /\ s7 = .int .i64 (k : Int) /\ ∃ n, wx = (w.alloc (.cells #[.int .i64 0, .int .i64 0, .int .u64 0, .bool false] 96)).drewN n)
 case first =>
  go_quiet (fail)
  go_wp2_with fail
  go_meet
  exact ⟨first_div' c l _ hmm, first_mod' c l _ hkk, _, rfl⟩
 obtain ⟨rfl, rfl, nw, rfl⟩ := hcut
 have hk32 : Hid (k <= 31) := by have := hkk.out; unfold Hid; omega
 have t1 : decide ((k : Int) < 24) = false := by have h1 := hk.out; have h2 := hk32.out; simp; omega
 go_upto_region 6 with fail
 go_cut [38] (fun s wx => s = .bool false /\ ∃ n, wx = (w.alloc (.cells #[.int .i64 0, .int .i64 0, .int .u64 0, .bool false] 96)).drewN n)
 case first =>
  by_cases hv : k = 31
  .
   have hm3 : m = 0 \/ m = 1 \/ m = 6 := by
    have h1 := hmm.out; have h2 := c.toNat_lt; have h3 := ho.out
    have h4 : opensB (m : Int) = false := by cases e : opensB (m : Int) with | false => rfl | true => exact absurd ⟨hv, e⟩ h3
    unfold opensB at h4; simp at h4; omega
   have tv : ((k : Int) == 31) = true := by simp; omega
   have HV := hid hv; clear hv
   rcases hm3 with hm | hm | hm
   .
    have tm : ((m : Int) != 0) = false := by simp; omega
    have HM := hid hm; clear hm
    go_wp2_with fail; go_meet; exact ⟨rfl, _, rfl⟩
   .
    have tm : ((m : Int) != 0) = true := by simp; omega
    have tm1 : ((m : Int) != 1) = false := by simp; omega
    have HM := hid hm; clear hm
    go_wp2_with fail; go_meet; exact ⟨rfl, _, rfl⟩
   .
    have tm : ((m : Int) != 0) = true := by simp; omega
    have tm1 : ((m : Int) != 1) = true := by simp; omega
    have tm2 : ((m : Int) != 6) = false := by simp; omega
    have HM := hid hm; clear hm
    go_wp2_with fail; go_meet; exact ⟨rfl, _, rfl⟩
  .
   have tv : ((k : Int) == 31) = false := by simp; omega
   have HV := hid hv; clear hv
   go_wp2_with fail; go_meet; exact ⟨rfl, _, rfl⟩
 obtain ⟨rfl, nv, rfl⟩ := hcut
 go_upto_region 8 with fail
 go_cut [5] (fun s wx => s = .int .i64 0 /\ ∃ n, wx = (w.alloc (.cells #[.int .i64 0, .int .i64 0, .int .u64 0, .bool false] 96)).drewN n)
 case first => go_wp2_with fail; go_meet; exact ⟨rfl, _, rfl⟩
 obtain ⟨rfl, nx, rfl⟩ := hcut
 go_step
 go_step
 go_cut [5] (fun s wx => s = .int .i64 ((sz1 k : Nat) : Int) /\ ∃ n, wx = (w.alloc (.cells #[.int .i64 0, .int .i64 0, .int .u64 0, .bool false] 96)).drewN n)
 case first =>
  by_cases hv : k = 24
  .
   have tv : ((k : Int) == 24) = true := by simp; omega
   have HV := hid hv; clear hv
   go_wp2_with fail; go_meet
   exact ⟨by unfold sz1; rw [if_pos HV.out]; rfl, _, rfl⟩
  .
   have tv : ((k : Int) == 24) = false := by simp; omega
   have HV := hid hv; clear hv
   go_wp2_with fail; go_meet
   exact ⟨by unfold sz1; rw [if_neg HV.out]; rfl, _, rfl⟩
 obtain ⟨rfl, nx1, rfl⟩ := hcut
 go_step
 go_step
 go_cut [5] (fun s wx => s = .int .i64 ((sz2 k : Nat) : Int) /\ ∃ n, wx = (w.alloc (.cells #[.int .i64 0, .int .i64 0, .int .u64 0, .bool false] 96)).drewN n)
 case first =>
  by_cases hv : k = 25
  .
   have tv : ((k : Int) == 25) = true := by simp; omega
   have HV := hid hv; clear hv
   go_wp2_with fail; go_meet
   exact ⟨by unfold sz2; rw [if_pos HV.out]; rfl, _, rfl⟩
  .
   have tv : ((k : Int) == 25) = false := by simp; omega
   have HV := hid hv; clear hv
   go_wp2_with fail; go_meet
   exact ⟨by unfold sz2; rw [if_neg HV.out], _, rfl⟩
 obtain ⟨rfl, nx2, rfl⟩ := hcut
 go_step
 go_step
 go_cut [5] (fun s wx => s = .int .i64 ((sz3 k : Nat) : Int) /\ ∃ n, wx = (w.alloc (.cells #[.int .i64 0, .int .i64 0, .int .u64 0, .bool false] 96)).drewN n)
 case first =>
  by_cases hv : k = 26
  .
   have tv : ((k : Int) == 26) = true := by simp; omega
   have HV := hid hv; clear hv
   go_wp2_with fail; go_meet
   exact ⟨by unfold sz3; rw [if_pos HV.out]; rfl, _, rfl⟩
  .
   have tv : ((k : Int) == 26) = false := by simp; omega
   have HV := hid hv; clear hv
   go_wp2_with fail; go_meet
   exact ⟨by unfold sz3; rw [if_neg HV.out], _, rfl⟩
 obtain ⟨rfl, nx3, rfl⟩ := hcut
 go_step
 go_step
 go_cut [5] (fun s wx => s = .int .i64 ((sz4 k : Nat) : Int) /\ ∃ n, wx = (w.alloc (.cells #[.int .i64 0, .int .i64 0, .int .u64 0, .bool false] 96)).drewN n)
 case first =>
  by_cases hv : k = 27
  .
   have tv : ((k : Int) == 27) = true := by simp; omega
   have HV := hid hv; clear hv
   go_wp2_with fail; go_meet
   exact ⟨by unfold sz4; rw [if_pos HV.out]; rfl, _, rfl⟩
  .
   have tv : ((k : Int) == 27) = false := by simp; omega
   have HV := hid hv; clear hv
   go_wp2_with fail; go_meet
   exact ⟨by unfold sz4; rw [if_neg HV.out], _, rfl⟩
 obtain ⟨rfl, nx4, rfl⟩ := hcut
 rw [hz.out]
 go_wp2
 refine bodyPost_ret (v := gotV 0 0 0 false) (by simp [results, Tryz.results52, go_sem, gotV]) rfl (Ret.mk rfl ?_)
 repeat (first | exact Mod.refl _ _ | apply Mod.drewN | apply Mod.alloc | refine Mod.setCell ?_ (.inr (Nat.le_refl _)) _)

set_option maxRecDepth 20000 in
set_option maxHeartbeats 400000 in
theorem read_short (c : UInt8) (l : List UInt8) (m k : Nat) (hmm : Hid (c.toNat / 32 = m)) (hkk : Hid (c.toNat % 32 = k)) (S : Nat) (hk : Hid (24 <= k /\ k < 28)) (hz : Hid (sz4 k = S)) (hS : Hid (1 <= S /\ S <= 8)) (hs : Hid (l.length < S)) (w : World) : Calls Tryz.prog 52 #[str (c :: l)] w (Ret (gotV 0 0 0 false) w) := by
 have hlen : (0 : Int) < (l.length : Int) + 1 := by omega
 go_enter Tryz.func52, Tryz.ntmps52
 go_upto_region 3 with fail
 go_cut [3, 4] (fun s6 s7 wx => s6 = .int .i64 (m : Int) /\ s7 = .int .i64 (k : Int) /\ ∃ n, wx = (w.alloc (.cells #[.int .i64 0, .int .i64 0, .int .u64 0, .bool false] 96)).drewN n)
 case first =>
  go_quiet (fail)
  go_wp2_with fail
  go_meet
  exact ⟨first_div' c l _ hmm, first_mod' c l _ hkk, _, rfl⟩
 obtain ⟨rfl, rfl, nw, rfl⟩ := hcut
 have hk32 : Hid (k <= 31) := by have := hkk.out; unfold Hid; omega
 have t1 : decide ((k : Int) < 24) = false := by have h1 := hk.out; have h2 := hk32.out; simp; omega
 have te : ((k : Int) == 31) = false := by have h1 := hk.out; simp; omega
 go_upto_region 8 with fail
 go_cut [5] (fun s wx => s = .int .i64 0 /\ ∃ n, wx = (w.alloc (.cells #[.int .i64 0, .int .i64 0, .int .u64 0, .bool false] 96)).drewN n)
 case first => go_wp2_with fail; go_meet; exact ⟨rfl, _, rfl⟩
 obtain ⟨rfl, nx, rfl⟩ := hcut
 go_step
 go_step
 go_cut [5] (fun s wx => s = .int .i64 ((sz1 k : Nat) : Int) /\ ∃ n, wx = (w.alloc (.cells #[.int .i64 0, .int .i64 0, .int .u64 0, .bool false] 96)).drewN n)
 case first =>
  by_cases hv : k = 24
  .
   have tv : ((k : Int) == 24) = true := by simp; omega
   have HV := hid hv; clear hv
   go_wp2_with fail; go_meet
   exact ⟨by unfold sz1; rw [if_pos HV.out]; rfl, _, rfl⟩
  .
   have tv : ((k : Int) == 24) = false := by simp; omega
   have HV := hid hv; clear hv
   go_wp2_with fail; go_meet
   exact ⟨by unfold sz1; rw [if_neg HV.out]; rfl, _, rfl⟩
 obtain ⟨rfl, nx1, rfl⟩ := hcut
 go_step
 go_step
 go_cut [5] (fun s wx => s = .int .i64 ((sz2 k : Nat) : Int) /\ ∃ n, wx = (w.alloc (.cells #[.int .i64 0, .int .i64 0, .int .u64 0, .bool false] 96)).drewN n)
 case first =>
  by_cases hv : k = 25
  .
   have tv : ((k : Int) == 25) = true := by simp; omega
   have HV := hid hv; clear hv
   go_wp2_with fail; go_meet
   exact ⟨by unfold sz2; rw [if_pos HV.out]; rfl, _, rfl⟩
  .
   have tv : ((k : Int) == 25) = false := by simp; omega
   have HV := hid hv; clear hv
   go_wp2_with fail; go_meet
   exact ⟨by unfold sz2; rw [if_neg HV.out], _, rfl⟩
 obtain ⟨rfl, nx2, rfl⟩ := hcut
 go_step
 go_step
 go_cut [5] (fun s wx => s = .int .i64 ((sz3 k : Nat) : Int) /\ ∃ n, wx = (w.alloc (.cells #[.int .i64 0, .int .i64 0, .int .u64 0, .bool false] 96)).drewN n)
 case first =>
  by_cases hv : k = 26
  .
   have tv : ((k : Int) == 26) = true := by simp; omega
   have HV := hid hv; clear hv
   go_wp2_with fail; go_meet
   exact ⟨by unfold sz3; rw [if_pos HV.out]; rfl, _, rfl⟩
  .
   have tv : ((k : Int) == 26) = false := by simp; omega
   have HV := hid hv; clear hv
   go_wp2_with fail; go_meet
   exact ⟨by unfold sz3; rw [if_neg HV.out], _, rfl⟩
 obtain ⟨rfl, nx3, rfl⟩ := hcut
 go_step
 go_step
 go_cut [5] (fun s wx => s = .int .i64 ((sz4 k : Nat) : Int) /\ ∃ n, wx = (w.alloc (.cells #[.int .i64 0, .int .i64 0, .int .u64 0, .bool false] 96)).drewN n)
 case first =>
  by_cases hv : k = 27
  .
   have tv : ((k : Int) == 27) = true := by simp; omega
   have HV := hid hv; clear hv
   go_wp2_with fail; go_meet
   exact ⟨by unfold sz4; rw [if_pos HV.out]; rfl, _, rfl⟩
  .
   have tv : ((k : Int) == 27) = false := by simp; omega
   have HV := hid hv; clear hv
   go_wp2_with fail; go_meet
   exact ⟨by unfold sz4; rw [if_neg HV.out], _, rfl⟩
 obtain ⟨rfl, nx4, rfl⟩ := hcut
 rw [hz.out]
 have hw3 : wrap64 ((S : Int) + 1) = (S : Int) + 1 := IntWalk.wrap64_in _ (by have := hS.out; omega)
 have tz : ((S : Int) == 0) = false := by have := hS.out; simp; omega
 have ts : decide (l.length < S) = true := by have := hs.out; simp; omega
 go_wp2
 refine bodyPost_ret (v := gotV 0 0 0 false) (by simp [results, Tryz.results52, go_sem, gotV]) rfl (Ret.mk rfl ?_)
 repeat (first | exact Mod.refl _ _ | apply Mod.drewN | apply Mod.alloc | refine Mod.setCell ?_ (.inr (Nat.le_refl _)) _)

end Go.Proofs.YthecmnbkjchjmaaGreat


namespace Go.Proofs.YthecmnbkjchjmaaGreat
open Go.RowKit
set_option linter.unusedVariables false
set_option linter.unusedSimpArgs false

theorem rd_i' {j : Nat} (h : j < 1000) : wrap64 ((j : Int) + 1 + 1) = ((j + 1 : Nat) : Int) + 1 := by rw [IntWalk.wrap64_in _ (by omega)]; omega
theorem rd_i {j : Nat} (h : j < 1000) : Value.int .i64 (wrap64 ((j : Int) + 1 + 1)) = .int .i64 (((j + 1 : Nat) : Int) + 1) := by rw [rd_i' h]
theorem slice_to1 (c : UInt8) (l : List UInt8) (j : Nat) (h : j <= l.length) (w : World) :
  (Instr.slice 9 (str (c :: l)) none (some (.int .i64 ((j : Int) + 1))) none).run Tryz.prog w = .ok (str ((c :: l).take (j + 1))) w := by
 have hex : Value.string ((⟨(c :: l).toArray⟩ : ByteArray).extract 0 (j + 1)) = str ((c :: l).take (j + 1)) := by rw [extract_str]; rfl
 have hle : (j : Int) + 1 <= (l.length : Int) + 1 := by omega
 have hl0 : (0 : Int) <= (j : Int) + 1 := by omega
 generalize hT : (c :: l).take (j + 1) = tk at *
 have HT := hid hT; clear hT
 go_simp
theorem rd_n {c : UInt8} {l : List UInt8} {j q : Nat} (hj : j < l.length) (h8 : j < 8) (hq : fromBE (l.take j) = q) {h : j + 1 < (⟨(c :: l).toArray⟩ : ByteArray).size} :
  Value.int .u64 (IntKind.u64.wrap (IntKind.u64.wrap ((q : Int) * 256) + IntKind.u64.wrap (((⟨(c :: l).toArray⟩ : ByteArray)[j + 1].toNat : Nat) : Int))) = .int .u64 ((fromBE (l.take (j + 1)) : Nat) : Int) := by
 have e : (⟨(c :: l).toArray⟩ : ByteArray)[j + 1] = l[j] := rfl
 rw [e, List.take_succ_eq_append_getElem hj, fromBE_snoc, hq]
 have hlt := fromBE_lt (l.take j)
 have hle : (l.take j).length <= 7 := by rw [List.length_take]; omega
 have hp : 2 ^ (8 * (l.take j).length) <= 2 ^ (8 * 7) := Nat.pow_le_pow_right (by omega) (by omega)
 have h3 := Nat.lt_of_lt_of_le hlt hp
 rw [hq] at h3
 have hx := l[j].toNat_lt
 rw [IntWalk.u64_in ((q : Int) * 256) (by omega), IntWalk.u64_in ((l[j].toNat : Nat) : Int) (by omega), IntWalk.u64_in _ (by omega)]
 rfl

set_option maxRecDepth 20000 in
set_option maxHeartbeats 400000 in
theorem read_good (c : UInt8) (l : List UInt8) (m k : Nat) (hmm : Hid (c.toNat / 32 = m)) (hkk : Hid (c.toNat % 32 = k)) (S : Nat) (hk : Hid (24 <= k /\ k < 28)) (hz : Hid (sz4 k = S)) (hS : Hid (1 <= S /\ S <= 8)) (n : Nat) (hn : Hid (fromBE (l.take S) = n)) (hs : Hid (S <= l.length)) (hcmp : Hid (headL m n = (c :: l).take (S + 1))) (w : World) : Calls Tryz.prog 52 #[str (c :: l)] w (Ret (gotV (S + 1) m n false) w) := by
 have hlen : (0 : Int) < (l.length : Int) + 1 := by omega
 go_enter Tryz.func52, Tryz.ntmps52
 go_upto_region 3 with fail
 go_cut [3, 4] (fun s6 s7 wx => s6 = .int .i64 (m : Int) /\ s7 = .int .i64 (k : Int) /\ ∃ n, wx = (w.alloc (.cells #[.int .i64 0, .int .i64 0, .int .u64 0, .bool false] 96)).drewN n)
 case first =>
  go_quiet (fail)
  go_wp2_with fail
  go_meet
  exact ⟨first_div' c l _ hmm, first_mod' c l _ hkk, _, rfl⟩
 obtain ⟨rfl, rfl, nw, rfl⟩ := hcut
 have hk32 : Hid (k <= 31) := by have := hkk.out; unfold Hid; omega
 have t1 : decide ((k : Int) < 24) = false := by have h1 := hk.out; have h2 := hk32.out; simp; omega
 have te : ((k : Int) == 31) = false := by have h1 := hk.out; simp; omega
 go_upto_region 8 with fail
 go_cut [5] (fun s wx => s = .int .i64 0 /\ ∃ n, wx = (w.alloc (.cells #[.int .i64 0, .int .i64 0, .int .u64 0, .bool false] 96)).drewN n)
 case first => go_wp2_with fail; go_meet; exact ⟨rfl, _, rfl⟩
 obtain ⟨rfl, nx, rfl⟩ := hcut
 go_step
 go_step
 go_cut [5] (fun s wx => s = .int .i64 ((sz1 k : Nat) : Int) /\ ∃ n, wx = (w.alloc (.cells #[.int .i64 0, .int .i64 0, .int .u64 0, .bool false] 96)).drewN n)
 case first =>
  by_cases hv : k = 24
  .
   have tv : ((k : Int) == 24) = true := by simp; omega
   have HV := hid hv; clear hv
   go_wp2_with fail; go_meet
   exact ⟨by unfold sz1; rw [if_pos HV.out]; rfl, _, rfl⟩
  .
   have tv : ((k : Int) == 24) = false := by simp; omega
   have HV := hid hv; clear hv
   go_wp2_with fail; go_meet
   exact ⟨by unfold sz1; rw [if_neg HV.out]; rfl, _, rfl⟩
 obtain ⟨rfl, nx1, rfl⟩ := hcut
 go_step
 go_step
 go_cut [5] (fun s wx => s = .int .i64 ((sz2 k : Nat) : Int) /\ ∃ n, wx = (w.alloc (.cells #[.int .i64 0, .int .i64 0, .int .u64 0, .bool false] 96)).drewN n)
 case first =>
  by_cases hv : k = 25
  .
   have tv : ((k : Int) == 25) = true := by simp; omega
   have HV := hid hv; clear hv
   go_wp2_with fail; go_meet
   exact ⟨by unfold sz2; rw [if_pos HV.out]; rfl, _, rfl⟩
  .
   have tv : ((k : Int) == 25) = false := by simp; omega
   have HV := hid hv; clear hv
   go_wp2_with fail; go_meet
   exact ⟨by unfold sz2; rw [if_neg HV.out], _, rfl⟩
 obtain ⟨rfl, nx2, rfl⟩ := hcut
 go_step
 go_step
 go_cut [5] (fun s wx => s = .int .i64 ((sz3 k : Nat) : Int) /\ ∃ n, wx = (w.alloc (.cells #[.int .i64 0, .int .i64 0, .int .u64 0, .bool false] 96)).drewN n)
 case first =>
  by_cases hv : k = 26
  .
   have tv : ((k : Int) == 26) = true := by simp; omega
   have HV := hid hv; clear hv
   go_wp2_with fail; go_meet
   exact ⟨by unfold sz3; rw [if_pos HV.out]; rfl, _, rfl⟩
  .
   have tv : ((k : Int) == 26) = false := by simp; omega
   have HV := hid hv; clear hv
   go_wp2_with fail; go_meet
   exact ⟨by unfold sz3; rw [if_neg HV.out], _, rfl⟩
 obtain ⟨rfl, nx3, rfl⟩ := hcut
 go_step
 go_step
 go_cut [5] (fun s wx => s = .int .i64 ((sz4 k : Nat) : Int) /\ ∃ n, wx = (w.alloc (.cells #[.int .i64 0, .int .i64 0, .int .u64 0, .bool false] 96)).drewN n)
 case first =>
  by_cases hv : k = 27
  .
   have tv : ((k : Int) == 27) = true := by simp; omega
   have HV := hid hv; clear hv
   go_wp2_with fail; go_meet
   exact ⟨by unfold sz4; rw [if_pos HV.out]; rfl, _, rfl⟩
  .
   have tv : ((k : Int) == 27) = false := by simp; omega
   have HV := hid hv; clear hv
   go_wp2_with fail; go_meet
   exact ⟨by unfold sz4; rw [if_neg HV.out], _, rfl⟩
 obtain ⟨rfl, nx4, rfl⟩ := hcut
 rw [hz.out]
 have hw3 : wrap64 ((S : Int) + 1) = (S : Int) + 1 := IntWalk.wrap64_in _ (by have := hS.out; omega)
 have tz : ((S : Int) == 0) = false := by have := hS.out; simp; omega
 have ts : decide (l.length < S) = false := by have := hs.out; simp; omega
 go_wp2
 go_loop [6, 7] (fun x i => ∃ j : Nat, j <= S /\ i = .int .i64 ((j : Int) + 1) /\ x = .int .u64 ((fromBE (l.take j) : Nat) : Int)) (fun _ i => S + 1 - (intOf i).toNat)
 case atStart => exact ⟨0, Nat.zero_le _, rfl, rfl⟩
 case round =>
  obtain ⟨j, hj, rfl, rfl⟩ := hrel
  by_cases hlt : j < S
  .
   have hjl : j < l.length := by have := hs.out; omega
   generalize hq : fromBE (l.take j) = q
   have HQ := hid hq; clear hq
   have hb1 : (j : Int) + 1 < (l.length : Int) + 1 := by omega
   have hb2 : (0 : Int) <= (j : Int) + 1 := by omega
   have tj : decide ((j : Int) + 1 <= (S : Int)) = true := by simp; omega
   have HJ := hid hjl
   have HL := hid hlt
   clear hjl hlt hj
   go_wp2
   go_round
   case rel => exact ⟨j + 1, HL.out, rd_i (by have := HJ.out; have := hs.out; have := hS.out; have := HL.out; omega), rd_n HJ.out (by have := HL.out; have := hS.out; omega) HQ.out⟩
   case measure => rw [rd_i' (by have := HL.out; have := hS.out; omega)]; simp [intOf]; have := HL.out; omega
  .
   obtain rfl : j = S := by omega
   rw [hn.out]
   have hn64 : Hid (n < 18446744073709551616 /\ m <= 7) := by
    have h1 := fromBE_lt (l.take j)
    have h2 : (l.take j).length <= 8 := by have := hS.out; rw [List.length_take]; omega
    have h3 : 2 ^ (8 * (l.take j).length) <= 2 ^ (8 * 8) := Nat.pow_le_pow_right (by omega) (by omega)
    rw [hn.out] at h1
    have := c.toNat_lt
    have := hmm.out
    exact ⟨Nat.lt_of_lt_of_le h1 h3, by omega⟩
   clear hlt hj
   generalize hW : World.drewN (World.alloc w _) _ = W at *
   have hE : Ext w W := by rw [<- hW]; exact ((Mod.refl _ _).alloc _).drewN _
   have hB : Blk W w.heap.size 96 #[.int .i64 0, .int .i64 0, .int .u64 0, .bool false] := by rw [<- hW]; exact (Blk.new _ _ _).drewN _
   have HW := hid hW; clear hW
   have hex : Value.string ((⟨(c :: l).toArray⟩ : ByteArray).extract 0 (j + 1)) = str ((c :: l).take (j + 1)) := by rw [extract_str]; rfl
   have hsl := fun wx => slice_to1 c l j (by have := hs.out; omega) wx
   generalize hT : (c :: l).take (j + 1) = tk at *
   have HT := hid hT; clear hT
   have hc1 := hcmp.out
   have hle : (j : Int) + 1 <= (l.length : Int) + 1 := by have := hs.out; omega
   have hwi : IntKind.i64.wrap ((j : Int) + 1) = (j : Int) + 1 := IntWalk.i64_in _ (by have := hS.out; omega)
   clear hex hle
   go_upto_region 24 with fail
   go_cut [78] (fun s wx => s = .bool false /\ Ext W wx)
   case first =>
    go_region_with ((go_at_call 28; refine (rhead_in m n (by omega) (by have := hn64.out; omega) (by omega) (by have := hn64.out; omega) _).mono ?_; rintro x w3 ⟨rfl, hb3⟩; simp only [Int.toNat_natCast]))
    all_goals (go_wp2_with fail; go_meet)
    all_goals exact ⟨rfl, by first | exact (Mod.refl _ _).drew.trans hb3 | exact ((Mod.refl _ _).drew.trans hb3).drew⟩
   obtain ⟨rfl, hb⟩ := hcut
   have hB2 := hB.ext hb
   have g0 : wc.cell? ⟨w.heap.size, 0, none⟩ = some (.int .i64 0) := hB2.cell 0
   have g1 : wc.cell? ⟨w.heap.size, 1, none⟩ = some (.int .i64 0) := hB2.cell 1
   have g2 : wc.cell? ⟨w.heap.size, 2, none⟩ = some (.int .u64 0) := hB2.cell 2
   have g3 : wc.cell? ⟨w.heap.size, 3, none⟩ = some (.bool false) := hB2.cell 3
   have p0 := hB2.frozen 0
   have p1 := hB2.frozen 1
   have p2 := hB2.frozen 2
   have p3 := hB2.frozen 3
   go_wp2
   refine bodyPost_ret (v := gotV (j + 1) m n false) (by simp [results, Tryz.results52, go_sem, gotV, g0, g1, g2, g3]) rfl (Ret.mk rfl ?_)
   repeat (first | exact hE.trans hb | refine Mod.setCell ?_ (.inr (Nat.le_refl _)) _)

set_option maxRecDepth 20000 in
set_option maxHeartbeats 400000 in
theorem read_long (c : UInt8) (l : List UInt8) (m k : Nat) (hmm : Hid (c.toNat / 32 = m)) (hkk : Hid (c.toNat % 32 = k)) (S : Nat) (hk : Hid (24 <= k /\ k < 28)) (hz : Hid (sz4 k = S)) (hS : Hid (1 <= S /\ S <= 8)) (n : Nat) (hn : Hid (fromBE (l.take S) = n)) (hs : Hid (S <= l.length)) (hcmp : Hid (headL m n ≠ (c :: l).take (S + 1))) (w : World) : Calls Tryz.prog 52 #[str (c :: l)] w (Ret (gotV 0 0 0 false) w) := by
 have hlen : (0 : Int) < (l.length : Int) + 1 := by omega
 go_enter Tryz.func52, Tryz.ntmps52
 go_upto_region 3 with fail
 go_cut [3, 4] (fun s6 s7 wx => s6 = .int .i64 (m : Int) /\ s7 = .int .i64 (k : Int) /\ ∃ n, wx = (w.alloc (.cells #[.int .i64 0, .int .i64 0, .int .u64 0, .bool false] 96)).drewN n)
 case first =>
  go_quiet (fail)
  go_wp2_with fail
  go_meet
  exact ⟨first_div' c l _ hmm, first_mod' c l _ hkk, _, rfl⟩
 obtain ⟨rfl, rfl, nw, rfl⟩ := hcut
 have hk32 : Hid (k <= 31) := by have := hkk.out; unfold Hid; omega
 have t1 : decide ((k : Int) < 24) = false := by have h1 := hk.out; have h2 := hk32.out; simp; omega
 have te : ((k : Int) == 31) = false := by have h1 := hk.out; simp; omega
 go_upto_region 8 with fail
 go_cut [5] (fun s wx => s = .int .i64 0 /\ ∃ n, wx = (w.alloc (.cells #[.int .i64 0, .int .i64 0, .int .u64 0, .bool false] 96)).drewN n)
 case first => go_wp2_with fail; go_meet; exact ⟨rfl, _, rfl⟩
 obtain ⟨rfl, nx, rfl⟩ := hcut
 go_step
 go_step
 go_cut [5] (fun s wx => s = .int .i64 ((sz1 k : Nat) : Int) /\ ∃ n, wx = (w.alloc (.cells #[.int .i64 0, .int .i64 0, .int .u64 0, .bool false] 96)).drewN n)
 case first =>
  by_cases hv : k = 24
  .
   have tv : ((k : Int) == 24) = true := by simp; omega
   have HV := hid hv; clear hv
   go_wp2_with fail; go_meet
   exact ⟨by unfold sz1; rw [if_pos HV.out]; rfl, _, rfl⟩
  .
   have tv : ((k : Int) == 24) = false := by simp; omega
   have HV := hid hv; clear hv
   go_wp2_with fail; go_meet
   exact ⟨by unfold sz1; rw [if_neg HV.out]; rfl, _, rfl⟩
 obtain ⟨rfl, nx1, rfl⟩ := hcut
 go_step
 go_step
 go_cut [5] (fun s wx => s = .int .i64 ((sz2 k : Nat) : Int) /\ ∃ n, wx = (w.alloc (.cells #[.int .i64 0, .int .i64 0, .int .u64 0, .bool false] 96)).drewN n)
 case first =>
  by_cases hv : k = 25
  .
   have tv : ((k : Int) == 25) = true := by simp; omega
   have HV := hid hv; clear hv
   go_wp2_with fail; go_meet
   exact ⟨by unfold sz2; rw [if_pos HV.out]; rfl, _, rfl⟩
  .
   have tv : ((k : Int) == 25) = false := by simp; omega
   have HV := hid hv; clear hv
   go_wp2_with fail; go_meet
   exact ⟨by unfold sz2; rw [if_neg HV.out], _, rfl⟩
 obtain ⟨rfl, nx2, rfl⟩ := hcut
 go_step
 go_step
 go_cut [5] (fun s wx => s = .int .i64 ((sz3 k : Nat) : Int) /\ ∃ n, wx = (w.alloc (.cells #[.int .i64 0, .int .i64 0, .int .u64 0, .bool false] 96)).drewN n)
 case first =>
  by_cases hv : k = 26
  .
   have tv : ((k : Int) == 26) = true := by simp; omega
   have HV := hid hv; clear hv
   go_wp2_with fail; go_meet
   exact ⟨by unfold sz3; rw [if_pos HV.out]; rfl, _, rfl⟩
  .
   have tv : ((k : Int) == 26) = false := by simp; omega
   have HV := hid hv; clear hv
   go_wp2_with fail; go_meet
   exact ⟨by unfold sz3; rw [if_neg HV.out], _, rfl⟩
 obtain ⟨rfl, nx3, rfl⟩ := hcut
 go_step
 go_step
 go_cut [5] (fun s wx => s = .int .i64 ((sz4 k : Nat) : Int) /\ ∃ n, wx = (w.alloc (.cells #[.int .i64 0, .int .i64 0, .int .u64 0, .bool false] 96)).drewN n)
 case first =>
  by_cases hv : k = 27
  .
   have tv : ((k : Int) == 27) = true := by simp; omega
   have HV := hid hv; clear hv
   go_wp2_with fail; go_meet
   exact ⟨by unfold sz4; rw [if_pos HV.out]; rfl, _, rfl⟩
  .
   have tv : ((k : Int) == 27) = false := by simp; omega
   have HV := hid hv; clear hv
   go_wp2_with fail; go_meet
   exact ⟨by unfold sz4; rw [if_neg HV.out], _, rfl⟩
 obtain ⟨rfl, nx4, rfl⟩ := hcut
 rw [hz.out]
 have hw3 : wrap64 ((S : Int) + 1) = (S : Int) + 1 := IntWalk.wrap64_in _ (by have := hS.out; omega)
 have tz : ((S : Int) == 0) = false := by have := hS.out; simp; omega
 have ts : decide (l.length < S) = false := by have := hs.out; simp; omega
 go_wp2
 go_loop [6, 7] (fun x i => ∃ j : Nat, j <= S /\ i = .int .i64 ((j : Int) + 1) /\ x = .int .u64 ((fromBE (l.take j) : Nat) : Int)) (fun _ i => S + 1 - (intOf i).toNat)
 case atStart => exact ⟨0, Nat.zero_le _, rfl, rfl⟩
 case round =>
  obtain ⟨j, hj, rfl, rfl⟩ := hrel
  by_cases hlt : j < S
  .
   have hjl : j < l.length := by have := hs.out; omega
   generalize hq : fromBE (l.take j) = q
   have HQ := hid hq; clear hq
   have hb1 : (j : Int) + 1 < (l.length : Int) + 1 := by omega
   have hb2 : (0 : Int) <= (j : Int) + 1 := by omega
   have tj : decide ((j : Int) + 1 <= (S : Int)) = true := by simp; omega
   have HJ := hid hjl
   have HL := hid hlt
   clear hjl hlt hj
   go_wp2
   go_round
   case rel => exact ⟨j + 1, HL.out, rd_i (by have := HJ.out; have := hs.out; have := hS.out; have := HL.out; omega), rd_n HJ.out (by have := HL.out; have := hS.out; omega) HQ.out⟩
   case measure => rw [rd_i' (by have := HL.out; have := hS.out; omega)]; simp [intOf]; have := HL.out; omega
  .
   obtain rfl : j = S := by omega
   rw [hn.out]
   have hn64 : Hid (n < 18446744073709551616 /\ m <= 7) := by
    have h1 := fromBE_lt (l.take j)
    have h2 : (l.take j).length <= 8 := by have := hS.out; rw [List.length_take]; omega
    have h3 : 2 ^ (8 * (l.take j).length) <= 2 ^ (8 * 8) := Nat.pow_le_pow_right (by omega) (by omega)
    rw [hn.out] at h1
    have := c.toNat_lt
    have := hmm.out
    exact ⟨Nat.lt_of_lt_of_le h1 h3, by omega⟩
   clear hlt hj
   generalize hW : World.drewN (World.alloc w _) _ = W at *
   have hE : Ext w W := by rw [<- hW]; exact ((Mod.refl _ _).alloc _).drewN _
   have hB : Blk W w.heap.size 96 #[.int .i64 0, .int .i64 0, .int .u64 0, .bool false] := by rw [<- hW]; exact (Blk.new _ _ _).drewN _
   have HW := hid hW; clear hW
   have hex : Value.string ((⟨(c :: l).toArray⟩ : ByteArray).extract 0 (j + 1)) = str ((c :: l).take (j + 1)) := by rw [extract_str]; rfl
   have hsl := fun wx => slice_to1 c l j (by have := hs.out; omega) wx
   generalize hT : (c :: l).take (j + 1) = tk at *
   have HT := hid hT; clear hT
   have hc1 := hcmp.out
   have hc2 : (headL m n == tk) = false := by simp [hc1]
   have hle : (j : Int) + 1 <= (l.length : Int) + 1 := by have := hs.out; omega
   have hwi : IntKind.i64.wrap ((j : Int) + 1) = (j : Int) + 1 := IntWalk.i64_in _ (by have := hS.out; omega)
   clear hex hle
   go_upto_region 24 with fail
   go_cut [78] (fun s wx => s = .bool true /\ Ext W wx)
   case first =>
    go_region_with ((go_at_call 28; refine (rhead_in m n (by omega) (by have := hn64.out; omega) (by omega) (by have := hn64.out; omega) _).mono ?_; rintro x w3 ⟨rfl, hb3⟩; simp only [Int.toNat_natCast]))
    all_goals (go_wp2_with fail; go_meet)
    all_goals exact ⟨rfl, by first | exact (Mod.refl _ _).drew.trans hb3 | exact ((Mod.refl _ _).drew.trans hb3).drew⟩
   obtain ⟨rfl, hb⟩ := hcut
   have hB2 := hB.ext hb
   have g0 : wc.cell? ⟨w.heap.size, 0, none⟩ = some (.int .i64 0) := hB2.cell 0
   have g1 : wc.cell? ⟨w.heap.size, 1, none⟩ = some (.int .i64 0) := hB2.cell 1
   have g2 : wc.cell? ⟨w.heap.size, 2, none⟩ = some (.int .u64 0) := hB2.cell 2
   have g3 : wc.cell? ⟨w.heap.size, 3, none⟩ = some (.bool false) := hB2.cell 3
   have p0 := hB2.frozen 0
   have p1 := hB2.frozen 1
   have p2 := hB2.frozen 2
   have p3 := hB2.frozen 3
   go_wp2
   refine bodyPost_ret (v := gotV 0 0 0 false) (by simp [results, Tryz.results52, go_sem, gotV, g0, g1, g2, g3]) rfl (Ret.mk rfl ?_)
   repeat (first | exact hE.trans hb | refine Mod.setCell ?_ (.inr (Nat.le_refl _)) _)

end Go.Proofs.YthecmnbkjchjmaaGreat
