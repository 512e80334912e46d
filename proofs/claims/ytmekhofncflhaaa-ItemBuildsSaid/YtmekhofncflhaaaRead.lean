/-
  The walk of the reference's Read: it returns how a head is read.
-/
import Derived.Test.YtmekhofncflhaaaRdHead
import Derived.Test.YtmekhofncflhaaaRef01
namespace Go.Proofs.Ytmekhofncflhaaa
open Go.RowKit
set_option linter.unusedVariables false

def gotV (sz m n : Nat) (o : Bool) : Value := .agg #[.int .i64 (sz : Int), .int .i64 (m : Int), .int .u64 (n : Int), .bool o]
def gotOf (x : Option (Nat × Nat × Nat × Bool)) : Value := match x with | none => gotV 0 0 0 false | some (sz, m, n, o) => gotV sz m n o
theorem first_div' (c : UInt8) (l : List UInt8) {m : Nat} (h : 0 < (⟨(c :: l).toArray⟩ : ByteArray).size) (hm : Hid (c.toNat / 32 = m)) : Value.int .i64 (wrap64 ((wrap64 ((⟨(c :: l).toArray⟩ : ByteArray)[0].toNat : Int)).tdiv 32)) = .int .i64 (m : Int) := by
  rw [← hm.out]
  show Value.int .i64 (wrap64 ((wrap64 (c.toNat : Int)).tdiv 32)) = _
  have := c.toNat_lt
  have e : wrap64 (c.toNat : Int) = (c.toNat : Int) := IntWalk.wrap64_in _ (by omega)
  rw [e, Int.tdiv_eq_ediv_of_nonneg (by omega), IntWalk.wrap64_in _ (by omega)]; rfl
theorem first_mod' (c : UInt8) (l : List UInt8) {k : Nat} (h : 0 < (⟨(c :: l).toArray⟩ : ByteArray).size) (hk : Hid (c.toNat % 32 = k)) : Value.int .i64 ((wrap64 ((⟨(c :: l).toArray⟩ : ByteArray)[0].toNat : Int)).tmod 32) = .int .i64 (k : Int) := by
  rw [← hk.out]
  show Value.int .i64 ((wrap64 (c.toNat : Int)).tmod 32) = _
  have := c.toNat_lt
  have e : wrap64 (c.toNat : Int) = (c.toNat : Int) := IntWalk.wrap64_in _ (by omega)
  rw [e, Int.tmod_eq_emod_of_nonneg (by omega)]; rfl
def sz1 (k : Nat) : Nat := if k = 24 then 1 else 0
def sz2 (k : Nat) : Nat := if k = 25 then 2 else sz1 k
def sz3 (k : Nat) : Nat := if k = 26 then 4 else sz2 k
def sz4 (k : Nat) : Nat := if k = 27 then 8 else sz3 k
theorem infoGot : Try.prog.cellsOf 84 = 4 := by kernel_rfl

set_option maxRecDepth 20000 in
set_option maxHeartbeats 400000 in
theorem read_nil (w : World) : Calls Try.prog 55 #[str []] w (Ret (gotV 0 0 0 false) w) := by
  go_enter Try.func55, Try.ntmps55
  go_wp2
  refine bodyPost_ret (v := gotV 0 0 0 false) (by simp [results, Try.results55, go_sem, gotV]) rfl (Ret.mk rfl ?_)
  repeat (first | exact Mod.refl _ _ | apply Mod.drewN | apply Mod.alloc | refine Mod.setCell ?_ (.inr (Nat.le_refl _)) _)

set_option maxRecDepth 20000 in
set_option maxHeartbeats 400000 in
theorem read_small (c : UInt8) (l : List UInt8) (m k : Nat) (hmm : Hid (c.toNat / 32 = m)) (hkk : Hid (c.toNat % 32 = k)) (hk : Hid (k < 24)) (w : World) : Calls Try.prog 55 #[str (c :: l)] w (Ret (gotV 1 m k false) w) := by
  have hlen : (0 : Int) < (l.length : Int) + 1 := by omega
  go_enter Try.func55, Try.ntmps55
  go_upto_region 3 with fail
  go_cut [3, 4] (fun s6 s7 wx => s6 = .int .i64 (m : Int) ∧ s7 = .int .i64 (k : Int) ∧ ∃ n, wx = (w.alloc (.cells #[.int .i64 0, .int .i64 0, .int .u64 0, .bool false] 84)).drewN n)
  case first =>
    go_quiet (fail)
    go_wp2_with fail
    go_meet
    exact ⟨first_div' c l _ hmm, first_mod' c l _ hkk, _, rfl⟩
  obtain ⟨rfl, rfl, nw, rfl⟩ := hcut
  have hk32 : Hid (k ≤ 31) := by have := hkk.out; unfold Hid; omega
  have t1 : decide ((k : Int) < 24) = true := by have h1 := hk.out; have h2 := hk32.out; simp; omega
  have hw1 : IntKind.u64.wrap (k : Int) = k := IntWalk.u64_in _ (by have := hk32.out; omega)
  go_wp2
  refine bodyPost_ret (v := gotV 1 m k false) (by simp [results, Try.results55, go_sem, gotV]) rfl (Ret.mk rfl ?_)
  repeat (first | exact Mod.refl _ _ | apply Mod.drewN | apply Mod.alloc | refine Mod.setCell ?_ (.inr (Nat.le_refl _)) _)

set_option maxRecDepth 20000 in
set_option maxHeartbeats 400000 in
theorem read_open (c : UInt8) (l : List UInt8) (m k : Nat) (hmm : Hid (c.toNat / 32 = m)) (hkk : Hid (c.toNat % 32 = k)) (hk : Hid (k = 31)) (ho : Hid (opensB (m : Int) = true)) (w : World) : Calls Try.prog 55 #[str (c :: l)] w (Ret (gotV 1 m 0 true) w) := by
  have hlen : (0 : Int) < (l.length : Int) + 1 := by omega
  go_enter Try.func55, Try.ntmps55
  go_upto_region 3 with fail
  go_cut [3, 4] (fun s6 s7 wx => s6 = .int .i64 (m : Int) ∧ s7 = .int .i64 (k : Int) ∧ ∃ n, wx = (w.alloc (.cells #[.int .i64 0, .int .i64 0, .int .u64 0, .bool false] 84)).drewN n)
  case first =>
    go_quiet (fail)
    go_wp2_with fail
    go_meet
    exact ⟨first_div' c l _ hmm, first_mod' c l _ hkk, _, rfl⟩
  obtain ⟨rfl, rfl, nw, rfl⟩ := hcut
  have hk32 : Hid (k ≤ 31) := by have := hkk.out; unfold Hid; omega
  have t1 : decide ((k : Int) < 24) = false := by have h1 := hk.out; have h2 := hk32.out; simp; omega
  have t2 : ((k : Int) == 31) = true := by have h1 := hk.out; have h2 := hk32.out; simp; omega
  have t3 : ((m : Int) != 0) = true := by have h1 := ho.out; have h2 := hmm.out; have h3 := c.toNat_lt; unfold opensB at h1; simp at h1 ⊢; omega
  have t4 : ((m : Int) != 1) = true := by have h1 := ho.out; have h2 := hmm.out; have h3 := c.toNat_lt; unfold opensB at h1; simp at h1 ⊢; omega
  have t5 : ((m : Int) != 6) = true := by have h1 := ho.out; have h2 := hmm.out; have h3 := c.toNat_lt; unfold opensB at h1; simp at h1 ⊢; omega
  go_wp2
  refine bodyPost_ret (v := gotV 1 m 0 true) (by simp [results, Try.results55, go_sem, gotV]) rfl (Ret.mk rfl ?_)
  repeat (first | exact Mod.refl _ _ | apply Mod.drewN | apply Mod.alloc | refine Mod.setCell ?_ (.inr (Nat.le_refl _)) _)

set_option maxRecDepth 20000 in
set_option maxHeartbeats 400000 in
theorem read_none (c : UInt8) (l : List UInt8) (m k : Nat) (hmm : Hid (c.toNat / 32 = m)) (hkk : Hid (c.toNat % 32 = k)) (hk : Hid (24 ≤ k)) (ho : Hid (¬ (k = 31 ∧ opensB (m : Int) = true))) (hz : Hid (sz4 k = 0)) (w : World) : Calls Try.prog 55 #[str (c :: l)] w (Ret (gotV 0 0 0 false) w) := by
  have hlen : (0 : Int) < (l.length : Int) + 1 := by omega
  go_enter Try.func55, Try.ntmps55
  go_upto_region 3 with fail
  go_cut [3, 4] (fun s6 s7 wx => s6 = .int .i64 (m : Int) ∧ s7 = .int .i64 (k : Int) ∧ ∃ n, wx = (w.alloc (.cells #[.int .i64 0, .int .i64 0, .int .u64 0, .bool false] 84)).drewN n)
  case first =>
    go_quiet (fail)
    go_wp2_with fail
    go_meet
    exact ⟨first_div' c l _ hmm, first_mod' c l _ hkk, _, rfl⟩
  obtain ⟨rfl, rfl, nw, rfl⟩ := hcut
  have hk32 : Hid (k ≤ 31) := by have := hkk.out; unfold Hid; omega
  have t1 : decide ((k : Int) < 24) = false := by have h1 := hk.out; have h2 := hk32.out; simp; omega
  go_upto_region 6 with fail
  go_cut [38] (fun s wx => s = .bool false ∧ ∃ n, wx = (w.alloc (.cells #[.int .i64 0, .int .i64 0, .int .u64 0, .bool false] 84)).drewN n)
  case first =>
    by_cases hv : k = 31
    · have hm3 : m = 0 ∨ m = 1 ∨ m = 6 := by
        have h1 := hmm.out; have h2 := c.toNat_lt; have h3 := ho.out
        have h4 : opensB (m : Int) = false := by cases e : opensB (m : Int) with | false => rfl | true => exact absurd ⟨hv, e⟩ h3
        unfold opensB at h4; simp at h4; omega
      have tv : ((k : Int) == 31) = true := by simp; omega
      have HV := hid hv; clear hv
      rcases hm3 with hm | hm | hm
      · have tm : ((m : Int) != 0) = false := by simp; omega
        have HM := hid hm; clear hm
        go_wp2_with fail; go_meet; exact ⟨rfl, _, rfl⟩
      · have tm : ((m : Int) != 0) = true := by simp; omega
        have tm1 : ((m : Int) != 1) = false := by simp; omega
        have HM := hid hm; clear hm
        go_wp2_with fail; go_meet; exact ⟨rfl, _, rfl⟩
      · have tm : ((m : Int) != 0) = true := by simp; omega
        have tm1 : ((m : Int) != 1) = true := by simp; omega
        have tm2 : ((m : Int) != 6) = false := by simp; omega
        have HM := hid hm; clear hm
        go_wp2_with fail; go_meet; exact ⟨rfl, _, rfl⟩
    · have tv : ((k : Int) == 31) = false := by simp; omega
      have HV := hid hv; clear hv
      go_wp2_with fail; go_meet; exact ⟨rfl, _, rfl⟩
  obtain ⟨rfl, nv, rfl⟩ := hcut
  go_upto_region 8 with fail
  go_cut [5] (fun s wx => s = .int .i64 0 ∧ ∃ n, wx = (w.alloc (.cells #[.int .i64 0, .int .i64 0, .int .u64 0, .bool false] 84)).drewN n)
  case first => go_wp2_with fail; go_meet; exact ⟨rfl, _, rfl⟩
  obtain ⟨rfl, nx, rfl⟩ := hcut
  go_step
  go_step
  go_cut [5] (fun s wx => s = .int .i64 ((sz1 k : Nat) : Int) ∧ ∃ n, wx = (w.alloc (.cells #[.int .i64 0, .int .i64 0, .int .u64 0, .bool false] 84)).drewN n)
  case first =>
    by_cases hv : k = 24
    · have tv : ((k : Int) == 24) = true := by simp; omega
      have HV := hid hv; clear hv
      go_wp2_with fail; go_meet
      exact ⟨by unfold sz1; rw [if_pos HV.out]; rfl, _, rfl⟩
    · have tv : ((k : Int) == 24) = false := by simp; omega
      have HV := hid hv; clear hv
      go_wp2_with fail; go_meet
      exact ⟨by unfold sz1; rw [if_neg HV.out]; rfl, _, rfl⟩
  obtain ⟨rfl, nx1, rfl⟩ := hcut
  go_step
  go_step
  go_cut [5] (fun s wx => s = .int .i64 ((sz2 k : Nat) : Int) ∧ ∃ n, wx = (w.alloc (.cells #[.int .i64 0, .int .i64 0, .int .u64 0, .bool false] 84)).drewN n)
  case first =>
    by_cases hv : k = 25
    · have tv : ((k : Int) == 25) = true := by simp; omega
      have HV := hid hv; clear hv
      go_wp2_with fail; go_meet
      exact ⟨by unfold sz2; rw [if_pos HV.out]; rfl, _, rfl⟩
    · have tv : ((k : Int) == 25) = false := by simp; omega
      have HV := hid hv; clear hv
      go_wp2_with fail; go_meet
      exact ⟨by unfold sz2; rw [if_neg HV.out], _, rfl⟩
  obtain ⟨rfl, nx2, rfl⟩ := hcut
  go_step
  go_step
  go_cut [5] (fun s wx => s = .int .i64 ((sz3 k : Nat) : Int) ∧ ∃ n, wx = (w.alloc (.cells #[.int .i64 0, .int .i64 0, .int .u64 0, .bool false] 84)).drewN n)
  case first =>
    by_cases hv : k = 26
    · have tv : ((k : Int) == 26) = true := by simp; omega
      have HV := hid hv; clear hv
      go_wp2_with fail; go_meet
      exact ⟨by unfold sz3; rw [if_pos HV.out]; rfl, _, rfl⟩
    · have tv : ((k : Int) == 26) = false := by simp; omega
      have HV := hid hv; clear hv
      go_wp2_with fail; go_meet
      exact ⟨by unfold sz3; rw [if_neg HV.out], _, rfl⟩
  obtain ⟨rfl, nx3, rfl⟩ := hcut
  go_step
  go_step
  go_cut [5] (fun s wx => s = .int .i64 ((sz4 k : Nat) : Int) ∧ ∃ n, wx = (w.alloc (.cells #[.int .i64 0, .int .i64 0, .int .u64 0, .bool false] 84)).drewN n)
  case first =>
    by_cases hv : k = 27
    · have tv : ((k : Int) == 27) = true := by simp; omega
      have HV := hid hv; clear hv
      go_wp2_with fail; go_meet
      exact ⟨by unfold sz4; rw [if_pos HV.out]; rfl, _, rfl⟩
    · have tv : ((k : Int) == 27) = false := by simp; omega
      have HV := hid hv; clear hv
      go_wp2_with fail; go_meet
      exact ⟨by unfold sz4; rw [if_neg HV.out], _, rfl⟩
  obtain ⟨rfl, nx4, rfl⟩ := hcut
  rw [hz.out]
  go_wp2
  refine bodyPost_ret (v := gotV 0 0 0 false) (by simp [results, Try.results55, go_sem, gotV]) rfl (Ret.mk rfl ?_)
  repeat (first | exact Mod.refl _ _ | apply Mod.drewN | apply Mod.alloc | refine Mod.setCell ?_ (.inr (Nat.le_refl _)) _)

set_option maxRecDepth 20000 in
set_option maxHeartbeats 400000 in
theorem read_short (c : UInt8) (l : List UInt8) (m k : Nat) (hmm : Hid (c.toNat / 32 = m)) (hkk : Hid (c.toNat % 32 = k)) (S : Nat) (hk : Hid (24 ≤ k ∧ k < 28)) (hz : Hid (sz4 k = S)) (hS : Hid (1 ≤ S ∧ S ≤ 8)) (hs : Hid (l.length < S)) (w : World) : Calls Try.prog 55 #[str (c :: l)] w (Ret (gotV 0 0 0 false) w) := by
  have hlen : (0 : Int) < (l.length : Int) + 1 := by omega
  go_enter Try.func55, Try.ntmps55
  go_upto_region 3 with fail
  go_cut [3, 4] (fun s6 s7 wx => s6 = .int .i64 (m : Int) ∧ s7 = .int .i64 (k : Int) ∧ ∃ n, wx = (w.alloc (.cells #[.int .i64 0, .int .i64 0, .int .u64 0, .bool false] 84)).drewN n)
  case first =>
    go_quiet (fail)
    go_wp2_with fail
    go_meet
    exact ⟨first_div' c l _ hmm, first_mod' c l _ hkk, _, rfl⟩
  obtain ⟨rfl, rfl, nw, rfl⟩ := hcut
  have hk32 : Hid (k ≤ 31) := by have := hkk.out; unfold Hid; omega
  have t1 : decide ((k : Int) < 24) = false := by have h1 := hk.out; have h2 := hk32.out; simp; omega
  have te : ((k : Int) == 31) = false := by have h1 := hk.out; simp; omega
  go_upto_region 8 with fail
  go_cut [5] (fun s wx => s = .int .i64 0 ∧ ∃ n, wx = (w.alloc (.cells #[.int .i64 0, .int .i64 0, .int .u64 0, .bool false] 84)).drewN n)
  case first => go_wp2_with fail; go_meet; exact ⟨rfl, _, rfl⟩
  obtain ⟨rfl, nx, rfl⟩ := hcut
  go_step
  go_step
  go_cut [5] (fun s wx => s = .int .i64 ((sz1 k : Nat) : Int) ∧ ∃ n, wx = (w.alloc (.cells #[.int .i64 0, .int .i64 0, .int .u64 0, .bool false] 84)).drewN n)
  case first =>
    by_cases hv : k = 24
    · have tv : ((k : Int) == 24) = true := by simp; omega
      have HV := hid hv; clear hv
      go_wp2_with fail; go_meet
      exact ⟨by unfold sz1; rw [if_pos HV.out]; rfl, _, rfl⟩
    · have tv : ((k : Int) == 24) = false := by simp; omega
      have HV := hid hv; clear hv
      go_wp2_with fail; go_meet
      exact ⟨by unfold sz1; rw [if_neg HV.out]; rfl, _, rfl⟩
  obtain ⟨rfl, nx1, rfl⟩ := hcut
  go_step
  go_step
  go_cut [5] (fun s wx => s = .int .i64 ((sz2 k : Nat) : Int) ∧ ∃ n, wx = (w.alloc (.cells #[.int .i64 0, .int .i64 0, .int .u64 0, .bool false] 84)).drewN n)
  case first =>
    by_cases hv : k = 25
    · have tv : ((k : Int) == 25) = true := by simp; omega
      have HV := hid hv; clear hv
      go_wp2_with fail; go_meet
      exact ⟨by unfold sz2; rw [if_pos HV.out]; rfl, _, rfl⟩
    · have tv : ((k : Int) == 25) = false := by simp; omega
      have HV := hid hv; clear hv
      go_wp2_with fail; go_meet
      exact ⟨by unfold sz2; rw [if_neg HV.out], _, rfl⟩
  obtain ⟨rfl, nx2, rfl⟩ := hcut
  go_step
  go_step
  go_cut [5] (fun s wx => s = .int .i64 ((sz3 k : Nat) : Int) ∧ ∃ n, wx = (w.alloc (.cells #[.int .i64 0, .int .i64 0, .int .u64 0, .bool false] 84)).drewN n)
  case first =>
    by_cases hv : k = 26
    · have tv : ((k : Int) == 26) = true := by simp; omega
      have HV := hid hv; clear hv
      go_wp2_with fail; go_meet
      exact ⟨by unfold sz3; rw [if_pos HV.out]; rfl, _, rfl⟩
    · have tv : ((k : Int) == 26) = false := by simp; omega
      have HV := hid hv; clear hv
      go_wp2_with fail; go_meet
      exact ⟨by unfold sz3; rw [if_neg HV.out], _, rfl⟩
  obtain ⟨rfl, nx3, rfl⟩ := hcut
  go_step
  go_step
  go_cut [5] (fun s wx => s = .int .i64 ((sz4 k : Nat) : Int) ∧ ∃ n, wx = (w.alloc (.cells #[.int .i64 0, .int .i64 0, .int .u64 0, .bool false] 84)).drewN n)
  case first =>
    by_cases hv : k = 27
    · have tv : ((k : Int) == 27) = true := by simp; omega
      have HV := hid hv; clear hv
      go_wp2_with fail; go_meet
      exact ⟨by unfold sz4; rw [if_pos HV.out]; rfl, _, rfl⟩
    · have tv : ((k : Int) == 27) = false := by simp; omega
      have HV := hid hv; clear hv
      go_wp2_with fail; go_meet
      exact ⟨by unfold sz4; rw [if_neg HV.out], _, rfl⟩
  obtain ⟨rfl, nx4, rfl⟩ := hcut
  rw [hz.out]
  have hw3 : wrap64 ((S : Int) + 1) = (S : Int) + 1 := IntWalk.wrap64_in _ (by have := hS.out; omega)
  have tz : ((S : Int) == 0) = false := by have := hS.out; simp; omega
  have ts : decide (l.length < S) = true := by have := hs.out; simp; omega
  go_wp2
  refine bodyPost_ret (v := gotV 0 0 0 false) (by simp [results, Try.results55, go_sem, gotV]) rfl (Ret.mk rfl ?_)
  repeat (first | exact Mod.refl _ _ | apply Mod.drewN | apply Mod.alloc | refine Mod.setCell ?_ (.inr (Nat.le_refl _)) _)

end Go.Proofs.Ytmekhofncflhaaa
