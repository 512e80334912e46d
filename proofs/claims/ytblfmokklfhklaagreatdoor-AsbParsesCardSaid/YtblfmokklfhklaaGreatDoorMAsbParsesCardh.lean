/-
  The walk of the reference's Read: a number behind the first byte.
  The reference's Read, whatever the bytes; and its reader's fail.
  The reference's Fault: where, and what, is wrong first.
  The law ItemParses: its walk.
  A list of items that grows by append: what is kept from round to round.
  The reference's item of bytes.
  Security texts, plainly: what bytes tell.
  Security texts, read: errors.Is, of errors as chains.
-/
import Derived.Test.YtblfmokklfhklaaGreatDoorMAsbParsesCardg
import Derived.Deep.AppendLies
import Derived.Deep.RegionLaw
import Derived.LaidEql
import Derived.Stop.Asserts
import Derived.RowKitTokens

namespace Go.Proofs.YtblfmokklfhklaaGreatDoor
open Go.RowKit
set_option linter.unusedVariables false
set_option linter.unusedSimpArgs false

theorem rd_i' {j : Nat} (h : j < 1000) : wrap64 ((j : Int) + 1 + 1) = ((j + 1 : Nat) : Int) + 1 := by rw [IntWalk.wrap64_in _ (by omega)]; omega
theorem rd_i {j : Nat} (h : j < 1000) : Value.int .i64 (wrap64 ((j : Int) + 1 + 1)) = .int .i64 (((j + 1 : Nat) : Int) + 1) := by rw [rd_i' h]
theorem slice_to1 (c : UInt8) (l : List UInt8) (j : Nat) (h : j ≤ l.length) (w : World) :
    (Instr.slice 9 (str (c :: l)) none (some (.int .i64 ((j : Int) + 1))) none).run Tryz.prog w = .ok (str ((c :: l).take (j + 1))) w := by
  have hex : Value.string ((⟨(c :: l).toArray⟩ : ByteArray).extract 0 (j + 1)) = str ((c :: l).take (j + 1)) := by rw [extract_str]; rfl
  have hle : (j : Int) + 1 ≤ (l.length : Int) + 1 := by omega
  have hl0 : (0 : Int) ≤ (j : Int) + 1 := by omega
  generalize hT : (c :: l).take (j + 1) = tk at *
  have HT := hid hT; clear hT
  go_simp
theorem rd_n {c : UInt8} {l : List UInt8} {j q : Nat} (hj : j < l.length) (h8 : j < 8) (hq : fromBE (l.take j) = q) {h : j + 1 < (⟨(c :: l).toArray⟩ : ByteArray).size} :
    Value.int .u64 (IntKind.u64.wrap (IntKind.u64.wrap ((q : Int) * 256) + IntKind.u64.wrap (((⟨(c :: l).toArray⟩ : ByteArray)[j + 1].toNat : Nat) : Int))) = .int .u64 ((fromBE (l.take (j + 1)) : Nat) : Int) := by
  have e : (⟨(c :: l).toArray⟩ : ByteArray)[j + 1] = l[j] := rfl
  rw [e, List.take_succ_eq_append_getElem hj, fromBE_snoc, hq]
  have hlt := fromBE_lt (l.take j)
  have hle : (l.take j).length ≤ 7 := by rw [List.length_take]; omega
  have hp : 2 ^ (8 * (l.take j).length) ≤ 2 ^ (8 * 7) := Nat.pow_le_pow_right (by omega) (by omega)
  have h3 := Nat.lt_of_lt_of_le hlt hp
  rw [hq] at h3
  have hx := l[j].toNat_lt
  rw [IntWalk.u64_in ((q : Int) * 256) (by omega), IntWalk.u64_in ((l[j].toNat : Nat) : Int) (by omega), IntWalk.u64_in _ (by omega)]
  rfl

set_option maxRecDepth 20000 in
set_option maxHeartbeats 400000 in
theorem read_good (c : UInt8) (l : List UInt8) (m k : Nat) (hmm : Hid (c.toNat / 32 = m)) (hkk : Hid (c.toNat % 32 = k)) (S : Nat) (hk : Hid (24 ≤ k ∧ k < 28)) (hz : Hid (sz4 k = S)) (hS : Hid (1 ≤ S ∧ S ≤ 8)) (n : Nat) (hn : Hid (fromBE (l.take S) = n)) (hs : Hid (S ≤ l.length)) (hcmp : Hid (headL m n = (c :: l).take (S + 1))) (w : World) : Calls Tryz.prog 56 #[str (c :: l)] w (Ret (gotV (S + 1) m n false) w) := by
  have hlen : (0 : Int) < (l.length : Int) + 1 := by omega
  go_enter Tryz.func56, Tryz.ntmps56
  go_upto_region 3 with fail
  go_cut [3, 4] (fun s6 s7 wx => s6 = .int .i64 (m : Int) ∧ s7 = .int .i64 (k : Int) ∧ ∃ n, wx = (w.alloc (.cells #[.int .i64 0, .int .i64 0, .int .u64 0, .bool false] 96)).drewN n)
  case first =>
    go_quiet (fail)
    go_wp2_with fail
    go_meet
    exact ⟨first_div' c l _ hmm, first_mod' c l _ hkk, _, rfl⟩
  obtain ⟨rfl, rfl, nw, rfl⟩ := hcut
  have hk32 : Hid (k ≤ 31) := by have := hkk.out; unfold Hid; omega
  have t1 : decide ((k : Int) < 24) = false := by have h1 := hk.out; have h2 := hk32.out; simp; omega
  have te : ((k : Int) == 31) = false := by have h1 := hk.out; simp; omega
  go_upto_region 8 with fail
  go_cut [5] (fun s wx => s = .int .i64 0 ∧ ∃ n, wx = (w.alloc (.cells #[.int .i64 0, .int .i64 0, .int .u64 0, .bool false] 96)).drewN n)
  case first => go_wp2_with fail; go_meet; exact ⟨rfl, _, rfl⟩
  obtain ⟨rfl, nx, rfl⟩ := hcut
  go_step
  go_step
  go_cut [5] (fun s wx => s = .int .i64 ((sz1 k : Nat) : Int) ∧ ∃ n, wx = (w.alloc (.cells #[.int .i64 0, .int .i64 0, .int .u64 0, .bool false] 96)).drewN n)
  case first =>
    by_cases hv : k = 24
    · have tv : ((k : Int) == 24) = true := by simp; omega
      have HV := hid hv; clear hv
      go_wp2_with fail; go_meet
      exact ⟨by unfold sz1; rw [if_pos HV.out]; rfl, _, rfl⟩
    · have tv : ((k : Int) == 24) = false := by simp; omega
      have HV := hid hv; clear hv
      go_wp2_with fail; go_meet
      exact ⟨by unfold sz1; rw [if_neg HV.out]; rfl, _, rfl⟩
  obtain ⟨rfl, nx1, rfl⟩ := hcut
  go_step
  go_step
  go_cut [5] (fun s wx => s = .int .i64 ((sz2 k : Nat) : Int) ∧ ∃ n, wx = (w.alloc (.cells #[.int .i64 0, .int .i64 0, .int .u64 0, .bool false] 96)).drewN n)
  case first =>
    by_cases hv : k = 25
    · have tv : ((k : Int) == 25) = true := by simp; omega
      have HV := hid hv; clear hv
      go_wp2_with fail; go_meet
      exact ⟨by unfold sz2; rw [if_pos HV.out]; rfl, _, rfl⟩
    · have tv : ((k : Int) == 25) = false := by simp; omega
      have HV := hid hv; clear hv
      go_wp2_with fail; go_meet
      exact ⟨by unfold sz2; rw [if_neg HV.out], _, rfl⟩
  obtain ⟨rfl, nx2, rfl⟩ := hcut
  go_step
  go_step
  go_cut [5] (fun s wx => s = .int .i64 ((sz3 k : Nat) : Int) ∧ ∃ n, wx = (w.alloc (.cells #[.int .i64 0, .int .i64 0, .int .u64 0, .bool false] 96)).drewN n)
  case first =>
    by_cases hv : k = 26
    · have tv : ((k : Int) == 26) = true := by simp; omega
      have HV := hid hv; clear hv
      go_wp2_with fail; go_meet
      exact ⟨by unfold sz3; rw [if_pos HV.out]; rfl, _, rfl⟩
    · have tv : ((k : Int) == 26) = false := by simp; omega
      have HV := hid hv; clear hv
      go_wp2_with fail; go_meet
      exact ⟨by unfold sz3; rw [if_neg HV.out], _, rfl⟩
  obtain ⟨rfl, nx3, rfl⟩ := hcut
  go_step
  go_step
  go_cut [5] (fun s wx => s = .int .i64 ((sz4 k : Nat) : Int) ∧ ∃ n, wx = (w.alloc (.cells #[.int .i64 0, .int .i64 0, .int .u64 0, .bool false] 96)).drewN n)
  case first =>
    by_cases hv : k = 27
    · have tv : ((k : Int) == 27) = true := by simp; omega
      have HV := hid hv; clear hv
      go_wp2_with fail; go_meet
      exact ⟨by unfold sz4; rw [if_pos HV.out]; rfl, _, rfl⟩
    · have tv : ((k : Int) == 27) = false := by simp; omega
      have HV := hid hv; clear hv
      go_wp2_with fail; go_meet
      exact ⟨by unfold sz4; rw [if_neg HV.out], _, rfl⟩
  obtain ⟨rfl, nx4, rfl⟩ := hcut
  rw [hz.out]
  have hw3 : wrap64 ((S : Int) + 1) = (S : Int) + 1 := IntWalk.wrap64_in _ (by have := hS.out; omega)
  have tz : ((S : Int) == 0) = false := by have := hS.out; simp; omega
  have ts : decide (l.length < S) = false := by have := hs.out; simp; omega
  go_wp2
  go_loop [6, 7] (fun x i => ∃ j : Nat, j ≤ S ∧ i = .int .i64 ((j : Int) + 1) ∧ x = .int .u64 ((fromBE (l.take j) : Nat) : Int)) (fun _ i => S + 1 - (intOf i).toNat)
  case atStart => exact ⟨0, Nat.zero_le _, rfl, rfl⟩
  case round =>
    obtain ⟨j, hj, rfl, rfl⟩ := hrel
    by_cases hlt : j < S
    · have hjl : j < l.length := by have := hs.out; omega
      generalize hq : fromBE (l.take j) = q
      have HQ := hid hq; clear hq
      have hb1 : (j : Int) + 1 < (l.length : Int) + 1 := by omega
      have hb2 : (0 : Int) ≤ (j : Int) + 1 := by omega
      have tj : decide ((j : Int) + 1 ≤ (S : Int)) = true := by simp; omega
      have HJ := hid hjl
      have HL := hid hlt
      clear hjl hlt hj
      go_wp2
      go_round
      case rel => exact ⟨j + 1, HL.out, rd_i (by have := HJ.out; have := hs.out; have := hS.out; have := HL.out; omega), rd_n HJ.out (by have := HL.out; have := hS.out; omega) HQ.out⟩
      case measure => rw [rd_i' (by have := HL.out; have := hS.out; omega)]; simp [intOf]; have := HL.out; omega
    · obtain rfl : j = S := by omega
      rw [hn.out]
      have hn64 : Hid (n < 18446744073709551616 ∧ m ≤ 7) := by
        have h1 := fromBE_lt (l.take j)
        have h2 : (l.take j).length ≤ 8 := by have := hS.out; rw [List.length_take]; omega
        have h3 : 2 ^ (8 * (l.take j).length) ≤ 2 ^ (8 * 8) := Nat.pow_le_pow_right (by omega) (by omega)
        rw [hn.out] at h1
        have := c.toNat_lt
        have := hmm.out
        exact ⟨Nat.lt_of_lt_of_le h1 h3, by omega⟩
      clear hlt hj
      generalize hW : World.drewN (World.alloc w _) _ = W at *
      have hE : Ext w W := by rw [← hW]; exact ((Mod.refl _ _).alloc _).drewN _
      have hB : Blk W w.heap.size 96 #[.int .i64 0, .int .i64 0, .int .u64 0, .bool false] := by rw [← hW]; exact (Blk.new _ _ _).drewN _
      have HW := hid hW; clear hW
      have hex : Value.string ((⟨(c :: l).toArray⟩ : ByteArray).extract 0 (j + 1)) = str ((c :: l).take (j + 1)) := by rw [extract_str]; rfl
      have hsl := fun wx => slice_to1 c l j (by have := hs.out; omega) wx
      generalize hT : (c :: l).take (j + 1) = tk at *
      have HT := hid hT; clear hT
      have hc1 := hcmp.out
      have hle : (j : Int) + 1 ≤ (l.length : Int) + 1 := by have := hs.out; omega
      have hwi : IntKind.i64.wrap ((j : Int) + 1) = (j : Int) + 1 := IntWalk.i64_in _ (by have := hS.out; omega)
      clear hex hle
      go_upto_region 24 with fail
      go_cut [78] (fun s wx => s = .bool false ∧ Ext W wx)
      case first =>
        go_region_with ((go_at_call 24; refine (rhead_in m n (by omega) (by have := hn64.out; omega) (by omega) (by have := hn64.out; omega) _).mono ?_; rintro x w3 ⟨rfl, hb3⟩; simp only [Int.toNat_natCast]))
        all_goals (go_wp2_with fail; go_meet)
        all_goals exact ⟨rfl, by first | exact (Mod.refl _ _).drew.trans hb3 | exact ((Mod.refl _ _).drew.trans hb3).drew⟩
      obtain ⟨rfl, hb⟩ := hcut
      have hB2 := hB.ext hb
      have g0 : wc.cell? ⟨w.heap.size, 0, none⟩ = some (.int .i64 0) := hB2.cell 0
      have g1 : wc.cell? ⟨w.heap.size, 1, none⟩ = some (.int .i64 0) := hB2.cell 1
      have g2 : wc.cell? ⟨w.heap.size, 2, none⟩ = some (.int .u64 0) := hB2.cell 2
      have g3 : wc.cell? ⟨w.heap.size, 3, none⟩ = some (.bool false) := hB2.cell 3
      have p0 := hB2.frozen 0
      have p1 := hB2.frozen 1
      have p2 := hB2.frozen 2
      have p3 := hB2.frozen 3
      go_wp2
      refine bodyPost_ret (v := gotV (j + 1) m n false) (by simp [results, Tryz.results56, go_sem, gotV, g0, g1, g2, g3]) rfl (Ret.mk rfl ?_)
      repeat (first | exact hE.trans hb | refine Mod.setCell ?_ (.inr (Nat.le_refl _)) _)

set_option maxRecDepth 20000 in
set_option maxHeartbeats 400000 in
theorem read_long (c : UInt8) (l : List UInt8) (m k : Nat) (hmm : Hid (c.toNat / 32 = m)) (hkk : Hid (c.toNat % 32 = k)) (S : Nat) (hk : Hid (24 ≤ k ∧ k < 28)) (hz : Hid (sz4 k = S)) (hS : Hid (1 ≤ S ∧ S ≤ 8)) (n : Nat) (hn : Hid (fromBE (l.take S) = n)) (hs : Hid (S ≤ l.length)) (hcmp : Hid (headL m n ≠ (c :: l).take (S + 1))) (w : World) : Calls Tryz.prog 56 #[str (c :: l)] w (Ret (gotV 0 0 0 false) w) := by
  have hlen : (0 : Int) < (l.length : Int) + 1 := by omega
  go_enter Tryz.func56, Tryz.ntmps56
  go_upto_region 3 with fail
  go_cut [3, 4] (fun s6 s7 wx => s6 = .int .i64 (m : Int) ∧ s7 = .int .i64 (k : Int) ∧ ∃ n, wx = (w.alloc (.cells #[.int .i64 0, .int .i64 0, .int .u64 0, .bool false] 96)).drewN n)
  case first =>
    go_quiet (fail)
    go_wp2_with fail
    go_meet
    exact ⟨first_div' c l _ hmm, first_mod' c l _ hkk, _, rfl⟩
  obtain ⟨rfl, rfl, nw, rfl⟩ := hcut
  have hk32 : Hid (k ≤ 31) := by have := hkk.out; unfold Hid; omega
  have t1 : decide ((k : Int) < 24) = false := by have h1 := hk.out; have h2 := hk32.out; simp; omega
  have te : ((k : Int) == 31) = false := by have h1 := hk.out; simp; omega
  go_upto_region 8 with fail
  go_cut [5] (fun s wx => s = .int .i64 0 ∧ ∃ n, wx = (w.alloc (.cells #[.int .i64 0, .int .i64 0, .int .u64 0, .bool false] 96)).drewN n)
  case first => go_wp2_with fail; go_meet; exact ⟨rfl, _, rfl⟩
  obtain ⟨rfl, nx, rfl⟩ := hcut
  go_step
  go_step
  go_cut [5] (fun s wx => s = .int .i64 ((sz1 k : Nat) : Int) ∧ ∃ n, wx = (w.alloc (.cells #[.int .i64 0, .int .i64 0, .int .u64 0, .bool false] 96)).drewN n)
  case first =>
    by_cases hv : k = 24
    · have tv : ((k : Int) == 24) = true := by simp; omega
      have HV := hid hv; clear hv
      go_wp2_with fail; go_meet
      exact ⟨by unfold sz1; rw [if_pos HV.out]; rfl, _, rfl⟩
    · have tv : ((k : Int) == 24) = false := by simp; omega
      have HV := hid hv; clear hv
      go_wp2_with fail; go_meet
      exact ⟨by unfold sz1; rw [if_neg HV.out]; rfl, _, rfl⟩
  obtain ⟨rfl, nx1, rfl⟩ := hcut
  go_step
  go_step
  go_cut [5] (fun s wx => s = .int .i64 ((sz2 k : Nat) : Int) ∧ ∃ n, wx = (w.alloc (.cells #[.int .i64 0, .int .i64 0, .int .u64 0, .bool false] 96)).drewN n)
  case first =>
    by_cases hv : k = 25
    · have tv : ((k : Int) == 25) = true := by simp; omega
      have HV := hid hv; clear hv
      go_wp2_with fail; go_meet
      exact ⟨by unfold sz2; rw [if_pos HV.out]; rfl, _, rfl⟩
    · have tv : ((k : Int) == 25) = false := by simp; omega
      have HV := hid hv; clear hv
      go_wp2_with fail; go_meet
      exact ⟨by unfold sz2; rw [if_neg HV.out], _, rfl⟩
  obtain ⟨rfl, nx2, rfl⟩ := hcut
  go_step
  go_step
  go_cut [5] (fun s wx => s = .int .i64 ((sz3 k : Nat) : Int) ∧ ∃ n, wx = (w.alloc (.cells #[.int .i64 0, .int .i64 0, .int .u64 0, .bool false] 96)).drewN n)
  case first =>
    by_cases hv : k = 26
    · have tv : ((k : Int) == 26) = true := by simp; omega
      have HV := hid hv; clear hv
      go_wp2_with fail; go_meet
      exact ⟨by unfold sz3; rw [if_pos HV.out]; rfl, _, rfl⟩
    · have tv : ((k : Int) == 26) = false := by simp; omega
      have HV := hid hv; clear hv
      go_wp2_with fail; go_meet
      exact ⟨by unfold sz3; rw [if_neg HV.out], _, rfl⟩
  obtain ⟨rfl, nx3, rfl⟩ := hcut
  go_step
  go_step
  go_cut [5] (fun s wx => s = .int .i64 ((sz4 k : Nat) : Int) ∧ ∃ n, wx = (w.alloc (.cells #[.int .i64 0, .int .i64 0, .int .u64 0, .bool false] 96)).drewN n)
  case first =>
    by_cases hv : k = 27
    · have tv : ((k : Int) == 27) = true := by simp; omega
      have HV := hid hv; clear hv
      go_wp2_with fail; go_meet
      exact ⟨by unfold sz4; rw [if_pos HV.out]; rfl, _, rfl⟩
    · have tv : ((k : Int) == 27) = false := by simp; omega
      have HV := hid hv; clear hv
      go_wp2_with fail; go_meet
      exact ⟨by unfold sz4; rw [if_neg HV.out], _, rfl⟩
  obtain ⟨rfl, nx4, rfl⟩ := hcut
  rw [hz.out]
  have hw3 : wrap64 ((S : Int) + 1) = (S : Int) + 1 := IntWalk.wrap64_in _ (by have := hS.out; omega)
  have tz : ((S : Int) == 0) = false := by have := hS.out; simp; omega
  have ts : decide (l.length < S) = false := by have := hs.out; simp; omega
  go_wp2
  go_loop [6, 7] (fun x i => ∃ j : Nat, j ≤ S ∧ i = .int .i64 ((j : Int) + 1) ∧ x = .int .u64 ((fromBE (l.take j) : Nat) : Int)) (fun _ i => S + 1 - (intOf i).toNat)
  case atStart => exact ⟨0, Nat.zero_le _, rfl, rfl⟩
  case round =>
    obtain ⟨j, hj, rfl, rfl⟩ := hrel
    by_cases hlt : j < S
    · have hjl : j < l.length := by have := hs.out; omega
      generalize hq : fromBE (l.take j) = q
      have HQ := hid hq; clear hq
      have hb1 : (j : Int) + 1 < (l.length : Int) + 1 := by omega
      have hb2 : (0 : Int) ≤ (j : Int) + 1 := by omega
      have tj : decide ((j : Int) + 1 ≤ (S : Int)) = true := by simp; omega
      have HJ := hid hjl
      have HL := hid hlt
      clear hjl hlt hj
      go_wp2
      go_round
      case rel => exact ⟨j + 1, HL.out, rd_i (by have := HJ.out; have := hs.out; have := hS.out; have := HL.out; omega), rd_n HJ.out (by have := HL.out; have := hS.out; omega) HQ.out⟩
      case measure => rw [rd_i' (by have := HL.out; have := hS.out; omega)]; simp [intOf]; have := HL.out; omega
    · obtain rfl : j = S := by omega
      rw [hn.out]
      have hn64 : Hid (n < 18446744073709551616 ∧ m ≤ 7) := by
        have h1 := fromBE_lt (l.take j)
        have h2 : (l.take j).length ≤ 8 := by have := hS.out; rw [List.length_take]; omega
        have h3 : 2 ^ (8 * (l.take j).length) ≤ 2 ^ (8 * 8) := Nat.pow_le_pow_right (by omega) (by omega)
        rw [hn.out] at h1
        have := c.toNat_lt
        have := hmm.out
        exact ⟨Nat.lt_of_lt_of_le h1 h3, by omega⟩
      clear hlt hj
      generalize hW : World.drewN (World.alloc w _) _ = W at *
      have hE : Ext w W := by rw [← hW]; exact ((Mod.refl _ _).alloc _).drewN _
      have hB : Blk W w.heap.size 96 #[.int .i64 0, .int .i64 0, .int .u64 0, .bool false] := by rw [← hW]; exact (Blk.new _ _ _).drewN _
      have HW := hid hW; clear hW
      have hex : Value.string ((⟨(c :: l).toArray⟩ : ByteArray).extract 0 (j + 1)) = str ((c :: l).take (j + 1)) := by rw [extract_str]; rfl
      have hsl := fun wx => slice_to1 c l j (by have := hs.out; omega) wx
      generalize hT : (c :: l).take (j + 1) = tk at *
      have HT := hid hT; clear hT
      have hc1 := hcmp.out
      have hc2 : (headL m n == tk) = false := by simp [hc1]
      have hle : (j : Int) + 1 ≤ (l.length : Int) + 1 := by have := hs.out; omega
      have hwi : IntKind.i64.wrap ((j : Int) + 1) = (j : Int) + 1 := IntWalk.i64_in _ (by have := hS.out; omega)
      clear hex hle
      go_upto_region 24 with fail
      go_cut [78] (fun s wx => s = .bool true ∧ Ext W wx)
      case first =>
        go_region_with ((go_at_call 24; refine (rhead_in m n (by omega) (by have := hn64.out; omega) (by omega) (by have := hn64.out; omega) _).mono ?_; rintro x w3 ⟨rfl, hb3⟩; simp only [Int.toNat_natCast]))
        all_goals (go_wp2_with fail; go_meet)
        all_goals exact ⟨rfl, by first | exact (Mod.refl _ _).drew.trans hb3 | exact ((Mod.refl _ _).drew.trans hb3).drew⟩
      obtain ⟨rfl, hb⟩ := hcut
      have hB2 := hB.ext hb
      have g0 : wc.cell? ⟨w.heap.size, 0, none⟩ = some (.int .i64 0) := hB2.cell 0
      have g1 : wc.cell? ⟨w.heap.size, 1, none⟩ = some (.int .i64 0) := hB2.cell 1
      have g2 : wc.cell? ⟨w.heap.size, 2, none⟩ = some (.int .u64 0) := hB2.cell 2
      have g3 : wc.cell? ⟨w.heap.size, 3, none⟩ = some (.bool false) := hB2.cell 3
      have p0 := hB2.frozen 0
      have p1 := hB2.frozen 1
      have p2 := hB2.frozen 2
      have p3 := hB2.frozen 3
      go_wp2
      refine bodyPost_ret (v := gotV 0 0 0 false) (by simp [results, Tryz.results56, go_sem, gotV, g0, g1, g2, g3]) rfl (Ret.mk rfl ?_)
      repeat (first | exact hE.trans hb | refine Mod.setCell ?_ (.inr (Nat.le_refl _)) _)

end Go.Proofs.YtblfmokklfhklaaGreatDoor


namespace Go.Proofs.YtblfmokklfhklaaGreatDoor
open Go.RowKit
set_option linter.unusedVariables false
set_option linter.unusedSimpArgs false

theorem read_of {l : List UInt8} {x : Option (Nat × Nat × Nat × Bool)} {w : World} (h : readH l = x) (hc : Calls Tryz.prog 56 #[str l] w (Ret (gotOf x) w)) :
    Calls Tryz.prog 56 #[str l] w (Ret (gotOf (readH l)) w) := by rw [h]; exact hc
theorem sz4_val {k : Nat} (h : 24 ≤ k) (h2 : k < 28) : sz4 k = 2 ^ (k - 24) := by
  have : k = 24 ∨ k = 25 ∨ k = 26 ∨ k = 27 := by omega
  rcases this with rfl | rfl | rfl | rfl <;> decide
theorem sz4_none {k : Nat} (h : 28 ≤ k) : sz4 k = 0 := by
  unfold sz4 sz3 sz2 sz1
  rw [if_neg (by omega), if_neg (by omega), if_neg (by omega), if_neg (by omega)]
theorem pow_sz {k : Nat} (h : 24 ≤ k) (h2 : k < 28) : 1 ≤ 2 ^ (k - 24) ∧ 2 ^ (k - 24) ≤ 8 := by
  have : k = 24 ∨ k = 25 ∨ k = 26 ∨ k = 27 := by omega
  rcases this with rfl | rfl | rfl | rfl <;> decide
theorem canon_iff {c : UInt8} {l : List UInt8} {k : Nat} (hk : c.toNat % 32 = k) (h : 24 ≤ k) (h2 : k < 28) (hl : 2 ^ (k - 24) ≤ l.length) :
    headL (c.toNat / 32) (fromBE (l.take (2 ^ (k - 24)))) = (c :: l).take (2 ^ (k - 24) + 1) ↔ (headL (c.toNat / 32) (fromBE (l.take (2 ^ (k - 24))))).length = 1 + 2 ^ (k - 24) := by
  obtain ⟨j, rfl⟩ : ∃ j, k = 24 + j := ⟨k - 24, by omega⟩
  rw [Nat.add_sub_cancel_left] at *
  have hlen : (l.take (2 ^ j)).length = 2 ^ j := by rw [List.length_take]; omega
  constructor
  · intro e; rw [e, List.length_take, List.length_cons]; omega
  · intro e
    have hlt := fromBE_lt (l.take (2 ^ j))
    rw [hlen] at hlt
    rw [headL_of_length (by omega) hlt e, List.take_succ_cons]
    have hb := be_fromBE (l.take (2 ^ j))
    rw [hlen] at hb
    rw [hb, show 32 * (c.toNat / 32) + 24 + j = c.toNat from by omega, b8_toNat]

theorem read_any (l : List UInt8) (w : World) : Calls Tryz.prog 56 #[str l] w (Ret (gotOf (readH l)) w) := by
  cases l with
  | nil => exact read_of (x := none) rfl (read_nil w)
  | cons c l =>
    have hc := c.toNat_lt
    by_cases h1 : c.toNat % 32 < 24
    · exact read_of (x := some (_, _, _, _)) (by unfold readH; dsimp only; rw [if_pos h1]) (read_small c l _ _ rfl rfl h1 w)
    by_cases h2 : c.toNat % 32 = 31 ∧ opensB ((c.toNat / 32 : Nat) : Int) = true
    · exact read_of (x := some (_, _, _, _)) (by unfold readH; dsimp only; rw [if_neg h1, if_pos h2]) (read_open c l _ _ rfl rfl h2.1 h2.2 w)
    by_cases h3 : 28 ≤ c.toNat % 32
    · exact read_of (x := none) (by unfold readH; dsimp only; rw [if_neg h1, if_neg h2, if_pos h3]) (read_none c l _ _ rfl rfl (by unfold Hid; omega) h2 (sz4_none h3) w)
    have h24 : 24 ≤ c.toNat % 32 := by omega
    have h28 : c.toNat % 32 < 28 := by omega
    by_cases h4 : l.length < 2 ^ (c.toNat % 32 - 24)
    · exact read_of (x := none) (by unfold readH; dsimp only; rw [if_neg h1, if_neg h2, if_neg h3, if_pos h4]) (read_short c l _ _ rfl rfl _ ⟨h24, h28⟩ (sz4_val h24 h28) (pow_sz h24 h28) h4 w)
    have h4' := Nat.le_of_not_lt h4
    by_cases h5 : (headL (c.toNat / 32) (fromBE (l.take (2 ^ (c.toNat % 32 - 24))))).length = 1 + 2 ^ (c.toNat % 32 - 24)
    · exact read_of (x := some (_, _, _, _)) (by unfold readH; dsimp only; rw [if_neg h1, if_neg h2, if_neg h3, if_neg h4, if_pos h5, Nat.add_comm 1])
        (read_good c l _ _ rfl rfl _ ⟨h24, h28⟩ (sz4_val h24 h28) (pow_sz h24 h28) _ rfl h4' ((canon_iff rfl h24 h28 h4').2 h5) w)
    · exact read_of (x := none) (by unfold readH; dsimp only; rw [if_neg h1, if_neg h2, if_neg h3, if_neg h4, if_neg h5])
        (read_long c l _ _ rfl rfl _ ⟨h24, h28⟩ (sz4_val h24 h28) (pow_sz h24 h28) _ rfl h4' (fun e => h5 ((canon_iff rfl h24 h28 h4').1 e)) w)

/-- The reference's reader, as a value; what a call told, as a value. -/
def rrV (r : RS) : Value := .agg #[str r.s, .int .i64 (r.at_ : Int), .int .i64 r.bad, .int .i64 r.e]
def toldV (major n : Nat) (open_ : Bool) (s : List UInt8) (k : Int) : Value := .agg #[.int .i64 (major : Int), .int .u64 (n : Int), .bool open_, str s, .int .i64 k]
end Go.Proofs.YtblfmokklfhklaaGreatDoor


namespace Go.Proofs.YtblfmokklfhklaaGreatDoor
open Go.RowKit
set_option linter.unusedVariables false
set_option linter.unusedSimpArgs false

def faultV (p : Nat) (R : Nat × Int) : Value := .tuple #[.int .i64 ((p + R.1 : Nat) : Int), .int .i64 R.2]

set_option maxRecDepth 20000 in
set_option maxHeartbeats 1600000 in
theorem fault_none (l : List UInt8) (p : Nat) (hp : Hid (p ≤ l.length ∧ l.length ≤ 1073741824)) (d : Nat) (hr : Hid (readH (l.drop p) = none)) (w : World) :
    Calls Tryz.prog 29 #[str l, .int .i64 (p : Int), .int .i64 (d : Int)] w (Ret (faultV p (flt d (l.drop p))) w) := by
  have HF := hid (flt_none (d := d) hr.out)
  have p0 : (0 : Int) ≤ (p : Int) := by omega
  have p1 : (p : Int) ≤ (l.length : Int) := by have := hp.out; omega
  have l1 : (l.length : Int) ≤ 1073741824 := by have := hp.out; omega
  go_enter Tryz.func29, Tryz.ntmps29
  go_wp2_with (go_at_call 56; rw [extract_rest]; refine (read_any (l.drop p) _).mono ?_; rintro x w1 ⟨rfl, hb1⟩; rw [hr.out]; dsimp only [gotOf, gotV])
  go_ret2
  refine Ret.mk (by rw [HF.out]; simp [faultV]) ?_
  exact ((hb1).alloc _)

set_option maxRecDepth 20000 in
set_option maxHeartbeats 1600000 in
theorem fault_noK (l : List UInt8) (p : Nat) (hp : Hid (p ≤ l.length ∧ l.length ≤ 1073741824)) (d sz m n : Nat) (o : Bool) (hm : Hid (m = 1 ∨ m = 5 ∨ m = 6 ∨ m = 7)) (hr : Hid (readH (l.drop p) = some (sz, m, n, o))) (w : World) :
    Calls Tryz.prog 29 #[str l, .int .i64 (p : Int), .int .i64 (d : Int)] w (Ret (faultV p (flt d (l.drop p))) w) := by
  have HF := hid (flt_noK (d := d) hr.out (by rcases hm.out with rfl | rfl | rfl | rfl <;> rfl))
  have hs := readH_some hr.out
  have hsz : Hid (p + sz ≤ l.length) := by have h1 := hs.le; have h2 := hp.out; rw [List.length_drop] at h1; unfold Hid; omega
  have s1 : (p : Int) + (sz : Int) ≤ (l.length : Int) := by have := hsz.out; omega
  have s0 : (0 : Int) < (sz : Int) := by have := hs.pos; omega
  have s2 : ((sz : Int) == 0) = false := by simp; omega
  have s3 : (sz = 0) = False := by simp; have := hs.pos; omega
  have n0 : (0 : Int) ≤ (n : Int) := by omega
  clear hs
  have p0 : (0 : Int) ≤ (p : Int) := by omega
  have p1 : (p : Int) ≤ (l.length : Int) := by have := hp.out; omega
  have l1 : (l.length : Int) ≤ 1073741824 := by have := hp.out; omega
  go_enter Tryz.func29, Tryz.ntmps29
  rcases hm.out with rfl | rfl | rfl | rfl
  · go_wp2_with (go_at_call 56; rw [extract_rest]; refine (read_any (l.drop p) _).mono ?_; rintro x w1 ⟨rfl, hb1⟩; rw [hr.out]; dsimp only [gotOf, gotV])
    go_ret2
    refine Ret.mk (by rw [HF.out]; simp [faultV]) ?_
    exact ((hb1).alloc _)
  · go_wp2_with (go_at_call 56; rw [extract_rest]; refine (read_any (l.drop p) _).mono ?_; rintro x w1 ⟨rfl, hb1⟩; rw [hr.out]; dsimp only [gotOf, gotV])
    go_ret2
    refine Ret.mk (by rw [HF.out]; simp [faultV]) ?_
    exact ((hb1).alloc _)
  · go_wp2_with (go_at_call 56; rw [extract_rest]; refine (read_any (l.drop p) _).mono ?_; rintro x w1 ⟨rfl, hb1⟩; rw [hr.out]; dsimp only [gotOf, gotV])
    go_ret2
    refine Ret.mk (by rw [HF.out]; simp [faultV]) ?_
    exact ((hb1).alloc _)
  · go_wp2_with (go_at_call 56; rw [extract_rest]; refine (read_any (l.drop p) _).mono ?_; rintro x w1 ⟨rfl, hb1⟩; rw [hr.out]; dsimp only [gotOf, gotV])
    go_ret2
    refine Ret.mk (by rw [HF.out]; simp [faultV]) ?_
    exact ((hb1).alloc _)

set_option maxRecDepth 20000 in
set_option maxHeartbeats 1600000 in
theorem fault_deep (l : List UInt8) (p : Nat) (hp : Hid (p ≤ l.length ∧ l.length ≤ 1073741824)) (sz m n : Nat) (o : Bool) (hm : Hid (m = 0 ∨ m = 2 ∨ m = 3 ∨ m = 4)) (hr : Hid (readH (l.drop p) = some (sz, m, n, o))) (w : World) :
    Calls Tryz.prog 29 #[str l, .int .i64 (p : Int), .int .i64 0] w (Ret (faultV p (flt 0 (l.drop p))) w) := by
  have HF := hid (flt_deep hr.out (by rcases hm.out with rfl | rfl | rfl | rfl <;> rfl))
  have hs := readH_some hr.out
  have hsz : Hid (p + sz ≤ l.length) := by have h1 := hs.le; have h2 := hp.out; rw [List.length_drop] at h1; unfold Hid; omega
  have s1 : (p : Int) + (sz : Int) ≤ (l.length : Int) := by have := hsz.out; omega
  have s0 : (0 : Int) < (sz : Int) := by have := hs.pos; omega
  have s2 : ((sz : Int) == 0) = false := by simp; omega
  have s3 : (sz = 0) = False := by simp; have := hs.pos; omega
  have n0 : (0 : Int) ≤ (n : Int) := by omega
  clear hs
  have p0 : (0 : Int) ≤ (p : Int) := by omega
  have p1 : (p : Int) ≤ (l.length : Int) := by have := hp.out; omega
  have l1 : (l.length : Int) ≤ 1073741824 := by have := hp.out; omega
  go_enter Tryz.func29, Tryz.ntmps29
  rcases hm.out with rfl | rfl | rfl | rfl
  · go_wp2_with (go_at_call 56; rw [extract_rest]; refine (read_any (l.drop p) _).mono ?_; rintro x w1 ⟨rfl, hb1⟩; rw [hr.out]; dsimp only [gotOf, gotV])
    go_ret2
    refine Ret.mk (by rw [HF.out]; simp [faultV]) ?_
    exact ((hb1).alloc _)
  · go_wp2_with (go_at_call 56; rw [extract_rest]; refine (read_any (l.drop p) _).mono ?_; rintro x w1 ⟨rfl, hb1⟩; rw [hr.out]; dsimp only [gotOf, gotV])
    go_ret2
    refine Ret.mk (by rw [HF.out]; simp [faultV]) ?_
    exact ((hb1).alloc _)
  · go_wp2_with (go_at_call 56; rw [extract_rest]; refine (read_any (l.drop p) _).mono ?_; rintro x w1 ⟨rfl, hb1⟩; rw [hr.out]; dsimp only [gotOf, gotV])
    go_ret2
    refine Ret.mk (by rw [HF.out]; simp [faultV]) ?_
    exact ((hb1).alloc _)
  · go_wp2_with (go_at_call 56; rw [extract_rest]; refine (read_any (l.drop p) _).mono ?_; rintro x w1 ⟨rfl, hb1⟩; rw [hr.out]; dsimp only [gotOf, gotV])
    go_ret2
    refine Ret.mk (by rw [HF.out]; simp [faultV]) ?_
    exact ((hb1).alloc _)

set_option maxRecDepth 20000 in
set_option maxHeartbeats 1600000 in
theorem fault_num (l : List UInt8) (p : Nat) (hp : Hid (p ≤ l.length ∧ l.length ≤ 1073741824)) (d sz n : Nat) (o : Bool) (hr : Hid (readH (l.drop p) = some (sz, 0, n, o))) (w : World) :
    Calls Tryz.prog 29 #[str l, .int .i64 (p : Int), .int .i64 ((d : Int) + 1)] w (Ret (faultV p (flt (d + 1) (l.drop p))) w) := by
  have HF := hid (flt_num (d := d) hr.out)
  have hs := readH_some hr.out
  have hsz : Hid (p + sz ≤ l.length) := by have h1 := hs.le; have h2 := hp.out; rw [List.length_drop] at h1; unfold Hid; omega
  have s1 : (p : Int) + (sz : Int) ≤ (l.length : Int) := by have := hsz.out; omega
  have s0 : (0 : Int) < (sz : Int) := by have := hs.pos; omega
  have s2 : ((sz : Int) == 0) = false := by simp; omega
  have s3 : (sz = 0) = False := by simp; have := hs.pos; omega
  have n0 : (0 : Int) ≤ (n : Int) := by omega
  clear hs
  have dz : ((d : Int) + 1 == 0) = false := by simp; omega
  have dz2 : ((d : Int) + 1 = 0) = False := by simp; omega
  have p0 : (0 : Int) ≤ (p : Int) := by omega
  have p1 : (p : Int) ≤ (l.length : Int) := by have := hp.out; omega
  have l1 : (l.length : Int) ≤ 1073741824 := by have := hp.out; omega
  go_enter Tryz.func29, Tryz.ntmps29
  go_wp2_with (go_at_call 56; rw [extract_rest]; refine (read_any (l.drop p) _).mono ?_; rintro x w1 ⟨rfl, hb1⟩; rw [hr.out]; dsimp only [gotOf, gotV])
  go_ret2
  refine Ret.mk (by rw [HF.out]; simp [faultV]) ?_
  exact ((hb1).alloc _)

set_option maxRecDepth 20000 in
set_option maxHeartbeats 1600000 in
theorem fault_str_open (l : List UInt8) (p : Nat) (hp : Hid (p ≤ l.length ∧ l.length ≤ 1073741824)) (d sz m n : Nat) (hm : Hid (m = 2 ∨ m = 3)) (hr : Hid (readH (l.drop p) = some (sz, m, n, true))) (w : World) :
    Calls Tryz.prog 29 #[str l, .int .i64 (p : Int), .int .i64 ((d : Int) + 1)] w (Ret (faultV p (flt (d + 1) (l.drop p))) w) := by
  have HF0 := flt_str (d := d) hr.out hm.out
  have HF : Hid (flt (d + 1) (l.drop p) = (0, 2)) := by unfold Hid; rw [HF0]; exact if_pos (.inl rfl)
  clear HF0
  have hs := readH_some hr.out
  have hsz : Hid (p + sz ≤ l.length) := by have h1 := hs.le; have h2 := hp.out; rw [List.length_drop] at h1; unfold Hid; omega
  have s1 : (p : Int) + (sz : Int) ≤ (l.length : Int) := by have := hsz.out; omega
  have s0 : (0 : Int) < (sz : Int) := by have := hs.pos; omega
  have s2 : ((sz : Int) == 0) = false := by simp; omega
  have s3 : (sz = 0) = False := by simp; have := hs.pos; omega
  have n0 : (0 : Int) ≤ (n : Int) := by omega
  clear hs
  have dz : ((d : Int) + 1 == 0) = false := by simp; omega
  have dz2 : ((d : Int) + 1 = 0) = False := by simp; omega
  have p0 : (0 : Int) ≤ (p : Int) := by omega
  have p1 : (p : Int) ≤ (l.length : Int) := by have := hp.out; omega
  have l1 : (l.length : Int) ≤ 1073741824 := by have := hp.out; omega
  go_enter Tryz.func29, Tryz.ntmps29
  rcases hm.out with rfl | rfl
  · go_wp2_with (go_at_call 56; rw [extract_rest]; refine (read_any (l.drop p) _).mono ?_; rintro x w1 ⟨rfl, hb1⟩; rw [hr.out]; dsimp only [gotOf, gotV])
    go_ret2
    refine Ret.mk (by rw [HF.out]; simp [faultV]) ?_
    exact ((hb1).alloc _)
  · go_wp2_with (go_at_call 56; rw [extract_rest]; refine (read_any (l.drop p) _).mono ?_; rintro x w1 ⟨rfl, hb1⟩; rw [hr.out]; dsimp only [gotOf, gotV])
    go_ret2
    refine Ret.mk (by rw [HF.out]; simp [faultV]) ?_
    exact ((hb1).alloc _)

set_option maxRecDepth 20000 in
set_option maxHeartbeats 1600000 in
theorem fault_str_bad (l : List UInt8) (p : Nat) (hp : Hid (p ≤ l.length ∧ l.length ≤ 1073741824)) (d sz m n : Nat) (hm : Hid (m = 2 ∨ m = 3)) (hr : Hid (readH (l.drop p) = some (sz, m, n, false))) (hb : Hid ((l.drop p).length - sz < n)) (w : World) :
    Calls Tryz.prog 29 #[str l, .int .i64 (p : Int), .int .i64 ((d : Int) + 1)] w (Ret (faultV p (flt (d + 1) (l.drop p))) w) := by
  have HF0 := flt_str (d := d) hr.out hm.out
  have HF : Hid (flt (d + 1) (l.drop p) = (0, 2)) := by unfold Hid; rw [HF0]; exact if_pos (.inr hb.out)
  clear HF0
  have hs := readH_some hr.out
  have hsz : Hid (p + sz ≤ l.length) := by have h1 := hs.le; have h2 := hp.out; rw [List.length_drop] at h1; unfold Hid; omega
  have s1 : (p : Int) + (sz : Int) ≤ (l.length : Int) := by have := hsz.out; omega
  have s0 : (0 : Int) < (sz : Int) := by have := hs.pos; omega
  have s2 : ((sz : Int) == 0) = false := by simp; omega
  have s3 : (sz = 0) = False := by simp; have := hs.pos; omega
  have n0 : (0 : Int) ≤ (n : Int) := by omega
  have n1 : (n : Int) < 18446744073709551616 := by have := hs.n64; omega
  clear hs
  have dz : ((d : Int) + 1 == 0) = false := by simp; omega
  have dz2 : ((d : Int) + 1 = 0) = False := by simp; omega
  have tt : decide ((l.length : Int) - ((p : Int) + (sz : Int)) < (n : Int)) = true := by have h1 := hb.out; rw [List.length_drop] at h1; simp; omega
  have tt2 : ((l.length : Int) - ((p : Int) + (sz : Int)) < (n : Int)) = True := by have h1 := hb.out; rw [List.length_drop] at h1; simp; omega
  clear n1
  have p0 : (0 : Int) ≤ (p : Int) := by omega
  have p1 : (p : Int) ≤ (l.length : Int) := by have := hp.out; omega
  have l1 : (l.length : Int) ≤ 1073741824 := by have := hp.out; omega
  go_enter Tryz.func29, Tryz.ntmps29
  rcases hm.out with rfl | rfl
  · go_wp2_with (go_at_call 56; rw [extract_rest]; refine (read_any (l.drop p) _).mono ?_; rintro x w1 ⟨rfl, hb1⟩; rw [hr.out]; dsimp only [gotOf, gotV])
    go_ret2
    refine Ret.mk (by rw [HF.out]; simp [faultV]) ?_
    exact ((hb1).alloc _)
  · go_wp2_with (go_at_call 56; rw [extract_rest]; refine (read_any (l.drop p) _).mono ?_; rintro x w1 ⟨rfl, hb1⟩; rw [hr.out]; dsimp only [gotOf, gotV])
    go_ret2
    refine Ret.mk (by rw [HF.out]; simp [faultV]) ?_
    exact ((hb1).alloc _)

set_option maxRecDepth 20000 in
set_option maxHeartbeats 1600000 in
theorem fault_str_good (l : List UInt8) (p : Nat) (hp : Hid (p ≤ l.length ∧ l.length ≤ 1073741824)) (d sz m n : Nat) (hm : Hid (m = 2 ∨ m = 3)) (hr : Hid (readH (l.drop p) = some (sz, m, n, false))) (hb : Hid (¬ (l.drop p).length - sz < n)) (w : World) :
    Calls Tryz.prog 29 #[str l, .int .i64 (p : Int), .int .i64 ((d : Int) + 1)] w (Ret (faultV p (flt (d + 1) (l.drop p))) w) := by
  have HF0 := flt_str (d := d) hr.out hm.out
  have HF : Hid (flt (d + 1) (l.drop p) = (sz + n, 0)) := by unfold Hid; rw [HF0]; exact if_neg (by rintro (h | h); cases h; exact hb.out h)
  clear HF0
  have hs := readH_some hr.out
  have hsz : Hid (p + sz ≤ l.length) := by have h1 := hs.le; have h2 := hp.out; rw [List.length_drop] at h1; unfold Hid; omega
  have s1 : (p : Int) + (sz : Int) ≤ (l.length : Int) := by have := hsz.out; omega
  have s0 : (0 : Int) < (sz : Int) := by have := hs.pos; omega
  have s2 : ((sz : Int) == 0) = false := by simp; omega
  have s3 : (sz = 0) = False := by simp; have := hs.pos; omega
  have n0 : (0 : Int) ≤ (n : Int) := by omega
  have n1 : (n : Int) < 18446744073709551616 := by have := hs.n64; omega
  clear hs
  have dz : ((d : Int) + 1 == 0) = false := by simp; omega
  have dz2 : ((d : Int) + 1 = 0) = False := by simp; omega
  have tt : decide ((l.length : Int) - ((p : Int) + (sz : Int)) < (n : Int)) = false := by have h1 := hb.out; rw [List.length_drop] at h1; simp; omega
  have tt2 : ((l.length : Int) - ((p : Int) + (sz : Int)) < (n : Int)) = False := by have h1 := hb.out; rw [List.length_drop] at h1; simp; omega
  have n2 : (p : Int) + (sz : Int) + (n : Int) ≤ (l.length : Int) := by have h1 := hb.out; rw [List.length_drop] at h1; omega
  clear n1
  have p0 : (0 : Int) ≤ (p : Int) := by omega
  have p1 : (p : Int) ≤ (l.length : Int) := by have := hp.out; omega
  have l1 : (l.length : Int) ≤ 1073741824 := by have := hp.out; omega
  go_enter Tryz.func29, Tryz.ntmps29
  rcases hm.out with rfl | rfl
  · go_wp2_with (go_at_call 56; rw [extract_rest]; refine (read_any (l.drop p) _).mono ?_; rintro x w1 ⟨rfl, hb1⟩; rw [hr.out]; dsimp only [gotOf, gotV])
    go_ret2
    refine Ret.mk (by rw [HF.out]; simp [faultV, Int.add_assoc]) ?_
    exact ((hb1).alloc _)
  · go_wp2_with (go_at_call 56; rw [extract_rest]; refine (read_any (l.drop p) _).mono ?_; rintro x w1 ⟨rfl, hb1⟩; rw [hr.out]; dsimp only [gotOf, gotV])
    go_ret2
    refine Ret.mk (by rw [HF.out]; simp [faultV, Int.add_assoc]) ?_
    exact ((hb1).alloc _)

set_option maxRecDepth 20000 in
set_option maxHeartbeats 1600000 in
theorem fault_long (l : List UInt8) (p : Nat) (hp : Hid (p ≤ l.length ∧ l.length ≤ 1073741824)) (d sz n : Nat) (hn : Hid (1000 < n)) (hr : Hid (readH (l.drop p) = some (sz, 4, n, false))) (w : World) :
    Calls Tryz.prog 29 #[str l, .int .i64 (p : Int), .int .i64 ((d : Int) + 1)] w (Ret (faultV p (flt (d + 1) (l.drop p))) w) := by
  have HF := hid (flt_long (d := d) hr.out hn.out)
  have tn : decide (1000 < (n : Int)) = true := by have := hn.out; simp; omega
  have hs := readH_some hr.out
  have hsz : Hid (p + sz ≤ l.length) := by have h1 := hs.le; have h2 := hp.out; rw [List.length_drop] at h1; unfold Hid; omega
  have s1 : (p : Int) + (sz : Int) ≤ (l.length : Int) := by have := hsz.out; omega
  have s0 : (0 : Int) < (sz : Int) := by have := hs.pos; omega
  have s2 : ((sz : Int) == 0) = false := by simp; omega
  have s3 : (sz = 0) = False := by simp; have := hs.pos; omega
  have n0 : (0 : Int) ≤ (n : Int) := by omega
  clear hs
  have dz : ((d : Int) + 1 == 0) = false := by simp; omega
  have dz2 : ((d : Int) + 1 = 0) = False := by simp; omega
  have p0 : (0 : Int) ≤ (p : Int) := by omega
  have p1 : (p : Int) ≤ (l.length : Int) := by have := hp.out; omega
  have l1 : (l.length : Int) ≤ 1073741824 := by have := hp.out; omega
  go_enter Tryz.func29, Tryz.ntmps29
  go_wp2_with (go_at_call 56; rw [extract_rest]; refine (read_any (l.drop p) _).mono ?_; rintro x w1 ⟨rfl, hb1⟩; rw [hr.out]; dsimp only [gotOf, gotV])
  go_ret2
  refine Ret.mk (by rw [HF.out]; simp [faultV]) ?_
  exact ((hb1).alloc _)

theorem floop_next {f : List UInt8 → Nat × Int} {L : List UInt8} {o : Bool} {n i e : Nat} (hi : i < 1000) (hin : o = false → i < n) (hnb : ¬ (o = true ∧ L[e]? = some 255)) :
    floop f L o n (1000 - i) e = if (f (L.drop e)).2 = 0 then floop f L o n (1000 - (i + 1)) (e + (f (L.drop e)).1) else (e + (f (L.drop e)).1, (f (L.drop e)).2) := by
  rw [show 1000 - i = (1000 - (i + 1)) + 1 by omega]
  conv => lhs; unfold floop
  rw [if_neg (by rintro ⟨ho, hn⟩; have := hin ho; omega), if_neg hnb]
theorem floop_end {f : List UInt8 → Nat × Int} {L : List UInt8} {n i e : Nat} (h1 : i ≤ 1000) (hi : i = n) : floop f L false n (1000 - i) e = (e, 0) := by
  cases hj : 1000 - i with
  | zero => unfold floop; rw [if_pos ⟨rfl, by omega⟩]
  | succ j => unfold floop; rw [if_pos ⟨rfl, by omega⟩]
theorem floop_break {f : List UInt8 → Nat × Int} {L : List UInt8} {n i e : Nat} (hb : L[e]? = some 255) : floop f L true n (1000 - i) e = (e + 1, 0) := by
  cases hj : 1000 - i with
  | zero => unfold floop; rw [if_neg (by simp), if_pos ⟨rfl, hb⟩]
  | succ j => unfold floop; rw [if_neg (by simp), if_pos ⟨rfl, hb⟩]
theorem floop_long {f : List UInt8 → Nat × Int} {L : List UInt8} {n i e : Nat} (hi : i = 1000) (hb : ¬ L[e]? = some 255) : floop f L true n (1000 - i) e = (e, 4) := by
  rw [hi, show 1000 - 1000 = 0 from rfl]
  unfold floop
  rw [if_neg (by simp), if_neg (fun x => hb x.2)]

set_option maxRecDepth 20000 in
set_option maxHeartbeats 1600000 in
theorem fault_arr_false (l : List UInt8) (p : Nat) (hp : Hid (p ≤ l.length ∧ l.length ≤ 1073741824)) (d sz n : Nat) (hd : Hid (d ≤ 8)) (IH : Hid (∀ q, q ≤ l.length → ∀ w, Calls Tryz.prog 29 #[str l, .int .i64 (q : Int), .int .i64 (d : Int)] w (Ret (faultV q (flt d (l.drop q))) w))) (hn : Hid (¬ (false = false ∧ 1000 < n))) (hr : Hid (readH (l.drop p) = some (sz, 4, n, false))) (w : World) :
    Calls Tryz.prog 29 #[str l, .int .i64 (p : Int), .int .i64 ((d : Int) + 1)] w (Ret (faultV p (flt (d + 1) (l.drop p))) w) := by
  have HF := hid (flt_arr (d := d) hr.out hn.out)
  have hs := readH_some hr.out
  have hsz : Hid (p + sz ≤ l.length) := by have h1 := hs.le; have h2 := hp.out; rw [List.length_drop] at h1; unfold Hid; omega
  have s1 : (p : Int) + (sz : Int) ≤ (l.length : Int) := by have := hsz.out; omega
  have s0 : (0 : Int) < (sz : Int) := by have := hs.pos; omega
  have s2 : ((sz : Int) == 0) = false := by simp; omega
  have s3 : (sz = 0) = False := by simp; have := hs.pos; omega
  have n0 : (0 : Int) ≤ (n : Int) := by omega
  clear hs
  have dz : ((d : Int) + 1 == 0) = false := by simp; omega
  have dz2 : ((d : Int) + 1 = 0) = False := by simp; omega
  have tn : decide (1000 < (n : Int)) = false := by have := hn.out; simp at this ⊢; omega
  have p0 : (0 : Int) ≤ (p : Int) := by omega
  have p1 : (p : Int) ≤ (l.length : Int) := by have := hp.out; omega
  have l1 : (l.length : Int) ≤ 1073741824 := by have := hp.out; omega
  go_enter Tryz.func29, Tryz.ntmps29
  go_upto_region 17 with (go_at_call 56; rw [extract_rest]; refine (read_any (l.drop p) _).mono ?_; rintro x w1 ⟨rfl, hb1⟩; rw [hr.out]; dsimp only [gotOf, gotV])
  have HBG : Hid (Blk (w1.alloc (.cells #[.int .i64 (sz : Int), .int .i64 4, .int .u64 (n : Int), .bool false] 96)) w1.heap.size 96 #[.int .i64 (sz : Int), .int .i64 4, .int .u64 (n : Int), .bool false]) := Blk.new _ _ _
  have HEG : Hid (Ext w (w1.alloc (.cells #[.int .i64 (sz : Int), .int .i64 4, .int .u64 (n : Int), .bool false] 96))) := hb1.alloc _
  clear hb1
  generalize w1.heap.size = G at *
  go_wp2_with fail
  go_loopw [9, 10] (fun s9 s10 wr => ∃ i e q : Nat, s10 = .int .i64 (i : Int) ∧ s9 = .int .i64 (q : Int) ∧ Hid (q = p + e ∧ i ≤ 1000 ∧ q ≤ l.length ∧ floop (flt d) (l.drop p) false n (1000 - i) e = floop (flt d) (l.drop p) false n 1000 sz ∧ (false = false → i ≤ n)) ∧ Hid (Ext w wr ∧ Blk wr G 96 #[.int .i64 (sz : Int), .int .i64 4, .int .u64 (n : Int), .bool false])) (fun _ k _ => 1001 - (intOf k).toNat)
  case atStart => exact ⟨0, sz, p + sz, rfl, by simp, ⟨rfl, by omega, hsz.out, rfl, fun _ => Nat.zero_le _⟩, HEG.out, HBG.out⟩
  case round =>
    clear HEG HBG s1 s0 s2 s3
    obtain ⟨i, e, q, rfl, rfl, hQ, hW⟩ := hrel
    have i0 : (0 : Int) ≤ (i : Int) := by omega
    have i1 : (i : Int) ≤ 1000 := by have := hQ.out; omega
    have q0 : (0 : Int) ≤ (q : Int) := by omega
    have q1 : (q : Int) ≤ (l.length : Int) := by have := hQ.out; omega
    have g2 : wr.cell? ⟨G, 2, none⟩ = some (.int .u64 (n : Int)) := hW.out.2.cell 2
    have g3 : wr.cell? ⟨G, 3, none⟩ = some (.bool false) := hW.out.2.cell 3
    have d0 : (0 : Int) ≤ (d : Int) := by omega
    have d1 : (d : Int) ≤ 8 := by have := hd.out; omega
    by_cases hlt : i < n
    · have ti : decide (i < n) = true := by simp [hlt]
      have HI9 : Hid (i < 1000) := by have := hn.out; simp at this; unfold Hid; omega
      have tk : ((i : Int) == 1000) = false := by have := HI9.out; simp; omega
      have tk2 : (i = 1000) = False := by have := HI9.out; simp; omega
      have HLT := hid hlt
      clear hlt
      go_wp2_with fail
      refine (IH.out q hQ.out.2.2.1 _).mono ?_
      rintro x w3 ⟨rfl, hb3⟩
      have HW3 := hid (show Ext w w3 ∧ Blk w3 G 96 #[.int .i64 (sz : Int), .int .i64 4, .int .u64 (n : Int), .bool false] from ⟨hW.out.1.trans hb3, hW.out.2.ext hb3⟩)
      have hle := flt_le d (l.drop q)
      rw [List.length_drop] at hle
      have HR : Hid (floop (flt d) (l.drop p) false n 1000 sz = if (flt d (l.drop q)).2 = 0 then floop (flt d) (l.drop p) false n (1000 - (i + 1)) (e + (flt d (l.drop q)).1) else (e + (flt d (l.drop q)).1, (flt d (l.drop q)).2)) := by
        unfold Hid
        rw [← hQ.out.2.2.2.1, floop_next HI9.out (fun _ => HLT.out) (by simp), List.drop_drop, ← hQ.out.1]
      generalize flt d (l.drop q) = Rq at *
      obtain ⟨r, E⟩ := Rq
      dsimp only [faultV] at HR ⊢
      have hle2 : r ≤ l.length - q := hle
      have HLE := hid hle2
      have r1 : ((q + r : Nat) : Int) ≤ (l.length : Int) := by have := hQ.out; omega
      clear hle hle2 hb3 g2 g3
      by_cases hE : E = 0
      · subst hE
        have HR2 := HR.out
        rw [if_pos rfl] at HR2
        have HR3 := hid HR2
        clear HR HR2
        go_wp2_with fail
        have hq := hQ.out
        have hle := HLE.out
        have hi9 := HI9.out
        refine ⟨⟨i + 1, e + r, q + r, by simp, by simp, (show Hid _ from ⟨by omega, by omega, by omega, HR3.out.symm, fun _ => by have := HLT.out; omega⟩), (show Hid _ from HW3.out)⟩, ?_⟩
        simp only [intOf]; omega
      · have te : (E == 0) = false := by simp [hE]
        have te2 : (E = 0) = False := by simp [hE]
        have tn3 : (E != 0) = true := by simp [hE]
        have HR2 := HR.out
        rw [if_neg hE] at HR2
        have HR3 := hid HR2
        clear HR HR2 hE
        go_wp2_with fail
        go_ret2
        refine Ret.mk ?_ HW3.out.1
        rw [HF.out, HR3.out, faultV]
        have := hQ.out.1
        simp; omega
    · obtain rfl : i = n := by have := hQ.out.2.2.2.2 rfl; omega
      have ti : decide (i < i) = false := by simp
      have HFE := hid (floop_end (f := flt d) (L := l.drop p) (e := e) hQ.out.2.1 rfl)
      go_wp2_with fail
      go_ret2
      refine Ret.mk ?_ hW.out.1
      rw [HF.out, ← hQ.out.2.2.2.1, HFE.out, faultV, ← hQ.out.1]
      rfl

set_option maxRecDepth 20000 in
set_option maxHeartbeats 1600000 in
theorem fault_arr_true (l : List UInt8) (p : Nat) (hp : Hid (p ≤ l.length ∧ l.length ≤ 1073741824)) (d sz n : Nat) (hd : Hid (d ≤ 8)) (IH : Hid (∀ q, q ≤ l.length → ∀ w, Calls Tryz.prog 29 #[str l, .int .i64 (q : Int), .int .i64 (d : Int)] w (Ret (faultV q (flt d (l.drop q))) w))) (hn : Hid (¬ (true = false ∧ 1000 < n))) (hr : Hid (readH (l.drop p) = some (sz, 4, n, true))) (w : World) :
    Calls Tryz.prog 29 #[str l, .int .i64 (p : Int), .int .i64 ((d : Int) + 1)] w (Ret (faultV p (flt (d + 1) (l.drop p))) w) := by
  have HF := hid (flt_arr (d := d) hr.out hn.out)
  have hs := readH_some hr.out
  have hsz : Hid (p + sz ≤ l.length) := by have h1 := hs.le; have h2 := hp.out; rw [List.length_drop] at h1; unfold Hid; omega
  have s1 : (p : Int) + (sz : Int) ≤ (l.length : Int) := by have := hsz.out; omega
  have s0 : (0 : Int) < (sz : Int) := by have := hs.pos; omega
  have s2 : ((sz : Int) == 0) = false := by simp; omega
  have s3 : (sz = 0) = False := by simp; have := hs.pos; omega
  have n0 : (0 : Int) ≤ (n : Int) := by omega
  clear hs
  have dz : ((d : Int) + 1 == 0) = false := by simp; omega
  have dz2 : ((d : Int) + 1 = 0) = False := by simp; omega
  have p0 : (0 : Int) ≤ (p : Int) := by omega
  have p1 : (p : Int) ≤ (l.length : Int) := by have := hp.out; omega
  have l1 : (l.length : Int) ≤ 1073741824 := by have := hp.out; omega
  go_enter Tryz.func29, Tryz.ntmps29
  go_upto_region 17 with (go_at_call 56; rw [extract_rest]; refine (read_any (l.drop p) _).mono ?_; rintro x w1 ⟨rfl, hb1⟩; rw [hr.out]; dsimp only [gotOf, gotV])
  have HBG : Hid (Blk (w1.alloc (.cells #[.int .i64 (sz : Int), .int .i64 4, .int .u64 (n : Int), .bool true] 96)) w1.heap.size 96 #[.int .i64 (sz : Int), .int .i64 4, .int .u64 (n : Int), .bool true]) := Blk.new _ _ _
  have HEG : Hid (Ext w (w1.alloc (.cells #[.int .i64 (sz : Int), .int .i64 4, .int .u64 (n : Int), .bool true] 96))) := hb1.alloc _
  clear hb1
  generalize w1.heap.size = G at *
  go_wp2_with fail
  go_loopw [9, 10] (fun s9 s10 wr => ∃ i e q : Nat, s10 = .int .i64 (i : Int) ∧ s9 = .int .i64 (q : Int) ∧ Hid (q = p + e ∧ i ≤ 1000 ∧ q ≤ l.length ∧ floop (flt d) (l.drop p) true n (1000 - i) e = floop (flt d) (l.drop p) true n 1000 sz ∧ (true = false → i ≤ n)) ∧ Hid (Ext w wr ∧ Blk wr G 96 #[.int .i64 (sz : Int), .int .i64 4, .int .u64 (n : Int), .bool true])) (fun _ k _ => 1001 - (intOf k).toNat)
  case atStart => exact ⟨0, sz, p + sz, rfl, by simp, ⟨rfl, by omega, hsz.out, rfl, fun _ => Nat.zero_le _⟩, HEG.out, HBG.out⟩
  case round =>
    clear HEG HBG s1 s0 s2 s3
    obtain ⟨i, e, q, rfl, rfl, hQ, hW⟩ := hrel
    have i0 : (0 : Int) ≤ (i : Int) := by omega
    have i1 : (i : Int) ≤ 1000 := by have := hQ.out; omega
    have q0 : (0 : Int) ≤ (q : Int) := by omega
    have q1 : (q : Int) ≤ (l.length : Int) := by have := hQ.out; omega
    have g2 : wr.cell? ⟨G, 2, none⟩ = some (.int .u64 (n : Int)) := hW.out.2.cell 2
    have g3 : wr.cell? ⟨G, 3, none⟩ = some (.bool true) := hW.out.2.cell 3
    have d0 : (0 : Int) ≤ (d : Int) := by omega
    have d1 : (d : Int) ≤ 8 := by have := hd.out; omega
    by_cases hb : l[q]? = some 255
    · have HFB := hid (floop_break (f := flt d) (L := l.drop p) (n := n) (i := i) (e := e) (by rw [List.getElem?_drop, ← hQ.out.1]; exact hb))
      obtain ⟨hq, hv⟩ := List.getElem?_eq_some_iff.1 hb
      have tq : decide (q < l.length) = true := by simp [hq]
      have hv2 : ∀ h : q < (⟨l.toArray⟩ : ByteArray).size, (⟨l.toArray⟩ : ByteArray)[q]'h = 255 := fun h => by show l.toArray[q] = 255; simpa using hv
      have hv3 : l[q] = 255 := hv
      have hq2 : (q : Int) < (l.length : Int) := by omega
      clear hb hv
      go_wp2_with fail
      go_ret2
      refine Ret.mk ?_ hW.out.1
      rw [HF.out, ← hQ.out.2.2.2.1, HFB.out, faultV]
      have := hQ.out.1
      simp; omega
    · have HNB : Hid (¬ (l.drop p)[e]? = some 255) := by unfold Hid; rw [List.getElem?_drop, ← hQ.out.1]; exact hb
      by_cases hq : q < l.length
      · have hv3 : ¬ l[q] = 255 := fun h => hb (List.getElem?_eq_some_iff.2 ⟨hq, h⟩)
        have tq : decide (q < l.length) = true := by simp [hq]
        have hq2 : (q : Int) < (l.length : Int) := by omega
        have hv6 : ∀ h : q < (⟨l.toArray⟩ : ByteArray).size, ((((⟨l.toArray⟩ : ByteArray)[q]'h).toNat : Int) == 255) = false := fun h => by
          have e : ¬ ((⟨l.toArray⟩ : ByteArray)[q]'h).toNat = 255 := fun e => hv3 (by have e2 : l[q].toNat = 255 := e; rw [← b8_toNat l[q], e2]; rfl)
          simp; omega
        clear hb
        by_cases hi : i = 1000
        · have tk : ((i : Int) == 1000) = true := by simp [hi]
          have tk2 : (i = 1000) = True := by simp [hi]
          have HFL := hid (floop_long (f := flt d) (L := l.drop p) (n := n) (e := e) hi HNB.out)
          clear hi
          go_wp2_with fail
          go_ret2
          refine Ret.mk ?_ hW.out.1
          rw [HF.out, ← hQ.out.2.2.2.1, HFL.out, faultV, ← hQ.out.1]
          rfl
        · have HI9 : Hid (i < 1000) := by have := hQ.out; unfold Hid; omega
          have tk : ((i : Int) == 1000) = false := by simp; omega
          have tk2 : (i = 1000) = False := by simp [hi]
          clear hi
          go_wp2_with fail
          refine (IH.out q hQ.out.2.2.1 _).mono ?_
          rintro x w3 ⟨rfl, hb3⟩
          have HW3 := hid (show Ext w w3 ∧ Blk w3 G 96 #[.int .i64 (sz : Int), .int .i64 4, .int .u64 (n : Int), .bool true] from ⟨hW.out.1.trans hb3, hW.out.2.ext hb3⟩)
          have hle := flt_le d (l.drop q)
          rw [List.length_drop] at hle
          have HR : Hid (floop (flt d) (l.drop p) true n 1000 sz = if (flt d (l.drop q)).2 = 0 then floop (flt d) (l.drop p) true n (1000 - (i + 1)) (e + (flt d (l.drop q)).1) else (e + (flt d (l.drop q)).1, (flt d (l.drop q)).2)) := by
            unfold Hid
            rw [← hQ.out.2.2.2.1, floop_next HI9.out (fun h => by cases h) (fun h => HNB.out h.2), List.drop_drop, ← hQ.out.1]
          generalize flt d (l.drop q) = Rq at *
          obtain ⟨r, E⟩ := Rq
          dsimp only [faultV] at HR ⊢
          have hle2 : r ≤ l.length - q := hle
          have HLE := hid hle2
          have r1 : ((q + r : Nat) : Int) ≤ (l.length : Int) := by have := hQ.out; omega
          clear hle hle2 hb3 g2 g3
          by_cases hE : E = 0
          · subst hE
            have HR2 := HR.out
            rw [if_pos rfl] at HR2
            have HR3 := hid HR2
            clear HR HR2
            go_wp2_with fail
            have hq := hQ.out
            have hle := HLE.out
            have hi9 := HI9.out
            refine ⟨⟨i + 1, e + r, q + r, by simp, by simp, (show Hid _ from ⟨by omega, by omega, by omega, HR3.out.symm, fun h => by cases h⟩), (show Hid _ from HW3.out)⟩, ?_⟩
            simp only [intOf]; omega
          · have te : (E == 0) = false := by simp [hE]
            have te2 : (E = 0) = False := by simp [hE]
            have tn3 : (E != 0) = true := by simp [hE]
            have HR2 := HR.out
            rw [if_neg hE] at HR2
            have HR3 := hid HR2
            clear HR HR2 hE
            go_wp2_with fail
            go_ret2
            refine Ret.mk ?_ HW3.out.1
            rw [HF.out, HR3.out, faultV]
            have := hQ.out.1
            simp; omega
      · have tq : decide (q < l.length) = false := by simp [hq]
        clear hb
        by_cases hi : i = 1000
        · have tk : ((i : Int) == 1000) = true := by simp [hi]
          have tk2 : (i = 1000) = True := by simp [hi]
          have HFL := hid (floop_long (f := flt d) (L := l.drop p) (n := n) (e := e) hi HNB.out)
          clear hi
          go_wp2_with fail
          go_ret2
          refine Ret.mk ?_ hW.out.1
          rw [HF.out, ← hQ.out.2.2.2.1, HFL.out, faultV, ← hQ.out.1]
          rfl
        · have HI9 : Hid (i < 1000) := by have := hQ.out; unfold Hid; omega
          have tk : ((i : Int) == 1000) = false := by simp; omega
          have tk2 : (i = 1000) = False := by simp [hi]
          clear hi
          go_wp2_with fail
          refine (IH.out q hQ.out.2.2.1 _).mono ?_
          rintro x w3 ⟨rfl, hb3⟩
          have HW3 := hid (show Ext w w3 ∧ Blk w3 G 96 #[.int .i64 (sz : Int), .int .i64 4, .int .u64 (n : Int), .bool true] from ⟨hW.out.1.trans hb3, hW.out.2.ext hb3⟩)
          have hle := flt_le d (l.drop q)
          rw [List.length_drop] at hle
          have HR : Hid (floop (flt d) (l.drop p) true n 1000 sz = if (flt d (l.drop q)).2 = 0 then floop (flt d) (l.drop p) true n (1000 - (i + 1)) (e + (flt d (l.drop q)).1) else (e + (flt d (l.drop q)).1, (flt d (l.drop q)).2)) := by
            unfold Hid
            rw [← hQ.out.2.2.2.1, floop_next HI9.out (fun h => by cases h) (fun h => HNB.out h.2), List.drop_drop, ← hQ.out.1]
          generalize flt d (l.drop q) = Rq at *
          obtain ⟨r, E⟩ := Rq
          dsimp only [faultV] at HR ⊢
          have hle2 : r ≤ l.length - q := hle
          have HLE := hid hle2
          have r1 : ((q + r : Nat) : Int) ≤ (l.length : Int) := by have := hQ.out; omega
          clear hle hle2 hb3 g2 g3
          by_cases hE : E = 0
          · subst hE
            have HR2 := HR.out
            rw [if_pos rfl] at HR2
            have HR3 := hid HR2
            clear HR HR2
            go_wp2_with fail
            have hq := hQ.out
            have hle := HLE.out
            have hi9 := HI9.out
            refine ⟨⟨i + 1, e + r, q + r, by simp, by simp, (show Hid _ from ⟨by omega, by omega, by omega, HR3.out.symm, fun h => by cases h⟩), (show Hid _ from HW3.out)⟩, ?_⟩
            simp only [intOf]; omega
          · have te : (E == 0) = false := by simp [hE]
            have te2 : (E = 0) = False := by simp [hE]
            have tn3 : (E != 0) = true := by simp [hE]
            have HR2 := HR.out
            rw [if_neg hE] at HR2
            have HR3 := hid HR2
            clear HR HR2 hE
            go_wp2_with fail
            go_ret2
            refine Ret.mk ?_ HW3.out.1
            rw [HF.out, HR3.out, faultV]
            have := hQ.out.1
            simp; omega

end Go.Proofs.YtblfmokklfhklaaGreatDoor


namespace Go.Proofs.YtblfmokklfhklaaGreatDoor
open Go.RowKit
set_option linter.unusedVariables false
set_option linter.unusedSimpArgs false

theorem fault_any (l : List UInt8) (hl : l.length ≤ 1073741824) : ∀ d : Nat, d ≤ 9 → ∀ p, p ≤ l.length → ∀ w, Calls Tryz.prog 29 #[str l, .int .i64 (p : Int), .int .i64 (d : Int)] w (Ret (faultV p (flt d (l.drop p))) w) := by
  intro d
  induction d with
  | zero =>
    intro _ p hp w
    cases hr : readH (l.drop p) with
    | none => exact fault_none l p ⟨hp, hl⟩ 0 hr w
    | some x =>
      obtain ⟨sz, m, n, o⟩ := x
      have hm := (readH_some hr).m7
      have h8 : (m = 1 ∨ m = 5 ∨ m = 6 ∨ m = 7) ∨ (m = 0 ∨ m = 2 ∨ m = 3 ∨ m = 4) := by omega
      rcases h8 with h8 | h8
      · exact fault_noK l p ⟨hp, hl⟩ 0 sz m n o h8 hr w
      · exact fault_deep l p ⟨hp, hl⟩ sz m n o h8 hr w
  | succ d ih =>
    intro hd p hp w
    have ih' := ih (by omega)
    have e : ((d + 1 : Nat) : Int) = (d : Int) + 1 := by omega
    cases hr : readH (l.drop p) with
    | none => exact fault_none l p ⟨hp, hl⟩ (d + 1) hr w
    | some x =>
      obtain ⟨sz, m, n, o⟩ := x
      have hm := (readH_some hr).m7
      have h8 : (m = 1 ∨ m = 5 ∨ m = 6 ∨ m = 7) ∨ m = 0 ∨ (m = 2 ∨ m = 3) ∨ m = 4 := by omega
      rcases h8 with h8 | rfl | h8 | rfl
      · exact fault_noK l p ⟨hp, hl⟩ (d + 1) sz m n o h8 hr w
      · rw [e]; exact fault_num l p ⟨hp, hl⟩ d sz n o hr w
      · rw [e]
        cases o with
        | true => exact fault_str_open l p ⟨hp, hl⟩ d sz m n h8 hr w
        | false =>
          by_cases hb : (l.drop p).length - sz < n
          · exact fault_str_bad l p ⟨hp, hl⟩ d sz m n h8 hr hb w
          · exact fault_str_good l p ⟨hp, hl⟩ d sz m n h8 hr hb w
      · rw [e]
        cases o with
        | false =>
          by_cases hn : 1000 < n
          · exact fault_long l p ⟨hp, hl⟩ d sz n hn hr w
          · exact fault_arr_false l p ⟨hp, hl⟩ d sz n (by unfold Hid; omega) ih' (fun h => hn h.2) hr w
        | true => exact fault_arr_true l p ⟨hp, hl⟩ d sz n (by unfold Hid; omega) ih' (fun h => by cases h.1) hr w
theorem nul_count : nulT.count 2 = 1 := by decide
theorem nul_ok : nulT.ok := by unfold nulT T.ok; exact ⟨by omega, by omega, by simp, by omega, fun i hi => by omega⟩

end Go.Proofs.YtblfmokklfhklaaGreatDoor


namespace Go.Proofs.YtblfmokklfhklaaGreatDoor
open Go.RowKit
set_option linter.unusedVariables false
set_option linter.unusedSimpArgs false

def putT (ch : Nat → T) (i : Nat) (t : T) (j : Nat) : T := if j = i then t else ch j
def putP (ac : Nat → Option Addr × Nat) (i : Nat) (a : Option Addr × Nat) (j : Nat) : Option Addr × Nat := if j = i then a else ac j
theorem putT_self (ch : Nat → T) (i : Nat) : putT ch i (ch i) = ch := by
  funext j
  unfold putT
  by_cases h : j = i
  · rw [if_pos h, h]
  · rw [if_neg h]

/-- i items of ch lie in a list of one's own, at or above N; what hangs on them lies in blocks of Q0. -/
structure GL (Q0 : Nat → Prop) (N : Nat) (wr : World) (i : Nat) (A : Option Addr) (c : Nat) (ch : Nat → T) (ac : Nat → Option Addr × Nat) : Prop where
  nx : N ≤ wr.heap.size
  own : wr.ownsRow N 47 5 (.slice A i c) i (flatC ch ac i)
  mem : ∀ j, j < i → IsL wr (fun b => Q0 b ∧ A ≠ some ⟨b, 0, none⟩) (ch j) (ac j).1

section
variable {Q0 : Nat → Prop} {N : Nat} {wr : World} {i : Nat} {A : Option Addr} {c : Nat} {ch : Nat → T} {ac : Nat → Option Addr × Nat}
theorem GL.nil (Q0 : Nat → Prop) {N : Nat} {wr : World} (h : N ≤ wr.heap.size) (ch : Nat → T) (ac : Nat → Option Addr × Nat) : GL Q0 N wr 0 none 0 ch ac := ⟨h, World.ownsRow_nil _ _ _ _, fun j hj => by omega⟩
theorem GL.mod (h : GL Q0 N wr i A c ch ac) {w2 : World} {S : List Nat} (hm : Mod S wr w2) (hS : ∀ k, k ∈ S → k < N ∧ ¬ Q0 k) : GL Q0 N w2 i A c ch ac :=
  ⟨Nat.le_trans h.nx hm.size, ownsRow_mod h.own hm (fun k hk hm => by have := (h.own.lt k hk).1; have := (hS k hm).1; omega), fun j hj => IsL.mod hm (fun k hq _ hk => (hS k hk).2 hq.1) (ch j) (h.mem j hj)⟩
theorem GL.ext (h : GL Q0 N wr i A c ch ac) {w2 : World} (hm : Ext wr w2) : GL Q0 N w2 i A c ch ac := h.mod hm (fun k hk => by cases hk)
theorem GL.own2 (h : GL Q0 N wr i A c ch ac) {w2 : World} (hm : Ext wr w2) (ob : Obj) : (w2.alloc ob).ownsRow N 47 5 (.slice A i c) i (flatC ch ac i) := (h.ext hm).own.alloc ob
theorem GL.room (h : GL Q0 N wr i A c ch ac) {w2 : World} (hm : Ext wr w2) : N ≤ w2.heap.size := Nat.le_trans h.nx hm.size
/-- Which blocks an append turns. -/
theorem GL.turned (h : GL Q0 N wr i A c ch ac) {w2 w4 : World} (hm : Ext wr w2) {ob : Obj} (hgr : (w2.alloc ob).grownBy w4 (Value.slice A i c).ownBlock) : ∃ S, (∀ k, k ∈ S ↔ (Value.slice A i c).ownBlock = some k) ∧ Mod S w2 w4 := by
  obtain ⟨S, hS⟩ : ∃ S : List Nat, ∀ k, k ∈ S ↔ (Value.slice A i c).ownBlock = some k := by
    cases A with
    | none => exact ⟨[], fun k => by simp [Value.ownBlock]⟩
    | some a => exact ⟨[a.block], fun k => by simp [Value.ownBlock, eq_comm]⟩
  exact ⟨S, hS, ((Mod.refl S w2).alloc _).grown hgr (fun k hk => .inl ((hS k).2 hk))⟩
theorem GL.keep (h : GL Q0 N wr i A c ch ac) {w2 w4 : World} (hm : Ext wr w2) {ob : Obj} (hgr : (w2.alloc ob).grownBy w4 (Value.slice A i c).ownBlock) {b : Nat} {ty : TypeId} {cs : Array Value} (hB : Blk wr b ty cs) (hbN : b < N) : Blk w4 b ty cs := by
  obtain ⟨S, hS, hm4⟩ := h.turned hm hgr
  exact (hB.ext hm).mod hm4 (fun hk => by have := (h.own.lt b ((hS b).1 hk)).1; omega)
theorem GL.since (h : GL Q0 N wr i A c ch ac) {w w2 w4 : World} (hw : Ext w wr) (hwN : w.heap.size ≤ N) (hm : Ext wr w2) {ob : Obj} (hgr : (w2.alloc ob).grownBy w4 (Value.slice A i c).ownBlock) : Ext w w4 := by
  obtain ⟨S, hS, hm4⟩ := h.turned hm hgr
  refine Mod.new (S := S) (((hw.trans hm).of_ext).trans hm4) (fun k hk => .inr ?_)
  have := (h.own.lt k ((hS k).1 hk)).1; omega
theorem GL.step (h : GL Q0 N wr i A c ch ac) {w2 w4 : World} (hm : Ext wr w2) {t : T} {At : Option Addr} {ct : Nat} {v' : Value}
    (hL : IsL w2 (fun b => Q0 b ∧ (b < N ∨ wr.heap.size ≤ b)) t At)
    (hown : w4.ownsRow N 47 5 v' (i + 1) (flatC ch ac i ++ [.int .i64 t.kind, .int .u64 (t.n : Int), str t.s, .slice At t.k ct, .bool t.op])) {ob : Obj} (hgr : (w2.alloc ob).grownBy w4 (Value.slice A i c).ownBlock)
    (hbl : v'.ownBlock = (Value.slice A i c).ownBlock ∨ ∀ k, v'.ownBlock = some k → w2.heap.size ≤ k) :
    ∃ g' c', v' = .slice (some ⟨g', 0, none⟩) (i + 1) c' ∧ GL Q0 N w4 (i + 1) (some ⟨g', 0, none⟩) c' (putT ch i t) (putP ac i (At, ct)) := by
  obtain ⟨S, hS, hm4⟩ := h.turned hm hgr
  obtain ⟨h8, h11, h12⟩ := h
  obtain ⟨g', c', rfl, hNg, hgl⟩ := own_form hown
  refine ⟨g', c', rfl, ?_⟩
  have hs2 := hm.size
  have hs4 := hm4.size
  have hrow : ∀ k, (Value.slice A i c).ownBlock = some k → N ≤ k ∧ k < wr.heap.size := h11.lt
  have hA' : ∀ b, b < wr.heap.size → A ≠ some ⟨b, 0, none⟩ → (some ⟨g', 0, none⟩ : Option Addr) ≠ some ⟨b, 0, none⟩ := by
    intro b hb hne he
    simp only [Option.some.injEq, Addr.mk.injEq, and_true] at he
    subst he
    rcases hbl with hbl | hbl
    · cases A with
      | none => simp [Value.ownBlock] at hbl
      | some a =>
        simp [Value.ownBlock] at hbl
        rcases h11.2 with ⟨hs, _⟩ | ⟨q, cap, cur, hs, _⟩
        · cases hs
        · simp only [Value.slice.injEq, Option.some.injEq] at hs
          obtain ⟨rfl, _⟩ := hs
          simp at hbl
          subst hbl
          exact hne rfl
    · have := hbl g' rfl; omega
  refine ⟨by omega, ?_, ?_⟩
  · rw [flatC, flatC_congr (ch := putT ch i t) (ac := putP ac i (At, ct)) (ch' := ch) (ac' := ac) (fun j hj => ⟨if_neg (by omega), if_neg (by omega)⟩), show putT ch i t i = t from if_pos rfl, show putP ac i (At, ct) i = (At, ct) from if_pos rfl]
    exact hown
  · intro j hj
    by_cases e : j = i
    · subst e
      rw [show putT ch j t j = t from if_pos rfl, show putP ac j (At, ct) j = (At, ct) from if_pos rfl]
      have q1 : IsL w2 (fun b => (Q0 b ∧ (some ⟨g', 0, none⟩ : Option Addr) ≠ some ⟨b, 0, none⟩) ∧ b ∉ S) t At := IsL.weak (fun k hk hq => ⟨⟨hq.1, fun he => by
        simp only [Option.some.injEq, Addr.mk.injEq, and_true] at he
        subst he
        rcases hbl with hbl | hbl
        · have := hrow g' hbl.symm; have := hq.2; omega
        · have := hbl g' rfl; have := hq.2; omega⟩, fun hkS => by have := hrow k ((hS k).1 hkS); have := hq.2; omega⟩) t hL
      exact IsL.weak (fun k hk hq => hq.1) t (IsL.mod hm4 (fun k hq hk hmm => hq.2 hmm) t q1)
    · rw [show putT ch i t j = ch j from if_neg e, show putP ac i (At, ct) j = ac j from if_neg e]
      have q0 := IsL.weak (R := fun b => (Q0 b ∧ (some ⟨g', 0, none⟩ : Option Addr) ≠ some ⟨b, 0, none⟩) ∧ A ≠ some ⟨b, 0, none⟩) (fun k hk hq => ⟨⟨hq.1, hA' k hk hq.2⟩, hq.2⟩) (ch j) (h12 j (by omega))
      have q1 := IsL.mod hm (fun k hq hk hm => by cases hm) (ch j) q0
      have q2 := IsL.mod hm4 (fun k hq hk hm => by
        have hk2 := (hS k).1 hm
        cases A with
        | none => simp [Value.ownBlock] at hk2
        | some a =>
          simp [Value.ownBlock] at hk2
          rcases h11.2 with ⟨hs, _⟩ | ⟨q, cap, cur, hs, _⟩
          · cases hs
          · simp only [Value.slice.injEq, Option.some.injEq] at hs
            obtain ⟨rfl, _⟩ := hs
            simp at hk2
            subst hk2
            exact hq.2 rfl) (ch j) q1
      exact IsL.weak (fun k hk hq => hq.1) (ch j) q2
/-- The list, whole. -/
theorem GL.isL (h : GL Q0 N wr i A c ch ac) {Q : Nat → Prop} (hQ : ∀ b, Q0 b → Q b) (hN : ∀ b, N ≤ b → Q b) (op : Bool) : IsL wr Q (T.mk 4 0 [] op i ch) A := by
  intro h0
  obtain ⟨i', rfl⟩ : ∃ i', i = i' + 1 := ⟨i - 1, by omega⟩
  obtain ⟨g', c', hv, hNg, hgl⟩ := own_form h.own
  simp only [Value.slice.injEq] at hv
  obtain ⟨rfl, _, rfl⟩ := hv
  refine ⟨g', 0, rfl, hgl, hN _ hNg, fun j hj => ⟨(ac j).1, (ac j).2, ?_, IsL.weak (fun k hk hq => hQ _ hq.1) (ch j) (h.mem j hj)⟩⟩
  obtain ⟨f0, f1, f2, f3, f4⟩ := flatC_get ch ac (i' + 1) j hj
  refine ⟨?_, ?_, ?_, ?_, ?_⟩
  · rw [Nat.zero_add]; exact own_cells h.own f0
  · rw [Nat.zero_add]; exact own_cells h.own f1
  · rw [Nat.zero_add]; exact own_cells h.own f2
  · rw [Nat.zero_add]; exact own_cells h.own f3
  · rw [Nat.zero_add]; exact own_cells h.own f4
end
end Go.Proofs.YtblfmokklfhklaaGreatDoor


namespace Go.Proofs.YtblfmokklfhklaaGreatDoor
open Go.RowKit
set_option linter.unusedVariables false
set_option linter.unusedSimpArgs false

def IMade (t : T) (w : World) (e : Ending) (w' : World) : Prop := ∃ A c, e = .returned (itemV t A c) ∧ Ext w w' ∧ IsL w' (fun b => w.heap.size ≤ b) t A

theorem T.right_plain {t : T} {d : Nat} (h : t.right d = true) : t.plain = true := by
  rw [T.right_eq, Bool.and_eq_true] at h; exact h.2
theorem T.right_up (t : T) : ∀ d, t.right d = true → t.right (d + 1) = true := by
  induction t with
  | nil => intro d h; exact h
  | mk kind n s op k ch ih =>
    intro d h
    unfold T.right at h ⊢
    by_cases h0 : d < 1
    · rw [if_pos h0] at h; cases h
    · rw [if_neg h0, Bool.and_eq_true, T.all_iff] at h
      rw [if_neg (by omega), Bool.and_eq_true, T.all_iff]
      exact ⟨h.1, fun i hi => by have := ih i (d - 1) (h.2 i hi); rw [show d + 1 - 1 = d - 1 + 1 by omega]; exact this⟩
/-- An array's bytes, up to its i-th item. -/
def upto (op : Bool) (k : Nat) (ch : Nat → T) (i : Nat) : List UInt8 := (if op then [159] else headL 4 k) ++ T.cat (fun j => (ch j).bytes) i
def arrB (op : Bool) (k : Nat) (ch : Nat → T) : List UInt8 := (T.mk 4 0 [] op k ch).bytes
theorem arr_upto {op : Bool} {k : Nat} {ch : Nat → T} {i : Nat} (hi : i ≤ k) : ∃ r, arrB op k ch = upto op k ch i ++ r ∧ (i = k → r = if op then [255] else []) := by
  obtain ⟨r, hr⟩ := cat_split (fun i => (ch i).bytes) hi
  have e : arrB op k ch = (if op then [159] else headL 4 k) ++ (T.cat (fun j => (ch j).bytes) k ++ (if op then [255] else [])) := rfl
  refine ⟨r ++ (if op then [255] else []), ?_, ?_⟩
  · rw [e, hr]; unfold upto; simp only [List.append_assoc]
  · rintro rfl
    have : r = [] := by
      have := congrArg List.length hr
      rw [List.length_append] at this
      exact List.eq_nil_of_length_eq_zero (by omega)
    rw [this]; rfl
theorem upto_succ (op : Bool) (k : Nat) (ch : Nat → T) (i : Nat) : upto op k ch (i + 1) = upto op k ch i ++ (ch i).bytes := by
  unfold upto; rw [T.cat, List.append_assoc]
theorem arr_drop {op : Bool} {k : Nat} {ch : Nat → T} {i : Nat} (hi : i < k) : (arrB op k ch).drop (upto op k ch i).length = (ch i).bytes ++ (arrB op k ch).drop (upto op k ch (i + 1)).length := by
  obtain ⟨r, hr, _⟩ := arr_upto (op := op) (ch := ch) (show i + 1 ≤ k from hi)
  rw [hr, List.drop_left, upto_succ, List.append_assoc, List.drop_left]
theorem arr_le {op : Bool} {k : Nat} {ch : Nat → T} {i : Nat} (hi : i ≤ k) : (upto op k ch i).length + (if op then 1 else 0) ≤ (arrB op k ch).length := by
  obtain ⟨r, hr, _⟩ := arr_upto (op := op) (ch := ch) hi
  obtain ⟨r2, hr2, h2⟩ := arr_upto (op := op) (ch := ch) (Nat.le_refl k)
  have h2 := h2 rfl
  have hl : (upto op k ch i).length ≤ (upto op k ch k).length := by
    obtain ⟨r, hr⟩ := cat_split (fun i => (ch i).bytes) hi
    unfold upto; rw [hr]; simp
  rw [hr2, List.length_append, h2]
  cases op <;> simp <;> omega
theorem arr_full {op : Bool} {k : Nat} {ch : Nat → T} : (upto op k ch k).length + (if op then 1 else 0) = (arrB op k ch).length := by
  obtain ⟨r2, hr2, h2⟩ := arr_upto (op := op) (ch := ch) (Nat.le_refl k)
  rw [hr2, List.length_append, h2 rfl]
  cases op <;> simp

set_option maxRecDepth 20000 in
set_option maxHeartbeats 800000 in
theorem r13_num (l : List UInt8) (sz n : Nat) (o : Bool) (hr : readH l = some (sz, 0, n, o)) (w : World) : Calls Tryz.prog 30 #[str l] w (Ret (itemV (numT n) none 0) w) := by
  have K := hid (fun W => read_any l W)
  rw [hr] at K
  have HE := hid ((Mod.refl [] w).alloc (.cells (itemC nulT none 0) 47))
  have HQ := hid (Blk.new w 47 (itemC nulT none 0))
  clear hr
  go_enter Tryz.func30, Tryz.ntmps30
  go_wp2_with fail
  refine (K.out _).mono ?_
  rintro e1 w1 ⟨rfl, hb1⟩
  dsimp only [gotOf, gotV]
  have HE1 := hid ((HE.out.trans hb1).alloc (.cells #[.int .i64 (sz : Int), .int .i64 0, .int .u64 (n : Int), .bool o] 96))
  have HQ1 := hid ((HQ.out.ext hb1).alloc (.cells #[.int .i64 (sz : Int), .int .i64 0, .int .u64 (n : Int), .bool o] 96))
  clear hb1
  obtain ⟨c0, c1, c2, c3, c4⟩ := cells5 HQ1.out
  have f0 := HQ1.out.frozen 0
  have f1 := HQ1.out.frozen 1
  have f2 := HQ1.out.frozen 2
  have f3 := HQ1.out.frozen 3
  have f4 := HQ1.out.frozen 4
  go_wp2_with fail
  obtain ⟨d0, d1, d2, d3, d4⟩ := cells5 (set5_blk (t := numT n) (A := none) (c := 0) HQ1.out)
  clear c0 c1 c2 c3 c4 f0 f1 f2 f3 f4
  show bodyPost _ _ _ _ _ (set5 (w1.alloc (.cells #[.int .i64 (sz : Int), .int .i64 0, .int .u64 (n : Int), .bool o] 96)) w.heap.size (numT n) none 0)
  refine bodyPost_ret (v := itemV (numT n) none 0) (by simp [results, Tryz.results30, go_sem, d0, d1, d2, d3, d4]) rfl (Ret.mk rfl (set5_mod HE1.out (Nat.le_refl _)))
set_option maxRecDepth 20000 in
set_option maxHeartbeats 800000 in
theorem r13_str (l : List UInt8) (hl : l.length ≤ 1073741824) (sz m n : Nat) (o : Bool) (hm : m = 2 ∨ m = 3) (hr : readH l = some (sz, m, n, o)) (w : World) : Calls Tryz.prog 30 #[str l] w (Ret (itemV (sT m (l.drop sz)) none 0) w) := by
  have K := hid (fun W => read_any l W)
  rw [hr] at K
  have s1 : (sz : Int) ≤ (l.length : Int) := by have := (readH_some hr).le; omega
  have s0 : (0 : Int) ≤ (sz : Int) := by omega
  have l1 : (l.length : Int) ≤ 1073741824 := by omega
  have m0 : ((m : Int) == 0) = false := by simp; omega
  have m1 : ((m : Int) = 0) = False := by simp; omega
  have m4 : decide ((m : Int) < 4) = true := by simp; omega
  have m5 : ((m : Int) < 4) = True := by simp; omega
  have HE := hid ((Mod.refl [] w).alloc (.cells (itemC nulT none 0) 47))
  have HQ := hid (Blk.new w 47 (itemC nulT none 0))
  clear hr hm hl
  go_enter Tryz.func30, Tryz.ntmps30
  go_wp2_with fail
  refine (K.out _).mono ?_
  rintro e1 w1 ⟨rfl, hb1⟩
  dsimp only [gotOf, gotV]
  have HE1 := hid ((HE.out.trans hb1).alloc (.cells #[.int .i64 (sz : Int), .int .i64 (m : Int), .int .u64 (n : Int), .bool o] 96))
  have HQ1 := hid ((HQ.out.ext hb1).alloc (.cells #[.int .i64 (sz : Int), .int .i64 (m : Int), .int .u64 (n : Int), .bool o] 96))
  clear hb1
  obtain ⟨c0, c1, c2, c3, c4⟩ := cells5 HQ1.out
  have f0 := HQ1.out.frozen 0
  have f1 := HQ1.out.frozen 1
  have f2 := HQ1.out.frozen 2
  have f3 := HQ1.out.frozen 3
  have f4 := HQ1.out.frozen 4
  go_wp2_with fail
  go_region
  rw [extract_rest]
  go_wp2_with fail
  obtain ⟨d0, d1, d2, d3, d4⟩ := cells5 (set5_blk (t := sT m (l.drop sz)) (A := none) (c := 0) HQ1.out).drew
  clear c0 c1 c2 c3 c4 f0 f1 f2 f3 f4
  show bodyPost _ _ _ _ _ (set5 (w1.alloc (.cells #[.int .i64 (sz : Int), .int .i64 (m : Int), .int .u64 (n : Int), .bool o] 96)) w.heap.size (sT m (l.drop sz)) none 0).drew
  refine bodyPost_ret (v := itemV (sT m (l.drop sz)) none 0) (by simp [results, Tryz.results30, go_sem, d0, d1, d2, d3, d4]) rfl (Ret.mk rfl (set5_mod HE1.out (Nat.le_refl _)).drew)
set_option maxRecDepth 20000 in
set_option maxHeartbeats 1600000 in
theorem r13_arr_false (k : Nat) (ch : Nat → T) (ht : (T.mk 4 0 [] false k ch).right 8 = true) (hok : (T.mk 4 0 [] false k ch).ok) (hl : (arrB false k ch).length ≤ 1073741824)
    (IH : ∀ i, i < k → ∀ w, Calls Tryz.prog 30 #[str (ch i).bytes] w (IMade (ch i) w)) (w : World) : Calls Tryz.prog 30 #[str (arrB false k ch)] w (IMade (T.mk 4 0 [] false k ch) w) := by
  have hk1 : k ≤ 1000 ∧ ∀ i, i < k → (ch i).right 8 = true := by
    unfold T.right at ht
    rw [if_neg (by decide), Bool.and_eq_true, T.all_iff] at ht
    refine ⟨by have := ht.1; unfold T.node at this; simpa using this, fun i hi => T.right_up _ 7 (ht.2 i hi)⟩
  have hok1 : ∀ i, i < k → (ch i).ok := hok.2.2.2.2
  have hrH : readH (arrB false k ch) = some ((headL 4 k).length, 4, k, false) := by
    have := T.readH_bytes _ (T.right_plain ht) hok []
    rw [List.append_nil] at this
    exact this
  obtain ⟨P, hP⟩ : ∃ P : Nat → Nat, P = fun i => (upto false k ch i).length := ⟨_, rfl⟩
  have HN : Hid (∀ i, i < k → P i ≤ P (i + 1) ∧ flt 8 ((arrB false k ch).drop (P i)) = (P (i + 1) - P i, 0) ∧ ((arrB false k ch).drop (P i)).take (P (i + 1) - P i) = (ch i).bytes ∧ P (i + 1) ≤ (arrB false k ch).length ∧ P i < (arrB false k ch).length - 1 + 1) := fun i hi => by
    have e := arr_drop (op := false) (ch := ch) hi
    have u := upto_succ false k ch i
    have le := arr_le (op := false) (ch := ch) (show i + 1 ≤ k from hi)
    have hb : 0 < (ch i).bytes.length := by
      cases hc : (ch i).bytes with
      | nil =>
        have := T.readH_bytes _ (T.right_plain (hk1.2 i hi)) (hok1 i hi) []
        rw [hc] at this; simp [readH] at this
      | cons _ _ => simp
    have hp : P (i + 1) = P i + (ch i).bytes.length := by rw [hP]; dsimp only; rw [u, List.length_append]
    have hp2 : (upto false k ch i).length = P i := by rw [hP]
    have hp3 : (upto false k ch (i + 1)).length = P (i + 1) := by rw [hP]
    rw [hp2, hp3] at e
    rw [hp3] at le
    have hd : P (i + 1) - P i = (ch i).bytes.length := by omega
    refine ⟨by omega, ?_, ?_, by omega, ?_⟩
    · rw [e, hd]; exact flt_bytes (ch i) 8 (hk1.2 i hi) (hok1 i hi) _
    · rw [e, hd, List.take_left]
    · revert le; simp; omega
  have h0 : P 0 = (headL 4 k).length := by rw [hP]; simp [upto, T.cat]
  have HK : Hid (P k + 0 = (arrB false k ch).length) := by unfold Hid; rw [hP]; have := arr_full (op := false) (k := k) (ch := ch); simpa using this
  have HI : Hid (k ≤ 1000) := hk1.1
  have HIH : Hid (∀ i, i < k → ∀ w, Calls Tryz.prog 30 #[str (ch i).bytes] w (IMade (ch i) w)) := IH
  obtain ⟨sz, hsz⟩ : ∃ sz, sz = (headL 4 k).length := ⟨_, rfl⟩
  rw [← hsz] at h0 hrH
  have HRT := hid ht
  clear ht hok hk1 hok1 hP IH hsz
  generalize arrB false k ch = l at *
  have K := hid (fun W => read_any l W)
  have KF := hid (fun q (hq : q ≤ l.length) W => fault_any l hl 8 (by omega) q hq W)
  rw [hrH] at K
  have l1 : (l.length : Int) ≤ 1073741824 := by omega
  have HL := hid hl
  have HE := hid ((Mod.refl [] w).alloc (.cells (itemC nulT none 0) 47))
  have HQ := hid (Blk.new w 47 (itemC nulT none 0))
  have H0 := hid h0
  clear hrH hl h0
  go_enter Tryz.func30, Tryz.ntmps30
  go_wp2_with fail
  refine (K.out _).mono ?_
  rintro e1 w1 ⟨rfl, hb1⟩
  dsimp only [gotOf, gotV]
  (try simp only [show ((4 : Nat) : Int) = 4 from rfl])
  (try simp only [show ((0 : Nat) : Int) = 0 from rfl])
  have HE2 := hid (((HE.out.trans hb1).alloc (.cells #[.int .i64 (sz : Int), .int .i64 4, .int .u64 ((k : Int)), .bool false] 96)).alloc (.cells #[.int .i64 4, .int .u64 0, str [], .slice none 0 0, .bool false] 47))
  have HQ2 := hid (((HQ.out.ext hb1).alloc (.cells #[.int .i64 (sz : Int), .int .i64 4, .int .u64 ((k : Int)), .bool false] 96)).alloc (.cells #[.int .i64 4, .int .u64 0, str [], .slice none 0 0, .bool false] 47))
  have HG2 := hid ((Blk.new w1 96 #[.int .i64 (sz : Int), .int .i64 4, .int .u64 ((k : Int)), .bool false]).alloc (.cells #[.int .i64 4, .int .u64 0, str [], .slice none 0 0, .bool false] 47))
  have HX2 := hid (Blk.new' (w1.alloc (.cells #[.int .i64 (sz : Int), .int .i64 4, .int .u64 ((k : Int)), .bool false] 96)) 47 #[.int .i64 4, .int .u64 0, str [], .slice none 0 0, .bool false] (N := w1.heap.size + 1) (by simp))
  have hw1 : w.heap.size < w1.heap.size := by have := hb1.size; simp at this; omega
  have HW1 := hid hw1
  have HGL2 := hid (GL.nil (fun b => w1.heap.size + 2 ≤ b) (N := w1.heap.size + 2) (wr := (w1.alloc (.cells #[.int .i64 (sz : Int), .int .i64 4, .int .u64 ((k : Int)), .bool false] 96)).alloc (.cells #[.int .i64 4, .int .u64 0, str [], .slice none 0 0, .bool false] 47)) (by simp) ch (fun _ => (none, 0)))
  clear hb1 hw1 HE HQ
  go_wp2_with fail
  generalize w1.heap.size = G at *
  go_loopw [5, 6] (fun s5 s6 wr => ∃ (i : Nat) (A : Option Addr) (c : Nat) (ac : Nat → Option Addr × Nat), s5 = .int .i64 ((P i : Nat) : Int) ∧ s6 = .int .u64 (i : Int) ∧ Hid (i ≤ k) ∧ Hid (Ext w wr ∧ Blk wr w.heap.size 47 (itemC nulT none 0) ∧ Blk wr G 96 #[.int .i64 (sz : Int), .int .i64 4, .int .u64 ((k : Int)), .bool false] ∧ Blk wr (G + 1) 47 #[.int .i64 4, .int .u64 0, str [], .slice A i c, .bool false] ∧ GL (fun b => G + 2 ≤ b) (G + 2) wr i A c ch ac)) (fun _ s6 _ => k - (intOf s6).toNat)
  case atStart => exact ⟨0, none, 0, _, by rw [H0.out], rfl, (show Hid _ from Nat.zero_le _), (show Hid _ from ⟨HE2.out, HQ2.out, HG2.out, HX2.out, HGL2.out⟩)⟩
  case round =>
    clear HE2 HQ2 HG2 HX2 HGL2 H0
    obtain ⟨i, A, c, ac, rfl, rfl, hi, hW⟩ := hrel
    have g0 : wr.cell? ⟨G, 0, none⟩ = some (.int .i64 (sz : Int)) := hW.out.2.2.1.cell 0
    have g2 : wr.cell? ⟨G, 2, none⟩ = some (.int .u64 ((k : Int))) := hW.out.2.2.1.cell 2
    have g3 : wr.cell? ⟨G, 3, none⟩ = some (.bool false) := hW.out.2.2.1.cell 3
    have i0 : (0 : Int) ≤ (i : Int) := by omega
    have i1 : (i : Int) ≤ 1000 := by have := hi.out; have := HI.out; omega
    by_cases hlt : i < k
    · have tc : decide (i < k) = true := by simp [hlt]
      have q0 : (0 : Int) ≤ ((P i : Nat) : Int) := by omega
      have q1 : ((P i : Nat) : Int) ≤ ((P (i + 1) : Nat) : Int) := by have := (HN.out i hlt).1; omega
      have q2 : ((P (i + 1) : Nat) : Int) ≤ (l.length : Int) := by have := (HN.out i hlt).2.2.2.1; omega
      have HLT := hid hlt
      have hFV : faultV (P i) (flt 8 (l.drop (P i))) = .tuple #[.int .i64 ((P (i + 1) : Nat) : Int), .int .i64 0] := by
        rw [(HN.out i hlt).2.1, faultV]
        have := (HN.out i hlt).1
        simp only [show P i + (P (i + 1) - P i) = P (i + 1) by omega]
      have HFV := hid hFV
      clear hlt hFV
      go_wp2_with fail
      refine (KF.out (P i) (by omega) _).mono ?_
      rintro x w3 ⟨rfl, hb3⟩
      rw [HFV.out]
      have HW3 := hid (show Ext w w3 ∧ Blk w3 w.heap.size 47 (itemC nulT none 0) ∧ Blk w3 G 96 #[.int .i64 (sz : Int), .int .i64 4, .int .u64 ((k : Int)), .bool false] ∧ Blk w3 (G + 1) 47 #[.int .i64 4, .int .u64 0, str [], .slice A i c, .bool false] ∧ GL (fun b => G + 2 ≤ b) (G + 2) w3 i A c ch ac from ⟨hW.out.1.trans hb3, hW.out.2.1.ext hb3, hW.out.2.2.1.ext hb3, hW.out.2.2.2.1.ext hb3, hW.out.2.2.2.2.ext hb3⟩)
      have HB3 := hid hb3
      clear hb3 g0 g2 g3 hW
      have x3 : w3.cell? ⟨G + 1, 3, none⟩ = some (.slice A i c) := HW3.out.2.2.2.1.cell 3
      have y3 : w3.frozen? ⟨G + 1, 3, none⟩ = false := HW3.out.2.2.2.1.frozen 3
      have HKI := hid (HIH.out i HLT.out)
      have HS : Hid ((l.drop (P i)).take (P (i + 1) - P i) = (ch i).bytes) := (HN.out i HLT.out).2.2.1
      obtain ⟨i0', hi0, hz0, hz1, hz2⟩ := info_parts infoItem
      go_upto_region 12 with fail
      go_region_law (first
        | (refine step_append_lies _ rfl (.tmp 61) (.tmp 67) 45 rfl (G + 2) 47 i0' _ 5 64 Tryz.underlying45 hi0 hz0 hz1 hz2 rfl (by decide) (.slice A i c) i _ (by simp [Act.eval]) ho2 ⟨w2.heap.size, 0, none⟩ 1 1 [Value.int .i64 (ch i).kind, .int .u64 ((ch i).n : Int), str (ch i).s, .slice Ac (ch i).k cc, .bool (ch i).op] (by simp [Act.eval]) rfl (news5 w2 (ch i) Ac cc) (one5 (ch i) Ac cc) (by decide) (by have := HI.out; have := HLT.out; unfold maxLen; omega) (by have := HI.out; have := HLT.out; omega) (by have := HW3.out.2.2.2.2.room hm; simp; omega) (w2.heap.size + 1) (by simp) ?_; intro g' c' w4 hown' hgr hbl hgl; have hx4 := HW3.out.2.2.2.2.keep hm hgr HW3.out.2.2.2.1 (by omega); have x4 : w4.cell? ⟨G + 1, 3, none⟩ = some (.slice A i c) := hx4.cell 3; have xf : w4.frozen? ⟨G + 1, 3, none⟩ = false := hx4.frozen 3)
        | (go_simp; go_at_call 30; rw [extract_str, HS.out]; refine (HKI.out _).mono ?_; rintro x w2 ⟨Ac, cc, rfl, hm2, hs2⟩; have hm : Ext w3 w2 := (by first | exact hm2 | exact (Mod.refl _ _).drew.trans hm2); have ho2 := HW3.out.2.2.2.2.own2 hm (.cells (itemC (ch i) Ac cc) 47); have z3 : w2.cell? ⟨G + 1, 3, none⟩ = some (.slice A i c) := (HW3.out.2.2.2.1.ext hm).cell 3; have zf : w2.frozen? ⟨G + 1, 3, none⟩ = false := (HW3.out.2.2.2.1.ext hm).frozen 3; have z4 : (w2.alloc (.cells #[Value.int .i64 (ch i).kind, .int .u64 ((ch i).n : Int), str (ch i).s, .slice Ac (ch i).k cc, .bool (ch i).op] 47)).cell? ⟨G + 1, 3, none⟩ = some (.slice A i c) := ((HW3.out.2.2.2.1.ext hm).alloc _).cell 3; have hne : ¬ G + 1 = w2.heap.size := (by have := HW3.out.2.2.2.2.room hm; omega)))
      all_goals go_wp2_with fail
      all_goals have hblk : (Value.slice (some ⟨g', 0, none⟩) (i + 1) c').ownBlock = (Value.slice A i c).ownBlock ∨ ∀ k, (Value.slice (some ⟨g', 0, none⟩) (i + 1) c').ownBlock = some k → w2.heap.size ≤ k := hbl.elim (fun h => .inl h.symm) (fun h => .inr fun k hk => by simp [Value.ownBlock] at hk; omega)
      all_goals obtain ⟨g2, c2, e1, hL⟩ := HW3.out.2.2.2.2.step hm (IsL.weak (fun b hb hq => ⟨by have := HW3.out.2.2.2.2.nx; have hq2 : w3.heap.size ≤ b := hq; omega, .inr hq⟩) (ch i) hs2) hown' hgr hblk
      all_goals simp only [Value.slice.injEq, Option.some.injEq, Addr.mk.injEq, true_and, and_true] at e1
      all_goals obtain ⟨rfl, rfl⟩ := e1
      all_goals rw [putT_self] at hL
      all_goals have hwG : w.heap.size < G := HW1.out
      all_goals have k1 := (HW3.out.2.2.2.2.keep hm hgr HW3.out.2.1 (by omega)).far (p := ⟨G + 1, 3, none⟩) (by simp; omega) (.slice (some ⟨g', 0, none⟩) (i + 1) c')
      all_goals have k2 := (HW3.out.2.2.2.2.keep hm hgr HW3.out.2.2.1 (by omega)).far (p := ⟨G + 1, 3, none⟩) (by simp) (.slice (some ⟨g', 0, none⟩) (i + 1) c')
      all_goals have k3 := hx4.set_ 3 (.slice (some ⟨g', 0, none⟩) (i + 1) c')
      all_goals have k4 := (HW3.out.2.2.2.2.since HW3.out.1 (by omega) hm hgr).setCell (p := ⟨G + 1, 3, none⟩) (.inr (by show w.heap.size ≤ G + 1; omega)) (.slice (some ⟨g', 0, none⟩) (i + 1) c')
      all_goals have k5 := hL.mod ((Mod.refl [G + 1] w4).setCell (p := ⟨G + 1, 3, none⟩) (.inl (by simp)) (.slice (some ⟨g', 0, none⟩) (i + 1) c')) (fun k hk => by rw [List.mem_singleton] at hk; subst hk; exact ⟨by omega, by omega⟩)
      all_goals have hlt := HLT.out

      all_goals go_roundw
      all_goals first | (simp only [intOf]; omega) | exact ⟨i + 1, some ⟨g', 0, none⟩, c', _, rfl, by simp, (show Hid _ from hlt), (show Hid _ from ⟨k4, k1, k2, by simpa using k3, k5⟩)⟩
    · obtain rfl : i = k := by have := hi.out; omega
      have tc : decide (i < i) = false := by simp
      have HX := hid hW.out.2.2.2.1
      have HB := hid hW.out.2.1
      have HEW := hid hW.out.1
      have HGW := hid hW.out.2.2.2.2
      have x0 : wr.cell? ⟨G + 1, 0, none⟩ = some (.int .i64 4) := HX.out.cell 0
      have x1 : wr.cell? ⟨G + 1, 1, none⟩ = some (.int .u64 0) := HX.out.cell 1
      have x2 : wr.cell? ⟨G + 1, 2, none⟩ = some (str []) := HX.out.cell 2
      have x3 : wr.cell? ⟨G + 1, 3, none⟩ = some (.slice A i c) := HX.out.cell 3
      have x4 : wr.cell? ⟨G + 1, 4, none⟩ = some (.bool false) := HX.out.cell 4
      obtain ⟨c0, c1, c2, c3, c4⟩ := cells5 HB.out
      have f0 := HB.out.frozen 0
      have f1 := HB.out.frozen 1
      have f2 := HB.out.frozen 2
      have f3 := HB.out.frozen 3
      have f4 := HB.out.frozen 4
      clear hW
      go_wp2_with fail
      obtain ⟨d0, d1, d2, d3, d4⟩ := cells5 (set5_blk (t := T.mk 4 0 [] false i ch) (A := A) (c := c) HB.out)
      clear c0 c1 c2 c3 c4 f0 f1 f2 f3 f4 x0 x1 x2 x3 x4 g0 g2 g3
      show bodyPost _ _ _ _ _ (set5 wr w.heap.size (T.mk 4 0 [] false i ch) A c)
      refine bodyPost_ret (v := itemV (T.mk 4 0 [] false i ch) A c) (by simp [results, Tryz.results30, go_sem, d0, d1, d2, d3, d4]) rfl ⟨A, c, rfl, set5_mod HEW.out (Nat.le_refl _), ?_⟩
      have := HW1.out
      exact IsL.weak (fun b hb hq => by have hq2 : G + 2 ≤ b := hq; omega) (T.mk 4 0 [] false i ch) (IsL.mod set5_modb (fun b hq hb hm => by rw [List.mem_singleton] at hm; have hq2 : G + 2 ≤ b := hq; omega) (T.mk 4 0 [] false i ch) (HGW.out.isL (Q := fun b => G + 2 ≤ b) (fun b h => h) (fun b h => h) false))
set_option maxRecDepth 20000 in
set_option maxHeartbeats 1600000 in
theorem r13_arr_true (k : Nat) (ch : Nat → T) (ht : (T.mk 4 0 [] true k ch).right 8 = true) (hok : (T.mk 4 0 [] true k ch).ok) (hl : (arrB true k ch).length ≤ 1073741824)
    (IH : ∀ i, i < k → ∀ w, Calls Tryz.prog 30 #[str (ch i).bytes] w (IMade (ch i) w)) (w : World) : Calls Tryz.prog 30 #[str (arrB true k ch)] w (IMade (T.mk 4 0 [] true k ch) w) := by
  have hk1 : k ≤ 1000 ∧ ∀ i, i < k → (ch i).right 8 = true := by
    unfold T.right at ht
    rw [if_neg (by decide), Bool.and_eq_true, T.all_iff] at ht
    refine ⟨by have := ht.1; unfold T.node at this; simpa using this, fun i hi => T.right_up _ 7 (ht.2 i hi)⟩
  have hok1 : ∀ i, i < k → (ch i).ok := hok.2.2.2.2
  have hrH : readH (arrB true k ch) = some (1, 4, 0, true) := by
    have := T.readH_bytes _ (T.right_plain ht) hok []
    rw [List.append_nil] at this
    exact this
  obtain ⟨P, hP⟩ : ∃ P : Nat → Nat, P = fun i => (upto true k ch i).length := ⟨_, rfl⟩
  have HN : Hid (∀ i, i < k → P i ≤ P (i + 1) ∧ flt 8 ((arrB true k ch).drop (P i)) = (P (i + 1) - P i, 0) ∧ ((arrB true k ch).drop (P i)).take (P (i + 1) - P i) = (ch i).bytes ∧ P (i + 1) ≤ (arrB true k ch).length ∧ P i < (arrB true k ch).length - 1 + 0) := fun i hi => by
    have e := arr_drop (op := true) (ch := ch) hi
    have u := upto_succ true k ch i
    have le := arr_le (op := true) (ch := ch) (show i + 1 ≤ k from hi)
    have hb : 0 < (ch i).bytes.length := by
      cases hc : (ch i).bytes with
      | nil =>
        have := T.readH_bytes _ (T.right_plain (hk1.2 i hi)) (hok1 i hi) []
        rw [hc] at this; simp [readH] at this
      | cons _ _ => simp
    have hp : P (i + 1) = P i + (ch i).bytes.length := by rw [hP]; dsimp only; rw [u, List.length_append]
    have hp2 : (upto true k ch i).length = P i := by rw [hP]
    have hp3 : (upto true k ch (i + 1)).length = P (i + 1) := by rw [hP]
    rw [hp2, hp3] at e
    rw [hp3] at le
    have hd : P (i + 1) - P i = (ch i).bytes.length := by omega
    refine ⟨by omega, ?_, ?_, by omega, ?_⟩
    · rw [e, hd]; exact flt_bytes (ch i) 8 (hk1.2 i hi) (hok1 i hi) _
    · rw [e, hd, List.take_left]
    · revert le; simp; omega
  have h0 : P 0 = 1 := by rw [hP]; simp [upto, T.cat]
  have HK : Hid (P k + 1 = (arrB true k ch).length) := by unfold Hid; rw [hP]; have := arr_full (op := true) (k := k) (ch := ch); simpa using this
  have HI : Hid (k ≤ 1000) := hk1.1
  have HIH : Hid (∀ i, i < k → ∀ w, Calls Tryz.prog 30 #[str (ch i).bytes] w (IMade (ch i) w)) := IH
  obtain ⟨sz, hsz⟩ : ∃ sz, sz = 1 := ⟨_, rfl⟩
  rw [← hsz] at h0 hrH
  have HRT := hid ht
  clear ht hok hk1 hok1 hP IH hsz
  generalize arrB true k ch = l at *
  have K := hid (fun W => read_any l W)
  have KF := hid (fun q (hq : q ≤ l.length) W => fault_any l hl 8 (by omega) q hq W)
  rw [hrH] at K
  have l1 : (l.length : Int) ≤ 1073741824 := by omega
  have HL := hid hl
  have HE := hid ((Mod.refl [] w).alloc (.cells (itemC nulT none 0) 47))
  have HQ := hid (Blk.new w 47 (itemC nulT none 0))
  have H0 := hid h0
  clear hrH hl h0
  go_enter Tryz.func30, Tryz.ntmps30
  go_wp2_with fail
  refine (K.out _).mono ?_
  rintro e1 w1 ⟨rfl, hb1⟩
  dsimp only [gotOf, gotV]
  (try simp only [show ((4 : Nat) : Int) = 4 from rfl])
  (try simp only [show ((0 : Nat) : Int) = 0 from rfl])
  have HE2 := hid (((HE.out.trans hb1).alloc (.cells #[.int .i64 (sz : Int), .int .i64 4, .int .u64 (0), .bool true] 96)).alloc (.cells #[.int .i64 4, .int .u64 0, str [], .slice none 0 0, .bool true] 47))
  have HQ2 := hid (((HQ.out.ext hb1).alloc (.cells #[.int .i64 (sz : Int), .int .i64 4, .int .u64 (0), .bool true] 96)).alloc (.cells #[.int .i64 4, .int .u64 0, str [], .slice none 0 0, .bool true] 47))
  have HG2 := hid ((Blk.new w1 96 #[.int .i64 (sz : Int), .int .i64 4, .int .u64 (0), .bool true]).alloc (.cells #[.int .i64 4, .int .u64 0, str [], .slice none 0 0, .bool true] 47))
  have HX2 := hid (Blk.new' (w1.alloc (.cells #[.int .i64 (sz : Int), .int .i64 4, .int .u64 (0), .bool true] 96)) 47 #[.int .i64 4, .int .u64 0, str [], .slice none 0 0, .bool true] (N := w1.heap.size + 1) (by simp))
  have hw1 : w.heap.size < w1.heap.size := by have := hb1.size; simp at this; omega
  have HW1 := hid hw1
  have HGL2 := hid (GL.nil (fun b => w1.heap.size + 2 ≤ b) (N := w1.heap.size + 2) (wr := (w1.alloc (.cells #[.int .i64 (sz : Int), .int .i64 4, .int .u64 (0), .bool true] 96)).alloc (.cells #[.int .i64 4, .int .u64 0, str [], .slice none 0 0, .bool true] 47)) (by simp) ch (fun _ => (none, 0)))
  clear hb1 hw1 HE HQ
  go_wp2_with fail
  generalize w1.heap.size = G at *
  go_loopw [5, 6] (fun s5 s6 wr => ∃ (i : Nat) (A : Option Addr) (c : Nat) (ac : Nat → Option Addr × Nat), s5 = .int .i64 ((P i : Nat) : Int) ∧ s6 = .int .u64 (i : Int) ∧ Hid (i ≤ k) ∧ Hid (Ext w wr ∧ Blk wr w.heap.size 47 (itemC nulT none 0) ∧ Blk wr G 96 #[.int .i64 (sz : Int), .int .i64 4, .int .u64 (0), .bool true] ∧ Blk wr (G + 1) 47 #[.int .i64 4, .int .u64 0, str [], .slice A i c, .bool true] ∧ GL (fun b => G + 2 ≤ b) (G + 2) wr i A c ch ac)) (fun _ s6 _ => k - (intOf s6).toNat)
  case atStart => exact ⟨0, none, 0, _, by rw [H0.out], rfl, (show Hid _ from Nat.zero_le _), (show Hid _ from ⟨HE2.out, HQ2.out, HG2.out, HX2.out, HGL2.out⟩)⟩
  case round =>
    clear HE2 HQ2 HG2 HX2 HGL2 H0
    obtain ⟨i, A, c, ac, rfl, rfl, hi, hW⟩ := hrel
    have g0 : wr.cell? ⟨G, 0, none⟩ = some (.int .i64 (sz : Int)) := hW.out.2.2.1.cell 0
    have g2 : wr.cell? ⟨G, 2, none⟩ = some (.int .u64 (0)) := hW.out.2.2.1.cell 2
    have g3 : wr.cell? ⟨G, 3, none⟩ = some (.bool true) := hW.out.2.2.1.cell 3
    have i0 : (0 : Int) ≤ (i : Int) := by omega
    have i1 : (i : Int) ≤ 1000 := by have := hi.out; have := HI.out; omega
    by_cases hlt : i < k
    · have tc : decide (((P i : Nat) : Int) < (l.length : Int) - 1) = true := by have h1 := (HN.out i hlt).1; have h2 := (HN.out i hlt).2.2.2.2; simp; omega
      have q0 : (0 : Int) ≤ ((P i : Nat) : Int) := by omega
      have q1 : ((P i : Nat) : Int) ≤ ((P (i + 1) : Nat) : Int) := by have := (HN.out i hlt).1; omega
      have q2 : ((P (i + 1) : Nat) : Int) ≤ (l.length : Int) := by have := (HN.out i hlt).2.2.2.1; omega
      have HLT := hid hlt
      have hFV : faultV (P i) (flt 8 (l.drop (P i))) = .tuple #[.int .i64 ((P (i + 1) : Nat) : Int), .int .i64 0] := by
        rw [(HN.out i hlt).2.1, faultV]
        have := (HN.out i hlt).1
        simp only [show P i + (P (i + 1) - P i) = P (i + 1) by omega]
      have HFV := hid hFV
      clear hlt hFV
      go_wp2_with fail
      refine (KF.out (P i) (by omega) _).mono ?_
      rintro x w3 ⟨rfl, hb3⟩
      rw [HFV.out]
      have HW3 := hid (show Ext w w3 ∧ Blk w3 w.heap.size 47 (itemC nulT none 0) ∧ Blk w3 G 96 #[.int .i64 (sz : Int), .int .i64 4, .int .u64 (0), .bool true] ∧ Blk w3 (G + 1) 47 #[.int .i64 4, .int .u64 0, str [], .slice A i c, .bool true] ∧ GL (fun b => G + 2 ≤ b) (G + 2) w3 i A c ch ac from ⟨hW.out.1.trans hb3, hW.out.2.1.ext hb3, hW.out.2.2.1.ext hb3, hW.out.2.2.2.1.ext hb3, hW.out.2.2.2.2.ext hb3⟩)
      have HB3 := hid hb3
      clear hb3 g0 g2 g3 hW
      have x3 : w3.cell? ⟨G + 1, 3, none⟩ = some (.slice A i c) := HW3.out.2.2.2.1.cell 3
      have y3 : w3.frozen? ⟨G + 1, 3, none⟩ = false := HW3.out.2.2.2.1.frozen 3
      have HKI := hid (HIH.out i HLT.out)
      have HS : Hid ((l.drop (P i)).take (P (i + 1) - P i) = (ch i).bytes) := (HN.out i HLT.out).2.2.1
      obtain ⟨i0', hi0, hz0, hz1, hz2⟩ := info_parts infoItem
      go_upto_region 12 with fail
      go_region_law (first
        | (refine step_append_lies _ rfl (.tmp 61) (.tmp 67) 45 rfl (G + 2) 47 i0' _ 5 64 Tryz.underlying45 hi0 hz0 hz1 hz2 rfl (by decide) (.slice A i c) i _ (by simp [Act.eval]) ho2 ⟨w2.heap.size, 0, none⟩ 1 1 [Value.int .i64 (ch i).kind, .int .u64 ((ch i).n : Int), str (ch i).s, .slice Ac (ch i).k cc, .bool (ch i).op] (by simp [Act.eval]) rfl (news5 w2 (ch i) Ac cc) (one5 (ch i) Ac cc) (by decide) (by have := HI.out; have := HLT.out; unfold maxLen; omega) (by have := HI.out; have := HLT.out; omega) (by have := HW3.out.2.2.2.2.room hm; simp; omega) (w2.heap.size + 1) (by simp) ?_; intro g' c' w4 hown' hgr hbl hgl; have hx4 := HW3.out.2.2.2.2.keep hm hgr HW3.out.2.2.2.1 (by omega); have x4 : w4.cell? ⟨G + 1, 3, none⟩ = some (.slice A i c) := hx4.cell 3; have xf : w4.frozen? ⟨G + 1, 3, none⟩ = false := hx4.frozen 3)
        | (go_simp; go_at_call 30; rw [extract_str, HS.out]; refine (HKI.out _).mono ?_; rintro x w2 ⟨Ac, cc, rfl, hm2, hs2⟩; have hm : Ext w3 w2 := (by first | exact hm2 | exact (Mod.refl _ _).drew.trans hm2); have ho2 := HW3.out.2.2.2.2.own2 hm (.cells (itemC (ch i) Ac cc) 47); have z3 : w2.cell? ⟨G + 1, 3, none⟩ = some (.slice A i c) := (HW3.out.2.2.2.1.ext hm).cell 3; have zf : w2.frozen? ⟨G + 1, 3, none⟩ = false := (HW3.out.2.2.2.1.ext hm).frozen 3; have z4 : (w2.alloc (.cells #[Value.int .i64 (ch i).kind, .int .u64 ((ch i).n : Int), str (ch i).s, .slice Ac (ch i).k cc, .bool (ch i).op] 47)).cell? ⟨G + 1, 3, none⟩ = some (.slice A i c) := ((HW3.out.2.2.2.1.ext hm).alloc _).cell 3; have hne : ¬ G + 1 = w2.heap.size := (by have := HW3.out.2.2.2.2.room hm; omega)))
      all_goals go_wp2_with fail
      all_goals have hblk : (Value.slice (some ⟨g', 0, none⟩) (i + 1) c').ownBlock = (Value.slice A i c).ownBlock ∨ ∀ k, (Value.slice (some ⟨g', 0, none⟩) (i + 1) c').ownBlock = some k → w2.heap.size ≤ k := hbl.elim (fun h => .inl h.symm) (fun h => .inr fun k hk => by simp [Value.ownBlock] at hk; omega)
      all_goals obtain ⟨g2, c2, e1, hL⟩ := HW3.out.2.2.2.2.step hm (IsL.weak (fun b hb hq => ⟨by have := HW3.out.2.2.2.2.nx; have hq2 : w3.heap.size ≤ b := hq; omega, .inr hq⟩) (ch i) hs2) hown' hgr hblk
      all_goals simp only [Value.slice.injEq, Option.some.injEq, Addr.mk.injEq, true_and, and_true] at e1
      all_goals obtain ⟨rfl, rfl⟩ := e1
      all_goals rw [putT_self] at hL
      all_goals have hwG : w.heap.size < G := HW1.out
      all_goals have k1 := (HW3.out.2.2.2.2.keep hm hgr HW3.out.2.1 (by omega)).far (p := ⟨G + 1, 3, none⟩) (by simp; omega) (.slice (some ⟨g', 0, none⟩) (i + 1) c')
      all_goals have k2 := (HW3.out.2.2.2.2.keep hm hgr HW3.out.2.2.1 (by omega)).far (p := ⟨G + 1, 3, none⟩) (by simp) (.slice (some ⟨g', 0, none⟩) (i + 1) c')
      all_goals have k3 := hx4.set_ 3 (.slice (some ⟨g', 0, none⟩) (i + 1) c')
      all_goals have k4 := (HW3.out.2.2.2.2.since HW3.out.1 (by omega) hm hgr).setCell (p := ⟨G + 1, 3, none⟩) (.inr (by show w.heap.size ≤ G + 1; omega)) (.slice (some ⟨g', 0, none⟩) (i + 1) c')
      all_goals have k5 := hL.mod ((Mod.refl [G + 1] w4).setCell (p := ⟨G + 1, 3, none⟩) (.inl (by simp)) (.slice (some ⟨g', 0, none⟩) (i + 1) c')) (fun k hk => by rw [List.mem_singleton] at hk; subst hk; exact ⟨by omega, by omega⟩)
      all_goals have hlt := HLT.out

      all_goals go_roundw
      all_goals first | (simp only [intOf]; omega) | exact ⟨i + 1, some ⟨g', 0, none⟩, c', _, rfl, by simp, (show Hid _ from hlt), (show Hid _ from ⟨k4, k1, k2, by simpa using k3, k5⟩)⟩
    · obtain rfl : i = k := by have := hi.out; omega
      have tc : decide (((P i : Nat) : Int) < (l.length : Int) - 1) = false := by have := HK.out; simp; omega
      have HX := hid hW.out.2.2.2.1
      have HB := hid hW.out.2.1
      have HEW := hid hW.out.1
      have HGW := hid hW.out.2.2.2.2
      have x0 : wr.cell? ⟨G + 1, 0, none⟩ = some (.int .i64 4) := HX.out.cell 0
      have x1 : wr.cell? ⟨G + 1, 1, none⟩ = some (.int .u64 0) := HX.out.cell 1
      have x2 : wr.cell? ⟨G + 1, 2, none⟩ = some (str []) := HX.out.cell 2
      have x3 : wr.cell? ⟨G + 1, 3, none⟩ = some (.slice A i c) := HX.out.cell 3
      have x4 : wr.cell? ⟨G + 1, 4, none⟩ = some (.bool true) := HX.out.cell 4
      obtain ⟨c0, c1, c2, c3, c4⟩ := cells5 HB.out
      have f0 := HB.out.frozen 0
      have f1 := HB.out.frozen 1
      have f2 := HB.out.frozen 2
      have f3 := HB.out.frozen 3
      have f4 := HB.out.frozen 4
      clear hW
      go_wp2_with fail
      obtain ⟨d0, d1, d2, d3, d4⟩ := cells5 (set5_blk (t := T.mk 4 0 [] true i ch) (A := A) (c := c) HB.out)
      clear c0 c1 c2 c3 c4 f0 f1 f2 f3 f4 x0 x1 x2 x3 x4 g0 g2 g3
      show bodyPost _ _ _ _ _ (set5 wr w.heap.size (T.mk 4 0 [] true i ch) A c)
      refine bodyPost_ret (v := itemV (T.mk 4 0 [] true i ch) A c) (by simp [results, Tryz.results30, go_sem, d0, d1, d2, d3, d4]) rfl ⟨A, c, rfl, set5_mod HEW.out (Nat.le_refl _), ?_⟩
      have := HW1.out
      exact IsL.weak (fun b hb hq => by have hq2 : G + 2 ≤ b := hq; omega) (T.mk 4 0 [] true i ch) (IsL.mod set5_modb (fun b hq hb hm => by rw [List.mem_singleton] at hm; have hq2 : G + 2 ≤ b := hq; omega) (T.mk 4 0 [] true i ch) (HGW.out.isL (Q := fun b => G + 2 ≤ b) (fun b h => h) (fun b h => h) true))
/-- The item of a right item's bytes. -/
theorem r13_any (t : T) : t.right 8 = true → t.ok → t.bytes.length ≤ 1073741824 → ∀ w, Calls Tryz.prog 30 #[str t.bytes] w (IMade t w) := by
  induction t with
  | nil => intro _ h; exact absurd h T.not_nil
  | mk kind n s op k ch ih =>
    intro hr hok hl w
    have hp := T.right_plain hr
    have hh := T.readH_bytes _ hp hok []
    rw [List.append_nil] at hh
    have hnode : T.node kind n s op k = true := by
      unfold T.plain at hp; rw [Bool.and_eq_true] at hp; exact hp.1
    rcases T.node_kind hnode with rfl | rfl | rfl | rfl
    · have e : s = [] ∧ k = 0 ∧ op = false := by simpa [T.node, and_assoc] using hnode
      obtain ⟨rfl, rfl, rfl⟩ := e
      exact (r13_num _ _ n _ hh w).mono fun e w' h => ⟨none, 0, h.1, h.2, IsL.leaf⟩
    · have e : n = 0 ∧ k = 0 ∧ op = false := by simpa [T.node, and_assoc] using hnode
      obtain ⟨rfl, rfl, rfl⟩ := e
      have eb : (T.mk 2 0 s false 0 ch).bytes = headL 2 s.length ++ s := rfl
      rw [eb] at hh hl ⊢
      have h2 := r13_str _ hl _ 2 _ _ (.inl rfl) hh w
      rw [show (headL (2 : Int).toNat s.length).length = (headL 2 s.length).length from rfl, List.drop_left] at h2
      exact h2.mono fun e w' h => ⟨none, 0, h.1, h.2, IsL.leaf⟩
    · have e : n = 0 ∧ k = 0 ∧ op = false := by simpa [T.node, and_assoc] using hnode
      obtain ⟨rfl, rfl, rfl⟩ := e
      have eb : (T.mk 3 0 s false 0 ch).bytes = headL 3 s.length ++ s := rfl
      rw [eb] at hh hl ⊢
      have h2 := r13_str _ hl _ 3 _ _ (.inr rfl) hh w
      rw [show (headL (3 : Int).toNat s.length).length = (headL 3 s.length).length from rfl, List.drop_left] at h2
      exact h2.mono fun e w' h => ⟨none, 0, h.1, h.2, IsL.leaf⟩
    · have e : n = 0 ∧ s = [] := by
        have : (n = 0 ∧ s = []) ∧ k ≤ 1000 := by simpa [T.node, and_assoc] using hnode
        exact this.1
      obtain ⟨rfl, rfl⟩ := e
      have hk : ∀ i, i < k → (ch i).right 8 = true := by
        have h := hr
        unfold T.right at h
        rw [if_neg (by decide), Bool.and_eq_true, T.all_iff] at h
        exact fun i hi => T.right_up _ 7 (h.2 i hi)
      have hle : ∀ i, i < k → (ch i).bytes.length ≤ 1073741824 := fun i hi => by
        have e := arr_drop (op := op) (ch := ch) hi
        have := congrArg List.length e
        rw [List.length_drop, List.length_append] at this
        have hl2 : (arrB op k ch).length ≤ 1073741824 := hl
        omega
      have IH : ∀ i, i < k → ∀ w, Calls Tryz.prog 30 #[str (ch i).bytes] w (IMade (ch i) w) := fun i hi w => ih i (hk i hi) (hok.2.2.2.2 i hi) (hle i hi) w
      cases op with
      | false => exact r13_arr_false k ch hr hok hl IH w
      | true => exact r13_arr_true k ch hr hok hl IH w
end Go.Proofs.YtblfmokklfhklaaGreatDoor


namespace Go.Proofs.YtblfmokklfhklaaGreatDoor
open Go.RowKit
set_option linter.unusedVariables false
set_option linter.unusedSimpArgs false

theorem catA_congr {f g : Nat → List UInt8} {k : Nat} (h : ∀ i, i < k → f i = g i) : T.cat f k = T.cat g k := by
  induction k with
  | zero => rfl
  | succ j ih => rw [T.cat, T.cat, ih (fun i hi => h i (by omega)), h j (by omega)]
theorem all_congr {f g : Nat → Bool} {k : Nat} (h : ∀ i, i < k → f i = g i) : T.all f k = T.all g k := by
  induction k with
  | zero => rfl
  | succ j ih => rw [T.all, T.all, ih (fun i hi => h i (by omega)), h j (by omega)]
theorem sum_mono {f g : Nat → Nat} {k : Nat} (h : ∀ i, i < k → f i ≤ g i) : T.sum f k ≤ T.sum g k := by
  induction k with
  | zero => exact Nat.le_refl _
  | succ j ih => rw [T.sum, T.sum]; exact Nat.add_le_add (ih (fun i hi => h i (by omega))) (h j (by omega))
theorem kid_k {t : T} {d : Nat} (h : t.right d = true) : t.k ≤ 1000 := by
  cases t with
  | nil => exact Nat.zero_le _
  | mk kd n s op k ch =>
    show k ≤ 1000
    unfold T.right at h
    split at h
    · exact absurd h (by decide)
    · rw [Bool.and_eq_true] at h
      have h := h.1
      unfold T.node at h
      split at h
      · simp at h; omega
      · split at h
        · simp at h; omega
        · split at h
          · simp at h; omega
          · exact absurd h (by decide)
theorem kid_right {t : T} {d : Nat} (h : t.right (d + 1) = true) {i : Nat} (hi : i < t.k) : (t.ch i).right d = true := by
  cases t with
  | nil => simp [T.right] at h
  | mk kd n s op k ch =>
    unfold T.right at h
    rw [if_neg (by omega), Bool.and_eq_true, T.all_iff] at h
    exact h.2 i hi
theorem right_of_same (x : T) : ∀ {u : T} {d : Nat}, x.right d = true → x.same u = true → u.ok → u.right d = true := by
  induction x with
  | nil => intro u d h; cases h
  | mk kind n s op k ch ih =>
    intro u d h hs hu
    obtain ⟨h1, h2, h3, h4, h5, h6⟩ := same_mk hs
    cases u with
    | nil => exact absurd hu T.not_nil
    | mk kind' n' s' op' k' ch' =>
      have h1 : kind' = kind := h1
      have h2 : n' = n := h2
      have h3 : s' = s := h3
      have h4 : op' = op := h4
      have h5 : k' = k := h5
      subst h1 h2 h3 h4 h5
      unfold T.right at h ⊢
      split at h
      · exact absurd h (by decide)
      · rename_i hd
        rw [if_neg hd]
        rw [Bool.and_eq_true, T.all_iff] at h ⊢
        exact ⟨h.1, fun i hi => ih i (h.2 i hi) (h6 i hi) (by unfold T.ok at hu; exact hu.2.2.2.2 i hi)⟩
theorem kid_n {t : T} (h : t.ok) : t.n < 18446744073709551616 := by
  cases t with
  | nil => decide
  | mk kd n s op k ch => unfold T.ok at h; exact h.2.1
theorem kid_sz {t : T} (h : t.ok) : 1 ≤ t.size := by
  cases t with
  | nil => exact absurd h T.not_nil
  | mk kd n s op k ch => unfold T.size; omega
theorem kid_size {t : T} {i : Nat} (h : i < t.k) : (t.ch i).size ≤ t.size := by
  cases t with
  | nil => exact absurd h (Nat.not_lt_zero _)
  | mk kd n s op k ch => exact T.size_ch h
theorem same_five {x y : T} (h : x.same y = true) : x.kind = y.kind ∧ x.n = y.n ∧ x.s = y.s ∧ x.op = y.op ∧ x.k = y.k ∧ ∀ i, i < x.k → (x.ch i).same (y.ch i) = true := by
  cases x with
  | nil =>
    cases y with
    | nil => exact ⟨rfl, rfl, rfl, rfl, rfl, fun i hi => absurd hi (Nat.not_lt_zero _)⟩
    | mk => cases h
  | mk kind n s op k ch =>
    obtain ⟨h1, h2, h3, h4, h5, h6⟩ := same_mk h
    exact ⟨h1.symm, h2.symm, h3.symm, h4.symm, h5.symm, h6⟩

/-! Two lists, two texts, alike as far as they go. -/
structure PL.Eqv (p q : PL) : Prop where
  k : p.k = q.k
  i : ∀ i, i < p.k → (p.a i).id = (q.a i).id ∧ (p.a i).t.same (q.a i).t = true ∧ (q.a i).t.ok ∧ (q.a i).t.right 8 = true
structure AV.Eqv (a b : AV) : Prop where
  tk : a.tk = b.tk
  tg : ∀ i, i < a.tk → a.tg i = b.tg i
  ctx : a.ctx = b.ctx
  src : a.src = b.src
  ps : a.ps.Eqv b.ps
  rk : a.rk = b.rk
  rs : ∀ i, i < a.rk → (a.rs i).Eqv (b.rs i)
theorem unlikeB_congr {f g : Nat → Int} {k : Nat} (h : ∀ i, i < k → f i = g i) : unlikeB f k = unlikeB g k := by
  unfold unlikeB
  refine all_congr fun i hi => ?_
  rw [h i hi]
  congr 1
  exact all_congr fun j hj => by rw [h j (by omega)]
theorem PL.Eqv.pairs {p q : PL} (h : p.Eqv q) (hp : pairsB p = true) : pairsB q = true := by
  obtain ⟨h1, h2⟩ := pairsB_iff.1 hp
  refine pairsB_iff.2 ⟨fun i hi => ?_, ?_⟩
  · have hi : i < p.k := by rw [h.k]; exact hi
    have g := h1 i hi
    obtain ⟨_, e2, _, e4⟩ := h.i i hi
    unfold valB at g ⊢
    rw [← (same_five e2).1, e4, Bool.and_true]
    rw [Bool.and_eq_true] at g
    exact g.1
  · rw [← h.k, ← unlikeB_congr (f := fun i => (p.a i).id) (fun i hi => (h.i i hi).1)]
    exact h2
theorem PL.Eqv.bytes {p q : PL} (h : p.Eqv q) : (plT p).bytes = (plT q).bytes := by
  rw [pl_bytes, pl_bytes]
  unfold catP
  rw [← h.k]
  congr 1
  exact catA_congr fun i hi => by
    obtain ⟨e1, e2, e3, _⟩ := h.i i hi
    rw [pair_bytes, pair_bytes, e1, T.same_bytes _ _ e3 e2]
theorem AV.Eqv.shaped {a b : AV} (h : a.Eqv b) (hs : a.shaped = true) : b.shaped = true := by
  obtain ⟨h1, h3, h4, h5, h6, h7, h8, h9⟩ := AV.shaped_iff.1 hs
  refine AV.shaped_iff.2 ⟨by rw [← h.tk]; exact h1, ?_, by rw [← h.ctx]; exact h4, by rw [← h.src]; exact h5, by rw [← h.ps.k]; exact h6, h.ps.pairs h7, by rw [← h.tk, ← h.rk]; exact h8, ?_⟩
  · rw [← h.tk, ← unlikeB_congr h.tg]; exact h3
  · rw [← h.rk, T.all_iff]
    intro i hi
    obtain ⟨g1, g2⟩ := resB_iff.1 (T.all_iff.1 h9 i hi)
    exact resB_iff.2 ⟨by rw [← (h.rs i hi).k]; exact g1, (h.rs i hi).pairs g2⟩
theorem AV.Eqv.bytes {a b : AV} (h : a.Eqv b) (hk : a.rk = a.tk) : a.bytes = b.bytes := by
  rw [av_bytes hk, av_bytes (by rw [← h.rk, ← h.tk]; exact hk)]
  unfold catR15
  have e1 : preR a = preR b := by
    unfold preR catT midB
    rw [← h.tk, ← h.ctx, ← h.src, ← h.ps.k, ← h.ps.bytes, catA_congr (fun i hi => by rw [h.tg i hi])]
  rw [e1, ← h.rk]
  congr 1
  exact catA_congr fun i hi => (h.rs i hi).bytes
theorem AV.Eqv.val {a b : AV} (h : a.Eqv b) (m : AA) : asbV a m = asbV b m := by
  unfold asbV asbC
  rw [h.tk, h.ctx, h.src, h.ps.k, h.rk]
theorem IsL.same {w : World} {Q : Nat → Prop} (u : T) : ∀ {t : T} {A : Option Addr}, u.same t = true → IsL w Q t A → IsL w Q u A := by
  induction u with
  | nil =>
    intro t A h H
    cases t with
    | nil => exact H
    | mk => cases h
  | mk kind n s op k ch ih =>
    intro t A h H
    obtain ⟨h1, h2, h3, h4, h5, h6⟩ := same_mk h
    cases t with
    | nil => exact absurd H id
    | mk kind' n' s' op' k' ch' =>
      intro h0
      have h5 : k' = k := h5
      obtain ⟨b, o, hA, hb, hq, hc⟩ := H (by omega)
      refine ⟨b, o, hA, hb, hq, fun i hi => ?_⟩
      obtain ⟨Ai, ci, g1, g2⟩ := hc i (by omega)
      have e := same_five (h6 i hi)
      refine ⟨Ai, ci, ?_, ih i (h6 i hi) g2⟩
      unfold At5
      rw [e.1, e.2.1, e.2.2.1, e.2.2.2.1, e.2.2.2.2.1]
      exact g1
theorem PsL.eqv {w : World} {Q : Nat → Prop} {p q : PL} (h : p.Eqv q) {A : Option Addr} (H : PsL w Q A q) : PsL w Q A p := fun h0 => by
  obtain ⟨b, o, hA, hb, hq, hc⟩ := H (by rw [← h.k]; exact h0)
  refine ⟨b, o, hA, hb, hq, fun i hi => ?_⟩
  obtain ⟨Ai, ci, g1, g2⟩ := hc i (by rw [← h.k]; exact hi)
  obtain ⟨e1, e2, _, _⟩ := h.i i hi
  have e := same_five e2
  refine ⟨Ai, ci, ?_, IsL.same _ e2 g2⟩
  unfold At6
  rw [e1, e.1, e.2.1, e.2.2.1, e.2.2.2.1, e.2.2.2.2.1]
  exact g1
theorem AsL.wk {w : World} {Q R : Nat → Prop} {a : AV} {m : AA} (h : AsL w Q a m) (hq : ∀ k, k < w.heap.size → Q k → R k) : AsL w R a m :=
  ⟨h.t, fun b o hA h0 => by
    obtain ⟨b', o', hA', hb, _⟩ := h.t h0
    rw [hA] at hA'; cases hA'
    exact hq _ hb (h.tq b o hA h0), h.p.weak hq, h.r.weak hq⟩
theorem AsL.eqv {w : World} {Q : Nat → Prop} {a b : AV} (h : a.Eqv b) {m : AA} (H : AsL w Q b m) : AsL w Q a m := by
  refine ⟨fun h0 => ?_, fun b o hA h0 => H.tq b o hA (by rw [← h.tk]; exact h0), PsL.eqv h.ps H.p, fun h0 => ?_⟩
  · obtain ⟨b', o, hA, hb, hc⟩ := H.t (by rw [← h.tk]; exact h0)
    exact ⟨b', o, hA, hb, fun i hi => by rw [h.tg i hi]; exact hc i (by rw [← h.tk]; exact hi)⟩
  · obtain ⟨b', o, hA, hb, hq, hc⟩ := H.r (by rw [← h.rk]; exact h0)
    refine ⟨b', o, hA, hb, hq, fun i hi => ?_⟩
    obtain ⟨Ai, ci, g1, g2, g3⟩ := hc i (by rw [← h.rk]; exact hi)
    exact ⟨Ai, ci, by rw [(h.rs i hi).k]; exact g1, by rw [(h.rs i hi).k]; exact g2, PsL.eqv (h.rs i hi) g3⟩

/-! What is read of items. -/
theorem listT_kids {L : List T} {u : T} (h : (listT L).same u = true) : u.k = L.length ∧ ∀ (i : Nat) (x : T), L[i]? = some x → x.same (u.ch i) = true := by
  obtain ⟨h1, h2, h3, h4, h5, h6⟩ := same_mk h
  refine ⟨h5, fun i x hx => ?_⟩
  have hi : i < L.length := by
    rcases Nat.lt_or_ge i L.length with h | h
    · exact h
    · rw [List.getElem?_eq_none h] at hx; exact absurd hx (by simp)
  have := h6 i hi
  rw [hx] at this
  exact this
theorem min_id {n : Nat} {x : Int} (h0 : 0 ≤ x ∧ x ≤ 65535) (h : n = x.toNat) : min (n : Int) 65536 = x := by omega
theorem pl_read {p : PL} (hp : pairsB p = true) {u : T} (h : (plT p).same u = true) (hok : u.ok) : T.all (pairK u) u.k = true ∧ T.all (fun i => decide ((u.ch i).k = 2)) u.k = true ∧ p.Eqv ⟨u.k, pairP u⟩ := by
  obtain ⟨v1, v2⟩ := pairsB_iff.1 hp
  have v3 := unlikeB_coded v2
  obtain ⟨_, _, _, _, h5, h6⟩ := same_mk h
  have hk : ∀ i, i < u.k → (u.ch i).k = 2 ∧ ((u.ch i).ch 0).kind = 0 ∧ ((u.ch i).ch 0).n = (p.a i).id.toNat ∧ (p.a i).t.same ((u.ch i).ch 1) = true := fun i hi => by
    have g := listT_kids (h6 i (by omega))
    have g0 := same_five (g.2 0 _ rfl)
    exact ⟨g.1, g0.1.symm, g0.2.1.symm, g.2 1 _ rfl⟩
  refine ⟨T.all_iff.2 fun i hi => ?_, T.all_iff.2 fun i hi => ?_, h5.symm, fun i hi => ?_⟩
  · obtain ⟨g1, g2, _⟩ := hk i hi
    unfold pairK; rw [decide_eq_true g1, decide_eq_true g2]; rfl
  · exact decide_eq_true (hk i hi).1
  · have hi' : i < u.k := by omega
    obtain ⟨g1, _, g3, g4⟩ := hk i hi'
    refine ⟨(min_id (v3 i hi) g3).symm, g4, T.okc (T.okc hok hi') (by omega), right_of_same _ (valB_right (v1 i hi)) g4 (T.okc (T.okc hok hi') (by omega))⟩
/-- The reference's pairs, its text. -/
def r15P (u : T) : PL := if T.all (fun i => decide ((u.ch i).k = 2)) u.k then ⟨u.k, pairP u⟩ else ⟨0, pairP u⟩
def r15A (t : T) : AV := ⟨(t.ch 0).k, tgtN (t.ch 0), min ((t.ch 1).n : Int) 65536, readE (t.ch 3), if t.k = 6 then r15P (t.ch 4) else zeroA.ps, (t.ch (t.k - 1)).k, fun i => r15P ((t.ch (t.k - 1)).ch i)⟩
/-- A right text of these bytes. -/
def isAsb (s : List UInt8) (a : AV) : Prop := a.wf ∧ a.right = true ∧ a.bytes = s
theorem tg_read {k : Nat} {f : Nat → Int} (h3 : unlikeB f k = true) {u : T} (h : (tgT k f).same u = true) : u.k = k ∧ T.all (numK u) u.k = true ∧ ∀ i, i < k → f i = tgtN u i := by
  obtain ⟨_, _, _, _, h5, h6⟩ := same_mk h
  refine ⟨h5, T.all_iff.2 fun i hi => ?_, fun i hi => ?_⟩
  · have g := same_five (h6 i (by omega))
    exact decide_eq_true g.1.symm
  · have g := same_five (h6 i hi)
    exact (min_id (unlikeB_coded h3 i hi) g.2.1.symm).symm
theorem rs_read {k : Nat} {f : Nat → PL} (h : T.all (fun i => resB (f i)) k = true) {u : T} (hs : (rsT k f).same u = true) (hok : u.ok) : u.k = k ∧ T.all (resK u) u.k = true ∧ ∀ i, i < k → (f i).Eqv (resP u i) ∧ (f i).Eqv (r15P (u.ch i)) := by
  obtain ⟨_, _, _, _, h5, h6⟩ := same_mk hs
  have hh : ∀ i, i < u.k → T.all (pairK (u.ch i)) (u.ch i).k = true ∧ T.all (fun j => decide (((u.ch i).ch j).k = 2)) (u.ch i).k = true ∧ (f i).Eqv ⟨(u.ch i).k, pairP (u.ch i)⟩ := fun i hi =>
    pl_read (resB_iff.1 (T.all_iff.1 h i (by omega))).2 (h6 i (by omega)) (T.okc hok hi)
  refine ⟨h5, T.all_iff.2 fun i hi => (hh i hi).1, fun i hi => ?_⟩
  have g := hh i (by omega)
  refine ⟨g.2.2, ?_⟩
  unfold r15P
  rw [g.2.1]
  exact g.2.2
set_option maxRecDepth 20000 in
theorem rd_of {a : AV} (hs : a.shaped = true) {t : T} (hc : ∀ i, i < t.k → (t.ch i).ok ∧ (t.ch i).right 8 = true) (hk : t.k = a.items.length) (hx : ∀ (i : Nat) (x : T), a.items[i]? = some x → x.same (t.ch i) = true) : rdOK t = true ∧ a.Eqv (rdA t) ∧ a.Eqv (r15A t) := by
  obtain ⟨h1, h3, h4, h5, h6, h7, h8, h9⟩ := AV.shaped_iff.1 hs
  have hct := codedB_iff.1 h4
  have hname : ∀ u : T, u.ok → u.right 8 = true → (eidT a.src).same u = true → readE u = a.src ∧ ofB u = true := fun u hok hr hsm => prev_tree hr hok ⟨h5, T.same_bytes _ _ hok hsm⟩
  have hres : ∀ u : T, u.ok → u.right 8 = true → (rsT a.rk a.rs).same u = true → u.k = a.rk ∧ T.all (resK u) u.k = true ∧ ∀ i, i < a.rk → (a.rs i).Eqv (resP u i) ∧ (a.rs i).Eqv (r15P (u.ch i)) := fun u hok hr hsm => rs_read h9 hsm hok
  by_cases hp : a.ps.k = 0
  · have hI : a.items = [tgT a.tk a.tg, numT a.ctx.toNat, numT 0, eidT a.src, rsT a.rk a.rs] := by unfold AV.items; rw [if_pos hp]
    rw [hI] at hk hx
    have hk : t.k = 5 := hk
    obtain ⟨k0, n0, f0⟩ := tg_read h3 (hx 0 _ rfl)
    have n1 := same_five (hx 1 _ rfl)
    have hk1 : (t.ch 1).kind = 0 := n1.1.symm
    have c3 := hc 3 (by omega)
    have c4 := hc 4 (by omega)
    obtain ⟨e3, o3⟩ := hname _ c3.1 c3.2 (hx 3 _ rfl)
    obtain ⟨k4, r4, f4⟩ := hres _ c4.1 c4.2 (hx 4 _ rfl)
    have hn6 : ¬ t.k = 6 := by omega
    have hctx : a.ctx = min ((t.ch 1).n : Int) 65536 := (min_id hct n1.2.1.symm).symm
    have hps : a.ps.Eqv zeroA.ps := ⟨hp, fun i hi => by omega⟩
    have hl : t.k - 1 = 4 := by omega
    refine ⟨?_, ?_, ?_⟩
    · unfold rdOK
      rw [hl, n0, o3, r4, decide_eq_true hk, decide_eq_true hk1]
      simp
    · refine ⟨k0.symm, f0, hctx, e3.symm, ?_, ?_, ?_⟩
      · show a.ps.Eqv (if t.k = 6 then _ else _)
        rw [if_neg hn6]; exact hps
      · show a.rk = (t.ch (t.k - 1)).k
        rw [hl]; exact k4.symm
      · show ∀ i, i < a.rk → (a.rs i).Eqv (resP (t.ch (t.k - 1)) i)
        rw [hl]; exact fun i hi => (f4 i hi).1
    · refine ⟨k0.symm, f0, hctx, e3.symm, ?_, ?_, ?_⟩
      · show a.ps.Eqv (if t.k = 6 then _ else _)
        rw [if_neg hn6]; exact hps
      · show a.rk = (t.ch (t.k - 1)).k
        rw [hl]; exact k4.symm
      · show ∀ i, i < a.rk → (a.rs i).Eqv (r15P ((t.ch (t.k - 1)).ch i))
        rw [hl]; exact fun i hi => (f4 i hi).2
  · have hI : a.items = [tgT a.tk a.tg, numT a.ctx.toNat, numT 1, eidT a.src, plT a.ps, rsT a.rk a.rs] := by unfold AV.items; rw [if_neg hp]
    rw [hI] at hk hx
    have hk : t.k = 6 := hk
    obtain ⟨k0, n0, f0⟩ := tg_read h3 (hx 0 _ rfl)
    have n1 := same_five (hx 1 _ rfl)
    have hk1 : (t.ch 1).kind = 0 := n1.1.symm
    have c3 := hc 3 (by omega)
    have c4 := hc 4 (by omega)
    have c5 := hc 5 (by omega)
    obtain ⟨e3, o3⟩ := hname _ c3.1 c3.2 (hx 3 _ rfl)
    obtain ⟨p4, q4, f4⟩ := pl_read h7 (hx 4 _ rfl) c4.1
    obtain ⟨k5, r5, f5⟩ := hres _ c5.1 c5.2 (hx 5 _ rfl)
    have hctx : a.ctx = min ((t.ch 1).n : Int) 65536 := (min_id hct n1.2.1.symm).symm
    have hl : t.k - 1 = 5 := by omega
    refine ⟨?_, ?_, ?_⟩
    · unfold rdOK
      rw [hl, n0, o3, r5, p4, decide_eq_true hk, decide_eq_true hk1]
      simp
    · refine ⟨k0.symm, f0, hctx, e3.symm, ?_, ?_, ?_⟩
      · show a.ps.Eqv (if t.k = 6 then _ else _)
        rw [if_pos hk]; exact f4
      · show a.rk = (t.ch (t.k - 1)).k
        rw [hl]; exact k5.symm
      · show ∀ i, i < a.rk → (a.rs i).Eqv (resP (t.ch (t.k - 1)) i)
        rw [hl]; exact fun i hi => (f5 i hi).1
    · refine ⟨k0.symm, f0, hctx, e3.symm, ?_, ?_, ?_⟩
      · show a.ps.Eqv (if t.k = 6 then _ else _)
        rw [if_pos hk]
        unfold r15P
        rw [q4]; exact f4
      · show a.rk = (t.ch (t.k - 1)).k
        rw [hl]; exact k5.symm
      · show ∀ i, i < a.rk → (a.rs i).Eqv (r15P ((t.ch (t.k - 1)).ch i))
        rw [hl]; exact fun i hi => (f5 i hi).2
/-! Of the text that is read: its numbers; its size. -/
theorem pr_wf {u : T} (hok : u.ok) (hk : u.k ≤ 1000) (h2 : ∀ i, i < u.k → (u.ch i).k = 2) : PL.wf ⟨u.k, pairP u⟩ := by
  refine ⟨by show u.k < _; omega, fun i hi => ⟨?_, ?_⟩⟩
  · exact T.okc (T.okc hok hi) (by rw [h2 i hi]; omega)
  · have := kid_n (T.okc (T.okc hok hi) (i := 0) (by rw [h2 i hi]; omega))
    show -9223372036854775808 ≤ min (((u.ch i).ch 0).n : Int) 65536 ∧ min (((u.ch i).ch 0).n : Int) 65536 ≤ 9223372036854775807
    omega
theorem pr_size {u : T} (hok : u.ok) (h2 : ∀ i, i < u.k → (u.ch i).k = 2) : (plT ⟨u.k, pairP u⟩).size ≤ u.size := by
  have hm : ∀ i, i < u.k → (pairT (pairP u i)).size ≤ (u.ch i).size := fun i hi => by
    have hc := T.okc hok hi
    have h0 := kid_sz (T.okc hc (i := 0) (by rw [h2 i hi]; omega))
    rw [pair_size]
    show 2 + ((u.ch i).ch 1).size ≤ _
    have hk := h2 i hi
    generalize u.ch i = v at *
    cases v with
    | nil => exact absurd hc T.not_nil
    | mk kd n s op k ch =>
      have hk : k = 2 := hk
      subst hk
      have e : (T.mk kd n s op 2 ch).size = 1 + s.length + (0 + (ch 0).size + (ch 1).size) := rfl
      have e1 : (T.mk kd n s op 2 ch).ch 1 = ch 1 := rfl
      have e0 : (T.mk kd n s op 2 ch).ch 0 = ch 0 := rfl
      rw [e0] at h0
      rw [e, e1]
      omega
  cases u with
  | nil => exact absurd hok T.not_nil
  | mk kd n s op k ch =>
    have := sum_mono (k := k) (f := fun i => (pairT (pairP (T.mk kd n s op k ch) i)).size) (g := fun i => (ch i).size) hm
    unfold plT T.size
    show 1 + 0 + T.sum (fun i => (pairT (pairP (T.mk kd n s op k ch) i)).size) k ≤ _
    omega
theorem p15_wf {u : T} (hok : u.ok) (hk : u.k ≤ 1000) : (r15P u).wf := by
  unfold r15P
  split
  · rename_i h
    exact pr_wf hok hk fun i hi => by simpa using T.all_iff.1 h i hi
  · exact ⟨by show 0 < _; omega, fun i hi => absurd hi (Nat.not_lt_zero _)⟩
theorem p15_size {u : T} (hok : u.ok) : (plT (r15P u)).size ≤ u.size := by
  unfold r15P
  split
  · rename_i h
    exact pr_size hok fun i hi => by simpa using T.all_iff.1 h i hi
  · have := kid_sz hok
    exact this
theorem rs_size {u : T} (hok : u.ok) {f : Nat → PL} (h : ∀ i, i < u.k → (plT (f i)).size ≤ (u.ch i).size) : (rsT u.k f).size ≤ u.size := by
  cases u with
  | nil => exact absurd hok T.not_nil
  | mk kd n s op k ch =>
    have := sum_mono (k := k) (f := fun i => (plT (f i)).size) (g := fun i => (ch i).size) h
    unfold rsT T.size
    show 1 + 0 + T.sum (fun i => (plT (f i)).size) k ≤ _
    omega
theorem pairK_two {u : T} (h : T.all (pairK u) u.k = true) : ∀ i, i < u.k → (u.ch i).k = 2 := fun i hi => by
  have := T.all_iff.1 h i hi
  unfold pairK at this
  simp at this
  exact this.1
structure Kids (t : T) : Prop where
  k : t.k = 5 ∨ t.k = 6
  o : ∀ i, i < t.k → (t.ch i).ok
  r : ∀ i, i < t.k → (t.ch i).right 8 = true
  s : ∀ i, i < t.k → (t.ch i).size ≤ 100000
theorem Kids.name {t : T} (h : Kids t) (hb : ofB (t.ch 3) = true) : (readE (t.ch 3)).name.length < 4611686018427387904 := by
  unfold ofB at hb
  rw [Bool.and_eq_true] at hb
  rcases EV.ok_cases hb.1 with e | ⟨name, e, _, hl⟩ | ⟨node, svc, e, _, _⟩
  · rw [e]; decide
  · rw [e]; show name.length < _; omega
  · rw [e]; show 0 < _; omega
theorem Kids.wf0 {t : T} (h : Kids t) (hb : ofB (t.ch 3) = true) {a : AV} (htk : a.tk = (t.ch 0).k) (htg : a.tg = tgtN (t.ch 0)) (hctx : a.ctx = min ((t.ch 1).n : Int) 65536) (hsrc : a.src = readE (t.ch 3)) (hps : a.ps.wf) (hrk : a.rk = (t.ch (t.k - 1)).k) (hrs : ∀ i, i < a.rk → (a.rs i).wf) : a.wf := by
  have hk := h.k
  have k0 := kid_k (h.r 0 (by omega))
  have kl := kid_k (h.r (t.k - 1) (by omega))
  have n1 := kid_n (h.o 1 (by omega))
  refine ⟨⟨by omega, fun i hi => ?_⟩, by omega, by rw [hsrc]; exact h.name hb, hps, by omega, hrs⟩
  have := kid_n (T.okc (h.o 0 (by omega)) (i := i) (by omega))
  rw [htg]
  show -9223372036854775808 ≤ min (((t.ch 0).ch i).n : Int) 65536 ∧ min (((t.ch 0).ch i).n : Int) 65536 ≤ 9223372036854775807
  omega
theorem Kids.kk {t : T} (h : Kids t) {i j : Nat} (hi : i < t.k) (hj : j < (t.ch i).k) : ((t.ch i).ch j).k ≤ 1000 := kid_k (kid_right (d := 7) (h.r i hi) hj)
theorem Kids.wf15 {t : T} (h : Kids t) (hb : ofB (t.ch 3) = true) : (r15A t).wf := by
  have hk := h.k
  refine h.wf0 hb rfl rfl rfl rfl ?_ rfl fun i hi => ?_
  · show PL.wf (if t.k = 6 then _ else _)
    split
    · exact p15_wf (h.o 4 (by omega)) (kid_k (h.r 4 (by omega)))
    · exact ⟨by decide, fun i hi => absurd hi (Nat.not_lt_zero _)⟩
  · have hi : i < (t.ch (t.k - 1)).k := hi
    exact p15_wf (T.okc (h.o (t.k - 1) (by omega)) hi) (h.kk (by omega) hi)
theorem Kids.small15 {t : T} (h : Kids t) : (r15A t).small := by
  have hk := h.k
  constructor
  · show (plT (if t.k = 6 then _ else _)).size ≤ _
    split
    · exact Nat.le_trans (p15_size (h.o 4 (by omega))) (h.s 4 (by omega))
    · decide
  · exact Nat.le_trans (rs_size (h.o (t.k - 1) (by omega)) fun i hi => p15_size (T.okc (h.o (t.k - 1) (by omega)) hi)) (h.s _ (by omega))
theorem rdOK_iff {t : T} (h : rdOK t = true) : (t.k = 5 ∨ t.k = 6) ∧ ofB (t.ch 3) = true ∧ (t.k = 6 → T.all (pairK (t.ch 4)) (t.ch 4).k = true) ∧ T.all (resK (t.ch (t.k - 1))) (t.ch (t.k - 1)).k = true := by
  unfold rdOK at h
  simp only [Bool.and_eq_true, Bool.or_eq_true, decide_eq_true_eq] at h
  obtain ⟨⟨⟨⟨⟨h1, h2⟩, h3⟩, h4⟩, h5⟩, h6⟩ := h
  exact ⟨h1, h4, fun g => h5.resolve_left (by omega), h6⟩
theorem Kids.wf {t : T} (h : Kids t) (hb : rdOK t = true) : (rdA t).wf := by
  have hk := h.k
  obtain ⟨_, h2, h3, h4⟩ := rdOK_iff hb
  refine h.wf0 h2 rfl rfl rfl rfl ?_ rfl fun i hi => ?_
  · show PL.wf (if t.k = 6 then _ else _)
    split
    · rename_i h6
      exact pr_wf (h.o 4 (by omega)) (kid_k (h.r 4 (by omega))) (pairK_two (h3 h6))
    · exact ⟨by decide, fun i hi => absurd hi (Nat.not_lt_zero _)⟩
  · have hi : i < (t.ch (t.k - 1)).k := hi
    exact pr_wf (T.okc (h.o (t.k - 1) (by omega)) hi) (h.kk (by omega) hi) (pairK_two (T.all_iff.1 h4 i hi))
theorem Kids.small {t : T} (h : Kids t) (hb : rdOK t = true) : (rdA t).small := by
  have hk := h.k
  obtain ⟨_, h2, h3, h4⟩ := rdOK_iff hb
  constructor
  · show (plT (if t.k = 6 then _ else _)).size ≤ _
    split
    · rename_i h6
      exact Nat.le_trans (pr_size (h.o 4 (by omega)) (pairK_two (h3 h6))) (h.s 4 (by omega))
    · decide
  · exact Nat.le_trans (rs_size (h.o (t.k - 1) (by omega)) fun i hi => pr_size (T.okc (h.o (t.k - 1) (by omega)) hi) (pairK_two (T.all_iff.1 h4 i hi))) (h.s _ (by omega))

/-! The items between the bytes that open and close them. -/
def wrapT (L : List T) : T := .mk 4 0 [] true L.length fun i => (L[i]?).getD T.nil
theorem cat_list (L : List T) : T.cat (fun i => ((L[i]?).getD T.nil).bytes) L.length = (L.map T.bytes).flatten := by
  have : ∀ j, j ≤ L.length → T.cat (fun i => ((L[i]?).getD T.nil).bytes) j = catL L j := by
    intro j hj
    induction j with
    | zero => rfl
    | succ j ih => rw [T.cat, ih (by omega), catL_succ (by omega)]; rfl
  rw [this _ (Nat.le_refl _)]
  unfold catL
  rw [List.take_length]
theorem wrap_bytes (L : List T) : (wrapT L).bytes = 159 :: ((L.map T.bytes).flatten ++ [255]) := by
  unfold wrapT T.bytes
  rw [if_neg (by decide), if_neg (by decide), cat_list]
  rfl
theorem wrap_ok {L : List T} (h : ∀ t ∈ L, t.ok) (hl : L.length ≤ 1000) : (wrapT L).ok := by
  unfold wrapT T.ok
  refine ⟨by omega, by omega, by simp, by omega, fun i hi => ?_⟩
  show ((L[i]?).getD T.nil).ok
  rw [List.getElem?_eq_getElem hi]
  exact h _ (List.getElem_mem _)
theorem wrap_right {L : List T} {d : Nat} (h : ∀ t ∈ L, t.right d = true) (hl : L.length ≤ 1000) : (wrapT L).right (d + 1) = true := by
  unfold wrapT T.right
  rw [if_neg (by omega), Bool.and_eq_true, T.all_iff]
  refine ⟨by simp [T.node, hl], fun i hi => ?_⟩
  show ((L[i]?).getD T.nil).right d = true
  rw [List.getElem?_eq_getElem hi]
  exact h _ (List.getElem_mem _)
theorem wrap_kids {L : List T} {t : T} (h : (wrapT L).same t = true) : t.k = L.length ∧ ∀ (i : Nat) (x : T), L[i]? = some x → x.same (t.ch i) = true := by
  obtain ⟨h1, h2, h3, h4, h5, h6⟩ := same_mk h
  refine ⟨h5, fun i x hx => ?_⟩
  have hi : i < L.length := by
    rcases Nat.lt_or_ge i L.length with h | h
    · exact h
    · rw [List.getElem?_eq_none h] at hx; exact absurd hx (by simp)
  have := h6 i hi
  rw [hx] at this
  exact this
theorem items_seven {a : AV} (hw : a.wf) (h : a.shaped = true) : (∀ t ∈ a.items, t.ok ∧ t.right 7 = true) ∧ (a.items.length = 5 ∨ a.items.length = 6) := by
  obtain ⟨⟨h1, h2⟩, h3, h4, h5, h6, h7, h8, h9⟩ := AV.shaped_iff.1 h
  obtain ⟨w1, w2, w3, w4, w5, w6⟩ := hw
  have c := codedB_iff.1 h4
  have ntg : (tgT a.tk a.tg).ok ∧ (tgT a.tk a.tg).right 7 = true := ⟨tg_ok (by omega) h3, tg_right (by omega) (by omega) h3⟩
  have nn : ∀ n, n ≤ 65535 → (numT n).ok ∧ (numT n).right 7 = true := fun n hn => by
    have := numT_all n (by omega)
    exact ⟨this.1, this.2.1 7 (by omega)⟩
  have ne : (eidT a.src).ok ∧ (eidT a.src).right 7 = true := by
    have := eidT_ok h5
    exact ⟨this.1, this.2.1 7 (by omega)⟩
  have np : (plT a.ps).ok ∧ (plT a.ps).right 7 = true := ⟨pl_ok w4 h7, pl_right (by omega) (by omega) h7⟩
  have nr : (rsT a.rk a.rs).ok ∧ (rsT a.rk a.rs).right 7 = true := ⟨rs_ok (by omega) w6 h9, rs_right (by omega) (by omega) h9⟩
  unfold AV.items
  split
  · refine ⟨fun t ht => ?_, .inl rfl⟩
    simp only [List.mem_cons, List.not_mem_nil, or_false] at ht
    rcases ht with rfl | rfl | rfl | rfl | rfl
    · exact ntg
    · exact nn _ (by omega)
    · exact nn _ (by omega)
    · exact ne
    · exact nr
  · refine ⟨fun t ht => ?_, .inr rfl⟩
    simp only [List.mem_cons, List.not_mem_nil, or_false] at ht
    rcases ht with rfl | rfl | rfl | rfl | rfl | rfl
    · exact ntg
    · exact nn _ (by omega)
    · exact nn _ (by omega)
    · exact ne
    · exact np
    · exact nr
structure Kids0 (t : T) (a : AV) : Prop where
  o : rdOK t = true
  e : a.Eqv (rdA t)
  q : a.Eqv (r15A t)
  s : a.shaped = true
/-- A tree that the wrapped bytes are, and a right text of these bytes: it is what is read. -/
theorem isAsb_tree {s : List UInt8} {a : AV} (h : isAsb s a) {t : T} (hok : t.ok) (hr : t.right 9 = true) (hb : t.bytes = 159 :: (s ++ [255])) : Kids0 t a := by
  obtain ⟨h1, h2, h3⟩ := h
  have hsh : a.shaped = true := by
    unfold AV.right at h2
    rw [Bool.and_eq_true] at h2
    exact h2.1
  obtain ⟨i1, i2⟩ := items_seven h1 hsh
  have wr := wrap_right (fun t ht => (i1 t ht).2) (by omega)
  have hs := bytes_same (T.plain_of wr) (T.plain_of hr) (wrap_ok (fun t ht => (i1 t ht).1) (by omega)) hok (by rw [wrap_bytes, hb, ← h3]; rfl)
  obtain ⟨k1, k2⟩ := wrap_kids hs
  have := rd_of hsh (fun i hi => ⟨T.okc hok hi, kid_right (d := 8) hr hi⟩) k1 k2
  exact ⟨this.1, this.2.1, this.2.2, hsh⟩
end Go.Proofs.YtblfmokklfhklaaGreatDoor


namespace Go.Proofs.YtblfmokklfhklaaGreatDoor
open Go.RowKit Go.Extern.Stop Go.Stop Go.Extern
set_option linter.unusedVariables false
set_option linter.unusedSimpArgs false

theorem isTypeOf (v : Value) (w : World) : (Extern.ReflectliteType.typeOf #[.iface 152 v]).run Tryz.prog w = .ok (.iface 132 (.agg #[.pointer (some ⟨1, 152, none⟩)])) w := by kernel_rfl
def cmpE : Array Value → Sem Value := Extern.ReflectliteType.method fun t => do Extern.Rtype.noPackHeld "Comparable" t; pure (.bool (← typeInfo t).comparable)
theorem isComparable (w : World) : (cmpE #[.agg #[.pointer (some ⟨1, 152, none⟩)]]).run Tryz.prog w = .ok (.bool true) w := by kernel_rfl
theorem isMethodComparable (v : Value) (w : World) : (Go.method 286 132 v "Comparable").run Tryz.prog w = .ok (127, v) w := by kernel_rfl
theorem isComp : (Tryz.prog.info? 152).map (·.comparable) = some true := by kernel_rfl
theorem isSize : (Tryz.prog.info? 176).map (·.size) = some 1 := by kernel_rfl
theorem noIsR (v : Value) (xT : TypeId) (w : World) : (Instr.typeAssert (.iface 118 v) xT 134 true).run Tryz.prog w = .ok (.tuple #[.nilIface, .bool false]) w := run_typeAssert_lacksB Tryz.underlying134 (by kernel_rfl) (by kernel_rfl) v xT w
theorem hasUnwrapR (v : Value) (xT : TypeId) (w : World) : (Instr.typeAssert (.iface 118 v) xT 136 true).run Tryz.prog w = .ok (.tuple #[.iface 118 v, .bool true]) w := run_typeAssert_hasB Tryz.underlying136 (by kernel_rfl) v xT w
theorem methodUnwrap (v : Value) (w : World) : (Go.method 286 118 v "Unwrap").run Tryz.prog w = .ok (123, v) w := by kernel_rfl
/-- What is read, unwrapped. -/
theorem unwrap_any (s : List UInt8) (v : Value) (hv : v.oneCell' = true) (w : World) : Calls Tryz.prog 123 #[.agg #[str s, v]] w (Ret v w) := by
  have HE := hid ((Mod.refl [] w).alloc (.cells #[str s, v] 118))
  have HB := hid (Blk.new w 118 #[str s, v])
  have c1 : (w.alloc (.cells #[str s, v] 118)).cell? ⟨w.heap.size, 1, none⟩ = some v := HB.out.cell 1
  go_enter Tryz.func123, Tryz.ntmps123
  go_wp2_with fail
  go_ret
  exact Ret.mk rfl HE.out
theorem errV_one (eb : Addr) (l : List (List UInt8)) : (errV eb l).oneCell' = true := by
  cases l <;> rfl
set_option maxRecDepth 20000 in
set_option maxHeartbeats 4000000 in
theorem is_any (eb : Addr) (l : List (List UInt8)) (w : World) : Calls Tryz.prog 81 #[errV eb l, .iface 152 (.pointer (some eb)), .bool true] w (Ret (.bool true) w) := by
  obtain ⟨i, hi, hcmp⟩ := Option.map_eq_some_iff.1 isComp
  obtain ⟨j, hj, hjs⟩ := Option.map_eq_some_iff.1 isSize
  have HSM := hid (fun W => run_eql_iface_ptr_same (P := Tryz.prog) W eb Tryz.underlying52 Tryz.underlying152 hi hcmp hj)
  have HTY := hid (fun v W => run_eql_iface_types (P := Tryz.prog) 118 152 v (.pointer (some eb)) Tryz.underlying52 (by decide) W)
  have HL0 : Hid (l.length + 1 ≤ l.length + 1) := hid (Nat.le_refl _)
  have KU := hid (fun s v hv W => unwrap_any s v hv W)
  clear hi hcmp hj hjs i j
  go_enter Tryz.func81, Tryz.ntmps81
  go_upto_region 1 with fail
  go_loopg [0] (l.length + 1) (fun k s0 wr => ∃ l' : List (List UInt8), s0 = errV eb l' ∧ Hid (l'.length + 1 ≤ k ∧ Ext w wr))
  case atStart => exact ⟨l, rfl, (show Hid _ from ⟨Nat.le_refl _, Mod.refl _ _⟩)⟩
  case round =>
    obtain ⟨l', rfl, hS⟩ := hrel
    rename World => wr
    cases l' with
    | nil =>
      have hsm := HSM.out wr
      have hE : errV eb [] = .iface 152 (.pointer (some eb)) := rfl
      rw [hE]
      clear hE
      go_wp2_with fail
      go_ret
      exact Ret.mk rfl hS.out.2
    | cons s l' =>
      have hty := HTY.out (.agg #[str s, errV eb l']) wr
      have KU1 := hid (KU.out s (errV eb l') (errV_one eb l'))
      have hn := noIsR
      have hu := hasUnwrapR
      have hm := methodUnwrap
      obtain ⟨E1, hE1⟩ : ∃ E1, errV eb l' = E1 := ⟨_, rfl⟩
      have HE1 := hid hE1
      have hE : errV eb (s :: l') = .iface 118 (.agg #[str s, E1]) := by rw [← hE1]; rfl
      rw [hE1] at KU1
      rw [hE]
      rw [hE1] at hty
      clear hE hE1
      obtain ⟨tx, vx, hv⟩ : ∃ tx vx, E1 = .iface tx vx := by
        rw [← HE1.out]
        cases l' with
        | nil => exact ⟨_, _, rfl⟩
        | cons s l => exact ⟨_, _, rfl⟩
      subst hv
      go_wp2_with (go_at_call 123; refine (KU1.out _).mono ?_; rintro x w1 ⟨rfl, hb⟩; have HX := hid hb; clear hb)
      go_roundg (l'.length + 1)
      case rel => exact ⟨l', HE1.out.symm, (show Hid _ from ⟨Nat.le_refl _, hS.out.2.trans HX.out⟩)⟩
      case measure => have := hS.out.1; simp at this; omega
theorem errorsIs_any (eb : Addr) (l : List (List UInt8)) (w : World) : Calls Tryz.prog 53 #[errV eb l, .iface 152 (.pointer (some eb))] w (Ret (.bool true) w) := by
  have h8 := @run_callFunc_extern Tryz.prog 80 _ Extern.ReflectliteType.typeOf Tryz.func80 (by kernel_rfl) (by kernel_rfl) (by kernel_rfl) (by kernel_rfl)
  have h32 := @run_callFunc_extern Tryz.prog 127 _ cmpE Tryz.func127 (by kernel_rfl) (by kernel_rfl) (by kernel_rfl) (by kernel_rfl)
  have tT := isTypeOf
  have cT := isComparable
  have mR := isMethodComparable
  have KI := hid (is_any eb l)
  obtain ⟨tx, vx, hv⟩ : ∃ tx vx, errV eb l = .iface tx vx := by
    cases l with
    | nil => exact ⟨_, _, rfl⟩
    | cons s l => exact ⟨_, _, rfl⟩
  rw [hv] at KI ⊢
  clear hv
  go_enter Tryz.func53, Tryz.ntmps53
  go_wp2_with (go_at_call 81; refine (KI.out _).mono ?_; rintro x w1 ⟨rfl, hb⟩; have HX := hid hb; clear hb)
  go_ret
  exact Ret.mk rfl HX.out
theorem errorsIs_nil (eb : Addr) (w : World) : Calls Tryz.prog 53 #[.nilIface, .iface 152 (.pointer (some eb))] w (Ret (.bool false) w) := by
  have hn := run_eql_iface_nil_left (P := Tryz.prog) w 152 (.pointer (some eb)) Tryz.underlying52
  go_enter Tryz.func53, Tryz.ntmps53
  go_wp2_with fail
  go_ret
  exact Ret.mk rfl (Mod.refl _ _)
end Go.Proofs.YtblfmokklfhklaaGreatDoor
