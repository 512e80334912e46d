/-
  The law ItemDeep: its walk.
-/
import Derived.Test.YtmekhofncflhaaaDeepPlain
namespace Go.Proofs.Ytmekhofncflhaaa
open Go.RowKit
set_option linter.unusedVariables false

set_option maxRecDepth 20000 in
set_option maxHeartbeats 1600000 in
theorem itemDeep_walk (n : Nat) (hn : n < 256) (o : Bool) (w : World) :
    Calls Try.prog 10 #[.int .u8 (n : Int), .bool o] w (Ret (.bool true) w) := by
  have n0 : (0 : Int) ≤ (n : Int) := by omega
  have n1 : (n : Int) < 256 := by omega
  go_enter Try.func10, Try.ntmps10
  go_wp2_with fail
  refine (awake2_any _).mono ?_
  rintro e w1 ⟨rfl, hb1⟩
  go_upto_region 4 with fail
  have hk : (n : Int) % 20 = ((n % 20 : Nat) : Int) := by omega
  have hkl : n % 20 < 20 := Nat.mod_lt _ (by omega)
  rw [hk]
  generalize n % 20 = k at *
  have HKL := hid hkl
  have k0 : (0 : Int) ≤ (k : Int) := by omega
  have k1 : (k : Int) < 20 := by omega
  clear hk hkl n0 n1 hn
  go_wp2_with fail
  refine (Num_any 7 _).mono ?_
  rintro e w2 ⟨rfl, hb2⟩
  have HE2 := hid ((hb1.trans hb2).alloc (.cells (itemC (numT 7) none 0) 34))
  have HX2 := hid (Blk.new w2 34 (itemC (numT 7) none 0))
  have HW2 : Hid (w.heap.size ≤ w2.heap.size) := (hb1.trans hb2).size
  clear hb1 hb2
  go_upto_region 6 with fail
  go_wp2_with fail
  generalize w2.heap.size = X at *
  go_loopw [7, 8] (fun s7 s8 wr => ∃ (i : Nat) (A : Option Addr) (c : Nat), i ≤ k ∧ s8 = .int .i64 (i : Int) ∧ s7 = str (nestT o i).bytes ∧ Hid (Ext w wr ∧ Blk wr X 34 (itemC (nestT o i) A c) ∧ IsL wr (fun b => b ≠ X) (nestT o i) A)) (fun _ i _ => k - (intOf i).toNat)
  case atStart => exact ⟨0, none, 0, Nat.zero_le _, rfl, rfl, HE2.out, HX2.out, IsL.leaf⟩
  case round =>
    clear HE2 HX2
    obtain ⟨i, A, c, hi, rfl, rfl, hH⟩ := hrel
    have i0 : (0 : Int) ≤ (i : Int) := by omega
    have HLEN : Hid ((nestT o i).bytes.length ≤ 50) := by have := nest_len o i; have := HKL.out; unfold Hid; omega
    by_cases hlt : i < k
    · have ti : decide (i < k) = true := by simp [hlt]
      have ti2 : decide ((i : Int) < (k : Int)) = true := by simp [hlt]
      have i1 : (i : Int) < 20 := by omega
      obtain ⟨x0, x1, x2, x3, x4⟩ := cells5 hH.out.2.1
      have y0 : (wr.alloc (.cells #[Value.int .i64 (nestT o i).kind, .int .u64 ((nestT o i).n : Int), str (nestT o i).s, .slice A (nestT o i).k c, .bool (nestT o i).op] 34)).cell? ⟨X, 0, none⟩ = some (.int .i64 (nestT o i).kind) := (hH.out.2.1.alloc _).cell 0
      have z0 : (wr.alloc (.cells #[Value.int .i64 (nestT o i).kind, .int .u64 ((nestT o i).n : Int), str (nestT o i).s, .slice A (nestT o i).k c, .bool (nestT o i).op] 34)).frozen? ⟨X, 0, none⟩ = false := (hH.out.2.1.alloc _).frozen 0
      have y1 : (wr.alloc (.cells #[Value.int .i64 (nestT o i).kind, .int .u64 ((nestT o i).n : Int), str (nestT o i).s, .slice A (nestT o i).k c, .bool (nestT o i).op] 34)).cell? ⟨X, 1, none⟩ = some (.int .u64 ((nestT o i).n : Int)) := (hH.out.2.1.alloc _).cell 1
      have z1 : (wr.alloc (.cells #[Value.int .i64 (nestT o i).kind, .int .u64 ((nestT o i).n : Int), str (nestT o i).s, .slice A (nestT o i).k c, .bool (nestT o i).op] 34)).frozen? ⟨X, 1, none⟩ = false := (hH.out.2.1.alloc _).frozen 1
      have y2 : (wr.alloc (.cells #[Value.int .i64 (nestT o i).kind, .int .u64 ((nestT o i).n : Int), str (nestT o i).s, .slice A (nestT o i).k c, .bool (nestT o i).op] 34)).cell? ⟨X, 2, none⟩ = some (str (nestT o i).s) := (hH.out.2.1.alloc _).cell 2
      have z2 : (wr.alloc (.cells #[Value.int .i64 (nestT o i).kind, .int .u64 ((nestT o i).n : Int), str (nestT o i).s, .slice A (nestT o i).k c, .bool (nestT o i).op] 34)).frozen? ⟨X, 2, none⟩ = false := (hH.out.2.1.alloc _).frozen 2
      have y3 : (wr.alloc (.cells #[Value.int .i64 (nestT o i).kind, .int .u64 ((nestT o i).n : Int), str (nestT o i).s, .slice A (nestT o i).k c, .bool (nestT o i).op] 34)).cell? ⟨X, 3, none⟩ = some (.slice A (nestT o i).k c) := (hH.out.2.1.alloc _).cell 3
      have z3 : (wr.alloc (.cells #[Value.int .i64 (nestT o i).kind, .int .u64 ((nestT o i).n : Int), str (nestT o i).s, .slice A (nestT o i).k c, .bool (nestT o i).op] 34)).frozen? ⟨X, 3, none⟩ = false := (hH.out.2.1.alloc _).frozen 3
      have y4 : (wr.alloc (.cells #[Value.int .i64 (nestT o i).kind, .int .u64 ((nestT o i).n : Int), str (nestT o i).s, .slice A (nestT o i).k c, .bool (nestT o i).op] 34)).cell? ⟨X, 4, none⟩ = some (.bool (nestT o i).op) := (hH.out.2.1.alloc _).cell 4
      have z4 : (wr.alloc (.cells #[Value.int .i64 (nestT o i).kind, .int .u64 ((nestT o i).n : Int), str (nestT o i).s, .slice A (nestT o i).k c, .bool (nestT o i).op] 34)).frozen? ⟨X, 4, none⟩ = false := (hH.out.2.1.alloc _).frozen 4
      have f0 := Blk.frozen hH.out.2.1 0
      have f1 := Blk.frozen hH.out.2.1 1
      have f2 := Blk.frozen hH.out.2.1 2
      have f3 := Blk.frozen hH.out.2.1 3
      have f4 := Blk.frozen hH.out.2.1 4
      have HW5 : Hid (Ext w (set5 (wr.alloc (.cells (itemC (nestT o i) A c) 34)) X (nestT o (i + 1)) (some ⟨wr.heap.size, 0, none⟩) 1) ∧
          Blk (set5 (wr.alloc (.cells (itemC (nestT o i) A c) 34)) X (nestT o (i + 1)) (some ⟨wr.heap.size, 0, none⟩) 1) X 34 (itemC (nestT o (i + 1)) (some ⟨wr.heap.size, 0, none⟩) 1) ∧
          IsL (set5 (wr.alloc (.cells (itemC (nestT o i) A c) 34)) X (nestT o (i + 1)) (some ⟨wr.heap.size, 0, none⟩) 1) (fun b => b ≠ X) (nestT o (i + 1)) (some ⟨wr.heap.size, 0, none⟩)) := by
        have hXl := hH.out.2.1.lt
        have hne : wr.heap.size ≠ X := by omega
        have hm : Mod [X] (wr.alloc (.cells (itemC (nestT o i) A c) 34)) (set5 (wr.alloc (.cells (itemC (nestT o i) A c) 34)) X (nestT o (i + 1)) (some ⟨wr.heap.size, 0, none⟩) 1) := set5_modb
        have hB := (Blk.new wr 34 (itemC (nestT o i) A c)).mod hm (by simpa using hne)
        refine ⟨set5_mod (hH.out.1.alloc _) HW2.out, set5_blk (hH.out.2.1.alloc _), fun _ => ⟨wr.heap.size, 0, rfl, hB.lt, hne, fun j hj => ⟨A, c, ?_, ?_⟩⟩⟩
        · obtain rfl : j = 0 := by omega
          exact ⟨hB.cell 0, hB.cell 1, hB.cell 2, hB.cell 3, hB.cell 4⟩
        · exact IsL.mod hm (fun k hq hk hm => by rw [List.mem_singleton] at hm; exact hq hm) _ (IsL.ext hH.out.2.2 ((Mod.refl _ _).alloc _))
      have HNB := hid (nest_bytes o i)
      have HLT := hid hlt
      clear hlt
      cases o
      · have hno : (9223372036854775807 < 1 + (nestT false i).bytes.length) = False := by have := HLEN.out; simp; omega
        go_wp2_with fail
        have hlt := HLT.out
        refine ⟨⟨i + 1, some ⟨wr.heap.size, 0, none⟩, 1, by omega, by simp, ?_, (show Hid _ from HW5.out)⟩, ?_⟩
        · rw [HNB.out]; simp [ByteArray.mk_append_mk]
        · simp only [intOf]; omega
      · have hno : (9223372036854775807 < 1 + (nestT true i).bytes.length) = False := by have := HLEN.out; simp; omega
        have hno2 : (9223372036854775807 < 1 + (nestT true i).bytes.length + 1) = False := by have := HLEN.out; simp; omega
        have hno3 : (9223372036854775807 < (nestT true i).bytes.length + 1 + 1) = False := by have := HLEN.out; simp; omega
        go_wp2_with fail
        have hlt := HLT.out
        refine ⟨⟨i + 1, some ⟨wr.heap.size, 0, none⟩, 1, by omega, by simp, ?_, (show Hid _ from HW5.out)⟩, ?_⟩
        · rw [HNB.out]; simp [ByteArray.mk_append_mk]
        · simp only [intOf]; omega
    · obtain rfl : i = k := by omega
      have ti : decide (i < i) = false := by simp
      clear hlt
      obtain ⟨x0, x1, x2, x3, x4⟩ := cells5 hH.out.2.1
      have HIL : Hid (IsL wr (fun _ => True) (nestT o i) A) := IsL.weak (fun _ _ _ => trivial) _ hH.out.2.2
      have HRT := hid (nest_right o i 8)
      have HL2 : Hid ((nestT o i).bytes.length ≤ 1073741824) := by have := HLEN.out; unfold Hid; omega
      go_wp2_with fail
      refine (iBuild_any (nestT o i) (nest_ok o i) (by rw [nest_size]; have := HKL.out; omega) A c _ HIL.out).mono ?_
      rintro e w3 ⟨rfl, hb3⟩
      have HE3 := hid (hH.out.1.trans hb3)
      clear x0 x1 x2 x3 x4 hb3
      by_cases h8 : i < 8
      · have HR8 : Hid ((nestT o i).right 8 = true) := by unfold Hid; rw [HRT.out]; simp [h8]
        have HBV : Hid (buildV (nestT o i) = .tuple #[str (nestT o i).bytes, .int .i64 0]) := by unfold Hid; rw [buildV, HR8.out]; rfl
        have HP := hid (parseR_bytes HR8.out (nest_ok o i))
        have t8 : decide (i < 8) = true := by simp [h8]
        have t9 : decide ((i : Int) < 8) = true := by simp; omega
        rw [HBV.out]
        clear h8
        generalize (nestT o i).bytes = s at *
        go_upto_region 14 with fail
        go_wp2_with fail
        refine (parse_any s HL2 _).mono ?_
        rintro e w4 ⟨hb4, hPP⟩
        rw [HP.out] at hPP
        obtain ⟨h0, _⟩ | ⟨_, t, B, d, rfl, h1, h2, h3⟩ := hPP
        case inl => exact absurd rfl h0
        have HE4 := hid (HE3.out.trans hb4)
        clear hb4 h1 h2 h3
        go_wp2_with fail
        go_ret
        exact Ret.mk (by simp) (HE4.out.alloc _)
      · have HR8 : Hid ((nestT o i).right 8 = false) := by unfold Hid; rw [HRT.out]; simp [h8]
        have HBV : Hid (buildV (nestT o i) = .tuple #[str [], .int .i64 1]) := by unfold Hid; rw [buildV, HR8.out]; rfl
        have HP := hid (nest_parse o i (by omega))
        have t8 : decide (i < 8) = false := by simp [h8]
        have t9 : decide ((i : Int) < 8) = false := by simp; omega
        rw [HBV.out]
        clear h8
        generalize (nestT o i).bytes = s at *
        go_upto_region 14 with fail
        go_wp2_with fail
        refine (parse_any s HL2 _).mono ?_
        rintro e w4 ⟨hb4, hPP⟩
        rw [HP.out] at hPP
        obtain ⟨_, rfl⟩ | ⟨h0, _⟩ := hPP
        case inr => exact absurd h0 (show ¬ ((3 : Int) = 0) by decide)
        have HE4 := hid (HE3.out.trans hb4)
        clear hb4
        dsimp only
        go_wp2_with fail
        go_ret
        exact Ret.mk (by simp) (HE4.out.alloc _)
end Go.Proofs.Ytmekhofncflhaaa
