/-
  Parse: the item of bytes, or what is wrong, and where.
-/
import Derived.Test.YtagjhkknefiieaaPs6
namespace Go.Proofs.Ytagjhkknefiieaa
open Go.RowKit
set_option linter.unusedVariables false

/-- Place and error of a whole text. -/
def parseR (l : List UInt8) : Nat × Int := if (flt 8 l).2 = 0 ∧ (flt 8 l).1 < l.length then ((flt 8 l).1, 2) else flt 8 l
def PPost (l : List UInt8) (w : World) (x : Ending) (w' : World) : Prop :=
  Ext w w' ∧ (((parseR l).2 ≠ 0 ∧ x = .returned (.tuple #[itemV nulT none 0, .int .i64 ((parseR l).1 : Int), .int .i64 (parseR l).2])) ∨
    ((parseR l).2 = 0 ∧ ∃ t A c, x = .returned (.tuple #[itemV t A c, .int .i64 (-1), .int .i64 0]) ∧ (t.right 8 = true ∧ t.ok) ∧ t.bytes = l ∧ IsL w' (fun _ => True) t A))

set_option maxRecDepth 20000 in
set_option maxHeartbeats 1600000 in
theorem parse_any (l : List UInt8) (hl : Hid (l.length ≤ 1073741824)) (w : World) : Calls Try.prog 55 #[str l] w (PPost l w) := by
  have hF0 : Hid (flt 8 (l.drop 0) = flt 8 l) := by unfold Hid; rw [List.drop_zero]
  have HP1 : Hid (PAt ((w.alloc (.cells (itemC nulT none 0) 63)).alloc (.cells #[str l, .int .i64 ((0 : Nat) : Int), .int .i64 0] 109)) (w.heap.size + 1) l 0 0) := Blk.newAt _ _ _ (by simp)
  have HB1 : Hid (Blk ((w.alloc (.cells (itemC nulT none 0) 63)).alloc (.cells #[str l, .int .i64 ((0 : Nat) : Int), .int .i64 0] 109)) w.heap.size 63 (itemC nulT none 0)) := (Blk.new _ _ _).alloc _
  have HE1 := hid (((Mod.refl [w.heap.size + 1] w).alloc (.cells (itemC nulT none 0) 63)).alloc (.cells #[str l, .int .i64 ((0 : Nat) : Int), .int .i64 0] 109))
  go_enter Try.func55, Try.ntmps55
  go_upto_region 2 with fail
  go_cut [6] (fun s6 wx => ∃ X t A c, s6 = .pointer (some ⟨X, 0, none⟩) ∧ Hid (Mod [w.heap.size + 1] w wx ∧ PAt wx (w.heap.size + 1) l (flt 8 l).1 (flt 8 l).2 ∧ Blk wx w.heap.size 63 (itemC nulT none 0) ∧ Blk wx X 63 (itemC t A c) ∧ w.heap.size + 1 < X ∧
      ((flt 8 l).2 = 0 → (t.right 8 = true ∧ t.ok) ∧ t.bytes ++ l.drop (flt 8 l).1 = l ∧ IsL wx (fun b => w.heap.size + 2 ≤ b ∧ b ≠ X) t A)))
  case first =>
    go_wp2_with fail
    refine (pitem_any (w.heap.size + 1) l hl.out 8 (by omega) 0 (by omega) _ HP1.out).mono ?_
    rintro x w2 ⟨t, A, c, rfl, hm2, hp2, hs2⟩
    rw [hF0.out] at hp2 hs2
    rw [Nat.zero_add] at hp2 hs2
    rw [List.drop_zero] at hs2
    have HB2 := hid (HB1.out.mod hm2 (by simp))
    have HP2 := hid hp2
    have HS2 := hid hs2
    have HE2 := hid (HE1.out.trans hm2)
    clear hm2 hp2 hs2 HB1 HE1 HP1
    go_wp2_with fail
    go_meet
    refine ⟨w2.heap.size, t, A, c, rfl, HE2.out.alloc _, Blk.alloc HP2.out _, HB2.out.alloc _, Blk.new _ _ _, Blk.lt HP2.out, fun h0 => ⟨(HS2.out h0).1, (HS2.out h0).2.1, ?_⟩⟩
    have h3 := (HS2.out h0).2.2
    exact IsL.ext (IsL.weak (fun k hk hq => ⟨by simpa using hq, by omega⟩) t h3) ((Mod.refl _ _).alloc _)
  obtain ⟨X, t, A, c, rfl, hH⟩ := hcut
  clear HB1 HE1 HP1 hF0
  obtain ⟨E, hE⟩ : ∃ E, E = (flt 8 l).2 := ⟨_, rfl⟩
  obtain ⟨q, hq⟩ : ∃ q, q = (flt 8 l).1 := ⟨_, rfl⟩
  have HPR : Hid (parseR l = if E = 0 ∧ q < l.length then (q, 2) else (q, E)) := by unfold Hid parseR; rw [hE, hq]
  rw [← hE, ← hq] at hH
  have hql : q ≤ l.length := by rw [hq]; exact flt_le 8 l
  have q0 : (0 : Int) ≤ (q : Int) := by omega
  have q1 : (q : Int) ≤ (l.length : Int) := by omega
  have l1 : (l.length : Int) ≤ 1073741824 := by have := hl.out; omega
  have HQL := hid hql
  clear hE hq hql
  have p1 : wc.cell? ⟨w.heap.size + 1, 1, none⟩ = some (.int .i64 (q : Int)) := PAt.at_ hH.out.2.1
  have p2 : wc.cell? ⟨w.heap.size + 1, 2, none⟩ = some (.int .i64 E) := PAt.err hH.out.2.1
  by_cases hE : E = 0
  · subst hE
    by_cases hql : q < l.length
    · have tl : decide (q < l.length) = true := by simp [hql]
      have tl2 : decide ((q : Int) < (l.length : Int)) = true := by simp [hql]
      have HPE := hid HPR.out
      rw [if_pos ⟨rfl, hql⟩] at HPE
      clear hql
      go_upto_region 4 with fail
      go_wp2_with fail
      refine (pfail_any (w.heap.size + 1) l q q 2 _ hH.out.2.1).mono ?_
      rintro x w3 ⟨rfl, hm3, hp3⟩
      have HM3 := hid (hH.out.1.trans hm3)
      have HP3 := hid hp3
      have HB3 := hid (hH.out.2.2.1.mod hm3 (by simp))
      clear hm3 hp3 p1 p2
      have p1 : w3.cell? ⟨w.heap.size + 1, 1, none⟩ = some (.int .i64 (q : Int)) := PAt.at_ HP3.out
      have p2 : w3.cell? ⟨w.heap.size + 1, 2, none⟩ = some (.int .i64 2) := PAt.err HP3.out
      obtain ⟨c0, c1, c2, c3, c4⟩ := cells5 HB3.out
      have f0 := Blk.frozen HB3.out 0
      have f1 := Blk.frozen HB3.out 1
      have f2 := Blk.frozen HB3.out 2
      have f3 := Blk.frozen HB3.out 3
      have f4 := Blk.frozen HB3.out 4
      go_upto_region 6 with fail
      have HW : Hid (Mod [w.heap.size + 1] w (set5 w3 w.heap.size nulT none 0).drew ∧ Blk (set5 w3 w.heap.size nulT none 0).drew w.heap.size 63 (itemC nulT none 0)) := ⟨(set5_mod HM3.out (Nat.le_refl _)).drew, Blk.drew (set5_blk HB3.out)⟩
      go_cut [3, 4] (fun s3 s4 wx => s3 = .int .i64 (q : Int) ∧ s4 = .int .i64 2 ∧ Hid (Mod [w.heap.size + 1] w wx ∧ Blk wx w.heap.size 63 (itemC nulT none 0)))
      case first =>
        go_region
        all_goals go_wp2_with fail
        all_goals go_meet
        all_goals exact ⟨rfl, rfl, HW.out.1, HW.out.2⟩
      clear c0 c1 c2 c3 c4 f0 f1 f2 f3 f4
      obtain ⟨rfl, rfl, hR⟩ := hcut
      obtain ⟨d0, d1, d2, d3, d4⟩ := cells5 hR.out.2
      go_wp2_with fail
      refine bodyPost_ret (v := .tuple #[itemV nulT none 0, .int .i64 (q : Int), .int .i64 2]) (by simp [results, Try.results55, go_sem, d0, d1, d2, d3, d4]) rfl ?_
      refine ⟨Mod.new (S := [w.heap.size + 1]) hR.out.1 (fun k hk => by rw [List.mem_singleton] at hk; subst hk; exact .inr (by omega)), .inl ?_⟩
      rw [HPE.out]
      exact ⟨(show ¬ ((2 : Int) = 0) by decide), rfl⟩
    · have tl : decide (q < l.length) = false := by simp [hql]
      have tl2 : decide ((q : Int) < (l.length : Int)) = false := by simp; omega
      have HPE := hid HPR.out
      rw [if_neg (fun h => hql h.2)] at HPE
      have HQ := hid hql
      clear hql
      obtain ⟨x0, x1, x2, x3, x4⟩ := cells5 hH.out.2.2.2.1
      obtain ⟨c0, c1, c2, c3, c4⟩ := cells5 hH.out.2.2.1
      have f0 := Blk.frozen hH.out.2.2.1 0
      have f1 := Blk.frozen hH.out.2.2.1 1
      have f2 := Blk.frozen hH.out.2.2.1 2
      have f3 := Blk.frozen hH.out.2.2.1 3
      have f4 := Blk.frozen hH.out.2.2.1 4
      go_wp2_with fail
      obtain ⟨d0, d1, d2, d3, d4⟩ := cells5 (set5_blk (t := t) (A := A) (c := c) hH.out.2.2.1)
      clear c0 c1 c2 c3 c4 f0 f1 f2 f3 f4 x0 x1 x2 x3 x4 p1 p2
      show bodyPost _ _ _ _ _ (set5 wc w.heap.size t A c)
      refine bodyPost_ret (v := .tuple #[itemV t A c, .int .i64 (-1), .int .i64 0]) (by simp [results, Try.results55, go_sem, d0, d1, d2, d3, d4]) rfl ?_
      refine ⟨Mod.new (S := [w.heap.size + 1]) (set5_mod hH.out.1 (Nat.le_refl _)) (fun k hk => by rw [List.mem_singleton] at hk; subst hk; exact .inr (by omega)), .inr ?_⟩
      have h1 := hH.out.2.2.2.2.2 (by first | rfl | trivial)
      rw [HPE.out]
      refine ⟨rfl, t, A, c, rfl, h1.1, ?_, ?_⟩
      · have h2 := h1.2.1
        have hqe : q = l.length := by have := HQ.out; have := HQL.out; omega
        rw [hqe, List.drop_length, List.append_nil] at h2
        exact h2
      · exact IsL.weak (fun k hk hq => trivial) t (IsL.mod set5_modb (fun k hq hk hm => by rw [List.mem_singleton] at hm; have := hq.1; omega) t h1.2.2)
  · have te : (E == 0) = false := by simp [hE]
    have te2 : (E = 0) = False := by simp [hE]
    have tn : (E != 0) = true := by simp [hE]
    have HPE := hid HPR.out
    rw [if_neg (fun h => hE h.1)] at HPE
    have HNE := hid hE
    clear hE
    obtain ⟨c0, c1, c2, c3, c4⟩ := cells5 hH.out.2.2.1
    have f0 := Blk.frozen hH.out.2.2.1 0
    have f1 := Blk.frozen hH.out.2.2.1 1
    have f2 := Blk.frozen hH.out.2.2.1 2
    have f3 := Blk.frozen hH.out.2.2.1 3
    have f4 := Blk.frozen hH.out.2.2.1 4
    go_upto_region 6 with fail
    have HW : Hid (Mod [w.heap.size + 1] w (set5 wc w.heap.size nulT none 0).drew ∧ Blk (set5 wc w.heap.size nulT none 0).drew w.heap.size 63 (itemC nulT none 0)) := ⟨(set5_mod hH.out.1 (Nat.le_refl _)).drew, Blk.drew (set5_blk hH.out.2.2.1)⟩
    go_cut [3, 4] (fun s3 s4 wx => s3 = .int .i64 (q : Int) ∧ s4 = .int .i64 E ∧ Hid (Mod [w.heap.size + 1] w wx ∧ Blk wx w.heap.size 63 (itemC nulT none 0)))
    case first =>
      go_region
      all_goals go_wp2_with fail
      all_goals go_meet
      all_goals exact ⟨rfl, rfl, HW.out.1, HW.out.2⟩
    clear c0 c1 c2 c3 c4 f0 f1 f2 f3 f4
    obtain ⟨rfl, rfl, hR⟩ := hcut
    obtain ⟨d0, d1, d2, d3, d4⟩ := cells5 hR.out.2
    go_wp2_with fail
    refine bodyPost_ret (v := .tuple #[itemV nulT none 0, .int .i64 (q : Int), .int .i64 E]) (by simp [results, Try.results55, go_sem, d0, d1, d2, d3, d4]) rfl ?_
    refine ⟨Mod.new (S := [w.heap.size + 1]) hR.out.1 (fun k hk => by rw [List.mem_singleton] at hk; subst hk; exact .inr (by omega)), .inl ?_⟩
    rw [HPE.out]
    exact ⟨HNE.out, rfl⟩
end Go.Proofs.Ytagjhkknefiieaa
