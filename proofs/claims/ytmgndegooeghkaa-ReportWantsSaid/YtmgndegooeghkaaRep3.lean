/-
  Reports: Build, awake; what a primary wants.
-/
import Derived.Test.YtmgndegooeghkaaRep2
import Derived.Test.YtmgndegooeghkaaItCode
namespace Go.Proofs.Ytmgndegooeghkaa
open Go.RowKit
set_option linter.unusedVariables false

set_option maxRecDepth 20000 in
set_option maxHeartbeats 1600000 in
theorem repBuild_ipn (gone : Bool) (reason node svc time seq : Nat) (hr : Hid (reason ≤ 65535)) (hn : Hid (node ≤ 4294967295)) (hs : Hid (svc ≤ 4294967295)) (ht : Hid (time ≤ 1099511627776)) (hq : Hid (seq ≤ 1099511627776))
    (hok : Hid ((repT true gone reason node svc time seq).ok ∧ (repT true gone reason node svc time seq).size ≤ 100000)) (w : World) :
    Calls Try.prog 12 #[.agg (repC true gone reason node svc time seq)] w (Ret (buildV (repT true gone reason node svc time seq)) w) := by
  have HB := hid (Blk.new w 33 (repC true gone reason node svc time seq))
  have HE := hid ((Mod.refl [] w).alloc (.cells (repC true gone reason node svc time seq) 33))
  obtain ⟨V, hV⟩ : ∃ V, V = buildV (repT true gone reason node svc time seq) := ⟨_, rfl⟩
  have HV : Hid (∃ s e, V = .tuple #[str s, .int .i64 e]) := by
    unfold Hid; rw [hV]; unfold buildV; split
    · exact ⟨_, _, rfl⟩
    · exact ⟨_, _, rfl⟩
  rw [← hV]
  have HVE := hid hV
  clear hV
  go_enter Try.func12, Try.ntmps12
  go_wp2_with fail
  refine (repRight_ipn gone reason node svc time seq hr.out hn hs ht hq _).mono ?_
  rintro e w1 ⟨rfl, hb1⟩
  have HE1 := hid (HE.out.trans hb1)
  have HB1 := hid (HB.out.ext hb1)
  have c0 : w1.cell? ⟨w.heap.size, 0, none⟩ = some (.bool true) := HB1.out.cell 0
  have c1 : w1.cell? ⟨w.heap.size, 1, none⟩ = some (.bool gone) := HB1.out.cell 1
  have c2 : w1.cell? ⟨w.heap.size, 2, none⟩ = some (.int .i64 (reason : Int)) := HB1.out.cell 2
  have c3 : w1.cell? ⟨w.heap.size, 3, none⟩ = some (.int .i64 2) := HB1.out.cell 3
  have c4 : w1.cell? ⟨w.heap.size, 4, none⟩ = some (str []) := HB1.out.cell 4
  have c5 : w1.cell? ⟨w.heap.size, 5, none⟩ = some (.int .u64 (node : Int)) := HB1.out.cell 5
  have c6 : w1.cell? ⟨w.heap.size, 6, none⟩ = some (.int .u64 (svc : Int)) := HB1.out.cell 6
  have c7 : w1.cell? ⟨w.heap.size, 7, none⟩ = some (.int .u64 (time : Int)) := HB1.out.cell 7
  have c8 : w1.cell? ⟨w.heap.size, 8, none⟩ = some (.int .u64 (seq : Int)) := HB1.out.cell 8
  have c9 : w1.cell? ⟨w.heap.size, 9, none⟩ = some (.bool false) := HB1.out.cell 9
  have c10 : w1.cell? ⟨w.heap.size, 10, none⟩ = some (.int .u64 0) := HB1.out.cell 10
  have c11 : w1.cell? ⟨w.heap.size, 11, none⟩ = some (.int .u64 0) := HB1.out.cell 11
  clear hb1
  go_wp2_with fail
  refine (toItem_ipn true gone reason node svc time seq hr hn hs _).mono ?_
  rintro e w2 ⟨A, rfl, hb2, hl2⟩
  have HE2 := hid (HE1.out.trans hb2)
  have HL2 := hid hl2
  clear c0 c1 c2 c3 c4 c5 c6 c7 c8 c9 c10 c11 hb2 hl2
  go_wp2_with fail
  refine (iBuild_any _ hok.out.1 hok.out.2 A 2 _ HL2.out).mono ?_
  rintro e w3 ⟨rfl, hb3⟩
  rw [← HVE.out]
  have HE3 := hid (HE2.out.trans hb3)
  clear hb3
  have HVE2 := HVE
  obtain ⟨s, E, hV⟩ := HV.out
  subst hV
  go_wp2_with fail
  go_ret2
  exact Ret.mk rfl HE3.out

theorem awake_rep : buildV (repT true false 0 1 0 5 0) = .tuple #[str [130, 1, 132, 130, 1, 0, 0, 130, 2, 130, 1, 0, 130, 5, 0], .int .i64 0] := by
  have h1 : (repT true false 0 1 0 5 0).right 8 = true := by decide
  have h2 : (repT true false 0 1 0 5 0).bytes = [130, 1, 132, 130, 1, 0, 0, 130, 2, 130, 1, 0, 130, 5, 0] := by decide
  rw [buildV, h1, h2]; rfl
theorem num_ok {n : Nat} (h : n < 18446744073709551616) : (numT n).ok := by unfold numT T.ok; exact ⟨by omega, h, by simp, by omega, fun i hi => by omega⟩
theorem pair_ok {a b : Nat} (ha : a < 18446744073709551616) (hb : b < 18446744073709551616) : (pairT a b).ok := by
  unfold pairT T.ok
  exact ⟨by omega, by omega, by simp, by omega, fun i hi => by dsimp only; split; exact num_ok ha; exact num_ok hb⟩
theorem ipn_ok {a b : Nat} (ha : a < 18446744073709551616) (hb : b < 18446744073709551616) : (ipnT a b).ok := by
  unfold ipnT T.ok
  exact ⟨by omega, by omega, by simp, by omega, fun i hi => by dsimp only; split; exact num_ok (by omega); exact pair_ok ha hb⟩
theorem rep_ok (here gone : Bool) {reason node svc time seq : Nat} (hr : reason ≤ 65535) (hn : node ≤ 4294967295) (hs : svc ≤ 4294967295) (ht : time ≤ 1099511627776) (hq : seq ≤ 1099511627776) : (repT here gone reason node svc time seq).ok := by
  have hb : ∀ b : Bool, b.toNat < 18446744073709551616 := fun b => by cases b <;> decide
  have h2 : (bodyT here gone reason node svc time seq).ok := by
    unfold bodyT T.ok
    refine ⟨by omega, by omega, by simp, by omega, fun i hi => ?_⟩
    dsimp only
    split
    · exact pair_ok (hb _) (hb _)
    · split
      · exact num_ok (by omega)
      · split
        · exact ipn_ok (by omega) (by omega)
        · exact pair_ok (by omega) (by omega)
  unfold repT T.ok
  exact ⟨by omega, by omega, by simp, by omega, fun i hi => by dsimp only; split; exact num_ok (by omega); exact h2⟩

set_option maxRecDepth 20000 in
theorem awake25_any (w : World) : Calls Try.prog 6 #[] w (Ret (.bool true) w) := by
  go_enter Try.func6, Try.ntmps6
  go_wp2_with fail
  refine (repBuild_ipn false 0 1 0 5 0 (by unfold Hid; omega) (by unfold Hid; omega) (by unfold Hid; omega) (by unfold Hid; omega) (by unfold Hid; omega) ⟨rep_ok _ _ (by omega) (by omega) (by omega) (by omega) (by omega), by decide⟩ _).mono ?_
  rintro e w1 ⟨rfl, hb1⟩
  rw [awake_rep]
  go_wp2_with fail
  go_ret
  exact Ret.mk rfl hb1
end Go.Proofs.Ytmgndegooeghkaa
