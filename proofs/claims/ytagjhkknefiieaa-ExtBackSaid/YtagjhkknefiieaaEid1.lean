/-
  Names of the scheme 2: Right, Item; None.
-/
import Derived.Test.YtagjhkknefiieaaItMk
import Derived.Test.YtagjhkknefiieaaSet5
namespace Go.Proofs.Ytagjhkknefiieaa
open Go.RowKit
set_option linter.unusedVariables false

/-- A name's value, its cells. -/
abbrev eidC (sch : Int) (name : List UInt8) (node svc : Nat) : Array Value := #[.int .i64 sch, str name, .int .u64 (node : Int), .int .u64 (svc : Int)]
abbrev eidV (sch : Int) (name : List UInt8) (node svc : Nat) : Value := .agg (eidC sch name node svc)

theorem eidNone_any (w : World) : Calls Try.prog 66 #[] w (Ret (eidV 1 [110, 111, 110, 101] 0 0) w) := by
  go_enter Try.func66, Try.ntmps66
  go_wp2
  refine bodyPost_ret (v := eidV 1 [110, 111, 110, 101] 0 0) ?_ rfl (Ret.mk rfl ((Mod.refl _ _).alloc _))
  simp [results, Try.results66, go_sem]

theorem eidRight_ipn (node svc : Nat) (hn : node ≤ 4294967295) (hs : svc ≤ 4294967295) (w : World) : Calls Try.prog 52 #[eidV 2 [] node svc] w (Ret (.bool true) w) := by
  have t1 : decide ((node : Int) ≤ 4294967295) = true := by simp; omega
  have t2 : decide ((svc : Int) ≤ 4294967295) = true := by simp; omega
  clear hn hs
  go_enter Try.func52, Try.ntmps52
  go_wp2
  go_ret
  exact Ret.mk rfl ((Mod.refl _ _).alloc _)

/-- Such a name's item. -/
def ipnT (node svc : Nat) : T := T.mk 4 0 [] false 2 fun i => if i = 0 then numT 2 else T.mk 4 0 [] false 2 fun j => if j = 0 then numT node else numT svc
set_option maxRecDepth 20000 in
set_option maxHeartbeats 1600000 in
theorem eidItem_ipn (node svc : Nat) (hn : Hid (node ≤ 4294967295)) (hs : Hid (svc ≤ 4294967295)) (w : World) : Calls Try.prog 28 #[eidV 2 [] node svc] w (fun e w' => ∃ A, e = .returned (.tuple #[itemV (ipnT node svc) A 2, .int .i64 0]) ∧ Ext w w' ∧ IsL w' (fun b => w.heap.size ≤ b) (ipnT node svc) A) := by
  have HB := hid ((Blk.new w 24 (eidC 2 [] node svc)).alloc (.cells #[.int .i64 0, .int .u64 0, str [], .slice none 0 0, .bool false] 63))
  have HR : Hid (Blk ((w.alloc (.cells (eidC 2 [] node svc) 24)).alloc (.cells #[.int .i64 0, .int .u64 0, str [], .slice none 0 0, .bool false] 63)) (w.heap.size + 1) 63 #[.int .i64 0, .int .u64 0, str [], .slice none 0 0, .bool false]) := by
    have := Blk.new (w.alloc (.cells (eidC 2 [] node svc) 24)) 63 #[.int .i64 0, .int .u64 0, str [], .slice none 0 0, .bool false]
    unfold Hid
    simpa using this
  have HE := hid (((Mod.refl [] w).alloc (.cells (eidC 2 [] node svc) 24)).alloc (.cells #[.int .i64 0, .int .u64 0, str [], .slice none 0 0, .bool false] 63))
  go_enter Try.func28, Try.ntmps28
  go_wp2_with fail
  refine (eidRight_ipn node svc hn.out hs.out _).mono ?_
  rintro e w1 ⟨rfl, hb1⟩
  have HB1 := hid (HB.out.ext hb1)
  have HR1 := hid (HR.out.ext hb1)
  have HE1 := hid (HE.out.trans hb1)
  have x0 : w1.cell? ⟨w.heap.size, 0, none⟩ = some (.int .i64 2) := HB1.out.cell 0
  clear hb1 HB HR HE
  have HS : Hid (∀ W, Ext w1 W → W.cell? ⟨w.heap.size, 2, none⟩ = some (.int .u64 (node : Int)) ∧ W.cell? ⟨w.heap.size, 3, none⟩ = some (.int .u64 (svc : Int))) := fun W hW => ⟨(HB1.out.ext hW).cell 2, (HB1.out.ext hW).cell 3⟩
  have y2 := (HS.out w1 (Mod.refl _ _)).1
  have y3 := (HS.out w1 (Mod.refl _ _)).2
  go_upto_region 4 with fail
  go_region_held3 (fun w' => w'.cell? ⟨w.heap.size, 2, none⟩ = some (.int .u64 (node : Int)) ∧ w'.cell? ⟨w.heap.size, 3, none⟩ = some (.int .u64 (svc : Int))) (go_keep)
    (first
      | (go_at_call 34; refine (NumI_any _ _).mono ?_; rintro x w3 ⟨rfl, hb3⟩; have hx : Ext w1 w3 := (by (with_reducible refine Mod.trans ?_ hb3); (repeat (first | with_reducible assumption | with_reducible exact Mod.refl _ _ | with_reducible refine Mod.drew ?_ | with_reducible refine Mod.alloc ?_ _))); have z := HS.out w3 hx)
      | (go_at_call 36; have hI := hIn; refine (ListV_any 2 _ 2 _).mono ?_; rintro x w5 ⟨rfl, hb5⟩; have hx : Ext w1 w5 := (by (with_reducible refine Mod.trans ?_ hb5); (repeat (first | with_reducible assumption | with_reducible exact Mod.refl _ _ | with_reducible refine Mod.drew ?_ | with_reducible refine Mod.alloc ?_ _))); have z := HS.out w5 hx; have hOut := (Blk.new _ _ _).ext hb5; have hIn2 := (Blk.alloc hIn _).ext hb5; have r0 : w5.cell? ⟨w.heap.size + 1, 0, none⟩ = some (.int .i64 0) := (HR1.out.ext hx).cell 0; have g0 : w5.frozen? ⟨w.heap.size + 1, 0, none⟩ = false := (HR1.out.ext hx).frozen 0; have r1 : w5.cell? ⟨w.heap.size + 1, 1, none⟩ = some (.int .u64 0) := (HR1.out.ext hx).cell 1; have g1 : w5.frozen? ⟨w.heap.size + 1, 1, none⟩ = false := (HR1.out.ext hx).frozen 1; have r2 : w5.cell? ⟨w.heap.size + 1, 2, none⟩ = some (str []) := (HR1.out.ext hx).cell 2; have g2 : w5.frozen? ⟨w.heap.size + 1, 2, none⟩ = false := (HR1.out.ext hx).frozen 2; have r3 : w5.cell? ⟨w.heap.size + 1, 3, none⟩ = some (.slice none 0 0) := (HR1.out.ext hx).cell 3; have g3 : w5.frozen? ⟨w.heap.size + 1, 3, none⟩ = false := (HR1.out.ext hx).frozen 3; have r4 : w5.cell? ⟨w.heap.size + 1, 4, none⟩ = some (.bool false) := (HR1.out.ext hx).cell 4; have g4 : w5.frozen? ⟨w.heap.size + 1, 4, none⟩ = false := (HR1.out.ext hx).frozen 4)
      | (go_at_call 36; refine (ListV_any 2 _ 2 _).mono ?_; rintro x w4 ⟨rfl, hb4⟩; have hx : Ext w1 w4 := (by (with_reducible refine Mod.trans ?_ hb4); (repeat (first | with_reducible assumption | with_reducible exact Mod.refl _ _ | with_reducible refine Mod.drew ?_ | with_reducible refine Mod.alloc ?_ _))); have z := HS.out w4 hx; have hIn := (Blk.new _ _ _).ext hb4))
  have h3 : Ext w1 w3 := by assumption
  have h4 : Ext w1 w4 := by assumption
  have hl : w.heap.size + 1 < w1.heap.size := HR1.out.lt
  have hs3 := h3.size
  have hs4 := h4.size
  have HR5 := hid (HR1.out.ext hx)
  have HFin : Hid (Ext w (set5 w5 (w.heap.size + 1) (ipnT node svc) (some ⟨w4.heap.size, 0, none⟩) 2) ∧ Blk (set5 w5 (w.heap.size + 1) (ipnT node svc) (some ⟨w4.heap.size, 0, none⟩) 2) (w.heap.size + 1) 63 (itemC (ipnT node svc) (some ⟨w4.heap.size, 0, none⟩) 2) ∧
      IsL (set5 w5 (w.heap.size + 1) (ipnT node svc) (some ⟨w4.heap.size, 0, none⟩) 2) (fun b => w.heap.size ≤ b) (ipnT node svc) (some ⟨w4.heap.size, 0, none⟩)) := by
    have hm : Mod [w.heap.size + 1] w5 (set5 w5 (w.heap.size + 1) (ipnT node svc) (some ⟨w4.heap.size, 0, none⟩) 2) := set5_modb
    have b1 := hOut.mod hm (by simp; omega)
    have b2 := hIn2.mod hm (by simp; omega)
    refine ⟨set5_mod (HE1.out.trans hx) (by omega), set5_blk (t0 := T.mk 0 0 [] false 0 fun _ => T.nil) (A0 := none) (c0 := 0) HR5.out, fun _ => ⟨w4.heap.size, 0, rfl, b1.lt, (show w.heap.size ≤ w4.heap.size by omega), fun i hi => ?_⟩⟩
    have hi2 : i = 0 ∨ i = 1 := by omega
    rcases hi2 with rfl | rfl
    · exact ⟨none, 0, ⟨b1.cell 0, b1.cell 1, b1.cell 2, b1.cell 3, b1.cell 4⟩, fun h => absurd h (by decide)⟩
    · refine ⟨some ⟨w3.heap.size, 0, none⟩, 2, ⟨b1.cell 5, b1.cell 6, b1.cell 7, b1.cell 8, b1.cell 9⟩, fun _ => ⟨w3.heap.size, 0, rfl, b2.lt, (show w.heap.size ≤ w3.heap.size by omega), fun j hj => ?_⟩⟩
      have hj2 : j = 0 ∨ j = 1 := by omega
      rcases hj2 with rfl | rfl
      · exact ⟨none, 0, ⟨b2.cell 0, b2.cell 1, b2.cell 2, b2.cell 3, b2.cell 4⟩, fun h => absurd h (by decide)⟩
      · exact ⟨none, 0, ⟨b2.cell 5, b2.cell 6, b2.cell 7, b2.cell 8, b2.cell 9⟩, fun h => absurd h (by decide)⟩
  obtain ⟨d0, d1, d2, d3, d4⟩ := cells5 HFin.out.2.1
  clear hOut hIn2 hIn h3 h4 hl hs3 hs4
  go_wp2_with fail
  show bodyPost _ _ _ _ _ (set5 w5 (w.heap.size + 1) (ipnT node svc) (some ⟨w4.heap.size, 0, none⟩) 2)
  refine bodyPost_ret (v := .tuple #[itemV (ipnT node svc) (some ⟨w4.heap.size, 0, none⟩) 2, .int .i64 0]) (by simp [results, Try.results28, go_sem, d0, d1, d2, d3, d4]) rfl ?_
  exact ⟨_, rfl, HFin.out.1, HFin.out.2.2⟩
end Go.Proofs.Ytagjhkknefiieaa
