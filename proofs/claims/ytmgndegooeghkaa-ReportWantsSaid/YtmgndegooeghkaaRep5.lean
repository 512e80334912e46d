/-
  Primaries: what they want, as the code tells it.
-/
import Derived.Test.YtmgndegooeghkaaRep4
import Derived.Deep.RegionLaw
namespace Go.Proofs.Ytmgndegooeghkaa
open Go.RowKit
set_option linter.unusedVariables false

theorem cW_true_yes_0 (f : Nat) (hf : f < 18446744073709551616) (crc : Int) (d s : EV) (t q l o n : Nat) (h1 : f / 2 % 2 = 0) (w : World) : Calls Try.prog 8 #[.agg (priC f crc d s ⟨1, [110, 111, 110, 101], 0, 0⟩ t q l o n), .bool true] w (Ret (.bool false) w) := by
  have a1 : bits .and .u64 (f : Int) 2 = 0 := by
    have h := and_no (k := 1) hf (by omega) (by simpa using h1)
    simpa using h
  have HE := hid ((Mod.refl [] w).alloc (.cells (priC f crc d s ⟨1, [110, 111, 110, 101], 0, 0⟩ t q l o n) 26))
  have HB := hid (Blk.new w 26 (priC f crc d s ⟨1, [110, 111, 110, 101], 0, 0⟩ t q l o n))
  clear hf h1
  go_enter Try.func8, Try.ntmps8
  go_upto_region 4 with fail
  generalize w.alloc (.cells (priC f crc d s ⟨1, [110, 111, 110, 101], 0, 0⟩ t q l o n) 26) = V at *
  have HS : Hid (∀ W, Ext V W → W.cell? ⟨w.heap.size, 0, none⟩ = some (.int .u64 (f : Int)) ∧ W.cell? ⟨w.heap.size, 10, none⟩ = some (.int .i64 1) ∧ W.cell? ⟨w.heap.size, 11, none⟩ = some (str [110, 111, 110, 101]) ∧ W.cell? ⟨w.heap.size, 12, none⟩ = some (.int .u64 0) ∧ W.cell? ⟨w.heap.size, 13, none⟩ = some (.int .u64 0)) := fun W hW => ⟨(HB.out.ext hW).cell 0, (HB.out.ext hW).cell 10, (HB.out.ext hW).cell 11, (HB.out.ext hW).cell 12, (HB.out.ext hW).cell 13⟩
  obtain ⟨p0, p1, p2, p3, p4⟩ := HS.out V (Mod.refl _ _)
  first | (go_region_with
    ((go_at_call 17; refine (eidNone_any _).mono ?_; rintro x w3 ⟨rfl, hb3⟩; have hx : Ext V w3 := (by (with_reducible refine Mod.trans ?_ hb3); (repeat (first | with_reducible assumption | with_reducible exact Mod.refl _ _ | with_reducible refine Mod.drew ?_))); have z := HS.out w3 hx))) | fail
  all_goals go_wp2_with fail
  all_goals go_ret
  all_goals exact Ret.mk rfl (by first | exact HE.out.trans hx | exact (HE.out.trans hx).drew)
theorem cW_true_yes_1 (f : Nat) (hf : f < 18446744073709551616) (crc : Int) (d s : EV) (t q l o n : Nat) (h1 : f / 2 % 2 = 1) (w : World) : Calls Try.prog 8 #[.agg (priC f crc d s ⟨1, [110, 111, 110, 101], 0, 0⟩ t q l o n), .bool true] w (Ret (.bool false) w) := by
  have a1 : bits .and .u64 (f : Int) 2 = 2 := by
    have h := and_yes (k := 1) hf (by omega) (by simpa using h1)
    simpa using h
  have HE := hid ((Mod.refl [] w).alloc (.cells (priC f crc d s ⟨1, [110, 111, 110, 101], 0, 0⟩ t q l o n) 26))
  have HB := hid (Blk.new w 26 (priC f crc d s ⟨1, [110, 111, 110, 101], 0, 0⟩ t q l o n))
  clear hf h1
  go_enter Try.func8, Try.ntmps8
  go_upto_region 4 with fail
  go_quiet (fail)
  all_goals go_wp2_with fail
  all_goals go_ret
  all_goals exact Ret.mk rfl (by first | exact HE.out | exact HE.out.drewN _ | exact HE.out.drew)
theorem cW_true_sch_00 (f : Nat) (hf : f < 18446744073709551616) (crc : Int) (d s : EV) (sch : Int) (name : List UInt8) (node svc : Nat) (hr : ¬ sch = 1) (t q l o n : Nat) (h1 : f / 2 % 2 = 0) (h2 : f / 262144 % 2 = 0) (w : World) : Calls Try.prog 8 #[.agg (priC f crc d s ⟨sch, name, node, svc⟩ t q l o n), .bool true] w (Ret (.bool false) w) := by
  have a1 : bits .and .u64 (f : Int) 2 = 0 := by
    have h := and_no (k := 1) hf (by omega) (by simpa using h1)
    simpa using h
  have a2 : bits .and .u64 (f : Int) 262144 = 0 := by
    have h := and_no (k := 18) hf (by omega) (by simpa using h2)
    simpa using h
  have n1 : (sch = 1) = False := by simp [hr]
  have n2 : (sch == 1) = false := by simp [hr]
  have HE := hid ((Mod.refl [] w).alloc (.cells (priC f crc d s ⟨sch, name, node, svc⟩ t q l o n) 26))
  have HB := hid (Blk.new w 26 (priC f crc d s ⟨sch, name, node, svc⟩ t q l o n))
  clear hf h1 h2 hr
  go_enter Try.func8, Try.ntmps8
  go_upto_region 4 with fail
  generalize w.alloc (.cells (priC f crc d s ⟨sch, name, node, svc⟩ t q l o n) 26) = V at *
  have HS : Hid (∀ W, Ext V W → W.cell? ⟨w.heap.size, 0, none⟩ = some (.int .u64 (f : Int)) ∧ W.cell? ⟨w.heap.size, 10, none⟩ = some (.int .i64 sch) ∧ W.cell? ⟨w.heap.size, 11, none⟩ = some (str name) ∧ W.cell? ⟨w.heap.size, 12, none⟩ = some (.int .u64 (node : Int)) ∧ W.cell? ⟨w.heap.size, 13, none⟩ = some (.int .u64 (svc : Int))) := fun W hW => ⟨(HB.out.ext hW).cell 0, (HB.out.ext hW).cell 10, (HB.out.ext hW).cell 11, (HB.out.ext hW).cell 12, (HB.out.ext hW).cell 13⟩
  obtain ⟨p0, p1, p2, p3, p4⟩ := HS.out V (Mod.refl _ _)
  go_region_held3 (fun w' => w'.cell? ⟨w.heap.size, 0, none⟩ = some (.int .u64 (f : Int)) ∧ w'.cell? ⟨w.heap.size, 10, none⟩ = some (.int .i64 sch) ∧ w'.cell? ⟨w.heap.size, 11, none⟩ = some (str name) ∧ w'.cell? ⟨w.heap.size, 12, none⟩ = some (.int .u64 (node : Int)) ∧ w'.cell? ⟨w.heap.size, 13, none⟩ = some (.int .u64 (svc : Int))) (go_keep)
    ((go_at_call 17; refine (eidNone_any _).mono ?_; rintro x w3 ⟨rfl, hb3⟩; have hx : Ext V w3 := (by (with_reducible refine Mod.trans ?_ hb3); (repeat (first | with_reducible assumption | with_reducible exact Mod.refl _ _ | with_reducible refine Mod.drew ?_))); have z := HS.out w3 hx))
  all_goals go_wp2_with fail
  all_goals go_ret
  all_goals exact Ret.mk rfl (by first | exact HE.out.trans hx | exact (HE.out.trans hx).drew)
theorem cW_true_sch_01 (f : Nat) (hf : f < 18446744073709551616) (crc : Int) (d s : EV) (sch : Int) (name : List UInt8) (node svc : Nat) (hr : ¬ sch = 1) (t q l o n : Nat) (h1 : f / 2 % 2 = 0) (h2 : f / 262144 % 2 = 1) (w : World) : Calls Try.prog 8 #[.agg (priC f crc d s ⟨sch, name, node, svc⟩ t q l o n), .bool true] w (Ret (.bool true) w) := by
  have a1 : bits .and .u64 (f : Int) 2 = 0 := by
    have h := and_no (k := 1) hf (by omega) (by simpa using h1)
    simpa using h
  have a2 : bits .and .u64 (f : Int) 262144 = 262144 := by
    have h := and_yes (k := 18) hf (by omega) (by simpa using h2)
    simpa using h
  have n1 : (sch = 1) = False := by simp [hr]
  have n2 : (sch == 1) = false := by simp [hr]
  have HE := hid ((Mod.refl [] w).alloc (.cells (priC f crc d s ⟨sch, name, node, svc⟩ t q l o n) 26))
  have HB := hid (Blk.new w 26 (priC f crc d s ⟨sch, name, node, svc⟩ t q l o n))
  clear hf h1 h2 hr
  go_enter Try.func8, Try.ntmps8
  go_upto_region 4 with fail
  generalize w.alloc (.cells (priC f crc d s ⟨sch, name, node, svc⟩ t q l o n) 26) = V at *
  have HS : Hid (∀ W, Ext V W → W.cell? ⟨w.heap.size, 0, none⟩ = some (.int .u64 (f : Int)) ∧ W.cell? ⟨w.heap.size, 10, none⟩ = some (.int .i64 sch) ∧ W.cell? ⟨w.heap.size, 11, none⟩ = some (str name) ∧ W.cell? ⟨w.heap.size, 12, none⟩ = some (.int .u64 (node : Int)) ∧ W.cell? ⟨w.heap.size, 13, none⟩ = some (.int .u64 (svc : Int))) := fun W hW => ⟨(HB.out.ext hW).cell 0, (HB.out.ext hW).cell 10, (HB.out.ext hW).cell 11, (HB.out.ext hW).cell 12, (HB.out.ext hW).cell 13⟩
  obtain ⟨p0, p1, p2, p3, p4⟩ := HS.out V (Mod.refl _ _)
  go_region_held3 (fun w' => w'.cell? ⟨w.heap.size, 0, none⟩ = some (.int .u64 (f : Int)) ∧ w'.cell? ⟨w.heap.size, 10, none⟩ = some (.int .i64 sch) ∧ w'.cell? ⟨w.heap.size, 11, none⟩ = some (str name) ∧ w'.cell? ⟨w.heap.size, 12, none⟩ = some (.int .u64 (node : Int)) ∧ w'.cell? ⟨w.heap.size, 13, none⟩ = some (.int .u64 (svc : Int))) (go_keep)
    ((go_at_call 17; refine (eidNone_any _).mono ?_; rintro x w3 ⟨rfl, hb3⟩; have hx : Ext V w3 := (by (with_reducible refine Mod.trans ?_ hb3); (repeat (first | with_reducible assumption | with_reducible exact Mod.refl _ _ | with_reducible refine Mod.drew ?_))); have z := HS.out w3 hx))
  all_goals go_wp2_with fail
  all_goals go_ret
  all_goals exact Ret.mk rfl (by first | exact HE.out.trans hx | exact (HE.out.trans hx).drew)
theorem cW_true_sch_1 (f : Nat) (hf : f < 18446744073709551616) (crc : Int) (d s : EV) (sch : Int) (name : List UInt8) (node svc : Nat) (hr : ¬ sch = 1) (t q l o n : Nat) (h1 : f / 2 % 2 = 1) (w : World) : Calls Try.prog 8 #[.agg (priC f crc d s ⟨sch, name, node, svc⟩ t q l o n), .bool true] w (Ret (.bool false) w) := by
  have a1 : bits .and .u64 (f : Int) 2 = 2 := by
    have h := and_yes (k := 1) hf (by omega) (by simpa using h1)
    simpa using h
  have n1 : (sch = 1) = False := by simp [hr]
  have n2 : (sch == 1) = false := by simp [hr]
  have HE := hid ((Mod.refl [] w).alloc (.cells (priC f crc d s ⟨sch, name, node, svc⟩ t q l o n) 26))
  have HB := hid (Blk.new w 26 (priC f crc d s ⟨sch, name, node, svc⟩ t q l o n))
  clear hf h1 hr
  go_enter Try.func8, Try.ntmps8
  go_upto_region 4 with fail
  go_quiet (fail)
  all_goals go_wp2_with fail
  all_goals go_ret
  all_goals exact Ret.mk rfl (by first | exact HE.out | exact HE.out.drewN _ | exact HE.out.drew)
theorem cW_true_name_00 (f : Nat) (hf : f < 18446744073709551616) (crc : Int) (d s : EV) (name : List UInt8) (node svc : Nat) (hr : ¬ name = [110, 111, 110, 101]) (t q l o n : Nat) (h1 : f / 2 % 2 = 0) (h2 : f / 262144 % 2 = 0) (w : World) : Calls Try.prog 8 #[.agg (priC f crc d s ⟨1, name, node, svc⟩ t q l o n), .bool true] w (Ret (.bool false) w) := by
  have a1 : bits .and .u64 (f : Int) 2 = 0 := by
    have h := and_no (k := 1) hf (by omega) (by simpa using h1)
    simpa using h
  have a2 : bits .and .u64 (f : Int) 262144 = 0 := by
    have h := and_no (k := 18) hf (by omega) (by simpa using h2)
    simpa using h
  have n1 : (name = [110, 111, 110, 101]) = False := by simp [hr]
  have n2 : (name == [110, 111, 110, 101]) = false := by simp [hr]
  have HE := hid ((Mod.refl [] w).alloc (.cells (priC f crc d s ⟨1, name, node, svc⟩ t q l o n) 26))
  have HB := hid (Blk.new w 26 (priC f crc d s ⟨1, name, node, svc⟩ t q l o n))
  clear hf h1 h2 hr
  go_enter Try.func8, Try.ntmps8
  go_upto_region 4 with fail
  generalize w.alloc (.cells (priC f crc d s ⟨1, name, node, svc⟩ t q l o n) 26) = V at *
  have HS : Hid (∀ W, Ext V W → W.cell? ⟨w.heap.size, 0, none⟩ = some (.int .u64 (f : Int)) ∧ W.cell? ⟨w.heap.size, 10, none⟩ = some (.int .i64 1) ∧ W.cell? ⟨w.heap.size, 11, none⟩ = some (str name) ∧ W.cell? ⟨w.heap.size, 12, none⟩ = some (.int .u64 (node : Int)) ∧ W.cell? ⟨w.heap.size, 13, none⟩ = some (.int .u64 (svc : Int))) := fun W hW => ⟨(HB.out.ext hW).cell 0, (HB.out.ext hW).cell 10, (HB.out.ext hW).cell 11, (HB.out.ext hW).cell 12, (HB.out.ext hW).cell 13⟩
  obtain ⟨p0, p1, p2, p3, p4⟩ := HS.out V (Mod.refl _ _)
  go_region_held3 (fun w' => w'.cell? ⟨w.heap.size, 0, none⟩ = some (.int .u64 (f : Int)) ∧ w'.cell? ⟨w.heap.size, 10, none⟩ = some (.int .i64 1) ∧ w'.cell? ⟨w.heap.size, 11, none⟩ = some (str name) ∧ w'.cell? ⟨w.heap.size, 12, none⟩ = some (.int .u64 (node : Int)) ∧ w'.cell? ⟨w.heap.size, 13, none⟩ = some (.int .u64 (svc : Int))) (go_keep)
    ((go_at_call 17; refine (eidNone_any _).mono ?_; rintro x w3 ⟨rfl, hb3⟩; have hx : Ext V w3 := (by (with_reducible refine Mod.trans ?_ hb3); (repeat (first | with_reducible assumption | with_reducible exact Mod.refl _ _ | with_reducible refine Mod.drew ?_))); have z := HS.out w3 hx))
  all_goals go_wp2_with fail
  all_goals go_ret
  all_goals exact Ret.mk rfl (by first | exact HE.out.trans hx | exact (HE.out.trans hx).drew)
theorem cW_true_name_01 (f : Nat) (hf : f < 18446744073709551616) (crc : Int) (d s : EV) (name : List UInt8) (node svc : Nat) (hr : ¬ name = [110, 111, 110, 101]) (t q l o n : Nat) (h1 : f / 2 % 2 = 0) (h2 : f / 262144 % 2 = 1) (w : World) : Calls Try.prog 8 #[.agg (priC f crc d s ⟨1, name, node, svc⟩ t q l o n), .bool true] w (Ret (.bool true) w) := by
  have a1 : bits .and .u64 (f : Int) 2 = 0 := by
    have h := and_no (k := 1) hf (by omega) (by simpa using h1)
    simpa using h
  have a2 : bits .and .u64 (f : Int) 262144 = 262144 := by
    have h := and_yes (k := 18) hf (by omega) (by simpa using h2)
    simpa using h
  have n1 : (name = [110, 111, 110, 101]) = False := by simp [hr]
  have n2 : (name == [110, 111, 110, 101]) = false := by simp [hr]
  have HE := hid ((Mod.refl [] w).alloc (.cells (priC f crc d s ⟨1, name, node, svc⟩ t q l o n) 26))
  have HB := hid (Blk.new w 26 (priC f crc d s ⟨1, name, node, svc⟩ t q l o n))
  clear hf h1 h2 hr
  go_enter Try.func8, Try.ntmps8
  go_upto_region 4 with fail
  generalize w.alloc (.cells (priC f crc d s ⟨1, name, node, svc⟩ t q l o n) 26) = V at *
  have HS : Hid (∀ W, Ext V W → W.cell? ⟨w.heap.size, 0, none⟩ = some (.int .u64 (f : Int)) ∧ W.cell? ⟨w.heap.size, 10, none⟩ = some (.int .i64 1) ∧ W.cell? ⟨w.heap.size, 11, none⟩ = some (str name) ∧ W.cell? ⟨w.heap.size, 12, none⟩ = some (.int .u64 (node : Int)) ∧ W.cell? ⟨w.heap.size, 13, none⟩ = some (.int .u64 (svc : Int))) := fun W hW => ⟨(HB.out.ext hW).cell 0, (HB.out.ext hW).cell 10, (HB.out.ext hW).cell 11, (HB.out.ext hW).cell 12, (HB.out.ext hW).cell 13⟩
  obtain ⟨p0, p1, p2, p3, p4⟩ := HS.out V (Mod.refl _ _)
  go_region_held3 (fun w' => w'.cell? ⟨w.heap.size, 0, none⟩ = some (.int .u64 (f : Int)) ∧ w'.cell? ⟨w.heap.size, 10, none⟩ = some (.int .i64 1) ∧ w'.cell? ⟨w.heap.size, 11, none⟩ = some (str name) ∧ w'.cell? ⟨w.heap.size, 12, none⟩ = some (.int .u64 (node : Int)) ∧ w'.cell? ⟨w.heap.size, 13, none⟩ = some (.int .u64 (svc : Int))) (go_keep)
    ((go_at_call 17; refine (eidNone_any _).mono ?_; rintro x w3 ⟨rfl, hb3⟩; have hx : Ext V w3 := (by (with_reducible refine Mod.trans ?_ hb3); (repeat (first | with_reducible assumption | with_reducible exact Mod.refl _ _ | with_reducible refine Mod.drew ?_))); have z := HS.out w3 hx))
  all_goals go_wp2_with fail
  all_goals go_ret
  all_goals exact Ret.mk rfl (by first | exact HE.out.trans hx | exact (HE.out.trans hx).drew)
theorem cW_true_name_1 (f : Nat) (hf : f < 18446744073709551616) (crc : Int) (d s : EV) (name : List UInt8) (node svc : Nat) (hr : ¬ name = [110, 111, 110, 101]) (t q l o n : Nat) (h1 : f / 2 % 2 = 1) (w : World) : Calls Try.prog 8 #[.agg (priC f crc d s ⟨1, name, node, svc⟩ t q l o n), .bool true] w (Ret (.bool false) w) := by
  have a1 : bits .and .u64 (f : Int) 2 = 2 := by
    have h := and_yes (k := 1) hf (by omega) (by simpa using h1)
    simpa using h
  have n1 : (name = [110, 111, 110, 101]) = False := by simp [hr]
  have n2 : (name == [110, 111, 110, 101]) = false := by simp [hr]
  have HE := hid ((Mod.refl [] w).alloc (.cells (priC f crc d s ⟨1, name, node, svc⟩ t q l o n) 26))
  have HB := hid (Blk.new w 26 (priC f crc d s ⟨1, name, node, svc⟩ t q l o n))
  clear hf h1 hr
  go_enter Try.func8, Try.ntmps8
  go_upto_region 4 with fail
  go_quiet (fail)
  all_goals go_wp2_with fail
  all_goals go_ret
  all_goals exact Ret.mk rfl (by first | exact HE.out | exact HE.out.drewN _ | exact HE.out.drew)
theorem cW_true_node_00 (f : Nat) (hf : f < 18446744073709551616) (crc : Int) (d s : EV) (node svc : Nat) (hr : ¬ node = 0) (t q l o n : Nat) (h1 : f / 2 % 2 = 0) (h2 : f / 262144 % 2 = 0) (w : World) : Calls Try.prog 8 #[.agg (priC f crc d s ⟨1, [110, 111, 110, 101], node, svc⟩ t q l o n), .bool true] w (Ret (.bool false) w) := by
  have a1 : bits .and .u64 (f : Int) 2 = 0 := by
    have h := and_no (k := 1) hf (by omega) (by simpa using h1)
    simpa using h
  have a2 : bits .and .u64 (f : Int) 262144 = 0 := by
    have h := and_no (k := 18) hf (by omega) (by simpa using h2)
    simpa using h
  have n1 : (node = 0) = False := by simp [hr]
  have n2 : ((node : Int) == 0) = false := by simp; omega
  have n3 : ((node : Int) = 0) = False := by simp [hr]
  have HE := hid ((Mod.refl [] w).alloc (.cells (priC f crc d s ⟨1, [110, 111, 110, 101], node, svc⟩ t q l o n) 26))
  have HB := hid (Blk.new w 26 (priC f crc d s ⟨1, [110, 111, 110, 101], node, svc⟩ t q l o n))
  clear hf h1 h2 hr
  go_enter Try.func8, Try.ntmps8
  go_upto_region 4 with fail
  generalize w.alloc (.cells (priC f crc d s ⟨1, [110, 111, 110, 101], node, svc⟩ t q l o n) 26) = V at *
  have HS : Hid (∀ W, Ext V W → W.cell? ⟨w.heap.size, 0, none⟩ = some (.int .u64 (f : Int)) ∧ W.cell? ⟨w.heap.size, 10, none⟩ = some (.int .i64 1) ∧ W.cell? ⟨w.heap.size, 11, none⟩ = some (str [110, 111, 110, 101]) ∧ W.cell? ⟨w.heap.size, 12, none⟩ = some (.int .u64 (node : Int)) ∧ W.cell? ⟨w.heap.size, 13, none⟩ = some (.int .u64 (svc : Int))) := fun W hW => ⟨(HB.out.ext hW).cell 0, (HB.out.ext hW).cell 10, (HB.out.ext hW).cell 11, (HB.out.ext hW).cell 12, (HB.out.ext hW).cell 13⟩
  obtain ⟨p0, p1, p2, p3, p4⟩ := HS.out V (Mod.refl _ _)
  go_region_held3 (fun w' => w'.cell? ⟨w.heap.size, 0, none⟩ = some (.int .u64 (f : Int)) ∧ w'.cell? ⟨w.heap.size, 10, none⟩ = some (.int .i64 1) ∧ w'.cell? ⟨w.heap.size, 11, none⟩ = some (str [110, 111, 110, 101]) ∧ w'.cell? ⟨w.heap.size, 12, none⟩ = some (.int .u64 (node : Int)) ∧ w'.cell? ⟨w.heap.size, 13, none⟩ = some (.int .u64 (svc : Int))) (go_keep)
    ((go_at_call 17; refine (eidNone_any _).mono ?_; rintro x w3 ⟨rfl, hb3⟩; have hx : Ext V w3 := (by (with_reducible refine Mod.trans ?_ hb3); (repeat (first | with_reducible assumption | with_reducible exact Mod.refl _ _ | with_reducible refine Mod.drew ?_))); have z := HS.out w3 hx))
  all_goals go_wp2_with fail
  all_goals go_ret
  all_goals exact Ret.mk rfl (by first | exact HE.out.trans hx | exact (HE.out.trans hx).drew)
theorem cW_true_node_01 (f : Nat) (hf : f < 18446744073709551616) (crc : Int) (d s : EV) (node svc : Nat) (hr : ¬ node = 0) (t q l o n : Nat) (h1 : f / 2 % 2 = 0) (h2 : f / 262144 % 2 = 1) (w : World) : Calls Try.prog 8 #[.agg (priC f crc d s ⟨1, [110, 111, 110, 101], node, svc⟩ t q l o n), .bool true] w (Ret (.bool true) w) := by
  have a1 : bits .and .u64 (f : Int) 2 = 0 := by
    have h := and_no (k := 1) hf (by omega) (by simpa using h1)
    simpa using h
  have a2 : bits .and .u64 (f : Int) 262144 = 262144 := by
    have h := and_yes (k := 18) hf (by omega) (by simpa using h2)
    simpa using h
  have n1 : (node = 0) = False := by simp [hr]
  have n2 : ((node : Int) == 0) = false := by simp; omega
  have n3 : ((node : Int) = 0) = False := by simp [hr]
  have HE := hid ((Mod.refl [] w).alloc (.cells (priC f crc d s ⟨1, [110, 111, 110, 101], node, svc⟩ t q l o n) 26))
  have HB := hid (Blk.new w 26 (priC f crc d s ⟨1, [110, 111, 110, 101], node, svc⟩ t q l o n))
  clear hf h1 h2 hr
  go_enter Try.func8, Try.ntmps8
  go_upto_region 4 with fail
  generalize w.alloc (.cells (priC f crc d s ⟨1, [110, 111, 110, 101], node, svc⟩ t q l o n) 26) = V at *
  have HS : Hid (∀ W, Ext V W → W.cell? ⟨w.heap.size, 0, none⟩ = some (.int .u64 (f : Int)) ∧ W.cell? ⟨w.heap.size, 10, none⟩ = some (.int .i64 1) ∧ W.cell? ⟨w.heap.size, 11, none⟩ = some (str [110, 111, 110, 101]) ∧ W.cell? ⟨w.heap.size, 12, none⟩ = some (.int .u64 (node : Int)) ∧ W.cell? ⟨w.heap.size, 13, none⟩ = some (.int .u64 (svc : Int))) := fun W hW => ⟨(HB.out.ext hW).cell 0, (HB.out.ext hW).cell 10, (HB.out.ext hW).cell 11, (HB.out.ext hW).cell 12, (HB.out.ext hW).cell 13⟩
  obtain ⟨p0, p1, p2, p3, p4⟩ := HS.out V (Mod.refl _ _)
  go_region_held3 (fun w' => w'.cell? ⟨w.heap.size, 0, none⟩ = some (.int .u64 (f : Int)) ∧ w'.cell? ⟨w.heap.size, 10, none⟩ = some (.int .i64 1) ∧ w'.cell? ⟨w.heap.size, 11, none⟩ = some (str [110, 111, 110, 101]) ∧ w'.cell? ⟨w.heap.size, 12, none⟩ = some (.int .u64 (node : Int)) ∧ w'.cell? ⟨w.heap.size, 13, none⟩ = some (.int .u64 (svc : Int))) (go_keep)
    ((go_at_call 17; refine (eidNone_any _).mono ?_; rintro x w3 ⟨rfl, hb3⟩; have hx : Ext V w3 := (by (with_reducible refine Mod.trans ?_ hb3); (repeat (first | with_reducible assumption | with_reducible exact Mod.refl _ _ | with_reducible refine Mod.drew ?_))); have z := HS.out w3 hx))
  all_goals go_wp2_with fail
  all_goals go_ret
  all_goals exact Ret.mk rfl (by first | exact HE.out.trans hx | exact (HE.out.trans hx).drew)
theorem cW_true_node_1 (f : Nat) (hf : f < 18446744073709551616) (crc : Int) (d s : EV) (node svc : Nat) (hr : ¬ node = 0) (t q l o n : Nat) (h1 : f / 2 % 2 = 1) (w : World) : Calls Try.prog 8 #[.agg (priC f crc d s ⟨1, [110, 111, 110, 101], node, svc⟩ t q l o n), .bool true] w (Ret (.bool false) w) := by
  have a1 : bits .and .u64 (f : Int) 2 = 2 := by
    have h := and_yes (k := 1) hf (by omega) (by simpa using h1)
    simpa using h
  have n1 : (node = 0) = False := by simp [hr]
  have n2 : ((node : Int) == 0) = false := by simp; omega
  have n3 : ((node : Int) = 0) = False := by simp [hr]
  have HE := hid ((Mod.refl [] w).alloc (.cells (priC f crc d s ⟨1, [110, 111, 110, 101], node, svc⟩ t q l o n) 26))
  have HB := hid (Blk.new w 26 (priC f crc d s ⟨1, [110, 111, 110, 101], node, svc⟩ t q l o n))
  clear hf h1 hr
  go_enter Try.func8, Try.ntmps8
  go_upto_region 4 with fail
  go_quiet (fail)
  all_goals go_wp2_with fail
  all_goals go_ret
  all_goals exact Ret.mk rfl (by first | exact HE.out | exact HE.out.drewN _ | exact HE.out.drew)
theorem cW_true_svc_00 (f : Nat) (hf : f < 18446744073709551616) (crc : Int) (d s : EV) (svc : Nat) (hr : ¬ svc = 0) (t q l o n : Nat) (h1 : f / 2 % 2 = 0) (h2 : f / 262144 % 2 = 0) (w : World) : Calls Try.prog 8 #[.agg (priC f crc d s ⟨1, [110, 111, 110, 101], 0, svc⟩ t q l o n), .bool true] w (Ret (.bool false) w) := by
  have a1 : bits .and .u64 (f : Int) 2 = 0 := by
    have h := and_no (k := 1) hf (by omega) (by simpa using h1)
    simpa using h
  have a2 : bits .and .u64 (f : Int) 262144 = 0 := by
    have h := and_no (k := 18) hf (by omega) (by simpa using h2)
    simpa using h
  have n1 : (svc = 0) = False := by simp [hr]
  have n2 : ((svc : Int) == 0) = false := by simp; omega
  have n3 : ((svc : Int) = 0) = False := by simp [hr]
  have HE := hid ((Mod.refl [] w).alloc (.cells (priC f crc d s ⟨1, [110, 111, 110, 101], 0, svc⟩ t q l o n) 26))
  have HB := hid (Blk.new w 26 (priC f crc d s ⟨1, [110, 111, 110, 101], 0, svc⟩ t q l o n))
  clear hf h1 h2 hr
  go_enter Try.func8, Try.ntmps8
  go_upto_region 4 with fail
  generalize w.alloc (.cells (priC f crc d s ⟨1, [110, 111, 110, 101], 0, svc⟩ t q l o n) 26) = V at *
  have HS : Hid (∀ W, Ext V W → W.cell? ⟨w.heap.size, 0, none⟩ = some (.int .u64 (f : Int)) ∧ W.cell? ⟨w.heap.size, 10, none⟩ = some (.int .i64 1) ∧ W.cell? ⟨w.heap.size, 11, none⟩ = some (str [110, 111, 110, 101]) ∧ W.cell? ⟨w.heap.size, 12, none⟩ = some (.int .u64 0) ∧ W.cell? ⟨w.heap.size, 13, none⟩ = some (.int .u64 (svc : Int))) := fun W hW => ⟨(HB.out.ext hW).cell 0, (HB.out.ext hW).cell 10, (HB.out.ext hW).cell 11, (HB.out.ext hW).cell 12, (HB.out.ext hW).cell 13⟩
  obtain ⟨p0, p1, p2, p3, p4⟩ := HS.out V (Mod.refl _ _)
  go_region_held3 (fun w' => w'.cell? ⟨w.heap.size, 0, none⟩ = some (.int .u64 (f : Int)) ∧ w'.cell? ⟨w.heap.size, 10, none⟩ = some (.int .i64 1) ∧ w'.cell? ⟨w.heap.size, 11, none⟩ = some (str [110, 111, 110, 101]) ∧ w'.cell? ⟨w.heap.size, 12, none⟩ = some (.int .u64 0) ∧ w'.cell? ⟨w.heap.size, 13, none⟩ = some (.int .u64 (svc : Int))) (go_keep)
    ((go_at_call 17; refine (eidNone_any _).mono ?_; rintro x w3 ⟨rfl, hb3⟩; have hx : Ext V w3 := (by (with_reducible refine Mod.trans ?_ hb3); (repeat (first | with_reducible assumption | with_reducible exact Mod.refl _ _ | with_reducible refine Mod.drew ?_))); have z := HS.out w3 hx))
  all_goals go_wp2_with fail
  all_goals go_ret
  all_goals exact Ret.mk rfl (by first | exact HE.out.trans hx | exact (HE.out.trans hx).drew)
theorem cW_true_svc_01 (f : Nat) (hf : f < 18446744073709551616) (crc : Int) (d s : EV) (svc : Nat) (hr : ¬ svc = 0) (t q l o n : Nat) (h1 : f / 2 % 2 = 0) (h2 : f / 262144 % 2 = 1) (w : World) : Calls Try.prog 8 #[.agg (priC f crc d s ⟨1, [110, 111, 110, 101], 0, svc⟩ t q l o n), .bool true] w (Ret (.bool true) w) := by
  have a1 : bits .and .u64 (f : Int) 2 = 0 := by
    have h := and_no (k := 1) hf (by omega) (by simpa using h1)
    simpa using h
  have a2 : bits .and .u64 (f : Int) 262144 = 262144 := by
    have h := and_yes (k := 18) hf (by omega) (by simpa using h2)
    simpa using h
  have n1 : (svc = 0) = False := by simp [hr]
  have n2 : ((svc : Int) == 0) = false := by simp; omega
  have n3 : ((svc : Int) = 0) = False := by simp [hr]
  have HE := hid ((Mod.refl [] w).alloc (.cells (priC f crc d s ⟨1, [110, 111, 110, 101], 0, svc⟩ t q l o n) 26))
  have HB := hid (Blk.new w 26 (priC f crc d s ⟨1, [110, 111, 110, 101], 0, svc⟩ t q l o n))
  clear hf h1 h2 hr
  go_enter Try.func8, Try.ntmps8
  go_upto_region 4 with fail
  generalize w.alloc (.cells (priC f crc d s ⟨1, [110, 111, 110, 101], 0, svc⟩ t q l o n) 26) = V at *
  have HS : Hid (∀ W, Ext V W → W.cell? ⟨w.heap.size, 0, none⟩ = some (.int .u64 (f : Int)) ∧ W.cell? ⟨w.heap.size, 10, none⟩ = some (.int .i64 1) ∧ W.cell? ⟨w.heap.size, 11, none⟩ = some (str [110, 111, 110, 101]) ∧ W.cell? ⟨w.heap.size, 12, none⟩ = some (.int .u64 0) ∧ W.cell? ⟨w.heap.size, 13, none⟩ = some (.int .u64 (svc : Int))) := fun W hW => ⟨(HB.out.ext hW).cell 0, (HB.out.ext hW).cell 10, (HB.out.ext hW).cell 11, (HB.out.ext hW).cell 12, (HB.out.ext hW).cell 13⟩
  obtain ⟨p0, p1, p2, p3, p4⟩ := HS.out V (Mod.refl _ _)
  go_region_held3 (fun w' => w'.cell? ⟨w.heap.size, 0, none⟩ = some (.int .u64 (f : Int)) ∧ w'.cell? ⟨w.heap.size, 10, none⟩ = some (.int .i64 1) ∧ w'.cell? ⟨w.heap.size, 11, none⟩ = some (str [110, 111, 110, 101]) ∧ w'.cell? ⟨w.heap.size, 12, none⟩ = some (.int .u64 0) ∧ w'.cell? ⟨w.heap.size, 13, none⟩ = some (.int .u64 (svc : Int))) (go_keep)
    ((go_at_call 17; refine (eidNone_any _).mono ?_; rintro x w3 ⟨rfl, hb3⟩; have hx : Ext V w3 := (by (with_reducible refine Mod.trans ?_ hb3); (repeat (first | with_reducible assumption | with_reducible exact Mod.refl _ _ | with_reducible refine Mod.drew ?_))); have z := HS.out w3 hx))
  all_goals go_wp2_with fail
  all_goals go_ret
  all_goals exact Ret.mk rfl (by first | exact HE.out.trans hx | exact (HE.out.trans hx).drew)
theorem cW_true_svc_1 (f : Nat) (hf : f < 18446744073709551616) (crc : Int) (d s : EV) (svc : Nat) (hr : ¬ svc = 0) (t q l o n : Nat) (h1 : f / 2 % 2 = 1) (w : World) : Calls Try.prog 8 #[.agg (priC f crc d s ⟨1, [110, 111, 110, 101], 0, svc⟩ t q l o n), .bool true] w (Ret (.bool false) w) := by
  have a1 : bits .and .u64 (f : Int) 2 = 2 := by
    have h := and_yes (k := 1) hf (by omega) (by simpa using h1)
    simpa using h
  have n1 : (svc = 0) = False := by simp [hr]
  have n2 : ((svc : Int) == 0) = false := by simp; omega
  have n3 : ((svc : Int) = 0) = False := by simp [hr]
  have HE := hid ((Mod.refl [] w).alloc (.cells (priC f crc d s ⟨1, [110, 111, 110, 101], 0, svc⟩ t q l o n) 26))
  have HB := hid (Blk.new w 26 (priC f crc d s ⟨1, [110, 111, 110, 101], 0, svc⟩ t q l o n))
  clear hf h1 hr
  go_enter Try.func8, Try.ntmps8
  go_upto_region 4 with fail
  go_quiet (fail)
  all_goals go_wp2_with fail
  all_goals go_ret
  all_goals exact Ret.mk rfl (by first | exact HE.out | exact HE.out.drewN _ | exact HE.out.drew)
theorem cW_false_yes_0 (f : Nat) (hf : f < 18446744073709551616) (crc : Int) (d s : EV) (t q l o n : Nat) (h1 : f / 2 % 2 = 0) (w : World) : Calls Try.prog 8 #[.agg (priC f crc d s ⟨1, [110, 111, 110, 101], 0, 0⟩ t q l o n), .bool false] w (Ret (.bool false) w) := by
  have a1 : bits .and .u64 (f : Int) 2 = 0 := by
    have h := and_no (k := 1) hf (by omega) (by simpa using h1)
    simpa using h
  have HE := hid ((Mod.refl [] w).alloc (.cells (priC f crc d s ⟨1, [110, 111, 110, 101], 0, 0⟩ t q l o n) 26))
  have HB := hid (Blk.new w 26 (priC f crc d s ⟨1, [110, 111, 110, 101], 0, 0⟩ t q l o n))
  clear hf h1
  go_enter Try.func8, Try.ntmps8
  go_upto_region 4 with fail
  generalize w.alloc (.cells (priC f crc d s ⟨1, [110, 111, 110, 101], 0, 0⟩ t q l o n) 26) = V at *
  have HS : Hid (∀ W, Ext V W → W.cell? ⟨w.heap.size, 0, none⟩ = some (.int .u64 (f : Int)) ∧ W.cell? ⟨w.heap.size, 10, none⟩ = some (.int .i64 1) ∧ W.cell? ⟨w.heap.size, 11, none⟩ = some (str [110, 111, 110, 101]) ∧ W.cell? ⟨w.heap.size, 12, none⟩ = some (.int .u64 0) ∧ W.cell? ⟨w.heap.size, 13, none⟩ = some (.int .u64 0)) := fun W hW => ⟨(HB.out.ext hW).cell 0, (HB.out.ext hW).cell 10, (HB.out.ext hW).cell 11, (HB.out.ext hW).cell 12, (HB.out.ext hW).cell 13⟩
  obtain ⟨p0, p1, p2, p3, p4⟩ := HS.out V (Mod.refl _ _)
  first | (go_region_with
    ((go_at_call 17; refine (eidNone_any _).mono ?_; rintro x w3 ⟨rfl, hb3⟩; have hx : Ext V w3 := (by (with_reducible refine Mod.trans ?_ hb3); (repeat (first | with_reducible assumption | with_reducible exact Mod.refl _ _ | with_reducible refine Mod.drew ?_))); have z := HS.out w3 hx))) | fail
  all_goals go_wp2_with fail
  all_goals go_ret
  all_goals exact Ret.mk rfl (by first | exact HE.out.trans hx | exact (HE.out.trans hx).drew)
theorem cW_false_yes_1 (f : Nat) (hf : f < 18446744073709551616) (crc : Int) (d s : EV) (t q l o n : Nat) (h1 : f / 2 % 2 = 1) (w : World) : Calls Try.prog 8 #[.agg (priC f crc d s ⟨1, [110, 111, 110, 101], 0, 0⟩ t q l o n), .bool false] w (Ret (.bool false) w) := by
  have a1 : bits .and .u64 (f : Int) 2 = 2 := by
    have h := and_yes (k := 1) hf (by omega) (by simpa using h1)
    simpa using h
  have HE := hid ((Mod.refl [] w).alloc (.cells (priC f crc d s ⟨1, [110, 111, 110, 101], 0, 0⟩ t q l o n) 26))
  have HB := hid (Blk.new w 26 (priC f crc d s ⟨1, [110, 111, 110, 101], 0, 0⟩ t q l o n))
  clear hf h1
  go_enter Try.func8, Try.ntmps8
  go_upto_region 4 with fail
  go_quiet (fail)
  all_goals go_wp2_with fail
  all_goals go_ret
  all_goals exact Ret.mk rfl (by first | exact HE.out | exact HE.out.drewN _ | exact HE.out.drew)
theorem cW_false_sch_00 (f : Nat) (hf : f < 18446744073709551616) (crc : Int) (d s : EV) (sch : Int) (name : List UInt8) (node svc : Nat) (hr : ¬ sch = 1) (t q l o n : Nat) (h1 : f / 2 % 2 = 0) (h2 : f / 16384 % 2 = 0) (w : World) : Calls Try.prog 8 #[.agg (priC f crc d s ⟨sch, name, node, svc⟩ t q l o n), .bool false] w (Ret (.bool false) w) := by
  have a1 : bits .and .u64 (f : Int) 2 = 0 := by
    have h := and_no (k := 1) hf (by omega) (by simpa using h1)
    simpa using h
  have a2 : bits .and .u64 (f : Int) 16384 = 0 := by
    have h := and_no (k := 14) hf (by omega) (by simpa using h2)
    simpa using h
  have n1 : (sch = 1) = False := by simp [hr]
  have n2 : (sch == 1) = false := by simp [hr]
  have HE := hid ((Mod.refl [] w).alloc (.cells (priC f crc d s ⟨sch, name, node, svc⟩ t q l o n) 26))
  have HB := hid (Blk.new w 26 (priC f crc d s ⟨sch, name, node, svc⟩ t q l o n))
  clear hf h1 h2 hr
  go_enter Try.func8, Try.ntmps8
  go_upto_region 4 with fail
  generalize w.alloc (.cells (priC f crc d s ⟨sch, name, node, svc⟩ t q l o n) 26) = V at *
  have HS : Hid (∀ W, Ext V W → W.cell? ⟨w.heap.size, 0, none⟩ = some (.int .u64 (f : Int)) ∧ W.cell? ⟨w.heap.size, 10, none⟩ = some (.int .i64 sch) ∧ W.cell? ⟨w.heap.size, 11, none⟩ = some (str name) ∧ W.cell? ⟨w.heap.size, 12, none⟩ = some (.int .u64 (node : Int)) ∧ W.cell? ⟨w.heap.size, 13, none⟩ = some (.int .u64 (svc : Int))) := fun W hW => ⟨(HB.out.ext hW).cell 0, (HB.out.ext hW).cell 10, (HB.out.ext hW).cell 11, (HB.out.ext hW).cell 12, (HB.out.ext hW).cell 13⟩
  obtain ⟨p0, p1, p2, p3, p4⟩ := HS.out V (Mod.refl _ _)
  go_region_held3 (fun w' => w'.cell? ⟨w.heap.size, 0, none⟩ = some (.int .u64 (f : Int)) ∧ w'.cell? ⟨w.heap.size, 10, none⟩ = some (.int .i64 sch) ∧ w'.cell? ⟨w.heap.size, 11, none⟩ = some (str name) ∧ w'.cell? ⟨w.heap.size, 12, none⟩ = some (.int .u64 (node : Int)) ∧ w'.cell? ⟨w.heap.size, 13, none⟩ = some (.int .u64 (svc : Int))) (go_keep)
    ((go_at_call 17; refine (eidNone_any _).mono ?_; rintro x w3 ⟨rfl, hb3⟩; have hx : Ext V w3 := (by (with_reducible refine Mod.trans ?_ hb3); (repeat (first | with_reducible assumption | with_reducible exact Mod.refl _ _ | with_reducible refine Mod.drew ?_))); have z := HS.out w3 hx))
  all_goals go_wp2_with fail
  all_goals go_ret
  all_goals exact Ret.mk rfl (by first | exact HE.out.trans hx | exact (HE.out.trans hx).drew)
theorem cW_false_sch_01 (f : Nat) (hf : f < 18446744073709551616) (crc : Int) (d s : EV) (sch : Int) (name : List UInt8) (node svc : Nat) (hr : ¬ sch = 1) (t q l o n : Nat) (h1 : f / 2 % 2 = 0) (h2 : f / 16384 % 2 = 1) (w : World) : Calls Try.prog 8 #[.agg (priC f crc d s ⟨sch, name, node, svc⟩ t q l o n), .bool false] w (Ret (.bool true) w) := by
  have a1 : bits .and .u64 (f : Int) 2 = 0 := by
    have h := and_no (k := 1) hf (by omega) (by simpa using h1)
    simpa using h
  have a2 : bits .and .u64 (f : Int) 16384 = 16384 := by
    have h := and_yes (k := 14) hf (by omega) (by simpa using h2)
    simpa using h
  have n1 : (sch = 1) = False := by simp [hr]
  have n2 : (sch == 1) = false := by simp [hr]
  have HE := hid ((Mod.refl [] w).alloc (.cells (priC f crc d s ⟨sch, name, node, svc⟩ t q l o n) 26))
  have HB := hid (Blk.new w 26 (priC f crc d s ⟨sch, name, node, svc⟩ t q l o n))
  clear hf h1 h2 hr
  go_enter Try.func8, Try.ntmps8
  go_upto_region 4 with fail
  generalize w.alloc (.cells (priC f crc d s ⟨sch, name, node, svc⟩ t q l o n) 26) = V at *
  have HS : Hid (∀ W, Ext V W → W.cell? ⟨w.heap.size, 0, none⟩ = some (.int .u64 (f : Int)) ∧ W.cell? ⟨w.heap.size, 10, none⟩ = some (.int .i64 sch) ∧ W.cell? ⟨w.heap.size, 11, none⟩ = some (str name) ∧ W.cell? ⟨w.heap.size, 12, none⟩ = some (.int .u64 (node : Int)) ∧ W.cell? ⟨w.heap.size, 13, none⟩ = some (.int .u64 (svc : Int))) := fun W hW => ⟨(HB.out.ext hW).cell 0, (HB.out.ext hW).cell 10, (HB.out.ext hW).cell 11, (HB.out.ext hW).cell 12, (HB.out.ext hW).cell 13⟩
  obtain ⟨p0, p1, p2, p3, p4⟩ := HS.out V (Mod.refl _ _)
  go_region_held3 (fun w' => w'.cell? ⟨w.heap.size, 0, none⟩ = some (.int .u64 (f : Int)) ∧ w'.cell? ⟨w.heap.size, 10, none⟩ = some (.int .i64 sch) ∧ w'.cell? ⟨w.heap.size, 11, none⟩ = some (str name) ∧ w'.cell? ⟨w.heap.size, 12, none⟩ = some (.int .u64 (node : Int)) ∧ w'.cell? ⟨w.heap.size, 13, none⟩ = some (.int .u64 (svc : Int))) (go_keep)
    ((go_at_call 17; refine (eidNone_any _).mono ?_; rintro x w3 ⟨rfl, hb3⟩; have hx : Ext V w3 := (by (with_reducible refine Mod.trans ?_ hb3); (repeat (first | with_reducible assumption | with_reducible exact Mod.refl _ _ | with_reducible refine Mod.drew ?_))); have z := HS.out w3 hx))
  all_goals go_wp2_with fail
  all_goals go_ret
  all_goals exact Ret.mk rfl (by first | exact HE.out.trans hx | exact (HE.out.trans hx).drew)
theorem cW_false_sch_1 (f : Nat) (hf : f < 18446744073709551616) (crc : Int) (d s : EV) (sch : Int) (name : List UInt8) (node svc : Nat) (hr : ¬ sch = 1) (t q l o n : Nat) (h1 : f / 2 % 2 = 1) (w : World) : Calls Try.prog 8 #[.agg (priC f crc d s ⟨sch, name, node, svc⟩ t q l o n), .bool false] w (Ret (.bool false) w) := by
  have a1 : bits .and .u64 (f : Int) 2 = 2 := by
    have h := and_yes (k := 1) hf (by omega) (by simpa using h1)
    simpa using h
  have n1 : (sch = 1) = False := by simp [hr]
  have n2 : (sch == 1) = false := by simp [hr]
  have HE := hid ((Mod.refl [] w).alloc (.cells (priC f crc d s ⟨sch, name, node, svc⟩ t q l o n) 26))
  have HB := hid (Blk.new w 26 (priC f crc d s ⟨sch, name, node, svc⟩ t q l o n))
  clear hf h1 hr
  go_enter Try.func8, Try.ntmps8
  go_upto_region 4 with fail
  go_quiet (fail)
  all_goals go_wp2_with fail
  all_goals go_ret
  all_goals exact Ret.mk rfl (by first | exact HE.out | exact HE.out.drewN _ | exact HE.out.drew)
theorem cW_false_name_00 (f : Nat) (hf : f < 18446744073709551616) (crc : Int) (d s : EV) (name : List UInt8) (node svc : Nat) (hr : ¬ name = [110, 111, 110, 101]) (t q l o n : Nat) (h1 : f / 2 % 2 = 0) (h2 : f / 16384 % 2 = 0) (w : World) : Calls Try.prog 8 #[.agg (priC f crc d s ⟨1, name, node, svc⟩ t q l o n), .bool false] w (Ret (.bool false) w) := by
  have a1 : bits .and .u64 (f : Int) 2 = 0 := by
    have h := and_no (k := 1) hf (by omega) (by simpa using h1)
    simpa using h
  have a2 : bits .and .u64 (f : Int) 16384 = 0 := by
    have h := and_no (k := 14) hf (by omega) (by simpa using h2)
    simpa using h
  have n1 : (name = [110, 111, 110, 101]) = False := by simp [hr]
  have n2 : (name == [110, 111, 110, 101]) = false := by simp [hr]
  have HE := hid ((Mod.refl [] w).alloc (.cells (priC f crc d s ⟨1, name, node, svc⟩ t q l o n) 26))
  have HB := hid (Blk.new w 26 (priC f crc d s ⟨1, name, node, svc⟩ t q l o n))
  clear hf h1 h2 hr
  go_enter Try.func8, Try.ntmps8
  go_upto_region 4 with fail
  generalize w.alloc (.cells (priC f crc d s ⟨1, name, node, svc⟩ t q l o n) 26) = V at *
  have HS : Hid (∀ W, Ext V W → W.cell? ⟨w.heap.size, 0, none⟩ = some (.int .u64 (f : Int)) ∧ W.cell? ⟨w.heap.size, 10, none⟩ = some (.int .i64 1) ∧ W.cell? ⟨w.heap.size, 11, none⟩ = some (str name) ∧ W.cell? ⟨w.heap.size, 12, none⟩ = some (.int .u64 (node : Int)) ∧ W.cell? ⟨w.heap.size, 13, none⟩ = some (.int .u64 (svc : Int))) := fun W hW => ⟨(HB.out.ext hW).cell 0, (HB.out.ext hW).cell 10, (HB.out.ext hW).cell 11, (HB.out.ext hW).cell 12, (HB.out.ext hW).cell 13⟩
  obtain ⟨p0, p1, p2, p3, p4⟩ := HS.out V (Mod.refl _ _)
  go_region_held3 (fun w' => w'.cell? ⟨w.heap.size, 0, none⟩ = some (.int .u64 (f : Int)) ∧ w'.cell? ⟨w.heap.size, 10, none⟩ = some (.int .i64 1) ∧ w'.cell? ⟨w.heap.size, 11, none⟩ = some (str name) ∧ w'.cell? ⟨w.heap.size, 12, none⟩ = some (.int .u64 (node : Int)) ∧ w'.cell? ⟨w.heap.size, 13, none⟩ = some (.int .u64 (svc : Int))) (go_keep)
    ((go_at_call 17; refine (eidNone_any _).mono ?_; rintro x w3 ⟨rfl, hb3⟩; have hx : Ext V w3 := (by (with_reducible refine Mod.trans ?_ hb3); (repeat (first | with_reducible assumption | with_reducible exact Mod.refl _ _ | with_reducible refine Mod.drew ?_))); have z := HS.out w3 hx))
  all_goals go_wp2_with fail
  all_goals go_ret
  all_goals exact Ret.mk rfl (by first | exact HE.out.trans hx | exact (HE.out.trans hx).drew)
theorem cW_false_name_01 (f : Nat) (hf : f < 18446744073709551616) (crc : Int) (d s : EV) (name : List UInt8) (node svc : Nat) (hr : ¬ name = [110, 111, 110, 101]) (t q l o n : Nat) (h1 : f / 2 % 2 = 0) (h2 : f / 16384 % 2 = 1) (w : World) : Calls Try.prog 8 #[.agg (priC f crc d s ⟨1, name, node, svc⟩ t q l o n), .bool false] w (Ret (.bool true) w) := by
  have a1 : bits .and .u64 (f : Int) 2 = 0 := by
    have h := and_no (k := 1) hf (by omega) (by simpa using h1)
    simpa using h
  have a2 : bits .and .u64 (f : Int) 16384 = 16384 := by
    have h := and_yes (k := 14) hf (by omega) (by simpa using h2)
    simpa using h
  have n1 : (name = [110, 111, 110, 101]) = False := by simp [hr]
  have n2 : (name == [110, 111, 110, 101]) = false := by simp [hr]
  have HE := hid ((Mod.refl [] w).alloc (.cells (priC f crc d s ⟨1, name, node, svc⟩ t q l o n) 26))
  have HB := hid (Blk.new w 26 (priC f crc d s ⟨1, name, node, svc⟩ t q l o n))
  clear hf h1 h2 hr
  go_enter Try.func8, Try.ntmps8
  go_upto_region 4 with fail
  generalize w.alloc (.cells (priC f crc d s ⟨1, name, node, svc⟩ t q l o n) 26) = V at *
  have HS : Hid (∀ W, Ext V W → W.cell? ⟨w.heap.size, 0, none⟩ = some (.int .u64 (f : Int)) ∧ W.cell? ⟨w.heap.size, 10, none⟩ = some (.int .i64 1) ∧ W.cell? ⟨w.heap.size, 11, none⟩ = some (str name) ∧ W.cell? ⟨w.heap.size, 12, none⟩ = some (.int .u64 (node : Int)) ∧ W.cell? ⟨w.heap.size, 13, none⟩ = some (.int .u64 (svc : Int))) := fun W hW => ⟨(HB.out.ext hW).cell 0, (HB.out.ext hW).cell 10, (HB.out.ext hW).cell 11, (HB.out.ext hW).cell 12, (HB.out.ext hW).cell 13⟩
  obtain ⟨p0, p1, p2, p3, p4⟩ := HS.out V (Mod.refl _ _)
  go_region_held3 (fun w' => w'.cell? ⟨w.heap.size, 0, none⟩ = some (.int .u64 (f : Int)) ∧ w'.cell? ⟨w.heap.size, 10, none⟩ = some (.int .i64 1) ∧ w'.cell? ⟨w.heap.size, 11, none⟩ = some (str name) ∧ w'.cell? ⟨w.heap.size, 12, none⟩ = some (.int .u64 (node : Int)) ∧ w'.cell? ⟨w.heap.size, 13, none⟩ = some (.int .u64 (svc : Int))) (go_keep)
    ((go_at_call 17; refine (eidNone_any _).mono ?_; rintro x w3 ⟨rfl, hb3⟩; have hx : Ext V w3 := (by (with_reducible refine Mod.trans ?_ hb3); (repeat (first | with_reducible assumption | with_reducible exact Mod.refl _ _ | with_reducible refine Mod.drew ?_))); have z := HS.out w3 hx))
  all_goals go_wp2_with fail
  all_goals go_ret
  all_goals exact Ret.mk rfl (by first | exact HE.out.trans hx | exact (HE.out.trans hx).drew)
theorem cW_false_name_1 (f : Nat) (hf : f < 18446744073709551616) (crc : Int) (d s : EV) (name : List UInt8) (node svc : Nat) (hr : ¬ name = [110, 111, 110, 101]) (t q l o n : Nat) (h1 : f / 2 % 2 = 1) (w : World) : Calls Try.prog 8 #[.agg (priC f crc d s ⟨1, name, node, svc⟩ t q l o n), .bool false] w (Ret (.bool false) w) := by
  have a1 : bits .and .u64 (f : Int) 2 = 2 := by
    have h := and_yes (k := 1) hf (by omega) (by simpa using h1)
    simpa using h
  have n1 : (name = [110, 111, 110, 101]) = False := by simp [hr]
  have n2 : (name == [110, 111, 110, 101]) = false := by simp [hr]
  have HE := hid ((Mod.refl [] w).alloc (.cells (priC f crc d s ⟨1, name, node, svc⟩ t q l o n) 26))
  have HB := hid (Blk.new w 26 (priC f crc d s ⟨1, name, node, svc⟩ t q l o n))
  clear hf h1 hr
  go_enter Try.func8, Try.ntmps8
  go_upto_region 4 with fail
  go_quiet (fail)
  all_goals go_wp2_with fail
  all_goals go_ret
  all_goals exact Ret.mk rfl (by first | exact HE.out | exact HE.out.drewN _ | exact HE.out.drew)
theorem cW_false_node_00 (f : Nat) (hf : f < 18446744073709551616) (crc : Int) (d s : EV) (node svc : Nat) (hr : ¬ node = 0) (t q l o n : Nat) (h1 : f / 2 % 2 = 0) (h2 : f / 16384 % 2 = 0) (w : World) : Calls Try.prog 8 #[.agg (priC f crc d s ⟨1, [110, 111, 110, 101], node, svc⟩ t q l o n), .bool false] w (Ret (.bool false) w) := by
  have a1 : bits .and .u64 (f : Int) 2 = 0 := by
    have h := and_no (k := 1) hf (by omega) (by simpa using h1)
    simpa using h
  have a2 : bits .and .u64 (f : Int) 16384 = 0 := by
    have h := and_no (k := 14) hf (by omega) (by simpa using h2)
    simpa using h
  have n1 : (node = 0) = False := by simp [hr]
  have n2 : ((node : Int) == 0) = false := by simp; omega
  have n3 : ((node : Int) = 0) = False := by simp [hr]
  have HE := hid ((Mod.refl [] w).alloc (.cells (priC f crc d s ⟨1, [110, 111, 110, 101], node, svc⟩ t q l o n) 26))
  have HB := hid (Blk.new w 26 (priC f crc d s ⟨1, [110, 111, 110, 101], node, svc⟩ t q l o n))
  clear hf h1 h2 hr
  go_enter Try.func8, Try.ntmps8
  go_upto_region 4 with fail
  generalize w.alloc (.cells (priC f crc d s ⟨1, [110, 111, 110, 101], node, svc⟩ t q l o n) 26) = V at *
  have HS : Hid (∀ W, Ext V W → W.cell? ⟨w.heap.size, 0, none⟩ = some (.int .u64 (f : Int)) ∧ W.cell? ⟨w.heap.size, 10, none⟩ = some (.int .i64 1) ∧ W.cell? ⟨w.heap.size, 11, none⟩ = some (str [110, 111, 110, 101]) ∧ W.cell? ⟨w.heap.size, 12, none⟩ = some (.int .u64 (node : Int)) ∧ W.cell? ⟨w.heap.size, 13, none⟩ = some (.int .u64 (svc : Int))) := fun W hW => ⟨(HB.out.ext hW).cell 0, (HB.out.ext hW).cell 10, (HB.out.ext hW).cell 11, (HB.out.ext hW).cell 12, (HB.out.ext hW).cell 13⟩
  obtain ⟨p0, p1, p2, p3, p4⟩ := HS.out V (Mod.refl _ _)
  go_region_held3 (fun w' => w'.cell? ⟨w.heap.size, 0, none⟩ = some (.int .u64 (f : Int)) ∧ w'.cell? ⟨w.heap.size, 10, none⟩ = some (.int .i64 1) ∧ w'.cell? ⟨w.heap.size, 11, none⟩ = some (str [110, 111, 110, 101]) ∧ w'.cell? ⟨w.heap.size, 12, none⟩ = some (.int .u64 (node : Int)) ∧ w'.cell? ⟨w.heap.size, 13, none⟩ = some (.int .u64 (svc : Int))) (go_keep)
    ((go_at_call 17; refine (eidNone_any _).mono ?_; rintro x w3 ⟨rfl, hb3⟩; have hx : Ext V w3 := (by (with_reducible refine Mod.trans ?_ hb3); (repeat (first | with_reducible assumption | with_reducible exact Mod.refl _ _ | with_reducible refine Mod.drew ?_))); have z := HS.out w3 hx))
  all_goals go_wp2_with fail
  all_goals go_ret
  all_goals exact Ret.mk rfl (by first | exact HE.out.trans hx | exact (HE.out.trans hx).drew)
theorem cW_false_node_01 (f : Nat) (hf : f < 18446744073709551616) (crc : Int) (d s : EV) (node svc : Nat) (hr : ¬ node = 0) (t q l o n : Nat) (h1 : f / 2 % 2 = 0) (h2 : f / 16384 % 2 = 1) (w : World) : Calls Try.prog 8 #[.agg (priC f crc d s ⟨1, [110, 111, 110, 101], node, svc⟩ t q l o n), .bool false] w (Ret (.bool true) w) := by
  have a1 : bits .and .u64 (f : Int) 2 = 0 := by
    have h := and_no (k := 1) hf (by omega) (by simpa using h1)
    simpa using h
  have a2 : bits .and .u64 (f : Int) 16384 = 16384 := by
    have h := and_yes (k := 14) hf (by omega) (by simpa using h2)
    simpa using h
  have n1 : (node = 0) = False := by simp [hr]
  have n2 : ((node : Int) == 0) = false := by simp; omega
  have n3 : ((node : Int) = 0) = False := by simp [hr]
  have HE := hid ((Mod.refl [] w).alloc (.cells (priC f crc d s ⟨1, [110, 111, 110, 101], node, svc⟩ t q l o n) 26))
  have HB := hid (Blk.new w 26 (priC f crc d s ⟨1, [110, 111, 110, 101], node, svc⟩ t q l o n))
  clear hf h1 h2 hr
  go_enter Try.func8, Try.ntmps8
  go_upto_region 4 with fail
  generalize w.alloc (.cells (priC f crc d s ⟨1, [110, 111, 110, 101], node, svc⟩ t q l o n) 26) = V at *
  have HS : Hid (∀ W, Ext V W → W.cell? ⟨w.heap.size, 0, none⟩ = some (.int .u64 (f : Int)) ∧ W.cell? ⟨w.heap.size, 10, none⟩ = some (.int .i64 1) ∧ W.cell? ⟨w.heap.size, 11, none⟩ = some (str [110, 111, 110, 101]) ∧ W.cell? ⟨w.heap.size, 12, none⟩ = some (.int .u64 (node : Int)) ∧ W.cell? ⟨w.heap.size, 13, none⟩ = some (.int .u64 (svc : Int))) := fun W hW => ⟨(HB.out.ext hW).cell 0, (HB.out.ext hW).cell 10, (HB.out.ext hW).cell 11, (HB.out.ext hW).cell 12, (HB.out.ext hW).cell 13⟩
  obtain ⟨p0, p1, p2, p3, p4⟩ := HS.out V (Mod.refl _ _)
  go_region_held3 (fun w' => w'.cell? ⟨w.heap.size, 0, none⟩ = some (.int .u64 (f : Int)) ∧ w'.cell? ⟨w.heap.size, 10, none⟩ = some (.int .i64 1) ∧ w'.cell? ⟨w.heap.size, 11, none⟩ = some (str [110, 111, 110, 101]) ∧ w'.cell? ⟨w.heap.size, 12, none⟩ = some (.int .u64 (node : Int)) ∧ w'.cell? ⟨w.heap.size, 13, none⟩ = some (.int .u64 (svc : Int))) (go_keep)
    ((go_at_call 17; refine (eidNone_any _).mono ?_; rintro x w3 ⟨rfl, hb3⟩; have hx : Ext V w3 := (by (with_reducible refine Mod.trans ?_ hb3); (repeat (first | with_reducible assumption | with_reducible exact Mod.refl _ _ | with_reducible refine Mod.drew ?_))); have z := HS.out w3 hx))
  all_goals go_wp2_with fail
  all_goals go_ret
  all_goals exact Ret.mk rfl (by first | exact HE.out.trans hx | exact (HE.out.trans hx).drew)
theorem cW_false_node_1 (f : Nat) (hf : f < 18446744073709551616) (crc : Int) (d s : EV) (node svc : Nat) (hr : ¬ node = 0) (t q l o n : Nat) (h1 : f / 2 % 2 = 1) (w : World) : Calls Try.prog 8 #[.agg (priC f crc d s ⟨1, [110, 111, 110, 101], node, svc⟩ t q l o n), .bool false] w (Ret (.bool false) w) := by
  have a1 : bits .and .u64 (f : Int) 2 = 2 := by
    have h := and_yes (k := 1) hf (by omega) (by simpa using h1)
    simpa using h
  have n1 : (node = 0) = False := by simp [hr]
  have n2 : ((node : Int) == 0) = false := by simp; omega
  have n3 : ((node : Int) = 0) = False := by simp [hr]
  have HE := hid ((Mod.refl [] w).alloc (.cells (priC f crc d s ⟨1, [110, 111, 110, 101], node, svc⟩ t q l o n) 26))
  have HB := hid (Blk.new w 26 (priC f crc d s ⟨1, [110, 111, 110, 101], node, svc⟩ t q l o n))
  clear hf h1 hr
  go_enter Try.func8, Try.ntmps8
  go_upto_region 4 with fail
  go_quiet (fail)
  all_goals go_wp2_with fail
  all_goals go_ret
  all_goals exact Ret.mk rfl (by first | exact HE.out | exact HE.out.drewN _ | exact HE.out.drew)
theorem cW_false_svc_00 (f : Nat) (hf : f < 18446744073709551616) (crc : Int) (d s : EV) (svc : Nat) (hr : ¬ svc = 0) (t q l o n : Nat) (h1 : f / 2 % 2 = 0) (h2 : f / 16384 % 2 = 0) (w : World) : Calls Try.prog 8 #[.agg (priC f crc d s ⟨1, [110, 111, 110, 101], 0, svc⟩ t q l o n), .bool false] w (Ret (.bool false) w) := by
  have a1 : bits .and .u64 (f : Int) 2 = 0 := by
    have h := and_no (k := 1) hf (by omega) (by simpa using h1)
    simpa using h
  have a2 : bits .and .u64 (f : Int) 16384 = 0 := by
    have h := and_no (k := 14) hf (by omega) (by simpa using h2)
    simpa using h
  have n1 : (svc = 0) = False := by simp [hr]
  have n2 : ((svc : Int) == 0) = false := by simp; omega
  have n3 : ((svc : Int) = 0) = False := by simp [hr]
  have HE := hid ((Mod.refl [] w).alloc (.cells (priC f crc d s ⟨1, [110, 111, 110, 101], 0, svc⟩ t q l o n) 26))
  have HB := hid (Blk.new w 26 (priC f crc d s ⟨1, [110, 111, 110, 101], 0, svc⟩ t q l o n))
  clear hf h1 h2 hr
  go_enter Try.func8, Try.ntmps8
  go_upto_region 4 with fail
  generalize w.alloc (.cells (priC f crc d s ⟨1, [110, 111, 110, 101], 0, svc⟩ t q l o n) 26) = V at *
  have HS : Hid (∀ W, Ext V W → W.cell? ⟨w.heap.size, 0, none⟩ = some (.int .u64 (f : Int)) ∧ W.cell? ⟨w.heap.size, 10, none⟩ = some (.int .i64 1) ∧ W.cell? ⟨w.heap.size, 11, none⟩ = some (str [110, 111, 110, 101]) ∧ W.cell? ⟨w.heap.size, 12, none⟩ = some (.int .u64 0) ∧ W.cell? ⟨w.heap.size, 13, none⟩ = some (.int .u64 (svc : Int))) := fun W hW => ⟨(HB.out.ext hW).cell 0, (HB.out.ext hW).cell 10, (HB.out.ext hW).cell 11, (HB.out.ext hW).cell 12, (HB.out.ext hW).cell 13⟩
  obtain ⟨p0, p1, p2, p3, p4⟩ := HS.out V (Mod.refl _ _)
  go_region_held3 (fun w' => w'.cell? ⟨w.heap.size, 0, none⟩ = some (.int .u64 (f : Int)) ∧ w'.cell? ⟨w.heap.size, 10, none⟩ = some (.int .i64 1) ∧ w'.cell? ⟨w.heap.size, 11, none⟩ = some (str [110, 111, 110, 101]) ∧ w'.cell? ⟨w.heap.size, 12, none⟩ = some (.int .u64 0) ∧ w'.cell? ⟨w.heap.size, 13, none⟩ = some (.int .u64 (svc : Int))) (go_keep)
    ((go_at_call 17; refine (eidNone_any _).mono ?_; rintro x w3 ⟨rfl, hb3⟩; have hx : Ext V w3 := (by (with_reducible refine Mod.trans ?_ hb3); (repeat (first | with_reducible assumption | with_reducible exact Mod.refl _ _ | with_reducible refine Mod.drew ?_))); have z := HS.out w3 hx))
  all_goals go_wp2_with fail
  all_goals go_ret
  all_goals exact Ret.mk rfl (by first | exact HE.out.trans hx | exact (HE.out.trans hx).drew)
theorem cW_false_svc_01 (f : Nat) (hf : f < 18446744073709551616) (crc : Int) (d s : EV) (svc : Nat) (hr : ¬ svc = 0) (t q l o n : Nat) (h1 : f / 2 % 2 = 0) (h2 : f / 16384 % 2 = 1) (w : World) : Calls Try.prog 8 #[.agg (priC f crc d s ⟨1, [110, 111, 110, 101], 0, svc⟩ t q l o n), .bool false] w (Ret (.bool true) w) := by
  have a1 : bits .and .u64 (f : Int) 2 = 0 := by
    have h := and_no (k := 1) hf (by omega) (by simpa using h1)
    simpa using h
  have a2 : bits .and .u64 (f : Int) 16384 = 16384 := by
    have h := and_yes (k := 14) hf (by omega) (by simpa using h2)
    simpa using h
  have n1 : (svc = 0) = False := by simp [hr]
  have n2 : ((svc : Int) == 0) = false := by simp; omega
  have n3 : ((svc : Int) = 0) = False := by simp [hr]
  have HE := hid ((Mod.refl [] w).alloc (.cells (priC f crc d s ⟨1, [110, 111, 110, 101], 0, svc⟩ t q l o n) 26))
  have HB := hid (Blk.new w 26 (priC f crc d s ⟨1, [110, 111, 110, 101], 0, svc⟩ t q l o n))
  clear hf h1 h2 hr
  go_enter Try.func8, Try.ntmps8
  go_upto_region 4 with fail
  generalize w.alloc (.cells (priC f crc d s ⟨1, [110, 111, 110, 101], 0, svc⟩ t q l o n) 26) = V at *
  have HS : Hid (∀ W, Ext V W → W.cell? ⟨w.heap.size, 0, none⟩ = some (.int .u64 (f : Int)) ∧ W.cell? ⟨w.heap.size, 10, none⟩ = some (.int .i64 1) ∧ W.cell? ⟨w.heap.size, 11, none⟩ = some (str [110, 111, 110, 101]) ∧ W.cell? ⟨w.heap.size, 12, none⟩ = some (.int .u64 0) ∧ W.cell? ⟨w.heap.size, 13, none⟩ = some (.int .u64 (svc : Int))) := fun W hW => ⟨(HB.out.ext hW).cell 0, (HB.out.ext hW).cell 10, (HB.out.ext hW).cell 11, (HB.out.ext hW).cell 12, (HB.out.ext hW).cell 13⟩
  obtain ⟨p0, p1, p2, p3, p4⟩ := HS.out V (Mod.refl _ _)
  go_region_held3 (fun w' => w'.cell? ⟨w.heap.size, 0, none⟩ = some (.int .u64 (f : Int)) ∧ w'.cell? ⟨w.heap.size, 10, none⟩ = some (.int .i64 1) ∧ w'.cell? ⟨w.heap.size, 11, none⟩ = some (str [110, 111, 110, 101]) ∧ w'.cell? ⟨w.heap.size, 12, none⟩ = some (.int .u64 0) ∧ w'.cell? ⟨w.heap.size, 13, none⟩ = some (.int .u64 (svc : Int))) (go_keep)
    ((go_at_call 17; refine (eidNone_any _).mono ?_; rintro x w3 ⟨rfl, hb3⟩; have hx : Ext V w3 := (by (with_reducible refine Mod.trans ?_ hb3); (repeat (first | with_reducible assumption | with_reducible exact Mod.refl _ _ | with_reducible refine Mod.drew ?_))); have z := HS.out w3 hx))
  all_goals go_wp2_with fail
  all_goals go_ret
  all_goals exact Ret.mk rfl (by first | exact HE.out.trans hx | exact (HE.out.trans hx).drew)
theorem cW_false_svc_1 (f : Nat) (hf : f < 18446744073709551616) (crc : Int) (d s : EV) (svc : Nat) (hr : ¬ svc = 0) (t q l o n : Nat) (h1 : f / 2 % 2 = 1) (w : World) : Calls Try.prog 8 #[.agg (priC f crc d s ⟨1, [110, 111, 110, 101], 0, svc⟩ t q l o n), .bool false] w (Ret (.bool false) w) := by
  have a1 : bits .and .u64 (f : Int) 2 = 2 := by
    have h := and_yes (k := 1) hf (by omega) (by simpa using h1)
    simpa using h
  have n1 : (svc = 0) = False := by simp [hr]
  have n2 : ((svc : Int) == 0) = false := by simp; omega
  have n3 : ((svc : Int) = 0) = False := by simp [hr]
  have HE := hid ((Mod.refl [] w).alloc (.cells (priC f crc d s ⟨1, [110, 111, 110, 101], 0, svc⟩ t q l o n) 26))
  have HB := hid (Blk.new w 26 (priC f crc d s ⟨1, [110, 111, 110, 101], 0, svc⟩ t q l o n))
  clear hf h1 hr
  go_enter Try.func8, Try.ntmps8
  go_upto_region 4 with fail
  go_quiet (fail)
  all_goals go_wp2_with fail
  all_goals go_ret
  all_goals exact Ret.mk rfl (by first | exact HE.out | exact HE.out.drewN _ | exact HE.out.drew)
end Go.Proofs.Ytmgndegooeghkaa
