/-
  The law ReportWants: its walk.
-/
import Derived.Test.YtmgndegooeghkaaRep5
namespace Go.Proofs.Ytmgndegooeghkaa
open Go.RowKit
set_option linter.unusedVariables false

theorem mod2 (n : Nat) : n % 2 = 0 ∨ n % 2 = 1 := by omega
theorem val_of {P : Program} {f : FuncId} {args : Array Value} {w : World} {b c : Bool} (h : Calls P f args w (Ret (.bool b) w)) (e : c = b) : Calls P f args w (Ret (.bool c) w) := by rw [e]; exact h
theorem cWants_true (f : Nat) (hf : f < 18446744073709551616) (crc : Int) (d s r : EV) (t q l o n : Nat) (w : World) : Calls Try.prog 8 #[.agg (priC f crc d s r t q l o n), .bool true] w (Ret (.bool (wants f r 18)) w) := by
  obtain ⟨sch, name, node, svc⟩ := r
  have e0 : (2 : Nat) ^ 18 = 262144 := rfl
  rcases mod2 (f / 2) with h1 | h1
  · rcases mod2 (f / 262144) with h2 | h2
    · by_cases g1 : sch = 1
      · subst g1
        by_cases g2 : name = [110, 111, 110, 101]
        · subst g2
          by_cases g3 : node = 0
          · subst g3
            by_cases g4 : svc = 0
            · subst g4; exact val_of (cW_true_yes_0 f hf crc d s t q l o n h1 w) (by simp [wants, isNone, h1])
            · exact val_of (cW_true_svc_00 f hf crc d s svc g4 t q l o n h1 h2 w) (by simp [wants, isNone, h1, e0, h2, g4])
          · exact val_of (cW_true_node_00 f hf crc d s node svc g3 t q l o n h1 h2 w) (by simp [wants, isNone, h1, e0, h2, g3])
        · exact val_of (cW_true_name_00 f hf crc d s name node svc g2 t q l o n h1 h2 w) (by simp [wants, isNone, h1, e0, h2, g2])
      · exact val_of (cW_true_sch_00 f hf crc d s sch name node svc g1 t q l o n h1 h2 w) (by simp [wants, isNone, h1, e0, h2, g1])
    · by_cases g1 : sch = 1
      · subst g1
        by_cases g2 : name = [110, 111, 110, 101]
        · subst g2
          by_cases g3 : node = 0
          · subst g3
            by_cases g4 : svc = 0
            · subst g4; exact val_of (cW_true_yes_0 f hf crc d s t q l o n h1 w) (by simp [wants, isNone, h1])
            · exact val_of (cW_true_svc_01 f hf crc d s svc g4 t q l o n h1 h2 w) (by simp [wants, isNone, h1, e0, h2, g4])
          · exact val_of (cW_true_node_01 f hf crc d s node svc g3 t q l o n h1 h2 w) (by simp [wants, isNone, h1, e0, h2, g3])
        · exact val_of (cW_true_name_01 f hf crc d s name node svc g2 t q l o n h1 h2 w) (by simp [wants, isNone, h1, e0, h2, g2])
      · exact val_of (cW_true_sch_01 f hf crc d s sch name node svc g1 t q l o n h1 h2 w) (by simp [wants, isNone, h1, e0, h2, g1])
  · by_cases g1 : sch = 1
    · subst g1
      by_cases g2 : name = [110, 111, 110, 101]
      · subst g2
        by_cases g3 : node = 0
        · subst g3
          by_cases g4 : svc = 0
          · subst g4; exact val_of (cW_true_yes_1 f hf crc d s t q l o n h1 w) (by simp [wants, h1])
          · exact val_of (cW_true_svc_1 f hf crc d s svc g4 t q l o n h1 w) (by simp [wants, h1])
        · exact val_of (cW_true_node_1 f hf crc d s node svc g3 t q l o n h1 w) (by simp [wants, h1])
      · exact val_of (cW_true_name_1 f hf crc d s name node svc g2 t q l o n h1 w) (by simp [wants, h1])
    · exact val_of (cW_true_sch_1 f hf crc d s sch name node svc g1 t q l o n h1 w) (by simp [wants, h1])
theorem cWants_false (f : Nat) (hf : f < 18446744073709551616) (crc : Int) (d s r : EV) (t q l o n : Nat) (w : World) : Calls Try.prog 8 #[.agg (priC f crc d s r t q l o n), .bool false] w (Ret (.bool (wants f r 14)) w) := by
  obtain ⟨sch, name, node, svc⟩ := r
  have e0 : (2 : Nat) ^ 14 = 16384 := rfl
  rcases mod2 (f / 2) with h1 | h1
  · rcases mod2 (f / 16384) with h2 | h2
    · by_cases g1 : sch = 1
      · subst g1
        by_cases g2 : name = [110, 111, 110, 101]
        · subst g2
          by_cases g3 : node = 0
          · subst g3
            by_cases g4 : svc = 0
            · subst g4; exact val_of (cW_false_yes_0 f hf crc d s t q l o n h1 w) (by simp [wants, isNone, h1])
            · exact val_of (cW_false_svc_00 f hf crc d s svc g4 t q l o n h1 h2 w) (by simp [wants, isNone, h1, e0, h2, g4])
          · exact val_of (cW_false_node_00 f hf crc d s node svc g3 t q l o n h1 h2 w) (by simp [wants, isNone, h1, e0, h2, g3])
        · exact val_of (cW_false_name_00 f hf crc d s name node svc g2 t q l o n h1 h2 w) (by simp [wants, isNone, h1, e0, h2, g2])
      · exact val_of (cW_false_sch_00 f hf crc d s sch name node svc g1 t q l o n h1 h2 w) (by simp [wants, isNone, h1, e0, h2, g1])
    · by_cases g1 : sch = 1
      · subst g1
        by_cases g2 : name = [110, 111, 110, 101]
        · subst g2
          by_cases g3 : node = 0
          · subst g3
            by_cases g4 : svc = 0
            · subst g4; exact val_of (cW_false_yes_0 f hf crc d s t q l o n h1 w) (by simp [wants, isNone, h1])
            · exact val_of (cW_false_svc_01 f hf crc d s svc g4 t q l o n h1 h2 w) (by simp [wants, isNone, h1, e0, h2, g4])
          · exact val_of (cW_false_node_01 f hf crc d s node svc g3 t q l o n h1 h2 w) (by simp [wants, isNone, h1, e0, h2, g3])
        · exact val_of (cW_false_name_01 f hf crc d s name node svc g2 t q l o n h1 h2 w) (by simp [wants, isNone, h1, e0, h2, g2])
      · exact val_of (cW_false_sch_01 f hf crc d s sch name node svc g1 t q l o n h1 h2 w) (by simp [wants, isNone, h1, e0, h2, g1])
  · by_cases g1 : sch = 1
    · subst g1
      by_cases g2 : name = [110, 111, 110, 101]
      · subst g2
        by_cases g3 : node = 0
        · subst g3
          by_cases g4 : svc = 0
          · subst g4; exact val_of (cW_false_yes_1 f hf crc d s t q l o n h1 w) (by simp [wants, h1])
          · exact val_of (cW_false_svc_1 f hf crc d s svc g4 t q l o n h1 w) (by simp [wants, h1])
        · exact val_of (cW_false_node_1 f hf crc d s node svc g3 t q l o n h1 w) (by simp [wants, h1])
      · exact val_of (cW_false_name_1 f hf crc d s name node svc g2 t q l o n h1 w) (by simp [wants, h1])
    · exact val_of (cW_false_sch_1 f hf crc d s sch name node svc g1 t q l o n h1 w) (by simp [wants, h1])
theorem rWants_true (f : Nat) (hf : f < 18446744073709551616) (crc : Int) (d s r : EV) (t q l o n : Nat) (w : World) : Calls Try.prog 9 #[.agg (priC f crc d s r t q l o n), .bool true] w (Ret (.bool (wants f r 18)) w) := by
  obtain ⟨sch, name, node, svc⟩ := r
  have e0 : (2 : Nat) ^ 18 = 262144 := rfl
  rcases mod2 (f / 2) with h1 | h1
  · rcases mod2 (f / 262144) with h2 | h2
    · by_cases g1 : sch = 1
      · subst g1
        by_cases g2 : name = [110, 111, 110, 101]
        · subst g2
          by_cases g3 : node = 0
          · subst g3
            by_cases g4 : svc = 0
            · subst g4; exact val_of (rW_true_yes_00 f hf crc d s t q l o n h1 h2 w) (by simp [wants, isNone, h1])
            · exact val_of (rW_true_svc_00 f hf crc d s svc g4 t q l o n h1 h2 w) (by simp [wants, isNone, h1, e0, h2, g4])
          · exact val_of (rW_true_node_00 f hf crc d s node svc g3 t q l o n h1 h2 w) (by simp [wants, isNone, h1, e0, h2, g3])
        · exact val_of (rW_true_name_00 f hf crc d s name node svc g2 t q l o n h1 h2 w) (by simp [wants, isNone, h1, e0, h2, g2])
      · exact val_of (rW_true_sch_00 f hf crc d s sch name node svc g1 t q l o n h1 h2 w) (by simp [wants, isNone, h1, e0, h2, g1])
    · by_cases g1 : sch = 1
      · subst g1
        by_cases g2 : name = [110, 111, 110, 101]
        · subst g2
          by_cases g3 : node = 0
          · subst g3
            by_cases g4 : svc = 0
            · subst g4; exact val_of (rW_true_yes_01 f hf crc d s t q l o n h1 h2 w) (by simp [wants, isNone, h1])
            · exact val_of (rW_true_svc_01 f hf crc d s svc g4 t q l o n h1 h2 w) (by simp [wants, isNone, h1, e0, h2, g4])
          · exact val_of (rW_true_node_01 f hf crc d s node svc g3 t q l o n h1 h2 w) (by simp [wants, isNone, h1, e0, h2, g3])
        · exact val_of (rW_true_name_01 f hf crc d s name node svc g2 t q l o n h1 h2 w) (by simp [wants, isNone, h1, e0, h2, g2])
      · exact val_of (rW_true_sch_01 f hf crc d s sch name node svc g1 t q l o n h1 h2 w) (by simp [wants, isNone, h1, e0, h2, g1])
  · rcases mod2 (f / 262144) with h2 | h2
    · by_cases g1 : sch = 1
      · subst g1
        by_cases g2 : name = [110, 111, 110, 101]
        · subst g2
          by_cases g3 : node = 0
          · subst g3
            by_cases g4 : svc = 0
            · subst g4; exact val_of (rW_true_yes_10 f hf crc d s t q l o n h1 h2 w) (by simp [wants, h1])
            · exact val_of (rW_true_svc_10 f hf crc d s svc g4 t q l o n h1 h2 w) (by simp [wants, h1])
          · exact val_of (rW_true_node_10 f hf crc d s node svc g3 t q l o n h1 h2 w) (by simp [wants, h1])
        · exact val_of (rW_true_name_10 f hf crc d s name node svc g2 t q l o n h1 h2 w) (by simp [wants, h1])
      · exact val_of (rW_true_sch_10 f hf crc d s sch name node svc g1 t q l o n h1 h2 w) (by simp [wants, h1])
    · by_cases g1 : sch = 1
      · subst g1
        by_cases g2 : name = [110, 111, 110, 101]
        · subst g2
          by_cases g3 : node = 0
          · subst g3
            by_cases g4 : svc = 0
            · subst g4; exact val_of (rW_true_yes_11 f hf crc d s t q l o n h1 h2 w) (by simp [wants, h1])
            · exact val_of (rW_true_svc_11 f hf crc d s svc g4 t q l o n h1 h2 w) (by simp [wants, h1])
          · exact val_of (rW_true_node_11 f hf crc d s node svc g3 t q l o n h1 h2 w) (by simp [wants, h1])
        · exact val_of (rW_true_name_11 f hf crc d s name node svc g2 t q l o n h1 h2 w) (by simp [wants, h1])
      · exact val_of (rW_true_sch_11 f hf crc d s sch name node svc g1 t q l o n h1 h2 w) (by simp [wants, h1])
theorem rWants_false (f : Nat) (hf : f < 18446744073709551616) (crc : Int) (d s r : EV) (t q l o n : Nat) (w : World) : Calls Try.prog 9 #[.agg (priC f crc d s r t q l o n), .bool false] w (Ret (.bool (wants f r 14)) w) := by
  obtain ⟨sch, name, node, svc⟩ := r
  have e0 : (2 : Nat) ^ 14 = 16384 := rfl
  rcases mod2 (f / 2) with h1 | h1
  · rcases mod2 (f / 16384) with h2 | h2
    · by_cases g1 : sch = 1
      · subst g1
        by_cases g2 : name = [110, 111, 110, 101]
        · subst g2
          by_cases g3 : node = 0
          · subst g3
            by_cases g4 : svc = 0
            · subst g4; exact val_of (rW_false_yes_00 f hf crc d s t q l o n h1 h2 w) (by simp [wants, isNone, h1])
            · exact val_of (rW_false_svc_00 f hf crc d s svc g4 t q l o n h1 h2 w) (by simp [wants, isNone, h1, e0, h2, g4])
          · exact val_of (rW_false_node_00 f hf crc d s node svc g3 t q l o n h1 h2 w) (by simp [wants, isNone, h1, e0, h2, g3])
        · exact val_of (rW_false_name_00 f hf crc d s name node svc g2 t q l o n h1 h2 w) (by simp [wants, isNone, h1, e0, h2, g2])
      · exact val_of (rW_false_sch_00 f hf crc d s sch name node svc g1 t q l o n h1 h2 w) (by simp [wants, isNone, h1, e0, h2, g1])
    · by_cases g1 : sch = 1
      · subst g1
        by_cases g2 : name = [110, 111, 110, 101]
        · subst g2
          by_cases g3 : node = 0
          · subst g3
            by_cases g4 : svc = 0
            · subst g4; exact val_of (rW_false_yes_01 f hf crc d s t q l o n h1 h2 w) (by simp [wants, isNone, h1])
            · exact val_of (rW_false_svc_01 f hf crc d s svc g4 t q l o n h1 h2 w) (by simp [wants, isNone, h1, e0, h2, g4])
          · exact val_of (rW_false_node_01 f hf crc d s node svc g3 t q l o n h1 h2 w) (by simp [wants, isNone, h1, e0, h2, g3])
        · exact val_of (rW_false_name_01 f hf crc d s name node svc g2 t q l o n h1 h2 w) (by simp [wants, isNone, h1, e0, h2, g2])
      · exact val_of (rW_false_sch_01 f hf crc d s sch name node svc g1 t q l o n h1 h2 w) (by simp [wants, isNone, h1, e0, h2, g1])
  · rcases mod2 (f / 16384) with h2 | h2
    · by_cases g1 : sch = 1
      · subst g1
        by_cases g2 : name = [110, 111, 110, 101]
        · subst g2
          by_cases g3 : node = 0
          · subst g3
            by_cases g4 : svc = 0
            · subst g4; exact val_of (rW_false_yes_10 f hf crc d s t q l o n h1 h2 w) (by simp [wants, h1])
            · exact val_of (rW_false_svc_10 f hf crc d s svc g4 t q l o n h1 h2 w) (by simp [wants, h1])
          · exact val_of (rW_false_node_10 f hf crc d s node svc g3 t q l o n h1 h2 w) (by simp [wants, h1])
        · exact val_of (rW_false_name_10 f hf crc d s name node svc g2 t q l o n h1 h2 w) (by simp [wants, h1])
      · exact val_of (rW_false_sch_10 f hf crc d s sch name node svc g1 t q l o n h1 h2 w) (by simp [wants, h1])
    · by_cases g1 : sch = 1
      · subst g1
        by_cases g2 : name = [110, 111, 110, 101]
        · subst g2
          by_cases g3 : node = 0
          · subst g3
            by_cases g4 : svc = 0
            · subst g4; exact val_of (rW_false_yes_11 f hf crc d s t q l o n h1 h2 w) (by simp [wants, h1])
            · exact val_of (rW_false_svc_11 f hf crc d s svc g4 t q l o n h1 h2 w) (by simp [wants, h1])
          · exact val_of (rW_false_node_11 f hf crc d s node svc g3 t q l o n h1 h2 w) (by simp [wants, h1])
        · exact val_of (rW_false_name_11 f hf crc d s name node svc g2 t q l o n h1 h2 w) (by simp [wants, h1])
      · exact val_of (rW_false_sch_11 f hf crc d s sch name node svc g1 t q l o n h1 h2 w) (by simp [wants, h1])
end Go.Proofs.Ytmgndegooeghkaa
