/-
  Primaries: small ones; what they want.
-/
import Derived.Test.YtmgndegooeghkaaRep3
import Derived.Laws.BitsAllLaws
namespace Go.Proofs.Ytmgndegooeghkaa
open Go.RowKit
set_option linter.unusedVariables false

theorem and_pow (f k : Nat) : f &&& 2 ^ k = if f.testBit k = true then 2 ^ k else 0 := by
  apply Nat.eq_of_testBit_eq
  intro i
  rw [Nat.testBit_and, Nat.testBit_two_pow]
  by_cases h : k = i
  · subst h
    cases f.testBit k <;> simp [Nat.testBit_two_pow]
  · cases f.testBit k <;> simp [Nat.testBit_two_pow, h]
theorem u64_and_pow (f k : Nat) (hf : f < 18446744073709551616) (hk : k < 64) : bits .and .u64 (f : Int) ((2 ^ k : Nat) : Int) = if f / 2 ^ k % 2 = 1 then ((2 ^ k : Nat) : Int) else 0 := by
  have h2 : 2 ^ k < 18446744073709551616 := by
    have : 2 ^ k < 2 ^ 64 := Nat.pow_lt_pow_right (by omega) hk
    omega
  have h1 : bits .and .u64 (f : Int) ((2 ^ k : Nat) : Int) = ((f &&& 2 ^ k : Nat) : Int) := u64_and_nat f (2 ^ k) hf h2
  rw [h1, and_pow, Nat.testBit_eq_decide_div_mod_eq]
  by_cases h : f / 2 ^ k % 2 = 1 <;> simp [h]

/-- A name. -/
structure EV where
  sch : Int
  name : List UInt8
  node : Nat
  svc : Nat
abbrev EV.v (e : EV) : Value := eidV e.sch e.name e.node e.svc
/-- A primary's cells. -/
abbrev priC (f : Nat) (crc : Int) (d s r : EV) (t q l o n : Nat) : Array Value := #[.int .u64 (f : Int), .int .i64 crc, .int .i64 d.sch, str d.name, .int .u64 (d.node : Int), .int .u64 (d.svc : Int), .int .i64 s.sch, str s.name, .int .u64 (s.node : Int), .int .u64 (s.svc : Int), .int .i64 r.sch, str r.name, .int .u64 (r.node : Int), .int .u64 (r.svc : Int), .int .u64 (t : Int), .int .u64 (q : Int), .int .u64 (l : Int), .int .u64 (o : Int), .int .u64 (n : Int)]

theorem few10_any (e : EV) (w : World) : Calls Try.prog 10 #[e.v] w (Ret (.bool (decide (e.name.length ≤ 100))) w) := by
  go_enter Try.func10, Try.ntmps10
  go_wp2
  go_ret
  refine Ret.mk ?_ ((Mod.refl _ _).alloc _)
  simp
  omega

set_option maxRecDepth 20000 in
set_option maxHeartbeats 1600000 in
theorem few11_any (f : Nat) (crc : Int) (d s r : EV) (t q l o n : Nat) (w : World) : Calls Try.prog 7 #[.agg (priC f crc d s r t q l o n)] w (Ret (.bool (decide (d.name.length ≤ 100) && decide (s.name.length ≤ 100) && decide (r.name.length ≤ 100))) w) := by
  have HB := hid (Blk.new w 26 (priC f crc d s r t q l o n))
  have HE := hid ((Mod.refl [] w).alloc (.cells (priC f crc d s r t q l o n) 26))
  obtain ⟨b1, h1⟩ : ∃ b, b = decide (d.name.length ≤ 100) := ⟨_, rfl⟩
  obtain ⟨b2, h2⟩ : ∃ b, b = decide (s.name.length ≤ 100) := ⟨_, rfl⟩
  obtain ⟨b3, h3⟩ : ∃ b, b = decide (r.name.length ≤ 100) := ⟨_, rfl⟩
  rw [← h1, ← h2, ← h3]
  have H1 := hid h1; have H2 := hid h2; have H3 := hid h3
  clear h1 h2 h3
  go_enter Try.func7, Try.ntmps7
  go_wp2_with fail
  refine (few10_any d _).mono ?_
  rintro e w1 ⟨rfl, hb1⟩
  rw [← H1.out]
  have HE1 := hid (HE.out.trans hb1)
  have c6 : w1.cell? ⟨w.heap.size, 6, none⟩ = some (.int .i64 s.sch) := (HB.out.ext hb1).cell 6
  have c7 : w1.cell? ⟨w.heap.size, 7, none⟩ = some (str s.name) := (HB.out.ext hb1).cell 7
  have c8 : w1.cell? ⟨w.heap.size, 8, none⟩ = some (.int .u64 (s.node : Int)) := (HB.out.ext hb1).cell 8
  have c9 : w1.cell? ⟨w.heap.size, 9, none⟩ = some (.int .u64 (s.svc : Int)) := (HB.out.ext hb1).cell 9
  have HB1 := hid (HB.out.ext hb1)
  clear hb1
  cases b1
  · go_wp2_with fail
    go_ret
    exact Ret.mk rfl HE1.out
  · go_wp2_with fail
    refine (few10_any s _).mono ?_
    rintro e w2 ⟨rfl, hb2⟩
    rw [← H2.out]
    have HE2 := hid (HE1.out.trans hb2)
    have d6 : w2.cell? ⟨w.heap.size, 10, none⟩ = some (.int .i64 r.sch) := (HB1.out.ext hb2).cell 10
    have d7 : w2.cell? ⟨w.heap.size, 11, none⟩ = some (str r.name) := (HB1.out.ext hb2).cell 11
    have d8 : w2.cell? ⟨w.heap.size, 12, none⟩ = some (.int .u64 (r.node : Int)) := (HB1.out.ext hb2).cell 12
    have d9 : w2.cell? ⟨w.heap.size, 13, none⟩ = some (.int .u64 (r.svc : Int)) := (HB1.out.ext hb2).cell 13
    clear hb2 c6 c7 c8 c9
    cases b2
    · go_wp2_with fail
      go_ret
      exact Ret.mk rfl HE2.out
    · go_wp2_with fail
      refine (few10_any r _).mono ?_
      rintro e w3 ⟨rfl, hb3⟩
      rw [← H3.out]
      go_wp2_with fail
      go_ret
      exact Ret.mk rfl (HE2.out.trans hb3)

/-- Nobody's name? -/
def isNone (e : EV) : Bool := e.sch == 1 && e.name == [110, 111, 110, 101] && e.node == 0 && e.svc == 0
def wants (f : Nat) (r : EV) (k : Nat) : Bool := decide (f / 2 % 2 = 0) && !isNone r && decide (f / 2 ^ k % 2 = 1)

theorem and_no {f k : Nat} (hf : f < 18446744073709551616) (hk : k < 64) (h : f / 2 ^ k % 2 = 0) : bits .and .u64 (f : Int) ((2 ^ k : Nat) : Int) = 0 := by rw [u64_and_pow f k hf hk, if_neg (by omega)]
theorem and_yes {f k : Nat} (hf : f < 18446744073709551616) (hk : k < 64) (h : f / 2 ^ k % 2 = 1) : bits .and .u64 (f : Int) ((2 ^ k : Nat) : Int) = ((2 ^ k : Nat) : Int) := by rw [u64_and_pow f k hf hk, if_pos h]
theorem quo_rem {f c x : Nat} (hf : f < 18446744073709551616) (h : f / c % 2 = x) : (IntKind.u64.wrap ((f : Int) / (c : Int))).tmod 2 = (x : Int) := by
  have h1 : (f : Int) / (c : Int) = ((f / c : Nat) : Int) := by simp
  have h2 : f / c ≤ f := Nat.div_le_self _ _
  rw [h1]
  generalize f / c = y at *
  rw [IntWalk.u64_in _ (by omega), Int.tmod_eq_emod_of_nonneg (by omega)]
  omega

theorem rW_true_yes_00 (f : Nat) (hf : f < 18446744073709551616) (crc : Int) (d s : EV) (t q l o n : Nat) (h1 : f / 2 % 2 = 0) (h2 : f / 262144 % 2 = 0) (w : World) : Calls Try.prog 9 #[.agg (priC f crc d s ⟨1, [110, 111, 110, 101], 0, 0⟩ t q l o n), .bool true] w (Ret (.bool false) w) := by
  have a1 : (IntKind.u64.wrap ((f : Int) / 2)).tmod 2 = 0 := quo_rem (c := 2) hf h1
  have a2 : (IntKind.u64.wrap ((f : Int) / 262144)).tmod 2 = 0 := quo_rem (c := 262144) hf h2
  have f0 : (0 : Int) ≤ (f : Int) := by omega
  clear hf h1 h2
  go_enter Try.func9, Try.ntmps9
  go_wp2_with fail
  go_ret
  exact Ret.mk rfl ((Mod.refl _ _).alloc _)
theorem rW_true_yes_01 (f : Nat) (hf : f < 18446744073709551616) (crc : Int) (d s : EV) (t q l o n : Nat) (h1 : f / 2 % 2 = 0) (h2 : f / 262144 % 2 = 1) (w : World) : Calls Try.prog 9 #[.agg (priC f crc d s ⟨1, [110, 111, 110, 101], 0, 0⟩ t q l o n), .bool true] w (Ret (.bool false) w) := by
  have a1 : (IntKind.u64.wrap ((f : Int) / 2)).tmod 2 = 0 := quo_rem (c := 2) hf h1
  have a2 : (IntKind.u64.wrap ((f : Int) / 262144)).tmod 2 = 1 := quo_rem (c := 262144) hf h2
  have f0 : (0 : Int) ≤ (f : Int) := by omega
  clear hf h1 h2
  go_enter Try.func9, Try.ntmps9
  go_wp2_with fail
  go_ret
  exact Ret.mk rfl ((Mod.refl _ _).alloc _)
theorem rW_true_yes_10 (f : Nat) (hf : f < 18446744073709551616) (crc : Int) (d s : EV) (t q l o n : Nat) (h1 : f / 2 % 2 = 1) (h2 : f / 262144 % 2 = 0) (w : World) : Calls Try.prog 9 #[.agg (priC f crc d s ⟨1, [110, 111, 110, 101], 0, 0⟩ t q l o n), .bool true] w (Ret (.bool false) w) := by
  have a1 : (IntKind.u64.wrap ((f : Int) / 2)).tmod 2 = 1 := quo_rem (c := 2) hf h1
  have a2 : (IntKind.u64.wrap ((f : Int) / 262144)).tmod 2 = 0 := quo_rem (c := 262144) hf h2
  have f0 : (0 : Int) ≤ (f : Int) := by omega
  clear hf h1 h2
  go_enter Try.func9, Try.ntmps9
  go_wp2_with fail
  go_ret
  exact Ret.mk rfl ((Mod.refl _ _).alloc _)
theorem rW_true_yes_11 (f : Nat) (hf : f < 18446744073709551616) (crc : Int) (d s : EV) (t q l o n : Nat) (h1 : f / 2 % 2 = 1) (h2 : f / 262144 % 2 = 1) (w : World) : Calls Try.prog 9 #[.agg (priC f crc d s ⟨1, [110, 111, 110, 101], 0, 0⟩ t q l o n), .bool true] w (Ret (.bool false) w) := by
  have a1 : (IntKind.u64.wrap ((f : Int) / 2)).tmod 2 = 1 := quo_rem (c := 2) hf h1
  have a2 : (IntKind.u64.wrap ((f : Int) / 262144)).tmod 2 = 1 := quo_rem (c := 262144) hf h2
  have f0 : (0 : Int) ≤ (f : Int) := by omega
  clear hf h1 h2
  go_enter Try.func9, Try.ntmps9
  go_wp2_with fail
  go_ret
  exact Ret.mk rfl ((Mod.refl _ _).alloc _)
theorem rW_true_sch_00 (f : Nat) (hf : f < 18446744073709551616) (crc : Int) (d s : EV) (sch : Int) (name : List UInt8) (node svc : Nat) (hr : ¬ sch = 1) (t q l o n : Nat) (h1 : f / 2 % 2 = 0) (h2 : f / 262144 % 2 = 0) (w : World) : Calls Try.prog 9 #[.agg (priC f crc d s ⟨sch, name, node, svc⟩ t q l o n), .bool true] w (Ret (.bool false) w) := by
  have a1 : (IntKind.u64.wrap ((f : Int) / 2)).tmod 2 = 0 := quo_rem (c := 2) hf h1
  have a2 : (IntKind.u64.wrap ((f : Int) / 262144)).tmod 2 = 0 := quo_rem (c := 262144) hf h2
  have f0 : (0 : Int) ≤ (f : Int) := by omega
  have n1 : (sch = 1) = False := by simp [hr]
  have n2 : (sch == 1) = false := by simp [hr]
  clear hf h1 h2 hr
  go_enter Try.func9, Try.ntmps9
  go_wp2_with fail
  go_ret
  exact Ret.mk rfl ((Mod.refl _ _).alloc _)
theorem rW_true_sch_01 (f : Nat) (hf : f < 18446744073709551616) (crc : Int) (d s : EV) (sch : Int) (name : List UInt8) (node svc : Nat) (hr : ¬ sch = 1) (t q l o n : Nat) (h1 : f / 2 % 2 = 0) (h2 : f / 262144 % 2 = 1) (w : World) : Calls Try.prog 9 #[.agg (priC f crc d s ⟨sch, name, node, svc⟩ t q l o n), .bool true] w (Ret (.bool true) w) := by
  have a1 : (IntKind.u64.wrap ((f : Int) / 2)).tmod 2 = 0 := quo_rem (c := 2) hf h1
  have a2 : (IntKind.u64.wrap ((f : Int) / 262144)).tmod 2 = 1 := quo_rem (c := 262144) hf h2
  have f0 : (0 : Int) ≤ (f : Int) := by omega
  have n1 : (sch = 1) = False := by simp [hr]
  have n2 : (sch == 1) = false := by simp [hr]
  clear hf h1 h2 hr
  go_enter Try.func9, Try.ntmps9
  go_wp2_with fail
  go_ret
  exact Ret.mk rfl ((Mod.refl _ _).alloc _)
theorem rW_true_sch_10 (f : Nat) (hf : f < 18446744073709551616) (crc : Int) (d s : EV) (sch : Int) (name : List UInt8) (node svc : Nat) (hr : ¬ sch = 1) (t q l o n : Nat) (h1 : f / 2 % 2 = 1) (h2 : f / 262144 % 2 = 0) (w : World) : Calls Try.prog 9 #[.agg (priC f crc d s ⟨sch, name, node, svc⟩ t q l o n), .bool true] w (Ret (.bool false) w) := by
  have a1 : (IntKind.u64.wrap ((f : Int) / 2)).tmod 2 = 1 := quo_rem (c := 2) hf h1
  have a2 : (IntKind.u64.wrap ((f : Int) / 262144)).tmod 2 = 0 := quo_rem (c := 262144) hf h2
  have f0 : (0 : Int) ≤ (f : Int) := by omega
  have n1 : (sch = 1) = False := by simp [hr]
  have n2 : (sch == 1) = false := by simp [hr]
  clear hf h1 h2 hr
  go_enter Try.func9, Try.ntmps9
  go_wp2_with fail
  go_ret
  exact Ret.mk rfl ((Mod.refl _ _).alloc _)
theorem rW_true_sch_11 (f : Nat) (hf : f < 18446744073709551616) (crc : Int) (d s : EV) (sch : Int) (name : List UInt8) (node svc : Nat) (hr : ¬ sch = 1) (t q l o n : Nat) (h1 : f / 2 % 2 = 1) (h2 : f / 262144 % 2 = 1) (w : World) : Calls Try.prog 9 #[.agg (priC f crc d s ⟨sch, name, node, svc⟩ t q l o n), .bool true] w (Ret (.bool false) w) := by
  have a1 : (IntKind.u64.wrap ((f : Int) / 2)).tmod 2 = 1 := quo_rem (c := 2) hf h1
  have a2 : (IntKind.u64.wrap ((f : Int) / 262144)).tmod 2 = 1 := quo_rem (c := 262144) hf h2
  have f0 : (0 : Int) ≤ (f : Int) := by omega
  have n1 : (sch = 1) = False := by simp [hr]
  have n2 : (sch == 1) = false := by simp [hr]
  clear hf h1 h2 hr
  go_enter Try.func9, Try.ntmps9
  go_wp2_with fail
  go_ret
  exact Ret.mk rfl ((Mod.refl _ _).alloc _)
theorem rW_true_name_00 (f : Nat) (hf : f < 18446744073709551616) (crc : Int) (d s : EV) (name : List UInt8) (node svc : Nat) (hr : ¬ name = [110, 111, 110, 101]) (t q l o n : Nat) (h1 : f / 2 % 2 = 0) (h2 : f / 262144 % 2 = 0) (w : World) : Calls Try.prog 9 #[.agg (priC f crc d s ⟨1, name, node, svc⟩ t q l o n), .bool true] w (Ret (.bool false) w) := by
  have a1 : (IntKind.u64.wrap ((f : Int) / 2)).tmod 2 = 0 := quo_rem (c := 2) hf h1
  have a2 : (IntKind.u64.wrap ((f : Int) / 262144)).tmod 2 = 0 := quo_rem (c := 262144) hf h2
  have f0 : (0 : Int) ≤ (f : Int) := by omega
  have n1 : (name = [110, 111, 110, 101]) = False := by simp [hr]
  have n2 : (name == [110, 111, 110, 101]) = false := by simp [hr]
  clear hf h1 h2 hr
  go_enter Try.func9, Try.ntmps9
  go_wp2_with fail
  go_ret
  exact Ret.mk rfl ((Mod.refl _ _).alloc _)
theorem rW_true_name_01 (f : Nat) (hf : f < 18446744073709551616) (crc : Int) (d s : EV) (name : List UInt8) (node svc : Nat) (hr : ¬ name = [110, 111, 110, 101]) (t q l o n : Nat) (h1 : f / 2 % 2 = 0) (h2 : f / 262144 % 2 = 1) (w : World) : Calls Try.prog 9 #[.agg (priC f crc d s ⟨1, name, node, svc⟩ t q l o n), .bool true] w (Ret (.bool true) w) := by
  have a1 : (IntKind.u64.wrap ((f : Int) / 2)).tmod 2 = 0 := quo_rem (c := 2) hf h1
  have a2 : (IntKind.u64.wrap ((f : Int) / 262144)).tmod 2 = 1 := quo_rem (c := 262144) hf h2
  have f0 : (0 : Int) ≤ (f : Int) := by omega
  have n1 : (name = [110, 111, 110, 101]) = False := by simp [hr]
  have n2 : (name == [110, 111, 110, 101]) = false := by simp [hr]
  clear hf h1 h2 hr
  go_enter Try.func9, Try.ntmps9
  go_wp2_with fail
  go_ret
  exact Ret.mk rfl ((Mod.refl _ _).alloc _)
theorem rW_true_name_10 (f : Nat) (hf : f < 18446744073709551616) (crc : Int) (d s : EV) (name : List UInt8) (node svc : Nat) (hr : ¬ name = [110, 111, 110, 101]) (t q l o n : Nat) (h1 : f / 2 % 2 = 1) (h2 : f / 262144 % 2 = 0) (w : World) : Calls Try.prog 9 #[.agg (priC f crc d s ⟨1, name, node, svc⟩ t q l o n), .bool true] w (Ret (.bool false) w) := by
  have a1 : (IntKind.u64.wrap ((f : Int) / 2)).tmod 2 = 1 := quo_rem (c := 2) hf h1
  have a2 : (IntKind.u64.wrap ((f : Int) / 262144)).tmod 2 = 0 := quo_rem (c := 262144) hf h2
  have f0 : (0 : Int) ≤ (f : Int) := by omega
  have n1 : (name = [110, 111, 110, 101]) = False := by simp [hr]
  have n2 : (name == [110, 111, 110, 101]) = false := by simp [hr]
  clear hf h1 h2 hr
  go_enter Try.func9, Try.ntmps9
  go_wp2_with fail
  go_ret
  exact Ret.mk rfl ((Mod.refl _ _).alloc _)
theorem rW_true_name_11 (f : Nat) (hf : f < 18446744073709551616) (crc : Int) (d s : EV) (name : List UInt8) (node svc : Nat) (hr : ¬ name = [110, 111, 110, 101]) (t q l o n : Nat) (h1 : f / 2 % 2 = 1) (h2 : f / 262144 % 2 = 1) (w : World) : Calls Try.prog 9 #[.agg (priC f crc d s ⟨1, name, node, svc⟩ t q l o n), .bool true] w (Ret (.bool false) w) := by
  have a1 : (IntKind.u64.wrap ((f : Int) / 2)).tmod 2 = 1 := quo_rem (c := 2) hf h1
  have a2 : (IntKind.u64.wrap ((f : Int) / 262144)).tmod 2 = 1 := quo_rem (c := 262144) hf h2
  have f0 : (0 : Int) ≤ (f : Int) := by omega
  have n1 : (name = [110, 111, 110, 101]) = False := by simp [hr]
  have n2 : (name == [110, 111, 110, 101]) = false := by simp [hr]
  clear hf h1 h2 hr
  go_enter Try.func9, Try.ntmps9
  go_wp2_with fail
  go_ret
  exact Ret.mk rfl ((Mod.refl _ _).alloc _)
theorem rW_true_node_00 (f : Nat) (hf : f < 18446744073709551616) (crc : Int) (d s : EV) (node svc : Nat) (hr : ¬ node = 0) (t q l o n : Nat) (h1 : f / 2 % 2 = 0) (h2 : f / 262144 % 2 = 0) (w : World) : Calls Try.prog 9 #[.agg (priC f crc d s ⟨1, [110, 111, 110, 101], node, svc⟩ t q l o n), .bool true] w (Ret (.bool false) w) := by
  have a1 : (IntKind.u64.wrap ((f : Int) / 2)).tmod 2 = 0 := quo_rem (c := 2) hf h1
  have a2 : (IntKind.u64.wrap ((f : Int) / 262144)).tmod 2 = 0 := quo_rem (c := 262144) hf h2
  have f0 : (0 : Int) ≤ (f : Int) := by omega
  have n1 : (node = 0) = False := by simp [hr]
  have n2 : ((node : Int) == 0) = false := by simp; omega
  have n3 : ((node : Int) = 0) = False := by simp [hr]
  clear hf h1 h2 hr
  go_enter Try.func9, Try.ntmps9
  go_wp2_with fail
  go_ret
  exact Ret.mk rfl ((Mod.refl _ _).alloc _)
theorem rW_true_node_01 (f : Nat) (hf : f < 18446744073709551616) (crc : Int) (d s : EV) (node svc : Nat) (hr : ¬ node = 0) (t q l o n : Nat) (h1 : f / 2 % 2 = 0) (h2 : f / 262144 % 2 = 1) (w : World) : Calls Try.prog 9 #[.agg (priC f crc d s ⟨1, [110, 111, 110, 101], node, svc⟩ t q l o n), .bool true] w (Ret (.bool true) w) := by
  have a1 : (IntKind.u64.wrap ((f : Int) / 2)).tmod 2 = 0 := quo_rem (c := 2) hf h1
  have a2 : (IntKind.u64.wrap ((f : Int) / 262144)).tmod 2 = 1 := quo_rem (c := 262144) hf h2
  have f0 : (0 : Int) ≤ (f : Int) := by omega
  have n1 : (node = 0) = False := by simp [hr]
  have n2 : ((node : Int) == 0) = false := by simp; omega
  have n3 : ((node : Int) = 0) = False := by simp [hr]
  clear hf h1 h2 hr
  go_enter Try.func9, Try.ntmps9
  go_wp2_with fail
  go_ret
  exact Ret.mk rfl ((Mod.refl _ _).alloc _)
theorem rW_true_node_10 (f : Nat) (hf : f < 18446744073709551616) (crc : Int) (d s : EV) (node svc : Nat) (hr : ¬ node = 0) (t q l o n : Nat) (h1 : f / 2 % 2 = 1) (h2 : f / 262144 % 2 = 0) (w : World) : Calls Try.prog 9 #[.agg (priC f crc d s ⟨1, [110, 111, 110, 101], node, svc⟩ t q l o n), .bool true] w (Ret (.bool false) w) := by
  have a1 : (IntKind.u64.wrap ((f : Int) / 2)).tmod 2 = 1 := quo_rem (c := 2) hf h1
  have a2 : (IntKind.u64.wrap ((f : Int) / 262144)).tmod 2 = 0 := quo_rem (c := 262144) hf h2
  have f0 : (0 : Int) ≤ (f : Int) := by omega
  have n1 : (node = 0) = False := by simp [hr]
  have n2 : ((node : Int) == 0) = false := by simp; omega
  have n3 : ((node : Int) = 0) = False := by simp [hr]
  clear hf h1 h2 hr
  go_enter Try.func9, Try.ntmps9
  go_wp2_with fail
  go_ret
  exact Ret.mk rfl ((Mod.refl _ _).alloc _)
theorem rW_true_node_11 (f : Nat) (hf : f < 18446744073709551616) (crc : Int) (d s : EV) (node svc : Nat) (hr : ¬ node = 0) (t q l o n : Nat) (h1 : f / 2 % 2 = 1) (h2 : f / 262144 % 2 = 1) (w : World) : Calls Try.prog 9 #[.agg (priC f crc d s ⟨1, [110, 111, 110, 101], node, svc⟩ t q l o n), .bool true] w (Ret (.bool false) w) := by
  have a1 : (IntKind.u64.wrap ((f : Int) / 2)).tmod 2 = 1 := quo_rem (c := 2) hf h1
  have a2 : (IntKind.u64.wrap ((f : Int) / 262144)).tmod 2 = 1 := quo_rem (c := 262144) hf h2
  have f0 : (0 : Int) ≤ (f : Int) := by omega
  have n1 : (node = 0) = False := by simp [hr]
  have n2 : ((node : Int) == 0) = false := by simp; omega
  have n3 : ((node : Int) = 0) = False := by simp [hr]
  clear hf h1 h2 hr
  go_enter Try.func9, Try.ntmps9
  go_wp2_with fail
  go_ret
  exact Ret.mk rfl ((Mod.refl _ _).alloc _)
theorem rW_true_svc_00 (f : Nat) (hf : f < 18446744073709551616) (crc : Int) (d s : EV) (svc : Nat) (hr : ¬ svc = 0) (t q l o n : Nat) (h1 : f / 2 % 2 = 0) (h2 : f / 262144 % 2 = 0) (w : World) : Calls Try.prog 9 #[.agg (priC f crc d s ⟨1, [110, 111, 110, 101], 0, svc⟩ t q l o n), .bool true] w (Ret (.bool false) w) := by
  have a1 : (IntKind.u64.wrap ((f : Int) / 2)).tmod 2 = 0 := quo_rem (c := 2) hf h1
  have a2 : (IntKind.u64.wrap ((f : Int) / 262144)).tmod 2 = 0 := quo_rem (c := 262144) hf h2
  have f0 : (0 : Int) ≤ (f : Int) := by omega
  have n1 : (svc = 0) = False := by simp [hr]
  have n2 : ((svc : Int) == 0) = false := by simp; omega
  have n3 : ((svc : Int) = 0) = False := by simp [hr]
  clear hf h1 h2 hr
  go_enter Try.func9, Try.ntmps9
  go_wp2_with fail
  go_ret
  exact Ret.mk rfl ((Mod.refl _ _).alloc _)
theorem rW_true_svc_01 (f : Nat) (hf : f < 18446744073709551616) (crc : Int) (d s : EV) (svc : Nat) (hr : ¬ svc = 0) (t q l o n : Nat) (h1 : f / 2 % 2 = 0) (h2 : f / 262144 % 2 = 1) (w : World) : Calls Try.prog 9 #[.agg (priC f crc d s ⟨1, [110, 111, 110, 101], 0, svc⟩ t q l o n), .bool true] w (Ret (.bool true) w) := by
  have a1 : (IntKind.u64.wrap ((f : Int) / 2)).tmod 2 = 0 := quo_rem (c := 2) hf h1
  have a2 : (IntKind.u64.wrap ((f : Int) / 262144)).tmod 2 = 1 := quo_rem (c := 262144) hf h2
  have f0 : (0 : Int) ≤ (f : Int) := by omega
  have n1 : (svc = 0) = False := by simp [hr]
  have n2 : ((svc : Int) == 0) = false := by simp; omega
  have n3 : ((svc : Int) = 0) = False := by simp [hr]
  clear hf h1 h2 hr
  go_enter Try.func9, Try.ntmps9
  go_wp2_with fail
  go_ret
  exact Ret.mk rfl ((Mod.refl _ _).alloc _)
theorem rW_true_svc_10 (f : Nat) (hf : f < 18446744073709551616) (crc : Int) (d s : EV) (svc : Nat) (hr : ¬ svc = 0) (t q l o n : Nat) (h1 : f / 2 % 2 = 1) (h2 : f / 262144 % 2 = 0) (w : World) : Calls Try.prog 9 #[.agg (priC f crc d s ⟨1, [110, 111, 110, 101], 0, svc⟩ t q l o n), .bool true] w (Ret (.bool false) w) := by
  have a1 : (IntKind.u64.wrap ((f : Int) / 2)).tmod 2 = 1 := quo_rem (c := 2) hf h1
  have a2 : (IntKind.u64.wrap ((f : Int) / 262144)).tmod 2 = 0 := quo_rem (c := 262144) hf h2
  have f0 : (0 : Int) ≤ (f : Int) := by omega
  have n1 : (svc = 0) = False := by simp [hr]
  have n2 : ((svc : Int) == 0) = false := by simp; omega
  have n3 : ((svc : Int) = 0) = False := by simp [hr]
  clear hf h1 h2 hr
  go_enter Try.func9, Try.ntmps9
  go_wp2_with fail
  go_ret
  exact Ret.mk rfl ((Mod.refl _ _).alloc _)
theorem rW_true_svc_11 (f : Nat) (hf : f < 18446744073709551616) (crc : Int) (d s : EV) (svc : Nat) (hr : ¬ svc = 0) (t q l o n : Nat) (h1 : f / 2 % 2 = 1) (h2 : f / 262144 % 2 = 1) (w : World) : Calls Try.prog 9 #[.agg (priC f crc d s ⟨1, [110, 111, 110, 101], 0, svc⟩ t q l o n), .bool true] w (Ret (.bool false) w) := by
  have a1 : (IntKind.u64.wrap ((f : Int) / 2)).tmod 2 = 1 := quo_rem (c := 2) hf h1
  have a2 : (IntKind.u64.wrap ((f : Int) / 262144)).tmod 2 = 1 := quo_rem (c := 262144) hf h2
  have f0 : (0 : Int) ≤ (f : Int) := by omega
  have n1 : (svc = 0) = False := by simp [hr]
  have n2 : ((svc : Int) == 0) = false := by simp; omega
  have n3 : ((svc : Int) = 0) = False := by simp [hr]
  clear hf h1 h2 hr
  go_enter Try.func9, Try.ntmps9
  go_wp2_with fail
  go_ret
  exact Ret.mk rfl ((Mod.refl _ _).alloc _)
theorem rW_false_yes_00 (f : Nat) (hf : f < 18446744073709551616) (crc : Int) (d s : EV) (t q l o n : Nat) (h1 : f / 2 % 2 = 0) (h2 : f / 16384 % 2 = 0) (w : World) : Calls Try.prog 9 #[.agg (priC f crc d s ⟨1, [110, 111, 110, 101], 0, 0⟩ t q l o n), .bool false] w (Ret (.bool false) w) := by
  have a1 : (IntKind.u64.wrap ((f : Int) / 2)).tmod 2 = 0 := quo_rem (c := 2) hf h1
  have a2 : (IntKind.u64.wrap ((f : Int) / 16384)).tmod 2 = 0 := quo_rem (c := 16384) hf h2
  have f0 : (0 : Int) ≤ (f : Int) := by omega
  clear hf h1 h2
  go_enter Try.func9, Try.ntmps9
  go_wp2_with fail
  go_ret
  exact Ret.mk rfl ((Mod.refl _ _).alloc _)
theorem rW_false_yes_01 (f : Nat) (hf : f < 18446744073709551616) (crc : Int) (d s : EV) (t q l o n : Nat) (h1 : f / 2 % 2 = 0) (h2 : f / 16384 % 2 = 1) (w : World) : Calls Try.prog 9 #[.agg (priC f crc d s ⟨1, [110, 111, 110, 101], 0, 0⟩ t q l o n), .bool false] w (Ret (.bool false) w) := by
  have a1 : (IntKind.u64.wrap ((f : Int) / 2)).tmod 2 = 0 := quo_rem (c := 2) hf h1
  have a2 : (IntKind.u64.wrap ((f : Int) / 16384)).tmod 2 = 1 := quo_rem (c := 16384) hf h2
  have f0 : (0 : Int) ≤ (f : Int) := by omega
  clear hf h1 h2
  go_enter Try.func9, Try.ntmps9
  go_wp2_with fail
  go_ret
  exact Ret.mk rfl ((Mod.refl _ _).alloc _)
theorem rW_false_yes_10 (f : Nat) (hf : f < 18446744073709551616) (crc : Int) (d s : EV) (t q l o n : Nat) (h1 : f / 2 % 2 = 1) (h2 : f / 16384 % 2 = 0) (w : World) : Calls Try.prog 9 #[.agg (priC f crc d s ⟨1, [110, 111, 110, 101], 0, 0⟩ t q l o n), .bool false] w (Ret (.bool false) w) := by
  have a1 : (IntKind.u64.wrap ((f : Int) / 2)).tmod 2 = 1 := quo_rem (c := 2) hf h1
  have a2 : (IntKind.u64.wrap ((f : Int) / 16384)).tmod 2 = 0 := quo_rem (c := 16384) hf h2
  have f0 : (0 : Int) ≤ (f : Int) := by omega
  clear hf h1 h2
  go_enter Try.func9, Try.ntmps9
  go_wp2_with fail
  go_ret
  exact Ret.mk rfl ((Mod.refl _ _).alloc _)
theorem rW_false_yes_11 (f : Nat) (hf : f < 18446744073709551616) (crc : Int) (d s : EV) (t q l o n : Nat) (h1 : f / 2 % 2 = 1) (h2 : f / 16384 % 2 = 1) (w : World) : Calls Try.prog 9 #[.agg (priC f crc d s ⟨1, [110, 111, 110, 101], 0, 0⟩ t q l o n), .bool false] w (Ret (.bool false) w) := by
  have a1 : (IntKind.u64.wrap ((f : Int) / 2)).tmod 2 = 1 := quo_rem (c := 2) hf h1
  have a2 : (IntKind.u64.wrap ((f : Int) / 16384)).tmod 2 = 1 := quo_rem (c := 16384) hf h2
  have f0 : (0 : Int) ≤ (f : Int) := by omega
  clear hf h1 h2
  go_enter Try.func9, Try.ntmps9
  go_wp2_with fail
  go_ret
  exact Ret.mk rfl ((Mod.refl _ _).alloc _)
theorem rW_false_sch_00 (f : Nat) (hf : f < 18446744073709551616) (crc : Int) (d s : EV) (sch : Int) (name : List UInt8) (node svc : Nat) (hr : ¬ sch = 1) (t q l o n : Nat) (h1 : f / 2 % 2 = 0) (h2 : f / 16384 % 2 = 0) (w : World) : Calls Try.prog 9 #[.agg (priC f crc d s ⟨sch, name, node, svc⟩ t q l o n), .bool false] w (Ret (.bool false) w) := by
  have a1 : (IntKind.u64.wrap ((f : Int) / 2)).tmod 2 = 0 := quo_rem (c := 2) hf h1
  have a2 : (IntKind.u64.wrap ((f : Int) / 16384)).tmod 2 = 0 := quo_rem (c := 16384) hf h2
  have f0 : (0 : Int) ≤ (f : Int) := by omega
  have n1 : (sch = 1) = False := by simp [hr]
  have n2 : (sch == 1) = false := by simp [hr]
  clear hf h1 h2 hr
  go_enter Try.func9, Try.ntmps9
  go_wp2_with fail
  go_ret
  exact Ret.mk rfl ((Mod.refl _ _).alloc _)
theorem rW_false_sch_01 (f : Nat) (hf : f < 18446744073709551616) (crc : Int) (d s : EV) (sch : Int) (name : List UInt8) (node svc : Nat) (hr : ¬ sch = 1) (t q l o n : Nat) (h1 : f / 2 % 2 = 0) (h2 : f / 16384 % 2 = 1) (w : World) : Calls Try.prog 9 #[.agg (priC f crc d s ⟨sch, name, node, svc⟩ t q l o n), .bool false] w (Ret (.bool true) w) := by
  have a1 : (IntKind.u64.wrap ((f : Int) / 2)).tmod 2 = 0 := quo_rem (c := 2) hf h1
  have a2 : (IntKind.u64.wrap ((f : Int) / 16384)).tmod 2 = 1 := quo_rem (c := 16384) hf h2
  have f0 : (0 : Int) ≤ (f : Int) := by omega
  have n1 : (sch = 1) = False := by simp [hr]
  have n2 : (sch == 1) = false := by simp [hr]
  clear hf h1 h2 hr
  go_enter Try.func9, Try.ntmps9
  go_wp2_with fail
  go_ret
  exact Ret.mk rfl ((Mod.refl _ _).alloc _)
theorem rW_false_sch_10 (f : Nat) (hf : f < 18446744073709551616) (crc : Int) (d s : EV) (sch : Int) (name : List UInt8) (node svc : Nat) (hr : ¬ sch = 1) (t q l o n : Nat) (h1 : f / 2 % 2 = 1) (h2 : f / 16384 % 2 = 0) (w : World) : Calls Try.prog 9 #[.agg (priC f crc d s ⟨sch, name, node, svc⟩ t q l o n), .bool false] w (Ret (.bool false) w) := by
  have a1 : (IntKind.u64.wrap ((f : Int) / 2)).tmod 2 = 1 := quo_rem (c := 2) hf h1
  have a2 : (IntKind.u64.wrap ((f : Int) / 16384)).tmod 2 = 0 := quo_rem (c := 16384) hf h2
  have f0 : (0 : Int) ≤ (f : Int) := by omega
  have n1 : (sch = 1) = False := by simp [hr]
  have n2 : (sch == 1) = false := by simp [hr]
  clear hf h1 h2 hr
  go_enter Try.func9, Try.ntmps9
  go_wp2_with fail
  go_ret
  exact Ret.mk rfl ((Mod.refl _ _).alloc _)
theorem rW_false_sch_11 (f : Nat) (hf : f < 18446744073709551616) (crc : Int) (d s : EV) (sch : Int) (name : List UInt8) (node svc : Nat) (hr : ¬ sch = 1) (t q l o n : Nat) (h1 : f / 2 % 2 = 1) (h2 : f / 16384 % 2 = 1) (w : World) : Calls Try.prog 9 #[.agg (priC f crc d s ⟨sch, name, node, svc⟩ t q l o n), .bool false] w (Ret (.bool false) w) := by
  have a1 : (IntKind.u64.wrap ((f : Int) / 2)).tmod 2 = 1 := quo_rem (c := 2) hf h1
  have a2 : (IntKind.u64.wrap ((f : Int) / 16384)).tmod 2 = 1 := quo_rem (c := 16384) hf h2
  have f0 : (0 : Int) ≤ (f : Int) := by omega
  have n1 : (sch = 1) = False := by simp [hr]
  have n2 : (sch == 1) = false := by simp [hr]
  clear hf h1 h2 hr
  go_enter Try.func9, Try.ntmps9
  go_wp2_with fail
  go_ret
  exact Ret.mk rfl ((Mod.refl _ _).alloc _)
theorem rW_false_name_00 (f : Nat) (hf : f < 18446744073709551616) (crc : Int) (d s : EV) (name : List UInt8) (node svc : Nat) (hr : ¬ name = [110, 111, 110, 101]) (t q l o n : Nat) (h1 : f / 2 % 2 = 0) (h2 : f / 16384 % 2 = 0) (w : World) : Calls Try.prog 9 #[.agg (priC f crc d s ⟨1, name, node, svc⟩ t q l o n), .bool false] w (Ret (.bool false) w) := by
  have a1 : (IntKind.u64.wrap ((f : Int) / 2)).tmod 2 = 0 := quo_rem (c := 2) hf h1
  have a2 : (IntKind.u64.wrap ((f : Int) / 16384)).tmod 2 = 0 := quo_rem (c := 16384) hf h2
  have f0 : (0 : Int) ≤ (f : Int) := by omega
  have n1 : (name = [110, 111, 110, 101]) = False := by simp [hr]
  have n2 : (name == [110, 111, 110, 101]) = false := by simp [hr]
  clear hf h1 h2 hr
  go_enter Try.func9, Try.ntmps9
  go_wp2_with fail
  go_ret
  exact Ret.mk rfl ((Mod.refl _ _).alloc _)
theorem rW_false_name_01 (f : Nat) (hf : f < 18446744073709551616) (crc : Int) (d s : EV) (name : List UInt8) (node svc : Nat) (hr : ¬ name = [110, 111, 110, 101]) (t q l o n : Nat) (h1 : f / 2 % 2 = 0) (h2 : f / 16384 % 2 = 1) (w : World) : Calls Try.prog 9 #[.agg (priC f crc d s ⟨1, name, node, svc⟩ t q l o n), .bool false] w (Ret (.bool true) w) := by
  have a1 : (IntKind.u64.wrap ((f : Int) / 2)).tmod 2 = 0 := quo_rem (c := 2) hf h1
  have a2 : (IntKind.u64.wrap ((f : Int) / 16384)).tmod 2 = 1 := quo_rem (c := 16384) hf h2
  have f0 : (0 : Int) ≤ (f : Int) := by omega
  have n1 : (name = [110, 111, 110, 101]) = False := by simp [hr]
  have n2 : (name == [110, 111, 110, 101]) = false := by simp [hr]
  clear hf h1 h2 hr
  go_enter Try.func9, Try.ntmps9
  go_wp2_with fail
  go_ret
  exact Ret.mk rfl ((Mod.refl _ _).alloc _)
theorem rW_false_name_10 (f : Nat) (hf : f < 18446744073709551616) (crc : Int) (d s : EV) (name : List UInt8) (node svc : Nat) (hr : ¬ name = [110, 111, 110, 101]) (t q l o n : Nat) (h1 : f / 2 % 2 = 1) (h2 : f / 16384 % 2 = 0) (w : World) : Calls Try.prog 9 #[.agg (priC f crc d s ⟨1, name, node, svc⟩ t q l o n), .bool false] w (Ret (.bool false) w) := by
  have a1 : (IntKind.u64.wrap ((f : Int) / 2)).tmod 2 = 1 := quo_rem (c := 2) hf h1
  have a2 : (IntKind.u64.wrap ((f : Int) / 16384)).tmod 2 = 0 := quo_rem (c := 16384) hf h2
  have f0 : (0 : Int) ≤ (f : Int) := by omega
  have n1 : (name = [110, 111, 110, 101]) = False := by simp [hr]
  have n2 : (name == [110, 111, 110, 101]) = false := by simp [hr]
  clear hf h1 h2 hr
  go_enter Try.func9, Try.ntmps9
  go_wp2_with fail
  go_ret
  exact Ret.mk rfl ((Mod.refl _ _).alloc _)
theorem rW_false_name_11 (f : Nat) (hf : f < 18446744073709551616) (crc : Int) (d s : EV) (name : List UInt8) (node svc : Nat) (hr : ¬ name = [110, 111, 110, 101]) (t q l o n : Nat) (h1 : f / 2 % 2 = 1) (h2 : f / 16384 % 2 = 1) (w : World) : Calls Try.prog 9 #[.agg (priC f crc d s ⟨1, name, node, svc⟩ t q l o n), .bool false] w (Ret (.bool false) w) := by
  have a1 : (IntKind.u64.wrap ((f : Int) / 2)).tmod 2 = 1 := quo_rem (c := 2) hf h1
  have a2 : (IntKind.u64.wrap ((f : Int) / 16384)).tmod 2 = 1 := quo_rem (c := 16384) hf h2
  have f0 : (0 : Int) ≤ (f : Int) := by omega
  have n1 : (name = [110, 111, 110, 101]) = False := by simp [hr]
  have n2 : (name == [110, 111, 110, 101]) = false := by simp [hr]
  clear hf h1 h2 hr
  go_enter Try.func9, Try.ntmps9
  go_wp2_with fail
  go_ret
  exact Ret.mk rfl ((Mod.refl _ _).alloc _)
theorem rW_false_node_00 (f : Nat) (hf : f < 18446744073709551616) (crc : Int) (d s : EV) (node svc : Nat) (hr : ¬ node = 0) (t q l o n : Nat) (h1 : f / 2 % 2 = 0) (h2 : f / 16384 % 2 = 0) (w : World) : Calls Try.prog 9 #[.agg (priC f crc d s ⟨1, [110, 111, 110, 101], node, svc⟩ t q l o n), .bool false] w (Ret (.bool false) w) := by
  have a1 : (IntKind.u64.wrap ((f : Int) / 2)).tmod 2 = 0 := quo_rem (c := 2) hf h1
  have a2 : (IntKind.u64.wrap ((f : Int) / 16384)).tmod 2 = 0 := quo_rem (c := 16384) hf h2
  have f0 : (0 : Int) ≤ (f : Int) := by omega
  have n1 : (node = 0) = False := by simp [hr]
  have n2 : ((node : Int) == 0) = false := by simp; omega
  have n3 : ((node : Int) = 0) = False := by simp [hr]
  clear hf h1 h2 hr
  go_enter Try.func9, Try.ntmps9
  go_wp2_with fail
  go_ret
  exact Ret.mk rfl ((Mod.refl _ _).alloc _)
theorem rW_false_node_01 (f : Nat) (hf : f < 18446744073709551616) (crc : Int) (d s : EV) (node svc : Nat) (hr : ¬ node = 0) (t q l o n : Nat) (h1 : f / 2 % 2 = 0) (h2 : f / 16384 % 2 = 1) (w : World) : Calls Try.prog 9 #[.agg (priC f crc d s ⟨1, [110, 111, 110, 101], node, svc⟩ t q l o n), .bool false] w (Ret (.bool true) w) := by
  have a1 : (IntKind.u64.wrap ((f : Int) / 2)).tmod 2 = 0 := quo_rem (c := 2) hf h1
  have a2 : (IntKind.u64.wrap ((f : Int) / 16384)).tmod 2 = 1 := quo_rem (c := 16384) hf h2
  have f0 : (0 : Int) ≤ (f : Int) := by omega
  have n1 : (node = 0) = False := by simp [hr]
  have n2 : ((node : Int) == 0) = false := by simp; omega
  have n3 : ((node : Int) = 0) = False := by simp [hr]
  clear hf h1 h2 hr
  go_enter Try.func9, Try.ntmps9
  go_wp2_with fail
  go_ret
  exact Ret.mk rfl ((Mod.refl _ _).alloc _)
theorem rW_false_node_10 (f : Nat) (hf : f < 18446744073709551616) (crc : Int) (d s : EV) (node svc : Nat) (hr : ¬ node = 0) (t q l o n : Nat) (h1 : f / 2 % 2 = 1) (h2 : f / 16384 % 2 = 0) (w : World) : Calls Try.prog 9 #[.agg (priC f crc d s ⟨1, [110, 111, 110, 101], node, svc⟩ t q l o n), .bool false] w (Ret (.bool false) w) := by
  have a1 : (IntKind.u64.wrap ((f : Int) / 2)).tmod 2 = 1 := quo_rem (c := 2) hf h1
  have a2 : (IntKind.u64.wrap ((f : Int) / 16384)).tmod 2 = 0 := quo_rem (c := 16384) hf h2
  have f0 : (0 : Int) ≤ (f : Int) := by omega
  have n1 : (node = 0) = False := by simp [hr]
  have n2 : ((node : Int) == 0) = false := by simp; omega
  have n3 : ((node : Int) = 0) = False := by simp [hr]
  clear hf h1 h2 hr
  go_enter Try.func9, Try.ntmps9
  go_wp2_with fail
  go_ret
  exact Ret.mk rfl ((Mod.refl _ _).alloc _)
theorem rW_false_node_11 (f : Nat) (hf : f < 18446744073709551616) (crc : Int) (d s : EV) (node svc : Nat) (hr : ¬ node = 0) (t q l o n : Nat) (h1 : f / 2 % 2 = 1) (h2 : f / 16384 % 2 = 1) (w : World) : Calls Try.prog 9 #[.agg (priC f crc d s ⟨1, [110, 111, 110, 101], node, svc⟩ t q l o n), .bool false] w (Ret (.bool false) w) := by
  have a1 : (IntKind.u64.wrap ((f : Int) / 2)).tmod 2 = 1 := quo_rem (c := 2) hf h1
  have a2 : (IntKind.u64.wrap ((f : Int) / 16384)).tmod 2 = 1 := quo_rem (c := 16384) hf h2
  have f0 : (0 : Int) ≤ (f : Int) := by omega
  have n1 : (node = 0) = False := by simp [hr]
  have n2 : ((node : Int) == 0) = false := by simp; omega
  have n3 : ((node : Int) = 0) = False := by simp [hr]
  clear hf h1 h2 hr
  go_enter Try.func9, Try.ntmps9
  go_wp2_with fail
  go_ret
  exact Ret.mk rfl ((Mod.refl _ _).alloc _)
theorem rW_false_svc_00 (f : Nat) (hf : f < 18446744073709551616) (crc : Int) (d s : EV) (svc : Nat) (hr : ¬ svc = 0) (t q l o n : Nat) (h1 : f / 2 % 2 = 0) (h2 : f / 16384 % 2 = 0) (w : World) : Calls Try.prog 9 #[.agg (priC f crc d s ⟨1, [110, 111, 110, 101], 0, svc⟩ t q l o n), .bool false] w (Ret (.bool false) w) := by
  have a1 : (IntKind.u64.wrap ((f : Int) / 2)).tmod 2 = 0 := quo_rem (c := 2) hf h1
  have a2 : (IntKind.u64.wrap ((f : Int) / 16384)).tmod 2 = 0 := quo_rem (c := 16384) hf h2
  have f0 : (0 : Int) ≤ (f : Int) := by omega
  have n1 : (svc = 0) = False := by simp [hr]
  have n2 : ((svc : Int) == 0) = false := by simp; omega
  have n3 : ((svc : Int) = 0) = False := by simp [hr]
  clear hf h1 h2 hr
  go_enter Try.func9, Try.ntmps9
  go_wp2_with fail
  go_ret
  exact Ret.mk rfl ((Mod.refl _ _).alloc _)
theorem rW_false_svc_01 (f : Nat) (hf : f < 18446744073709551616) (crc : Int) (d s : EV) (svc : Nat) (hr : ¬ svc = 0) (t q l o n : Nat) (h1 : f / 2 % 2 = 0) (h2 : f / 16384 % 2 = 1) (w : World) : Calls Try.prog 9 #[.agg (priC f crc d s ⟨1, [110, 111, 110, 101], 0, svc⟩ t q l o n), .bool false] w (Ret (.bool true) w) := by
  have a1 : (IntKind.u64.wrap ((f : Int) / 2)).tmod 2 = 0 := quo_rem (c := 2) hf h1
  have a2 : (IntKind.u64.wrap ((f : Int) / 16384)).tmod 2 = 1 := quo_rem (c := 16384) hf h2
  have f0 : (0 : Int) ≤ (f : Int) := by omega
  have n1 : (svc = 0) = False := by simp [hr]
  have n2 : ((svc : Int) == 0) = false := by simp; omega
  have n3 : ((svc : Int) = 0) = False := by simp [hr]
  clear hf h1 h2 hr
  go_enter Try.func9, Try.ntmps9
  go_wp2_with fail
  go_ret
  exact Ret.mk rfl ((Mod.refl _ _).alloc _)
theorem rW_false_svc_10 (f : Nat) (hf : f < 18446744073709551616) (crc : Int) (d s : EV) (svc : Nat) (hr : ¬ svc = 0) (t q l o n : Nat) (h1 : f / 2 % 2 = 1) (h2 : f / 16384 % 2 = 0) (w : World) : Calls Try.prog 9 #[.agg (priC f crc d s ⟨1, [110, 111, 110, 101], 0, svc⟩ t q l o n), .bool false] w (Ret (.bool false) w) := by
  have a1 : (IntKind.u64.wrap ((f : Int) / 2)).tmod 2 = 1 := quo_rem (c := 2) hf h1
  have a2 : (IntKind.u64.wrap ((f : Int) / 16384)).tmod 2 = 0 := quo_rem (c := 16384) hf h2
  have f0 : (0 : Int) ≤ (f : Int) := by omega
  have n1 : (svc = 0) = False := by simp [hr]
  have n2 : ((svc : Int) == 0) = false := by simp; omega
  have n3 : ((svc : Int) = 0) = False := by simp [hr]
  clear hf h1 h2 hr
  go_enter Try.func9, Try.ntmps9
  go_wp2_with fail
  go_ret
  exact Ret.mk rfl ((Mod.refl _ _).alloc _)
theorem rW_false_svc_11 (f : Nat) (hf : f < 18446744073709551616) (crc : Int) (d s : EV) (svc : Nat) (hr : ¬ svc = 0) (t q l o n : Nat) (h1 : f / 2 % 2 = 1) (h2 : f / 16384 % 2 = 1) (w : World) : Calls Try.prog 9 #[.agg (priC f crc d s ⟨1, [110, 111, 110, 101], 0, svc⟩ t q l o n), .bool false] w (Ret (.bool false) w) := by
  have a1 : (IntKind.u64.wrap ((f : Int) / 2)).tmod 2 = 1 := quo_rem (c := 2) hf h1
  have a2 : (IntKind.u64.wrap ((f : Int) / 16384)).tmod 2 = 1 := quo_rem (c := 16384) hf h2
  have f0 : (0 : Int) ≤ (f : Int) := by omega
  have n1 : (svc = 0) = False := by simp [hr]
  have n2 : ((svc : Int) == 0) = false := by simp; omega
  have n3 : ((svc : Int) = 0) = False := by simp [hr]
  clear hf h1 h2 hr
  go_enter Try.func9, Try.ntmps9
  go_wp2_with fail
  go_ret
  exact Ret.mk rfl ((Mod.refl _ _).alloc _)
end Go.Proofs.Ytmgndegooeghkaa
