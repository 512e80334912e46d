/-
  The reference's right names.
-/
import Derived.Test.YtagjhkknefiieaaRef10
namespace Go.Proofs.Ytagjhkknefiieaa
open Go.RowKit
set_option linter.unusedVariables false

def rightCases (node svc : Nat) (name : List UInt8) : Bool := decide (name = []) && decide (node ≤ 4294967295) && decide (svc ≤ 4294967295)
set_option maxRecDepth 20000 in
set_option maxHeartbeats 800000 in
theorem r10_two (name : List UInt8) (node svc : Nat) (w : World) : Calls Try.prog 10 #[EV.v ⟨2, name, node, svc⟩] w (Ret (.bool (rightCases node svc name)) w) := by
  unfold rightCases
  by_cases hn : name = []
  · subst hn
    by_cases ha : node ≤ 4294967295
    · have t1 : decide ((node : Int) ≤ 4294967295) = true := by simp; omega
      by_cases hb : svc ≤ 4294967295
      · have t2 : decide ((svc : Int) ≤ 4294967295) = true := by simp; omega
        have hr : (decide (([] : List UInt8) = []) && decide (node ≤ 4294967295) && decide (svc ≤ 4294967295)) = true := by simp [ha, hb]
        rw [hr]
        clear hr ha hb
        go_enter Try.func10, Try.ntmps10
        go_wp2_with fail
        go_ret
        exact Ret.mk rfl ((Mod.refl _ _).alloc _)
      · have t2 : decide ((svc : Int) ≤ 4294967295) = false := by simp; omega
        have hr : (decide (([] : List UInt8) = []) && decide (node ≤ 4294967295) && decide (svc ≤ 4294967295)) = false := by simp [hb]
        rw [hr]
        clear hr ha hb
        go_enter Try.func10, Try.ntmps10
        go_wp2_with fail
        go_ret
        exact Ret.mk rfl ((Mod.refl _ _).alloc _)
    · have t1 : decide ((node : Int) ≤ 4294967295) = false := by simp; omega
      have hr : (decide (([] : List UInt8) = []) && decide (node ≤ 4294967295) && decide (svc ≤ 4294967295)) = false := by simp [ha]
      rw [hr]
      clear hr ha
      go_enter Try.func10, Try.ntmps10
      go_wp2_with fail
      go_ret
      exact Ret.mk rfl ((Mod.refl _ _).alloc _)
  · have n1 : (name == []) = false := by simpa using hn
    have n2 : (name = []) = False := by simpa using hn
    have n3 : name.isEmpty = false := by simpa using hn
    have hr : (decide (name = []) && decide (node ≤ 4294967295) && decide (svc ≤ 4294967295)) = false := by simp [hn]
    rw [hr]
    clear hr hn
    go_enter Try.func10, Try.ntmps10
    go_wp2_with fail
    go_ret
    exact Ret.mk rfl ((Mod.refl _ _).alloc _)
set_option maxRecDepth 20000 in
theorem r10_none (w : World) : Calls Try.prog 10 #[EV.v ⟨1, [110, 111, 110, 101], 0, 0⟩] w (Ret (.bool true) w) := by
  go_enter Try.func10, Try.ntmps10
  go_wp2_with fail
  go_ret
  exact Ret.mk rfl ((Mod.refl _ _).alloc _)
set_option maxRecDepth 20000 in
theorem r10_sch (sch : Int) (name : List UInt8) (node svc : Nat) (h2 : sch ≠ 2) (h1 : sch ≠ 1) (w : World) : Calls Try.prog 10 #[EV.v ⟨sch, name, node, svc⟩] w (Ret (.bool false) w) := by
  have s1 : (sch = 1) = False := by simp [h1]
  have s2 : (sch == 1) = false := by simp [h1]
  have s3 : (sch = 2) = False := by simp [h2]
  have s4 : (sch == 2) = false := by simp [h2]
  have s5 : (sch != 1) = true := by simp [h1]
  clear h1 h2
  go_enter Try.func10, Try.ntmps10
  go_wp2_with fail
  go_ret
  exact Ret.mk rfl ((Mod.refl _ _).alloc _)
set_option maxRecDepth 20000 in
theorem r10_node (name : List UInt8) (node svc : Nat) (h : node ≠ 0) (w : World) : Calls Try.prog 10 #[EV.v ⟨1, name, node, svc⟩] w (Ret (.bool false) w) := by
  have z1 : ((node : Int) == 0) = false := by simp; omega
  have z2 : ((node : Int) = 0) = False := by simp; omega
  have z3 : ((node : Int) != 0) = true := by simp; omega
  clear h
  go_enter Try.func10, Try.ntmps10
  go_wp2_with fail
  go_ret
  exact Ret.mk rfl ((Mod.refl _ _).alloc _)
set_option maxRecDepth 20000 in
theorem r10_svc (name : List UInt8) (svc : Nat) (h : svc ≠ 0) (w : World) : Calls Try.prog 10 #[EV.v ⟨1, name, 0, svc⟩] w (Ret (.bool false) w) := by
  have z1 : ((svc : Int) == 0) = false := by simp; omega
  have z2 : ((svc : Int) = 0) = False := by simp; omega
  have z3 : ((svc : Int) != 0) = true := by simp; omega
  clear h
  go_enter Try.func10, Try.ntmps10
  go_wp2_with fail
  go_ret
  exact Ret.mk rfl ((Mod.refl _ _).alloc _)
set_option maxRecDepth 20000 in
theorem r10_long (name : List UInt8) (h : 60 < name.length) (w : World) : Calls Try.prog 10 #[EV.v ⟨1, name, 0, 0⟩] w (Ret (.bool false) w) := by
  have t1 : decide (60 < (name.length : Int)) = true := by simp; omega
  clear h
  go_enter Try.func10, Try.ntmps10
  go_wp2_with fail
  go_ret
  exact Ret.mk rfl ((Mod.refl _ _).alloc _)
set_option maxRecDepth 20000 in
set_option maxHeartbeats 1600000 in
theorem r10_name (name : List UInt8) (h60 : name.length ≤ 60) (hn : name ≠ [110, 111, 110, 101]) (w : World) : Calls Try.prog 10 #[EV.v ⟨1, name, 0, 0⟩] w (Ret (.bool (if slash name < 3 ∨ name.take 2 ≠ [47, 47] then false else goodA (slash name) (name.drop 2) 2)) w) := by
  have t1 : decide (60 < (name.length : Int)) = false := by simp; omega
  have n1 : (name == [110, 111, 110, 101]) = false := by simpa using hn
  have n2 : (name = [110, 111, 110, 101]) = False := by simpa using hn
  have K := hid (fun W => slash_any name (by unfold Hid; omega) W)
  have HE := hid ((Mod.refl [] w).alloc (.cells (EV.c ⟨1, name, 0, 0⟩) 24))
  have HB := hid (Blk.new w 24 (EV.c ⟨1, name, 0, 0⟩))
  have hsl : slash name = 0 ∨ 2 ≤ slash name := slashA_ge _ _
  by_cases h3 : slash name < 3
  · have t2 : decide ((slash name : Int) < 3) = true := by simp; omega
    rw [if_pos (Or.inl h3)]
    clear hn h60 h3 hsl
    generalize slash name = k at *
    go_enter Try.func10, Try.ntmps10
    go_wp2_with fail
    refine (K.out _).mono ?_
    rintro e w1 ⟨rfl, hb1⟩
    have HE1 := hid (HE.out.trans hb1)
    clear hb1
    go_wp2_with fail
    go_ret
    exact Ret.mk rfl HE1.out
  have t2 : decide ((slash name : Int) < 3) = false := by simp; omega
  have hl2 : 2 ≤ name.length := by
    rcases Nat.lt_or_ge name.length 2 with hl | hl
    · exfalso
      apply h3
      unfold slash
      rw [List.drop_eq_nil_of_le (by omega)]
      decide
    · exact hl
  have hx : ((⟨name.toArray⟩ : ByteArray).extract 0 2) = ⟨(name.take 2).toArray⟩ := by rw [ext0, List.drop_zero]
  by_cases ht : name.take 2 = [47, 47]
  case neg =>
    rw [if_pos (Or.inr ht)]
    have m1 : (name.take 2 == [47, 47]) = false := by simpa using ht
    have m2 : (name.take 2 = [47, 47]) = False := by simpa using ht
    clear hn h3 hsl ht
    generalize slash name = k at *
    generalize name.take 2 = p at *
    go_enter Try.func10, Try.ntmps10
    go_wp2_with fail
    refine (K.out _).mono ?_
    rintro e w1 ⟨rfl, hb1⟩
    have HE1 := hid (HE.out.trans hb1)
    have c1 : w1.cell? ⟨w.heap.size, 1, none⟩ = some (str name) := (HB.out.ext hb1).cell 1
    clear hb1
    go_wp2_with fail
    go_ret
    exact Ret.mk rfl HE1.out
  rw [if_neg (by intro h; rcases h with h | h; exact h3 h; exact h ht)]
  rw [ht] at hx
  obtain ⟨B, hB⟩ : ∃ B, goodA (slash name) (name.drop 2) 2 = B := ⟨_, rfl⟩
  rw [hB]
  have HG := hid hB
  clear hB hn h3 hsl ht
  generalize slash name = k at *
  go_enter Try.func10, Try.ntmps10
  go_wp2_with fail
  refine (K.out _).mono ?_
  rintro e w1 ⟨rfl, hb1⟩
  have HE1 := hid (HE.out.trans hb1)
  have HB1 := hid (HB.out.ext hb1)
  have c1 : w1.cell? ⟨w.heap.size, 1, none⟩ = some (str name) := HB1.out.cell 1
  clear hb1
  go_wp2_with fail
  have HW1 : Hid (Ext w w1 ∧ w1.cell? ⟨w.heap.size, 1, none⟩ = some (str name) ∧ w.heap.size < w1.heap.size) := ⟨HE1.out, c1, HB1.out.lt⟩
  clear HE HB HE1 HB1 c1
  go_loopw [4] (fun i wr => ∃ j : Nat, 2 ≤ j ∧ j ≤ name.length ∧ i = .int .i64 j ∧ Hid (goodA k (name.drop j) j = B) ∧ Hid (Ext w wr ∧ wr.cell? ⟨w.heap.size, 1, none⟩ = some (str name) ∧ w.heap.size < wr.heap.size)) (fun i _ => name.length - (intOf i).toNat)
  case atStart => exact ⟨2, Nat.le_refl _, hl2, rfl, HG, HW1⟩
  case round =>
    obtain ⟨j, hj2, hj, rfl, HP, HW⟩ := hrel
    have c1 := HW.out.2.1
    by_cases hlt : j < name.length
    · have hdr : name.drop j = name[j] :: name.drop (j + 1) := List.drop_eq_getElem_cons hlt
      rw [hdr, goodA] at HP
      clear hdr
      by_cases hjk : j < k
      · have u1 : decide (j < k) = true := by simp; omega
        have u2 : decide (k < j) = false := by simp; omega
        have KL := hid (fun W => letter_any (name[j]) W)
        by_cases hl : lett name[j] = true
        · have HN : Hid (goodA k (name.drop (j + 1)) (j + 1) = B) := hid (by have := HP.out; simpa [hjk, hl, show ¬ k < j by omega] using this)
          rw [hl] at KL
          clear HP hl hjk
          go_wp2_with fail
          refine (KL.out _).mono ?_
          rintro e w2 ⟨rfl, hb2⟩
          have HW2 : Hid (Ext w w2 ∧ w2.cell? ⟨w.heap.size, 1, none⟩ = some (str name) ∧ w.heap.size < w2.heap.size) := ⟨HW.out.1.trans hb2, (hb2.cell HW.out.2.2 (by simp)).trans HW.out.2.1, Nat.lt_of_lt_of_le HW.out.2.2 hb2.size⟩
          clear hb2 c1
          go_wp2_with fail
          go_roundw
          case rel => exact ⟨j + 1, by omega, by omega, by go_num, HN, HW2⟩
          case measure => simp [intOf]; omega
        · have hl2 : lett name[j] = false := by simpa using hl
          have HN : Hid (false = B) := hid (by have := HP.out; simpa [hjk, hl2] using this)
          rw [hl2] at KL
          clear HP hl hl2 hjk
          go_wp2_with fail
          refine (KL.out _).mono ?_
          rintro e w2 ⟨rfl, hb2⟩
          go_wp2_with fail
          go_ret
          exact Ret.mk (by rw [← HN.out]; rfl) (HW.out.1.trans hb2)
      · have u1 : decide (j < k) = false := by simp; omega
        by_cases hkj : k < j
        · have u2 : decide (k < j) = true := by simp; omega
          have hx8 := (name[j]).toNat_lt
          by_cases hp : prin name[j] = true
          · have HN : Hid (goodA k (name.drop (j + 1)) (j + 1) = B) := hid (by have := HP.out; simpa [hjk, hkj, hp] using this)
            have hp2 : 33 ≤ (name[j]).toNat ∧ (name[j]).toNat ≤ 126 := by simpa [prin] using hp
            have v1 : decide ((((⟨name.toArray⟩ : ByteArray)[j]'hlt).toNat : Int) < 33) = false := by show decide (((name[j]).toNat : Int) < 33) = false; simp; omega
            have v2 : decide (126 < (((⟨name.toArray⟩ : ByteArray)[j]'hlt).toNat : Int)) = false := by show decide (126 < ((name[j]).toNat : Int)) = false; simp; omega
            clear HP hp hp2 hjk hkj hx8
            go_wp2_with fail
            go_roundw
            case rel => exact ⟨j + 1, by omega, by omega, by go_num, HN, HW⟩
            case measure => simp [intOf]; omega
          · have hp1 : prin name[j] = false := by simpa using hp
            have HN : Hid (false = B) := hid (by have := HP.out; simpa [hjk, hkj, hp1] using this)
            have hp2 : ¬ (33 ≤ (name[j]).toNat ∧ (name[j]).toNat ≤ 126) := by simpa [prin] using hp
            by_cases h33 : (name[j]).toNat < 33
            · have v1 : decide ((((⟨name.toArray⟩ : ByteArray)[j]'hlt).toNat : Int) < 33) = true := by show decide (((name[j]).toNat : Int) < 33) = true; simp; omega
              clear HP hp hp1 hp2 hjk hkj hx8 h33
              go_wp2_with fail
              go_ret
              exact Ret.mk (by rw [← HN.out]; rfl) HW.out.1
            · have v1 : decide ((((⟨name.toArray⟩ : ByteArray)[j]'hlt).toNat : Int) < 33) = false := by show decide (((name[j]).toNat : Int) < 33) = false; simp; omega
              have v2 : decide (126 < (((⟨name.toArray⟩ : ByteArray)[j]'hlt).toNat : Int)) = true := by show decide (126 < ((name[j]).toNat : Int)) = true; simp; omega
              clear HP hp hp1 hp2 hjk hkj hx8 h33
              go_wp2_with fail
              go_ret
              exact Ret.mk (by rw [← HN.out]; rfl) HW.out.1
        · have u2 : decide (k < j) = false := by simp; omega
          have HN : Hid (goodA k (name.drop (j + 1)) (j + 1) = B) := hid (by have := HP.out; simpa [hjk, hkj] using this)
          clear HP hjk hkj
          go_wp2_with fail
          go_roundw
          case rel => exact ⟨j + 1, by omega, by omega, by go_num, HN, HW⟩
          case measure => simp [intOf]; omega
    · obtain rfl : j = name.length := by omega
      have HN : Hid (true = B) := by have := HP.out; rw [List.drop_length] at this; exact this
      clear HP
      go_wp2_with fail
      go_ret
      exact Ret.mk (by rw [← HN.out]; rfl) HW.out.1
theorem r10_any (e : EV) (w : World) : Calls Try.prog 10 #[e.v] w (Ret (.bool e.ok) w) := by
  rw [← EV.ok_eq]
  obtain ⟨sch, name, node, svc⟩ := e
  unfold EV.okR
  simp only []
  by_cases h2 : sch = 2
  · subst h2; rw [if_pos rfl]; exact r10_two name node svc w
  rw [if_neg h2]
  by_cases h1 : sch = 1
  case neg => rw [if_pos (Or.inl h1)]; exact r10_sch sch name node svc h2 h1 w
  subst h1
  by_cases hn : node = 0
  case neg => rw [if_pos (by omega)]; exact r10_node name node svc hn w
  subst hn
  by_cases hv : svc = 0
  case neg => rw [if_pos (by omega)]; exact r10_svc name svc hv w
  subst hv
  by_cases hl : 60 < name.length
  · rw [if_pos (by omega)]; exact r10_long name hl w
  rw [if_neg (by omega)]
  by_cases h0 : name = noneL
  · rw [if_pos h0]; subst h0; exact r10_none w
  rw [if_neg h0]
  exact r10_name name (by omega) h0 w
end Go.Proofs.Ytagjhkknefiieaa
