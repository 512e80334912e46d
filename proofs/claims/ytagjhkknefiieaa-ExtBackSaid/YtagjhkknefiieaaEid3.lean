/-
  Names: which the code takes for right.
-/
import Derived.Test.YtagjhkknefiieaaEid2
namespace Go.Proofs.Ytagjhkknefiieaa
open Go.RowKit
set_option linter.unusedVariables false

theorem nodeA_le : ∀ (l : List UInt8) (j : Nat), nodeA l j ≤ j + l.length + 2
  | [], _ => by simp [nodeA]
  | c :: l, j => by
    have ih := nodeA_le l (j + 1)
    rw [nodeA, List.length_cons]
    split
    · omega
    · split <;> omega
theorem nodeN_le (s : List UInt8) : nodeN s ≤ s.length := by
  unfold nodeN
  split
  · rename_i h
    have := nodeA_le (s.drop 2) 0
    have hl := congrArg List.length h.1
    rw [List.length_take] at hl
    rw [List.length_drop] at this
    simp at hl
    omega
  · omega
theorem cell_row8e (w : World) (l : List UInt8) (cap t : Nat) (fz : Nat × Nat) (j : Nat) (h : j < l.length) :
    (w.alloc (.cells (bytesRow ⟨l.toArray⟩ cap) t fz)).cell? ⟨w.heap.size, j, none⟩ = some (.int .u8 (l[j].toNat : Int)) := by
  rw [World.cell?_alloc_mark]
  simp only [bytesRow]
  rw [Array.getElem?_append_left (by simpa using h)]
  simp [h]
theorem named_none (w : World) : Calls Try.prog 61 #[str [110, 111, 110, 101]] w (Ret (.bool true) w) := by
  go_enter Try.func61, Try.ntmps61
  go_wp2_with fail
  go_ret
  exact Ret.mk rfl (Mod.refl _ _)
set_option maxHeartbeats 800000 in
theorem named_any (s : List UInt8) (hs : Hid (s.length < 4611686018427387904)) (w : World) : Calls Try.prog 61 #[str s] w (Ret (.bool (namedL s)) w) := by
  by_cases h0 : s = noneL
  · subst h0; exact named_none w
  have hm : namedL s = (decide (nodeN s ≠ 0) && (s.drop (nodeN s)).all prin) := by simp [namedL, h0]
  rw [hm]
  have n1 : (s == [110, 111, 110, 101]) = false := by simpa [noneL] using h0
  have n2 : (s = [110, 111, 110, 101]) = False := by simpa [noneL] using h0
  have K := hid (fun W => node_any s hs W)
  have hle := nodeN_le s
  clear hm h0
  by_cases hn0 : nodeN s = 0
  · rw [hn0] at K
    rw [hn0]
    clear hle hn0
    go_enter Try.func61, Try.ntmps61
    go_wp2_with fail
    refine (K.out _).mono ?_
    rintro e w1 ⟨rfl, hb1⟩
    go_wp2_with fail
    go_ret
    exact Ret.mk (by simp) hb1
  · have hd : ((⟨s.toArray⟩ : ByteArray).extract (nodeN s) s.length) = ⟨(s.drop (nodeN s)).toArray⟩ := by rw [ext0, List.take_of_length_le (by simp)]
    have z1 : ((nodeN s : Int) == 0) = false := by simp; omega
    have z2 : ((nodeN s : Int) = 0) = False := by simp; omega
    have hconv := fun (w : World) (s : ByteArray) => run_bytes_of_string (P := Try.prog) w 9 97 5 s Try.underlying9 Try.underlying97 Try.underlying5
    have hB : (decide (nodeN s ≠ 0) && (s.drop (nodeN s)).all prin) = (s.drop (nodeN s)).all prin := by simp [hn0]
    rw [hB]
    have hlen : (s.drop (nodeN s)).length < 4611686018427387904 := by have := hs.out; rw [List.length_drop]; omega
    clear hB hn0
    generalize nodeN s = n at *
    generalize s.drop n = t at *
    generalize hT : t.all prin = B at *
    have HT : Hid ((t.drop 0).all prin = B) := hT
    clear hT
    go_enter Try.func61, Try.ntmps61
    go_wp2_with fail
    refine (K.out _).mono ?_
    rintro e w1 ⟨rfl, hb1⟩
    clear K
    have HB1 := hid hb1
    clear hb1
    go_wp2_with fail
    have hext := (HB1.out.alloc (Obj.cells (bytesRow { data := t.toArray } (grownCap w1 t.length 0 5)) 5 ((bytesRow { data := t.toArray } (grownCap w1 t.length 0 5)).size, (bytesRow { data := t.toArray } (grownCap w1 t.length 0 5)).size + 1)))
    have hcell : ∀ j (h : j < t.length), (w1.alloc (Obj.cells (bytesRow { data := t.toArray } (grownCap w1 t.length 0 5)) 5 ((bytesRow { data := t.toArray } (grownCap w1 t.length 0 5)).size, (bytesRow { data := t.toArray } (grownCap w1 t.length 0 5)).size + 1))).cell? ⟨w1.heap.size, j, none⟩ = some (.int .u8 (t[j].toNat : Int)) := fun j h => cell_row8e w1 t _ _ _ j h
    generalize hW : World.alloc w1 _ = W at *
    have HX := hid hext; clear hext hW
    have HC := hid hcell; clear hcell
    go_loop [5, 17] (fun c i => ∃ j : Nat, j ≤ t.length ∧ i = .int .i64 j ∧ Hid ((t.drop j).all prin = B)) (fun _ i => t.length - (intOf i).toNat)
    case atStart => exact ⟨0, Nat.zero_le _, rfl, HT⟩
    case round =>
      obtain ⟨j, hj, rfl, HP⟩ := hrel
      by_cases hlt : j < t.length
      · have hcc := HC.out j hlt
        have hdr : t.drop j = t[j] :: t.drop (j + 1) := List.drop_eq_getElem_cons hlt
        rw [hdr, List.all_cons] at HP
        clear hdr
        generalize t[j] = x at *
        have hx := x.toNat_lt
        by_cases h1 : x.toNat < 33
        · have hp : prin x = false := by simp [prin]; omega
          have HB2 : Hid (false = B) := by have := HP.out; rw [hp] at this; exact this
          have t1 : decide ((x.toNat : Int) < 33) = true := by simp; omega
          clear HP hp h1
          go_wp2_with fail
          go_ret
          exact Ret.mk (by rw [← HB2.out]; rfl) HX.out.drew
        · by_cases h2 : 126 < x.toNat
          · have hp : prin x = false := by simp [prin]; omega
            have HB2 : Hid (false = B) := by have := HP.out; rw [hp] at this; exact this
            have t1 : decide ((x.toNat : Int) < 33) = false := by simp; omega
            have t2 : decide (126 < (x.toNat : Int)) = true := by simp; omega
            clear HP hp h1 h2
            go_wp2_with fail
            go_ret
            exact Ret.mk (by rw [← HB2.out]; rfl) HX.out.drew
          · have hp : prin x = true := by simp [prin]; omega
            have HP2 : Hid ((t.drop (j + 1)).all prin = B) := by have := HP.out; rw [hp] at this; exact this
            have t1 : decide ((x.toNat : Int) < 33) = false := by simp; omega
            have t2 : decide (126 < (x.toNat : Int)) = false := by simp; omega
            clear HP hp h1 h2
            go_wp2_with fail
            go_round
            case rel => exact ⟨j + 1, by omega, by go_num, HP2⟩
            case measure => simp [intOf]; omega
      · obtain rfl : j = t.length := by omega
        have HB2 : Hid (true = B) := by have := HP.out; rw [List.drop_length] at this; exact this
        clear HP
        go_wp2_with fail
        go_ret
        exact Ret.mk (by rw [← HB2.out]; rfl) HX.out.drew

set_option maxRecDepth 20000 in
theorem eidRight_any (e : EV) (hs : Hid (e.name.length < 4611686018427387904)) (w : World) : Calls Try.prog 52 #[e.v] w (Ret (.bool e.ok) w) := by
  obtain ⟨sch, name, node, svc⟩ := e
  by_cases h1 : sch = 1
  · subst h1
    have e1 : EV.ok ⟨1, name, node, svc⟩ = (decide (node = 0) && decide (svc = 0) && namedL name) := rfl
    rw [e1]
    clear e1
    by_cases hn : node = 0
    · subst hn
      by_cases hv : svc = 0
      · subst hv
        have K := hid (fun W => named_any name hs W)
        generalize namedL name = b at *
        have HE := hid ((Mod.refl [] w).alloc (.cells (EV.c ⟨1, name, 0, 0⟩) 24))
        go_enter Try.func52, Try.ntmps52
        go_wp2_with fail
        refine (K.out _).mono ?_
        rintro e w1 ⟨rfl, hb1⟩
        go_wp2_with fail
        go_ret
        exact Ret.mk (by simp) (HE.out.trans hb1)
      · have z1 : ((svc : Int) == 0) = false := by simp; omega
        have z2 : ((svc : Int) = 0) = False := by simp; omega
        have hb : (decide ((0 : Nat) = 0) && decide (svc = 0) && namedL name) = false := by simp [hv]
        rw [hb]
        clear hb hv
        go_enter Try.func52, Try.ntmps52
        go_wp2_with fail
        go_ret
        exact Ret.mk rfl ((Mod.refl _ _).alloc _)
    · have z1 : ((node : Int) == 0) = false := by simp; omega
      have z2 : ((node : Int) = 0) = False := by simp; omega
      have hb : (decide (node = 0) && decide (svc = 0) && namedL name) = false := by simp [hn]
      rw [hb]
      clear hb hn
      go_enter Try.func52, Try.ntmps52
      go_wp2_with fail
      go_ret
      exact Ret.mk rfl ((Mod.refl _ _).alloc _)
  · by_cases h2 : sch = 2
    · subst h2
      have e1 : EV.ok ⟨2, name, node, svc⟩ = (decide (name = []) && decide (node ≤ 4294967295) && decide (svc ≤ 4294967295)) := rfl
      rw [e1]
      clear e1 h1
      by_cases hn : name = []
      · subst hn
        by_cases ha : node ≤ 4294967295
        · have t1 : decide ((node : Int) ≤ 4294967295) = true := by simp; omega
          by_cases hb : svc ≤ 4294967295
          · have t2 : decide ((svc : Int) ≤ 4294967295) = true := by simp; omega
            have hr : (decide (([] : List UInt8) = []) && decide (node ≤ 4294967295) && decide (svc ≤ 4294967295)) = true := by simp [ha, hb]
            rw [hr]
            clear hr ha hb
            go_enter Try.func52, Try.ntmps52
            go_wp2_with fail
            go_ret
            exact Ret.mk rfl ((Mod.refl _ _).alloc _)
          · have t2 : decide ((svc : Int) ≤ 4294967295) = false := by simp; omega
            have hr : (decide (([] : List UInt8) = []) && decide (node ≤ 4294967295) && decide (svc ≤ 4294967295)) = false := by simp [hb]
            rw [hr]
            clear hr ha hb
            go_enter Try.func52, Try.ntmps52
            go_wp2_with fail
            go_ret
            exact Ret.mk rfl ((Mod.refl _ _).alloc _)
        · have t1 : decide ((node : Int) ≤ 4294967295) = false := by simp; omega
          have hr : (decide (([] : List UInt8) = []) && decide (node ≤ 4294967295) && decide (svc ≤ 4294967295)) = false := by simp [ha]
          rw [hr]
          clear hr ha
          go_enter Try.func52, Try.ntmps52
          go_wp2_with fail
          go_ret
          exact Ret.mk rfl ((Mod.refl _ _).alloc _)
      · have n1 : (name == []) = false := by simpa using hn
        have n2 : (name = []) = False := by simpa using hn
        have n3 : name.isEmpty = false := by simpa using hn
        have hr : (decide (name = []) && decide (node ≤ 4294967295) && decide (svc ≤ 4294967295)) = false := by simp [hn]
        rw [hr]
        clear hr hn
        go_enter Try.func52, Try.ntmps52
        go_wp2_with fail
        go_ret
        exact Ret.mk rfl ((Mod.refl _ _).alloc _)
    · have e1 : EV.ok ⟨sch, name, node, svc⟩ = false := by simp [EV.ok, h1, h2]
      rw [e1]
      have s1 : (sch = 1) = False := by simp [h1]
      have s2 : (sch == 1) = false := by simp [h1]
      have s3 : (sch = 2) = False := by simp [h2]
      have s4 : (sch == 2) = false := by simp [h2]
      clear e1 h1 h2
      go_enter Try.func52, Try.ntmps52
      go_wp2_with fail
      go_ret
      exact Ret.mk rfl ((Mod.refl _ _).alloc _)
end Go.Proofs.Ytagjhkknefiieaa
