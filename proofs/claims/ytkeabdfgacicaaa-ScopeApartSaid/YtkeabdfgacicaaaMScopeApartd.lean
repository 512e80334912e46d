/-
  Names: which the code takes for right.
  The item of a name.
  The reference's look at names.
  The reference's right names.
  An argument item.Item, opened: it is a tree whose items lie in memory.
  An argument api.EID, opened; two numbers in a row.
  A right name's item, by the code and by the reference.
  The name that an item may be.
  The name of an item.
  Data of blocks: a name, a number, hops; made by the code.
  What the laws of the layer wake the program by.
  What is made is read again: names.
  What is made is read again: numbers, hops.
  What is made is read again: hops, whole.
  What data tell, by their bytes alone: a name, an age, hops.
  Lists of items, plainly; a primary's items and bytes; why it is not right.
  Bundles in memory.
-/
import Derived.Test.YtkeabdfgacicaaaMScopeApartc
import Derived.Deep.Slices
import Derived.Deep.Fields
import Derived.ChangeSame
import Derived.SizedLaws
import Derived.OpenShut

namespace Go.Proofs.Ytkeabdfgacicaaa
open Go.RowKit
set_option linter.unusedVariables false
set_option linter.unusedSimpArgs false

theorem nodeA_le : ∀ (l : List UInt8) (j : Nat), nodeA l j ≤ j + l.length + 2
  | [], _ => by simp [nodeA]
  | c :: l, j => by
    have ih := nodeA_le l (j + 1)
    rw [nodeA, List.length_cons]
    split
    · omega
    · split <;> omega
theorem nodeN_le (s : List UInt8) : nodeN s ≤ s.length := by
  unfold nodeN
  split
  · rename_i h
    have := nodeA_le (s.drop 2) 0
    have hl := congrArg List.length h.1
    rw [List.length_take] at hl
    rw [List.length_drop] at this
    simp at hl
    omega
  · omega
theorem cell_row8e (w : World) (l : List UInt8) (cap t : Nat) (fz : Nat × Nat) (j : Nat) (h : j < l.length) :
    (w.alloc (.cells (bytesRow ⟨l.toArray⟩ cap) t fz)).cell? ⟨w.heap.size, j, none⟩ = some (.int .u8 (l[j].toNat : Int)) := by
  rw [World.cell?_alloc_mark]
  simp only [bytesRow]
  rw [Array.getElem?_append_left (by simpa using h)]
  simp [h]
theorem named_none (w : World) : Calls Try.prog 130 #[str [110, 111, 110, 101]] w (Ret (.bool true) w) := by
  go_enter Try.func130, Try.ntmps130
  go_wp2_with fail
  go_ret
  exact Ret.mk rfl (Mod.refl _ _)
set_option maxHeartbeats 800000 in
theorem named_any (s : List UInt8) (hs : Hid (s.length < 4611686018427387904)) (w : World) : Calls Try.prog 130 #[str s] w (Ret (.bool (namedL s)) w) := by
  by_cases h0 : s = noneL
  · subst h0; exact named_none w
  have hm : namedL s = (decide (nodeN s ≠ 0) && (s.drop (nodeN s)).all prin) := by simp [namedL, h0]
  rw [hm]
  have n1 : (s == [110, 111, 110, 101]) = false := by simpa [noneL] using h0
  have n2 : (s = [110, 111, 110, 101]) = False := by simpa [noneL] using h0
  have K := hid (fun W => node_any s hs W)
  have hle := nodeN_le s
  clear hm h0
  by_cases hn0 : nodeN s = 0
  · rw [hn0] at K
    rw [hn0]
    clear hle hn0
    go_enter Try.func130, Try.ntmps130
    go_wp2_with fail
    refine (K.out _).mono ?_
    rintro e w1 ⟨rfl, hb1⟩
    go_wp2_with fail
    go_ret
    exact Ret.mk (by simp) hb1
  · have hd : ((⟨s.toArray⟩ : ByteArray).extract (nodeN s) s.length) = ⟨(s.drop (nodeN s)).toArray⟩ := by rw [ext0, List.take_of_length_le (by simp)]
    have z1 : ((nodeN s : Int) == 0) = false := by simp; omega
    have z2 : ((nodeN s : Int) = 0) = False := by simp; omega
    have hconv := fun (w : World) (s : ByteArray) => run_bytes_of_string (P := Try.prog) w 9 58 5 s Try.underlying9 Try.underlying58 Try.underlying5
    have hB : (decide (nodeN s ≠ 0) && (s.drop (nodeN s)).all prin) = (s.drop (nodeN s)).all prin := by simp [hn0]
    rw [hB]
    have hlen : (s.drop (nodeN s)).length < 4611686018427387904 := by have := hs.out; rw [List.length_drop]; omega
    clear hB hn0
    generalize nodeN s = n at *
    generalize s.drop n = t at *
    generalize hT : t.all prin = B at *
    have HT : Hid ((t.drop 0).all prin = B) := hT
    clear hT
    go_enter Try.func130, Try.ntmps130
    go_wp2_with fail
    refine (K.out _).mono ?_
    rintro e w1 ⟨rfl, hb1⟩
    clear K
    have HB1 := hid hb1
    clear hb1
    go_wp2_with fail
    have hext := (HB1.out.alloc (Obj.cells (bytesRow { data := t.toArray } (grownCap w1 t.length 0 5)) 5 ((bytesRow { data := t.toArray } (grownCap w1 t.length 0 5)).size, (bytesRow { data := t.toArray } (grownCap w1 t.length 0 5)).size + 1)))
    have hcell : ∀ j (h : j < t.length), (w1.alloc (Obj.cells (bytesRow { data := t.toArray } (grownCap w1 t.length 0 5)) 5 ((bytesRow { data := t.toArray } (grownCap w1 t.length 0 5)).size, (bytesRow { data := t.toArray } (grownCap w1 t.length 0 5)).size + 1))).cell? ⟨w1.heap.size, j, none⟩ = some (.int .u8 (t[j].toNat : Int)) := fun j h => cell_row8e w1 t _ _ _ j h
    generalize hW : World.alloc w1 _ = W at *
    have HX := hid hext; clear hext hW
    have HC := hid hcell; clear hcell
    go_loop [5, 17] (fun c i => ∃ j : Nat, j ≤ t.length ∧ i = .int .i64 j ∧ Hid ((t.drop j).all prin = B)) (fun _ i => t.length - (intOf i).toNat)
    case atStart => exact ⟨0, Nat.zero_le _, rfl, HT⟩
    case round =>
      obtain ⟨j, hj, rfl, HP⟩ := hrel
      by_cases hlt : j < t.length
      · have hcc := HC.out j hlt
        have hdr : t.drop j = t[j] :: t.drop (j + 1) := List.drop_eq_getElem_cons hlt
        rw [hdr, List.all_cons] at HP
        clear hdr
        generalize t[j] = x at *
        have hx := x.toNat_lt
        by_cases h1 : x.toNat < 33
        · have hp : prin x = false := by simp [prin]; omega
          have HB2 : Hid (false = B) := by have := HP.out; rw [hp] at this; exact this
          have t1 : decide ((x.toNat : Int) < 33) = true := by simp; omega
          clear HP hp h1
          go_wp2_with fail
          go_ret
          exact Ret.mk (by rw [← HB2.out]; rfl) HX.out.drew
        · by_cases h2 : 126 < x.toNat
          · have hp : prin x = false := by simp [prin]; omega
            have HB2 : Hid (false = B) := by have := HP.out; rw [hp] at this; exact this
            have t1 : decide ((x.toNat : Int) < 33) = false := by simp; omega
            have t2 : decide (126 < (x.toNat : Int)) = true := by simp; omega
            clear HP hp h1 h2
            go_wp2_with fail
            go_ret
            exact Ret.mk (by rw [← HB2.out]; rfl) HX.out.drew
          · have hp : prin x = true := by simp [prin]; omega
            have HP2 : Hid ((t.drop (j + 1)).all prin = B) := by have := HP.out; rw [hp] at this; exact this
            have t1 : decide ((x.toNat : Int) < 33) = false := by simp; omega
            have t2 : decide (126 < (x.toNat : Int)) = false := by simp; omega
            clear HP hp h1 h2
            go_wp2_with fail
            go_round
            case rel => exact ⟨j + 1, by omega, by go_num, HP2⟩
            case measure => simp [intOf]; omega
      · obtain rfl : j = t.length := by omega
        have HB2 : Hid (true = B) := by have := HP.out; rw [List.drop_length] at this; exact this
        clear HP
        go_wp2_with fail
        go_ret
        exact Ret.mk (by rw [← HB2.out]; rfl) HX.out.drew

set_option maxRecDepth 20000 in
theorem eidRight_any (e : EV) (hs : Hid (e.name.length < 4611686018427387904)) (w : World) : Calls Try.prog 113 #[e.v] w (Ret (.bool e.ok) w) := by
  obtain ⟨sch, name, node, svc⟩ := e
  by_cases h1 : sch = 1
  · subst h1
    have e1 : EV.ok ⟨1, name, node, svc⟩ = (decide (node = 0) && decide (svc = 0) && namedL name) := rfl
    rw [e1]
    clear e1
    by_cases hn : node = 0
    · subst hn
      by_cases hv : svc = 0
      · subst hv
        have K := hid (fun W => named_any name hs W)
        generalize namedL name = b at *
        have HE := hid ((Mod.refl [] w).alloc (.cells (EV.c ⟨1, name, 0, 0⟩) 24))
        go_enter Try.func113, Try.ntmps113
        go_wp2_with fail
        refine (K.out _).mono ?_
        rintro e w1 ⟨rfl, hb1⟩
        go_wp2_with fail
        go_ret
        exact Ret.mk (by simp) (HE.out.trans hb1)
      · have z1 : ((svc : Int) == 0) = false := by simp; omega
        have z2 : ((svc : Int) = 0) = False := by simp; omega
        have hb : (decide ((0 : Nat) = 0) && decide (svc = 0) && namedL name) = false := by simp [hv]
        rw [hb]
        clear hb hv
        go_enter Try.func113, Try.ntmps113
        go_wp2_with fail
        go_ret
        exact Ret.mk rfl ((Mod.refl _ _).alloc _)
    · have z1 : ((node : Int) == 0) = false := by simp; omega
      have z2 : ((node : Int) = 0) = False := by simp; omega
      have hb : (decide (node = 0) && decide (svc = 0) && namedL name) = false := by simp [hn]
      rw [hb]
      clear hb hn
      go_enter Try.func113, Try.ntmps113
      go_wp2_with fail
      go_ret
      exact Ret.mk rfl ((Mod.refl _ _).alloc _)
  · by_cases h2 : sch = 2
    · subst h2
      have e1 : EV.ok ⟨2, name, node, svc⟩ = (decide (name = []) && decide (node ≤ 4294967295) && decide (svc ≤ 4294967295)) := rfl
      rw [e1]
      clear e1 h1
      by_cases hn : name = []
      · subst hn
        by_cases ha : node ≤ 4294967295
        · have t1 : decide ((node : Int) ≤ 4294967295) = true := by simp; omega
          by_cases hb : svc ≤ 4294967295
          · have t2 : decide ((svc : Int) ≤ 4294967295) = true := by simp; omega
            have hr : (decide (([] : List UInt8) = []) && decide (node ≤ 4294967295) && decide (svc ≤ 4294967295)) = true := by simp [ha, hb]
            rw [hr]
            clear hr ha hb
            go_enter Try.func113, Try.ntmps113
            go_wp2_with fail
            go_ret
            exact Ret.mk rfl ((Mod.refl _ _).alloc _)
          · have t2 : decide ((svc : Int) ≤ 4294967295) = false := by simp; omega
            have hr : (decide (([] : List UInt8) = []) && decide (node ≤ 4294967295) && decide (svc ≤ 4294967295)) = false := by simp [hb]
            rw [hr]
            clear hr ha hb
            go_enter Try.func113, Try.ntmps113
            go_wp2_with fail
            go_ret
            exact Ret.mk rfl ((Mod.refl _ _).alloc _)
        · have t1 : decide ((node : Int) ≤ 4294967295) = false := by simp; omega
          have hr : (decide (([] : List UInt8) = []) && decide (node ≤ 4294967295) && decide (svc ≤ 4294967295)) = false := by simp [ha]
          rw [hr]
          clear hr ha
          go_enter Try.func113, Try.ntmps113
          go_wp2_with fail
          go_ret
          exact Ret.mk rfl ((Mod.refl _ _).alloc _)
      · have n1 : (name == []) = false := by simpa using hn
        have n2 : (name = []) = False := by simpa using hn
        have n3 : name.isEmpty = false := by simpa using hn
        have hr : (decide (name = []) && decide (node ≤ 4294967295) && decide (svc ≤ 4294967295)) = false := by simp [hn]
        rw [hr]
        clear hr hn
        go_enter Try.func113, Try.ntmps113
        go_wp2_with fail
        go_ret
        exact Ret.mk rfl ((Mod.refl _ _).alloc _)
    · have e1 : EV.ok ⟨sch, name, node, svc⟩ = false := by simp [EV.ok, h1, h2]
      rw [e1]
      have s1 : (sch = 1) = False := by simp [h1]
      have s2 : (sch == 1) = false := by simp [h1]
      have s3 : (sch = 2) = False := by simp [h2]
      have s4 : (sch == 2) = false := by simp [h2]
      clear e1 h1 h2
      go_enter Try.func113, Try.ntmps113
      go_wp2_with fail
      go_ret
      exact Ret.mk rfl ((Mod.refl _ _).alloc _)
end Go.Proofs.Ytkeabdfgacicaaa


namespace Go.Proofs.Ytkeabdfgacicaaa
open Go.RowKit
set_option linter.unusedVariables false
set_option linter.unusedSimpArgs false

/-- Text; a name's item. -/
def textT (s : List UInt8) : T := T.mk 3 0 s false 0 fun _ => T.nil
def twoT (e : EV) : T := if e.sch = 2 then T.mk 4 0 [] false 2 (fun j => if j = 0 then numT e.node else numT e.svc) else if e.name = noneL then numT 0 else textT e.name
def eidT (e : EV) : T := T.mk 4 0 [] false 2 fun i => if i = 0 then numT e.sch.toNat else twoT e

set_option maxRecDepth 20000 in
set_option maxHeartbeats 800000 in
theorem eidItem_bad (sch : Int) (name : List UInt8) (node svc : Nat) (hs : Hid (name.length < 4611686018427387904)) (ho : EV.ok ⟨sch, name, node, svc⟩ = false) (w : World) :
    Calls Try.prog 94 #[EV.v ⟨sch, name, node, svc⟩] w (Ret (.tuple #[itemV (numT 0) none 0, .int .i64 1]) w) := by
  have K := hid (fun W => eidRight_any ⟨sch, name, node, svc⟩ hs W)
  rw [ho] at K
  have HB := hid ((Blk.new w 24 (EV.c ⟨sch, name, node, svc⟩)).alloc (.cells #[.int .i64 0, .int .u64 0, .string ⟨#[]⟩, .slice none 0 0, .bool false] 48))
  have HR : Hid (Blk ((w.alloc (.cells (EV.c ⟨sch, name, node, svc⟩) 24)).alloc (.cells #[.int .i64 0, .int .u64 0, .string ⟨#[]⟩, .slice none 0 0, .bool false] 48)) (w.heap.size + 1) 48 (itemC (numT 0) none 0)) := by
    have := Blk.new (w.alloc (.cells (EV.c ⟨sch, name, node, svc⟩) 24)) 48 (itemC (numT 0) none 0)
    unfold Hid
    simpa [itemC, numT, T.kind, T.n, T.s, T.k, T.op] using this
  have HE := hid (((Mod.refl [] w).alloc (.cells (EV.c ⟨sch, name, node, svc⟩) 24)).alloc (.cells #[.int .i64 0, .int .u64 0, .string ⟨#[]⟩, .slice none 0 0, .bool false] 48))
  go_enter Try.func94, Try.ntmps94
  go_wp2_with fail
  refine (K.out _).mono ?_
  rintro e w1 ⟨rfl, hb1⟩
  have HB1 := hid (HB.out.ext hb1)
  have HR1 := hid (HR.out.ext hb1)
  have HE1 := hid (HE.out.trans hb1)
  clear hb1 HB HR HE
  obtain ⟨c0, c1, c2, c3, c4⟩ := cells5 HR1.out
  have f0 := Blk.frozen HR1.out 0
  have f1 := Blk.frozen HR1.out 1
  have f2 := Blk.frozen HR1.out 2
  have f3 := Blk.frozen HR1.out 3
  have f4 := Blk.frozen HR1.out 4
  go_wp2_with fail
  obtain ⟨d0, d1, d2, d3, d4⟩ := cells5 (set5_blk (t := numT 0) (A := none) (c := 0) HR1.out)
  clear c0 c1 c2 c3 c4 f0 f1 f2 f3 f4
  show bodyPost _ _ _ _ _ (set5 w1 (w.heap.size + 1) (numT 0) none 0)
  refine bodyPost_ret (v := .tuple #[itemV (numT 0) none 0, .int .i64 1]) (by simp [results, Try.results94, go_sem, d0, d1, d2, d3, d4]) rfl ?_
  exact Ret.mk rfl (set5_mod HE1.out (by omega))

set_option maxRecDepth 20000 in
set_option maxHeartbeats 1600000 in
theorem eidItem_none (w : World) :
    Calls Try.prog 94 #[EV.v ⟨1, [110, 111, 110, 101], 0, 0⟩] w (fun e w' => ∃ A, e = .returned (.tuple #[itemV (eidT ⟨1, [110, 111, 110, 101], 0, 0⟩) A 2, .int .i64 0]) ∧ Ext w w' ∧ IsL w' (fun b => w.heap.size ≤ b) (eidT ⟨1, [110, 111, 110, 101], 0, 0⟩) A) := by
  have K : Hid (∀ W, Calls Try.prog 113 #[EV.v ⟨1, [110, 111, 110, 101], 0, 0⟩] W (Ret (.bool true) W)) := fun W => by have := eidRight_any ⟨1, [110, 111, 110, 101], 0, 0⟩ (by unfold Hid; decide) W; rw [show EV.ok ⟨1, [110, 111, 110, 101], 0, 0⟩ = true by decide] at this; exact this
  have HB := hid ((Blk.new w 24 (EV.c ⟨1, [110, 111, 110, 101], 0, 0⟩)).alloc (.cells #[.int .i64 0, .int .u64 0, .string ⟨#[]⟩, .slice none 0 0, .bool false] 48))
  have HR : Hid (Blk ((w.alloc (.cells (EV.c ⟨1, [110, 111, 110, 101], 0, 0⟩) 24)).alloc (.cells #[.int .i64 0, .int .u64 0, .string ⟨#[]⟩, .slice none 0 0, .bool false] 48)) (w.heap.size + 1) 48 (itemC (numT 0) none 0)) := by
    have := Blk.new (w.alloc (.cells (EV.c ⟨1, [110, 111, 110, 101], 0, 0⟩) 24)) 48 (itemC (numT 0) none 0)
    unfold Hid
    simpa [itemC, numT, T.kind, T.n, T.s, T.k, T.op] using this
  have HE := hid (((Mod.refl [] w).alloc (.cells (EV.c ⟨1, [110, 111, 110, 101], 0, 0⟩) 24)).alloc (.cells #[.int .i64 0, .int .u64 0, .string ⟨#[]⟩, .slice none 0 0, .bool false] 48))
  go_enter Try.func94, Try.ntmps94
  go_wp2_with fail
  refine (K.out _).mono ?_
  rintro e w1 ⟨rfl, hb1⟩
  have HB1 := hid (HB.out.ext hb1)
  have HR1 := hid (HR.out.ext hb1)
  have HE1 := hid (HE.out.trans hb1)
  clear hb1 HB HR HE
  have x0 : w1.cell? ⟨w.heap.size, 0, none⟩ = some (.int .i64 1) := HB1.out.cell 0
  have x1 : w1.cell? ⟨w.heap.size, 1, none⟩ = some (str [110, 111, 110, 101]) := HB1.out.cell 1
  go_wp2_with fail
  refine (NumI_any _ _).mono ?_
  rintro e w2 ⟨rfl, hb2⟩
  go_wp2_with fail
  refine (NumI_any _ _).mono ?_
  rintro e w3 ⟨rfl, hb3⟩
  have H13 : Hid (w1.heap.size ≤ w3.heap.size) := Nat.le_trans hb2.size hb3.size
  have HE3 := hid ((HE1.out.trans hb2).trans hb3)
  have HR3 := hid ((HR1.out.ext hb2).ext hb3)
  clear hb2 hb3 x0 x1
  go_wp2_with fail
  refine (ListV_any 2 _ 2 _).mono ?_
  rintro e w4 ⟨rfl, hb4⟩
  have HOut := hid ((Blk.new w3 48 #[.int .i64 0, .int .u64 1, str [], .slice none 0 0, .bool false, .int .i64 0, .int .u64 0, str [], .slice none 0 0, .bool false]).ext hb4)
  have HE4 := hid ((HE3.out.alloc _).trans hb4)
  have HR4 := hid ((HR3.out.alloc _).ext hb4)
  clear hb4 HE3 HR3
  obtain ⟨c0, c1, c2, c3, c4⟩ := cells5 HR4.out
  have f0 := Blk.frozen HR4.out 0
  have f1 := Blk.frozen HR4.out 1
  have f2 := Blk.frozen HR4.out 2
  have f3 := Blk.frozen HR4.out 3
  have f4 := Blk.frozen HR4.out 4
  have HTT : Hid (eidT ⟨1, [110, 111, 110, 101], 0, 0⟩ = T.mk 4 0 [] false 2 fun i => if i = 0 then numT 1 else numT 0) := rfl
  have HFin : Hid (Ext w (set5 w4 (w.heap.size + 1) (eidT ⟨1, [110, 111, 110, 101], 0, 0⟩) (some ⟨w3.heap.size, 0, none⟩) 2) ∧ Blk (set5 w4 (w.heap.size + 1) (eidT ⟨1, [110, 111, 110, 101], 0, 0⟩) (some ⟨w3.heap.size, 0, none⟩) 2) (w.heap.size + 1) 48 (itemC (eidT ⟨1, [110, 111, 110, 101], 0, 0⟩) (some ⟨w3.heap.size, 0, none⟩) 2) ∧
      IsL (set5 w4 (w.heap.size + 1) (eidT ⟨1, [110, 111, 110, 101], 0, 0⟩) (some ⟨w3.heap.size, 0, none⟩) 2) (fun b => w.heap.size ≤ b) (eidT ⟨1, [110, 111, 110, 101], 0, 0⟩) (some ⟨w3.heap.size, 0, none⟩)) := by
    have hm : Mod [w.heap.size + 1] w4 (set5 w4 (w.heap.size + 1) (eidT ⟨1, [110, 111, 110, 101], 0, 0⟩) (some ⟨w3.heap.size, 0, none⟩) 2) := set5_modb
    have hl := HR1.out.lt
    have hs3 := H13.out
    have b1 := HOut.out.mod hm (by simp; omega)
    refine ⟨set5_mod HE4.out (by omega), set5_blk HR4.out, ?_⟩
    rw [HTT.out] at b1 ⊢
    refine fun _ => ⟨w3.heap.size, 0, rfl, b1.lt, (show w.heap.size ≤ w3.heap.size by omega), fun i hi => ?_⟩
    have hi2 : i = 0 ∨ i = 1 := by omega
    rcases hi2 with rfl | rfl
    · exact ⟨none, 0, ⟨b1.cell 0, b1.cell 1, b1.cell 2, b1.cell 3, b1.cell 4⟩, fun h => absurd h (by decide)⟩
    · exact ⟨none, 0, ⟨b1.cell 5, b1.cell 6, b1.cell 7, b1.cell 8, b1.cell 9⟩, fun h => absurd h (by decide)⟩
  obtain ⟨d0, d1, d2, d3, d4⟩ := cells5 HFin.out.2.1
  go_wp2_with fail
  show bodyPost _ _ _ _ _ (set5 w4 (w.heap.size + 1) (eidT ⟨1, [110, 111, 110, 101], 0, 0⟩) (some ⟨w3.heap.size, 0, none⟩) 2)
  refine bodyPost_ret (v := .tuple #[itemV (eidT ⟨1, [110, 111, 110, 101], 0, 0⟩) (some ⟨w3.heap.size, 0, none⟩) 2, .int .i64 0]) (by simp [results, Try.results94, go_sem, d0, d1, d2, d3, d4]) rfl ?_
  exact ⟨_, rfl, HFin.out.1, HFin.out.2.2⟩

set_option maxRecDepth 20000 in
set_option maxHeartbeats 1600000 in
theorem eidItem_dtn (name : List UInt8) (hs : Hid (name.length < 4611686018427387904)) (hn : name ≠ [110, 111, 110, 101]) (ho : EV.ok ⟨1, name, 0, 0⟩ = true) (w : World) :
    Calls Try.prog 94 #[EV.v ⟨1, name, 0, 0⟩] w (fun e w' => ∃ A, e = .returned (.tuple #[itemV (eidT ⟨1, name, 0, 0⟩) A 2, .int .i64 0]) ∧ Ext w w' ∧ IsL w' (fun b => w.heap.size ≤ b) (eidT ⟨1, name, 0, 0⟩) A) := by
  have K : Hid (∀ W, Calls Try.prog 113 #[EV.v ⟨1, name, 0, 0⟩] W (Ret (.bool true) W)) := fun W => by have := eidRight_any ⟨1, name, 0, 0⟩ hs W; rw [ho] at this; exact this
  have hnn : Hid (¬ name = noneL) := hn
  have n1 : (name == [110, 111, 110, 101]) = false := by simpa using hn
  have n2 : (name = [110, 111, 110, 101]) = False := by simpa using hn
  clear hn
  have HB := hid ((Blk.new w 24 (EV.c ⟨1, name, 0, 0⟩)).alloc (.cells #[.int .i64 0, .int .u64 0, .string ⟨#[]⟩, .slice none 0 0, .bool false] 48))
  have HR : Hid (Blk ((w.alloc (.cells (EV.c ⟨1, name, 0, 0⟩) 24)).alloc (.cells #[.int .i64 0, .int .u64 0, .string ⟨#[]⟩, .slice none 0 0, .bool false] 48)) (w.heap.size + 1) 48 (itemC (numT 0) none 0)) := by
    have := Blk.new (w.alloc (.cells (EV.c ⟨1, name, 0, 0⟩) 24)) 48 (itemC (numT 0) none 0)
    unfold Hid
    simpa [itemC, numT, T.kind, T.n, T.s, T.k, T.op] using this
  have HE := hid (((Mod.refl [] w).alloc (.cells (EV.c ⟨1, name, 0, 0⟩) 24)).alloc (.cells #[.int .i64 0, .int .u64 0, .string ⟨#[]⟩, .slice none 0 0, .bool false] 48))
  go_enter Try.func94, Try.ntmps94
  go_wp2_with fail
  refine (K.out _).mono ?_
  rintro e w1 ⟨rfl, hb1⟩
  have HB1 := hid (HB.out.ext hb1)
  have HR1 := hid (HR.out.ext hb1)
  have HE1 := hid (HE.out.trans hb1)
  clear hb1 HB HR HE
  have x0 : w1.cell? ⟨w.heap.size, 0, none⟩ = some (.int .i64 1) := HB1.out.cell 0
  have x1 : w1.cell? ⟨w.heap.size, 1, none⟩ = some (str name) := HB1.out.cell 1
  have HS : Hid (∀ w', Ext w1 w' → w'.cell? ⟨w.heap.size, 0, none⟩ = some (.int .i64 1) ∧ w'.cell? ⟨w.heap.size, 1, none⟩ = some (str name)) := fun W hW => ⟨(HB1.out.ext hW).cell 0, (HB1.out.ext hW).cell 1⟩
  obtain ⟨c0, c1, c2, c3, c4⟩ := cells5 HR1.out
  have f0 := Blk.frozen HR1.out 0
  have f1 := Blk.frozen HR1.out 1
  have f2 := Blk.frozen HR1.out 2
  have f3 := Blk.frozen HR1.out 3
  have f4 := Blk.frozen HR1.out 4
  go_upto_region 7 with fail
  go_region_held3 (fun w' => w'.cell? ⟨w.heap.size, 0, none⟩ = some (.int .i64 1) ∧ w'.cell? ⟨w.heap.size, 1, none⟩ = some (str name)) (go_keep)
    (first
      | (go_at_call 66; refine (NumI_any _ _).mono ?_; rintro x w3 ⟨rfl, hb3⟩; have hx : Ext w1 w3 := (by (with_reducible refine Mod.trans ?_ hb3); (repeat (first | with_reducible assumption | with_reducible exact Mod.refl _ _ | with_reducible refine Mod.drew ?_ | with_reducible refine Mod.alloc ?_ _))); have z := HS.out w3 hx; have H13 : Hid (w1.heap.size ≤ w3.heap.size) := hx.size)
      | (go_at_call 54; refine (ListV_any 2 _ 2 _).mono ?_; rintro x w4 ⟨rfl, hb4⟩; have hx : Ext w1 w4 := (by (with_reducible refine Mod.trans ?_ hb4); (repeat (first | with_reducible assumption | with_reducible exact Mod.refl _ _ | with_reducible refine Mod.drew ?_ | with_reducible refine Mod.alloc ?_ _))); have z := HS.out w4 hx; have HOut := hid ((Blk.new _ _ _).ext hb4); have HR4 := hid (HR1.out.ext hx); have HE4 := hid (HE1.out.trans hx); obtain ⟨g0, g1, g2, g3, g4⟩ := cells5 HR4.out; have f0 := Blk.frozen HR4.out 0; have f1 := Blk.frozen HR4.out 1; have f2 := Blk.frozen HR4.out 2; have f3 := Blk.frozen HR4.out 3; have f4 := Blk.frozen HR4.out 4))
  have HTT : Hid (eidT ⟨1, name, 0, 0⟩ = T.mk 4 0 [] false 2 fun i => if i = 0 then numT 1 else textT name) := by unfold Hid eidT twoT; simp only []; rw [if_neg (by decide), if_neg hnn.out]; rfl
  have HFin : Hid (Ext w (set5 w4 (w.heap.size + 1) (eidT ⟨1, name, 0, 0⟩) (some ⟨w3.heap.size, 0, none⟩) 2) ∧ Blk (set5 w4 (w.heap.size + 1) (eidT ⟨1, name, 0, 0⟩) (some ⟨w3.heap.size, 0, none⟩) 2) (w.heap.size + 1) 48 (itemC (eidT ⟨1, name, 0, 0⟩) (some ⟨w3.heap.size, 0, none⟩) 2) ∧
      IsL (set5 w4 (w.heap.size + 1) (eidT ⟨1, name, 0, 0⟩) (some ⟨w3.heap.size, 0, none⟩) 2) (fun b => w.heap.size ≤ b) (eidT ⟨1, name, 0, 0⟩) (some ⟨w3.heap.size, 0, none⟩)) := by
    have hm : Mod [w.heap.size + 1] w4 (set5 w4 (w.heap.size + 1) (eidT ⟨1, name, 0, 0⟩) (some ⟨w3.heap.size, 0, none⟩) 2) := set5_modb
    have hl := HR1.out.lt
    have hs3 := H13.out
    have b1 := HOut.out.mod hm (by simp; omega)
    refine ⟨set5_mod HE4.out (by omega), set5_blk HR4.out, ?_⟩
    rw [HTT.out] at b1 ⊢
    refine fun _ => ⟨w3.heap.size, 0, rfl, b1.lt, (show w.heap.size ≤ w3.heap.size by omega), fun i hi => ?_⟩
    have hi2 : i = 0 ∨ i = 1 := by omega
    rcases hi2 with rfl | rfl
    · exact ⟨none, 0, ⟨b1.cell 0, b1.cell 1, b1.cell 2, b1.cell 3, b1.cell 4⟩, fun h => absurd h (by decide)⟩
    · exact ⟨none, 0, ⟨b1.cell 5, b1.cell 6, b1.cell 7, b1.cell 8, b1.cell 9⟩, fun h => absurd h (by decide)⟩
  obtain ⟨d0, d1, d2, d3, d4⟩ := cells5 HFin.out.2.1
  go_wp2_with fail
  show bodyPost _ _ _ _ _ (set5 w4 (w.heap.size + 1) (eidT ⟨1, name, 0, 0⟩) (some ⟨w3.heap.size, 0, none⟩) 2)
  refine bodyPost_ret (v := .tuple #[itemV (eidT ⟨1, name, 0, 0⟩) (some ⟨w3.heap.size, 0, none⟩) 2, .int .i64 0]) (by simp [results, Try.results94, go_sem, d0, d1, d2, d3, d4]) rfl ?_
  exact ⟨_, rfl, HFin.out.1, HFin.out.2.2⟩
end Go.Proofs.Ytkeabdfgacicaaa


namespace Go.Proofs.Ytkeabdfgacicaaa
open Go.RowKit
set_option linter.unusedVariables false
set_option linter.unusedSimpArgs false

def lettersL : List UInt8 := [97, 98, 99, 100, 101, 102, 103, 104, 105, 106, 107, 108, 109, 110, 111, 112, 113, 114, 115, 116, 117, 118, 119, 120, 121, 122, 48, 49, 50, 51, 52, 53, 54, 55, 56, 57, 45, 46]
theorem lett_mem_n : ∀ n : Fin 256, lett (UInt8.ofNat n.val) = lettersL.contains (UInt8.ofNat n.val) := by decide +kernel
theorem lett_mem (c : UInt8) : lett c = lettersL.contains c := by
  have := lett_mem_n ⟨c.toNat, c.toNat_lt⟩
  simpa using this
set_option maxHeartbeats 800000 in
theorem letter_any (c : UInt8) (w : World) : Calls Try.prog 81 #[.int .u8 (c.toNat : Int)] w (Ret (.bool (lett c)) w) := by
  rw [lett_mem]
  obtain ⟨B, hB⟩ : ∃ B, lettersL.contains c = B := ⟨_, rfl⟩
  rw [hB]
  have HB : Hid ((lettersL.drop 0).contains c = B) := hB
  clear hB
  go_enter Try.func81, Try.ntmps81
  go_wp2_with fail
  go_loop [3] (fun i => ∃ j : Nat, j ≤ 38 ∧ i = .int .i64 j ∧ Hid ((lettersL.drop j).contains c = B)) (fun i => 38 - (intOf i).toNat)
  case atStart => exact ⟨0, Nat.zero_le _, rfl, HB⟩
  case round =>
    obtain ⟨j, hj, rfl, HP⟩ := hrel
    by_cases hlt : j < 38
    · have hlt2 : j < lettersL.length := hlt
      have hdr : lettersL.drop j = lettersL[j] :: lettersL.drop (j + 1) := List.drop_eq_getElem_cons hlt2
      rw [hdr] at HP
      by_cases hx : lettersL[j] = c
      · have q : ((((({ data := #[97, 98, 99, 100, 101, 102, 103, 104, 105, 106, 107, 108, 109, 110, 111, 112, 113, 114, 115, 116, 117, 118, 119, 120, 121, 122, 48, 49, 50, 51, 52, 53, 54, 55, 56, 57, 45, 46] } : ByteArray)[j]'hlt)).toNat : Int) == (c.toNat : Int)) = true := by show (((lettersL[j]).toNat : Int) == _) = true; simp [hx]
        have HT : Hid (true = B) := by have := HP.out; rw [hx, List.contains_cons] at this; rw [← this]; unfold Hid; simp
        clear HP hdr hx
        go_wp2_with fail
        go_ret
        exact Ret.mk (by rw [← HT.out]; rfl) (Mod.refl _ _)
      · have hn : ¬ (lettersL[j]).toNat = c.toNat := fun h => hx (UInt8.toNat_inj.1 h)
        have q : ((((({ data := #[97, 98, 99, 100, 101, 102, 103, 104, 105, 106, 107, 108, 109, 110, 111, 112, 113, 114, 115, 116, 117, 118, 119, 120, 121, 122, 48, 49, 50, 51, 52, 53, 54, 55, 56, 57, 45, 46] } : ByteArray)[j]'hlt)).toNat : Int) == (c.toNat : Int)) = false := by show (((lettersL[j]).toNat : Int) == _) = false; simp; omega
        have HT : Hid ((lettersL.drop (j + 1)).contains c = B) := by have := HP.out; rw [List.contains_cons] at this; have h2 : (c == lettersL[j]) = false := (by simpa using Ne.symm hx); rw [h2, Bool.false_or] at this; exact this
        clear HP hdr hx hn
        go_wp2_with fail
        go_round
        case rel => exact ⟨j + 1, by omega, by go_num, HT⟩
        case measure => simp [intOf]; omega
    · obtain rfl : j = 38 := by omega
      have HT : Hid (false = B) := HP
      clear HP
      go_wp2_with fail
      go_ret
      exact Ret.mk (by rw [← HT.out]; rfl) (Mod.refl _ _)

set_option maxHeartbeats 800000 in
theorem slash_any (s : List UInt8) (hs : Hid (s.length < 4611686018427387904)) (w : World) : Calls Try.prog 80 #[str s] w (Ret (.int .i64 (slash s : Nat)) w) := by
  obtain ⟨B, hB⟩ : ∃ B, slash s = B := ⟨_, rfl⟩
  rw [hB]
  have HB : Hid (slashA (s.drop 2) 2 = B) := hB
  clear hB
  go_enter Try.func80, Try.ntmps80
  go_wp2_with fail
  have hs2 := hs.out
  by_cases hl : s.length < 2
  · have HT : Hid (0 = B) := by have := HB.out; rw [List.drop_eq_nil_of_le (by omega)] at this; exact this
    go_loop [3] (fun i => i = .int .i64 2) (fun i => 0)
    case atStart => rfl
    case round =>
      subst hrel
      go_wp2_with fail
      go_ret
      exact Ret.mk (by rw [← HT.out]; rfl) (Mod.refl _ _)
  go_loop [3] (fun i => ∃ j : Nat, 2 ≤ j ∧ j ≤ s.length ∧ i = .int .i64 j ∧ Hid (slashA (s.drop j) j = B)) (fun i => s.length - (intOf i).toNat)
  case atStart => exact ⟨2, Nat.le_refl _, by omega, rfl, HB⟩
  case round =>
    obtain ⟨j, hj2, hj, rfl, HP⟩ := hrel
    by_cases hlt : j < s.length
    · have hdr : s.drop j = s[j] :: s.drop (j + 1) := List.drop_eq_getElem_cons hlt
      rw [hdr, slashA] at HP
      clear hdr
      by_cases hx : (s[j]).toNat = 47
      · have q : ((((⟨s.toArray⟩ : ByteArray)[j]'hlt).toNat : Int) == 47) = true := by show (((s[j]).toNat : Int) == 47) = true; simp; omega
        have q2 : ((((⟨s.toArray⟩ : ByteArray)[j]'hlt).toNat : Int) = 47) = True := by show (((s[j]).toNat : Int) = 47) = True; simp; omega
        have HT : Hid (j = B) := by have := HP.out; rw [if_pos hx] at this; exact this
        clear HP hx
        go_wp2_with fail
        go_ret
        exact Ret.mk (by rw [← HT.out]; rfl) (Mod.refl _ _)
      · have q : ((((⟨s.toArray⟩ : ByteArray)[j]'hlt).toNat : Int) == 47) = false := by show (((s[j]).toNat : Int) == 47) = false; simp; omega
        have q2 : ((((⟨s.toArray⟩ : ByteArray)[j]'hlt).toNat : Int) = 47) = False := by show (((s[j]).toNat : Int) = 47) = False; simp; omega
        have HT : Hid (slashA (s.drop (j + 1)) (j + 1) = B) := by have := HP.out; rw [if_neg hx] at this; exact this
        clear HP hx
        go_wp2_with fail
        go_round
        case rel => exact ⟨j + 1, by omega, by omega, by go_num, HT⟩
        case measure => simp [intOf]; omega
    · obtain rfl : j = s.length := by omega
      have HT : Hid (0 = B) := by have := HP.out; rw [List.drop_length] at this; exact this
      clear HP
      go_wp2_with fail
      go_ret
      exact Ret.mk (by rw [← HT.out]; rfl) (Mod.refl _ _)
end Go.Proofs.Ytkeabdfgacicaaa


namespace Go.Proofs.Ytkeabdfgacicaaa
open Go.RowKit
set_option linter.unusedVariables false
set_option linter.unusedSimpArgs false

def rightCases (node svc : Nat) (name : List UInt8) : Bool := decide (name = []) && decide (node ≤ 4294967295) && decide (svc ≤ 4294967295)
set_option maxRecDepth 20000 in
set_option maxHeartbeats 800000 in
theorem r10_two (name : List UInt8) (node svc : Nat) (w : World) : Calls Try.prog 46 #[EV.v ⟨2, name, node, svc⟩] w (Ret (.bool (rightCases node svc name)) w) := by
  unfold rightCases
  by_cases hn : name = []
  · subst hn
    by_cases ha : node ≤ 4294967295
    · have t1 : decide ((node : Int) ≤ 4294967295) = true := by simp; omega
      by_cases hb : svc ≤ 4294967295
      · have t2 : decide ((svc : Int) ≤ 4294967295) = true := by simp; omega
        have hr : (decide (([] : List UInt8) = []) && decide (node ≤ 4294967295) && decide (svc ≤ 4294967295)) = true := by simp [ha, hb]
        rw [hr]
        clear hr ha hb
        go_enter Try.func46, Try.ntmps46
        go_wp2_with fail
        go_ret
        exact Ret.mk rfl ((Mod.refl _ _).alloc _)
      · have t2 : decide ((svc : Int) ≤ 4294967295) = false := by simp; omega
        have hr : (decide (([] : List UInt8) = []) && decide (node ≤ 4294967295) && decide (svc ≤ 4294967295)) = false := by simp [hb]
        rw [hr]
        clear hr ha hb
        go_enter Try.func46, Try.ntmps46
        go_wp2_with fail
        go_ret
        exact Ret.mk rfl ((Mod.refl _ _).alloc _)
    · have t1 : decide ((node : Int) ≤ 4294967295) = false := by simp; omega
      have hr : (decide (([] : List UInt8) = []) && decide (node ≤ 4294967295) && decide (svc ≤ 4294967295)) = false := by simp [ha]
      rw [hr]
      clear hr ha
      go_enter Try.func46, Try.ntmps46
      go_wp2_with fail
      go_ret
      exact Ret.mk rfl ((Mod.refl _ _).alloc _)
  · have n1 : (name == []) = false := by simpa using hn
    have n2 : (name = []) = False := by simpa using hn
    have n3 : name.isEmpty = false := by simpa using hn
    have hr : (decide (name = []) && decide (node ≤ 4294967295) && decide (svc ≤ 4294967295)) = false := by simp [hn]
    rw [hr]
    clear hr hn
    go_enter Try.func46, Try.ntmps46
    go_wp2_with fail
    go_ret
    exact Ret.mk rfl ((Mod.refl _ _).alloc _)
set_option maxRecDepth 20000 in
theorem r10_none (w : World) : Calls Try.prog 46 #[EV.v ⟨1, [110, 111, 110, 101], 0, 0⟩] w (Ret (.bool true) w) := by
  go_enter Try.func46, Try.ntmps46
  go_wp2_with fail
  go_ret
  exact Ret.mk rfl ((Mod.refl _ _).alloc _)
set_option maxRecDepth 20000 in
theorem r10_sch (sch : Int) (name : List UInt8) (node svc : Nat) (h2 : sch ≠ 2) (h1 : sch ≠ 1) (w : World) : Calls Try.prog 46 #[EV.v ⟨sch, name, node, svc⟩] w (Ret (.bool false) w) := by
  have s1 : (sch = 1) = False := by simp [h1]
  have s2 : (sch == 1) = false := by simp [h1]
  have s3 : (sch = 2) = False := by simp [h2]
  have s4 : (sch == 2) = false := by simp [h2]
  have s5 : (sch != 1) = true := by simp [h1]
  clear h1 h2
  go_enter Try.func46, Try.ntmps46
  go_wp2_with fail
  go_ret
  exact Ret.mk rfl ((Mod.refl _ _).alloc _)
set_option maxRecDepth 20000 in
theorem r10_node (name : List UInt8) (node svc : Nat) (h : node ≠ 0) (w : World) : Calls Try.prog 46 #[EV.v ⟨1, name, node, svc⟩] w (Ret (.bool false) w) := by
  have z1 : ((node : Int) == 0) = false := by simp; omega
  have z2 : ((node : Int) = 0) = False := by simp; omega
  have z3 : ((node : Int) != 0) = true := by simp; omega
  clear h
  go_enter Try.func46, Try.ntmps46
  go_wp2_with fail
  go_ret
  exact Ret.mk rfl ((Mod.refl _ _).alloc _)
set_option maxRecDepth 20000 in
theorem r10_svc (name : List UInt8) (svc : Nat) (h : svc ≠ 0) (w : World) : Calls Try.prog 46 #[EV.v ⟨1, name, 0, svc⟩] w (Ret (.bool false) w) := by
  have z1 : ((svc : Int) == 0) = false := by simp; omega
  have z2 : ((svc : Int) = 0) = False := by simp; omega
  have z3 : ((svc : Int) != 0) = true := by simp; omega
  clear h
  go_enter Try.func46, Try.ntmps46
  go_wp2_with fail
  go_ret
  exact Ret.mk rfl ((Mod.refl _ _).alloc _)
set_option maxRecDepth 20000 in
theorem r10_long (name : List UInt8) (h : 60 < name.length) (w : World) : Calls Try.prog 46 #[EV.v ⟨1, name, 0, 0⟩] w (Ret (.bool false) w) := by
  have t1 : decide (60 < (name.length : Int)) = true := by simp; omega
  clear h
  go_enter Try.func46, Try.ntmps46
  go_wp2_with fail
  go_ret
  exact Ret.mk rfl ((Mod.refl _ _).alloc _)
set_option maxRecDepth 20000 in
set_option maxHeartbeats 1600000 in
theorem r10_name (name : List UInt8) (h60 : name.length ≤ 60) (hn : name ≠ [110, 111, 110, 101]) (w : World) : Calls Try.prog 46 #[EV.v ⟨1, name, 0, 0⟩] w (Ret (.bool (if slash name < 3 ∨ name.take 2 ≠ [47, 47] then false else goodA (slash name) (name.drop 2) 2)) w) := by
  have t1 : decide (60 < (name.length : Int)) = false := by simp; omega
  have n1 : (name == [110, 111, 110, 101]) = false := by simpa using hn
  have n2 : (name = [110, 111, 110, 101]) = False := by simpa using hn
  have K := hid (fun W => slash_any name (by unfold Hid; omega) W)
  have HE := hid ((Mod.refl [] w).alloc (.cells (EV.c ⟨1, name, 0, 0⟩) 24))
  have HB := hid (Blk.new w 24 (EV.c ⟨1, name, 0, 0⟩))
  have hsl : slash name = 0 ∨ 2 ≤ slash name := slashA_ge _ _
  by_cases h3 : slash name < 3
  · have t2 : decide ((slash name : Int) < 3) = true := by simp; omega
    rw [if_pos (Or.inl h3)]
    clear hn h60 h3 hsl
    generalize slash name = k at *
    go_enter Try.func46, Try.ntmps46
    go_wp2_with fail
    refine (K.out _).mono ?_
    rintro e w1 ⟨rfl, hb1⟩
    have HE1 := hid (HE.out.trans hb1)
    clear hb1
    go_wp2_with fail
    go_ret
    exact Ret.mk rfl HE1.out
  have t2 : decide ((slash name : Int) < 3) = false := by simp; omega
  have hl2 : 2 ≤ name.length := by
    rcases Nat.lt_or_ge name.length 2 with hl | hl
    · exfalso
      apply h3
      unfold slash
      rw [List.drop_eq_nil_of_le (by omega)]
      decide
    · exact hl
  have hx : ((⟨name.toArray⟩ : ByteArray).extract 0 2) = ⟨(name.take 2).toArray⟩ := by rw [ext0, List.drop_zero]
  by_cases ht : name.take 2 = [47, 47]
  case neg =>
    rw [if_pos (Or.inr ht)]
    have m1 : (name.take 2 == [47, 47]) = false := by simpa using ht
    have m2 : (name.take 2 = [47, 47]) = False := by simpa using ht
    clear hn h3 hsl ht
    generalize slash name = k at *
    generalize name.take 2 = p at *
    go_enter Try.func46, Try.ntmps46
    go_wp2_with fail
    refine (K.out _).mono ?_
    rintro e w1 ⟨rfl, hb1⟩
    have HE1 := hid (HE.out.trans hb1)
    have c1 : w1.cell? ⟨w.heap.size, 1, none⟩ = some (str name) := (HB.out.ext hb1).cell 1
    clear hb1
    go_wp2_with fail
    go_ret
    exact Ret.mk rfl HE1.out
  rw [if_neg (by intro h; rcases h with h | h; exact h3 h; exact h ht)]
  rw [ht] at hx
  obtain ⟨B, hB⟩ : ∃ B, goodA (slash name) (name.drop 2) 2 = B := ⟨_, rfl⟩
  rw [hB]
  have HG := hid hB
  clear hB hn h3 hsl ht
  generalize slash name = k at *
  go_enter Try.func46, Try.ntmps46
  go_wp2_with fail
  refine (K.out _).mono ?_
  rintro e w1 ⟨rfl, hb1⟩
  have HE1 := hid (HE.out.trans hb1)
  have HB1 := hid (HB.out.ext hb1)
  have c1 : w1.cell? ⟨w.heap.size, 1, none⟩ = some (str name) := HB1.out.cell 1
  clear hb1
  go_wp2_with fail
  have HW1 : Hid (Ext w w1 ∧ w1.cell? ⟨w.heap.size, 1, none⟩ = some (str name) ∧ w.heap.size < w1.heap.size) := ⟨HE1.out, c1, HB1.out.lt⟩
  clear HE HB HE1 HB1 c1
  go_loopw [4] (fun i wr => ∃ j : Nat, 2 ≤ j ∧ j ≤ name.length ∧ i = .int .i64 j ∧ Hid (goodA k (name.drop j) j = B) ∧ Hid (Ext w wr ∧ wr.cell? ⟨w.heap.size, 1, none⟩ = some (str name) ∧ w.heap.size < wr.heap.size)) (fun i _ => name.length - (intOf i).toNat)
  case atStart => exact ⟨2, Nat.le_refl _, hl2, rfl, HG, HW1⟩
  case round =>
    obtain ⟨j, hj2, hj, rfl, HP, HW⟩ := hrel
    have c1 := HW.out.2.1
    by_cases hlt : j < name.length
    · have hdr : name.drop j = name[j] :: name.drop (j + 1) := List.drop_eq_getElem_cons hlt
      rw [hdr, goodA] at HP
      clear hdr
      by_cases hjk : j < k
      · have u1 : decide (j < k) = true := by simp; omega
        have u2 : decide (k < j) = false := by simp; omega
        have KL := hid (fun W => letter_any (name[j]) W)
        by_cases hl : lett name[j] = true
        · have HN : Hid (goodA k (name.drop (j + 1)) (j + 1) = B) := hid (by have := HP.out; simpa [hjk, hl, show ¬ k < j by omega] using this)
          rw [hl] at KL
          clear HP hl hjk
          go_wp2_with fail
          refine (KL.out _).mono ?_
          rintro e w2 ⟨rfl, hb2⟩
          have HW2 : Hid (Ext w w2 ∧ w2.cell? ⟨w.heap.size, 1, none⟩ = some (str name) ∧ w.heap.size < w2.heap.size) := ⟨HW.out.1.trans hb2, (hb2.cell HW.out.2.2 (by simp)).trans HW.out.2.1, Nat.lt_of_lt_of_le HW.out.2.2 hb2.size⟩
          clear hb2 c1
          go_wp2_with fail
          go_roundw
          case rel => exact ⟨j + 1, by omega, by omega, by go_num, HN, HW2⟩
          case measure => simp [intOf]; omega
        · have hl2 : lett name[j] = false := by simpa using hl
          have HN : Hid (false = B) := hid (by have := HP.out; simpa [hjk, hl2] using this)
          rw [hl2] at KL
          clear HP hl hl2 hjk
          go_wp2_with fail
          refine (KL.out _).mono ?_
          rintro e w2 ⟨rfl, hb2⟩
          go_wp2_with fail
          go_ret
          exact Ret.mk (by rw [← HN.out]; rfl) (HW.out.1.trans hb2)
      · have u1 : decide (j < k) = false := by simp; omega
        by_cases hkj : k < j
        · have u2 : decide (k < j) = true := by simp; omega
          have hx8 := (name[j]).toNat_lt
          by_cases hp : prin name[j] = true
          · have HN : Hid (goodA k (name.drop (j + 1)) (j + 1) = B) := hid (by have := HP.out; simpa [hjk, hkj, hp] using this)
            have hp2 : 33 ≤ (name[j]).toNat ∧ (name[j]).toNat ≤ 126 := by simpa [prin] using hp
            have v1 : decide ((((⟨name.toArray⟩ : ByteArray)[j]'hlt).toNat : Int) < 33) = false := by show decide (((name[j]).toNat : Int) < 33) = false; simp; omega
            have v2 : decide (126 < (((⟨name.toArray⟩ : ByteArray)[j]'hlt).toNat : Int)) = false := by show decide (126 < ((name[j]).toNat : Int)) = false; simp; omega
            clear HP hp hp2 hjk hkj hx8
            go_wp2_with fail
            go_roundw
            case rel => exact ⟨j + 1, by omega, by omega, by go_num, HN, HW⟩
            case measure => simp [intOf]; omega
          · have hp1 : prin name[j] = false := by simpa using hp
            have HN : Hid (false = B) := hid (by have := HP.out; simpa [hjk, hkj, hp1] using this)
            have hp2 : ¬ (33 ≤ (name[j]).toNat ∧ (name[j]).toNat ≤ 126) := by simpa [prin] using hp
            by_cases h33 : (name[j]).toNat < 33
            · have v1 : decide ((((⟨name.toArray⟩ : ByteArray)[j]'hlt).toNat : Int) < 33) = true := by show decide (((name[j]).toNat : Int) < 33) = true; simp; omega
              clear HP hp hp1 hp2 hjk hkj hx8 h33
              go_wp2_with fail
              go_ret
              exact Ret.mk (by rw [← HN.out]; rfl) HW.out.1
            · have v1 : decide ((((⟨name.toArray⟩ : ByteArray)[j]'hlt).toNat : Int) < 33) = false := by show decide (((name[j]).toNat : Int) < 33) = false; simp; omega
              have v2 : decide (126 < (((⟨name.toArray⟩ : ByteArray)[j]'hlt).toNat : Int)) = true := by show decide (126 < ((name[j]).toNat : Int)) = true; simp; omega
              clear HP hp hp1 hp2 hjk hkj hx8 h33
              go_wp2_with fail
              go_ret
              exact Ret.mk (by rw [← HN.out]; rfl) HW.out.1
        · have u2 : decide (k < j) = false := by simp; omega
          have HN : Hid (goodA k (name.drop (j + 1)) (j + 1) = B) := hid (by have := HP.out; simpa [hjk, hkj] using this)
          clear HP hjk hkj
          go_wp2_with fail
          go_roundw
          case rel => exact ⟨j + 1, by omega, by omega, by go_num, HN, HW⟩
          case measure => simp [intOf]; omega
    · obtain rfl : j = name.length := by omega
      have HN : Hid (true = B) := by have := HP.out; rw [List.drop_length] at this; exact this
      clear HP
      go_wp2_with fail
      go_ret
      exact Ret.mk (by rw [← HN.out]; rfl) HW.out.1
theorem r10_any (e : EV) (w : World) : Calls Try.prog 46 #[e.v] w (Ret (.bool e.ok) w) := by
  rw [← EV.ok_eq]
  obtain ⟨sch, name, node, svc⟩ := e
  unfold EV.okR
  simp only []
  by_cases h2 : sch = 2
  · subst h2; rw [if_pos rfl]; exact r10_two name node svc w
  rw [if_neg h2]
  by_cases h1 : sch = 1
  case neg => rw [if_pos (Or.inl h1)]; exact r10_sch sch name node svc h2 h1 w
  subst h1
  by_cases hn : node = 0
  case neg => rw [if_pos (by omega)]; exact r10_node name node svc hn w
  subst hn
  by_cases hv : svc = 0
  case neg => rw [if_pos (by omega)]; exact r10_svc name svc hv w
  subst hv
  by_cases hl : 60 < name.length
  · rw [if_pos (by omega)]; exact r10_long name hl w
  rw [if_neg (by omega)]
  by_cases h0 : name = noneL
  · rw [if_pos h0]; subst h0; exact r10_none w
  rw [if_neg h0]
  exact r10_name name (by omega) h0 w
end Go.Proofs.Ytkeabdfgacicaaa


namespace Go.Proofs.Ytkeabdfgacicaaa
open Go.ChangeShapes Go.WideShapes Go.ChangeAt Go.RowKit Go.Deep
set_option linter.unusedVariables false
set_option linter.unusedSimpArgs false

section
variable {H : Type} {enc : TypeId × Value → H} {w : World} {base b0 : Nat} {spare : Nat → Bool} {held : Bool} {r : Reach}
/-- A field of one cell, read alone. -/
theorem field_at {P : Program} {fs : Array Field} {cs : List Value} {ys : List (DataW H × List MemPlace)} {n : Nat} (hone : oneCellFields P fs = true)
    (hfl : ∀ (i : Nat) (f : Field), fs[i]? = some f → DataW.trod enc P w base spare held n f.type ((cs.drop f.offset).take (P.cellsOf f.type)) = ys[i]?)
    {i : Nat} {f : Field} (h : fs[i]? = some f) {c : Value} (hc : cs[i]? = some c) : DataW.trod enc P w base spare held n f.type [c] = ys[i]? := by
  obtain ⟨ho, hk⟩ := hone_of hone i f h
  have := hfl i f h
  rw [ho, hk] at this
  obtain ⟨hlt, hv⟩ := List.getElem?_eq_some_iff.1 hc
  rw [List.drop_eq_getElem_cons hlt, hv] at this
  exact this

theorem weights_mem_all {P : Program} {e : TypeId} {d : DataW H} {n : Nat} (hn : n ∈ d.weights P e) : ∀ {l : List (DataW H)}, d ∈ l → n ∈ DataW.weightsAll P e l
  | x :: r, h => by
    simp only [DataW.weightsAll, List.mem_append]
    rcases List.mem_cons.1 h with rfl | h
    · exact .inl hn
    · exact .inr (weights_mem_all hn h)

set_option maxRecDepth 100000 in
theorem trod_item : ∀ (fuel : Nat) (cs : List Value) (x : DataW H × List MemPlace), DataW.trod enc Try.prog w base spare held fuel 48 cs = some x → (∀ n ∈ x.1.weights Try.prog 48, n ≤ reachBytes) →
    ∃ (t : T) (A : Option Addr) (c : Nat), cs = [.int .i64 t.kind, .int .u64 (t.n : Int), str t.s, .slice A t.k c, .bool t.op] ∧ t.ok ∧ IsL w (fun _ => True) t A := by
  intro fuel
  induction fuel using Nat.strongRecOn with
  | ind fuel ih =>
    intro cs x h hz
    obtain ⟨ys, n', hn', hy, hlen, hyl, hfl⟩ := DataW.trod_struct Try.underlying48 h
    subst hn' hy
    have hz' : ∀ n ∈ DataW.weightsEach Try.prog [3, 22, 9, 46, 4] (ys.map (·.1)), n ≤ reachBytes := by
      intro n hn
      apply hz
      simp only [DataW.weights, Try.underlying48]
      exact hn
    clear hz
    have hR : reachBytes < 140737488355328 := by decide
    match cs, hlen with
    | [c0, c1, c2, c3, c4], _ =>
      have h0 := field_at (by kernel_rfl) hfl (i := 0) rfl rfl
      have h1 := field_at (by kernel_rfl) hfl (i := 1) rfl rfl
      have h2 := field_at (by kernel_rfl) hfl (i := 2) rfl rfl
      have h3 := field_at (by kernel_rfl) hfl (i := 3) rfl rfl
      have h4 := field_at (by kernel_rfl) hfl (i := 4) rfl rfl
      clear hfl h
      match ys, hyl with
      | [y0, y1, y2, y3, y4], _ =>
        obtain ⟨kd, hk, _, hkw⟩ := DataW.trod_int (k := .i64) (by kernel_rfl) h0
        obtain ⟨nn, hnn, _, hnw⟩ := DataW.trod_int (k := .u64) (by kernel_rfl) h1
        obtain ⟨s, hs, hsd, hsw⟩ := DataW.trod_string (by kernel_rfl) h2
        obtain ⟨op, hop, _⟩ := DataW.trod_bool (by kernel_rfl) h4
        have e0 : c0 = .int .i64 kd := by
          have : [c0] = [Value.int .i64 kd] := hk
          simpa using this
        have e1 : c1 = .int .u64 nn := by
          have : [c1] = [Value.int .u64 nn] := hnn
          simpa using this
        have e2 : c2 = .string s := by
          have : [c2] = [Value.string s] := hs
          simpa using this
        have e4 : c4 = .bool op := by
          have : [c4] = [Value.bool op] := hop
          simpa using this
        subst e0 e1 e2 e4
        have bk : -9223372036854775808 ≤ kd ∧ kd ≤ 9223372036854775807 := by simpa [Lit.wf, IntKind.min, IntKind.max, IntKind.signed, IntKind.bits] using hkw
        have bn : 0 ≤ nn ∧ nn ≤ 18446744073709551615 := by simpa [Lit.wf, IntKind.min, IntKind.max, IntKind.signed, IntKind.bits] using hnw
        have bs : s.data.toList.length < 4611686018427387904 := by
          have := hz' s.data.toList.length (DataW.weights_mem_each (j := 2) rfl (show _ = some (DataW.lit (.string s.data.toList)) by simp only [List.map, List.getElem?_cons_succ, List.getElem?_cons_zero]; rw [hsd]) _ (by simp [DataW.weights]))
          omega
        obtain ⟨nm, rfl⟩ := Int.eq_ofNat_of_zero_le bn.1
        rcases DataW.trod_slice (e := 48) (by kernel_rfl) h3 with ⟨hcs, _⟩ | ⟨a, len, cap', elems, rest, f, hf, hcs, hx, hb, hl, hm, hlen, hel, _, _⟩
        · have e3 : c3 = .slice none 0 0 := by simpa using hcs
          subst e3
          refine ⟨T.mk kd nm s.data.toList op 0 (fun _ => T.nil), none, 0, rfl, ?_, fun h => by omega⟩
          unfold T.ok
          exact ⟨bk, by omega, bs, by omega, fun i hi => by omega⟩
        · have e3 : c3 = .slice (some a) len cap' := by simpa using hcs
          subst e3
          have hC : Try.prog.cellsOf 48 = 5 := by kernel_rfl
          have hBy : Try.prog.bytesOf 48 = 64 := by kernel_rfl
          have hzs : ∀ n ∈ (y3.1).weights Try.prog 46, n ≤ reachBytes := fun n hn => hz' n (DataW.weights_mem_each (j := 3) rfl (show _ = some y3.1 by rfl) _ hn)
          rw [hx] at hzs
          simp only [DataW.weights, Try.underlying46] at hzs
          have bl : len < 4611686018427387904 := by
            have h8 := hzs _ List.mem_cons_self
            rw [hBy, List.length_map, hlen] at h8
            have h9 : len * 64 ≤ (len + (List.map (fun x => x.1) rest).length) * 64 := Nat.mul_le_mul_right _ (Nat.le_add_right _ _)
            omega
          have key : ∀ i, i < len → ∃ (t : T) (Ai : Option Addr) (ci : Nat), (w.cell? ((a.add (i * 5)).add 0) = some (.int .i64 t.kind) ∧ w.cell? ((a.add (i * 5)).add 1) = some (.int .u64 (t.n : Int)) ∧ w.cell? ((a.add (i * 5)).add 2) = some (str t.s) ∧ w.cell? ((a.add (i * 5)).add 3) = some (.slice Ai t.k ci) ∧ w.cell? ((a.add (i * 5)).add 4) = some (.bool t.op)) ∧ t.ok ∧ IsL w (fun _ => True) t Ai := by
            intro i hin
            have hi := hel i hin
            rw [List.getElem?_eq_getElem (by omega)] at hi
            obtain ⟨cs', hc, ht⟩ := Option.bind_eq_some_iff.1 hi
            have hz2 : ∀ n ∈ (elems[i]'(by omega)).1.weights Try.prog 48, n ≤ reachBytes := fun n hn => by
              apply hzs
              refine List.mem_cons_of_mem _ (List.mem_append_left _ (weights_mem_all hn ?_))
              exact List.mem_map.2 ⟨_, List.getElem_mem _, rfl⟩
            obtain ⟨t, Ai, ci, rfl, hok, hL⟩ := ih f (by omega) cs' _ ht hz2
            rw [hC] at hc
            obtain ⟨_, hcl, hat⟩ := World.cells?_some hc
            exact ⟨t, Ai, ci, ⟨hat 0 (by omega), hat 1 (by omega), hat 2 (by omega), hat 3 (by omega), hat 4 (by omega)⟩, hok, hL⟩
          have key2 : ∀ i, ∃ z : T × Option Addr × Nat, i < len → (w.cell? ((a.add (i * 5)).add 0) = some (.int .i64 z.1.kind) ∧ w.cell? ((a.add (i * 5)).add 1) = some (.int .u64 (z.1.n : Int)) ∧ w.cell? ((a.add (i * 5)).add 2) = some (str z.1.s) ∧ w.cell? ((a.add (i * 5)).add 3) = some (.slice z.2.1 z.1.k z.2.2) ∧ w.cell? ((a.add (i * 5)).add 4) = some (.bool z.1.op)) ∧ z.1.ok ∧ IsL w (fun _ => True) z.1 z.2.1 := fun i => by
            by_cases hin : i < len
            · obtain ⟨t, Ai, ci, h5⟩ := key i hin
              exact ⟨(t, Ai, ci), fun _ => h5⟩
            · exact ⟨(T.nil, none, 0), fun h => absurd h hin⟩
          obtain ⟨g, hg⟩ : ∃ g : Nat → T × Option Addr × Nat, ∀ i, i < len → (w.cell? ((a.add (i * 5)).add 0) = some (.int .i64 (g i).1.kind) ∧ w.cell? ((a.add (i * 5)).add 1) = some (.int .u64 ((g i).1.n : Int)) ∧ w.cell? ((a.add (i * 5)).add 2) = some (str (g i).1.s) ∧ w.cell? ((a.add (i * 5)).add 3) = some (.slice (g i).2.1 (g i).1.k (g i).2.2) ∧ w.cell? ((a.add (i * 5)).add 4) = some (.bool (g i).1.op)) ∧ (g i).1.ok ∧ IsL w (fun _ => True) (g i).1 (g i).2.1 :=
            ⟨fun i => Classical.choose (key2 i), fun i => Classical.choose_spec (key2 i)⟩
          refine ⟨T.mk kd nm s.data.toList op len (fun i => (g i).1), some a, cap', rfl, ?_, ?_⟩
          · unfold T.ok
            exact ⟨bk, by omega, bs, bl, fun i hi => (hg i hi).2.1⟩
          · intro h0
            obtain ⟨⟨z0, _⟩, _⟩ := hg 0 h0
            have z1 : w.cell? a = some (.int .i64 (g 0).1.kind) := by simpa [Addr.add] using z0
            have hsp := World.cell?_spot z1
            obtain ⟨ab, ao, sp⟩ := a
            simp only at hsp
            subst hsp
            refine ⟨ab, ao, rfl, World.block_lt_of_cell? w _ z1, trivial, fun i hin => ⟨(g i).2.1, (g i).2.2, ?_, (hg i hin).2.2⟩⟩
            obtain ⟨⟨g0, g1, g2, g3, g4⟩, _⟩ := hg i hin
            rw [addr_add, addr_add] at g0 g1 g2 g3 g4
            exact ⟨g0, g1, g2, g3, g4⟩

set_option maxRecDepth 100000 in
/-- An argument item.Item, opened. -/
theorem open_item {v : Value} {d : DataW H} {p : List MemPlace} (hval : Value.okWide Try.prog w r b0 48 v) (h : DataW.Trod enc Try.prog w base spare held 48 v d p) (hz : ∀ n ∈ d.weights Try.prog 48, n ≤ reachBytes) :
    ∃ (t : T) (A : Option Addr) (c : Nat), v = itemV t A c ∧ t.ok ∧ IsL w (fun _ => True) t A := by
  obtain ⟨cs, rfl, hsz⟩ := okWide_struct Try.underlying48 hval
  obtain ⟨fuel, hf⟩ := h
  obtain ⟨t, A, c, e, hok, hL⟩ := trod_item fuel _ _ hf hz
  refine ⟨t, A, c, ?_, hok, hL⟩
  have e2 : cs.toList = [.int .i64 t.kind, .int .u64 (t.n : Int), str t.s, .slice A t.k c, .bool t.op] := e
  rw [itemV, ← e2]
end
end Go.Proofs.Ytkeabdfgacicaaa


namespace Go.Proofs.Ytkeabdfgacicaaa
open Go.ChangeShapes Go.WideShapes Go.ChangeAt Go.RowKit Go.Deep
set_option linter.unusedVariables false
set_option linter.unusedSimpArgs false

section
variable {H : Type} {enc : TypeId × Value → H} {w : World} {base b0 : Nat} {spare : Nat → Bool} {held : Bool} {r : Reach}
set_option maxRecDepth 100000 in
theorem trod_eid {fuel : Nat} {cs : List Value} {x : DataW H × List MemPlace} (h : DataW.trod enc Try.prog w base spare held fuel 24 cs = some x) :
    ∃ e : EV, cs = [.int .i64 e.sch, str e.name, .int .u64 (e.node : Int), .int .u64 (e.svc : Int)] ∧ e.node < 18446744073709551616 ∧ e.svc < 18446744073709551616 ∧ (-9223372036854775808 ≤ e.sch ∧ e.sch ≤ 9223372036854775807) := by
  obtain ⟨ys, n', hn', hy, hlen, hyl, hfl⟩ := DataW.trod_struct Try.underlying24 h
  match cs, hlen with
  | [c0, c1, c2, c3], _ =>
    have h0 := field_at (by kernel_rfl) hfl (i := 0) rfl rfl
    have h1 := field_at (by kernel_rfl) hfl (i := 1) rfl rfl
    have h2 := field_at (by kernel_rfl) hfl (i := 2) rfl rfl
    have h3 := field_at (by kernel_rfl) hfl (i := 3) rfl rfl
    clear hfl h
    match ys, hyl with
    | [y0, y1, y2, y3], _ =>
      obtain ⟨sch, e0, _, w0⟩ := DataW.trod_int (k := .i64) (by kernel_rfl) h0
      obtain ⟨s, e1, _, _⟩ := DataW.trod_string (by kernel_rfl) h1
      obtain ⟨a, e2, _, w2⟩ := DataW.trod_int (k := .u64) (by kernel_rfl) h2
      obtain ⟨b, e3, _, w3⟩ := DataW.trod_int (k := .u64) (by kernel_rfl) h3
      have q0 : c0 = .int .i64 sch := by have : [c0] = [Value.int .i64 sch] := e0; simpa using this
      have q1 : c1 = .string s := by have : [c1] = [Value.string s] := e1; simpa using this
      have q2 : c2 = .int .u64 a := by have : [c2] = [Value.int .u64 a] := e2; simpa using this
      have q3 : c3 = .int .u64 b := by have : [c3] = [Value.int .u64 b] := e3; simpa using this
      subst q0 q1 q2 q3
      have b0 : -9223372036854775808 ≤ sch ∧ sch ≤ 9223372036854775807 := by simpa [Lit.wf, IntKind.min, IntKind.max, IntKind.signed, IntKind.bits] using w0
      have b2 : 0 ≤ a ∧ a ≤ 18446744073709551615 := by simpa [Lit.wf, IntKind.min, IntKind.max, IntKind.signed, IntKind.bits] using w2
      have b3 : 0 ≤ b ∧ b ≤ 18446744073709551615 := by simpa [Lit.wf, IntKind.min, IntKind.max, IntKind.signed, IntKind.bits] using w3
      obtain ⟨a, rfl⟩ := Int.eq_ofNat_of_zero_le b2.1
      obtain ⟨b, rfl⟩ := Int.eq_ofNat_of_zero_le b3.1
      exact ⟨⟨sch, s.data.toList, a, b⟩, rfl, by show a < _; omega, by show b < _; omega, b0⟩

set_option maxRecDepth 100000 in
theorem open_eid {v : Value} {d : DataW H} {p : List MemPlace} (hval : Value.okWide Try.prog w r b0 24 v) (h : DataW.Trod enc Try.prog w base spare held 24 v d p) :
    ∃ e : EV, v = e.v ∧ e.node < 18446744073709551616 ∧ e.svc < 18446744073709551616 ∧ (-9223372036854775808 ≤ e.sch ∧ e.sch ≤ 9223372036854775807) := by
  obtain ⟨cs, rfl, hsz⟩ := okWide_struct Try.underlying24 hval
  obtain ⟨fuel, hf⟩ := h
  have hcs : (Value.agg cs).cells.toList = cs.toList := rfl
  rw [hcs] at hf
  obtain ⟨e, he, h1, h2, h3⟩ := trod_eid hf
  refine ⟨e, ?_, h1, h2, h3⟩
  have : cs = (cs.toList).toArray := by simp
  rw [this, he]
theorem okWide_arr {P : Program} {t e : TypeId} {n : Nat} {v : Value} (ht : P.underlying t = some (.array n e)) (h : Value.okWide P w r base t v) : ∃ cs, v = .agg cs ∧ cs.size = P.cellsOf t := by
  simp only [Value.okWide, ht] at h
  obtain ⟨cs, h1, h2, _⟩ := h
  exact ⟨cs, h1, h2⟩
theorem two_ints {P : Program} {t e : TypeId} {k : IntKind} {fuel : Nat} {c0 c1 : Value} {x : DataW H × List MemPlace} (ht : P.underlying t = some (.array 2 e)) (he : P.underlying e = some (.int k)) (hC : P.cellsOf e = 1)
    (h : DataW.trod enc P w base spare held fuel t [c0, c1] = some x) : ∃ a b, c0 = .int k a ∧ c1 = .int k b ∧ (Lit.int k a).wf = true ∧ (Lit.int k b).wf = true := by
  obtain ⟨xs, m, _, _, _, hlen, hg⟩ := DataW.trod_array ht h
  have h0 := hg 0 (by omega)
  have h1 := hg 1 (by omega)
  rw [hC] at h0 h1
  match xs, hlen with
  | [y0, y1], _ =>
    obtain ⟨a, ha, _, hwa⟩ := DataW.trod_int (k := k) he h0
    obtain ⟨b, hb, _, hwb⟩ := DataW.trod_int (k := k) he h1
    exact ⟨a, b, by simpa using ha, by simpa using hb, hwa, hwb⟩
end
end Go.Proofs.Ytkeabdfgacicaaa


namespace Go.Proofs.Ytkeabdfgacicaaa
open Go.RowKit
set_option linter.unusedVariables false
set_option linter.unusedSimpArgs false

theorem EV.ok_cases {e : EV} (h : e.ok = true) : (e = ⟨1, [110, 111, 110, 101], 0, 0⟩) ∨ (∃ name, e = ⟨1, name, 0, 0⟩ ∧ name ≠ [110, 111, 110, 101] ∧ name.length ≤ 60) ∨ (∃ node svc, e = ⟨2, [], node, svc⟩ ∧ node ≤ 4294967295 ∧ svc ≤ 4294967295) := by
  obtain ⟨sch, name, node, svc⟩ := e
  unfold EV.ok at h
  simp only [] at h
  by_cases h1 : sch = 1
  · rw [if_pos h1] at h
    simp only [Bool.and_eq_true, decide_eq_true_eq] at h
    obtain ⟨⟨rfl, rfl⟩, hn⟩ := h
    subst h1
    by_cases h0 : name = [110, 111, 110, 101]
    · subst h0; exact .inl rfl
    · refine .inr (.inl ⟨name, rfl, h0, ?_⟩)
      have h00 : ¬ name = noneL := h0
      simp only [namedL, h00, decide_false, Bool.false_or, Bool.and_eq_true, decide_eq_true_eq] at hn
      by_cases hl : name.length ≤ 60
      · exact hl
      · exfalso
        apply hn.1
        unfold nodeN
        rw [if_neg (fun h => hl h.2)]
  · rw [if_neg h1] at h
    by_cases h2 : sch = 2
    · rw [if_pos h2] at h
      simp only [Bool.and_eq_true, decide_eq_true_eq] at h
      obtain ⟨⟨rfl, ha⟩, hb⟩ := h
      subst h2
      exact .inr (.inr ⟨node, svc, rfl, ha, hb⟩)
    · rw [if_neg h2] at h
      cases h
theorem eidItem_ok (e : EV) (ho : e.ok = true) (w : World) : Calls Try.prog 94 #[e.v] w (fun r w' => ∃ A, r = .returned (.tuple #[itemV (eidT e) A 2, .int .i64 0]) ∧ Ext w w' ∧ IsL w' (fun b => w.heap.size ≤ b) (eidT e) A) := by
  rcases EV.ok_cases ho with rfl | ⟨name, rfl, hn, hl⟩ | ⟨node, svc, rfl, ha, hb⟩
  · exact eidItem_none w
  · exact eidItem_dtn name (by unfold Hid; omega) hn ho w
  · have e1 : eidT ⟨2, [], node, svc⟩ = ipnT node svc := rfl
    rw [e1]
    exact eidItem_ipn node svc ha hb w
theorem text_ok {s : List UInt8} (h : s.length < 4611686018427387904) : (textT s).ok := by unfold textT T.ok; exact ⟨by omega, by omega, h, by omega, fun i hi => by omega⟩
theorem eidT_ok {e : EV} (ho : e.ok = true) : (eidT e).ok ∧ (∀ d, 3 ≤ d → (eidT e).right d = true) ∧ (eidT e).plain = true ∧ (eidT e).size ≤ 100000 := by
  rcases EV.ok_cases ho with rfl | ⟨name, rfl, hn, hl⟩ | ⟨node, svc, rfl, ha, hb⟩
  · refine ⟨?_, fun d hd => ?_, by decide, by decide⟩
    · unfold eidT T.ok
      exact ⟨by omega, by omega, by simp, by omega, fun i hi => by dsimp only; split; exact num_ok (by decide); exact num_ok (by decide)⟩
    · have h1 : ¬ d < 1 := by omega
      have h2 : ¬ d - 1 < 1 := by omega
      simp [eidT, twoT, noneL, T.right, h1, h2, T.node, T.all, numT]
  · have h0 : ¬ name = noneL := hn
    have e1 : twoT ⟨1, name, 0, 0⟩ = textT name := by simp [twoT, h0]
    refine ⟨?_, fun d hd => ?_, ?_, ?_⟩
    · unfold eidT T.ok
      exact ⟨by omega, by omega, by simp, by omega, fun i hi => by dsimp only; split; exact num_ok (by decide); rw [e1]; exact text_ok (by omega)⟩
    · have h1 : ¬ d < 1 := by omega
      have h2 : ¬ d - 1 < 1 := by omega
      simp [eidT, e1, T.right, h1, h2, T.node, T.all, numT, textT]
    · simp [eidT, e1, T.plain, T.node, T.all, numT, textT]
    · simp [eidT, e1, T.size, T.sum, numT, textT]; omega
  · refine ⟨?_, fun d hd => ?_, ?_, ?_⟩
    · unfold eidT T.ok
      refine ⟨by omega, by omega, by simp, by omega, fun i hi => ?_⟩
      dsimp only
      split
      · exact num_ok (by decide)
      · show (T.mk 4 0 [] false 2 (fun j => if j = 0 then numT node else numT svc)).ok
        unfold T.ok
        exact ⟨by omega, by omega, by simp, by omega, fun i hi => by dsimp only; split; exact num_ok (by omega); exact num_ok (by omega)⟩
    · have h1 : ¬ d < 1 := by omega
      have h2 : ¬ d - 1 < 1 := by omega
      have h3 : ¬ d - 1 - 1 < 1 := by omega
      simp [eidT, twoT, T.right, h1, h2, h3, T.node, T.all, numT]
    · simp [eidT, twoT, T.plain, T.node, T.all, numT]
    · simp [eidT, twoT, T.size, T.sum, numT]

theorem two_IsL {W : World} {Q : Nat → Prop} {g : Nat} (t0 t1 : T) (A0 A1 : Option Addr) (c0 c1 : Nat) (q : Q g)
    (h : Blk W g 48 #[.int .i64 t0.kind, .int .u64 (t0.n : Int), str t0.s, .slice A0 t0.k c0, .bool t0.op, .int .i64 t1.kind, .int .u64 (t1.n : Int), str t1.s, .slice A1 t1.k c1, .bool t1.op]) (h0 : IsL W Q t0 A0) (h1 : IsL W Q t1 A1) : IsL W Q (T.mk 4 0 [] false 2 fun i => if i = 0 then t0 else t1) (some ⟨g, 0, none⟩) := fun _ => ⟨g, 0, rfl, h.lt, q, fun i hi => by
  have hi2 : i = 0 ∨ i = 1 := by omega
  rcases hi2 with rfl | rfl
  · exact ⟨A0, c0, ⟨h.cell 0, h.cell 1, h.cell 2, h.cell 3, h.cell 4⟩, h0⟩
  · exact ⟨A1, c1, ⟨h.cell 5, h.cell 6, h.cell 7, h.cell 8, h.cell 9⟩, h1⟩⟩
theorem leaf_IsL {W : World} {Q : Nat → Prop} {t : T} {A : Option Addr} (h : t.k = 0) (hn : t ≠ T.nil) : IsL W Q t A := by
  cases t with
  | nil => exact absurd rfl hn
  | mk kind n s op k ch => intro h0; have : k = 0 := h; omega

set_option maxRecDepth 20000 in
set_option maxHeartbeats 1600000 in
theorem r10Item_none (w : World) : Calls Try.prog 137 #[EV.v ⟨1, [110, 111, 110, 101], 0, 0⟩] w (fun r w' => ∃ A, r = .returned (itemV (eidT ⟨1, [110, 111, 110, 101], 0, 0⟩) A 2) ∧ Ext w w' ∧ IsL w' (fun b => w.heap.size ≤ b) (eidT ⟨1, [110, 111, 110, 101], 0, 0⟩) A) := by
  go_enter Try.func137, Try.ntmps137
  go_wp2_with fail
  refine bodyPost_ret (v := itemV (eidT ⟨1, [110, 111, 110, 101], 0, 0⟩) (some ⟨w.heap.size + 1 + 1 + 1, 0, none⟩) 2) (by simp [results, Try.results137, go_sem]; exact ⟨rfl, rfl, rfl, rfl, rfl⟩) rfl ?_
  refine ⟨_, rfl, ((((Mod.refl _ _).alloc _).alloc _).alloc _).alloc _, ?_⟩
  exact two_IsL (numT 1) (numT 0) none none 0 0 (show w.heap.size ≤ w.heap.size + 1 + 1 + 1 by omega) (Blk.new' _ _ _ (by simp)) (leaf_IsL rfl (by simp [numT])) (leaf_IsL rfl (by simp [numT]))
set_option maxRecDepth 20000 in
set_option maxHeartbeats 1600000 in
theorem r10Item_dtn (name : List UInt8) (hn : name ≠ [110, 111, 110, 101]) (w : World) : Calls Try.prog 137 #[EV.v ⟨1, name, 0, 0⟩] w (fun r w' => ∃ A, r = .returned (itemV (eidT ⟨1, name, 0, 0⟩) A 2) ∧ Ext w w' ∧ IsL w' (fun b => w.heap.size ≤ b) (eidT ⟨1, name, 0, 0⟩) A) := by
  have h0 : ¬ name = noneL := hn
  have e1 : eidT ⟨1, name, 0, 0⟩ = T.mk 4 0 [] false 2 fun i => if i = 0 then numT 1 else textT name := by simp [eidT, twoT, h0]
  rw [e1]
  have n1 : (name == [110, 111, 110, 101]) = false := by simpa using hn
  have n2 : (name = [110, 111, 110, 101]) = False := by simpa using hn
  have n3 : (name != [110, 111, 110, 101]) = true := by simpa using hn
  clear e1 h0 hn
  go_enter Try.func137, Try.ntmps137
  go_wp2_with fail
  refine bodyPost_ret (v := itemV (T.mk 4 0 [] false 2 fun i => if i = 0 then numT 1 else textT name) (some ⟨w.heap.size + 1 + 1 + 1, 0, none⟩) 2) (by simp [results, Try.results137, go_sem]; exact ⟨rfl, rfl, rfl, rfl, rfl⟩) rfl ?_
  refine ⟨_, rfl, ((((Mod.refl _ _).alloc _).alloc _).alloc _).alloc _, ?_⟩
  exact two_IsL (numT 1) (textT name) none none 0 0 (show w.heap.size ≤ w.heap.size + 1 + 1 + 1 by omega) (Blk.new' _ _ _ (by simp)) (leaf_IsL rfl (by simp [numT])) (leaf_IsL rfl (by simp [textT]))
set_option maxRecDepth 20000 in
set_option maxHeartbeats 1600000 in
theorem r10Item_ipn (node svc : Nat) (w : World) : Calls Try.prog 137 #[EV.v ⟨2, [], node, svc⟩] w (fun r w' => ∃ A, r = .returned (itemV (eidT ⟨2, [], node, svc⟩) A 2) ∧ Ext w w' ∧ IsL w' (fun b => w.heap.size ≤ b) (eidT ⟨2, [], node, svc⟩) A) := by
  go_enter Try.func137, Try.ntmps137
  go_wp2_with fail
  refine bodyPost_ret (v := itemV (eidT ⟨2, [], node, svc⟩) (some ⟨w.heap.size + 1 + 1 + 1 + 1, 0, none⟩) 2) (by simp [results, Try.results137, go_sem]; exact ⟨rfl, rfl, rfl, rfl, rfl⟩) rfl ?_
  refine ⟨_, rfl, (((((Mod.refl _ _).alloc _).alloc _).alloc _).alloc _).alloc _, ?_⟩
  refine two_IsL (numT 2) (T.mk 4 0 [] false 2 (fun j => if j = 0 then numT node else numT svc)) none (some ⟨w.heap.size + 1 + 1 + 1, 0, none⟩) 0 2 (show w.heap.size ≤ w.heap.size + 1 + 1 + 1 + 1 by omega) (Blk.new' _ _ _ (by simp)) (leaf_IsL rfl (by simp [numT])) ?_
  exact two_IsL (numT node) (numT svc) none none 0 0 (show w.heap.size ≤ w.heap.size + 1 + 1 + 1 by omega) ((Blk.new' _ _ _ (by simp)).alloc _) (leaf_IsL rfl (by simp [numT])) (leaf_IsL rfl (by simp [numT]))
theorem r10Item_ok (e : EV) (ho : e.ok = true) (w : World) : Calls Try.prog 137 #[e.v] w (fun r w' => ∃ A, r = .returned (itemV (eidT e) A 2) ∧ Ext w w' ∧ IsL w' (fun b => w.heap.size ≤ b) (eidT e) A) := by
  rcases EV.ok_cases ho with rfl | ⟨name, rfl, hn, hl⟩ | ⟨node, svc, rfl, ha, hb⟩
  · exact r10Item_none w
  · exact r10Item_dtn name hn w
  · exact r10Item_ipn node svc w
end Go.Proofs.Ytkeabdfgacicaaa


namespace Go.Proofs.Ytkeabdfgacicaaa
open Go.RowKit
set_option linter.unusedVariables false
set_option linter.unusedSimpArgs false

def zeroE : EV := ⟨0, [], 0, 0⟩
def noneE : EV := ⟨1, [110, 111, 110, 101], 0, 0⟩
def readE (t : T) : EV :=
  if t.kind ≠ 4 ∨ t.k ≠ 2 ∨ (t.ch 0).kind ≠ 0 then zeroE
  else if (t.ch 0).n = 2 ∧ (t.ch 1).k = 2 then ⟨2, [], ((t.ch 1).ch 0).n, ((t.ch 1).ch 1).n⟩
  else if (t.ch 0).n = 1 ∧ (t.ch 1).kind = 3 then ⟨1, (t.ch 1).s, 0, 0⟩
  else noneE

set_option maxRecDepth 20000 in
set_option maxHeartbeats 800000 in
theorem eread_1 (t : T) (A : Option Addr) (c : Nat) (h : t.kind ≠ 4) (w : World) : Calls Try.prog 131 #[.agg (itemC t A c)] w (Ret zeroE.v w) := by
  have HE := hid (((Mod.refl [] w).alloc (.cells (itemC t A c) 48)).alloc (.cells #[.int .i64 0, .string ⟨#[]⟩, .int .u64 0, .int .u64 0] 24))
  have n1 : (t.kind == 4) = false := by simpa using h
  have n2 : (t.kind = 4) = False := by simpa using h
  have n3 : (t.kind != 4) = true := by simpa using h
  clear h
  go_enter Try.func131, Try.ntmps131
  go_wp2_with fail
  refine bodyPost_ret (v := .agg #[.int .i64 0, str [], .int .u64 0, .int .u64 0]) (by simp [results, Try.results131, go_sem]) rfl (Ret.mk rfl (by first | exact (((Mod.refl _ _).alloc _).alloc _) | exact ((((Mod.refl _ _).alloc _).alloc _).alloc _)))
set_option maxRecDepth 20000 in
set_option maxHeartbeats 800000 in
theorem eread_2 (n : Nat) (s : List UInt8) (op : Bool) (k : Nat) (A : Option Addr) (c : Nat) (h : k ≠ 2) (w : World) : Calls Try.prog 131 #[.agg #[.int .i64 4, .int .u64 (n : Int), str s, .slice A k c, .bool op]] w (Ret zeroE.v w) := by
  have HE := hid (((Mod.refl [] w).alloc (.cells #[.int .i64 4, .int .u64 (n : Int), str s, .slice A k c, .bool op] 48)).alloc (.cells #[.int .i64 0, .string ⟨#[]⟩, .int .u64 0, .int .u64 0] 24))
  have n1 : ((k : Int) == 2) = false := by simp; omega
  have n2 : ((k : Int) = 2) = False := by simp; omega
  have n3 : ((k : Int) != 2) = true := by simp; omega
  clear h
  go_enter Try.func131, Try.ntmps131
  go_wp2_with fail
  refine bodyPost_ret (v := .agg #[.int .i64 0, str [], .int .u64 0, .int .u64 0]) (by simp [results, Try.results131, go_sem]) rfl (Ret.mk rfl (by first | exact (((Mod.refl _ _).alloc _).alloc _) | exact ((((Mod.refl _ _).alloc _).alloc _).alloc _)))
set_option maxRecDepth 20000 in
set_option maxHeartbeats 800000 in
theorem eread_3 (n : Nat) (s : List UInt8) (op : Bool) (ch : Nat → T) (b o c : Nat) (A0 A1 : Option Addr) (c0 c1 : Nat) (h : (ch 0).kind ≠ 0) (w : World) (hb : b < w.heap.size) (h0 : At5 w b o (ch 0) A0 c0) (h1 : At5 w b (o + 5) (ch 1) A1 c1) : Calls Try.prog 131 #[.agg #[.int .i64 4, .int .u64 (n : Int), str s, .slice (some ⟨b, o, none⟩) 2 c, .bool op]] w (Ret zeroE.v w) := by
  have HE := hid (((Mod.refl [] w).alloc (.cells #[.int .i64 4, .int .u64 (n : Int), str s, .slice (some ⟨b, o, none⟩) 2 c, .bool op] 48)).alloc (.cells #[.int .i64 0, .string ⟨#[]⟩, .int .u64 0, .int .u64 0] 24))
  obtain ⟨x0, x1, x2, x3, x4⟩ := h0.mod HE.out hb (by simp)
  obtain ⟨y0, y1, y2, y3, y4⟩ := h1.mod HE.out hb (by simp)
  have n1 : ((ch 0).kind == 0) = false := by simpa using h
  have n2 : ((ch 0).kind = 0) = False := by simpa using h
  have n3 : ((ch 0).kind != 0) = true := by simpa using h
  clear h h0 h1
  go_enter Try.func131, Try.ntmps131
  go_wp2_with fail
  refine bodyPost_ret (v := .agg #[.int .i64 0, str [], .int .u64 0, .int .u64 0]) (by simp [results, Try.results131, go_sem]) rfl (Ret.mk rfl (by first | exact (((Mod.refl _ _).alloc _).alloc _) | exact ((((Mod.refl _ _).alloc _).alloc _).alloc _)))
set_option maxRecDepth 20000 in
set_option maxHeartbeats 800000 in
theorem eread_4 (n : Nat) (s : List UInt8) (op : Bool) (ch : Nat → T) (b o c : Nat) (A0 A1 : Option Addr) (c0 c1 : Nat) (b1 o1 : Nat) (A2 A3 : Option Addr) (c2 c3 : Nat) (hk0 : (ch 0).kind = 0) (hn0 : (ch 0).n = 2) (hk1 : (ch 1).k = 2) (hA : A1 = some ⟨b1, o1, none⟩) (w : World) (hb : b < w.heap.size) (h0 : At5 w b o (ch 0) A0 c0) (h1 : At5 w b (o + 5) (ch 1) A1 c1) (hb1 : b1 < w.heap.size) (h2 : At5 w b1 o1 ((ch 1).ch 0) A2 c2) (h3 : At5 w b1 (o1 + 5) ((ch 1).ch 1) A3 c3) : Calls Try.prog 131 #[.agg #[.int .i64 4, .int .u64 (n : Int), str s, .slice (some ⟨b, o, none⟩) 2 c, .bool op]] w (Ret (EV.v ⟨2, [], ((ch 1).ch 0).n, ((ch 1).ch 1).n⟩) w) := by
  have HE := hid (((Mod.refl [] w).alloc (.cells #[.int .i64 4, .int .u64 (n : Int), str s, .slice (some ⟨b, o, none⟩) 2 c, .bool op] 48)).alloc (.cells #[.int .i64 0, .string ⟨#[]⟩, .int .u64 0, .int .u64 0] 24))
  obtain ⟨x0, x1, x2, x3, x4⟩ := h0.mod HE.out hb (by simp)
  obtain ⟨y0, y1, y2, y3, y4⟩ := h1.mod HE.out hb (by simp)
  obtain ⟨_, z1, _⟩ := h2.mod HE.out hb1 (by simp)
  obtain ⟨_, v1, _⟩ := h3.mod HE.out hb1 (by simp)
  rw [hk0] at x0
  rw [hn0] at x1
  subst hA
  rw [hk1] at y3
  have HE3 := hid (HE.out.alloc (.cells #[.int .i64 (ch 1).kind, .int .u64 ((ch 1).n : Int), str (ch 1).s, .slice (some ⟨b1, o1, none⟩) 2 c1, .bool (ch 1).op] 48))
  have gx1 : (((w.alloc (.cells #[.int .i64 4, .int .u64 (n : Int), str s, .slice (some ⟨b, o, none⟩) 2 c, .bool op] 48)).alloc (.cells #[.int .i64 0, .string ⟨#[]⟩, .int .u64 0, .int .u64 0] 24)).alloc (.cells #[.int .i64 (ch 1).kind, .int .u64 ((ch 1).n : Int), str (ch 1).s, .slice (some ⟨b1, o1, none⟩) 2 c1, .bool (ch 1).op] 48)).cell? ⟨b, o + 1, none⟩ = some (.int .u64 2) := by have := (h0.mod HE3.out hb (by simp)).2.1; rw [hn0] at this; exact this
  have gz : (((w.alloc (.cells #[.int .i64 4, .int .u64 (n : Int), str s, .slice (some ⟨b, o, none⟩) 2 c, .bool op] 48)).alloc (.cells #[.int .i64 0, .string ⟨#[]⟩, .int .u64 0, .int .u64 0] 24)).alloc (.cells #[.int .i64 (ch 1).kind, .int .u64 ((ch 1).n : Int), str (ch 1).s, .slice (some ⟨b1, o1, none⟩) 2 c1, .bool (ch 1).op] 48)).cell? ⟨b1, o1 + 1, none⟩ = some (.int .u64 (((ch 1).ch 0).n : Int)) := (h2.mod HE3.out hb1 (by simp)).2.1
  have gv : (((w.alloc (.cells #[.int .i64 4, .int .u64 (n : Int), str s, .slice (some ⟨b, o, none⟩) 2 c, .bool op] 48)).alloc (.cells #[.int .i64 0, .string ⟨#[]⟩, .int .u64 0, .int .u64 0] 24)).alloc (.cells #[.int .i64 (ch 1).kind, .int .u64 ((ch 1).n : Int), str (ch 1).s, .slice (some ⟨b1, o1, none⟩) 2 c1, .bool (ch 1).op] 48)).cell? ⟨b1, o1 + 5 + 1, none⟩ = some (.int .u64 (((ch 1).ch 1).n : Int)) := (h3.mod HE3.out hb1 (by simp)).2.1
  clear hk0 hn0 hk1 h0 h1 h2 h3
  go_enter Try.func131, Try.ntmps131
  go_wp2_with fail
  go_region
  all_goals go_wp2_with fail
  all_goals refine bodyPost_ret (v := EV.v ⟨2, [], ((ch 1).ch 0).n, ((ch 1).ch 1).n⟩) (by simp [results, Try.results131, go_sem]) rfl (Ret.mk rfl ((((Mod.refl _ _).alloc _).alloc _).alloc _).drew)
set_option maxRecDepth 20000 in
set_option maxHeartbeats 800000 in
theorem eread_5 (n : Nat) (s : List UInt8) (op : Bool) (ch : Nat → T) (b o c : Nat) (A0 A1 : Option Addr) (c0 c1 : Nat) (hk0 : (ch 0).kind = 0) (hn0 : (ch 0).n = 1) (hk1 : (ch 1).kind = 3) (w : World) (hb : b < w.heap.size) (h0 : At5 w b o (ch 0) A0 c0) (h1 : At5 w b (o + 5) (ch 1) A1 c1) : Calls Try.prog 131 #[.agg #[.int .i64 4, .int .u64 (n : Int), str s, .slice (some ⟨b, o, none⟩) 2 c, .bool op]] w (Ret (EV.v ⟨1, (ch 1).s, 0, 0⟩) w) := by
  have HE := hid (((Mod.refl [] w).alloc (.cells #[.int .i64 4, .int .u64 (n : Int), str s, .slice (some ⟨b, o, none⟩) 2 c, .bool op] 48)).alloc (.cells #[.int .i64 0, .string ⟨#[]⟩, .int .u64 0, .int .u64 0] 24))
  obtain ⟨x0, x1, x2, x3, x4⟩ := h0.mod HE.out hb (by simp)
  obtain ⟨y0, y1, y2, y3, y4⟩ := h1.mod HE.out hb (by simp)
  rw [hk0] at x0
  rw [hn0] at x1
  rw [hk1] at y0
  have HE3 := hid (HE.out.alloc (.cells #[.int .i64 3, .int .u64 ((ch 1).n : Int), str (ch 1).s, .slice A1 (ch 1).k c1, .bool (ch 1).op] 48))
  have gx1 : (((w.alloc (.cells #[.int .i64 4, .int .u64 (n : Int), str s, .slice (some ⟨b, o, none⟩) 2 c, .bool op] 48)).alloc (.cells #[.int .i64 0, .string ⟨#[]⟩, .int .u64 0, .int .u64 0] 24)).alloc (.cells #[.int .i64 3, .int .u64 ((ch 1).n : Int), str (ch 1).s, .slice A1 (ch 1).k c1, .bool (ch 1).op] 48)).cell? ⟨b, o + 1, none⟩ = some (.int .u64 1) := by have := (h0.mod HE3.out hb (by simp)).2.1; rw [hn0] at this; exact this
  clear hk0 hn0 hk1 h0 h1
  go_enter Try.func131, Try.ntmps131
  go_wp2_with fail
  refine bodyPost_ret (v := EV.v ⟨1, (ch 1).s, 0, 0⟩) (by simp [results, Try.results131, go_sem]) rfl (Ret.mk rfl (by first | exact (((Mod.refl _ _).alloc _).alloc _) | exact ((((Mod.refl _ _).alloc _).alloc _).alloc _)))
set_option maxRecDepth 20000 in
set_option maxHeartbeats 800000 in
theorem eread_6 (n : Nat) (s : List UInt8) (op : Bool) (ch : Nat → T) (b o c : Nat) (A0 A1 : Option Addr) (c0 c1 : Nat) (hk0 : (ch 0).kind = 0) (hn0 : (ch 0).n = 2) (hk1 : (ch 1).k ≠ 2) (w : World) (hb : b < w.heap.size) (h0 : At5 w b o (ch 0) A0 c0) (h1 : At5 w b (o + 5) (ch 1) A1 c1) : Calls Try.prog 131 #[.agg #[.int .i64 4, .int .u64 (n : Int), str s, .slice (some ⟨b, o, none⟩) 2 c, .bool op]] w (Ret noneE.v w) := by
  have HE := hid (((Mod.refl [] w).alloc (.cells #[.int .i64 4, .int .u64 (n : Int), str s, .slice (some ⟨b, o, none⟩) 2 c, .bool op] 48)).alloc (.cells #[.int .i64 0, .string ⟨#[]⟩, .int .u64 0, .int .u64 0] 24))
  obtain ⟨x0, x1, x2, x3, x4⟩ := h0.mod HE.out hb (by simp)
  obtain ⟨y0, y1, y2, y3, y4⟩ := h1.mod HE.out hb (by simp)
  rw [hk0] at x0
  rw [hn0] at x1
  have n1 : (((ch 1).k : Int) == 2) = false := by simp; omega
  have n2 : (((ch 1).k : Int) = 2) = False := by simp; omega
  have HE3 := hid (HE.out.alloc (.cells #[.int .i64 (ch 1).kind, .int .u64 ((ch 1).n : Int), str (ch 1).s, .slice A1 (ch 1).k c1, .bool (ch 1).op] 48))
  have gx1 : (((w.alloc (.cells #[.int .i64 4, .int .u64 (n : Int), str s, .slice (some ⟨b, o, none⟩) 2 c, .bool op] 48)).alloc (.cells #[.int .i64 0, .string ⟨#[]⟩, .int .u64 0, .int .u64 0] 24)).alloc (.cells #[.int .i64 (ch 1).kind, .int .u64 ((ch 1).n : Int), str (ch 1).s, .slice A1 (ch 1).k c1, .bool (ch 1).op] 48)).cell? ⟨b, o + 1, none⟩ = some (.int .u64 2) := by have := (h0.mod HE3.out hb (by simp)).2.1; rw [hn0] at this; exact this
  clear hk0 hn0 hk1 h0 h1
  have HQ := hid ((Blk.new' (w.alloc (.cells #[.int .i64 4, .int .u64 (n : Int), str s, .slice (some ⟨b, o, none⟩) 2 c, .bool op] 48)) 24 #[.int .i64 0, .string ⟨#[]⟩, .int .u64 0, .int .u64 0] (N := w.heap.size + 1) (by simp)).alloc (.cells #[.int .i64 (ch 1).kind, .int .u64 ((ch 1).n : Int), str (ch 1).s, .slice A1 (ch 1).k c1, .bool (ch 1).op] 48))
  go_enter Try.func131, Try.ntmps131
  go_wp2_with fail
  refine (eidNone_any _).mono ?_
  rintro e w1 ⟨rfl, hb1⟩
  have HE1 : Hid (Ext w w1) := HE3.out.trans hb1
  have HQ1 := hid (HQ.out.ext hb1)
  clear hb1
  obtain ⟨r0, r1, r2, r3⟩ : w1.cell? ⟨w.heap.size + 1, 0, none⟩ = some (.int .i64 0) ∧ w1.cell? ⟨w.heap.size + 1, 1, none⟩ = some (str []) ∧ w1.cell? ⟨w.heap.size + 1, 2, none⟩ = some (.int .u64 0) ∧ w1.cell? ⟨w.heap.size + 1, 3, none⟩ = some (.int .u64 0) := ⟨HQ1.out.cell 0, HQ1.out.cell 1, HQ1.out.cell 2, HQ1.out.cell 3⟩
  have f0 := Blk.frozen HQ1.out 0
  have f1 := Blk.frozen HQ1.out 1
  have f2 := Blk.frozen HQ1.out 2
  have f3 := Blk.frozen HQ1.out 3
  go_wp2_with fail
  have B4 := (((HQ1.out.set_ 0 (.int .i64 1)).set_ 1 (str [110, 111, 110, 101])).set_ 2 (.int .u64 0)).set_ 3 (.int .u64 0)
  obtain ⟨d0, d1, d2, d3⟩ := And.intro (B4.cell 0) (And.intro (B4.cell 1) (And.intro (B4.cell 2) (B4.cell 3)))
  simp only [List.setIfInBounds_toArray, List.set_cons_zero, List.set_cons_succ, List.getElem?_toArray, List.getElem?_cons_zero, List.getElem?_cons_succ] at d0 d1 d2 d3
  clear r0 r1 r2 r3 f0 f1 f2 f3
  refine bodyPost_ret (v := .agg #[.int .i64 1, str [110, 111, 110, 101], .int .u64 0, .int .u64 0]) (by simp [results, Try.results131, go_sem, d0, d1, d2, d3]) rfl (Ret.mk rfl ((((HE1.out.setCell (.inr (by show w.heap.size ≤ w.heap.size + 1; omega)) _).setCell (.inr (by show w.heap.size ≤ w.heap.size + 1; omega)) _).setCell (.inr (by show w.heap.size ≤ w.heap.size + 1; omega)) _).setCell (.inr (by show w.heap.size ≤ w.heap.size + 1; omega)) _))
set_option maxRecDepth 20000 in
set_option maxHeartbeats 800000 in
theorem eread_7 (n : Nat) (s : List UInt8) (op : Bool) (ch : Nat → T) (b o c : Nat) (A0 A1 : Option Addr) (c0 c1 : Nat) (hk0 : (ch 0).kind = 0) (hn0 : (ch 0).n = 1) (hk1 : (ch 1).kind ≠ 3) (w : World) (hb : b < w.heap.size) (h0 : At5 w b o (ch 0) A0 c0) (h1 : At5 w b (o + 5) (ch 1) A1 c1) : Calls Try.prog 131 #[.agg #[.int .i64 4, .int .u64 (n : Int), str s, .slice (some ⟨b, o, none⟩) 2 c, .bool op]] w (Ret noneE.v w) := by
  have HE := hid (((Mod.refl [] w).alloc (.cells #[.int .i64 4, .int .u64 (n : Int), str s, .slice (some ⟨b, o, none⟩) 2 c, .bool op] 48)).alloc (.cells #[.int .i64 0, .string ⟨#[]⟩, .int .u64 0, .int .u64 0] 24))
  obtain ⟨x0, x1, x2, x3, x4⟩ := h0.mod HE.out hb (by simp)
  obtain ⟨y0, y1, y2, y3, y4⟩ := h1.mod HE.out hb (by simp)
  rw [hk0] at x0
  rw [hn0] at x1
  have n1 : ((ch 1).kind == 3) = false := by simpa using hk1
  have n2 : ((ch 1).kind = 3) = False := by simpa using hk1
  have HE3 := hid (HE.out.alloc (.cells #[.int .i64 (ch 1).kind, .int .u64 ((ch 1).n : Int), str (ch 1).s, .slice A1 (ch 1).k c1, .bool (ch 1).op] 48))
  have gx1 : (((w.alloc (.cells #[.int .i64 4, .int .u64 (n : Int), str s, .slice (some ⟨b, o, none⟩) 2 c, .bool op] 48)).alloc (.cells #[.int .i64 0, .string ⟨#[]⟩, .int .u64 0, .int .u64 0] 24)).alloc (.cells #[.int .i64 (ch 1).kind, .int .u64 ((ch 1).n : Int), str (ch 1).s, .slice A1 (ch 1).k c1, .bool (ch 1).op] 48)).cell? ⟨b, o + 1, none⟩ = some (.int .u64 1) := by have := (h0.mod HE3.out hb (by simp)).2.1; rw [hn0] at this; exact this
  clear hk0 hn0 hk1 h0 h1
  have HQ := hid ((Blk.new' (w.alloc (.cells #[.int .i64 4, .int .u64 (n : Int), str s, .slice (some ⟨b, o, none⟩) 2 c, .bool op] 48)) 24 #[.int .i64 0, .string ⟨#[]⟩, .int .u64 0, .int .u64 0] (N := w.heap.size + 1) (by simp)).alloc (.cells #[.int .i64 (ch 1).kind, .int .u64 ((ch 1).n : Int), str (ch 1).s, .slice A1 (ch 1).k c1, .bool (ch 1).op] 48))
  go_enter Try.func131, Try.ntmps131
  go_wp2_with fail
  refine (eidNone_any _).mono ?_
  rintro e w1 ⟨rfl, hb1⟩
  have HE1 : Hid (Ext w w1) := HE3.out.trans hb1
  have HQ1 := hid (HQ.out.ext hb1)
  clear hb1
  obtain ⟨r0, r1, r2, r3⟩ : w1.cell? ⟨w.heap.size + 1, 0, none⟩ = some (.int .i64 0) ∧ w1.cell? ⟨w.heap.size + 1, 1, none⟩ = some (str []) ∧ w1.cell? ⟨w.heap.size + 1, 2, none⟩ = some (.int .u64 0) ∧ w1.cell? ⟨w.heap.size + 1, 3, none⟩ = some (.int .u64 0) := ⟨HQ1.out.cell 0, HQ1.out.cell 1, HQ1.out.cell 2, HQ1.out.cell 3⟩
  have f0 := Blk.frozen HQ1.out 0
  have f1 := Blk.frozen HQ1.out 1
  have f2 := Blk.frozen HQ1.out 2
  have f3 := Blk.frozen HQ1.out 3
  go_wp2_with fail
  have B4 := (((HQ1.out.set_ 0 (.int .i64 1)).set_ 1 (str [110, 111, 110, 101])).set_ 2 (.int .u64 0)).set_ 3 (.int .u64 0)
  obtain ⟨d0, d1, d2, d3⟩ := And.intro (B4.cell 0) (And.intro (B4.cell 1) (And.intro (B4.cell 2) (B4.cell 3)))
  simp only [List.setIfInBounds_toArray, List.set_cons_zero, List.set_cons_succ, List.getElem?_toArray, List.getElem?_cons_zero, List.getElem?_cons_succ] at d0 d1 d2 d3
  clear r0 r1 r2 r3 f0 f1 f2 f3
  refine bodyPost_ret (v := .agg #[.int .i64 1, str [110, 111, 110, 101], .int .u64 0, .int .u64 0]) (by simp [results, Try.results131, go_sem, d0, d1, d2, d3]) rfl (Ret.mk rfl ((((HE1.out.setCell (.inr (by show w.heap.size ≤ w.heap.size + 1; omega)) _).setCell (.inr (by show w.heap.size ≤ w.heap.size + 1; omega)) _).setCell (.inr (by show w.heap.size ≤ w.heap.size + 1; omega)) _).setCell (.inr (by show w.heap.size ≤ w.heap.size + 1; omega)) _))
set_option maxRecDepth 20000 in
set_option maxHeartbeats 800000 in
theorem eread_8 (n : Nat) (s : List UInt8) (op : Bool) (ch : Nat → T) (b o c : Nat) (A0 A1 : Option Addr) (c0 c1 : Nat) (hk0 : (ch 0).kind = 0) (hn0 : (ch 0).n ≠ 1) (hn2 : (ch 0).n ≠ 2) (w : World) (hb : b < w.heap.size) (h0 : At5 w b o (ch 0) A0 c0) (h1 : At5 w b (o + 5) (ch 1) A1 c1) : Calls Try.prog 131 #[.agg #[.int .i64 4, .int .u64 (n : Int), str s, .slice (some ⟨b, o, none⟩) 2 c, .bool op]] w (Ret noneE.v w) := by
  have HE := hid (((Mod.refl [] w).alloc (.cells #[.int .i64 4, .int .u64 (n : Int), str s, .slice (some ⟨b, o, none⟩) 2 c, .bool op] 48)).alloc (.cells #[.int .i64 0, .string ⟨#[]⟩, .int .u64 0, .int .u64 0] 24))
  obtain ⟨x0, x1, x2, x3, x4⟩ := h0.mod HE.out hb (by simp)
  obtain ⟨y0, y1, y2, y3, y4⟩ := h1.mod HE.out hb (by simp)
  rw [hk0] at x0
  have n1 : (((ch 0).n : Int) == 1) = false := by simp; omega
  have n2 : (((ch 0).n : Int) = 1) = False := by simp; omega
  have n3 : (((ch 0).n : Int) == 2) = false := by simp; omega
  have n4 : (((ch 0).n : Int) = 2) = False := by simp; omega
  have HE3 := hid (HE.out.alloc (.cells #[.int .i64 (ch 1).kind, .int .u64 ((ch 1).n : Int), str (ch 1).s, .slice A1 (ch 1).k c1, .bool (ch 1).op] 48))
  have gx1 : (((w.alloc (.cells #[.int .i64 4, .int .u64 (n : Int), str s, .slice (some ⟨b, o, none⟩) 2 c, .bool op] 48)).alloc (.cells #[.int .i64 0, .string ⟨#[]⟩, .int .u64 0, .int .u64 0] 24)).alloc (.cells #[.int .i64 (ch 1).kind, .int .u64 ((ch 1).n : Int), str (ch 1).s, .slice A1 (ch 1).k c1, .bool (ch 1).op] 48)).cell? ⟨b, o + 1, none⟩ = some (.int .u64 ((ch 0).n : Int)) := by have := (h0.mod HE3.out hb (by simp)).2.1; exact this
  clear hk0 hn0 hn2 h0 h1
  have HQ := hid ((Blk.new' (w.alloc (.cells #[.int .i64 4, .int .u64 (n : Int), str s, .slice (some ⟨b, o, none⟩) 2 c, .bool op] 48)) 24 #[.int .i64 0, .string ⟨#[]⟩, .int .u64 0, .int .u64 0] (N := w.heap.size + 1) (by simp)).alloc (.cells #[.int .i64 (ch 1).kind, .int .u64 ((ch 1).n : Int), str (ch 1).s, .slice A1 (ch 1).k c1, .bool (ch 1).op] 48))
  go_enter Try.func131, Try.ntmps131
  go_wp2_with fail
  refine (eidNone_any _).mono ?_
  rintro e w1 ⟨rfl, hb1⟩
  have HE1 : Hid (Ext w w1) := HE3.out.trans hb1
  have HQ1 := hid (HQ.out.ext hb1)
  clear hb1
  obtain ⟨r0, r1, r2, r3⟩ : w1.cell? ⟨w.heap.size + 1, 0, none⟩ = some (.int .i64 0) ∧ w1.cell? ⟨w.heap.size + 1, 1, none⟩ = some (str []) ∧ w1.cell? ⟨w.heap.size + 1, 2, none⟩ = some (.int .u64 0) ∧ w1.cell? ⟨w.heap.size + 1, 3, none⟩ = some (.int .u64 0) := ⟨HQ1.out.cell 0, HQ1.out.cell 1, HQ1.out.cell 2, HQ1.out.cell 3⟩
  have f0 := Blk.frozen HQ1.out 0
  have f1 := Blk.frozen HQ1.out 1
  have f2 := Blk.frozen HQ1.out 2
  have f3 := Blk.frozen HQ1.out 3
  go_wp2_with fail
  have B4 := (((HQ1.out.set_ 0 (.int .i64 1)).set_ 1 (str [110, 111, 110, 101])).set_ 2 (.int .u64 0)).set_ 3 (.int .u64 0)
  obtain ⟨d0, d1, d2, d3⟩ := And.intro (B4.cell 0) (And.intro (B4.cell 1) (And.intro (B4.cell 2) (B4.cell 3)))
  simp only [List.setIfInBounds_toArray, List.set_cons_zero, List.set_cons_succ, List.getElem?_toArray, List.getElem?_cons_zero, List.getElem?_cons_succ] at d0 d1 d2 d3
  clear r0 r1 r2 r3 f0 f1 f2 f3
  refine bodyPost_ret (v := .agg #[.int .i64 1, str [110, 111, 110, 101], .int .u64 0, .int .u64 0]) (by simp [results, Try.results131, go_sem, d0, d1, d2, d3]) rfl (Ret.mk rfl ((((HE1.out.setCell (.inr (by show w.heap.size ≤ w.heap.size + 1; omega)) _).setCell (.inr (by show w.heap.size ≤ w.heap.size + 1; omega)) _).setCell (.inr (by show w.heap.size ≤ w.heap.size + 1; omega)) _).setCell (.inr (by show w.heap.size ≤ w.heap.size + 1; omega)) _))
theorem eread_any (t : T) (ht : t ≠ T.nil) (A : Option Addr) (c : Nat) (w : World) (h : IsL w (fun _ => True) t A) : Calls Try.prog 131 #[itemV t A c] w (Ret (readE t).v w) := by
  by_cases h4 : t.kind = 4
  case neg =>
    have e : readE t = zeroE := by unfold readE; rw [if_pos (Or.inl h4)]
    rw [e]; exact eread_1 t A c h4 w
  obtain ⟨kind, n, s, op, k, ch, rfl⟩ : ∃ kind n s op k ch, t = T.mk kind n s op k ch := by cases t with | nil => exact absurd rfl ht | mk a b d e f g => exact ⟨a, b, d, e, f, g, rfl⟩
  have h4 : kind = 4 := h4
  subst h4
  by_cases hk : k = 2
  case neg =>
    have e : readE (T.mk 4 n s op k ch) = zeroE := by unfold readE; rw [if_pos (Or.inr (Or.inl (show (T.mk 4 n s op k ch).k ≠ 2 from hk)))]
    rw [e]; exact eread_2 n s op k A c hk w
  subst hk
  obtain ⟨b, o, ac, rfl, hb, _, hc⟩ := h.rows (by omega)
  obtain ⟨a0, i0⟩ := hc 0 (by omega)
  obtain ⟨a1, i1⟩ := hc 1 (by omega)
  have a0 : At5 w b o (ch 0) (ac 0).1 (ac 0).2 := by simpa using a0
  have a1 : At5 w b (o + 5) (ch 1) (ac 1).1 (ac 1).2 := by simpa using a1
  by_cases hk0 : (ch 0).kind = 0
  case neg =>
    have e : readE (T.mk 4 n s op 2 ch) = zeroE := by unfold readE; rw [if_pos (Or.inr (Or.inr (show ((T.mk 4 n s op 2 ch).ch 0).kind ≠ 0 from hk0)))]
    rw [e]; exact eread_3 n s op ch b o c _ _ _ _ hk0 w hb a0 a1
  have hz : ¬ ((T.mk 4 n s op 2 ch).kind ≠ 4 ∨ (T.mk 4 n s op 2 ch).k ≠ 2 ∨ ((T.mk 4 n s op 2 ch).ch 0).kind ≠ 0) := by
    rintro (h | h | h)
    · exact h rfl
    · exact h rfl
    · exact h hk0
  by_cases hn2 : (ch 0).n = 2
  · by_cases hk1 : (ch 1).k = 2
    · have e : readE (T.mk 4 n s op 2 ch) = ⟨2, [], ((ch 1).ch 0).n, ((ch 1).ch 1).n⟩ := by unfold readE; rw [if_neg hz, if_pos ⟨hn2, hk1⟩]; rfl
      rw [e]
      cases hc1 : ch 1 with
      | nil => rw [hc1] at hk1; cases hk1
      | mk k1 n1 s1 op1 kk ch1 =>
        rw [hc1] at i1 hk1
        have hkk : kk = 2 := hk1
        subst hkk
        obtain ⟨b1, o1, ac1, hA, hb1, _, hcc⟩ := i1.rows (by omega)
        obtain ⟨q0, _⟩ := hcc 0 (by omega)
        obtain ⟨q1, _⟩ := hcc 1 (by omega)
        have q0 : At5 w b1 o1 (ch1 0) (ac1 0).1 (ac1 0).2 := by simpa using q0
        have q1 : At5 w b1 (o1 + 5) (ch1 1) (ac1 1).1 (ac1 1).2 := by simpa using q1
        have h := eread_4 n s op ch b o c _ _ _ _ b1 o1 _ _ _ _ hk0 hn2 (by rw [hc1]; rfl) hA w hb a0 a1 hb1 (by rw [hc1]; exact q0) (by rw [hc1]; exact q1)
        rw [hc1] at h
        exact h
    · have e : readE (T.mk 4 n s op 2 ch) = noneE := by unfold readE; rw [if_neg hz, if_neg (fun h => hk1 h.2), if_neg (fun h => by have : (ch 0).n = 1 := h.1; omega)]
      rw [e]; exact eread_6 n s op ch b o c _ _ _ _ hk0 hn2 hk1 w hb a0 a1
  · by_cases hn1 : (ch 0).n = 1
    · by_cases hk1 : (ch 1).kind = 3
      · have e : readE (T.mk 4 n s op 2 ch) = ⟨1, (ch 1).s, 0, 0⟩ := by unfold readE; rw [if_neg hz, if_neg (fun h => hn2 h.1), if_pos ⟨hn1, hk1⟩]; rfl
        rw [e]; exact eread_5 n s op ch b o c _ _ _ _ hk0 hn1 hk1 w hb a0 a1
      · have e : readE (T.mk 4 n s op 2 ch) = noneE := by unfold readE; rw [if_neg hz, if_neg (fun h => hn2 h.1), if_neg (fun h => hk1 h.2)]
        rw [e]; exact eread_7 n s op ch b o c _ _ _ _ hk0 hn1 hk1 w hb a0 a1
    · have e : readE (T.mk 4 n s op 2 ch) = noneE := by unfold readE; rw [if_neg hz, if_neg (fun h => hn2 h.1), if_neg (fun h => hn1 h.1)]
      rw [e]; exact eread_8 n s op ch b o c _ _ _ _ hk0 hn1 hn2 w hb a0 a1
end Go.Proofs.Ytkeabdfgacicaaa


namespace Go.Proofs.Ytkeabdfgacicaaa
open Go.RowKit
set_option linter.unusedVariables false
set_option linter.unusedSimpArgs false

theorem readE_name {t : T} (hok : t.ok) : (readE t).name.length < 4611686018427387904 := by
  unfold readE
  split
  · simp [zeroE]
  · rename_i h
    split
    · simp
    · split
      · cases t with
        | nil => exact absurd hok T.not_nil
        | mk kind n s op k ch =>
          have hk : k = 2 := by
            by_cases hk : k = 2
            · exact hk
            · exact absurd (Or.inr (Or.inl hk)) h
          subst hk
          have h1 := hok.2.2.2.2 1 (by omega)
          show (ch 1).s.length < _
          cases hc : ch 1 with
          | nil => simp [T.s]
          | mk a b d e f g => rw [hc] at h1; exact h1.2.2.1
      · simp [noneE]
def ofB (t : T) : Bool := (readE t).ok && (t.right 8 && t.same (eidT (readE t)))

set_option maxRecDepth 20000 in
set_option maxHeartbeats 1600000 in
theorem eidOf_yes (t : T) (hok : t.ok) (ho : (readE t).ok = true) (hs : (t.right 8 && t.same (eidT (readE t))) = true) (A : Option Addr) (c : Nat) (w : World) (h : IsL w (fun _ => True) t A) : Calls Try.prog 114 #[itemV t A c] w (Ret (.tuple #[(readE t).v, .int .i64 0]) w) := by
  have K1 : Hid (∀ W, IsL W (fun _ => True) t A → Calls Try.prog 131 #[itemV t A c] W (Ret (readE t).v W)) := fun W hW => eread_any t (by rintro rfl; exact T.not_nil hok) A c W hW
  have H := hid h
  have K2 := hid (fun W => eidItem_ok (readE t) ho W)
  obtain ⟨g1, g2, _, _⟩ := eidT_ok ho
  have K3 : Hid (∀ (B : Option Addr) (W : World), IsL W (fun _ => True) t A → IsL W (fun _ => True) (eidT (readE t)) B → Calls Try.prog 52 #[itemV t A c, itemV (eidT (readE t)) B 2] W (Ret (.bool true) W)) := fun B W h1 h2 => by
    have := Same_any t (eidT (readE t)) hok g1 A B c 2 W h1 h2
    rw [g2 8 (by omega), Bool.and_true, hs] at this
    exact this
  clear g1 g2 ho h hok hs
  generalize eidT (readE t) = y at *
  generalize readE t = e at *
  have HE := hid (((Mod.refl [] w).alloc (.cells (itemC t A c) 48)).alloc (.cells #[.int .i64 0, .string ⟨#[]⟩, .int .u64 0, .int .u64 0] 24))
  have HX := hid ((Blk.new w 48 (itemC t A c)).alloc (.cells #[.int .i64 0, .string ⟨#[]⟩, .int .u64 0, .int .u64 0] 24))
  have HQ := hid (Blk.new' (w.alloc (.cells (itemC t A c) 48)) 24 #[.int .i64 0, .string ⟨#[]⟩, .int .u64 0, .int .u64 0] (N := w.heap.size + 1) (by simp))
  go_enter Try.func114, Try.ntmps114
  go_wp2_with fail
  refine (K1.out _ (H.out.ext HE.out)).mono ?_
  rintro e1 w1 ⟨rfl, hb1⟩
  have HE1 := hid ((HE.out.trans hb1).alloc (.cells e.c 24))
  have HX1 := hid ((HX.out.ext hb1).alloc (.cells e.c 24))
  have HQ1 := hid ((HQ.out.ext hb1).alloc (.cells e.c 24))
  have HV1 := hid (Blk.new w1 24 e.c)
  clear hb1
  go_wp2_with fail
  refine (K2.out _).mono ?_
  rintro e1 w2 ⟨B, rfl, hb2, hl2⟩
  have HE2 := hid ((HE1.out.trans hb2).alloc (.cells (itemC y B 2) 48))
  have HX2 := hid ((HX1.out.ext hb2).alloc (.cells (itemC y B 2) 48))
  have HQ2 := hid ((HQ1.out.ext hb2).alloc (.cells (itemC y B 2) 48))
  have HV2 := hid ((HV1.out.ext hb2).alloc (.cells (itemC y B 2) 48))
  have HY2 := hid (Blk.new w2 48 (itemC y B 2))
  have HL2 : Hid (IsL (w2.alloc (.cells (itemC y B 2) 48)) (fun _ => True) y B) := IsL.ext (IsL.weak (fun _ _ _ => trivial) _ hl2) ((Mod.refl _ _).alloc _)
  have H2 := hid ((H.out.ext HE2.out))
  clear hb2 hl2
  obtain ⟨q0, q1, q2, q3, q4⟩ := cells5 HX2.out
  go_wp2_with fail
  refine (K3.out B _ H2.out HL2.out).mono ?_
  rintro e1 w3 ⟨rfl, hb3⟩
  have HE3 := hid (HE2.out.trans hb3)
  have HQ3 := hid (HQ2.out.ext hb3)
  have HV3 := hid (HV2.out.ext hb3)
  clear hb3 q0 q1 q2 q3 q4
  obtain ⟨r0, r1, r2, r3⟩ : w3.cell? ⟨w.heap.size + 1, 0, none⟩ = some (.int .i64 0) ∧ w3.cell? ⟨w.heap.size + 1, 1, none⟩ = some (str []) ∧ w3.cell? ⟨w.heap.size + 1, 2, none⟩ = some (.int .u64 0) ∧ w3.cell? ⟨w.heap.size + 1, 3, none⟩ = some (.int .u64 0) := ⟨HQ3.out.cell 0, HQ3.out.cell 1, HQ3.out.cell 2, HQ3.out.cell 3⟩
  have f0 := Blk.frozen HQ3.out 0
  have f1 := Blk.frozen HQ3.out 1
  have f2 := Blk.frozen HQ3.out 2
  have f3 := Blk.frozen HQ3.out 3
  obtain ⟨v0, v1, v2, v3⟩ : w3.cell? ⟨w1.heap.size, 0, none⟩ = some (.int .i64 e.sch) ∧ w3.cell? ⟨w1.heap.size, 1, none⟩ = some (str e.name) ∧ w3.cell? ⟨w1.heap.size, 2, none⟩ = some (.int .u64 (e.node : Int)) ∧ w3.cell? ⟨w1.heap.size, 3, none⟩ = some (.int .u64 (e.svc : Int)) := ⟨HV3.out.cell 0, HV3.out.cell 1, HV3.out.cell 2, HV3.out.cell 3⟩
  go_wp2_with fail
  have B4 := (((HQ3.out.set_ 0 (.int .i64 e.sch)).set_ 1 (str e.name)).set_ 2 (.int .u64 (e.node : Int))).set_ 3 (.int .u64 (e.svc : Int))
  obtain ⟨d0, d1, d2, d3⟩ := And.intro (B4.cell 0) (And.intro (B4.cell 1) (And.intro (B4.cell 2) (B4.cell 3)))
  simp only [List.setIfInBounds_toArray, List.set_cons_zero, List.set_cons_succ, List.getElem?_toArray, List.getElem?_cons_zero, List.getElem?_cons_succ] at d0 d1 d2 d3
  clear r0 r1 r2 r3 f0 f1 f2 f3 v0 v1 v2 v3
  refine bodyPost_ret (v := .tuple #[e.v, .int .i64 0]) (by simp [results, Try.results114, go_sem, d0, d1, d2, d3]) rfl (Ret.mk rfl ((((HE3.out.setCell (.inr (by show w.heap.size ≤ w.heap.size + 1; omega)) _).setCell (.inr (by show w.heap.size ≤ w.heap.size + 1; omega)) _).setCell (.inr (by show w.heap.size ≤ w.heap.size + 1; omega)) _).setCell (.inr (by show w.heap.size ≤ w.heap.size + 1; omega)) _))
set_option maxRecDepth 20000 in
set_option maxHeartbeats 1600000 in
theorem eidOf_no (t : T) (hok : t.ok) (ho : (readE t).ok = true) (hs : (t.right 8 && t.same (eidT (readE t))) = false) (A : Option Addr) (c : Nat) (w : World) (h : IsL w (fun _ => True) t A) : Calls Try.prog 114 #[itemV t A c] w (Ret (.tuple #[zeroE.v, .int .i64 2]) w) := by
  have K1 : Hid (∀ W, IsL W (fun _ => True) t A → Calls Try.prog 131 #[itemV t A c] W (Ret (readE t).v W)) := fun W hW => eread_any t (by rintro rfl; exact T.not_nil hok) A c W hW
  have H := hid h
  have K2 := hid (fun W => eidItem_ok (readE t) ho W)
  obtain ⟨g1, g2, _, _⟩ := eidT_ok ho
  have K3 : Hid (∀ (B : Option Addr) (W : World), IsL W (fun _ => True) t A → IsL W (fun _ => True) (eidT (readE t)) B → Calls Try.prog 52 #[itemV t A c, itemV (eidT (readE t)) B 2] W (Ret (.bool false) W)) := fun B W h1 h2 => by
    have := Same_any t (eidT (readE t)) hok g1 A B c 2 W h1 h2
    rw [g2 8 (by omega), Bool.and_true, hs] at this
    exact this
  clear g1 g2 ho h hok hs
  generalize eidT (readE t) = y at *
  generalize readE t = e at *
  have HE := hid (((Mod.refl [] w).alloc (.cells (itemC t A c) 48)).alloc (.cells #[.int .i64 0, .string ⟨#[]⟩, .int .u64 0, .int .u64 0] 24))
  have HX := hid ((Blk.new w 48 (itemC t A c)).alloc (.cells #[.int .i64 0, .string ⟨#[]⟩, .int .u64 0, .int .u64 0] 24))
  have HQ := hid (Blk.new' (w.alloc (.cells (itemC t A c) 48)) 24 #[.int .i64 0, .string ⟨#[]⟩, .int .u64 0, .int .u64 0] (N := w.heap.size + 1) (by simp))
  go_enter Try.func114, Try.ntmps114
  go_wp2_with fail
  refine (K1.out _ (H.out.ext HE.out)).mono ?_
  rintro e1 w1 ⟨rfl, hb1⟩
  have HE1 := hid ((HE.out.trans hb1).alloc (.cells e.c 24))
  have HX1 := hid ((HX.out.ext hb1).alloc (.cells e.c 24))
  have HQ1 := hid ((HQ.out.ext hb1).alloc (.cells e.c 24))
  have HV1 := hid (Blk.new w1 24 e.c)
  clear hb1
  go_wp2_with fail
  refine (K2.out _).mono ?_
  rintro e1 w2 ⟨B, rfl, hb2, hl2⟩
  have HE2 := hid ((HE1.out.trans hb2).alloc (.cells (itemC y B 2) 48))
  have HX2 := hid ((HX1.out.ext hb2).alloc (.cells (itemC y B 2) 48))
  have HQ2 := hid ((HQ1.out.ext hb2).alloc (.cells (itemC y B 2) 48))
  have HV2 := hid ((HV1.out.ext hb2).alloc (.cells (itemC y B 2) 48))
  have HY2 := hid (Blk.new w2 48 (itemC y B 2))
  have HL2 : Hid (IsL (w2.alloc (.cells (itemC y B 2) 48)) (fun _ => True) y B) := IsL.ext (IsL.weak (fun _ _ _ => trivial) _ hl2) ((Mod.refl _ _).alloc _)
  have H2 := hid ((H.out.ext HE2.out))
  clear hb2 hl2
  obtain ⟨q0, q1, q2, q3, q4⟩ := cells5 HX2.out
  go_wp2_with fail
  refine (K3.out B _ H2.out HL2.out).mono ?_
  rintro e1 w3 ⟨rfl, hb3⟩
  have HE3 := hid (HE2.out.trans hb3)
  have HQ3 := hid (HQ2.out.ext hb3)
  have HV3 := hid (HV2.out.ext hb3)
  clear hb3 q0 q1 q2 q3 q4
  obtain ⟨r0, r1, r2, r3⟩ : w3.cell? ⟨w.heap.size + 1, 0, none⟩ = some (.int .i64 0) ∧ w3.cell? ⟨w.heap.size + 1, 1, none⟩ = some (str []) ∧ w3.cell? ⟨w.heap.size + 1, 2, none⟩ = some (.int .u64 0) ∧ w3.cell? ⟨w.heap.size + 1, 3, none⟩ = some (.int .u64 0) := ⟨HQ3.out.cell 0, HQ3.out.cell 1, HQ3.out.cell 2, HQ3.out.cell 3⟩
  have f0 := Blk.frozen HQ3.out 0
  have f1 := Blk.frozen HQ3.out 1
  have f2 := Blk.frozen HQ3.out 2
  have f3 := Blk.frozen HQ3.out 3
  go_wp2_with fail
  have B4 := (((HQ3.out.set_ 0 (.int .i64 0)).set_ 1 (str [])).set_ 2 (.int .u64 0)).set_ 3 (.int .u64 0)
  obtain ⟨d0, d1, d2, d3⟩ := And.intro (B4.cell 0) (And.intro (B4.cell 1) (And.intro (B4.cell 2) (B4.cell 3)))
  simp only [List.setIfInBounds_toArray, List.set_cons_zero, List.set_cons_succ, List.getElem?_toArray, List.getElem?_cons_zero, List.getElem?_cons_succ] at d0 d1 d2 d3
  clear r0 r1 r2 r3 f0 f1 f2 f3
  refine bodyPost_ret (v := .tuple #[.agg #[.int .i64 0, str [], .int .u64 0, .int .u64 0], .int .i64 2]) (by simp [results, Try.results114, go_sem, d0, d1, d2, d3]) rfl (Ret.mk rfl ((((HE3.out.setCell (.inr (by show w.heap.size ≤ w.heap.size + 1; omega)) _).setCell (.inr (by show w.heap.size ≤ w.heap.size + 1; omega)) _).setCell (.inr (by show w.heap.size ≤ w.heap.size + 1; omega)) _).setCell (.inr (by show w.heap.size ≤ w.heap.size + 1; omega)) _))
set_option maxRecDepth 20000 in
set_option maxHeartbeats 1600000 in
theorem eidOf_bad (t : T) (hok : t.ok) (ho : (readE t).ok = false) (A : Option Addr) (c : Nat) (w : World) (h : IsL w (fun _ => True) t A) : Calls Try.prog 114 #[itemV t A c] w (Ret (.tuple #[zeroE.v, .int .i64 2]) w) := by
  have K1 : Hid (∀ W, IsL W (fun _ => True) t A → Calls Try.prog 131 #[itemV t A c] W (Ret (readE t).v W)) := fun W hW => eread_any t (by rintro rfl; exact T.not_nil hok) A c W hW
  have H := hid h
  have hl := readE_name hok
  have K2 : Hid (∀ W, Calls Try.prog 94 #[(readE t).v] W (Ret (.tuple #[itemV (numT 0) none 0, .int .i64 1]) W)) := fun W => eidItem_bad _ _ _ _ hl ho W
  clear ho h hok hl
  generalize readE t = e at *
  have HE := hid (((Mod.refl [] w).alloc (.cells (itemC t A c) 48)).alloc (.cells #[.int .i64 0, .string ⟨#[]⟩, .int .u64 0, .int .u64 0] 24))
  have HX := hid ((Blk.new w 48 (itemC t A c)).alloc (.cells #[.int .i64 0, .string ⟨#[]⟩, .int .u64 0, .int .u64 0] 24))
  have HQ := hid (Blk.new' (w.alloc (.cells (itemC t A c) 48)) 24 #[.int .i64 0, .string ⟨#[]⟩, .int .u64 0, .int .u64 0] (N := w.heap.size + 1) (by simp))
  go_enter Try.func114, Try.ntmps114
  go_wp2_with fail
  refine (K1.out _ (H.out.ext HE.out)).mono ?_
  rintro e1 w1 ⟨rfl, hb1⟩
  have HE1 := hid ((HE.out.trans hb1).alloc (.cells e.c 24))
  have HX1 := hid ((HX.out.ext hb1).alloc (.cells e.c 24))
  have HQ1 := hid ((HQ.out.ext hb1).alloc (.cells e.c 24))
  have HV1 := hid (Blk.new w1 24 e.c)
  clear hb1
  go_wp2_with fail
  refine (K2.out _).mono ?_
  rintro e1 w3 ⟨rfl, hb3⟩
  have HE3 := hid ((HE1.out.trans hb3).alloc (.cells (itemC (numT 0) none 0) 48))
  have HQ3 := hid ((HQ1.out.ext hb3).alloc (.cells (itemC (numT 0) none 0) 48))
  clear hb3
  obtain ⟨r0, r1, r2, r3⟩ : (w3.alloc (.cells (itemC (numT 0) none 0) 48)).cell? ⟨w.heap.size + 1, 0, none⟩ = some (.int .i64 0) ∧ (w3.alloc (.cells (itemC (numT 0) none 0) 48)).cell? ⟨w.heap.size + 1, 1, none⟩ = some (str []) ∧ (w3.alloc (.cells (itemC (numT 0) none 0) 48)).cell? ⟨w.heap.size + 1, 2, none⟩ = some (.int .u64 0) ∧ (w3.alloc (.cells (itemC (numT 0) none 0) 48)).cell? ⟨w.heap.size + 1, 3, none⟩ = some (.int .u64 0) := ⟨HQ3.out.cell 0, HQ3.out.cell 1, HQ3.out.cell 2, HQ3.out.cell 3⟩
  have f0 := Blk.frozen HQ3.out 0
  have f1 := Blk.frozen HQ3.out 1
  have f2 := Blk.frozen HQ3.out 2
  have f3 := Blk.frozen HQ3.out 3
  go_wp2_with fail
  have B4 := (((HQ3.out.set_ 0 (.int .i64 0)).set_ 1 (str [])).set_ 2 (.int .u64 0)).set_ 3 (.int .u64 0)
  obtain ⟨d0, d1, d2, d3⟩ := And.intro (B4.cell 0) (And.intro (B4.cell 1) (And.intro (B4.cell 2) (B4.cell 3)))
  simp only [List.setIfInBounds_toArray, List.set_cons_zero, List.set_cons_succ, List.getElem?_toArray, List.getElem?_cons_zero, List.getElem?_cons_succ] at d0 d1 d2 d3
  clear r0 r1 r2 r3 f0 f1 f2 f3
  refine bodyPost_ret (v := .tuple #[.agg #[.int .i64 0, str [], .int .u64 0, .int .u64 0], .int .i64 2]) (by simp [results, Try.results114, go_sem, d0, d1, d2, d3]) rfl (Ret.mk rfl ((((HE3.out.setCell (.inr (by show w.heap.size ≤ w.heap.size + 1; omega)) _).setCell (.inr (by show w.heap.size ≤ w.heap.size + 1; omega)) _).setCell (.inr (by show w.heap.size ≤ w.heap.size + 1; omega)) _).setCell (.inr (by show w.heap.size ≤ w.heap.size + 1; omega)) _))
theorem eidOf_any (t : T) (hok : t.ok) (A : Option Addr) (c : Nat) (w : World) (h : IsL w (fun _ => True) t A) : Calls Try.prog 114 #[itemV t A c] w (Ret (.tuple #[(if ofB t then readE t else zeroE).v, .int .i64 (if ofB t then 0 else 2)]) w) := by
  by_cases ho : (readE t).ok = true
  · by_cases hs : (t.right 8 && t.same (eidT (readE t))) = true
    · have hb : ofB t = true := by unfold ofB; rw [ho, hs]; rfl
      rw [hb]; exact eidOf_yes t hok ho hs A c w h
    · have hs2 : (t.right 8 && t.same (eidT (readE t))) = false := by simpa using hs
      have hb : ofB t = false := by unfold ofB; rw [ho, hs2]; rfl
      rw [hb]; exact eidOf_no t hok ho hs2 A c w h
  · have ho2 : (readE t).ok = false := by simpa using ho
    have hb : ofB t = false := by unfold ofB; rw [ho2]; rfl
    rw [hb]; exact eidOf_bad t hok ho2 A c w h
end Go.Proofs.Ytkeabdfgacicaaa


namespace Go.Proofs.Ytkeabdfgacicaaa
open Go.RowKit
set_option linter.unusedVariables false
set_option linter.unusedSimpArgs false

theorem numT_facts (n : Nat) : (numT n).size ≤ 100000 ∧ (numT n).right 8 = true ∧ (numT n).bytes = headL 0 n := by
  refine ⟨by simp [numT, T.size, T.sum], by simp [numT, T.right, T.node, T.all], by simp [numT, T.bytes]⟩
def mayB (l c : Int) : Bool := decide (1 ≤ l) && decide (l ≤ 255) && decide (0 ≤ c) && decide (c ≤ 255)
def pairT2 (a b : Nat) : T := T.mk 4 0 [] false 2 fun i => if i = 0 then numT a else numT b
theorem pairT2_facts (a b : Nat) (ha : a < 18446744073709551616) (hb : b < 18446744073709551616) : (pairT2 a b).ok ∧ (pairT2 a b).size ≤ 100000 ∧ (pairT2 a b).right 8 = true ∧ (pairT2 a b).bytes = 130 :: (headL 0 a ++ headL 0 b) := by
  refine ⟨?_, by simp [pairT2, numT, T.size, T.sum], by simp [pairT2, numT, T.right, T.node, T.all], ?_⟩
  · unfold pairT2 T.ok
    exact ⟨by omega, by omega, by simp, by omega, fun i hi => by dsimp only; split; exact num_ok ha; exact num_ok hb⟩
  · have : headL 4 2 = [130] := by decide
    simp [pairT2, numT, T.bytes, T.cat, this]
end Go.Proofs.Ytkeabdfgacicaaa


namespace Go.Proofs.Ytkeabdfgacicaaa
open Go.RowKit
set_option linter.unusedVariables false
set_option linter.unusedSimpArgs false

end Go.Proofs.Ytkeabdfgacicaaa


namespace Go.Proofs.Ytkeabdfgacicaaa
open Go.RowKit
set_option linter.unusedVariables false
set_option linter.unusedSimpArgs false

theorem parse_back {x : T} (hx : x.right 8 = true) (hox : x.ok) : parseR x.bytes = (x.bytes.length, 0) := by
  have h := flt_bytes x 8 hx hox []
  rw [List.append_nil] at h
  unfold parseR
  rw [h]
  rw [if_neg (by rintro ⟨_, h⟩; exact Nat.lt_irrefl _ h)]
/-- A name's block's four cells, stored anew. -/
def set4 (W : World) (b : Nat) (e : EV) : World := (((W.setCell ⟨b, 0, none⟩ (.int .i64 e.sch)).setCell ⟨b, 1, none⟩ (str e.name)).setCell ⟨b, 2, none⟩ (.int .u64 (e.node : Int))).setCell ⟨b, 3, none⟩ (.int .u64 (e.svc : Int))
theorem set4_blk {W : World} {b : Nat} {e0 e : EV} (h : Blk W b 24 e0.c) : Blk (set4 W b e) b 24 e.c := by
  have := (((h.set_ 0 (.int .i64 e.sch)).set_ 1 (str e.name)).set_ 2 (.int .u64 (e.node : Int))).set_ 3 (.int .u64 (e.svc : Int))
  unfold set4
  simpa using this
theorem set4_mod {w W : World} {S : List Nat} {b : Nat} {e : EV} (h : Mod S w W) (hb : w.heap.size ≤ b) : Mod S w (set4 W b e) := (((h.setCell (.inr hb) _).setCell (.inr hb) _).setCell (.inr hb) _).setCell (.inr hb) _
theorem cells4 {W : World} {b : Nat} {e : EV} (h : Blk W b 24 e.c) : W.cell? ⟨b, 0, none⟩ = some (.int .i64 e.sch) ∧ W.cell? ⟨b, 1, none⟩ = some (str e.name) ∧ W.cell? ⟨b, 2, none⟩ = some (.int .u64 (e.node : Int)) ∧ W.cell? ⟨b, 3, none⟩ = some (.int .u64 (e.svc : Int)) := ⟨h.cell 0, h.cell 1, h.cell 2, h.cell 3⟩
/-- A right item's bytes, parsed: the same item. -/
theorem parse_same {x : T} (hx : x.right 8 = true) (hxp : x.plain = true) (hox : x.ok) (hl : x.bytes.length ≤ 1073741824) (w : World) : Calls Try.prog 21 #[str x.bytes] w (fun e w' => ∃ t A c, e = .returned (.tuple #[itemV t A c, .int .i64 (-1), .int .i64 0]) ∧ Ext w w' ∧ t.right 8 = true ∧ t.ok ∧ t.same x = true ∧ x.same t = true ∧ IsL w' (fun _ => True) t A) := by
  refine (parse_any x.bytes hl w).mono fun e w' ⟨hb, h⟩ => ?_
  have h0 : (parseR x.bytes).2 = 0 := by rw [parse_back hx hox]
  rcases h with ⟨h1, _⟩ | ⟨_, t, A, c, he, ⟨hr, hok⟩, hbt, hl⟩
  · exact absurd h0 h1
  · have hp : t.plain = true := by have := hr; rw [T.right_eq, Bool.and_eq_true] at this; exact this.2
    have e1 := (T.bytes_inj t x hp hxp hok hox [] [] (by rw [hbt])).1
    have e2 := (T.bytes_inj x t hxp hp hox hok [] [] (by rw [hbt])).1
    exact ⟨t, A, c, he, hb, hr, hok, e1, e2, hl⟩
theorem same_mk {t : T} {kind : Int} {n : Nat} {s : List UInt8} {op : Bool} {k : Nat} {ch : Nat → T} (h : (T.mk kind n s op k ch).same t = true) : t.kind = kind ∧ t.n = n ∧ t.s = s ∧ t.op = op ∧ t.k = k ∧ ∀ i, i < k → (ch i).same (t.ch i) = true := by
  unfold T.same at h
  simp only [Bool.and_eq_true, beq_iff_eq] at h
  obtain ⟨⟨⟨⟨⟨h1, h2⟩, h3⟩, h4⟩, h5⟩, h6⟩ := h
  exact ⟨h1.symm, h2.symm, h3.symm, h4.symm, h5.symm, T.all_iff.1 h6⟩
theorem readE_same {e : EV} (ho : e.ok = true) {t : T} (h : (eidT e).same t = true) : readE t = e := by
  rcases EV.ok_cases ho with rfl | ⟨name, rfl, hn, hl⟩ | ⟨node, svc, rfl, ha, hb⟩
  · obtain ⟨h1, h2, h3, h4, h5, h6⟩ := same_mk h
    have g0 := same_mk (h6 0 (by omega))
    have g1 : (numT 0).same (t.ch 1) = true := h6 1 (by omega)
    have g1 := same_mk g1
    have z : ¬ (t.kind ≠ 4 ∨ t.k ≠ 2 ∨ (t.ch 0).kind ≠ 0) := by rw [h1, h5, g0.1]; decide
    have z2 : ¬ ((t.ch 0).n = 2 ∧ (t.ch 1).k = 2) := by rintro ⟨h, _⟩; rw [g0.2.1] at h; revert h; decide
    have z3 : ¬ ((t.ch 0).n = 1 ∧ (t.ch 1).kind = 3) := by rintro ⟨_, h⟩; rw [g1.1] at h; revert h; decide
    unfold readE
    rw [if_neg z, if_neg z2, if_neg z3]
    rfl
  · have h0 : ¬ name = noneL := hn
    have e1 : eidT ⟨1, name, 0, 0⟩ = T.mk 4 0 [] false 2 fun i => if i = 0 then numT 1 else textT name := by simp [eidT, twoT, h0]
    rw [e1] at h
    obtain ⟨h1, h2, h3, h4, h5, h6⟩ := same_mk h
    have g0 := same_mk (h6 0 (by omega))
    have g1 : (textT name).same (t.ch 1) = true := h6 1 (by omega)
    have g1 := same_mk g1
    have z : ¬ (t.kind ≠ 4 ∨ t.k ≠ 2 ∨ (t.ch 0).kind ≠ 0) := by rw [h1, h5, g0.1]; decide
    have z2 : ¬ ((t.ch 0).n = 2 ∧ (t.ch 1).k = 2) := by rintro ⟨h, _⟩; rw [g0.2.1] at h; revert h; decide
    have z3 : (t.ch 0).n = 1 ∧ (t.ch 1).kind = 3 := by rw [g0.2.1, g1.1]; decide
    unfold readE
    rw [if_neg z, if_neg z2, if_pos z3, g1.2.2.1]
  · obtain ⟨h1, h2, h3, h4, h5, h6⟩ := same_mk h
    have g0 := same_mk (h6 0 (by omega))
    have g1 : (T.mk 4 0 [] false 2 (fun j => if j = 0 then numT node else numT svc)).same (t.ch 1) = true := h6 1 (by omega)
    have g1 := same_mk g1
    have k0 : (numT node).same ((t.ch 1).ch 0) = true := g1.2.2.2.2.2 0 (by omega)
    have k1 : (numT svc).same ((t.ch 1).ch 1) = true := g1.2.2.2.2.2 1 (by omega)
    have k0 := same_mk k0
    have k1 := same_mk k1
    have z : ¬ (t.kind ≠ 4 ∨ t.k ≠ 2 ∨ (t.ch 0).kind ≠ 0) := by rw [h1, h5, g0.1]; decide
    have z2 : (t.ch 0).n = 2 ∧ (t.ch 1).k = 2 := ⟨g0.2.1, g1.2.2.2.2.1⟩
    unfold readE
    rw [if_neg z, if_pos z2, k0.2.1, k1.2.1]
end Go.Proofs.Ytkeabdfgacicaaa


namespace Go.Proofs.Ytkeabdfgacicaaa
open Go.RowKit
set_option linter.unusedVariables false
set_option linter.unusedSimpArgs false

theorem numT_plain (n : Nat) : (numT n).plain = true ∧ (numT n).bytes.length ≤ 9 := by
  have := headL_le 0 n
  exact ⟨by simp [numT, T.plain, T.node, T.all], by simpa [numT, T.bytes] using this⟩
end Go.Proofs.Ytkeabdfgacicaaa


namespace Go.Proofs.Ytkeabdfgacicaaa
open Go.RowKit
set_option linter.unusedVariables false
set_option linter.unusedSimpArgs false

theorem pairT2_plain (l k : Nat) : (pairT2 l k).plain = true ∧ (pairT2 l k).size ≤ 100 := by
  exact ⟨by simp [pairT2, numT, T.plain, T.node, T.all], by simp [pairT2, numT, T.size, T.sum]⟩
end Go.Proofs.Ytkeabdfgacicaaa


namespace Go.Proofs.Ytkeabdfgacicaaa
open Go.RowKit
set_option linter.unusedVariables false
set_option linter.unusedSimpArgs false

theorem T.plain_of {t : T} {d : Nat} (h : t.right d = true) : t.plain = true := by
  rw [T.right_eq, Bool.and_eq_true] at h; exact h.2
theorem bytes_same {a b : T} (ha : a.plain = true) (hb : b.plain = true) (oa : a.ok) (ob : b.ok) (h : a.bytes = b.bytes) : a.same b = true := (T.bytes_inj a b ha hb oa ob [] [] (by rw [h])).1

def isPrev (s : List UInt8) (e : EV) : Prop := e.ok = true ∧ (eidT e).bytes = s
def isAge (s : List UInt8) (n : Nat) : Prop := n ≤ 1099511627776 ∧ headL 0 n = s
def isHops (s : List UInt8) (h : Nat × Nat) : Prop := mayB h.1 h.2 = true ∧ 130 :: (headL 0 h.1 ++ headL 0 h.2) = s

open Classical in
noncomputable def theO {α : Type} (P : α → Prop) : Option α := if h : ∃ e, P e then some h.choose else none
theorem theO_some {α : Type} {P : α → Prop} (u : ∀ x y, P x → P y → x = y) {x : α} (h : P x) : theO P = some x := by
  unfold theO
  have hx : ∃ e, P e := ⟨x, h⟩
  rw [dif_pos hx, u _ _ hx.choose_spec h]
theorem theO_none {α : Type} {P : α → Prop} (h : ∀ x, ¬ P x) : theO P = none := by
  unfold theO
  rw [dif_neg (by rintro ⟨x, hx⟩; exact h x hx)]
noncomputable def prevO (s : List UInt8) : Option EV := theO (isPrev s)
noncomputable def ageO (s : List UInt8) : Option Nat := theO (isAge s)
noncomputable def hopsO (s : List UInt8) : Option (Nat × Nat) := theO (isHops s)
def PTree (l : List UInt8) : Prop := (parseR l).2 = 0 → ∃ t : T, t.right 8 = true ∧ t.ok ∧ t.bytes = l

/-- Of a right tree the name that it may be. -/
theorem prev_tree {t : T} (hr : t.right 8 = true) (hok : t.ok) {e : EV} (h : isPrev t.bytes e) : readE t = e ∧ ofB t = true := by
  obtain ⟨g1, g2, g3, g4⟩ := eidT_ok h.1
  have p := T.plain_of hr
  have s1 := bytes_same g3 p g1 hok h.2
  have s2 := bytes_same p g3 hok g1 h.2.symm
  have e1 := readE_same h.1 s1
  refine ⟨e1, ?_⟩
  unfold ofB
  rw [e1, h.1, hr, s2]; rfl
theorem tree_prev {t : T} (hr : t.right 8 = true) (hok : t.ok) (h : ofB t = true) : isPrev t.bytes (readE t) := by
  unfold ofB at h
  rw [hr] at h
  simp only [Bool.and_eq_true, Bool.true_and] at h
  obtain ⟨g1, g2, g3, g4⟩ := eidT_ok h.1
  exact ⟨h.1, (T.same_bytes t _ g1 h.2).symm⟩
theorem isPrev_inj {s : List UInt8} (x y : EV) (hx : isPrev s x) (hy : isPrev s y) : x = y := by
  obtain ⟨g1, g2, g3, g4⟩ := eidT_ok hx.1
  have h1 := readE_same hx.1 (T.same_refl (eidT x))
  have h2 : isPrev (eidT x).bytes y := by rw [hx.2]; exact hy
  rw [← h1, (prev_tree (g2 8 (by omega)) g1 h2).1]
theorem prevO_bad {s : List UInt8} (h : (parseR s).2 ≠ 0) : prevO s = none := theO_none fun e he => h (by
  obtain ⟨g1, g2, g3, g4⟩ := eidT_ok he.1
  rw [← he.2, parse_back (g2 8 (by omega)) g1])
theorem prevO_tree {t : T} (hr : t.right 8 = true) (hok : t.ok) : prevO t.bytes = if ofB t then some (readE t) else none := by
  by_cases h : ofB t = true
  · rw [if_pos h]; exact theO_some isPrev_inj (tree_prev hr hok h)
  · rw [if_neg h]; exact theO_none fun e he => h (prev_tree hr hok he).2

theorem isAge_inj {s : List UInt8} (x y : Nat) (hx : isAge s x) (hy : isAge s y) : x = y := by
  have e : (numT x).bytes = (numT y).bytes := by rw [(numT_facts x).2.2, (numT_facts y).2.2, hx.2, hy.2]
  have := bytes_same (numT_plain x).1 (numT_plain y).1 (num_ok (by have := hx.1; omega)) (num_ok (by have := hy.1; omega)) e
  exact (same_mk this).2.1.symm
theorem ageO_bad {s : List UInt8} (h : (parseR s).2 ≠ 0) : ageO s = none := theO_none fun n hn => h (by
  rw [← hn.2, ← (numT_facts n).2.2, parse_back (numT_facts n).2.1 (num_ok (by have := hn.1; omega))])
def ageB (t : T) : Bool := decide (t.kind = 0) && decide (t.n ≤ 1099511627776)
theorem ageO_tree {t : T} (hr : t.right 8 = true) (hok : t.ok) : ageO t.bytes = if ageB t then some t.n else none := by
  have p := T.plain_of hr
  by_cases h : ageB t = true
  · rw [if_pos h]
    simp only [ageB, Bool.and_eq_true, decide_eq_true_eq] at h
    refine theO_some isAge_inj ⟨h.2, ?_⟩
    cases t with
    | nil => exact absurd hok T.not_nil
    | mk kind n s op k ch =>
      have hk : kind = 0 := h.1
      subst hk
      rfl
  · rw [if_neg h]
    refine theO_none fun n hn => h ?_
    have := bytes_same (numT_plain n).1 p (num_ok (by have := hn.1; omega)) hok (by rw [(numT_facts n).2.2, hn.2])
    have g := same_mk this
    simp only [ageB, Bool.and_eq_true, decide_eq_true_eq]
    exact ⟨g.1, by rw [g.2.1]; exact hn.1⟩

theorem may_le {h : Nat × Nat} (hm : mayB h.1 h.2 = true) : h.1 ≤ 255 ∧ h.2 ≤ 255 := by simp [mayB] at hm; omega
theorem isHops_inj {s : List UInt8} (x y : Nat × Nat) (hx : isHops s x) (hy : isHops s y) : x = y := by
  have bx := may_le hx.1
  have by_ := may_le hy.1
  have fx := pairT2_facts x.1 x.2 (by omega) (by omega)
  have fy := pairT2_facts y.1 y.2 (by omega) (by omega)
  have e : (pairT2 x.1 x.2).bytes = (pairT2 y.1 y.2).bytes := by rw [fx.2.2.2, fy.2.2.2, hx.2, hy.2]
  have := same_mk (bytes_same (pairT2_plain x.1 x.2).1 (pairT2_plain y.1 y.2).1 fx.1 fy.1 e)
  have a := same_mk (this.2.2.2.2.2 0 (by omega))
  have b : (numT x.2).same (numT y.2) = true := this.2.2.2.2.2 1 (by omega)
  have b := same_mk b
  exact Prod.ext a.2.1.symm b.2.1.symm
theorem hopsO_bad {s : List UInt8} (h : (parseR s).2 ≠ 0) : hopsO s = none := theO_none fun n hn => h (by
  have b := may_le hn.1
  have f := pairT2_facts n.1 n.2 (by omega) (by omega)
  rw [← hn.2, ← f.2.2.2, parse_back f.2.2.1 f.1])
def hopsB (t : T) : Bool := decide (t.kind = 4) && !t.op && decide (t.k = 2) && decide ((t.ch 0).kind = 0) && decide ((t.ch 1).kind = 0) && mayB (t.ch 0).n (t.ch 1).n
theorem hopsO_tree {t : T} (hr : t.right 8 = true) (hok : t.ok) : hopsO t.bytes = if hopsB t then some ((t.ch 0).n, (t.ch 1).n) else none := by
  have p := T.plain_of hr
  by_cases h : hopsB t = true
  · rw [if_pos h]
    simp only [hopsB, Bool.and_eq_true, decide_eq_true_eq, Bool.not_eq_true'] at h
    obtain ⟨⟨⟨⟨⟨h1, h2⟩, h3⟩, h4⟩, h5⟩, h6⟩ := h
    refine theO_some isHops_inj ⟨h6, ?_⟩
    cases t with
    | nil => exact absurd hok T.not_nil
    | mk kind n s op k ch =>
      have hk : kind = 4 := h1
      have ho : op = false := h2
      have hk2 : k = 2 := h3
      subst hk ho hk2
      have h4 : (ch 0).kind = 0 := h4
      have h5 : (ch 1).kind = 0 := h5
      have c0 : (ch 0).bytes = headL 0 (ch 0).n := by
        have : (ch 0).ok := hok.2.2.2.2 0 (by omega)
        revert this h4
        cases ch 0 with
        | nil => exact fun _ h => absurd h T.not_nil
        | mk kind n s op k ch => intro h4 _; have hk : kind = 0 := h4; subst hk; rfl
      have c1 : (ch 1).bytes = headL 0 (ch 1).n := by
        have : (ch 1).ok := hok.2.2.2.2 1 (by omega)
        revert this h5
        cases ch 1 with
        | nil => exact fun _ h => absurd h T.not_nil
        | mk kind n s op k ch => intro h4 _; have hk : kind = 0 := h4; subst hk; rfl
      show 130 :: (headL 0 (ch 0).n ++ headL 0 (ch 1).n) = _
      rw [← c0, ← c1]
      simp [T.bytes, T.cat, headL]
      rfl
  · rw [if_neg h]
    refine theO_none fun n hn => h ?_
    have b := may_le hn.1
    have f := pairT2_facts n.1 n.2 (by omega) (by omega)
    have g := same_mk (bytes_same (pairT2_plain n.1 n.2).1 p f.1 hok (f.2.2.2.trans hn.2))
    have a := same_mk (g.2.2.2.2.2 0 (by omega))
    have b : (numT n.2).same (t.ch 1) = true := g.2.2.2.2.2 1 (by omega)
    have b := same_mk b
    have hm := hn.1
    rw [← a.2.1, ← b.2.1] at hm
    simp only [hopsB, Bool.and_eq_true, decide_eq_true_eq, Bool.not_eq_true']
    exact ⟨⟨⟨⟨⟨g.1, g.2.2.2.1⟩, g.2.2.2.2.1⟩, a.1⟩, b.1⟩, hm⟩
end Go.Proofs.Ytkeabdfgacicaaa


namespace Go.Proofs.Ytkeabdfgacicaaa
open Go.RowKit
set_option linter.unusedVariables false
set_option linter.unusedSimpArgs false

/-- An array of these items. -/
def listT (L : List T) : T := T.mk 4 0 [] false L.length fun i => (L[i]?).getD T.nil
theorem catR_list (g : T → List UInt8) : ∀ L : List T, T.catR (fun i => g ((L[i]?).getD T.nil)) L.length = (L.map g).flatten
  | [] => rfl
  | x :: L => by
    rw [List.length_cons, T.catR, List.map_cons, List.flatten_cons, ← catR_list g L]
    rfl
theorem listT_bytes (L : List T) : (listT L).bytes = headL 4 L.length ++ (L.map T.bytes).flatten := by
  unfold listT
  rw [T.bytes, if_neg (by decide), if_neg (by decide), T.cat_eq, catR_list]
  simp
theorem getD_mem {L : List T} {i : Nat} (h : i < L.length) : (L[i]?).getD T.nil ∈ L := by
  rw [List.getElem?_eq_getElem h]; exact List.getElem_mem h
theorem listT_ok {L : List T} (hl : L.length < 4611686018427387904) (h : ∀ t ∈ L, t.ok) : (listT L).ok := by
  unfold listT T.ok
  exact ⟨by omega, by omega, by simp, hl, fun i hi => h _ (getD_mem hi)⟩
theorem listT_right {L : List T} {d : Nat} (hd : 1 ≤ d) (hl : L.length ≤ 1000) (h : ∀ t ∈ L, t.right (d - 1) = true) : (listT L).right d = true := by
  unfold listT T.right
  rw [if_neg (by omega), Bool.and_eq_true, T.all_iff]
  refine ⟨?_, fun i hi => h _ (getD_mem hi)⟩
  simp [T.node, hl]
theorem sum_le_each {f : Nat → Nat} {B k : Nat} (h : ∀ i, i < k → f i ≤ B) : T.sum f k ≤ k * B := by
  induction k with
  | zero => simp [T.sum]
  | succ k ih =>
    have := ih (fun i hi => h i (by omega))
    have := h k (by omega)
    rw [T.sum, Nat.succ_mul]; omega
theorem listT_size {L : List T} {B : Nat} (h : ∀ t ∈ L, t.size ≤ B) : (listT L).size ≤ 1 + L.length * B := by
  unfold listT T.size
  have := sum_le_each (f := fun i => ((L[i]?).getD T.nil).size) (B := B) (k := L.length) (fun i hi => h _ (getD_mem hi))
  simp; omega
theorem numT_all (n : Nat) (h : n < 18446744073709551616) : (numT n).ok ∧ (∀ d, 1 ≤ d → (numT n).right d = true) ∧ (numT n).size ≤ 100 ∧ (numT n).bytes = headL 0 n := by
  refine ⟨num_ok h, fun d hd => ?_, by simp [numT, T.size, T.sum], rfl⟩
  unfold numT T.right
  rw [if_neg (by omega)]
  simp [T.node, T.all]
theorem strT_all {s : List UInt8} (h : s.length ≤ 90) : (strT s).ok ∧ (∀ d, 1 ≤ d → (strT s).right d = true) ∧ (strT s).size ≤ 100 ∧ (strT s).bytes = headL 2 s.length ++ s := by
  refine ⟨str_ok (by omega), fun d hd => ?_, ?_, rfl⟩
  · unfold strT T.right
    rw [if_neg (by omega)]
    simp [T.node, T.all]
  · simp [strT, T.size, T.sum]; omega
theorem eidT_small {e : EV} (ho : e.ok = true) : (eidT e).size ≤ 100 := by
  rcases EV.ok_cases ho with rfl | ⟨name, rfl, hn, hl⟩ | ⟨node, svc, rfl, ha, hb⟩
  · decide
  · have h0 : ¬ name = noneL := hn
    have e1 : twoT ⟨1, name, 0, 0⟩ = textT name := by simp [twoT, h0]
    simp [eidT, e1, T.size, T.sum, numT, textT]; omega
  · simp [eidT, twoT, T.size, T.sum, numT]

/- A primary. -/
def PV.ranged (p : PV) : Bool := p.d.ok && (p.s.ok && (p.r.ok && decide (0 ≤ p.crc ∧ p.crc ≤ 2 ∧ p.fl < 2097152 ∧ p.t ≤ 1099511627776 ∧ p.q ≤ 1099511627776 ∧ p.l ≤ 1099511627776 ∧ p.o ≤ 1099511627776 ∧ p.n ≤ 1099511627776)))
def PV.none (p : PV) : Prop := p.s.sch = 1 ∧ p.s.name = noneL
instance (p : PV) : Decidable p.none := by unfold PV.none; infer_instance
def PV.right (p : PV) : Int :=
  if p.ranged = false then 1
  else if (p.fl % 2 = 1 ∧ (p.fl / 4 % 2 = 1 ∨ p.n ≤ p.o)) ∨ (¬ p.fl % 2 = 1 ∧ (0 < p.o ∨ 0 < p.n)) then 8
  else if ((p.fl / 16384 % 2 = 1 ∨ p.fl / 262144 % 2 = 1) ∧ (p.none ∨ p.fl / 2 % 2 = 1)) ∨ (p.none ∧ ¬ p.fl / 4 % 2 = 1) then 8
  else 0
theorem PV.ranged_spec {p : PV} (h : p.ranged = true) : p.d.ok = true ∧ p.s.ok = true ∧ p.r.ok = true ∧ 0 ≤ p.crc ∧ p.crc ≤ 2 ∧ p.fl < 2097152 ∧ p.t ≤ 1099511627776 ∧ p.q ≤ 1099511627776 ∧ p.l ≤ 1099511627776 ∧ p.o ≤ 1099511627776 ∧ p.n ≤ 1099511627776 := by
  unfold PV.ranged at h
  simp only [Bool.and_eq_true, decide_eq_true_eq] at h
  exact ⟨h.1, h.2.1, h.2.2.1, h.2.2.2⟩
theorem PV.right_ranged {p : PV} (h : p.right = 0) : p.ranged = true := by
  unfold PV.right at h
  cases hr : p.ranged with
  | true => rfl
  | false => rw [hr, if_pos rfl] at h; exact absurd h (by decide)
/-- Its items, with a sum. -/
def priL (p : PV) (k : Nat) (sum : List UInt8) : List T :=
  [numT 7, numT p.fl, numT k, eidT p.d, eidT p.s, eidT p.r, listT [numT p.t, numT p.q], numT p.l] ++ ((if p.fl % 2 = 1 then [numT p.o, numT p.n] else []) ++ (if k = 0 then [] else [strT sum]))
def priT (p : PV) (k : Nat) (sum : List UInt8) : T := listT (priL p k sum)
def priN (p : PV) (k : Nat) : Nat := 8 + ((if p.fl % 2 = 1 then 2 else 0) + (if k = 0 then 0 else 1))
theorem priL_length (p : PV) (k : Nat) (sum : List UInt8) : (priL p k sum).length = priN p k := by
  unfold priL priN
  split <;> split <;> simp
/-- Its bytes, with a sum. -/
def priB (p : PV) (k : Nat) (sum : List UInt8) : List UInt8 :=
  headL 4 (priN p k) ++ (headL 0 7 ++ (headL 0 p.fl ++ (headL 0 k ++ ((eidT p.d).bytes ++ ((eidT p.s).bytes ++ ((eidT p.r).bytes ++ (headL 4 2 ++ (headL 0 p.t ++ (headL 0 p.q ++ (headL 0 p.l ++
  ((if p.fl % 2 = 1 then headL 0 p.o ++ headL 0 p.n else []) ++ (if k = 0 then [] else headL 2 sum.length ++ sum))))))))))))
theorem priT_bytes (p : PV) (k : Nat) (sum : List UInt8) : (priT p k sum).bytes = priB p k sum := by
  unfold priT
  rw [listT_bytes, priL_length]
  unfold priL priB
  have e : (listT [numT p.t, numT p.q]).bytes = headL 4 2 ++ (headL 0 p.t ++ headL 0 p.q) := by
    rw [listT_bytes]; simp [show ∀ n, (numT n).bytes = headL 0 n from fun n => rfl]
  by_cases h1 : p.fl % 2 = 1 <;> by_cases h2 : k = 0 <;>
    simp [h1, h2, e, show ∀ n, (numT n).bytes = headL 0 n from fun n => rfl, show ∀ s, (strT s).bytes = headL 2 s.length ++ s from fun s => rfl]
theorem priT_all {p : PV} (h : p.ranged = true) {k : Nat} (hk : k ≤ 2) {sum : List UInt8} (hs : sum.length ≤ 90) : (priT p k sum).ok ∧ (∀ d, 4 ≤ d → (priT p k sum).right d = true) ∧ (priT p k sum).size ≤ 4000 := by
  obtain ⟨h1, h2, h3, h4, h5, h6, h7, h8, h9, h10, h11⟩ := PV.ranged_spec h
  have hm : ∀ t ∈ priL p k sum, t.ok ∧ (∀ d, 3 ≤ d → t.right d = true) ∧ t.size ≤ 350 := by
    intro t ht
    have num : ∀ n, n < 18446744073709551616 → (numT n).ok ∧ (∀ d, 3 ≤ d → (numT n).right d = true) ∧ (numT n).size ≤ 350 := fun n hn => by
      obtain ⟨a, b, c, _⟩ := numT_all n hn
      exact ⟨a, fun d hd => b d (by omega), by omega⟩
    have eid : ∀ e : EV, e.ok = true → (eidT e).ok ∧ (∀ d, 3 ≤ d → (eidT e).right d = true) ∧ (eidT e).size ≤ 350 := fun e he => by
      obtain ⟨a, b, _, _⟩ := eidT_ok he
      exact ⟨a, b, by have := eidT_small he; omega⟩
    unfold priL at ht
    rw [List.mem_append, List.mem_append] at ht
    rcases ht with ht | ht | ht
    · simp only [List.mem_cons, List.not_mem_nil, or_false] at ht
      rcases ht with rfl | rfl | rfl | rfl | rfl | rfl | rfl | rfl
      · exact num 7 (by decide)
      · exact num _ (by omega)
      · exact num _ (by omega)
      · exact eid _ h1
      · exact eid _ h2
      · exact eid _ h3
      · have a := numT_all p.t (by omega)
        have b := numT_all p.q (by omega)
        refine ⟨listT_ok (by simp) ?_, fun d hd => listT_right (by omega) (by simp) ?_, ?_⟩
        · intro t ht
          simp only [List.mem_cons, List.not_mem_nil, or_false] at ht
          rcases ht with rfl | rfl
          · exact a.1
          · exact b.1
        · intro t ht
          simp only [List.mem_cons, List.not_mem_nil, or_false] at ht
          rcases ht with rfl | rfl
          · exact a.2.1 _ (by omega)
          · exact b.2.1 _ (by omega)
        · have := listT_size (L := [numT p.t, numT p.q]) (B := 100) (by
            intro t ht
            simp only [List.mem_cons, List.not_mem_nil, or_false] at ht
            rcases ht with rfl | rfl
            · exact a.2.2.1
            · exact b.2.2.1)
          simp at this
          omega
      · exact num _ (by omega)
    · split at ht
      · simp only [List.mem_cons, List.not_mem_nil, or_false] at ht
        rcases ht with rfl | rfl
        · exact num _ (by omega)
        · exact num _ (by omega)
      · cases ht
    · split at ht
      · cases ht
      · simp only [List.mem_cons, List.not_mem_nil, or_false] at ht
        subst ht
        obtain ⟨a, b, c, _⟩ := strT_all hs
        exact ⟨a, fun d hd => b d (by omega), by omega⟩
  have hl : (priL p k sum).length ≤ 11 := by rw [priL_length]; unfold priN; split <;> split <;> omega
  refine ⟨listT_ok (by omega) fun t ht => (hm t ht).1, fun d hd => listT_right (by omega) (by omega) fun t ht => (hm t ht).2.1 _ (by omega), ?_⟩
  have := listT_size (L := priL p k sum) (B := 350) fun t ht => (hm t ht).2.2
  have h2 : (priL p k sum).length * 350 ≤ 11 * 350 := Nat.mul_le_mul_right _ hl
  show (listT (priL p k sum)).size ≤ 4000
  omega
/-- A number's bytes, as the first is the greatest. -/
def PV.sumK (f : Nat → List UInt8 → List UInt8) (p : PV) (k : Nat) : List UInt8 := if k = 0 then [] else f k (priB p k (List.replicate (2 * k) 0))
end Go.Proofs.Ytkeabdfgacicaaa


namespace Go.Proofs.Ytkeabdfgacicaaa
open Go.RowKit
set_option linter.unusedVariables false
set_option linter.unusedSimpArgs false

def zeroB : BV := ⟨0, 0, 0, 0, []⟩
abbrev PV.c (p : PV) : Array Value := #[.int .u64 (p.fl : Int), .int .i64 p.crc, .int .i64 p.d.sch, str p.d.name, .int .u64 (p.d.node : Int), .int .u64 (p.d.svc : Int), .int .i64 p.s.sch, str p.s.name, .int .u64 (p.s.node : Int), .int .u64 (p.s.svc : Int), .int .i64 p.r.sch, str p.r.name, .int .u64 (p.r.node : Int), .int .u64 (p.r.svc : Int), .int .u64 (p.t : Int), .int .u64 (p.q : Int), .int .u64 (p.l : Int), .int .u64 (p.o : Int), .int .u64 (p.n : Int)]
abbrev PV.v (p : PV) : Value := .agg p.c
abbrev bunC (p : PV) (A : Option Addr) (k c : Nat) : Array Value := #[.int .u64 (p.fl : Int), .int .i64 p.crc, .int .i64 p.d.sch, str p.d.name, .int .u64 (p.d.node : Int), .int .u64 (p.d.svc : Int), .int .i64 p.s.sch, str p.s.name, .int .u64 (p.s.node : Int), .int .u64 (p.s.svc : Int), .int .i64 p.r.sch, str p.r.name, .int .u64 (p.r.node : Int), .int .u64 (p.r.svc : Int), .int .u64 (p.t : Int), .int .u64 (p.q : Int), .int .u64 (p.l : Int), .int .u64 (p.o : Int), .int .u64 (p.n : Int), .slice A k c]
abbrev bunV (p : PV) (A : Option Addr) (k c : Nat) : Value := .agg (bunC p A k c)
/-- A block's five cells in the midst of a memory block. -/
def BAt (w : World) (b o : Nat) (x : BV) : Prop :=
  w.cell? ⟨b, o, none⟩ = some (.int .i64 x.ty) ∧ w.cell? ⟨b, o + 1, none⟩ = some (.int .i64 x.num) ∧ w.cell? ⟨b, o + 2, none⟩ = some (.int .u64 (x.fl : Int)) ∧ w.cell? ⟨b, o + 3, none⟩ = some (.int .i64 x.crc) ∧ w.cell? ⟨b, o + 4, none⟩ = some (str x.data)
/-- k blocks lie in memory. -/
def BsL (w : World) (A : Option Addr) (k : Nat) (bs : Nat → BV) : Prop := 0 < k → ∃ b o, A = some ⟨b, o, none⟩ ∧ b < w.heap.size ∧ ∀ i, i < k → BAt w b (o + i * 5) (bs i)
theorem BAt.mod {w w' : World} {S : List Nat} {b o : Nat} {x : BV} (h : BAt w b o x) (hm : Mod S w w') (hb : b < w.heap.size) (hs : b ∉ S) : BAt w' b o x := by
  obtain ⟨h0, h1, h2, h3, h4⟩ := h
  exact ⟨(hm.cell hb hs).trans h0, (hm.cell hb hs).trans h1, (hm.cell hb hs).trans h2, (hm.cell hb hs).trans h3, (hm.cell hb hs).trans h4⟩
theorem BsL.ext {w w' : World} {A : Option Addr} {k : Nat} {bs : Nat → BV} (h : BsL w A k bs) (hm : Ext w w') : BsL w' A k bs := fun hk => by
  obtain ⟨b, o, hA, hb, hc⟩ := h hk
  exact ⟨b, o, hA, Nat.lt_of_lt_of_le hb hm.size, fun i hi => (hc i hi).mod hm hb (by simp)⟩
/-- A block's cells, whatever later world. -/
theorem BsL.cells {V : World} {A : Option Addr} {k : Nat} {bs : Nat → BV} (h : BsL V A k bs) {i : Nat} (hi : i < k) : ∃ b o, A = some ⟨b, o, none⟩ ∧ b < V.heap.size ∧
    (∀ e : Later V, e.x.cell? ⟨b, o + i * 5, none⟩ = some (.int .i64 (bs i).ty)) ∧ (∀ e : Later V, e.x.cell? ⟨b, o + i * 5 + 1, none⟩ = some (.int .i64 (bs i).num)) ∧ (∀ e : Later V, e.x.cell? ⟨b, o + i * 5 + 2, none⟩ = some (.int .u64 ((bs i).fl : Int))) ∧
    (∀ e : Later V, e.x.cell? ⟨b, o + i * 5 + 3, none⟩ = some (.int .i64 (bs i).crc)) ∧ (∀ e : Later V, e.x.cell? ⟨b, o + i * 5 + 4, none⟩ = some (str (bs i).data)) := by
  obtain ⟨b, o, hA, hb, hc⟩ := h (by omega)
  obtain ⟨h0, h1, h2, h3, h4⟩ := hc i hi
  exact ⟨b, o, hA, hb, cellL h0, cellL h1, cellL h2, cellL h3, cellL h4⟩
end Go.Proofs.Ytkeabdfgacicaaa
