/-
  Reports: what is read of an item.
  Data of blocks: a name, a number, hops; made by the code.
  What the laws of the layer wake the program by.
  The plain law of a reader: its state, and what each call makes of it. No program in sight.
  The walks of package cbor's reading functions: join, fail.
-/
import Derived.Test.YtogjghmoankleaaGreatMReportNeverg
import Derived.Lib.Strings

namespace Go.Proofs.YtogjghmoankleaaGreat
open Go.RowKit
set_option linter.unusedVariables false
set_option linter.unusedSimpArgs false

def nameT (t : T) : EV := if ofB t then readE t else zeroE
/-- What read reads. -/
def readRep (x : T) : RV :=
  let body := partT x 1
  let both := partT body 0
  let whn := partT body 3
  ⟨decide ((partT both 0).n = 1), decide ((partT both 1).n = 1), min ((partT body 1).n : Int) 65536, ⟨nameT (partT body 2), (partT whn 0).n, (partT whn 1).n, decide (body.k = 6), (partT body 4).n, (partT body 5).n⟩⟩
/-- The report behind i of the four numbers. -/
def stepRV (r : RV) (T Q O M : Nat) : Nat → RV
  | 0 => r
  | 1 => { r with of := { r.of with t := T } }
  | 2 => { r with of := { r.of with t := T, q := Q } }
  | 3 => { r with of := { r.of with t := T, q := Q, o := O } }
  | _ => { r with of := { r.of with t := T, q := Q, o := O, n := M } }
theorem T.k_lt {t : T} (h : t.ok) : t.k < 4611686018427387904 := by
  cases t with
  | nil => decide
  | mk kd n s op k ch => unfold T.ok at h; exact h.2.2.2.1
set_option maxRecDepth 20000 in
set_option maxHeartbeats 8000000 in
theorem rread_any (t : T) (hok : t.ok) (A : Option Addr) (c : Nat) (w : World) (h : IsL w (fun _ => True) t A) : Calls Tryz.prog 26 #[itemV t A c] w (Ret (repV (readRep t)) w) := by
  have h := IsL.weak (R := fun b => b < w.heap.size) (fun b hb _ => hb) _ h
  have HE := hid (((Mod.refl [] w).alloc (.cells (itemC t A c) 64)).alloc (.cells #[.bool false, .bool false, .int .i64 0, .int .i64 0, .string ⟨#[]⟩, .int .u64 0, .int .u64 0, .int .u64 0, .int .u64 0, .bool false, .int .u64 0, .int .u64 0] 29))
  have HB0 := hid ((Blk.new w 64 (itemC t A c)).alloc (.cells #[.bool false, .bool false, .int .i64 0, .int .i64 0, .string ⟨#[]⟩, .int .u64 0, .int .u64 0, .int .u64 0, .int .u64 0, .bool false, .int .u64 0, .int .u64 0] 29))
  have HB1 : Hid (Blk ((w.alloc (.cells (itemC t A c) 64)).alloc (.cells #[.bool false, .bool false, .int .i64 0, .int .i64 0, .string ⟨#[]⟩, .int .u64 0, .int .u64 0, .int .u64 0, .int .u64 0, .bool false, .int .u64 0, .int .u64 0] 29)) (w.heap.size + 1) 29 #[.bool false, .bool false, .int .i64 0, .int .i64 0, .string ⟨#[]⟩, .int .u64 0, .int .u64 0, .int .u64 0, .int .u64 0, .bool false, .int .u64 0, .int .u64 0]) := Blk.newL _ _ _ (by simp)
  have HL := hid (h.ext HE.out)
  have KX := hid (fun W hW => part_any t 1 (by decide) (T.k_lt hok) (fun b => b < w.heap.size) A c W hW)
  have hok1 := partT_ok hok 1
  generalize hBd : partT t 1 = B at *
  have HBd := hid hBd
  clear hBd h
  go_enter Tryz.func26, Tryz.ntmps26
  go_upto_region 1 with fail
  show Code.wp _ _ _ _ ((w.alloc (.cells (itemC t A c) 64)).alloc (.cells #[.bool false, .bool false, .int .i64 0, .int .i64 0, .string ⟨#[]⟩, .int .u64 0, .int .u64 0, .int .u64 0, .int .u64 0, .bool false, .int .u64 0, .int .u64 0] 29))
  generalize hV0 : (w.alloc (.cells (itemC t A c) 64)).alloc (.cells #[.bool false, .bool false, .int .i64 0, .int .i64 0, .string ⟨#[]⟩, .int .u64 0, .int .u64 0, .int .u64 0, .int .u64 0, .bool false, .int .u64 0, .int .u64 0] 29) = V0 at *
  have HS0 : Hid (V0.heap.size = w.heap.size + 2) := hid (by rw [← hV0]; simp)
  clear hV0
  go_upto_region 2 with fail
  show Code.wp _ _ _ _ (V0.alloc (.cells #[.bool false, .bool false, .int .i64 0, .int .i64 0, .string ⟨#[]⟩, .int .u64 0, .int .u64 0, .int .u64 0, .int .u64 0, .bool false, .int .u64 0, .int .u64 0] 29))
  have HB0 := hid (HB0.out.alloc (.cells #[.bool false, .bool false, .int .i64 0, .int .i64 0, .string ⟨#[]⟩, .int .u64 0, .int .u64 0, .int .u64 0, .int .u64 0, .bool false, .int .u64 0, .int .u64 0] 29))
  have HB1 := hid (HB1.out.alloc (.cells #[.bool false, .bool false, .int .i64 0, .int .i64 0, .string ⟨#[]⟩, .int .u64 0, .int .u64 0, .int .u64 0, .int .u64 0, .bool false, .int .u64 0, .int .u64 0] 29))
  have HB2 := hid (Blk.new V0 29 #[.bool false, .bool false, .int .i64 0, .int .i64 0, .string ⟨#[]⟩, .int .u64 0, .int .u64 0, .int .u64 0, .int .u64 0, .bool false, .int .u64 0, .int .u64 0])
  have HE := hid (HE.out.alloc (.cells #[.bool false, .bool false, .int .i64 0, .int .i64 0, .string ⟨#[]⟩, .int .u64 0, .int .u64 0, .int .u64 0, .int .u64 0, .bool false, .int .u64 0, .int .u64 0] 29))
  have HL := hid (HL.out.ext ((Mod.refl [] V0).alloc (.cells #[.bool false, .bool false, .int .i64 0, .int .i64 0, .string ⟨#[]⟩, .int .u64 0, .int .u64 0, .int .u64 0, .int .u64 0, .bool false, .int .u64 0, .int .u64 0] 29)))
  rw [HS0.out] at HB2
  rw [HS0.out]
  generalize hV : V0.alloc (.cells #[.bool false, .bool false, .int .i64 0, .int .i64 0, .string ⟨#[]⟩, .int .u64 0, .int .u64 0, .int .u64 0, .int .u64 0, .bool false, .int .u64 0, .int .u64 0] 29) = V at *
  have HS : Hid (V.heap.size = w.heap.size + 3) := hid (by rw [← hV]; simp; exact HS0.out)
  clear hV HS0
  have HBL : Hid (∀ e : Later V, Blk e.x w.heap.size 64 (itemC t A c)) := hid (fun e => HB0.out.later e)
  obtain ⟨e, he⟩ := Later.self V
  rw [he]
  clear he
  have tk1 : True := trivial
  go_upto_region 3 with (first | (clear tk1; refine wpList_row (by rfl) 64 _ rfl _ rfl (HBL.out _) Tryz.underlying64 rfl (by kernel_rfl) ?_) | (go_at_call 42; refine (KX.out _ (HL.out.ext e.h)).mono ?_; rintro x w1 ⟨Ab, kb, rfl, hb, hi⟩; have HX1 := hid (e.h.trans hb); have HI1 := hid hi; clear hb hi))
  generalize hV2 : w1.alloc _ = W2
  have HX2 : Hid (Ext V W2) := hid (by rw [← hV2]; exact HX1.out.alloc _)
  have HB4 : Hid (Blk W2 w1.heap.size 64 (itemC B Ab kb)) := hid (by rw [← hV2]; exact Blk.new _ _ _)
  have HLB : Hid (∀ W, Ext W2 W → IsL W (fun b => b < w.heap.size) B Ab) := hid (fun W hW => (by rw [← hV2] at hW; exact IsL.ext (HI1.out.ext ((Mod.refl [] w1).alloc _)) hW))
  have HN4 : Hid (V.heap.size ≤ w1.heap.size ∧ w1.heap.size < W2.heap.size ∧ V.heap.size ≤ W2.heap.size) := hid ⟨HX1.out.size, HB4.out.lt, HX2.out.size⟩
  have HN2 : Hid (w.heap.size + 3 ≤ W2.heap.size) := hid (by have := HN4.out.2.2; have := HS.out; omega)
  clear hV2 HX1 HI1 KX HL HBL e
  generalize w1.heap.size = n4 at *
  have KP : Hid (∀ i, i < 1000 → ∀ W, IsL W (fun b => b < w.heap.size) B Ab → _) := hid (fun i hi W hW => part_any B i hi (T.k_lt hok1) (fun b => b < w.heap.size) Ab kb W hW)
  go_cut [5, 6] (fun s5 s6 wx => ∃ n5 n6 A1 k1 A3 k3, s5 = .pointer (some ⟨n5, 0, none⟩) ∧ s6 = .pointer (some ⟨n6, 0, none⟩) ∧ Hid (Ext W2 wx ∧ Blk wx n5 64 (itemC (partT B 0) A1 k1) ∧ Blk wx n6 64 (itemC (partT B 3) A3 k3) ∧ W2.heap.size ≤ n5 ∧ W2.heap.size ≤ n6 ∧ n5 ≠ n6 ∧ IsL wx (fun b => b < w.heap.size) (partT B 0) A1 ∧ IsL wx (fun b => b < w.heap.size) (partT B 3) A3))
  case first =>
    refine wp_region_held_drew (S := fun w' => Ext W2 w') (by kernel_rfl) (Mod.refl _ _).drew (fun hHeld => ?_)
    generalize W2.drew = u0 at *
    refine wpAnyH_take (i := 0) rfl (by kernel_rfl) (by kernel_rfl) (by kernel_rfl) (fun _ _ _ h => h) (yieldsIf_row (by rfl) 64 _ rfl _ rfl (fun W hM => HB4.out.ext hM) Tryz.underlying64 rfl (by kernel_rfl)) hHeld ?_
    (try simp only [Act.put, List.getElem_toArray, List.getElem_cons_zero, List.getElem_cons_succ, List.setIfInBounds_toArray, List.set_cons_zero, List.set_cons_succ])
    refine wpAnyH_take (i := 2) rfl (by kernel_rfl) (by kernel_rfl) (by kernel_rfl) (fun _ _ _ h => h) (yieldsIf_row (by rfl) 64 _ rfl _ rfl (fun W hM => HB4.out.ext hM) Tryz.underlying64 rfl (by kernel_rfl)) hHeld ?_
    (try simp only [Act.put, List.getElem_toArray, List.getElem_cons_zero, List.getElem_cons_succ, List.setIfInBounds_toArray, List.set_cons_zero, List.set_cons_succ])
    refine wpAnyH_ready (rs := [1, 4, 5]) (by kernel_rfl) (by simp) ?_
    refine AllReadyH.cons rfl (fun K hK => ?_) (AllReadyH.cons rfl (fun K hK => ?_) (AllReadyH.cons rfl (fun K hK => ?_) AllReadyH.nil))
    · go_simp
      go_at_call 42
      refine (KP.out 0 (by decide) _ (HLB.out _ hHeld)).mono ?_
      rintro x u1 ⟨A1, k1, rfl, hb, hi⟩
      have HI1 := hi
      clear hi
      
      refine hK.out _ _ (hHeld.trans hb) (fun hHeld => ?_)
      clear hK K
      (try simp only [Act.put, List.getElem_toArray, List.getElem_cons_zero, List.getElem_cons_succ, List.setIfInBounds_toArray, List.set_cons_zero, List.set_cons_succ])
      refine wpAnyH_ready (rs := [3, 4, 5]) (by kernel_rfl) (by simp) ?_
      refine AllReadyH.cons rfl (fun K hK => ?_) (AllReadyH.cons rfl (fun K hK => ?_) (AllReadyH.cons rfl (fun K hK => ?_) AllReadyH.nil))
      · go_simp
        go_at_call 42
        refine (KP.out 3 (by decide) _ (HLB.out _ hHeld)).mono ?_
        rintro x u2 ⟨A3, k3, rfl, hb, hi⟩
        have HI3 := hi
        clear hi
        have HI1 := HI1.ext hb
        
        refine hK.out _ _ (hHeld.trans hb) (fun hHeld => ?_)
        clear hK K
        (try simp only [Act.put, List.getElem_toArray, List.getElem_cons_zero, List.getElem_cons_succ, List.setIfInBounds_toArray, List.set_cons_zero, List.set_cons_succ])
        refine wpAnyH_ready (rs := [4, 5]) (by kernel_rfl) (by simp) ?_
        refine AllReadyH.cons rfl (fun K hK => ?_) (AllReadyH.cons rfl (fun K hK => ?_) AllReadyH.nil)
        · go_simp
          generalize hV : World.alloc u2 _ = u3
          have HB5 : Blk u3 u2.heap.size 64 #[.int .i64 0, .int .u64 0, .string ⟨#[]⟩, .slice none 0 0, .bool false] := by rw [← hV]; exact Blk.new _ _ _
          have hXX : Ext u2 u3 := by rw [← hV]; exact (Mod.refl [] _).alloc _
          have HB5_n : W2.heap.size ≤ u2.heap.size := hHeld.size
          clear hV
          have HI1 := HI1.ext hXX
          have HI3 := HI3.ext hXX
          refine hK.out _ _ (hHeld.trans hXX) (fun hHeld => ?_)
          clear hK K
          (try simp only [Act.put, List.getElem_toArray, List.getElem_cons_zero, List.getElem_cons_succ, List.setIfInBounds_toArray, List.set_cons_zero, List.set_cons_succ])
          generalize hnn : u2.heap.size = n5 at *
          clear hnn
          refine wpAnyH_ready (rs := [5]) (by kernel_rfl) (by simp) ?_
          refine AllReadyH.cons rfl (fun K hK => ?_) AllReadyH.nil
          have hlt56 : n5 < u3.heap.size := HB5.lt
          go_simp
          generalize hV : World.alloc u3 _ = u4
          have HB6 : Blk u4 u3.heap.size 64 #[.int .i64 0, .int .u64 0, .string ⟨#[]⟩, .slice none 0 0, .bool false] := by rw [← hV]; exact Blk.new _ _ _
          have hXX : Ext u3 u4 := by rw [← hV]; exact (Mod.refl [] _).alloc _
          have HB6_n : W2.heap.size ≤ u3.heap.size := hHeld.size
          clear hV
          have HI1 := HI1.ext hXX
          have HI3 := HI3.ext hXX
          have HB5 := HB5.ext hXX
          refine hK.out _ _ (hHeld.trans hXX) (fun hHeld => ?_)
          clear hK K
          (try simp only [Act.put, List.getElem_toArray, List.getElem_cons_zero, List.getElem_cons_succ, List.setIfInBounds_toArray, List.set_cons_zero, List.set_cons_succ])
          generalize hnn : u3.heap.size = n6 at *
          clear hnn
          have n56 : n5 ≠ n6 := Nat.ne_of_lt hlt56
          refine wpAnyH_ready (rs := [6]) (by kernel_rfl) (by simp) ?_
          refine AllReadyH.cons rfl (fun K hK => ?_) AllReadyH.nil
          refine wp_store_mid 64 _ _ rfl n5 0 #[.int .i64 (partT B 0).kind, .int .u64 ((partT B 0).n : Int), str (partT B 0).s, .slice A1 (partT B 0).k k1, .bool (partT B 0).op] (by rfl) (by rfl) (HB5.there (Nat.le_refl 5)) (by kernel_rfl) (by simp [Value.oneCell']) ?_
          have hZB := setCells_all (ds := #[.int .i64 (partT B 0).kind, .int .u64 ((partT B 0).n : Int), str (partT B 0).s, .slice A1 (partT B 0).k k1, .bool (partT B 0).op]) HB5 rfl
          have hZM := setCells_mod (b := n5) (#[.int .i64 (partT B 0).kind, .int .u64 ((partT B 0).n : Int), str (partT B 0).s, .slice A1 (partT B 0).k k1, .bool (partT B 0).op] : Array Value).toList 0 hHeld (.inr HB5_n)
          have hZO := setCells_mod (w := u4) (W := u4) (S := [n5]) (b := n5) (#[.int .i64 (partT B 0).kind, .int .u64 ((partT B 0).n : Int), str (partT B 0).s, .slice A1 (partT B 0).k k1, .bool (partT B 0).op] : Array Value).toList 0 (Mod.refl _ _) (.inl (by simp))
          generalize hZ : World.setCells _ n5 0 _ = y1 at *
          clear hZ
          have HB6 := HB6.mod hZO (by simpa using n56.symm)
          have HI1 := IsL.mod hZO (fun b hb _ => by have hb : b < w.heap.size := hb; have := HN2.out; have := HB5_n; simp; omega) _ HI1
          have HI3 := IsL.mod hZO (fun b hb _ => by have hb : b < w.heap.size := hb; have := HN2.out; have := HB5_n; simp; omega) _ HI3
          have HB5 := hZB
          refine hK.out _ _ hZM (fun hHeld => ?_)
          clear hK K hZB hZM hZO
          (try simp only [Act.put, List.getElem_toArray, List.getElem_cons_zero, List.getElem_cons_succ, List.setIfInBounds_toArray, List.set_cons_zero, List.set_cons_succ])
          refine wpAnyH_ready (rs := [7]) (by kernel_rfl) (by simp) ?_
          refine AllReadyH.cons rfl (fun K hK => ?_) AllReadyH.nil
          refine wp_store_mid 64 _ _ rfl n6 0 #[.int .i64 (partT B 3).kind, .int .u64 ((partT B 3).n : Int), str (partT B 3).s, .slice A3 (partT B 3).k k3, .bool (partT B 3).op] (by rfl) (by rfl) (HB6.there (Nat.le_refl 5)) (by kernel_rfl) (by simp [Value.oneCell']) ?_
          have hZB := setCells_all (ds := #[.int .i64 (partT B 3).kind, .int .u64 ((partT B 3).n : Int), str (partT B 3).s, .slice A3 (partT B 3).k k3, .bool (partT B 3).op]) HB6 rfl
          have hZM := setCells_mod (b := n6) (#[.int .i64 (partT B 3).kind, .int .u64 ((partT B 3).n : Int), str (partT B 3).s, .slice A3 (partT B 3).k k3, .bool (partT B 3).op] : Array Value).toList 0 hHeld (.inr HB6_n)
          have hZO := setCells_mod (w := y1) (W := y1) (S := [n6]) (b := n6) (#[.int .i64 (partT B 3).kind, .int .u64 ((partT B 3).n : Int), str (partT B 3).s, .slice A3 (partT B 3).k k3, .bool (partT B 3).op] : Array Value).toList 0 (Mod.refl _ _) (.inl (by simp))
          generalize hZ : World.setCells _ n6 0 _ = y2 at *
          clear hZ
          have HB5 := HB5.mod hZO (by simpa using n56)
          have HI1 := IsL.mod hZO (fun b hb _ => by have hb : b < w.heap.size := hb; have := HN2.out; have := HB6_n; simp; omega) _ HI1
          have HI3 := IsL.mod hZO (fun b hb _ => by have hb : b < w.heap.size := hb; have := HN2.out; have := HB6_n; simp; omega) _ HI3
          have HB6 := hZB
          refine hK.out _ _ hZM (fun hHeld => ?_)
          clear hK K hZB hZM hZO
          (try simp only [Act.put, List.getElem_toArray, List.getElem_cons_zero, List.getElem_cons_succ, List.setIfInBounds_toArray, List.set_cons_zero, List.set_cons_succ])
          refine wpAnyH_done (by kernel_rfl) ?_ _
          go_wp2_with fail
          go_meet
          exact ⟨n5, n6, A1, k1, A3, k3, rfl, rfl, hid ⟨hHeld, HB5, HB6, HB5_n, HB6_n, n56, HI1, HI3⟩⟩
        · go_simp
          generalize hV : World.alloc u2 _ = u3
          have HB6 : Blk u3 u2.heap.size 64 #[.int .i64 0, .int .u64 0, .string ⟨#[]⟩, .slice none 0 0, .bool false] := by rw [← hV]; exact Blk.new _ _ _
          have hXX : Ext u2 u3 := by rw [← hV]; exact (Mod.refl [] _).alloc _
          have HB6_n : W2.heap.size ≤ u2.heap.size := hHeld.size
          clear hV
          have HI1 := HI1.ext hXX
          have HI3 := HI3.ext hXX
          refine hK.out _ _ (hHeld.trans hXX) (fun hHeld => ?_)
          clear hK K
          (try simp only [Act.put, List.getElem_toArray, List.getElem_cons_zero, List.getElem_cons_succ, List.setIfInBounds_toArray, List.set_cons_zero, List.set_cons_succ])
          generalize hnn : u2.heap.size = n6 at *
          clear hnn
          refine wpAnyH_ready (rs := [4]) (by kernel_rfl) (by simp) ?_
          refine AllReadyH.cons rfl (fun K hK => ?_) AllReadyH.nil
          have hlt56 : n6 < u3.heap.size := HB6.lt
          go_simp
          generalize hV : World.alloc u3 _ = u4
          have HB5 : Blk u4 u3.heap.size 64 #[.int .i64 0, .int .u64 0, .string ⟨#[]⟩, .slice none 0 0, .bool false] := by rw [← hV]; exact Blk.new _ _ _
          have hXX : Ext u3 u4 := by rw [← hV]; exact (Mod.refl [] _).alloc _
          have HB5_n : W2.heap.size ≤ u3.heap.size := hHeld.size
          clear hV
          have HI1 := HI1.ext hXX
          have HI3 := HI3.ext hXX
          have HB6 := HB6.ext hXX
          refine hK.out _ _ (hHeld.trans hXX) (fun hHeld => ?_)
          clear hK K
          (try simp only [Act.put, List.getElem_toArray, List.getElem_cons_zero, List.getElem_cons_succ, List.setIfInBounds_toArray, List.set_cons_zero, List.set_cons_succ])
          generalize hnn : u3.heap.size = n5 at *
          clear hnn
          have n56 : n5 ≠ n6 := Nat.ne_of_gt hlt56
          refine wpAnyH_ready (rs := [6]) (by kernel_rfl) (by simp) ?_
          refine AllReadyH.cons rfl (fun K hK => ?_) AllReadyH.nil
          refine wp_store_mid 64 _ _ rfl n5 0 #[.int .i64 (partT B 0).kind, .int .u64 ((partT B 0).n : Int), str (partT B 0).s, .slice A1 (partT B 0).k k1, .bool (partT B 0).op] (by rfl) (by rfl) (HB5.there (Nat.le_refl 5)) (by kernel_rfl) (by simp [Value.oneCell']) ?_
          have hZB := setCells_all (ds := #[.int .i64 (partT B 0).kind, .int .u64 ((partT B 0).n : Int), str (partT B 0).s, .slice A1 (partT B 0).k k1, .bool (partT B 0).op]) HB5 rfl
          have hZM := setCells_mod (b := n5) (#[.int .i64 (partT B 0).kind, .int .u64 ((partT B 0).n : Int), str (partT B 0).s, .slice A1 (partT B 0).k k1, .bool (partT B 0).op] : Array Value).toList 0 hHeld (.inr HB5_n)
          have hZO := setCells_mod (w := u4) (W := u4) (S := [n5]) (b := n5) (#[.int .i64 (partT B 0).kind, .int .u64 ((partT B 0).n : Int), str (partT B 0).s, .slice A1 (partT B 0).k k1, .bool (partT B 0).op] : Array Value).toList 0 (Mod.refl _ _) (.inl (by simp))
          generalize hZ : World.setCells _ n5 0 _ = y1 at *
          clear hZ
          have HB6 := HB6.mod hZO (by simpa using n56.symm)
          have HI1 := IsL.mod hZO (fun b hb _ => by have hb : b < w.heap.size := hb; have := HN2.out; have := HB5_n; simp; omega) _ HI1
          have HI3 := IsL.mod hZO (fun b hb _ => by have hb : b < w.heap.size := hb; have := HN2.out; have := HB5_n; simp; omega) _ HI3
          have HB5 := hZB
          refine hK.out _ _ hZM (fun hHeld => ?_)
          clear hK K hZB hZM hZO
          (try simp only [Act.put, List.getElem_toArray, List.getElem_cons_zero, List.getElem_cons_succ, List.setIfInBounds_toArray, List.set_cons_zero, List.set_cons_succ])
          refine wpAnyH_ready (rs := [7]) (by kernel_rfl) (by simp) ?_
          refine AllReadyH.cons rfl (fun K hK => ?_) AllReadyH.nil
          refine wp_store_mid 64 _ _ rfl n6 0 #[.int .i64 (partT B 3).kind, .int .u64 ((partT B 3).n : Int), str (partT B 3).s, .slice A3 (partT B 3).k k3, .bool (partT B 3).op] (by rfl) (by rfl) (HB6.there (Nat.le_refl 5)) (by kernel_rfl) (by simp [Value.oneCell']) ?_
          have hZB := setCells_all (ds := #[.int .i64 (partT B 3).kind, .int .u64 ((partT B 3).n : Int), str (partT B 3).s, .slice A3 (partT B 3).k k3, .bool (partT B 3).op]) HB6 rfl
          have hZM := setCells_mod (b := n6) (#[.int .i64 (partT B 3).kind, .int .u64 ((partT B 3).n : Int), str (partT B 3).s, .slice A3 (partT B 3).k k3, .bool (partT B 3).op] : Array Value).toList 0 hHeld (.inr HB6_n)
          have hZO := setCells_mod (w := y1) (W := y1) (S := [n6]) (b := n6) (#[.int .i64 (partT B 3).kind, .int .u64 ((partT B 3).n : Int), str (partT B 3).s, .slice A3 (partT B 3).k k3, .bool (partT B 3).op] : Array Value).toList 0 (Mod.refl _ _) (.inl (by simp))
          generalize hZ : World.setCells _ n6 0 _ = y2 at *
          clear hZ
          have HB5 := HB5.mod hZO (by simpa using n56)
          have HI1 := IsL.mod hZO (fun b hb _ => by have hb : b < w.heap.size := hb; have := HN2.out; have := HB6_n; simp; omega) _ HI1
          have HI3 := IsL.mod hZO (fun b hb _ => by have hb : b < w.heap.size := hb; have := HN2.out; have := HB6_n; simp; omega) _ HI3
          have HB6 := hZB
          refine hK.out _ _ hZM (fun hHeld => ?_)
          clear hK K hZB hZM hZO
          (try simp only [Act.put, List.getElem_toArray, List.getElem_cons_zero, List.getElem_cons_succ, List.setIfInBounds_toArray, List.set_cons_zero, List.set_cons_succ])
          refine wpAnyH_done (by kernel_rfl) ?_ _
          go_wp2_with fail
          go_meet
          exact ⟨n5, n6, A1, k1, A3, k3, rfl, rfl, hid ⟨hHeld, HB5, HB6, HB5_n, HB6_n, n56, HI1, HI3⟩⟩
      · go_simp
        generalize hV : World.alloc u1 _ = u2
        have HB5 : Blk u2 u1.heap.size 64 #[.int .i64 0, .int .u64 0, .string ⟨#[]⟩, .slice none 0 0, .bool false] := by rw [← hV]; exact Blk.new _ _ _
        have hXX : Ext u1 u2 := by rw [← hV]; exact (Mod.refl [] _).alloc _
        have HB5_n : W2.heap.size ≤ u1.heap.size := hHeld.size
        clear hV
        have HI1 := HI1.ext hXX
        refine hK.out _ _ (hHeld.trans hXX) (fun hHeld => ?_)
        clear hK K
        (try simp only [Act.put, List.getElem_toArray, List.getElem_cons_zero, List.getElem_cons_succ, List.setIfInBounds_toArray, List.set_cons_zero, List.set_cons_succ])
        generalize hnn : u1.heap.size = n5 at *
        clear hnn
        refine wpAnyH_ready (rs := [3, 5]) (by kernel_rfl) (by simp) ?_
        refine AllReadyH.cons rfl (fun K hK => ?_) (AllReadyH.cons rfl (fun K hK => ?_) AllReadyH.nil)
        · go_simp
          go_at_call 42
          refine (KP.out 3 (by decide) _ (HLB.out _ hHeld)).mono ?_
          rintro x u3 ⟨A3, k3, rfl, hb, hi⟩
          have HI3 := hi
          clear hi
          have HI1 := HI1.ext hb
          have HB5 := HB5.ext hb
          
          refine hK.out _ _ (hHeld.trans hb) (fun hHeld => ?_)
          clear hK K
          (try simp only [Act.put, List.getElem_toArray, List.getElem_cons_zero, List.getElem_cons_succ, List.setIfInBounds_toArray, List.set_cons_zero, List.set_cons_succ])
          refine wpAnyH_ready (rs := [5]) (by kernel_rfl) (by simp) ?_
          refine AllReadyH.cons rfl (fun K hK => ?_) AllReadyH.nil
          have hlt56 : n5 < u3.heap.size := HB5.lt
          go_simp
          generalize hV : World.alloc u3 _ = u4
          have HB6 : Blk u4 u3.heap.size 64 #[.int .i64 0, .int .u64 0, .string ⟨#[]⟩, .slice none 0 0, .bool false] := by rw [← hV]; exact Blk.new _ _ _
          have hXX : Ext u3 u4 := by rw [← hV]; exact (Mod.refl [] _).alloc _
          have HB6_n : W2.heap.size ≤ u3.heap.size := hHeld.size
          clear hV
          have HI1 := HI1.ext hXX
          have HB5 := HB5.ext hXX
          have HI3 := HI3.ext hXX
          refine hK.out _ _ (hHeld.trans hXX) (fun hHeld => ?_)
          clear hK K
          (try simp only [Act.put, List.getElem_toArray, List.getElem_cons_zero, List.getElem_cons_succ, List.setIfInBounds_toArray, List.set_cons_zero, List.set_cons_succ])
          generalize hnn : u3.heap.size = n6 at *
          clear hnn
          have n56 : n5 ≠ n6 := Nat.ne_of_lt hlt56
          refine wpAnyH_ready (rs := [6]) (by kernel_rfl) (by simp) ?_
          refine AllReadyH.cons rfl (fun K hK => ?_) AllReadyH.nil
          refine wp_store_mid 64 _ _ rfl n5 0 #[.int .i64 (partT B 0).kind, .int .u64 ((partT B 0).n : Int), str (partT B 0).s, .slice A1 (partT B 0).k k1, .bool (partT B 0).op] (by rfl) (by rfl) (HB5.there (Nat.le_refl 5)) (by kernel_rfl) (by simp [Value.oneCell']) ?_
          have hZB := setCells_all (ds := #[.int .i64 (partT B 0).kind, .int .u64 ((partT B 0).n : Int), str (partT B 0).s, .slice A1 (partT B 0).k k1, .bool (partT B 0).op]) HB5 rfl
          have hZM := setCells_mod (b := n5) (#[.int .i64 (partT B 0).kind, .int .u64 ((partT B 0).n : Int), str (partT B 0).s, .slice A1 (partT B 0).k k1, .bool (partT B 0).op] : Array Value).toList 0 hHeld (.inr HB5_n)
          have hZO := setCells_mod (w := u4) (W := u4) (S := [n5]) (b := n5) (#[.int .i64 (partT B 0).kind, .int .u64 ((partT B 0).n : Int), str (partT B 0).s, .slice A1 (partT B 0).k k1, .bool (partT B 0).op] : Array Value).toList 0 (Mod.refl _ _) (.inl (by simp))
          generalize hZ : World.setCells _ n5 0 _ = y1 at *
          clear hZ
          have HB6 := HB6.mod hZO (by simpa using n56.symm)
          have HI1 := IsL.mod hZO (fun b hb _ => by have hb : b < w.heap.size := hb; have := HN2.out; have := HB5_n; simp; omega) _ HI1
          have HI3 := IsL.mod hZO (fun b hb _ => by have hb : b < w.heap.size := hb; have := HN2.out; have := HB5_n; simp; omega) _ HI3
          have HB5 := hZB
          refine hK.out _ _ hZM (fun hHeld => ?_)
          clear hK K hZB hZM hZO
          (try simp only [Act.put, List.getElem_toArray, List.getElem_cons_zero, List.getElem_cons_succ, List.setIfInBounds_toArray, List.set_cons_zero, List.set_cons_succ])
          refine wpAnyH_ready (rs := [7]) (by kernel_rfl) (by simp) ?_
          refine AllReadyH.cons rfl (fun K hK => ?_) AllReadyH.nil
          refine wp_store_mid 64 _ _ rfl n6 0 #[.int .i64 (partT B 3).kind, .int .u64 ((partT B 3).n : Int), str (partT B 3).s, .slice A3 (partT B 3).k k3, .bool (partT B 3).op] (by rfl) (by rfl) (HB6.there (Nat.le_refl 5)) (by kernel_rfl) (by simp [Value.oneCell']) ?_
          have hZB := setCells_all (ds := #[.int .i64 (partT B 3).kind, .int .u64 ((partT B 3).n : Int), str (partT B 3).s, .slice A3 (partT B 3).k k3, .bool (partT B 3).op]) HB6 rfl
          have hZM := setCells_mod (b := n6) (#[.int .i64 (partT B 3).kind, .int .u64 ((partT B 3).n : Int), str (partT B 3).s, .slice A3 (partT B 3).k k3, .bool (partT B 3).op] : Array Value).toList 0 hHeld (.inr HB6_n)
          have hZO := setCells_mod (w := y1) (W := y1) (S := [n6]) (b := n6) (#[.int .i64 (partT B 3).kind, .int .u64 ((partT B 3).n : Int), str (partT B 3).s, .slice A3 (partT B 3).k k3, .bool (partT B 3).op] : Array Value).toList 0 (Mod.refl _ _) (.inl (by simp))
          generalize hZ : World.setCells _ n6 0 _ = y2 at *
          clear hZ
          have HB5 := HB5.mod hZO (by simpa using n56)
          have HI1 := IsL.mod hZO (fun b hb _ => by have hb : b < w.heap.size := hb; have := HN2.out; have := HB6_n; simp; omega) _ HI1
          have HI3 := IsL.mod hZO (fun b hb _ => by have hb : b < w.heap.size := hb; have := HN2.out; have := HB6_n; simp; omega) _ HI3
          have HB6 := hZB
          refine hK.out _ _ hZM (fun hHeld => ?_)
          clear hK K hZB hZM hZO
          (try simp only [Act.put, List.getElem_toArray, List.getElem_cons_zero, List.getElem_cons_succ, List.setIfInBounds_toArray, List.set_cons_zero, List.set_cons_succ])
          refine wpAnyH_done (by kernel_rfl) ?_ _
          go_wp2_with fail
          go_meet
          exact ⟨n5, n6, A1, k1, A3, k3, rfl, rfl, hid ⟨hHeld, HB5, HB6, HB5_n, HB6_n, n56, HI1, HI3⟩⟩
        · have hlt56 : n5 < u2.heap.size := HB5.lt
          go_simp
          generalize hV : World.alloc u2 _ = u3
          have HB6 : Blk u3 u2.heap.size 64 #[.int .i64 0, .int .u64 0, .string ⟨#[]⟩, .slice none 0 0, .bool false] := by rw [← hV]; exact Blk.new _ _ _
          have hXX : Ext u2 u3 := by rw [← hV]; exact (Mod.refl [] _).alloc _
          have HB6_n : W2.heap.size ≤ u2.heap.size := hHeld.size
          clear hV
          have HI1 := HI1.ext hXX
          have HB5 := HB5.ext hXX
          refine hK.out _ _ (hHeld.trans hXX) (fun hHeld => ?_)
          clear hK K
          (try simp only [Act.put, List.getElem_toArray, List.getElem_cons_zero, List.getElem_cons_succ, List.setIfInBounds_toArray, List.set_cons_zero, List.set_cons_succ])
          generalize hnn : u2.heap.size = n6 at *
          clear hnn
          refine wpAnyH_ready (rs := [3]) (by kernel_rfl) (by simp) ?_
          refine AllReadyH.cons rfl (fun K hK => ?_) AllReadyH.nil
          go_simp
          go_at_call 42
          refine (KP.out 3 (by decide) _ (HLB.out _ hHeld)).mono ?_
          rintro x u4 ⟨A3, k3, rfl, hb, hi⟩
          have HI3 := hi
          clear hi
          have HI1 := HI1.ext hb
          have HB5 := HB5.ext hb
          have HB6 := HB6.ext hb
          
          refine hK.out _ _ (hHeld.trans hb) (fun hHeld => ?_)
          clear hK K
          (try simp only [Act.put, List.getElem_toArray, List.getElem_cons_zero, List.getElem_cons_succ, List.setIfInBounds_toArray, List.set_cons_zero, List.set_cons_succ])
          have n56 : n5 ≠ n6 := Nat.ne_of_lt hlt56
          refine wpAnyH_ready (rs := [6]) (by kernel_rfl) (by simp) ?_
          refine AllReadyH.cons rfl (fun K hK => ?_) AllReadyH.nil
          refine wp_store_mid 64 _ _ rfl n5 0 #[.int .i64 (partT B 0).kind, .int .u64 ((partT B 0).n : Int), str (partT B 0).s, .slice A1 (partT B 0).k k1, .bool (partT B 0).op] (by rfl) (by rfl) (HB5.there (Nat.le_refl 5)) (by kernel_rfl) (by simp [Value.oneCell']) ?_
          have hZB := setCells_all (ds := #[.int .i64 (partT B 0).kind, .int .u64 ((partT B 0).n : Int), str (partT B 0).s, .slice A1 (partT B 0).k k1, .bool (partT B 0).op]) HB5 rfl
          have hZM := setCells_mod (b := n5) (#[.int .i64 (partT B 0).kind, .int .u64 ((partT B 0).n : Int), str (partT B 0).s, .slice A1 (partT B 0).k k1, .bool (partT B 0).op] : Array Value).toList 0 hHeld (.inr HB5_n)
          have hZO := setCells_mod (w := u4) (W := u4) (S := [n5]) (b := n5) (#[.int .i64 (partT B 0).kind, .int .u64 ((partT B 0).n : Int), str (partT B 0).s, .slice A1 (partT B 0).k k1, .bool (partT B 0).op] : Array Value).toList 0 (Mod.refl _ _) (.inl (by simp))
          generalize hZ : World.setCells _ n5 0 _ = y1 at *
          clear hZ
          have HB6 := HB6.mod hZO (by simpa using n56.symm)
          have HI1 := IsL.mod hZO (fun b hb _ => by have hb : b < w.heap.size := hb; have := HN2.out; have := HB5_n; simp; omega) _ HI1
          have HI3 := IsL.mod hZO (fun b hb _ => by have hb : b < w.heap.size := hb; have := HN2.out; have := HB5_n; simp; omega) _ HI3
          have HB5 := hZB
          refine hK.out _ _ hZM (fun hHeld => ?_)
          clear hK K hZB hZM hZO
          (try simp only [Act.put, List.getElem_toArray, List.getElem_cons_zero, List.getElem_cons_succ, List.setIfInBounds_toArray, List.set_cons_zero, List.set_cons_succ])
          refine wpAnyH_ready (rs := [7]) (by kernel_rfl) (by simp) ?_
          refine AllReadyH.cons rfl (fun K hK => ?_) AllReadyH.nil
          refine wp_store_mid 64 _ _ rfl n6 0 #[.int .i64 (partT B 3).kind, .int .u64 ((partT B 3).n : Int), str (partT B 3).s, .slice A3 (partT B 3).k k3, .bool (partT B 3).op] (by rfl) (by rfl) (HB6.there (Nat.le_refl 5)) (by kernel_rfl) (by simp [Value.oneCell']) ?_
          have hZB := setCells_all (ds := #[.int .i64 (partT B 3).kind, .int .u64 ((partT B 3).n : Int), str (partT B 3).s, .slice A3 (partT B 3).k k3, .bool (partT B 3).op]) HB6 rfl
          have hZM := setCells_mod (b := n6) (#[.int .i64 (partT B 3).kind, .int .u64 ((partT B 3).n : Int), str (partT B 3).s, .slice A3 (partT B 3).k k3, .bool (partT B 3).op] : Array Value).toList 0 hHeld (.inr HB6_n)
          have hZO := setCells_mod (w := y1) (W := y1) (S := [n6]) (b := n6) (#[.int .i64 (partT B 3).kind, .int .u64 ((partT B 3).n : Int), str (partT B 3).s, .slice A3 (partT B 3).k k3, .bool (partT B 3).op] : Array Value).toList 0 (Mod.refl _ _) (.inl (by simp))
          generalize hZ : World.setCells _ n6 0 _ = y2 at *
          clear hZ
          have HB5 := HB5.mod hZO (by simpa using n56)
          have HI1 := IsL.mod hZO (fun b hb _ => by have hb : b < w.heap.size := hb; have := HN2.out; have := HB6_n; simp; omega) _ HI1
          have HI3 := IsL.mod hZO (fun b hb _ => by have hb : b < w.heap.size := hb; have := HN2.out; have := HB6_n; simp; omega) _ HI3
          have HB6 := hZB
          refine hK.out _ _ hZM (fun hHeld => ?_)
          clear hK K hZB hZM hZO
          (try simp only [Act.put, List.getElem_toArray, List.getElem_cons_zero, List.getElem_cons_succ, List.setIfInBounds_toArray, List.set_cons_zero, List.set_cons_succ])
          refine wpAnyH_done (by kernel_rfl) ?_ _
          go_wp2_with fail
          go_meet
          exact ⟨n5, n6, A1, k1, A3, k3, rfl, rfl, hid ⟨hHeld, HB5, HB6, HB5_n, HB6_n, n56, HI1, HI3⟩⟩
      · go_simp
        generalize hV : World.alloc u1 _ = u2
        have HB6 : Blk u2 u1.heap.size 64 #[.int .i64 0, .int .u64 0, .string ⟨#[]⟩, .slice none 0 0, .bool false] := by rw [← hV]; exact Blk.new _ _ _
        have hXX : Ext u1 u2 := by rw [← hV]; exact (Mod.refl [] _).alloc _
        have HB6_n : W2.heap.size ≤ u1.heap.size := hHeld.size
        clear hV
        have HI1 := HI1.ext hXX
        refine hK.out _ _ (hHeld.trans hXX) (fun hHeld => ?_)
        clear hK K
        (try simp only [Act.put, List.getElem_toArray, List.getElem_cons_zero, List.getElem_cons_succ, List.setIfInBounds_toArray, List.set_cons_zero, List.set_cons_succ])
        generalize hnn : u1.heap.size = n6 at *
        clear hnn
        refine wpAnyH_ready (rs := [3, 4]) (by kernel_rfl) (by simp) ?_
        refine AllReadyH.cons rfl (fun K hK => ?_) (AllReadyH.cons rfl (fun K hK => ?_) AllReadyH.nil)
        · go_simp
          go_at_call 42
          refine (KP.out 3 (by decide) _ (HLB.out _ hHeld)).mono ?_
          rintro x u3 ⟨A3, k3, rfl, hb, hi⟩
          have HI3 := hi
          clear hi
          have HI1 := HI1.ext hb
          have HB6 := HB6.ext hb
          
          refine hK.out _ _ (hHeld.trans hb) (fun hHeld => ?_)
          clear hK K
          (try simp only [Act.put, List.getElem_toArray, List.getElem_cons_zero, List.getElem_cons_succ, List.setIfInBounds_toArray, List.set_cons_zero, List.set_cons_succ])
          refine wpAnyH_ready (rs := [4]) (by kernel_rfl) (by simp) ?_
          refine AllReadyH.cons rfl (fun K hK => ?_) AllReadyH.nil
          have hlt56 : n6 < u3.heap.size := HB6.lt
          go_simp
          generalize hV : World.alloc u3 _ = u4
          have HB5 : Blk u4 u3.heap.size 64 #[.int .i64 0, .int .u64 0, .string ⟨#[]⟩, .slice none 0 0, .bool false] := by rw [← hV]; exact Blk.new _ _ _
          have hXX : Ext u3 u4 := by rw [← hV]; exact (Mod.refl [] _).alloc _
          have HB5_n : W2.heap.size ≤ u3.heap.size := hHeld.size
          clear hV
          have HI1 := HI1.ext hXX
          have HB6 := HB6.ext hXX
          have HI3 := HI3.ext hXX
          refine hK.out _ _ (hHeld.trans hXX) (fun hHeld => ?_)
          clear hK K
          (try simp only [Act.put, List.getElem_toArray, List.getElem_cons_zero, List.getElem_cons_succ, List.setIfInBounds_toArray, List.set_cons_zero, List.set_cons_succ])
          generalize hnn : u3.heap.size = n5 at *
          clear hnn
          have n56 : n5 ≠ n6 := Nat.ne_of_gt hlt56
          refine wpAnyH_ready (rs := [6]) (by kernel_rfl) (by simp) ?_
          refine AllReadyH.cons rfl (fun K hK => ?_) AllReadyH.nil
          refine wp_store_mid 64 _ _ rfl n5 0 #[.int .i64 (partT B 0).kind, .int .u64 ((partT B 0).n : Int), str (partT B 0).s, .slice A1 (partT B 0).k k1, .bool (partT B 0).op] (by rfl) (by rfl) (HB5.there (Nat.le_refl 5)) (by kernel_rfl) (by simp [Value.oneCell']) ?_
          have hZB := setCells_all (ds := #[.int .i64 (partT B 0).kind, .int .u64 ((partT B 0).n : Int), str (partT B 0).s, .slice A1 (partT B 0).k k1, .bool (partT B 0).op]) HB5 rfl
          have hZM := setCells_mod (b := n5) (#[.int .i64 (partT B 0).kind, .int .u64 ((partT B 0).n : Int), str (partT B 0).s, .slice A1 (partT B 0).k k1, .bool (partT B 0).op] : Array Value).toList 0 hHeld (.inr HB5_n)
          have hZO := setCells_mod (w := u4) (W := u4) (S := [n5]) (b := n5) (#[.int .i64 (partT B 0).kind, .int .u64 ((partT B 0).n : Int), str (partT B 0).s, .slice A1 (partT B 0).k k1, .bool (partT B 0).op] : Array Value).toList 0 (Mod.refl _ _) (.inl (by simp))
          generalize hZ : World.setCells _ n5 0 _ = y1 at *
          clear hZ
          have HB6 := HB6.mod hZO (by simpa using n56.symm)
          have HI1 := IsL.mod hZO (fun b hb _ => by have hb : b < w.heap.size := hb; have := HN2.out; have := HB5_n; simp; omega) _ HI1
          have HI3 := IsL.mod hZO (fun b hb _ => by have hb : b < w.heap.size := hb; have := HN2.out; have := HB5_n; simp; omega) _ HI3
          have HB5 := hZB
          refine hK.out _ _ hZM (fun hHeld => ?_)
          clear hK K hZB hZM hZO
          (try simp only [Act.put, List.getElem_toArray, List.getElem_cons_zero, List.getElem_cons_succ, List.setIfInBounds_toArray, List.set_cons_zero, List.set_cons_succ])
          refine wpAnyH_ready (rs := [7]) (by kernel_rfl) (by simp) ?_
          refine AllReadyH.cons rfl (fun K hK => ?_) AllReadyH.nil
          refine wp_store_mid 64 _ _ rfl n6 0 #[.int .i64 (partT B 3).kind, .int .u64 ((partT B 3).n : Int), str (partT B 3).s, .slice A3 (partT B 3).k k3, .bool (partT B 3).op] (by rfl) (by rfl) (HB6.there (Nat.le_refl 5)) (by kernel_rfl) (by simp [Value.oneCell']) ?_
          have hZB := setCells_all (ds := #[.int .i64 (partT B 3).kind, .int .u64 ((partT B 3).n : Int), str (partT B 3).s, .slice A3 (partT B 3).k k3, .bool (partT B 3).op]) HB6 rfl
          have hZM := setCells_mod (b := n6) (#[.int .i64 (partT B 3).kind, .int .u64 ((partT B 3).n : Int), str (partT B 3).s, .slice A3 (partT B 3).k k3, .bool (partT B 3).op] : Array Value).toList 0 hHeld (.inr HB6_n)
          have hZO := setCells_mod (w := y1) (W := y1) (S := [n6]) (b := n6) (#[.int .i64 (partT B 3).kind, .int .u64 ((partT B 3).n : Int), str (partT B 3).s, .slice A3 (partT B 3).k k3, .bool (partT B 3).op] : Array Value).toList 0 (Mod.refl _ _) (.inl (by simp))
          generalize hZ : World.setCells _ n6 0 _ = y2 at *
          clear hZ
          have HB5 := HB5.mod hZO (by simpa using n56)
          have HI1 := IsL.mod hZO (fun b hb _ => by have hb : b < w.heap.size := hb; have := HN2.out; have := HB6_n; simp; omega) _ HI1
          have HI3 := IsL.mod hZO (fun b hb _ => by have hb : b < w.heap.size := hb; have := HN2.out; have := HB6_n; simp; omega) _ HI3
          have HB6 := hZB
          refine hK.out _ _ hZM (fun hHeld => ?_)
          clear hK K hZB hZM hZO
          (try simp only [Act.put, List.getElem_toArray, List.getElem_cons_zero, List.getElem_cons_succ, List.setIfInBounds_toArray, List.set_cons_zero, List.set_cons_succ])
          refine wpAnyH_done (by kernel_rfl) ?_ _
          go_wp2_with fail
          go_meet
          exact ⟨n5, n6, A1, k1, A3, k3, rfl, rfl, hid ⟨hHeld, HB5, HB6, HB5_n, HB6_n, n56, HI1, HI3⟩⟩
        · have hlt56 : n6 < u2.heap.size := HB6.lt
          go_simp
          generalize hV : World.alloc u2 _ = u3
          have HB5 : Blk u3 u2.heap.size 64 #[.int .i64 0, .int .u64 0, .string ⟨#[]⟩, .slice none 0 0, .bool false] := by rw [← hV]; exact Blk.new _ _ _
          have hXX : Ext u2 u3 := by rw [← hV]; exact (Mod.refl [] _).alloc _
          have HB5_n : W2.heap.size ≤ u2.heap.size := hHeld.size
          clear hV
          have HI1 := HI1.ext hXX
          have HB6 := HB6.ext hXX
          refine hK.out _ _ (hHeld.trans hXX) (fun hHeld => ?_)
          clear hK K
          (try simp only [Act.put, List.getElem_toArray, List.getElem_cons_zero, List.getElem_cons_succ, List.setIfInBounds_toArray, List.set_cons_zero, List.set_cons_succ])
          generalize hnn : u2.heap.size = n5 at *
          clear hnn
          refine wpAnyH_ready (rs := [3]) (by kernel_rfl) (by simp) ?_
          refine AllReadyH.cons rfl (fun K hK => ?_) AllReadyH.nil
          go_simp
          go_at_call 42
          refine (KP.out 3 (by decide) _ (HLB.out _ hHeld)).mono ?_
          rintro x u4 ⟨A3, k3, rfl, hb, hi⟩
          have HI3 := hi
          clear hi
          have HI1 := HI1.ext hb
          have HB6 := HB6.ext hb
          have HB5 := HB5.ext hb
          
          refine hK.out _ _ (hHeld.trans hb) (fun hHeld => ?_)
          clear hK K
          (try simp only [Act.put, List.getElem_toArray, List.getElem_cons_zero, List.getElem_cons_succ, List.setIfInBounds_toArray, List.set_cons_zero, List.set_cons_succ])
          have n56 : n5 ≠ n6 := Nat.ne_of_gt hlt56
          refine wpAnyH_ready (rs := [6]) (by kernel_rfl) (by simp) ?_
          refine AllReadyH.cons rfl (fun K hK => ?_) AllReadyH.nil
          refine wp_store_mid 64 _ _ rfl n5 0 #[.int .i64 (partT B 0).kind, .int .u64 ((partT B 0).n : Int), str (partT B 0).s, .slice A1 (partT B 0).k k1, .bool (partT B 0).op] (by rfl) (by rfl) (HB5.there (Nat.le_refl 5)) (by kernel_rfl) (by simp [Value.oneCell']) ?_
          have hZB := setCells_all (ds := #[.int .i64 (partT B 0).kind, .int .u64 ((partT B 0).n : Int), str (partT B 0).s, .slice A1 (partT B 0).k k1, .bool (partT B 0).op]) HB5 rfl
          have hZM := setCells_mod (b := n5) (#[.int .i64 (partT B 0).kind, .int .u64 ((partT B 0).n : Int), str (partT B 0).s, .slice A1 (partT B 0).k k1, .bool (partT B 0).op] : Array Value).toList 0 hHeld (.inr HB5_n)
          have hZO := setCells_mod (w := u4) (W := u4) (S := [n5]) (b := n5) (#[.int .i64 (partT B 0).kind, .int .u64 ((partT B 0).n : Int), str (partT B 0).s, .slice A1 (partT B 0).k k1, .bool (partT B 0).op] : Array Value).toList 0 (Mod.refl _ _) (.inl (by simp))
          generalize hZ : World.setCells _ n5 0 _ = y1 at *
          clear hZ
          have HB6 := HB6.mod hZO (by simpa using n56.symm)
          have HI1 := IsL.mod hZO (fun b hb _ => by have hb : b < w.heap.size := hb; have := HN2.out; have := HB5_n; simp; omega) _ HI1
          have HI3 := IsL.mod hZO (fun b hb _ => by have hb : b < w.heap.size := hb; have := HN2.out; have := HB5_n; simp; omega) _ HI3
          have HB5 := hZB
          refine hK.out _ _ hZM (fun hHeld => ?_)
          clear hK K hZB hZM hZO
          (try simp only [Act.put, List.getElem_toArray, List.getElem_cons_zero, List.getElem_cons_succ, List.setIfInBounds_toArray, List.set_cons_zero, List.set_cons_succ])
          refine wpAnyH_ready (rs := [7]) (by kernel_rfl) (by simp) ?_
          refine AllReadyH.cons rfl (fun K hK => ?_) AllReadyH.nil
          refine wp_store_mid 64 _ _ rfl n6 0 #[.int .i64 (partT B 3).kind, .int .u64 ((partT B 3).n : Int), str (partT B 3).s, .slice A3 (partT B 3).k k3, .bool (partT B 3).op] (by rfl) (by rfl) (HB6.there (Nat.le_refl 5)) (by kernel_rfl) (by simp [Value.oneCell']) ?_
          have hZB := setCells_all (ds := #[.int .i64 (partT B 3).kind, .int .u64 ((partT B 3).n : Int), str (partT B 3).s, .slice A3 (partT B 3).k k3, .bool (partT B 3).op]) HB6 rfl
          have hZM := setCells_mod (b := n6) (#[.int .i64 (partT B 3).kind, .int .u64 ((partT B 3).n : Int), str (partT B 3).s, .slice A3 (partT B 3).k k3, .bool (partT B 3).op] : Array Value).toList 0 hHeld (.inr HB6_n)
          have hZO := setCells_mod (w := y1) (W := y1) (S := [n6]) (b := n6) (#[.int .i64 (partT B 3).kind, .int .u64 ((partT B 3).n : Int), str (partT B 3).s, .slice A3 (partT B 3).k k3, .bool (partT B 3).op] : Array Value).toList 0 (Mod.refl _ _) (.inl (by simp))
          generalize hZ : World.setCells _ n6 0 _ = y2 at *
          clear hZ
          have HB5 := HB5.mod hZO (by simpa using n56)
          have HI1 := IsL.mod hZO (fun b hb _ => by have hb : b < w.heap.size := hb; have := HN2.out; have := HB6_n; simp; omega) _ HI1
          have HI3 := IsL.mod hZO (fun b hb _ => by have hb : b < w.heap.size := hb; have := HN2.out; have := HB6_n; simp; omega) _ HI3
          have HB6 := hZB
          refine hK.out _ _ hZM (fun hHeld => ?_)
          clear hK K hZB hZM hZO
          (try simp only [Act.put, List.getElem_toArray, List.getElem_cons_zero, List.getElem_cons_succ, List.setIfInBounds_toArray, List.set_cons_zero, List.set_cons_succ])
          refine wpAnyH_done (by kernel_rfl) ?_ _
          go_wp2_with fail
          go_meet
          exact ⟨n5, n6, A1, k1, A3, k3, rfl, rfl, hid ⟨hHeld, HB5, HB6, HB5_n, HB6_n, n56, HI1, HI3⟩⟩
    · go_simp
      generalize hV : World.alloc u0 _ = u1
      have HB5 : Blk u1 u0.heap.size 64 #[.int .i64 0, .int .u64 0, .string ⟨#[]⟩, .slice none 0 0, .bool false] := by rw [← hV]; exact Blk.new _ _ _
      have hXX : Ext u0 u1 := by rw [← hV]; exact (Mod.refl [] _).alloc _
      have HB5_n : W2.heap.size ≤ u0.heap.size := hHeld.size
      clear hV
      refine hK.out _ _ (hHeld.trans hXX) (fun hHeld => ?_)
      clear hK K
      (try simp only [Act.put, List.getElem_toArray, List.getElem_cons_zero, List.getElem_cons_succ, List.setIfInBounds_toArray, List.set_cons_zero, List.set_cons_succ])
      generalize hnn : u0.heap.size = n5 at *
      clear hnn
      refine wpAnyH_ready (rs := [1, 5]) (by kernel_rfl) (by simp) ?_
      refine AllReadyH.cons rfl (fun K hK => ?_) (AllReadyH.cons rfl (fun K hK => ?_) AllReadyH.nil)
      · go_simp
        go_at_call 42
        refine (KP.out 0 (by decide) _ (HLB.out _ hHeld)).mono ?_
        rintro x u2 ⟨A1, k1, rfl, hb, hi⟩
        have HI1 := hi
        clear hi
        have HB5 := HB5.ext hb
        
        refine hK.out _ _ (hHeld.trans hb) (fun hHeld => ?_)
        clear hK K
        (try simp only [Act.put, List.getElem_toArray, List.getElem_cons_zero, List.getElem_cons_succ, List.setIfInBounds_toArray, List.set_cons_zero, List.set_cons_succ])
        refine wpAnyH_ready (rs := [3, 5]) (by kernel_rfl) (by simp) ?_
        refine AllReadyH.cons rfl (fun K hK => ?_) (AllReadyH.cons rfl (fun K hK => ?_) AllReadyH.nil)
        · go_simp
          go_at_call 42
          refine (KP.out 3 (by decide) _ (HLB.out _ hHeld)).mono ?_
          rintro x u3 ⟨A3, k3, rfl, hb, hi⟩
          have HI3 := hi
          clear hi
          have HB5 := HB5.ext hb
          have HI1 := HI1.ext hb
          
          refine hK.out _ _ (hHeld.trans hb) (fun hHeld => ?_)
          clear hK K
          (try simp only [Act.put, List.getElem_toArray, List.getElem_cons_zero, List.getElem_cons_succ, List.setIfInBounds_toArray, List.set_cons_zero, List.set_cons_succ])
          refine wpAnyH_ready (rs := [5]) (by kernel_rfl) (by simp) ?_
          refine AllReadyH.cons rfl (fun K hK => ?_) AllReadyH.nil
          have hlt56 : n5 < u3.heap.size := HB5.lt
          go_simp
          generalize hV : World.alloc u3 _ = u4
          have HB6 : Blk u4 u3.heap.size 64 #[.int .i64 0, .int .u64 0, .string ⟨#[]⟩, .slice none 0 0, .bool false] := by rw [← hV]; exact Blk.new _ _ _
          have hXX : Ext u3 u4 := by rw [← hV]; exact (Mod.refl [] _).alloc _
          have HB6_n : W2.heap.size ≤ u3.heap.size := hHeld.size
          clear hV
          have HB5 := HB5.ext hXX
          have HI1 := HI1.ext hXX
          have HI3 := HI3.ext hXX
          refine hK.out _ _ (hHeld.trans hXX) (fun hHeld => ?_)
          clear hK K
          (try simp only [Act.put, List.getElem_toArray, List.getElem_cons_zero, List.getElem_cons_succ, List.setIfInBounds_toArray, List.set_cons_zero, List.set_cons_succ])
          generalize hnn : u3.heap.size = n6 at *
          clear hnn
          have n56 : n5 ≠ n6 := Nat.ne_of_lt hlt56
          refine wpAnyH_ready (rs := [6]) (by kernel_rfl) (by simp) ?_
          refine AllReadyH.cons rfl (fun K hK => ?_) AllReadyH.nil
          refine wp_store_mid 64 _ _ rfl n5 0 #[.int .i64 (partT B 0).kind, .int .u64 ((partT B 0).n : Int), str (partT B 0).s, .slice A1 (partT B 0).k k1, .bool (partT B 0).op] (by rfl) (by rfl) (HB5.there (Nat.le_refl 5)) (by kernel_rfl) (by simp [Value.oneCell']) ?_
          have hZB := setCells_all (ds := #[.int .i64 (partT B 0).kind, .int .u64 ((partT B 0).n : Int), str (partT B 0).s, .slice A1 (partT B 0).k k1, .bool (partT B 0).op]) HB5 rfl
          have hZM := setCells_mod (b := n5) (#[.int .i64 (partT B 0).kind, .int .u64 ((partT B 0).n : Int), str (partT B 0).s, .slice A1 (partT B 0).k k1, .bool (partT B 0).op] : Array Value).toList 0 hHeld (.inr HB5_n)
          have hZO := setCells_mod (w := u4) (W := u4) (S := [n5]) (b := n5) (#[.int .i64 (partT B 0).kind, .int .u64 ((partT B 0).n : Int), str (partT B 0).s, .slice A1 (partT B 0).k k1, .bool (partT B 0).op] : Array Value).toList 0 (Mod.refl _ _) (.inl (by simp))
          generalize hZ : World.setCells _ n5 0 _ = y1 at *
          clear hZ
          have HB6 := HB6.mod hZO (by simpa using n56.symm)
          have HI1 := IsL.mod hZO (fun b hb _ => by have hb : b < w.heap.size := hb; have := HN2.out; have := HB5_n; simp; omega) _ HI1
          have HI3 := IsL.mod hZO (fun b hb _ => by have hb : b < w.heap.size := hb; have := HN2.out; have := HB5_n; simp; omega) _ HI3
          have HB5 := hZB
          refine hK.out _ _ hZM (fun hHeld => ?_)
          clear hK K hZB hZM hZO
          (try simp only [Act.put, List.getElem_toArray, List.getElem_cons_zero, List.getElem_cons_succ, List.setIfInBounds_toArray, List.set_cons_zero, List.set_cons_succ])
          refine wpAnyH_ready (rs := [7]) (by kernel_rfl) (by simp) ?_
          refine AllReadyH.cons rfl (fun K hK => ?_) AllReadyH.nil
          refine wp_store_mid 64 _ _ rfl n6 0 #[.int .i64 (partT B 3).kind, .int .u64 ((partT B 3).n : Int), str (partT B 3).s, .slice A3 (partT B 3).k k3, .bool (partT B 3).op] (by rfl) (by rfl) (HB6.there (Nat.le_refl 5)) (by kernel_rfl) (by simp [Value.oneCell']) ?_
          have hZB := setCells_all (ds := #[.int .i64 (partT B 3).kind, .int .u64 ((partT B 3).n : Int), str (partT B 3).s, .slice A3 (partT B 3).k k3, .bool (partT B 3).op]) HB6 rfl
          have hZM := setCells_mod (b := n6) (#[.int .i64 (partT B 3).kind, .int .u64 ((partT B 3).n : Int), str (partT B 3).s, .slice A3 (partT B 3).k k3, .bool (partT B 3).op] : Array Value).toList 0 hHeld (.inr HB6_n)
          have hZO := setCells_mod (w := y1) (W := y1) (S := [n6]) (b := n6) (#[.int .i64 (partT B 3).kind, .int .u64 ((partT B 3).n : Int), str (partT B 3).s, .slice A3 (partT B 3).k k3, .bool (partT B 3).op] : Array Value).toList 0 (Mod.refl _ _) (.inl (by simp))
          generalize hZ : World.setCells _ n6 0 _ = y2 at *
          clear hZ
          have HB5 := HB5.mod hZO (by simpa using n56)
          have HI1 := IsL.mod hZO (fun b hb _ => by have hb : b < w.heap.size := hb; have := HN2.out; have := HB6_n; simp; omega) _ HI1
          have HI3 := IsL.mod hZO (fun b hb _ => by have hb : b < w.heap.size := hb; have := HN2.out; have := HB6_n; simp; omega) _ HI3
          have HB6 := hZB
          refine hK.out _ _ hZM (fun hHeld => ?_)
          clear hK K hZB hZM hZO
          (try simp only [Act.put, List.getElem_toArray, List.getElem_cons_zero, List.getElem_cons_succ, List.setIfInBounds_toArray, List.set_cons_zero, List.set_cons_succ])
          refine wpAnyH_done (by kernel_rfl) ?_ _
          go_wp2_with fail
          go_meet
          exact ⟨n5, n6, A1, k1, A3, k3, rfl, rfl, hid ⟨hHeld, HB5, HB6, HB5_n, HB6_n, n56, HI1, HI3⟩⟩
        · have hlt56 : n5 < u2.heap.size := HB5.lt
          go_simp
          generalize hV : World.alloc u2 _ = u3
          have HB6 : Blk u3 u2.heap.size 64 #[.int .i64 0, .int .u64 0, .string ⟨#[]⟩, .slice none 0 0, .bool false] := by rw [← hV]; exact Blk.new _ _ _
          have hXX : Ext u2 u3 := by rw [← hV]; exact (Mod.refl [] _).alloc _
          have HB6_n : W2.heap.size ≤ u2.heap.size := hHeld.size
          clear hV
          have HB5 := HB5.ext hXX
          have HI1 := HI1.ext hXX
          refine hK.out _ _ (hHeld.trans hXX) (fun hHeld => ?_)
          clear hK K
          (try simp only [Act.put, List.getElem_toArray, List.getElem_cons_zero, List.getElem_cons_succ, List.setIfInBounds_toArray, List.set_cons_zero, List.set_cons_succ])
          generalize hnn : u2.heap.size = n6 at *
          clear hnn
          refine wpAnyH_ready (rs := [3]) (by kernel_rfl) (by simp) ?_
          refine AllReadyH.cons rfl (fun K hK => ?_) AllReadyH.nil
          go_simp
          go_at_call 42
          refine (KP.out 3 (by decide) _ (HLB.out _ hHeld)).mono ?_
          rintro x u4 ⟨A3, k3, rfl, hb, hi⟩
          have HI3 := hi
          clear hi
          have HB5 := HB5.ext hb
          have HI1 := HI1.ext hb
          have HB6 := HB6.ext hb
          
          refine hK.out _ _ (hHeld.trans hb) (fun hHeld => ?_)
          clear hK K
          (try simp only [Act.put, List.getElem_toArray, List.getElem_cons_zero, List.getElem_cons_succ, List.setIfInBounds_toArray, List.set_cons_zero, List.set_cons_succ])
          have n56 : n5 ≠ n6 := Nat.ne_of_lt hlt56
          refine wpAnyH_ready (rs := [6]) (by kernel_rfl) (by simp) ?_
          refine AllReadyH.cons rfl (fun K hK => ?_) AllReadyH.nil
          refine wp_store_mid 64 _ _ rfl n5 0 #[.int .i64 (partT B 0).kind, .int .u64 ((partT B 0).n : Int), str (partT B 0).s, .slice A1 (partT B 0).k k1, .bool (partT B 0).op] (by rfl) (by rfl) (HB5.there (Nat.le_refl 5)) (by kernel_rfl) (by simp [Value.oneCell']) ?_
          have hZB := setCells_all (ds := #[.int .i64 (partT B 0).kind, .int .u64 ((partT B 0).n : Int), str (partT B 0).s, .slice A1 (partT B 0).k k1, .bool (partT B 0).op]) HB5 rfl
          have hZM := setCells_mod (b := n5) (#[.int .i64 (partT B 0).kind, .int .u64 ((partT B 0).n : Int), str (partT B 0).s, .slice A1 (partT B 0).k k1, .bool (partT B 0).op] : Array Value).toList 0 hHeld (.inr HB5_n)
          have hZO := setCells_mod (w := u4) (W := u4) (S := [n5]) (b := n5) (#[.int .i64 (partT B 0).kind, .int .u64 ((partT B 0).n : Int), str (partT B 0).s, .slice A1 (partT B 0).k k1, .bool (partT B 0).op] : Array Value).toList 0 (Mod.refl _ _) (.inl (by simp))
          generalize hZ : World.setCells _ n5 0 _ = y1 at *
          clear hZ
          have HB6 := HB6.mod hZO (by simpa using n56.symm)
          have HI1 := IsL.mod hZO (fun b hb _ => by have hb : b < w.heap.size := hb; have := HN2.out; have := HB5_n; simp; omega) _ HI1
          have HI3 := IsL.mod hZO (fun b hb _ => by have hb : b < w.heap.size := hb; have := HN2.out; have := HB5_n; simp; omega) _ HI3
          have HB5 := hZB
          refine hK.out _ _ hZM (fun hHeld => ?_)
          clear hK K hZB hZM hZO
          (try simp only [Act.put, List.getElem_toArray, List.getElem_cons_zero, List.getElem_cons_succ, List.setIfInBounds_toArray, List.set_cons_zero, List.set_cons_succ])
          refine wpAnyH_ready (rs := [7]) (by kernel_rfl) (by simp) ?_
          refine AllReadyH.cons rfl (fun K hK => ?_) AllReadyH.nil
          refine wp_store_mid 64 _ _ rfl n6 0 #[.int .i64 (partT B 3).kind, .int .u64 ((partT B 3).n : Int), str (partT B 3).s, .slice A3 (partT B 3).k k3, .bool (partT B 3).op] (by rfl) (by rfl) (HB6.there (Nat.le_refl 5)) (by kernel_rfl) (by simp [Value.oneCell']) ?_
          have hZB := setCells_all (ds := #[.int .i64 (partT B 3).kind, .int .u64 ((partT B 3).n : Int), str (partT B 3).s, .slice A3 (partT B 3).k k3, .bool (partT B 3).op]) HB6 rfl
          have hZM := setCells_mod (b := n6) (#[.int .i64 (partT B 3).kind, .int .u64 ((partT B 3).n : Int), str (partT B 3).s, .slice A3 (partT B 3).k k3, .bool (partT B 3).op] : Array Value).toList 0 hHeld (.inr HB6_n)
          have hZO := setCells_mod (w := y1) (W := y1) (S := [n6]) (b := n6) (#[.int .i64 (partT B 3).kind, .int .u64 ((partT B 3).n : Int), str (partT B 3).s, .slice A3 (partT B 3).k k3, .bool (partT B 3).op] : Array Value).toList 0 (Mod.refl _ _) (.inl (by simp))
          generalize hZ : World.setCells _ n6 0 _ = y2 at *
          clear hZ
          have HB5 := HB5.mod hZO (by simpa using n56)
          have HI1 := IsL.mod hZO (fun b hb _ => by have hb : b < w.heap.size := hb; have := HN2.out; have := HB6_n; simp; omega) _ HI1
          have HI3 := IsL.mod hZO (fun b hb _ => by have hb : b < w.heap.size := hb; have := HN2.out; have := HB6_n; simp; omega) _ HI3
          have HB6 := hZB
          refine hK.out _ _ hZM (fun hHeld => ?_)
          clear hK K hZB hZM hZO
          (try simp only [Act.put, List.getElem_toArray, List.getElem_cons_zero, List.getElem_cons_succ, List.setIfInBounds_toArray, List.set_cons_zero, List.set_cons_succ])
          refine wpAnyH_done (by kernel_rfl) ?_ _
          go_wp2_with fail
          go_meet
          exact ⟨n5, n6, A1, k1, A3, k3, rfl, rfl, hid ⟨hHeld, HB5, HB6, HB5_n, HB6_n, n56, HI1, HI3⟩⟩
      · have hlt56 : n5 < u1.heap.size := HB5.lt
        go_simp
        generalize hV : World.alloc u1 _ = u2
        have HB6 : Blk u2 u1.heap.size 64 #[.int .i64 0, .int .u64 0, .string ⟨#[]⟩, .slice none 0 0, .bool false] := by rw [← hV]; exact Blk.new _ _ _
        have hXX : Ext u1 u2 := by rw [← hV]; exact (Mod.refl [] _).alloc _
        have HB6_n : W2.heap.size ≤ u1.heap.size := hHeld.size
        clear hV
        have HB5 := HB5.ext hXX
        refine hK.out _ _ (hHeld.trans hXX) (fun hHeld => ?_)
        clear hK K
        (try simp only [Act.put, List.getElem_toArray, List.getElem_cons_zero, List.getElem_cons_succ, List.setIfInBounds_toArray, List.set_cons_zero, List.set_cons_succ])
        generalize hnn : u1.heap.size = n6 at *
        clear hnn
        refine wpAnyH_ready (rs := [1]) (by kernel_rfl) (by simp) ?_
        refine AllReadyH.cons rfl (fun K hK => ?_) AllReadyH.nil
        go_simp
        go_at_call 42
        refine (KP.out 0 (by decide) _ (HLB.out _ hHeld)).mono ?_
        rintro x u3 ⟨A1, k1, rfl, hb, hi⟩
        have HI1 := hi
        clear hi
        have HB5 := HB5.ext hb
        have HB6 := HB6.ext hb
        
        refine hK.out _ _ (hHeld.trans hb) (fun hHeld => ?_)
        clear hK K
        (try simp only [Act.put, List.getElem_toArray, List.getElem_cons_zero, List.getElem_cons_succ, List.setIfInBounds_toArray, List.set_cons_zero, List.set_cons_succ])
        refine wpAnyH_ready (rs := [3]) (by kernel_rfl) (by simp) ?_
        refine AllReadyH.cons rfl (fun K hK => ?_) AllReadyH.nil
        go_simp
        go_at_call 42
        refine (KP.out 3 (by decide) _ (HLB.out _ hHeld)).mono ?_
        rintro x u4 ⟨A3, k3, rfl, hb, hi⟩
        have HI3 := hi
        clear hi
        have HB5 := HB5.ext hb
        have HB6 := HB6.ext hb
        have HI1 := HI1.ext hb
        
        refine hK.out _ _ (hHeld.trans hb) (fun hHeld => ?_)
        clear hK K
        (try simp only [Act.put, List.getElem_toArray, List.getElem_cons_zero, List.getElem_cons_succ, List.setIfInBounds_toArray, List.set_cons_zero, List.set_cons_succ])
        have n56 : n5 ≠ n6 := Nat.ne_of_lt hlt56
        refine wpAnyH_ready (rs := [6]) (by kernel_rfl) (by simp) ?_
        refine AllReadyH.cons rfl (fun K hK => ?_) AllReadyH.nil
        refine wp_store_mid 64 _ _ rfl n5 0 #[.int .i64 (partT B 0).kind, .int .u64 ((partT B 0).n : Int), str (partT B 0).s, .slice A1 (partT B 0).k k1, .bool (partT B 0).op] (by rfl) (by rfl) (HB5.there (Nat.le_refl 5)) (by kernel_rfl) (by simp [Value.oneCell']) ?_
        have hZB := setCells_all (ds := #[.int .i64 (partT B 0).kind, .int .u64 ((partT B 0).n : Int), str (partT B 0).s, .slice A1 (partT B 0).k k1, .bool (partT B 0).op]) HB5 rfl
        have hZM := setCells_mod (b := n5) (#[.int .i64 (partT B 0).kind, .int .u64 ((partT B 0).n : Int), str (partT B 0).s, .slice A1 (partT B 0).k k1, .bool (partT B 0).op] : Array Value).toList 0 hHeld (.inr HB5_n)
        have hZO := setCells_mod (w := u4) (W := u4) (S := [n5]) (b := n5) (#[.int .i64 (partT B 0).kind, .int .u64 ((partT B 0).n : Int), str (partT B 0).s, .slice A1 (partT B 0).k k1, .bool (partT B 0).op] : Array Value).toList 0 (Mod.refl _ _) (.inl (by simp))
        generalize hZ : World.setCells _ n5 0 _ = y1 at *
        clear hZ
        have HB6 := HB6.mod hZO (by simpa using n56.symm)
        have HI1 := IsL.mod hZO (fun b hb _ => by have hb : b < w.heap.size := hb; have := HN2.out; have := HB5_n; simp; omega) _ HI1
        have HI3 := IsL.mod hZO (fun b hb _ => by have hb : b < w.heap.size := hb; have := HN2.out; have := HB5_n; simp; omega) _ HI3
        have HB5 := hZB
        refine hK.out _ _ hZM (fun hHeld => ?_)
        clear hK K hZB hZM hZO
        (try simp only [Act.put, List.getElem_toArray, List.getElem_cons_zero, List.getElem_cons_succ, List.setIfInBounds_toArray, List.set_cons_zero, List.set_cons_succ])
        refine wpAnyH_ready (rs := [7]) (by kernel_rfl) (by simp) ?_
        refine AllReadyH.cons rfl (fun K hK => ?_) AllReadyH.nil
        refine wp_store_mid 64 _ _ rfl n6 0 #[.int .i64 (partT B 3).kind, .int .u64 ((partT B 3).n : Int), str (partT B 3).s, .slice A3 (partT B 3).k k3, .bool (partT B 3).op] (by rfl) (by rfl) (HB6.there (Nat.le_refl 5)) (by kernel_rfl) (by simp [Value.oneCell']) ?_
        have hZB := setCells_all (ds := #[.int .i64 (partT B 3).kind, .int .u64 ((partT B 3).n : Int), str (partT B 3).s, .slice A3 (partT B 3).k k3, .bool (partT B 3).op]) HB6 rfl
        have hZM := setCells_mod (b := n6) (#[.int .i64 (partT B 3).kind, .int .u64 ((partT B 3).n : Int), str (partT B 3).s, .slice A3 (partT B 3).k k3, .bool (partT B 3).op] : Array Value).toList 0 hHeld (.inr HB6_n)
        have hZO := setCells_mod (w := y1) (W := y1) (S := [n6]) (b := n6) (#[.int .i64 (partT B 3).kind, .int .u64 ((partT B 3).n : Int), str (partT B 3).s, .slice A3 (partT B 3).k k3, .bool (partT B 3).op] : Array Value).toList 0 (Mod.refl _ _) (.inl (by simp))
        generalize hZ : World.setCells _ n6 0 _ = y2 at *
        clear hZ
        have HB5 := HB5.mod hZO (by simpa using n56)
        have HI1 := IsL.mod hZO (fun b hb _ => by have hb : b < w.heap.size := hb; have := HN2.out; have := HB6_n; simp; omega) _ HI1
        have HI3 := IsL.mod hZO (fun b hb _ => by have hb : b < w.heap.size := hb; have := HN2.out; have := HB6_n; simp; omega) _ HI3
        have HB6 := hZB
        refine hK.out _ _ hZM (fun hHeld => ?_)
        clear hK K hZB hZM hZO
        (try simp only [Act.put, List.getElem_toArray, List.getElem_cons_zero, List.getElem_cons_succ, List.setIfInBounds_toArray, List.set_cons_zero, List.set_cons_succ])
        refine wpAnyH_done (by kernel_rfl) ?_ _
        go_wp2_with fail
        go_meet
        exact ⟨n5, n6, A1, k1, A3, k3, rfl, rfl, hid ⟨hHeld, HB5, HB6, HB5_n, HB6_n, n56, HI1, HI3⟩⟩
    · go_simp
      generalize hV : World.alloc u0 _ = u1
      have HB6 : Blk u1 u0.heap.size 64 #[.int .i64 0, .int .u64 0, .string ⟨#[]⟩, .slice none 0 0, .bool false] := by rw [← hV]; exact Blk.new _ _ _
      have hXX : Ext u0 u1 := by rw [← hV]; exact (Mod.refl [] _).alloc _
      have HB6_n : W2.heap.size ≤ u0.heap.size := hHeld.size
      clear hV
      refine hK.out _ _ (hHeld.trans hXX) (fun hHeld => ?_)
      clear hK K
      (try simp only [Act.put, List.getElem_toArray, List.getElem_cons_zero, List.getElem_cons_succ, List.setIfInBounds_toArray, List.set_cons_zero, List.set_cons_succ])
      generalize hnn : u0.heap.size = n6 at *
      clear hnn
      refine wpAnyH_ready (rs := [1, 4]) (by kernel_rfl) (by simp) ?_
      refine AllReadyH.cons rfl (fun K hK => ?_) (AllReadyH.cons rfl (fun K hK => ?_) AllReadyH.nil)
      · go_simp
        go_at_call 42
        refine (KP.out 0 (by decide) _ (HLB.out _ hHeld)).mono ?_
        rintro x u2 ⟨A1, k1, rfl, hb, hi⟩
        have HI1 := hi
        clear hi
        have HB6 := HB6.ext hb
        
        refine hK.out _ _ (hHeld.trans hb) (fun hHeld => ?_)
        clear hK K
        (try simp only [Act.put, List.getElem_toArray, List.getElem_cons_zero, List.getElem_cons_succ, List.setIfInBounds_toArray, List.set_cons_zero, List.set_cons_succ])
        refine wpAnyH_ready (rs := [3, 4]) (by kernel_rfl) (by simp) ?_
        refine AllReadyH.cons rfl (fun K hK => ?_) (AllReadyH.cons rfl (fun K hK => ?_) AllReadyH.nil)
        · go_simp
          go_at_call 42
          refine (KP.out 3 (by decide) _ (HLB.out _ hHeld)).mono ?_
          rintro x u3 ⟨A3, k3, rfl, hb, hi⟩
          have HI3 := hi
          clear hi
          have HB6 := HB6.ext hb
          have HI1 := HI1.ext hb
          
          refine hK.out _ _ (hHeld.trans hb) (fun hHeld => ?_)
          clear hK K
          (try simp only [Act.put, List.getElem_toArray, List.getElem_cons_zero, List.getElem_cons_succ, List.setIfInBounds_toArray, List.set_cons_zero, List.set_cons_succ])
          refine wpAnyH_ready (rs := [4]) (by kernel_rfl) (by simp) ?_
          refine AllReadyH.cons rfl (fun K hK => ?_) AllReadyH.nil
          have hlt56 : n6 < u3.heap.size := HB6.lt
          go_simp
          generalize hV : World.alloc u3 _ = u4
          have HB5 : Blk u4 u3.heap.size 64 #[.int .i64 0, .int .u64 0, .string ⟨#[]⟩, .slice none 0 0, .bool false] := by rw [← hV]; exact Blk.new _ _ _
          have hXX : Ext u3 u4 := by rw [← hV]; exact (Mod.refl [] _).alloc _
          have HB5_n : W2.heap.size ≤ u3.heap.size := hHeld.size
          clear hV
          have HB6 := HB6.ext hXX
          have HI1 := HI1.ext hXX
          have HI3 := HI3.ext hXX
          refine hK.out _ _ (hHeld.trans hXX) (fun hHeld => ?_)
          clear hK K
          (try simp only [Act.put, List.getElem_toArray, List.getElem_cons_zero, List.getElem_cons_succ, List.setIfInBounds_toArray, List.set_cons_zero, List.set_cons_succ])
          generalize hnn : u3.heap.size = n5 at *
          clear hnn
          have n56 : n5 ≠ n6 := Nat.ne_of_gt hlt56
          refine wpAnyH_ready (rs := [6]) (by kernel_rfl) (by simp) ?_
          refine AllReadyH.cons rfl (fun K hK => ?_) AllReadyH.nil
          refine wp_store_mid 64 _ _ rfl n5 0 #[.int .i64 (partT B 0).kind, .int .u64 ((partT B 0).n : Int), str (partT B 0).s, .slice A1 (partT B 0).k k1, .bool (partT B 0).op] (by rfl) (by rfl) (HB5.there (Nat.le_refl 5)) (by kernel_rfl) (by simp [Value.oneCell']) ?_
          have hZB := setCells_all (ds := #[.int .i64 (partT B 0).kind, .int .u64 ((partT B 0).n : Int), str (partT B 0).s, .slice A1 (partT B 0).k k1, .bool (partT B 0).op]) HB5 rfl
          have hZM := setCells_mod (b := n5) (#[.int .i64 (partT B 0).kind, .int .u64 ((partT B 0).n : Int), str (partT B 0).s, .slice A1 (partT B 0).k k1, .bool (partT B 0).op] : Array Value).toList 0 hHeld (.inr HB5_n)
          have hZO := setCells_mod (w := u4) (W := u4) (S := [n5]) (b := n5) (#[.int .i64 (partT B 0).kind, .int .u64 ((partT B 0).n : Int), str (partT B 0).s, .slice A1 (partT B 0).k k1, .bool (partT B 0).op] : Array Value).toList 0 (Mod.refl _ _) (.inl (by simp))
          generalize hZ : World.setCells _ n5 0 _ = y1 at *
          clear hZ
          have HB6 := HB6.mod hZO (by simpa using n56.symm)
          have HI1 := IsL.mod hZO (fun b hb _ => by have hb : b < w.heap.size := hb; have := HN2.out; have := HB5_n; simp; omega) _ HI1
          have HI3 := IsL.mod hZO (fun b hb _ => by have hb : b < w.heap.size := hb; have := HN2.out; have := HB5_n; simp; omega) _ HI3
          have HB5 := hZB
          refine hK.out _ _ hZM (fun hHeld => ?_)
          clear hK K hZB hZM hZO
          (try simp only [Act.put, List.getElem_toArray, List.getElem_cons_zero, List.getElem_cons_succ, List.setIfInBounds_toArray, List.set_cons_zero, List.set_cons_succ])
          refine wpAnyH_ready (rs := [7]) (by kernel_rfl) (by simp) ?_
          refine AllReadyH.cons rfl (fun K hK => ?_) AllReadyH.nil
          refine wp_store_mid 64 _ _ rfl n6 0 #[.int .i64 (partT B 3).kind, .int .u64 ((partT B 3).n : Int), str (partT B 3).s, .slice A3 (partT B 3).k k3, .bool (partT B 3).op] (by rfl) (by rfl) (HB6.there (Nat.le_refl 5)) (by kernel_rfl) (by simp [Value.oneCell']) ?_
          have hZB := setCells_all (ds := #[.int .i64 (partT B 3).kind, .int .u64 ((partT B 3).n : Int), str (partT B 3).s, .slice A3 (partT B 3).k k3, .bool (partT B 3).op]) HB6 rfl
          have hZM := setCells_mod (b := n6) (#[.int .i64 (partT B 3).kind, .int .u64 ((partT B 3).n : Int), str (partT B 3).s, .slice A3 (partT B 3).k k3, .bool (partT B 3).op] : Array Value).toList 0 hHeld (.inr HB6_n)
          have hZO := setCells_mod (w := y1) (W := y1) (S := [n6]) (b := n6) (#[.int .i64 (partT B 3).kind, .int .u64 ((partT B 3).n : Int), str (partT B 3).s, .slice A3 (partT B 3).k k3, .bool (partT B 3).op] : Array Value).toList 0 (Mod.refl _ _) (.inl (by simp))
          generalize hZ : World.setCells _ n6 0 _ = y2 at *
          clear hZ
          have HB5 := HB5.mod hZO (by simpa using n56)
          have HI1 := IsL.mod hZO (fun b hb _ => by have hb : b < w.heap.size := hb; have := HN2.out; have := HB6_n; simp; omega) _ HI1
          have HI3 := IsL.mod hZO (fun b hb _ => by have hb : b < w.heap.size := hb; have := HN2.out; have := HB6_n; simp; omega) _ HI3
          have HB6 := hZB
          refine hK.out _ _ hZM (fun hHeld => ?_)
          clear hK K hZB hZM hZO
          (try simp only [Act.put, List.getElem_toArray, List.getElem_cons_zero, List.getElem_cons_succ, List.setIfInBounds_toArray, List.set_cons_zero, List.set_cons_succ])
          refine wpAnyH_done (by kernel_rfl) ?_ _
          go_wp2_with fail
          go_meet
          exact ⟨n5, n6, A1, k1, A3, k3, rfl, rfl, hid ⟨hHeld, HB5, HB6, HB5_n, HB6_n, n56, HI1, HI3⟩⟩
        · have hlt56 : n6 < u2.heap.size := HB6.lt
          go_simp
          generalize hV : World.alloc u2 _ = u3
          have HB5 : Blk u3 u2.heap.size 64 #[.int .i64 0, .int .u64 0, .string ⟨#[]⟩, .slice none 0 0, .bool false] := by rw [← hV]; exact Blk.new _ _ _
          have hXX : Ext u2 u3 := by rw [← hV]; exact (Mod.refl [] _).alloc _
          have HB5_n : W2.heap.size ≤ u2.heap.size := hHeld.size
          clear hV
          have HB6 := HB6.ext hXX
          have HI1 := HI1.ext hXX
          refine hK.out _ _ (hHeld.trans hXX) (fun hHeld => ?_)
          clear hK K
          (try simp only [Act.put, List.getElem_toArray, List.getElem_cons_zero, List.getElem_cons_succ, List.setIfInBounds_toArray, List.set_cons_zero, List.set_cons_succ])
          generalize hnn : u2.heap.size = n5 at *
          clear hnn
          refine wpAnyH_ready (rs := [3]) (by kernel_rfl) (by simp) ?_
          refine AllReadyH.cons rfl (fun K hK => ?_) AllReadyH.nil
          go_simp
          go_at_call 42
          refine (KP.out 3 (by decide) _ (HLB.out _ hHeld)).mono ?_
          rintro x u4 ⟨A3, k3, rfl, hb, hi⟩
          have HI3 := hi
          clear hi
          have HB6 := HB6.ext hb
          have HI1 := HI1.ext hb
          have HB5 := HB5.ext hb
          
          refine hK.out _ _ (hHeld.trans hb) (fun hHeld => ?_)
          clear hK K
          (try simp only [Act.put, List.getElem_toArray, List.getElem_cons_zero, List.getElem_cons_succ, List.setIfInBounds_toArray, List.set_cons_zero, List.set_cons_succ])
          have n56 : n5 ≠ n6 := Nat.ne_of_gt hlt56
          refine wpAnyH_ready (rs := [6]) (by kernel_rfl) (by simp) ?_
          refine AllReadyH.cons rfl (fun K hK => ?_) AllReadyH.nil
          refine wp_store_mid 64 _ _ rfl n5 0 #[.int .i64 (partT B 0).kind, .int .u64 ((partT B 0).n : Int), str (partT B 0).s, .slice A1 (partT B 0).k k1, .bool (partT B 0).op] (by rfl) (by rfl) (HB5.there (Nat.le_refl 5)) (by kernel_rfl) (by simp [Value.oneCell']) ?_
          have hZB := setCells_all (ds := #[.int .i64 (partT B 0).kind, .int .u64 ((partT B 0).n : Int), str (partT B 0).s, .slice A1 (partT B 0).k k1, .bool (partT B 0).op]) HB5 rfl
          have hZM := setCells_mod (b := n5) (#[.int .i64 (partT B 0).kind, .int .u64 ((partT B 0).n : Int), str (partT B 0).s, .slice A1 (partT B 0).k k1, .bool (partT B 0).op] : Array Value).toList 0 hHeld (.inr HB5_n)
          have hZO := setCells_mod (w := u4) (W := u4) (S := [n5]) (b := n5) (#[.int .i64 (partT B 0).kind, .int .u64 ((partT B 0).n : Int), str (partT B 0).s, .slice A1 (partT B 0).k k1, .bool (partT B 0).op] : Array Value).toList 0 (Mod.refl _ _) (.inl (by simp))
          generalize hZ : World.setCells _ n5 0 _ = y1 at *
          clear hZ
          have HB6 := HB6.mod hZO (by simpa using n56.symm)
          have HI1 := IsL.mod hZO (fun b hb _ => by have hb : b < w.heap.size := hb; have := HN2.out; have := HB5_n; simp; omega) _ HI1
          have HI3 := IsL.mod hZO (fun b hb _ => by have hb : b < w.heap.size := hb; have := HN2.out; have := HB5_n; simp; omega) _ HI3
          have HB5 := hZB
          refine hK.out _ _ hZM (fun hHeld => ?_)
          clear hK K hZB hZM hZO
          (try simp only [Act.put, List.getElem_toArray, List.getElem_cons_zero, List.getElem_cons_succ, List.setIfInBounds_toArray, List.set_cons_zero, List.set_cons_succ])
          refine wpAnyH_ready (rs := [7]) (by kernel_rfl) (by simp) ?_
          refine AllReadyH.cons rfl (fun K hK => ?_) AllReadyH.nil
          refine wp_store_mid 64 _ _ rfl n6 0 #[.int .i64 (partT B 3).kind, .int .u64 ((partT B 3).n : Int), str (partT B 3).s, .slice A3 (partT B 3).k k3, .bool (partT B 3).op] (by rfl) (by rfl) (HB6.there (Nat.le_refl 5)) (by kernel_rfl) (by simp [Value.oneCell']) ?_
          have hZB := setCells_all (ds := #[.int .i64 (partT B 3).kind, .int .u64 ((partT B 3).n : Int), str (partT B 3).s, .slice A3 (partT B 3).k k3, .bool (partT B 3).op]) HB6 rfl
          have hZM := setCells_mod (b := n6) (#[.int .i64 (partT B 3).kind, .int .u64 ((partT B 3).n : Int), str (partT B 3).s, .slice A3 (partT B 3).k k3, .bool (partT B 3).op] : Array Value).toList 0 hHeld (.inr HB6_n)
          have hZO := setCells_mod (w := y1) (W := y1) (S := [n6]) (b := n6) (#[.int .i64 (partT B 3).kind, .int .u64 ((partT B 3).n : Int), str (partT B 3).s, .slice A3 (partT B 3).k k3, .bool (partT B 3).op] : Array Value).toList 0 (Mod.refl _ _) (.inl (by simp))
          generalize hZ : World.setCells _ n6 0 _ = y2 at *
          clear hZ
          have HB5 := HB5.mod hZO (by simpa using n56)
          have HI1 := IsL.mod hZO (fun b hb _ => by have hb : b < w.heap.size := hb; have := HN2.out; have := HB6_n; simp; omega) _ HI1
          have HI3 := IsL.mod hZO (fun b hb _ => by have hb : b < w.heap.size := hb; have := HN2.out; have := HB6_n; simp; omega) _ HI3
          have HB6 := hZB
          refine hK.out _ _ hZM (fun hHeld => ?_)
          clear hK K hZB hZM hZO
          (try simp only [Act.put, List.getElem_toArray, List.getElem_cons_zero, List.getElem_cons_succ, List.setIfInBounds_toArray, List.set_cons_zero, List.set_cons_succ])
          refine wpAnyH_done (by kernel_rfl) ?_ _
          go_wp2_with fail
          go_meet
          exact ⟨n5, n6, A1, k1, A3, k3, rfl, rfl, hid ⟨hHeld, HB5, HB6, HB5_n, HB6_n, n56, HI1, HI3⟩⟩
      · have hlt56 : n6 < u1.heap.size := HB6.lt
        go_simp
        generalize hV : World.alloc u1 _ = u2
        have HB5 : Blk u2 u1.heap.size 64 #[.int .i64 0, .int .u64 0, .string ⟨#[]⟩, .slice none 0 0, .bool false] := by rw [← hV]; exact Blk.new _ _ _
        have hXX : Ext u1 u2 := by rw [← hV]; exact (Mod.refl [] _).alloc _
        have HB5_n : W2.heap.size ≤ u1.heap.size := hHeld.size
        clear hV
        have HB6 := HB6.ext hXX
        refine hK.out _ _ (hHeld.trans hXX) (fun hHeld => ?_)
        clear hK K
        (try simp only [Act.put, List.getElem_toArray, List.getElem_cons_zero, List.getElem_cons_succ, List.setIfInBounds_toArray, List.set_cons_zero, List.set_cons_succ])
        generalize hnn : u1.heap.size = n5 at *
        clear hnn
        refine wpAnyH_ready (rs := [1]) (by kernel_rfl) (by simp) ?_
        refine AllReadyH.cons rfl (fun K hK => ?_) AllReadyH.nil
        go_simp
        go_at_call 42
        refine (KP.out 0 (by decide) _ (HLB.out _ hHeld)).mono ?_
        rintro x u3 ⟨A1, k1, rfl, hb, hi⟩
        have HI1 := hi
        clear hi
        have HB6 := HB6.ext hb
        have HB5 := HB5.ext hb
        
        refine hK.out _ _ (hHeld.trans hb) (fun hHeld => ?_)
        clear hK K
        (try simp only [Act.put, List.getElem_toArray, List.getElem_cons_zero, List.getElem_cons_succ, List.setIfInBounds_toArray, List.set_cons_zero, List.set_cons_succ])
        refine wpAnyH_ready (rs := [3]) (by kernel_rfl) (by simp) ?_
        refine AllReadyH.cons rfl (fun K hK => ?_) AllReadyH.nil
        go_simp
        go_at_call 42
        refine (KP.out 3 (by decide) _ (HLB.out _ hHeld)).mono ?_
        rintro x u4 ⟨A3, k3, rfl, hb, hi⟩
        have HI3 := hi
        clear hi
        have HB6 := HB6.ext hb
        have HB5 := HB5.ext hb
        have HI1 := HI1.ext hb
        
        refine hK.out _ _ (hHeld.trans hb) (fun hHeld => ?_)
        clear hK K
        (try simp only [Act.put, List.getElem_toArray, List.getElem_cons_zero, List.getElem_cons_succ, List.setIfInBounds_toArray, List.set_cons_zero, List.set_cons_succ])
        have n56 : n5 ≠ n6 := Nat.ne_of_gt hlt56
        refine wpAnyH_ready (rs := [6]) (by kernel_rfl) (by simp) ?_
        refine AllReadyH.cons rfl (fun K hK => ?_) AllReadyH.nil
        refine wp_store_mid 64 _ _ rfl n5 0 #[.int .i64 (partT B 0).kind, .int .u64 ((partT B 0).n : Int), str (partT B 0).s, .slice A1 (partT B 0).k k1, .bool (partT B 0).op] (by rfl) (by rfl) (HB5.there (Nat.le_refl 5)) (by kernel_rfl) (by simp [Value.oneCell']) ?_
        have hZB := setCells_all (ds := #[.int .i64 (partT B 0).kind, .int .u64 ((partT B 0).n : Int), str (partT B 0).s, .slice A1 (partT B 0).k k1, .bool (partT B 0).op]) HB5 rfl
        have hZM := setCells_mod (b := n5) (#[.int .i64 (partT B 0).kind, .int .u64 ((partT B 0).n : Int), str (partT B 0).s, .slice A1 (partT B 0).k k1, .bool (partT B 0).op] : Array Value).toList 0 hHeld (.inr HB5_n)
        have hZO := setCells_mod (w := u4) (W := u4) (S := [n5]) (b := n5) (#[.int .i64 (partT B 0).kind, .int .u64 ((partT B 0).n : Int), str (partT B 0).s, .slice A1 (partT B 0).k k1, .bool (partT B 0).op] : Array Value).toList 0 (Mod.refl _ _) (.inl (by simp))
        generalize hZ : World.setCells _ n5 0 _ = y1 at *
        clear hZ
        have HB6 := HB6.mod hZO (by simpa using n56.symm)
        have HI1 := IsL.mod hZO (fun b hb _ => by have hb : b < w.heap.size := hb; have := HN2.out; have := HB5_n; simp; omega) _ HI1
        have HI3 := IsL.mod hZO (fun b hb _ => by have hb : b < w.heap.size := hb; have := HN2.out; have := HB5_n; simp; omega) _ HI3
        have HB5 := hZB
        refine hK.out _ _ hZM (fun hHeld => ?_)
        clear hK K hZB hZM hZO
        (try simp only [Act.put, List.getElem_toArray, List.getElem_cons_zero, List.getElem_cons_succ, List.setIfInBounds_toArray, List.set_cons_zero, List.set_cons_succ])
        refine wpAnyH_ready (rs := [7]) (by kernel_rfl) (by simp) ?_
        refine AllReadyH.cons rfl (fun K hK => ?_) AllReadyH.nil
        refine wp_store_mid 64 _ _ rfl n6 0 #[.int .i64 (partT B 3).kind, .int .u64 ((partT B 3).n : Int), str (partT B 3).s, .slice A3 (partT B 3).k k3, .bool (partT B 3).op] (by rfl) (by rfl) (HB6.there (Nat.le_refl 5)) (by kernel_rfl) (by simp [Value.oneCell']) ?_
        have hZB := setCells_all (ds := #[.int .i64 (partT B 3).kind, .int .u64 ((partT B 3).n : Int), str (partT B 3).s, .slice A3 (partT B 3).k k3, .bool (partT B 3).op]) HB6 rfl
        have hZM := setCells_mod (b := n6) (#[.int .i64 (partT B 3).kind, .int .u64 ((partT B 3).n : Int), str (partT B 3).s, .slice A3 (partT B 3).k k3, .bool (partT B 3).op] : Array Value).toList 0 hHeld (.inr HB6_n)
        have hZO := setCells_mod (w := y1) (W := y1) (S := [n6]) (b := n6) (#[.int .i64 (partT B 3).kind, .int .u64 ((partT B 3).n : Int), str (partT B 3).s, .slice A3 (partT B 3).k k3, .bool (partT B 3).op] : Array Value).toList 0 (Mod.refl _ _) (.inl (by simp))
        generalize hZ : World.setCells _ n6 0 _ = y2 at *
        clear hZ
        have HB5 := HB5.mod hZO (by simpa using n56)
        have HI1 := IsL.mod hZO (fun b hb _ => by have hb : b < w.heap.size := hb; have := HN2.out; have := HB6_n; simp; omega) _ HI1
        have HI3 := IsL.mod hZO (fun b hb _ => by have hb : b < w.heap.size := hb; have := HN2.out; have := HB6_n; simp; omega) _ HI3
        have HB6 := hZB
        refine hK.out _ _ hZM (fun hHeld => ?_)
        clear hK K hZB hZM hZO
        (try simp only [Act.put, List.getElem_toArray, List.getElem_cons_zero, List.getElem_cons_succ, List.setIfInBounds_toArray, List.set_cons_zero, List.set_cons_succ])
        refine wpAnyH_done (by kernel_rfl) ?_ _
        go_wp2_with fail
        go_meet
        exact ⟨n5, n6, A1, k1, A3, k3, rfl, rfl, hid ⟨hHeld, HB5, HB6, HB5_n, HB6_n, n56, HI1, HI3⟩⟩
  obtain ⟨n5, n6, A1, k1, A3, k3, rfl, rfl, hG⟩ := hcut
  have HXc := hid (HX2.out.trans hG.out.1)
  have HB0 := hid (HB0.out.ext HXc.out)
  have HB1 := hid (HB1.out.ext HXc.out)
  have HB2 : Hid (Blk wc (w.heap.size + 2) 29 (repC ⟨false, false, 0, ⟨zeroE, 0, 0, false, 0, 0⟩⟩)) := hid (HB2.out.ext HXc.out)
  have HB4 := hid (HB4.out.ext hG.out.1)
  have HB5 := hid hG.out.2.1
  have HB6 := hid hG.out.2.2.1
  have HI5 := hid hG.out.2.2.2.2.2.2.1
  have HI6 := hid hG.out.2.2.2.2.2.2.2
  have HIB := hid (HLB.out wc hG.out.1)
  have HE := hid (HE.out.trans HXc.out)
  have hR4 : n4 ∉ [w.heap.size + 2] := by have := HN4.out; have := HS.out; simp; omega
  have hR5 : n5 ∉ [w.heap.size + 2] := by have := hG.out.2.2.2.1; have := HN2.out; simp; omega
  have hR6 : n6 ∉ [w.heap.size + 2] := by have := hG.out.2.2.2.2.1; have := HN2.out; simp; omega
  have HR4 := hid hR4
  have HR5 := hid hR5
  have HR6 := hid hR6
  clear hR4 hR5 hR6 hG HXc HX2 HLB HN4 HN2 HS
  have hokA := partT_ok hok1 0
  have hokW := partT_ok hok1 3
  have KA : Hid (∀ i, i < 1000 → ∀ W, IsL W (fun b => b < w.heap.size) (partT B 0) A1 → _) := hid (fun i hi W hW => part_any (partT B 0) i hi (T.k_lt hokA) (fun b => b < w.heap.size) A1 k1 W hW)
  have KW : Hid (∀ i, i < 1000 → ∀ W, IsL W (fun b => b < w.heap.size) (partT B 3) A3 → _) := hid (fun i hi W hW => part_any (partT B 3) i hi (T.k_lt hokW) (fun b => b < w.heap.size) A3 k3 W hW)
  have HM5 : Hid (∀ W, Mod [w.heap.size + 2] wc W → IsL W (fun b => b < w.heap.size) (partT B 0) A1) := hid (fun W hW => IsL.mod hW (fun b hb _ => by have hb : b < w.heap.size := hb; simp; omega) _ HI5.out)
  have HM6 : Hid (∀ W, Mod [w.heap.size + 2] wc W → IsL W (fun b => b < w.heap.size) (partT B 3) A3) := hid (fun W hW => IsL.mod hW (fun b hb _ => by have hb : b < w.heap.size := hb; simp; omega) _ HI6.out)
  have HMB : Hid (∀ W, Mod [w.heap.size + 2] wc W → IsL W (fun b => b < w.heap.size) B Ab) := hid (fun W hW => IsL.mod hW (fun b hb _ => by have hb : b < w.heap.size := hb; simp; omega) _ HIB.out)
  clear HI5 HI6 HIB
  go_upto_region 4 with fail
  refine wp_region_held_drew (S := fun w' => Mod [(w.heap.size + 2)] wc w') (by kernel_rfl) (Mod.refl _ _).drew (fun hHeld => ?_)
  have HBk := HB2.out.drew
  generalize wc.drew = u0 at *
  refine wpAnyH_take (i := 0) rfl (by kernel_rfl) (by kernel_rfl) (by kernel_rfl) (fun _ _ _ h => h) (yieldsIf_row (by rfl) 64 _ rfl _ rfl (fun W hM => HB5.out.mod hM HR5.out) Tryz.underlying64 rfl (by kernel_rfl)) hHeld ?_
  (try simp only [Act.put, List.getElem_toArray, List.getElem_cons_zero, List.getElem_cons_succ, List.setIfInBounds_toArray, List.set_cons_zero, List.set_cons_succ])
  refine wpAnyH_take (i := 4) rfl (by kernel_rfl) (by kernel_rfl) (by kernel_rfl) (fun _ _ _ h => h) (yieldsIf_row (by rfl) 64 _ rfl _ rfl (fun W hM => HB5.out.mod hM HR5.out) Tryz.underlying64 rfl (by kernel_rfl)) hHeld ?_
  (try simp only [Act.put, List.getElem_toArray, List.getElem_cons_zero, List.getElem_cons_succ, List.setIfInBounds_toArray, List.set_cons_zero, List.set_cons_succ])
  refine wpAnyH_ready (rs := [1]) (by kernel_rfl) (by simp) ?_
  refine AllReadyH.cons rfl (fun K hK => ?_) AllReadyH.nil
  go_simp
  go_at_call 42
  refine (KA.out 0 (by decide) _ (HM5.out _ hHeld)).mono ?_
  rintro x u1 ⟨a1, b1, rfl, hb, _⟩
  have HBk := HBk.ext hb
  refine hK.out _ _ (hHeld.trans (hb.mono (by simp))) (fun hHeld => ?_)
  clear hK K
  (try simp only [Act.put, List.getElem_toArray, List.getElem_cons_zero, List.getElem_cons_succ, List.setIfInBounds_toArray, List.set_cons_zero, List.set_cons_succ])
  refine' wpAnyH_take (i := 2) (v := .int .u64 ((partT (partT B 0) 0).n : Int)) rfl (by kernel_rfl) (by kernel_rfl) (by kernel_rfl) (fun _ _ _ h => h) (Or.inl ⟨by rfl, fun W hM => ?hf1⟩) hHeld ?rf1
  case hf1 => first | kernel_rfl | rfl
  case rf1 =>
  (try simp only [Act.put, List.getElem_toArray, List.getElem_cons_zero, List.getElem_cons_succ, List.setIfInBounds_toArray, List.set_cons_zero, List.set_cons_succ])
  refine' wpAnyH_take (i := 3) (v := _) rfl (by kernel_rfl) (by kernel_rfl) (by kernel_rfl) (fun _ _ _ h => h) (Or.inl ⟨by rfl, ?hy1⟩) hHeld ?rest1
  case hy1 => (rintro W hM; go_simp; (try with_reducible rfl))
  case rest1 =>
  (try simp only [Act.put, List.getElem_toArray, List.getElem_cons_zero, List.getElem_cons_succ, List.setIfInBounds_toArray, List.set_cons_zero, List.set_cons_succ])
  refine wpAnyH_ready (rs := [5]) (by kernel_rfl) (by simp) ?_
  refine AllReadyH.cons rfl (fun K hK => ?_) AllReadyH.nil
  go_simp
  go_at_call 42
  refine (KA.out 1 (by decide) _ (HM5.out _ hHeld)).mono ?_
  rintro x u2 ⟨a5, b5, rfl, hb, _⟩
  have HBk := HBk.ext hb
  refine hK.out _ _ (hHeld.trans (hb.mono (by simp))) (fun hHeld => ?_)
  clear hK K
  (try simp only [Act.put, List.getElem_toArray, List.getElem_cons_zero, List.getElem_cons_succ, List.setIfInBounds_toArray, List.set_cons_zero, List.set_cons_succ])
  refine' wpAnyH_take (i := 6) (v := .int .u64 ((partT (partT B 0) 1).n : Int)) rfl (by kernel_rfl) (by kernel_rfl) (by kernel_rfl) (fun _ _ _ h => h) (Or.inl ⟨by rfl, fun W hM => ?hf5⟩) hHeld ?rf5
  case hf5 => first | kernel_rfl | rfl
  case rf5 =>
  (try simp only [Act.put, List.getElem_toArray, List.getElem_cons_zero, List.getElem_cons_succ, List.setIfInBounds_toArray, List.set_cons_zero, List.set_cons_succ])
  refine' wpAnyH_take (i := 7) (v := _) rfl (by kernel_rfl) (by kernel_rfl) (by kernel_rfl) (fun _ _ _ h => h) (Or.inl ⟨by rfl, ?hy2⟩) hHeld ?rest2
  case hy2 => (rintro W hM; go_simp; (try with_reducible rfl))
  case rest2 =>
  (try simp only [Act.put, List.getElem_toArray, List.getElem_cons_zero, List.getElem_cons_succ, List.setIfInBounds_toArray, List.set_cons_zero, List.set_cons_succ])
  refine' wpAnyH_take (i := 8) (v := _) rfl (by kernel_rfl) (by kernel_rfl) (by kernel_rfl) (fun _ _ _ h => h) (Or.inl ⟨by rfl, ?hy3⟩) hHeld ?rest3
  case hy3 => (rintro W hM; go_simp; (try with_reducible rfl))
  case rest3 =>
  (try simp only [Act.put, List.getElem_toArray, List.getElem_cons_zero, List.getElem_cons_succ, List.setIfInBounds_toArray, List.set_cons_zero, List.set_cons_succ])
  refine wpAnyH_ready (rs := [9]) (by kernel_rfl) (by simp) ?_
  refine AllReadyH.cons rfl (fun K hK => ?_) AllReadyH.nil
  have c0 : u2.cell? ⟨(w.heap.size + 2), 0, none⟩ = some (.bool false) := HBk.cell 0
  have f0 : u2.frozen? ⟨(w.heap.size + 2), 0, none⟩ = false := HBk.frozen 0
  go_simp
  have HBn := HBk.set_ 0 (.bool (((partT (partT B 0) 0).n : Int) == 1))
  have hM1 := Mod.setCell hHeld (p := ⟨(w.heap.size + 2), 0, none⟩) (.inl (by simp)) (.bool (((partT (partT B 0) 0).n : Int) == 1))
  generalize World.setCell u2 ⟨(w.heap.size + 2), 0, none⟩ (.bool (((partT (partT B 0) 0).n : Int) == 1)) = u3 at HBn hM1 ⊢
  refine hK.out _ _ hM1 (fun hHeld => ?_)
  clear hK K c0 f0 hM1 HBk
  (try simp only [Act.put, List.getElem_toArray, List.getElem_cons_zero, List.getElem_cons_succ, List.setIfInBounds_toArray, List.set_cons_zero, List.set_cons_succ])
  have HBk := HBn
  clear HBn
  refine' wpAnyH_take (i := 10) (v := _) rfl (by kernel_rfl) (by kernel_rfl) (by kernel_rfl) (fun _ _ _ h => h) (Or.inl ⟨by rfl, ?hy4⟩) hHeld ?rest4
  case hy4 => (rintro W hM; go_simp; (try with_reducible rfl))
  case rest4 =>
  (try simp only [Act.put, List.getElem_toArray, List.getElem_cons_zero, List.getElem_cons_succ, List.setIfInBounds_toArray, List.set_cons_zero, List.set_cons_succ])
  refine wpAnyH_ready (rs := [11]) (by kernel_rfl) (by simp) ?_
  refine AllReadyH.cons rfl (fun K hK => ?_) AllReadyH.nil
  have c0 : u3.cell? ⟨(w.heap.size + 2), 1, none⟩ = some (.bool false) := HBk.cell 1
  have f0 : u3.frozen? ⟨(w.heap.size + 2), 1, none⟩ = false := HBk.frozen 1
  go_simp
  have HBn := HBk.set_ 1 (.bool (((partT (partT B 0) 1).n : Int) == 1))
  have hM1 := Mod.setCell hHeld (p := ⟨(w.heap.size + 2), 1, none⟩) (.inl (by simp)) (.bool (((partT (partT B 0) 1).n : Int) == 1))
  generalize World.setCell u3 ⟨(w.heap.size + 2), 1, none⟩ (.bool (((partT (partT B 0) 1).n : Int) == 1)) = u4 at HBn hM1 ⊢
  refine hK.out _ _ hM1 (fun hHeld => ?_)
  clear hK K c0 f0 hM1 HBk
  (try simp only [Act.put, List.getElem_toArray, List.getElem_cons_zero, List.getElem_cons_succ, List.setIfInBounds_toArray, List.set_cons_zero, List.set_cons_succ])
  have HBk := HBn
  clear HBn
  refine wpAnyH_done (by kernel_rfl) ?_ _
  have hbc : ∀ n : Nat, ((n : Int) == 1) = decide (n = 1) := fun n => by rw [Bool.eq_iff_iff]; simp; omega
  have HBk : Hid (Blk u4 (w.heap.size + 2) 29 (repC ⟨decide ((partT (partT B 0) 0).n = 1), decide ((partT (partT B 0) 1).n = 1), 0, ⟨zeroE, 0, 0, false, 0, 0⟩⟩)) := hid (by rw [← hbc, ← hbc]; exact HBk)
  have HM4 := hid hHeld
  clear hHeld hbc
  generalize hbh : decide ((partT (partT B 0) 0).n = 1) = bh at *
  generalize hbg : decide ((partT (partT B 0) 1).n = 1) = bg at *
  have Hbh := hid hbh
  have Hbg := hid hbg
  clear hbh hbg
  have HBB4 : Hid (∀ e : Later u4, Blk e.x n4 64 (itemC B Ab kb)) := hid (fun e => (HB4.out.mod HM4.out HR4.out).later e)
  obtain ⟨e, he⟩ := Later.self u4
  rw [he]
  clear he
  have hfl : ∀ (x : T) (a : Option Addr) (b : Nat) (W : World), (Instr.field 64 (itemV x a b) 1).run Tryz.prog W = .ok (.int .u64 (x.n : Int)) W := fun x a b W => by first | kernel_rfl | rfl
  have tk1 : True := trivial
  go_upto_region 6 with (first | (clear tk1; refine wpList_row (by rfl) 64 _ rfl _ rfl (HBB4.out _) Tryz.underlying64 rfl (by kernel_rfl) ?_) | (go_at_call 42; refine (KP.out 1 (by decide) _ (HMB.out _ (HM4.out.trans (e.h.mono (by simp))))).mono ?_; rintro x w5 ⟨a5, b5, rfl, hb, _⟩; have HX5 := hid (e.h.trans hb); have q2 := (HBk.out.ext HX5.out).cell 2; have q2f := (HBk.out.ext HX5.out).frozen 2; clear hb))
  generalize hY : World.setCell w5 ⟨w.heap.size + 2, 2, none⟩ _ = u5
  have HM5' : Hid (Mod [w.heap.size + 2] wc u5) := hid (by rw [← hY]; exact (HM4.out.trans (HX5.out.mono (by simp))).setCell (.inl (by simp)) _)
  have HBk : Hid (Blk u5 (w.heap.size + 2) 29 (repC ⟨bh, bg, min ((partT B 1).n : Int) 65536, ⟨zeroE, 0, 0, false, 0, 0⟩⟩)) := hid (by rw [← hY]; exact (HBk.out.ext HX5.out).set_ 2 _)
  clear hY q2 q2f HM4 HX5 HBB4 e
  have HM4 := HM5'
  clear HM5'
  have HBB4 : Hid (∀ e : Later u5, Blk e.x n4 64 (itemC B Ab kb)) := hid (fun e => (HB4.out.mod HM4.out HR4.out).later e)
  generalize hbr : min ((partT B 1).n : Int) 65536 = br at *
  have Hbr := hid hbr
  clear hbr
  have KO := hid (fun a b W hW => eidOf_any (partT B 2) (partT_ok hok1 2) a b W hW)
  obtain ⟨EN, hEN⟩ : ∃ EN, (if ofB (partT B 2) = true then readE (partT B 2) else zeroE) = EN := ⟨_, rfl⟩
  obtain ⟨EC, hEC⟩ : ∃ EC : Int, (if ofB (partT B 2) = true then (0 : Int) else 2) = EC := ⟨_, rfl⟩
  rw [hEN, hEC] at KO
  have HEN := hid hEN
  clear hEN hEC
  obtain ⟨e, he⟩ := Later.self u5
  rw [he]
  clear he
  have tk1 : True := trivial
  go_upto_region 7 with (first | (clear tk1; refine wpList_row (by rfl) 64 _ rfl _ rfl (HBB4.out _) Tryz.underlying64 rfl (by kernel_rfl) ?_) | (go_at_call 42; refine (KP.out 2 (by decide) _ (HMB.out _ (HM4.out.trans (e.h.mono (by simp))))).mono ?_; rintro x w5 ⟨a6, b6, rfl, hb, hi⟩; have HX5 := hid (e.h.trans hb); have HI6 := hid (IsL.weak (R := fun _ => True) (fun _ _ _ => trivial) _ hi); clear hb hi) | (go_at_call 43; refine (KO.out _ _ _ HI6.out).mono ?_; rintro x w6 ⟨rfl, hb⟩; have HX6 := hid (HX5.out.trans hb); have HB6' := hid (HBk.out.ext HX6.out); have q3 := HB6'.out.cell 3; have q4 := HB6'.out.cell 4; have q5 := HB6'.out.cell 5; have q6 := HB6'.out.cell 6; have q3f := HB6'.out.frozen 3; have q4f := HB6'.out.frozen 4; have q5f := HB6'.out.frozen 5; have q6f := HB6'.out.frozen 6; clear hb))
  generalize hY : World.setCell _ ⟨w.heap.size + 2, 6, none⟩ _ = u6
  have HM6' : Hid (Mod [w.heap.size + 2] wc u6) := hid (by rw [← hY]; exact (((((HM4.out.trans (HX6.out.mono (by simp))).setCell (.inl (by simp)) _).setCell (.inl (by simp)) _).setCell (.inl (by simp)) _).setCell (.inl (by simp)) _))
  have HBk : Hid (Blk u6 (w.heap.size + 2) 29 (repC ⟨bh, bg, br, ⟨EN, 0, 0, false, 0, 0⟩⟩)) := hid (by rw [← hY]; exact ((((HB6'.out.set_ 3 _).set_ 4 _).set_ 5 _).set_ 6 _))
  clear hY q3 q4 q5 q6 q3f q4f q5f q6f HM4 HX5 HX6 HBB4 HB6' HI6 KO e
  have HM4 := HM6'
  clear HM6'
  have hb9 : (decide (B.k = 6)) = decide (B.k = 6) := rfl
  have c3 : ∀ e : Later u6, e.x.cell? ⟨n4, 3, none⟩ = some (.slice Ab B.k kb) := fun e => ((HB4.out.mod HM4.out HR4.out).later e).cell 3
  have q9 : u6.cell? ⟨w.heap.size + 2, 9, none⟩ = some (.bool false) := HBk.out.cell 9
  have q9f : u6.frozen? ⟨w.heap.size + 2, 9, none⟩ = false := HBk.out.frozen 9
  have c3 := c3 ⟨u6, Mod.refl _ _⟩
  obtain ⟨b6, hb6⟩ : ∃ b6, decide (B.k = 6) = b6 := ⟨_, rfl⟩
  have hbc : (((B.k : Int) == 6)) = b6 := by rw [← hb6, Bool.eq_iff_iff]; simp; omega
  have HBK6 := hid hb6
  clear hb6 hb9
  go_upto_region 8 with fail
  generalize hY : World.setCell u6 ⟨w.heap.size + 2, 9, none⟩ _ = u7
  have HM7 : Hid (Mod [w.heap.size + 2] wc u7) := hid (by rw [← hY]; exact HM4.out.setCell (.inl (by simp)) _)
  have HBk : Hid (Blk u7 (w.heap.size + 2) 29 (repC ⟨bh, bg, br, ⟨EN, 0, 0, b6, 0, 0⟩⟩)) := hid (by rw [← hY]; exact HBk.out.set_ 9 _)
  clear hY q9 q9f c3 HM4 hbc
  have HX7 : Hid (∀ W, Ext u7 W → Mod [w.heap.size + 2] wc W) := hid (fun W hW => HM7.out.trans (hW.mono (by simp)))
  refine wp_region_held_drew (S := fun w' => Ext u7 w') (by kernel_rfl) (Mod.refl _ _).drew (fun hHeld => ?_)
  generalize u7.drew = v0 at *
  refine' wpAnyH_take (i := 0) (v := _) rfl (by kernel_rfl) (by kernel_rfl) (by kernel_rfl) (fun _ _ _ h => h) (Or.inl ⟨by rfl, ?hy5⟩) hHeld ?rest5
  case hy5 => (rintro W hM; go_simp; (try with_reducible rfl))
  case rest5 =>
  (try simp only [Act.put, List.getElem_toArray, List.getElem_cons_zero, List.getElem_cons_succ, List.setIfInBounds_toArray, List.set_cons_zero, List.set_cons_succ])
  refine' wpAnyH_take (i := 1) (v := _) rfl (by kernel_rfl) (by kernel_rfl) (by kernel_rfl) (fun _ _ _ h => h) (Or.inl ⟨by rfl, ?hy6⟩) hHeld ?rest6
  case hy6 => (rintro W hM; go_simp; (try with_reducible rfl))
  case rest6 =>
  (try simp only [Act.put, List.getElem_toArray, List.getElem_cons_zero, List.getElem_cons_succ, List.setIfInBounds_toArray, List.set_cons_zero, List.set_cons_succ])
  refine' wpAnyH_take (i := 5) (v := _) rfl (by kernel_rfl) (by kernel_rfl) (by kernel_rfl) (fun _ _ _ h => h) (Or.inl ⟨by rfl, ?hy7⟩) hHeld ?rest7
  case hy7 => (rintro W hM; go_simp; (try with_reducible rfl))
  case rest7 =>
  (try simp only [Act.put, List.getElem_toArray, List.getElem_cons_zero, List.getElem_cons_succ, List.setIfInBounds_toArray, List.set_cons_zero, List.set_cons_succ])
  refine' wpAnyH_take (i := 6) (v := _) rfl (by kernel_rfl) (by kernel_rfl) (by kernel_rfl) (fun _ _ _ h => h) (Or.inl ⟨by rfl, ?hy8⟩) hHeld ?rest8
  case hy8 => (rintro W hM; go_simp; (try with_reducible rfl))
  case rest8 =>
  (try simp only [Act.put, List.getElem_toArray, List.getElem_cons_zero, List.getElem_cons_succ, List.setIfInBounds_toArray, List.set_cons_zero, List.set_cons_succ])
  refine' wpAnyH_take (i := 10) (v := _) rfl (by kernel_rfl) (by kernel_rfl) (by kernel_rfl) (fun _ _ _ h => h) (Or.inl ⟨by rfl, ?hy9⟩) hHeld ?rest9
  case hy9 => (rintro W hM; go_simp; (try with_reducible rfl))
  case rest9 =>
  (try simp only [Act.put, List.getElem_toArray, List.getElem_cons_zero, List.getElem_cons_succ, List.setIfInBounds_toArray, List.set_cons_zero, List.set_cons_succ])
  refine' wpAnyH_take (i := 11) (v := _) rfl (by kernel_rfl) (by kernel_rfl) (by kernel_rfl) (fun _ _ _ h => h) (Or.inl ⟨by rfl, ?hy10⟩) hHeld ?rest10
  case hy10 => (rintro W hM; go_simp; (try with_reducible rfl))
  case rest10 =>
  (try simp only [Act.put, List.getElem_toArray, List.getElem_cons_zero, List.getElem_cons_succ, List.setIfInBounds_toArray, List.set_cons_zero, List.set_cons_succ])
  refine' wpAnyH_take (i := 15) (v := _) rfl (by kernel_rfl) (by kernel_rfl) (by kernel_rfl) (fun _ _ _ h => h) (Or.inl ⟨by rfl, ?hy11⟩) hHeld ?rest11
  case hy11 => (rintro W hM; go_simp; (try with_reducible rfl))
  case rest11 =>
  (try simp only [Act.put, List.getElem_toArray, List.getElem_cons_zero, List.getElem_cons_succ, List.setIfInBounds_toArray, List.set_cons_zero, List.set_cons_succ])
  refine' wpAnyH_take (i := 16) (v := _) rfl (by kernel_rfl) (by kernel_rfl) (by kernel_rfl) (fun _ _ _ h => h) (Or.inl ⟨by rfl, ?hy12⟩) hHeld ?rest12
  case hy12 => (rintro W hM; go_simp; (try with_reducible rfl))
  case rest12 =>
  (try simp only [Act.put, List.getElem_toArray, List.getElem_cons_zero, List.getElem_cons_succ, List.setIfInBounds_toArray, List.set_cons_zero, List.set_cons_succ])
  refine' wpAnyH_take (i := 22) (v := _) rfl (by kernel_rfl) (by kernel_rfl) (by kernel_rfl) (fun _ _ _ h => h) (Or.inl ⟨by rfl, ?hy13⟩) hHeld ?rest13
  case hy13 => (rintro W hM; go_simp; (try with_reducible rfl))
  case rest13 =>
  (try simp only [Act.put, List.getElem_toArray, List.getElem_cons_zero, List.getElem_cons_succ, List.setIfInBounds_toArray, List.set_cons_zero, List.set_cons_succ])
  refine wpAnyH_take (i := 2) rfl (by kernel_rfl) (by kernel_rfl) (by kernel_rfl) (fun _ _ _ h => h) (yieldsIf_row (by rfl) 64 _ rfl _ rfl (fun W hM => HB6.out.mod (HX7.out W hM) HR6.out) Tryz.underlying64 rfl (by kernel_rfl)) hHeld ?_
  (try simp only [Act.put, List.getElem_toArray, List.getElem_cons_zero, List.getElem_cons_succ, List.setIfInBounds_toArray, List.set_cons_zero, List.set_cons_succ])
  refine wpAnyH_take (i := 7) rfl (by kernel_rfl) (by kernel_rfl) (by kernel_rfl) (fun _ _ _ h => h) (yieldsIf_row (by rfl) 64 _ rfl _ rfl (fun W hM => HB6.out.mod (HX7.out W hM) HR6.out) Tryz.underlying64 rfl (by kernel_rfl)) hHeld ?_
  (try simp only [Act.put, List.getElem_toArray, List.getElem_cons_zero, List.getElem_cons_succ, List.setIfInBounds_toArray, List.set_cons_zero, List.set_cons_succ])
  refine wpAnyH_take (i := 12) rfl (by kernel_rfl) (by kernel_rfl) (by kernel_rfl) (fun _ _ _ h => h) (yieldsIf_row (by rfl) 64 _ rfl _ rfl (fun W hM => HB4.out.mod (HX7.out W hM) HR4.out) Tryz.underlying64 rfl (by kernel_rfl)) hHeld ?_
  (try simp only [Act.put, List.getElem_toArray, List.getElem_cons_zero, List.getElem_cons_succ, List.setIfInBounds_toArray, List.set_cons_zero, List.set_cons_succ])
  refine wpAnyH_take (i := 17) rfl (by kernel_rfl) (by kernel_rfl) (by kernel_rfl) (fun _ _ _ h => h) (yieldsIf_row (by rfl) 64 _ rfl _ rfl (fun W hM => HB4.out.mod (HX7.out W hM) HR4.out) Tryz.underlying64 rfl (by kernel_rfl)) hHeld ?_
  (try simp only [Act.put, List.getElem_toArray, List.getElem_cons_zero, List.getElem_cons_succ, List.setIfInBounds_toArray, List.set_cons_zero, List.set_cons_succ])
  refine wpAnyH_ready (rs := [3]) (by kernel_rfl) (by simp) ?_
  refine AllReadyH.cons rfl (fun K hK => ?_) AllReadyH.nil
  go_simp
  go_at_call 42
  refine (KW.out 0 (by decide) _ (HM6.out _ (HX7.out _ hHeld))).mono ?_
  rintro x v1 ⟨e0, f0, rfl, hb, _⟩
  refine hK.out _ _ (hHeld.trans hb) (fun hHeld => ?_)
  clear hK K
  (try simp only [Act.put, List.getElem_toArray, List.getElem_cons_zero, List.getElem_cons_succ, List.setIfInBounds_toArray, List.set_cons_zero, List.set_cons_succ])
  refine' wpAnyH_take (i := 4) (v := _) rfl (by kernel_rfl) (by kernel_rfl) (by kernel_rfl) (fun _ _ _ h => h) (Or.inl ⟨by rfl, ?hy14⟩) hHeld ?rest14
  case hy14 => (rintro W hM; go_simp; (try with_reducible rfl))
  case rest14 =>
  (try simp only [Act.put, List.getElem_toArray, List.getElem_cons_zero, List.getElem_cons_succ, List.setIfInBounds_toArray, List.set_cons_zero, List.set_cons_succ])
  refine wpAnyH_ready (rs := [8]) (by kernel_rfl) (by simp) ?_
  refine AllReadyH.cons rfl (fun K hK => ?_) AllReadyH.nil
  go_simp
  go_at_call 42
  refine (KW.out 1 (by decide) _ (HM6.out _ (HX7.out _ hHeld))).mono ?_
  rintro x v2 ⟨e1, f1, rfl, hb, _⟩
  refine hK.out _ _ (hHeld.trans hb) (fun hHeld => ?_)
  clear hK K
  (try simp only [Act.put, List.getElem_toArray, List.getElem_cons_zero, List.getElem_cons_succ, List.setIfInBounds_toArray, List.set_cons_zero, List.set_cons_succ])
  refine' wpAnyH_take (i := 9) (v := _) rfl (by kernel_rfl) (by kernel_rfl) (by kernel_rfl) (fun _ _ _ h => h) (Or.inl ⟨by rfl, ?hy15⟩) hHeld ?rest15
  case hy15 => (rintro W hM; go_simp; (try with_reducible rfl))
  case rest15 =>
  (try simp only [Act.put, List.getElem_toArray, List.getElem_cons_zero, List.getElem_cons_succ, List.setIfInBounds_toArray, List.set_cons_zero, List.set_cons_succ])
  refine wpAnyH_ready (rs := [13]) (by kernel_rfl) (by simp) ?_
  refine AllReadyH.cons rfl (fun K hK => ?_) AllReadyH.nil
  go_simp
  go_at_call 42
  refine (KP.out 4 (by decide) _ (HMB.out _ (HX7.out _ hHeld))).mono ?_
  rintro x v3 ⟨e2, f2, rfl, hb, _⟩
  refine hK.out _ _ (hHeld.trans hb) (fun hHeld => ?_)
  clear hK K
  (try simp only [Act.put, List.getElem_toArray, List.getElem_cons_zero, List.getElem_cons_succ, List.setIfInBounds_toArray, List.set_cons_zero, List.set_cons_succ])
  refine' wpAnyH_take (i := 14) (v := _) rfl (by kernel_rfl) (by kernel_rfl) (by kernel_rfl) (fun _ _ _ h => h) (Or.inl ⟨by rfl, ?hy16⟩) hHeld ?rest16
  case hy16 => (rintro W hM; go_simp; (try with_reducible rfl))
  case rest16 =>
  (try simp only [Act.put, List.getElem_toArray, List.getElem_cons_zero, List.getElem_cons_succ, List.setIfInBounds_toArray, List.set_cons_zero, List.set_cons_succ])
  refine wpAnyH_ready (rs := [18]) (by kernel_rfl) (by simp) ?_
  refine AllReadyH.cons rfl (fun K hK => ?_) AllReadyH.nil
  go_simp
  go_at_call 42
  refine (KP.out 5 (by decide) _ (HMB.out _ (HX7.out _ hHeld))).mono ?_
  rintro x v4 ⟨e3, f3, rfl, hb, _⟩
  refine hK.out _ _ (hHeld.trans hb) (fun hHeld => ?_)
  clear hK K
  (try simp only [Act.put, List.getElem_toArray, List.getElem_cons_zero, List.getElem_cons_succ, List.setIfInBounds_toArray, List.set_cons_zero, List.set_cons_succ])
  refine' wpAnyH_take (i := 19) (v := _) rfl (by kernel_rfl) (by kernel_rfl) (by kernel_rfl) (fun _ _ _ h => h) (Or.inl ⟨by rfl, ?hy17⟩) hHeld ?rest17
  case hy17 => (rintro W hM; go_simp; (try with_reducible rfl))
  case rest17 =>
  (try simp only [Act.put, List.getElem_toArray, List.getElem_cons_zero, List.getElem_cons_succ, List.setIfInBounds_toArray, List.set_cons_zero, List.set_cons_succ])
  refine wpAnyH_ready (rs := [20]) (by kernel_rfl) (by simp) ?_
  refine AllReadyH.cons rfl (fun K hK => ?_) AllReadyH.nil
  go_simp
  generalize hV : World.alloc v4 _ = v5
  have hB : ∃ ty, Blk v5 v4.heap.size ty #[.pointer (some ⟨(w.heap.size + 2), 7, none⟩), .int .i64 (partT (partT B 3) 0).kind, .int .u64 ((partT (partT B 3) 0).n : Int), str (partT (partT B 3) 0).s, .slice e0 (partT (partT B 3) 0).k f0, .bool (partT (partT B 3) 0).op, .pointer (some ⟨(w.heap.size + 2), 8, none⟩), .int .i64 (partT (partT B 3) 1).kind, .int .u64 ((partT (partT B 3) 1).n : Int), str (partT (partT B 3) 1).s, .slice e1 (partT (partT B 3) 1).k f1, .bool (partT (partT B 3) 1).op, .pointer (some ⟨(w.heap.size + 2), 10, none⟩), .int .i64 (partT B 4).kind, .int .u64 ((partT B 4).n : Int), str (partT B 4).s, .slice e2 (partT B 4).k f2, .bool (partT B 4).op, .pointer (some ⟨(w.heap.size + 2), 11, none⟩), .int .i64 (partT B 5).kind, .int .u64 ((partT B 5).n : Int), str (partT B 5).s, .slice e3 (partT B 5).k f3, .bool (partT B 5).op] := ⟨_, by rw [← hV]; exact Blk.new _ _ _⟩
  have hX : Ext v4 v5 := by rw [← hV]; exact (Mod.refl [] _).alloc _
  have hNN : u7.heap.size ≤ v4.heap.size := hHeld.size
  clear hV
  refine hK.out _ _ (hHeld.trans hX) (fun hHeld => ?_)
  clear hK K
  (try simp only [Act.put, List.getElem_toArray, List.getElem_cons_zero, List.getElem_cons_succ, List.setIfInBounds_toArray, List.set_cons_zero, List.set_cons_succ])
  refine' wpAnyH_take (i := 21) (v := _) rfl (by kernel_rfl) (by kernel_rfl) (by kernel_rfl) (fun _ _ _ h => h) (Or.inl ⟨by rfl, ?hy18⟩) hHeld ?rest18
  case hy18 => (rintro W hM; go_simp; (try with_reducible rfl))
  case rest18 =>
  (try simp only [Act.put, List.getElem_toArray, List.getElem_cons_zero, List.getElem_cons_succ, List.setIfInBounds_toArray, List.set_cons_zero, List.set_cons_succ])
  refine wpAnyH_done (by kernel_rfl) ?_ _
  go_wp2_with fail
  obtain ⟨TY, hB⟩ := hB
  have hGR : v4.heap.size ≠ w.heap.size + 2 := by have := HBk.out.lt; omega
  have HGR := hid hGR
  have HS0 : Hid (Mod [w.heap.size + 2] wc v5 ∧ Blk v5 (w.heap.size + 2) 29 (repC (stepRV ⟨bh, bg, br, ⟨EN, 0, 0, b6, 0, 0⟩⟩ (partT (partT B 3) 0).n (partT (partT B 3) 1).n (partT B 4).n (partT B 5).n 0))) := hid ⟨HX7.out _ hHeld, HBk.out.ext hHeld⟩
  have HG0 := hid hB
  clear hHeld hB hX hNN hGR HX7 HBk HM7
  generalize v4.heap.size = G at *
  have HT0 : Hid ((partT (partT B 3) 0).n = (partT (partT B 3) 0).n) := hid rfl
  go_loopw [67] (fun s67 wr => ∃ i : Nat, s67 = .int .i64 (i : Int) ∧ Hid (i ≤ 4 ∧ Mod [w.heap.size + 2] wc wr ∧ Blk wr (w.heap.size + 2) 29 (repC (stepRV ⟨bh, bg, br, ⟨EN, 0, 0, b6, 0, 0⟩⟩ (partT (partT B 3) 0).n (partT (partT B 3) 1).n (partT B 4).n (partT B 5).n i)) ∧ Blk wr G TY #[.pointer (some ⟨(w.heap.size + 2), 7, none⟩), .int .i64 (partT (partT B 3) 0).kind, .int .u64 ((partT (partT B 3) 0).n : Int), str (partT (partT B 3) 0).s, .slice e0 (partT (partT B 3) 0).k f0, .bool (partT (partT B 3) 0).op, .pointer (some ⟨(w.heap.size + 2), 8, none⟩), .int .i64 (partT (partT B 3) 1).kind, .int .u64 ((partT (partT B 3) 1).n : Int), str (partT (partT B 3) 1).s, .slice e1 (partT (partT B 3) 1).k f1, .bool (partT (partT B 3) 1).op, .pointer (some ⟨(w.heap.size + 2), 10, none⟩), .int .i64 (partT B 4).kind, .int .u64 ((partT B 4).n : Int), str (partT B 4).s, .slice e2 (partT B 4).k f2, .bool (partT B 4).op, .pointer (some ⟨(w.heap.size + 2), 11, none⟩), .int .i64 (partT B 5).kind, .int .u64 ((partT B 5).n : Int), str (partT B 5).s, .slice e3 (partT B 5).k f3, .bool (partT B 5).op])) (fun s67 _ => 4 - (intOf s67).toNat)
  case atStart => exact ⟨0, rfl, hid ⟨Nat.zero_le _, HS0.out.1, HS0.out.2, HG0.out⟩⟩
  case round =>
    clear HS0 HG0
    obtain ⟨i, rfl, hS⟩ := hrel
    rename World => wr
    match i, hS with
    | 0, hS =>
      have p0 := hS.out.2.2.2.cell 0
      have p1 := hS.out.2.2.2.cell 1
      have p2 := hS.out.2.2.2.cell 2
      have p3 := hS.out.2.2.2.cell 3
      have p4 := hS.out.2.2.2.cell 4
      have p5 := hS.out.2.2.2.cell 5
      simp only [List.getElem?_toArray, List.getElem?_cons_zero, List.getElem?_cons_succ] at p0 p1 p2 p3 p4 p5
      go_upto_region 11 with fail
      clear p0 p1 p2 p3 p4 p5
      generalize hZ : World.alloc wr _ = Z
      have HD : ∃ ty, Blk Z wr.heap.size ty #[.pointer (some ⟨(w.heap.size + 2), 7, none⟩), .int .i64 (partT (partT B 3) 0).kind, .int .u64 ((partT (partT B 3) 0).n : Int), str (partT (partT B 3) 0).s, .slice e0 (partT (partT B 3) 0).k f0, .bool (partT (partT B 3) 0).op] := ⟨_, by rw [← hZ]; exact Blk.new _ _ _⟩
      have HZX : Hid (Ext wr Z) := hid (by rw [← hZ]; exact (Mod.refl [] _).alloc _)
      clear hZ
      obtain ⟨TD, HD⟩ := HD
      have x0 := HD.cell 0
      have x2 := HD.cell 2
      have x1 := HD.cell 1
      have x3 := HD.cell 3
      have x4 := HD.cell 4
      have x5 := HD.cell 5
      simp only [List.getElem?_toArray, List.getElem?_cons_zero, List.getElem?_cons_succ] at x0 x1 x2 x3 x4 x5
      clear HD
      have HBZ := hid (hS.out.2.2.1.ext HZX.out)
      have r0 := HBZ.out.cell 7
      have r1 := HBZ.out.frozen 7
      generalize wr.heap.size = ND at *
      go_upto_region 12 with fail
      generalize hZ : World.setCell Z ⟨(w.heap.size + 2), 7, none⟩ _ = Y
      have HYM : Hid (Mod [(w.heap.size + 2)] wc Y) := hid (by rw [← hZ]; exact (hS.out.2.1.trans (HZX.out.mono (by simp))).setCell (.inl (by simp)) _)
      have HYB : Hid (Blk Y (w.heap.size + 2) 29 (repC (stepRV ⟨bh, bg, br, ⟨EN, 0, 0, b6, 0, 0⟩⟩ (partT (partT B 3) 0).n (partT (partT B 3) 1).n (partT B 4).n (partT B 5).n 1))) := hid (by rw [← hZ]; exact HBZ.out.set_ 7 _)
      have HYG : Hid (Blk Y G TY #[.pointer (some ⟨(w.heap.size + 2), 7, none⟩), .int .i64 (partT (partT B 3) 0).kind, .int .u64 ((partT (partT B 3) 0).n : Int), str (partT (partT B 3) 0).s, .slice e0 (partT (partT B 3) 0).k f0, .bool (partT (partT B 3) 0).op, .pointer (some ⟨(w.heap.size + 2), 8, none⟩), .int .i64 (partT (partT B 3) 1).kind, .int .u64 ((partT (partT B 3) 1).n : Int), str (partT (partT B 3) 1).s, .slice e1 (partT (partT B 3) 1).k f1, .bool (partT (partT B 3) 1).op, .pointer (some ⟨(w.heap.size + 2), 10, none⟩), .int .i64 (partT B 4).kind, .int .u64 ((partT B 4).n : Int), str (partT B 4).s, .slice e2 (partT B 4).k f2, .bool (partT B 4).op, .pointer (some ⟨(w.heap.size + 2), 11, none⟩), .int .i64 (partT B 5).kind, .int .u64 ((partT B 5).n : Int), str (partT B 5).s, .slice e3 (partT B 5).k f3, .bool (partT B 5).op]) := hid (by rw [← hZ]; exact (hS.out.2.2.2.ext HZX.out).mod ((Mod.refl [(w.heap.size + 2)] Z).setCell (.inl (by simp)) _) (by simpa using HGR.out))
      clear hZ x0 x1 x2 x3 x4 x5 r0 r1 HBZ HZX hS
      go_wp2_with fail
      go_roundw
      case rel => exact ⟨1, rfl, hid ⟨by decide, HYM.out, HYB.out, HYG.out⟩⟩
      case measure => simp [intOf]
    | 1, hS =>
      have p0 := hS.out.2.2.2.cell 6
      have p1 := hS.out.2.2.2.cell 7
      have p2 := hS.out.2.2.2.cell 8
      have p3 := hS.out.2.2.2.cell 9
      have p4 := hS.out.2.2.2.cell 10
      have p5 := hS.out.2.2.2.cell 11
      simp only [List.getElem?_toArray, List.getElem?_cons_zero, List.getElem?_cons_succ] at p0 p1 p2 p3 p4 p5
      go_upto_region 11 with fail
      clear p0 p1 p2 p3 p4 p5
      generalize hZ : World.alloc wr _ = Z
      have HD : ∃ ty, Blk Z wr.heap.size ty #[.pointer (some ⟨(w.heap.size + 2), 8, none⟩), .int .i64 (partT (partT B 3) 1).kind, .int .u64 ((partT (partT B 3) 1).n : Int), str (partT (partT B 3) 1).s, .slice e1 (partT (partT B 3) 1).k f1, .bool (partT (partT B 3) 1).op] := ⟨_, by rw [← hZ]; exact Blk.new _ _ _⟩
      have HZX : Hid (Ext wr Z) := hid (by rw [← hZ]; exact (Mod.refl [] _).alloc _)
      clear hZ
      obtain ⟨TD, HD⟩ := HD
      have x0 := HD.cell 0
      have x2 := HD.cell 2
      have x1 := HD.cell 1
      have x3 := HD.cell 3
      have x4 := HD.cell 4
      have x5 := HD.cell 5
      simp only [List.getElem?_toArray, List.getElem?_cons_zero, List.getElem?_cons_succ] at x0 x1 x2 x3 x4 x5
      clear HD
      have HBZ := hid (hS.out.2.2.1.ext HZX.out)
      have r0 := HBZ.out.cell 8
      have r1 := HBZ.out.frozen 8
      generalize wr.heap.size = ND at *
      go_upto_region 12 with fail
      generalize hZ : World.setCell Z ⟨(w.heap.size + 2), 8, none⟩ _ = Y
      have HYM : Hid (Mod [(w.heap.size + 2)] wc Y) := hid (by rw [← hZ]; exact (hS.out.2.1.trans (HZX.out.mono (by simp))).setCell (.inl (by simp)) _)
      have HYB : Hid (Blk Y (w.heap.size + 2) 29 (repC (stepRV ⟨bh, bg, br, ⟨EN, 0, 0, b6, 0, 0⟩⟩ (partT (partT B 3) 0).n (partT (partT B 3) 1).n (partT B 4).n (partT B 5).n 2))) := hid (by rw [← hZ]; exact HBZ.out.set_ 8 _)
      have HYG : Hid (Blk Y G TY #[.pointer (some ⟨(w.heap.size + 2), 7, none⟩), .int .i64 (partT (partT B 3) 0).kind, .int .u64 ((partT (partT B 3) 0).n : Int), str (partT (partT B 3) 0).s, .slice e0 (partT (partT B 3) 0).k f0, .bool (partT (partT B 3) 0).op, .pointer (some ⟨(w.heap.size + 2), 8, none⟩), .int .i64 (partT (partT B 3) 1).kind, .int .u64 ((partT (partT B 3) 1).n : Int), str (partT (partT B 3) 1).s, .slice e1 (partT (partT B 3) 1).k f1, .bool (partT (partT B 3) 1).op, .pointer (some ⟨(w.heap.size + 2), 10, none⟩), .int .i64 (partT B 4).kind, .int .u64 ((partT B 4).n : Int), str (partT B 4).s, .slice e2 (partT B 4).k f2, .bool (partT B 4).op, .pointer (some ⟨(w.heap.size + 2), 11, none⟩), .int .i64 (partT B 5).kind, .int .u64 ((partT B 5).n : Int), str (partT B 5).s, .slice e3 (partT B 5).k f3, .bool (partT B 5).op]) := hid (by rw [← hZ]; exact (hS.out.2.2.2.ext HZX.out).mod ((Mod.refl [(w.heap.size + 2)] Z).setCell (.inl (by simp)) _) (by simpa using HGR.out))
      clear hZ x0 x1 x2 x3 x4 x5 r0 r1 HBZ HZX hS
      go_wp2_with fail
      go_roundw
      case rel => exact ⟨2, rfl, hid ⟨by decide, HYM.out, HYB.out, HYG.out⟩⟩
      case measure => simp [intOf]
    | 2, hS =>
      have p0 := hS.out.2.2.2.cell 12
      have p1 := hS.out.2.2.2.cell 13
      have p2 := hS.out.2.2.2.cell 14
      have p3 := hS.out.2.2.2.cell 15
      have p4 := hS.out.2.2.2.cell 16
      have p5 := hS.out.2.2.2.cell 17
      simp only [List.getElem?_toArray, List.getElem?_cons_zero, List.getElem?_cons_succ] at p0 p1 p2 p3 p4 p5
      go_upto_region 11 with fail
      clear p0 p1 p2 p3 p4 p5
      generalize hZ : World.alloc wr _ = Z
      have HD : ∃ ty, Blk Z wr.heap.size ty #[.pointer (some ⟨(w.heap.size + 2), 10, none⟩), .int .i64 (partT B 4).kind, .int .u64 ((partT B 4).n : Int), str (partT B 4).s, .slice e2 (partT B 4).k f2, .bool (partT B 4).op] := ⟨_, by rw [← hZ]; exact Blk.new _ _ _⟩
      have HZX : Hid (Ext wr Z) := hid (by rw [← hZ]; exact (Mod.refl [] _).alloc _)
      clear hZ
      obtain ⟨TD, HD⟩ := HD
      have x0 := HD.cell 0
      have x2 := HD.cell 2
      have x1 := HD.cell 1
      have x3 := HD.cell 3
      have x4 := HD.cell 4
      have x5 := HD.cell 5
      simp only [List.getElem?_toArray, List.getElem?_cons_zero, List.getElem?_cons_succ] at x0 x1 x2 x3 x4 x5
      clear HD
      have HBZ := hid (hS.out.2.2.1.ext HZX.out)
      have r0 := HBZ.out.cell 10
      have r1 := HBZ.out.frozen 10
      generalize wr.heap.size = ND at *
      go_upto_region 12 with fail
      generalize hZ : World.setCell Z ⟨(w.heap.size + 2), 10, none⟩ _ = Y
      have HYM : Hid (Mod [(w.heap.size + 2)] wc Y) := hid (by rw [← hZ]; exact (hS.out.2.1.trans (HZX.out.mono (by simp))).setCell (.inl (by simp)) _)
      have HYB : Hid (Blk Y (w.heap.size + 2) 29 (repC (stepRV ⟨bh, bg, br, ⟨EN, 0, 0, b6, 0, 0⟩⟩ (partT (partT B 3) 0).n (partT (partT B 3) 1).n (partT B 4).n (partT B 5).n 3))) := hid (by rw [← hZ]; exact HBZ.out.set_ 10 _)
      have HYG : Hid (Blk Y G TY #[.pointer (some ⟨(w.heap.size + 2), 7, none⟩), .int .i64 (partT (partT B 3) 0).kind, .int .u64 ((partT (partT B 3) 0).n : Int), str (partT (partT B 3) 0).s, .slice e0 (partT (partT B 3) 0).k f0, .bool (partT (partT B 3) 0).op, .pointer (some ⟨(w.heap.size + 2), 8, none⟩), .int .i64 (partT (partT B 3) 1).kind, .int .u64 ((partT (partT B 3) 1).n : Int), str (partT (partT B 3) 1).s, .slice e1 (partT (partT B 3) 1).k f1, .bool (partT (partT B 3) 1).op, .pointer (some ⟨(w.heap.size + 2), 10, none⟩), .int .i64 (partT B 4).kind, .int .u64 ((partT B 4).n : Int), str (partT B 4).s, .slice e2 (partT B 4).k f2, .bool (partT B 4).op, .pointer (some ⟨(w.heap.size + 2), 11, none⟩), .int .i64 (partT B 5).kind, .int .u64 ((partT B 5).n : Int), str (partT B 5).s, .slice e3 (partT B 5).k f3, .bool (partT B 5).op]) := hid (by rw [← hZ]; exact (hS.out.2.2.2.ext HZX.out).mod ((Mod.refl [(w.heap.size + 2)] Z).setCell (.inl (by simp)) _) (by simpa using HGR.out))
      clear hZ x0 x1 x2 x3 x4 x5 r0 r1 HBZ HZX hS
      go_wp2_with fail
      go_roundw
      case rel => exact ⟨3, rfl, hid ⟨by decide, HYM.out, HYB.out, HYG.out⟩⟩
      case measure => simp [intOf]
    | 3, hS =>
      have p0 := hS.out.2.2.2.cell 18
      have p1 := hS.out.2.2.2.cell 19
      have p2 := hS.out.2.2.2.cell 20
      have p3 := hS.out.2.2.2.cell 21
      have p4 := hS.out.2.2.2.cell 22
      have p5 := hS.out.2.2.2.cell 23
      simp only [List.getElem?_toArray, List.getElem?_cons_zero, List.getElem?_cons_succ] at p0 p1 p2 p3 p4 p5
      go_upto_region 11 with fail
      clear p0 p1 p2 p3 p4 p5
      generalize hZ : World.alloc wr _ = Z
      have HD : ∃ ty, Blk Z wr.heap.size ty #[.pointer (some ⟨(w.heap.size + 2), 11, none⟩), .int .i64 (partT B 5).kind, .int .u64 ((partT B 5).n : Int), str (partT B 5).s, .slice e3 (partT B 5).k f3, .bool (partT B 5).op] := ⟨_, by rw [← hZ]; exact Blk.new _ _ _⟩
      have HZX : Hid (Ext wr Z) := hid (by rw [← hZ]; exact (Mod.refl [] _).alloc _)
      clear hZ
      obtain ⟨TD, HD⟩ := HD
      have x0 := HD.cell 0
      have x2 := HD.cell 2
      have x1 := HD.cell 1
      have x3 := HD.cell 3
      have x4 := HD.cell 4
      have x5 := HD.cell 5
      simp only [List.getElem?_toArray, List.getElem?_cons_zero, List.getElem?_cons_succ] at x0 x1 x2 x3 x4 x5
      clear HD
      have HBZ := hid (hS.out.2.2.1.ext HZX.out)
      have r0 := HBZ.out.cell 11
      have r1 := HBZ.out.frozen 11
      generalize wr.heap.size = ND at *
      go_upto_region 12 with fail
      generalize hZ : World.setCell Z ⟨(w.heap.size + 2), 11, none⟩ _ = Y
      have HYM : Hid (Mod [(w.heap.size + 2)] wc Y) := hid (by rw [← hZ]; exact (hS.out.2.1.trans (HZX.out.mono (by simp))).setCell (.inl (by simp)) _)
      have HYB : Hid (Blk Y (w.heap.size + 2) 29 (repC (stepRV ⟨bh, bg, br, ⟨EN, 0, 0, b6, 0, 0⟩⟩ (partT (partT B 3) 0).n (partT (partT B 3) 1).n (partT B 4).n (partT B 5).n 4))) := hid (by rw [← hZ]; exact HBZ.out.set_ 11 _)
      have HYG : Hid (Blk Y G TY #[.pointer (some ⟨(w.heap.size + 2), 7, none⟩), .int .i64 (partT (partT B 3) 0).kind, .int .u64 ((partT (partT B 3) 0).n : Int), str (partT (partT B 3) 0).s, .slice e0 (partT (partT B 3) 0).k f0, .bool (partT (partT B 3) 0).op, .pointer (some ⟨(w.heap.size + 2), 8, none⟩), .int .i64 (partT (partT B 3) 1).kind, .int .u64 ((partT (partT B 3) 1).n : Int), str (partT (partT B 3) 1).s, .slice e1 (partT (partT B 3) 1).k f1, .bool (partT (partT B 3) 1).op, .pointer (some ⟨(w.heap.size + 2), 10, none⟩), .int .i64 (partT B 4).kind, .int .u64 ((partT B 4).n : Int), str (partT B 4).s, .slice e2 (partT B 4).k f2, .bool (partT B 4).op, .pointer (some ⟨(w.heap.size + 2), 11, none⟩), .int .i64 (partT B 5).kind, .int .u64 ((partT B 5).n : Int), str (partT B 5).s, .slice e3 (partT B 5).k f3, .bool (partT B 5).op]) := hid (by rw [← hZ]; exact (hS.out.2.2.2.ext HZX.out).mod ((Mod.refl [(w.heap.size + 2)] Z).setCell (.inl (by simp)) _) (by simpa using HGR.out))
      clear hZ x0 x1 x2 x3 x4 x5 r0 r1 HBZ HZX hS
      go_wp2_with fail
      go_roundw
      case rel => exact ⟨4, rfl, hid ⟨by decide, HYM.out, HYB.out, HYG.out⟩⟩
      case measure => simp [intOf]
    | 4, hS =>
      have HRR : Hid (Blk wr (w.heap.size + 2) 29 _) := hid hS.out.2.2.1
      have HB1w := hid (HB1.out.mod hS.out.2.1 (by simp))
      go_wp2_with (first | (refine wpList_row (by rfl) 29 _ rfl _ rfl HRR.out Tryz.underlying29 rfl (by kernel_rfl) ?_) | (refine wpList_store_mid rfl 29 _ _ rfl (w.heap.size + 1) 0 (repC (stepRV ⟨bh, bg, br, ⟨EN, 0, 0, b6, 0, 0⟩⟩ (partT (partT B 3) 0).n (partT (partT B 3) 1).n (partT B 4).n (partT B 5).n 4)) (by rfl) (by rfl) (HB1w.out.there (Nat.le_refl 12)) (by kernel_rfl) (by simp [Value.oneCell']) ?_))
      have HFF := hid (setCells_all (ds := (repC (stepRV ⟨bh, bg, br, ⟨EN, 0, 0, b6, 0, 0⟩⟩ (partT (partT B 3) 0).n (partT (partT B 3) 1).n (partT B 4).n (partT B 5).n 4))) HB1w.out rfl)
      have HFM : Hid (Mod [] w (wr.setCells (w.heap.size + 1) 0 (repC (stepRV ⟨bh, bg, br, ⟨EN, 0, 0, b6, 0, 0⟩⟩ (partT (partT B 3) 0).n (partT (partT B 3) 1).n (partT B 4).n (partT B 5).n 4)).toList)) := hid (setCells_mod _ _ ((HE.out.of_ext.trans hS.out.2.1).new (fun kk hkk => .inr (by simp at hkk; omega))) (.inr (by omega)))
      show bodyPost _ _ _ _ _ (wr.setCells (w.heap.size + 1) 0 (repC (stepRV ⟨bh, bg, br, ⟨EN, 0, 0, b6, 0, 0⟩⟩ (partT (partT B 3) 0).n (partT (partT B 3) 1).n (partT B 4).n (partT B 5).n 4)).toList)
      refine bodyPost_ret (results_cell rfl _ (by rfl) HFF.out Tryz.underlying29 rfl (by kernel_rfl)) rfl ?_
      refine Ret.mk ?_ HFM.out
      show Value.agg (repC _) = Value.agg (repC (readRep t))
      unfold readRep
      rw [HBd.out, ← Hbh.out, ← Hbg.out, ← Hbr.out, ← HEN.out, ← HBK6.out]
      rfl
    | i + 5, hS => exact absurd hS.out.1 (by omega)
end Go.Proofs.YtogjghmoankleaaGreat


namespace Go.Proofs.YtogjghmoankleaaGreat
open Go.RowKit
set_option linter.unusedVariables false
set_option linter.unusedSimpArgs false

set_option maxRecDepth 20000 in
theorem build_no (t : T) (A : Option Addr) (c : Nat) (w : World) : Calls Tryz.prog 30 #[itemV t A c, .bool false] w (Ret (.tuple #[str [], .int .i64 1]) w) := by
  go_enter Tryz.func30, Tryz.ntmps30
  go_wp2_with fail
  refine bodyPost_ret (v := .tuple #[str [], .int .i64 1]) (by simp [results, Tryz.results30, go_sem]) rfl (Ret.mk rfl (by repeat (first | exact Mod.refl _ _ | refine Mod.alloc ?_ _)))
set_option maxRecDepth 20000 in
theorem build_yes (t : T) (hok : t.ok) (hsz : t.size ≤ 100000) (hr : t.right 8 = true) (A : Option Addr) (c : Nat) (w : World) (h : IsL w (fun _ => True) t A) : Calls Tryz.prog 30 #[itemV t A c, .bool true] w (Ret (.tuple #[str t.bytes, .int .i64 0]) w) := by
  have K : Hid (∀ W, IsL W (fun _ => True) t A → Calls Tryz.prog 28 #[itemV t A c] W (Ret (.tuple #[str t.bytes, .int .i64 0]) W)) := fun W hW => by
    have := iBuild_any t hok hsz A c W hW
    rw [buildV, hr] at this
    exact this
  have H := hid h
  clear hok hsz hr h
  go_enter Tryz.func30, Tryz.ntmps30
  go_wp2_with fail
  refine (K.out _ (H.out.ext ((Mod.refl _ _).alloc _))).mono ?_
  rintro e w1 ⟨rfl, hb1⟩
  have HE1 := hid (((Mod.refl [] w).alloc (.cells (itemC t A c) 64)).trans hb1)
  clear hb1
  go_wp2_with fail
  refine bodyPost_ret (v := .tuple #[str t.bytes, .int .i64 0]) (by simp [results, Tryz.results30, go_sem]) rfl (Ret.mk rfl HE1.out)
theorem numT_facts (n : Nat) : (numT n).size ≤ 100000 ∧ (numT n).right 8 = true ∧ (numT n).bytes = headL 0 n := by
  refine ⟨by simp [numT, T.size, T.sum], by simp [numT, T.right, T.node, T.all], by simp [numT, T.bytes]⟩
set_option maxRecDepth 20000 in
set_option maxHeartbeats 800000 in
theorem Age_no (n : Nat) (h : 1099511627776 < n) (w : World) : Calls Tryz.prog 14 #[.int .u64 (n : Int)] w (Ret (.tuple #[str [], .int .i64 1]) w) := by
  have t1 : decide ((n : Int) ≤ 1099511627776) = false := by simp; omega
  clear h
  go_enter Tryz.func14, Tryz.ntmps14
  go_wp2_with fail
  refine (NumI_any _ _).mono ?_
  rintro e w1 ⟨rfl, hb1⟩
  go_wp2_with fail
  refine (build_no (numT n) none 0 _).mono ?_
  rintro e w2 ⟨rfl, hb2⟩
  go_wp2_with fail
  refine bodyPost_ret (v := .tuple #[str [], .int .i64 1]) (by simp [results, Tryz.results14, go_sem]) rfl (Ret.mk rfl (hb1.trans hb2))
set_option maxRecDepth 20000 in
set_option maxHeartbeats 800000 in
theorem Age_yes (n : Nat) (h : n ≤ 1099511627776) (w : World) : Calls Tryz.prog 14 #[.int .u64 (n : Int)] w (Ret (.tuple #[str (headL 0 n), .int .i64 0]) w) := by
  have t1 : decide ((n : Int) ≤ 1099511627776) = true := by simp; omega
  have K := hid (fun W => build_yes (numT n) (num_ok (by omega)) (numT_facts n).1 (numT_facts n).2.1 none 0 W (leaf_IsL rfl (by simp [numT])))
  rw [(numT_facts n).2.2] at K
  clear h
  go_enter Tryz.func14, Tryz.ntmps14
  go_wp2_with fail
  refine (NumI_any _ _).mono ?_
  rintro e w1 ⟨rfl, hb1⟩
  go_wp2_with fail
  refine (K.out _).mono ?_
  rintro e w2 ⟨rfl, hb2⟩
  go_wp2_with fail
  refine bodyPost_ret (v := .tuple #[str (headL 0 n), .int .i64 0]) (by simp [results, Tryz.results14, go_sem]) rfl (Ret.mk rfl (hb1.trans hb2))
def mayB (l c : Int) : Bool := decide (1 ≤ l) && decide (l ≤ 255) && decide (0 ≤ c) && decide (c ≤ 255)
def pairT2 (a b : Nat) : T := T.mk 4 0 [] false 2 fun i => if i = 0 then numT a else numT b
theorem pairT2_facts (a b : Nat) (ha : a < 18446744073709551616) (hb : b < 18446744073709551616) : (pairT2 a b).ok ∧ (pairT2 a b).size ≤ 100000 ∧ (pairT2 a b).right 8 = true ∧ (pairT2 a b).bytes = 130 :: (headL 0 a ++ headL 0 b) := by
  refine ⟨?_, by simp [pairT2, numT, T.size, T.sum], by simp [pairT2, numT, T.right, T.node, T.all], ?_⟩
  · unfold pairT2 T.ok
    exact ⟨by omega, by omega, by simp, by omega, fun i hi => by dsimp only; split; exact num_ok ha; exact num_ok hb⟩
  · have : headL 4 2 = [130] := by decide
    simp [pairT2, numT, T.bytes, T.cat, this]
theorem Find_none (w : World) : Calls Tryz.prog 77 #[.agg #[.int .u64 0, .int .i64 0, .int .i64 0, str [], .int .u64 0, .int .u64 0, .int .i64 0, str [], .int .u64 0, .int .u64 0, .int .i64 0, str [], .int .u64 0, .int .u64 0, .int .u64 0, .int .u64 0, .int .u64 0, .int .u64 0, .int .u64 0, .slice none 0 0], .int .i64 7] w (Ret (.tuple #[.agg #[.int .i64 0, .int .i64 0, .int .u64 0, .int .i64 0, str []], .bool false]) w) := by
  go_enter Tryz.func77, Tryz.ntmps77
  go_wp2_with fail
  go_loop [11] (fun i => i = .int .i64 0) (fun i => 0)
  case atStart => rfl
  case round =>
    subst hrel
    go_wp2_with fail
    refine bodyPost_ret (v := .tuple #[.agg #[.int .i64 0, .int .i64 0, .int .u64 0, .int .i64 0, str []], .bool false]) (by simp [results, Tryz.results77, go_sem]) rfl (Ret.mk rfl (((Mod.refl _ _).alloc _).alloc _))
end Go.Proofs.YtogjghmoankleaaGreat


namespace Go.Proofs.YtogjghmoankleaaGreat
open Go.RowKit
set_option linter.unusedVariables false
set_option linter.unusedSimpArgs false

end Go.Proofs.YtogjghmoankleaaGreat


namespace Go.Proofs.YtogjghmoankleaaGreat

/-- A reader's state: its bytes, its place, where what failed began, why, where what is read now began. -/
structure RS where
  s : List UInt8
  at_ : Nat
  bad : Int
  e : Int
  fr : Nat

namespace RS
def ok (r : RS) : Prop := r.at_ ≤ r.s.length ∧ r.fr ≤ r.s.length ∧ r.s.length < 4611686018427387904
def fail (r : RS) (e : Int) : RS := if r.e = 0 then { r with at_ := r.fr, bad := r.fr, e := e } else r
def Fail (r : RS) (e : Int) : RS := if r.e = 0 then { r with bad := r.at_, e := e } else r
def head (r : RS) : RS × Nat × Nat × Bool :=
  if r.e = 0 then
    match readH (r.s.drop r.at_) with
    | none => (r.fail 2, 0, 0, false)
    | some (sz, m, n, o) => ({ r with at_ := r.at_ + sz }, m, n, o)
  else (r, 0, 0, false)
def Head (r : RS) : RS × Nat × Nat × Bool := head { r with fr := r.at_ }
def Uint (r : RS) : RS × Nat := if r.Head.1.e = 0 ∧ r.Head.2.1 ≠ 0 then (r.Head.1.fail 2, 0) else (r.Head.1, r.Head.2.2.1)
def str (r : RS) (want : Nat) (most : Int) : RS × List UInt8 :=
  if r.Head.1.e = 0 then
    if r.Head.2.1 ≠ want ∨ r.Head.2.2.2 = true ∨ r.Head.1.s.length - r.Head.1.at_ < r.Head.2.2.1 then (r.Head.1.fail 2, [])
    else if most < 0 ∨ most < r.Head.2.2.1 then (r.Head.1.fail 4, [])
    else ({ r.Head.1 with at_ := r.Head.1.at_ + r.Head.2.2.1 }, (r.Head.1.s.drop r.Head.1.at_).take r.Head.2.2.1)
  else (r.Head.1, [])
def Array (r : RS) : RS × Int :=
  if r.Head.1.e = 0 then
    if r.Head.2.1 ≠ 4 then (r.Head.1.fail 2, 0)
    else if r.Head.2.2.2 = true then (r.Head.1, -1)
    else if 1000 < r.Head.2.2.1 then (r.Head.1.fail 4, 0)
    else (r.Head.1, r.Head.2.2.1)
  else (r.Head.1, 0)
def done (r : RS) : Bool := decide (r.e = 0) && decide (r.at_ = r.s.length)
def new (s : List UInt8) : RS := ⟨s, 0, -1, 0, 0⟩

theorem fail_s (r : RS) (e : Int) : (r.fail e).s = r.s := by unfold fail; split <;> rfl
theorem head_s (r : RS) : r.head.1.s = r.s := by
  unfold head
  split
  · cases readH (r.s.drop r.at_) with
    | none => exact fail_s _ _
    | some x => rfl
  · rfl
theorem Head_s (r : RS) : r.Head.1.s = r.s := by unfold Head; rw [head_s]
theorem fail_ok {r : RS} (h : r.ok) (e : Int) : (r.fail e).ok := by
  unfold fail
  split
  · exact ⟨h.2.1, h.2.1, h.2.2⟩
  · exact h
theorem head_ok {r : RS} (h : r.ok) : r.head.1.ok := by
  unfold head
  split
  · cases hr : readH (r.s.drop r.at_) with
    | none => exact fail_ok h _
    | some x =>
      obtain ⟨sz, m, n, o⟩ := x
      have := (readH_some hr).le
      rw [List.length_drop] at this
      obtain ⟨a, b, c⟩ := h
      exact ⟨by show r.at_ + sz ≤ r.s.length; omega, b, c⟩
  · exact h
theorem Head_ok {r : RS} (h : r.ok) : r.Head.1.ok := head_ok ⟨h.1, h.1, h.2.2⟩
theorem Head_n {r : RS} : r.Head.2.2.1 < 18446744073709551616 ∧ r.Head.2.1 ≤ 7 := by
  unfold Head head
  split
  · cases hr : readH _ with
    | none => exact ⟨(by show (0 : Nat) < 18446744073709551616; decide), Nat.zero_le _⟩
    | some x =>
      obtain ⟨sz, m, n, o⟩ := x
      exact ⟨(readH_some hr).n64, (readH_some hr).m7⟩
  · exact ⟨(by show (0 : Nat) < 18446744073709551616; decide), Nat.zero_le _⟩
theorem Uint_ok {r : RS} (h : r.ok) : r.Uint.1.ok := by
  unfold Uint; split
  · exact fail_ok (Head_ok h) _
  · exact Head_ok h
theorem str_ok {r : RS} (h : r.ok) (want : Nat) (most : Int) : (r.str want most).1.ok := by
  have h1 := Head_ok h
  unfold str; split
  · split
    · exact fail_ok h1 _
    · split
      · exact fail_ok h1 _
      · rename_i h2 h3
        obtain ⟨a, b, c⟩ := h1
        refine ⟨?_, b, c⟩
        show r.Head.1.at_ + r.Head.2.2.1 ≤ r.Head.1.s.length
        simp only [not_or, Nat.not_lt] at h2
        omega
  · exact h1
theorem Array_ok {r : RS} (h : r.ok) : r.Array.1.ok := by
  have h1 := Head_ok h
  unfold Array; split
  · split
    · exact fail_ok h1 _
    · split
      · exact h1
      · split
        · exact fail_ok h1 _
        · exact h1
  · exact h1
theorem Fail_ok {r : RS} (h : r.ok) (e : Int) : (r.Fail e).ok := by
  unfold Fail; split
  · exact ⟨h.1, h.2.1, h.2.2⟩
  · exact h
theorem new_ok {s : List UInt8} (h : s.length < 4611686018427387904) : (new s).ok := ⟨Nat.zero_le _, Nat.zero_le _, h⟩
/-- The reference's fail, and its calls. -/
def rf (r : RS) (e : Int) : RS := { r with bad := (r.at_ : Int), e := e }
abbrev Told : Type := Nat × Nat × Bool × List UInt8 × Int
def zero : Told := (0, 0, false, [], 0)
def nx (r : RS) (sz : Nat) : RS := { r with at_ := r.at_ + sz, bad := -1, e := 0 }
def rdo (r : RS) (k : Nat) (N : Int) : RS × Told :=
  if r.e = 0 then
    if k = 5 then (r.rf 9, zero)
    else match readH (r.s.drop r.at_) with
    | none => (r.rf 2, zero)
    | some (sz, m, n, o) =>
      if k = 0 then (r.nx sz, (m, n, o, [], 0))
      else if k = 1 then (if m = 0 then (r.nx sz, (0, n, false, [], 0)) else (r.rf 2, zero))
      else if k = 4 then
        if m = 4 then (if o = true then (r.nx sz, (0, 0, false, [], -1)) else if 1000 < n then (r.rf 4, zero) else (r.nx sz, (0, 0, false, [], (n : Int)))) else (r.rf 2, zero)
      else if m ≠ k ∨ o = true ∨ r.s.length - (r.at_ + sz) < n then (r.rf 2, zero)
      else if N < 0 ∨ N < n then (r.rf 4, zero)
      else (r.nx (sz + n), (0, 0, false, (r.s.drop (r.at_ + sz)).take n, 0))
  else (r, zero)
def call (r : RS) (k : Nat) (N : Int) : RS × Told :=
  if k = 0 then (r.Head.1, (r.Head.2.1, r.Head.2.2.1, r.Head.2.2.2, [], 0))
  else if k = 1 then (r.Uint.1, (0, r.Uint.2, false, [], 0))
  else if k = 2 then ((r.str 2 N).1, (0, 0, false, (r.str 2 N).2, 0))
  else if k = 3 then ((r.str 3 N).1, (0, 0, false, (r.str 3 N).2, 0))
  else if k = 4 then (r.Array.1, (0, 0, false, [], r.Array.2))
  else (r.Fail 9, zero)
/-- Two readers that are alike but for where what is read now began. -/
def sim (a b : RS) : Prop := a.s = b.s ∧ a.at_ = b.at_ ∧ a.bad = b.bad ∧ a.e = b.e
def fresh (r : RS) : Prop := r.e = 0 → r.bad = -1

theorem Head_off {r : RS} (h : r.e ≠ 0) : r.Head = ({ r with fr := r.at_ }, 0, 0, false) := by
  unfold Head head; rw [if_neg (by simpa using h)]
theorem Head_none {r : RS} (h : r.e = 0) (hr : readH (r.s.drop r.at_) = none) : r.Head = (⟨r.s, r.at_, (r.at_ : Int), 2, r.at_⟩, 0, 0, false) := by
  unfold Head head; dsimp only; rw [if_pos h, hr]; unfold fail; dsimp only; rw [if_pos h]
theorem Head_some {r : RS} (h : r.e = 0) {sz m n : Nat} {o : Bool} (hr : readH (r.s.drop r.at_) = some (sz, m, n, o)) : r.Head = (⟨r.s, r.at_ + sz, r.bad, 0, r.at_⟩, m, n, o) := by
  unfold Head head; dsimp only; rw [if_pos h, hr]; rw [h]
theorem call_sim {r : RS} (hf : r.fresh) {k : Nat} (hk : k < 6) (N : Int) : (r.rdo k N).2 = (r.call k N).2 ∧ sim (r.rdo k N).1 (r.call k N).1 := by
  by_cases h : r.e = 0
  case neg =>
    have e := Head_off h
    have e1 : r.rdo k N = (r, zero) := by unfold rdo; rw [if_neg h]
    rw [e1]
    have : k = 0 ∨ k = 1 ∨ k = 2 ∨ k = 3 ∨ k = 4 ∨ k = 5 := by omega
    rcases this with rfl | rfl | rfl | rfl | rfl | rfl <;> simp [call, Uint, str, Array, Fail, e, h, sim, zero]
  have hb := hf h
  have h5 : k = 0 ∨ k = 1 ∨ k = 2 ∨ k = 3 ∨ k = 4 ∨ k = 5 := by omega
  cases hr : readH (r.s.drop r.at_) with
  | none =>
    have e := Head_none h hr
    rcases h5 with rfl | rfl | rfl | rfl | rfl | rfl <;> simp [rdo, call, Uint, str, Array, Fail, e, h, hr, sim, rf, zero]
  | some x =>
    obtain ⟨sz, m, n, o⟩ := x
    have e := Head_some h hr
    rcases h5 with rfl | rfl | rfl | rfl | rfl | rfl
    · simp [rdo, call, e, h, hr, sim, nx, hb]
    · by_cases hm : m = 0 <;> simp [rdo, call, Uint, e, h, hr, sim, nx, hb, hm, rf, fail, zero]
    · by_cases c1 : m ≠ 2 ∨ o = true ∨ r.s.length - (r.at_ + sz) < n
      · simp only [rdo, call, str, e, h, hr, if_true, c1]; simp [sim, rf, fail, zero]
      · by_cases c2 : N < 0 ∨ N < (n : Int)
        · simp only [rdo, call, str, e, h, hr, if_true, c1, c2, if_false]; simp [sim, rf, fail, zero]
        · simp only [rdo, call, str, e, h, hr, if_true, c1, c2, if_false]; simp [sim, nx, hb, Nat.add_assoc]
    · by_cases c1 : m ≠ 3 ∨ o = true ∨ r.s.length - (r.at_ + sz) < n
      · simp only [rdo, call, str, e, h, hr, if_true, c1]; simp [sim, rf, fail, zero]
      · by_cases c2 : N < 0 ∨ N < (n : Int)
        · simp only [rdo, call, str, e, h, hr, if_true, c1, c2, if_false]; simp [sim, rf, fail, zero]
        · simp only [rdo, call, str, e, h, hr, if_true, c1, c2, if_false]; simp [sim, nx, hb, Nat.add_assoc]
    · by_cases hm : m = 4
      · cases o
        · by_cases hn : 1000 < n <;> simp [rdo, call, Array, e, h, hr, sim, nx, hb, hm, rf, fail, zero, hn]
        · simp [rdo, call, Array, e, h, hr, sim, nx, hb, hm]
      · simp [rdo, call, Array, e, h, hr, sim, hm, rf, fail, zero]
    · simp [rdo, call, Fail, h, sim, rf, zero]
end RS
end Go.Proofs.YtogjghmoankleaaGreat


namespace Go.Proofs.YtogjghmoankleaaGreat
open Go.RowKit
set_option linter.unusedVariables false
set_option linter.unusedSimpArgs false

def RS.cells (r : RS) : _root_.Array Value := rdr r.s r.at_ r.bad r.e r.fr
/-- The reader behind a pointer. -/
def RdAt (w : World) (b : Nat) (r : RS) : Prop := Blk w b 129 r.cells
section
variable {w : World} {b : Nat} {r : RS}
theorem RdAt.s (h : RdAt w b r) : w.cell? ⟨b, 0, none⟩ = some (str r.s) := Blk.cell h 0
theorem RdAt.at_ (h : RdAt w b r) : w.cell? ⟨b, 1, none⟩ = some (.int .i64 r.at_) := Blk.cell h 1
theorem RdAt.bad (h : RdAt w b r) : w.cell? ⟨b, 2, none⟩ = some (.int .i64 r.bad) := Blk.cell h 2
theorem RdAt.e (h : RdAt w b r) : w.cell? ⟨b, 3, none⟩ = some (.int .i64 r.e) := Blk.cell h 3
theorem RdAt.fr (h : RdAt w b r) : w.cell? ⟨b, 4, none⟩ = some (.int .i64 r.fr) := Blk.cell h 4
end

theorem beq0_false {x : Int} (h : x ≠ 0) : (x == 0) = false := by simp [h]
set_option maxHeartbeats 400000 in
theorem fail_bad (b : Nat) (r : RS) (e : Int) (h0 : Hid (r.e ≠ 0)) (w : World) (h : RdAt w b r) : Calls Tryz.prog 90 #[.pointer (some ⟨b, 0, none⟩), .int .i64 e] w fun x w' => x = .returned (.tuple #[]) ∧ w = w' := by
  have c3 := h.e
  have t := beq0_false h0.out
  go_enter Tryz.func90, Tryz.ntmps90
  go_wp2
  go_end0
  exact ⟨rfl, rfl⟩
set_option maxHeartbeats 400000 in
theorem fail_good (b : Nat) (r : RS) (e : Int) (h0 : Hid (r.e = 0)) (w : World) (h : RdAt w b r) : Calls Tryz.prog 90 #[.pointer (some ⟨b, 0, none⟩), .int .i64 e] w
    fun x w' => x = .returned (.tuple #[]) ∧ w' = ((w.setCell ⟨b, 1, none⟩ (.int .i64 r.fr)).setCell ⟨b, 2, none⟩ (.int .i64 r.fr)).setCell ⟨b, 3, none⟩ (.int .i64 e) := by
  have c1 := h.at_
  have c2 := h.bad
  have c3 : w.cell? ⟨b, 3, none⟩ = some (.int .i64 0) := by have := h.e; rw [h0.out] at this; exact this
  have c4 := h.fr
  have f1 := Blk.frozen h 1
  have f2 := Blk.frozen h 2
  have f3 := Blk.frozen h 3
  go_enter Tryz.func90, Tryz.ntmps90
  go_wp2
  go_end0
  exact ⟨rfl, rfl⟩
theorem fail_any (b : Nat) (r : RS) (e : Int) (w : World) (h : RdAt w b r) : Calls Tryz.prog 90 #[.pointer (some ⟨b, 0, none⟩), .int .i64 e] w (RetS [b] (.tuple #[]) (fun w' => RdAt w' b (r.fail e)) w) := by
  by_cases h0 : r.e = 0
  · refine (fail_good b r e h0 w h).mono ?_
    rintro x w' ⟨rfl, rfl⟩
    refine RetS.mk rfl ((((Mod.refl _ _).setCell (.inl (by simp)) _).setCell (.inl (by simp)) _).setCell (.inl (by simp)) _) ?_
    unfold RS.fail
    rw [if_pos h0]
    exact ((Blk.set_ h 1 _).set_ 2 _).set_ 3 _
  · refine (fail_bad b r e h0 w h).mono ?_
    rintro x w' ⟨rfl, rfl⟩
    refine RetS.mk rfl (Mod.refl _ _) ?_
    unfold RS.fail
    rw [if_neg h0]
    exact h

/-! The number of bytes. -/
theorem or_byte_small (n c : Nat) (hc : c < 256) : (n * 256) ||| c = n * 256 + c := by
  rw [show n * 256 = n <<< 8 from by simp [Nat.shiftLeft_eq], ← Nat.shiftLeft_add_eq_or_of_lt (by simpa using hc)]
theorem join_val {n : Nat} (c : UInt8) (h : n < 72057594037927936) : Value.int .u64 (bits .or .u64 (IntKind.u64.wrap ((n : Int) * 256)) (IntKind.u64.wrap (c.toNat : Int))) = .int .u64 ((n * 256 + c.toNat : Nat) : Int) := by
  have hc := c.toNat_lt
  rw [IntWalk.u64_in _ (by omega), IntWalk.u64_in _ (by omega)]
  have := u64_or_nat (n * 256) c.toNat (by omega) (by omega)
  rw [or_byte_small _ _ (by omega)] at this
  rw [← this]; simp
theorem join_step {l : List UInt8} {j q : Nat} {x : UInt8} (hj : j < l.length) (hl : l.length ≤ 8) (hx : l[j] = x) (hq : fromBE (l.take j) = q) :
    Value.int .u64 (bits .or .u64 (IntKind.u64.wrap ((q : Int) * 256)) (IntKind.u64.wrap (x.toNat : Int))) = .int .u64 ((fromBE (l.take (j + 1)) : Nat) : Int) := by
  have hlt := fromBE_lt (l.take j)
  have hle : (l.take j).length ≤ 7 := by rw [List.length_take]; omega
  have hp : 2 ^ (8 * (l.take j).length) ≤ 2 ^ (8 * 7) := Nat.pow_le_pow_right (by omega) (by omega)
  rw [join_val x (by rw [← hq]; exact Nat.lt_of_lt_of_le hlt (by simpa using hp)), List.take_succ_eq_append_getElem hj, fromBE_snoc, hq, hx]
theorem cell_bytesRow (w : World) (l : List UInt8) (cap t : Nat) (fz : Nat × Nat) (j : Nat) (h : j < l.length) :
    (w.alloc (.cells (bytesRow ⟨l.toArray⟩ cap) t fz)).cell? ⟨w.heap.size, j, none⟩ = some (.int .u8 (l[j].toNat : Int)) := by
  rw [World.cell?_alloc_mark]
  simp only [bytesRow]
  rw [Array.getElem?_append_left (by simpa using h)]
  simp [h]
set_option maxHeartbeats 400000 in
theorem join_n (l : List UInt8) (hl : l.length ≤ 8) (w : World) : Calls Tryz.prog 105 #[str l] w (Ret (.int .u64 (fromBE l)) w) := by
  have hconv := fun (w : World) (s : ByteArray) => run_bytes_of_string (P := Tryz.prog) w 9 99 5 s Tryz.underlying9 Tryz.underlying99 Tryz.underlying5
  go_enter Tryz.func105, Tryz.ntmps105
  go_wp2
  have hext : Ext w ((w.alloc (Obj.cells (bytesRow { data := l.toArray } (grownCap w l.length 0 5)) 5 ((bytesRow { data := l.toArray } (grownCap w l.length 0 5)).size, (bytesRow { data := l.toArray } (grownCap w l.length 0 5)).size + 1))).drew) :=
    ((Mod.refl _ _).alloc _).drew
  have hcell : ∀ j (h : j < l.length), ((w.alloc (Obj.cells (bytesRow { data := l.toArray } (grownCap w l.length 0 5)) 5 ((bytesRow { data := l.toArray } (grownCap w l.length 0 5)).size, (bytesRow { data := l.toArray } (grownCap w l.length 0 5)).size + 1))).drew).cell? ⟨w.heap.size, j, none⟩ = some (.int .u8 (l[j].toNat : Int)) := by
    intro j h
    rw [World.cell?_drew]
    exact cell_bytesRow w l _ _ _ j h
  generalize hW : World.drew (World.alloc w _) = W at *
  have HW := hid hW; clear hW
  have HC := hid hcell; clear hcell
  go_loop [3, 9] (fun n i => ∃ j : Nat, j ≤ l.length ∧ i = .int .i64 j ∧ n = .int .u64 ((fromBE (l.take j) : Nat) : Int)) (fun _ i => l.length - (intOf i).toNat)
  case atStart => exact ⟨0, Nat.zero_le _, rfl, rfl⟩
  case round =>
    obtain ⟨j, hj, rfl, rfl⟩ := hrel
    by_cases hlt : j < l.length
    · have hc := HC.out j hlt
      generalize hx : l[j] = x at *
      generalize hq : fromBE (l.take j) = q at *
      have HX := hid hx; clear hx
      have HQ := hid hq; clear hq
      go_wp2
      go_round
      case rel => exact ⟨j + 1, by omega, by go_num, join_step hlt hl HX.out HQ.out⟩
      case measure => simp [intOf]; omega
    · obtain rfl : j = l.length := by omega
      have ht : l.take l.length = l := List.take_length
      rw [ht]
      go_wp2
      go_ret
      exact ⟨rfl, hext⟩
theorem RdAt.froz {w : World} {b : Nat} {r : RS} (h : RdAt w b r) (i : Nat) : w.frozen? ⟨b, i, none⟩ = false := Blk.frozen h i
theorem extract_str (l : List UInt8) (a b : Nat) : Value.string ((⟨l.toArray⟩ : ByteArray).extract a b) = str ((l.drop a).take (b - a)) := by
  rw [Go.Lib.extract_eq]
theorem extract_rest (l : List UInt8) (a : Nat) : Value.string ((⟨l.toArray⟩ : ByteArray).extract a l.length) = str (l.drop a) := by
  rw [extract_str, List.take_of_length_le]; simp

set_option maxHeartbeats 400000 in
theorem head_off (b : Nat) (r : RS) (h0 : Hid (r.e ≠ 0)) (w : World) (h : RdAt w b r) : Calls Tryz.prog 87 #[.pointer (some ⟨b, 0, none⟩)] w
    (RetS [b] (.tuple #[.int .i64 0, .int .u64 0, .bool false]) (fun w' => RdAt w' b r) w) := by
  have c3 := h.e
  have t : (r.e != 0) = true := by simp [h0.out]
  go_enter Tryz.func87, Tryz.ntmps87
  go_wp2
  go_ret3
  exact RetS.mk rfl (Mod.refl _ _) h
set_option maxHeartbeats 400000 in
theorem head_end (b : Nat) (r : RS) (hok : r.ok) (h0 : Hid (r.e = 0)) (hend : Hid (r.s.drop r.at_ = [])) (w : World) (h : RdAt w b r) : Calls Tryz.prog 87 #[.pointer (some ⟨b, 0, none⟩)] w
    (RetS [b] (.tuple #[.int .i64 0, .int .u64 0, .bool false]) (fun w' => RdAt w' b (r.fail 2)) w) := by
  have c0 := h.s
  have c1 := h.at_
  have c3 : w.cell? ⟨b, 3, none⟩ = some (.int .i64 0) := by have := h.e; rw [h0.out] at this; exact this
  have b1 := hok.1
  have hx := extract_rest r.s r.at_
  have hx2 := hend.out
  go_enter Tryz.func87, Tryz.ntmps87
  go_upto_region 3 with fail
  go_quiet (fail)
  go_wp2_with (go_at_call 90; refine (fail_any b r 2 _ (Blk.drewN h nq)).mono ?_; rintro x w' ⟨rfl, hm, hr⟩)
  go_ret3
  exact RetS.mk rfl (((Mod.refl _ _).drewN nq).trans hm) hr
end Go.Proofs.YtogjghmoankleaaGreat
