/-
  The name of an item.
-/
import Derived.Test.YtagjhkknefiieaaEid5
import Derived.Test.YtagjhkknefiieaaItSame
namespace Go.Proofs.Ytagjhkknefiieaa
open Go.RowKit
set_option linter.unusedVariables false

theorem readE_name {t : T} (hok : t.ok) : (readE t).name.length < 4611686018427387904 := by
  unfold readE
  split
  · simp [zeroE]
  · rename_i h
    split
    · simp
    · split
      · cases t with
        | nil => exact absurd hok T.not_nil
        | mk kind n s op k ch =>
          have hk : k = 2 := by
            by_cases hk : k = 2
            · exact hk
            · exact absurd (Or.inr (Or.inl hk)) h
          subst hk
          have h1 := hok.2.2.2.2 1 (by omega)
          show (ch 1).s.length < _
          cases hc : ch 1 with
          | nil => simp [T.s]
          | mk a b d e f g => rw [hc] at h1; exact h1.2.2.1
      · simp [noneE]
def ofB (t : T) : Bool := (readE t).ok && (t.right 8 && t.same (eidT (readE t)))

set_option maxRecDepth 20000 in
set_option maxHeartbeats 1600000 in
theorem eidOf_yes (t : T) (hok : t.ok) (ho : (readE t).ok = true) (hs : (t.right 8 && t.same (eidT (readE t))) = true) (A : Option Addr) (c : Nat) (w : World) (h : IsL w (fun _ => True) t A) : Calls Try.prog 40 #[itemV t A c] w (Ret (.tuple #[(readE t).v, .int .i64 0]) w) := by
  have K1 : Hid (∀ W, IsL W (fun _ => True) t A → Calls Try.prog 56 #[itemV t A c] W (Ret (readE t).v W)) := fun W hW => eread_any t (by rintro rfl; exact T.not_nil hok) A c W hW
  have H := hid h
  have K2 := hid (fun W => eidItem_ok (readE t) ho W)
  obtain ⟨g1, g2, _, _⟩ := eidT_ok ho
  have K3 : Hid (∀ (B : Option Addr) (W : World), IsL W (fun _ => True) t A → IsL W (fun _ => True) (eidT (readE t)) B → Calls Try.prog 57 #[itemV t A c, itemV (eidT (readE t)) B 2] W (Ret (.bool true) W)) := fun B W h1 h2 => by
    have := Same_any t (eidT (readE t)) hok g1 A B c 2 W h1 h2
    rw [g2 8 (by omega), Bool.and_true, hs] at this
    exact this
  clear g1 g2 ho h hok hs
  generalize eidT (readE t) = y at *
  generalize readE t = e at *
  have HE := hid (((Mod.refl [] w).alloc (.cells (itemC t A c) 63)).alloc (.cells #[.int .i64 0, .string ⟨#[]⟩, .int .u64 0, .int .u64 0] 24))
  have HX := hid ((Blk.new w 63 (itemC t A c)).alloc (.cells #[.int .i64 0, .string ⟨#[]⟩, .int .u64 0, .int .u64 0] 24))
  have HQ := hid (Blk.new' (w.alloc (.cells (itemC t A c) 63)) 24 #[.int .i64 0, .string ⟨#[]⟩, .int .u64 0, .int .u64 0] (N := w.heap.size + 1) (by simp))
  go_enter Try.func40, Try.ntmps40
  go_wp2_with fail
  refine (K1.out _ (H.out.ext HE.out)).mono ?_
  rintro e1 w1 ⟨rfl, hb1⟩
  have HE1 := hid ((HE.out.trans hb1).alloc (.cells e.c 24))
  have HX1 := hid ((HX.out.ext hb1).alloc (.cells e.c 24))
  have HQ1 := hid ((HQ.out.ext hb1).alloc (.cells e.c 24))
  have HV1 := hid (Blk.new w1 24 e.c)
  clear hb1
  go_wp2_with fail
  refine (K2.out _).mono ?_
  rintro e1 w2 ⟨B, rfl, hb2, hl2⟩
  have HE2 := hid ((HE1.out.trans hb2).alloc (.cells (itemC y B 2) 63))
  have HX2 := hid ((HX1.out.ext hb2).alloc (.cells (itemC y B 2) 63))
  have HQ2 := hid ((HQ1.out.ext hb2).alloc (.cells (itemC y B 2) 63))
  have HV2 := hid ((HV1.out.ext hb2).alloc (.cells (itemC y B 2) 63))
  have HY2 := hid (Blk.new w2 63 (itemC y B 2))
  have HL2 : Hid (IsL (w2.alloc (.cells (itemC y B 2) 63)) (fun _ => True) y B) := IsL.ext (IsL.weak (fun _ _ _ => trivial) _ hl2) ((Mod.refl _ _).alloc _)
  have H2 := hid ((H.out.ext HE2.out))
  clear hb2 hl2
  obtain ⟨q0, q1, q2, q3, q4⟩ := cells5 HX2.out
  go_wp2_with fail
  refine (K3.out B _ H2.out HL2.out).mono ?_
  rintro e1 w3 ⟨rfl, hb3⟩
  have HE3 := hid (HE2.out.trans hb3)
  have HQ3 := hid (HQ2.out.ext hb3)
  have HV3 := hid (HV2.out.ext hb3)
  clear hb3 q0 q1 q2 q3 q4
  obtain ⟨r0, r1, r2, r3⟩ : w3.cell? ⟨w.heap.size + 1, 0, none⟩ = some (.int .i64 0) ∧ w3.cell? ⟨w.heap.size + 1, 1, none⟩ = some (str []) ∧ w3.cell? ⟨w.heap.size + 1, 2, none⟩ = some (.int .u64 0) ∧ w3.cell? ⟨w.heap.size + 1, 3, none⟩ = some (.int .u64 0) := ⟨HQ3.out.cell 0, HQ3.out.cell 1, HQ3.out.cell 2, HQ3.out.cell 3⟩
  have f0 := Blk.frozen HQ3.out 0
  have f1 := Blk.frozen HQ3.out 1
  have f2 := Blk.frozen HQ3.out 2
  have f3 := Blk.frozen HQ3.out 3
  obtain ⟨v0, v1, v2, v3⟩ : w3.cell? ⟨w1.heap.size, 0, none⟩ = some (.int .i64 e.sch) ∧ w3.cell? ⟨w1.heap.size, 1, none⟩ = some (str e.name) ∧ w3.cell? ⟨w1.heap.size, 2, none⟩ = some (.int .u64 (e.node : Int)) ∧ w3.cell? ⟨w1.heap.size, 3, none⟩ = some (.int .u64 (e.svc : Int)) := ⟨HV3.out.cell 0, HV3.out.cell 1, HV3.out.cell 2, HV3.out.cell 3⟩
  go_wp2_with fail
  have B4 := (((HQ3.out.set_ 0 (.int .i64 e.sch)).set_ 1 (str e.name)).set_ 2 (.int .u64 (e.node : Int))).set_ 3 (.int .u64 (e.svc : Int))
  obtain ⟨d0, d1, d2, d3⟩ := And.intro (B4.cell 0) (And.intro (B4.cell 1) (And.intro (B4.cell 2) (B4.cell 3)))
  simp only [List.setIfInBounds_toArray, List.set_cons_zero, List.set_cons_succ, List.getElem?_toArray, List.getElem?_cons_zero, List.getElem?_cons_succ] at d0 d1 d2 d3
  clear r0 r1 r2 r3 f0 f1 f2 f3 v0 v1 v2 v3
  refine bodyPost_ret (v := .tuple #[e.v, .int .i64 0]) (by simp [results, Try.results40, go_sem, d0, d1, d2, d3]) rfl (Ret.mk rfl ((((HE3.out.setCell (.inr (by show w.heap.size ≤ w.heap.size + 1; omega)) _).setCell (.inr (by show w.heap.size ≤ w.heap.size + 1; omega)) _).setCell (.inr (by show w.heap.size ≤ w.heap.size + 1; omega)) _).setCell (.inr (by show w.heap.size ≤ w.heap.size + 1; omega)) _))
set_option maxRecDepth 20000 in
set_option maxHeartbeats 1600000 in
theorem eidOf_no (t : T) (hok : t.ok) (ho : (readE t).ok = true) (hs : (t.right 8 && t.same (eidT (readE t))) = false) (A : Option Addr) (c : Nat) (w : World) (h : IsL w (fun _ => True) t A) : Calls Try.prog 40 #[itemV t A c] w (Ret (.tuple #[zeroE.v, .int .i64 2]) w) := by
  have K1 : Hid (∀ W, IsL W (fun _ => True) t A → Calls Try.prog 56 #[itemV t A c] W (Ret (readE t).v W)) := fun W hW => eread_any t (by rintro rfl; exact T.not_nil hok) A c W hW
  have H := hid h
  have K2 := hid (fun W => eidItem_ok (readE t) ho W)
  obtain ⟨g1, g2, _, _⟩ := eidT_ok ho
  have K3 : Hid (∀ (B : Option Addr) (W : World), IsL W (fun _ => True) t A → IsL W (fun _ => True) (eidT (readE t)) B → Calls Try.prog 57 #[itemV t A c, itemV (eidT (readE t)) B 2] W (Ret (.bool false) W)) := fun B W h1 h2 => by
    have := Same_any t (eidT (readE t)) hok g1 A B c 2 W h1 h2
    rw [g2 8 (by omega), Bool.and_true, hs] at this
    exact this
  clear g1 g2 ho h hok hs
  generalize eidT (readE t) = y at *
  generalize readE t = e at *
  have HE := hid (((Mod.refl [] w).alloc (.cells (itemC t A c) 63)).alloc (.cells #[.int .i64 0, .string ⟨#[]⟩, .int .u64 0, .int .u64 0] 24))
  have HX := hid ((Blk.new w 63 (itemC t A c)).alloc (.cells #[.int .i64 0, .string ⟨#[]⟩, .int .u64 0, .int .u64 0] 24))
  have HQ := hid (Blk.new' (w.alloc (.cells (itemC t A c) 63)) 24 #[.int .i64 0, .string ⟨#[]⟩, .int .u64 0, .int .u64 0] (N := w.heap.size + 1) (by simp))
  go_enter Try.func40, Try.ntmps40
  go_wp2_with fail
  refine (K1.out _ (H.out.ext HE.out)).mono ?_
  rintro e1 w1 ⟨rfl, hb1⟩
  have HE1 := hid ((HE.out.trans hb1).alloc (.cells e.c 24))
  have HX1 := hid ((HX.out.ext hb1).alloc (.cells e.c 24))
  have HQ1 := hid ((HQ.out.ext hb1).alloc (.cells e.c 24))
  have HV1 := hid (Blk.new w1 24 e.c)
  clear hb1
  go_wp2_with fail
  refine (K2.out _).mono ?_
  rintro e1 w2 ⟨B, rfl, hb2, hl2⟩
  have HE2 := hid ((HE1.out.trans hb2).alloc (.cells (itemC y B 2) 63))
  have HX2 := hid ((HX1.out.ext hb2).alloc (.cells (itemC y B 2) 63))
  have HQ2 := hid ((HQ1.out.ext hb2).alloc (.cells (itemC y B 2) 63))
  have HV2 := hid ((HV1.out.ext hb2).alloc (.cells (itemC y B 2) 63))
  have HY2 := hid (Blk.new w2 63 (itemC y B 2))
  have HL2 : Hid (IsL (w2.alloc (.cells (itemC y B 2) 63)) (fun _ => True) y B) := IsL.ext (IsL.weak (fun _ _ _ => trivial) _ hl2) ((Mod.refl _ _).alloc _)
  have H2 := hid ((H.out.ext HE2.out))
  clear hb2 hl2
  obtain ⟨q0, q1, q2, q3, q4⟩ := cells5 HX2.out
  go_wp2_with fail
  refine (K3.out B _ H2.out HL2.out).mono ?_
  rintro e1 w3 ⟨rfl, hb3⟩
  have HE3 := hid (HE2.out.trans hb3)
  have HQ3 := hid (HQ2.out.ext hb3)
  have HV3 := hid (HV2.out.ext hb3)
  clear hb3 q0 q1 q2 q3 q4
  obtain ⟨r0, r1, r2, r3⟩ : w3.cell? ⟨w.heap.size + 1, 0, none⟩ = some (.int .i64 0) ∧ w3.cell? ⟨w.heap.size + 1, 1, none⟩ = some (str []) ∧ w3.cell? ⟨w.heap.size + 1, 2, none⟩ = some (.int .u64 0) ∧ w3.cell? ⟨w.heap.size + 1, 3, none⟩ = some (.int .u64 0) := ⟨HQ3.out.cell 0, HQ3.out.cell 1, HQ3.out.cell 2, HQ3.out.cell 3⟩
  have f0 := Blk.frozen HQ3.out 0
  have f1 := Blk.frozen HQ3.out 1
  have f2 := Blk.frozen HQ3.out 2
  have f3 := Blk.frozen HQ3.out 3
  go_wp2_with fail
  have B4 := (((HQ3.out.set_ 0 (.int .i64 0)).set_ 1 (str [])).set_ 2 (.int .u64 0)).set_ 3 (.int .u64 0)
  obtain ⟨d0, d1, d2, d3⟩ := And.intro (B4.cell 0) (And.intro (B4.cell 1) (And.intro (B4.cell 2) (B4.cell 3)))
  simp only [List.setIfInBounds_toArray, List.set_cons_zero, List.set_cons_succ, List.getElem?_toArray, List.getElem?_cons_zero, List.getElem?_cons_succ] at d0 d1 d2 d3
  clear r0 r1 r2 r3 f0 f1 f2 f3
  refine bodyPost_ret (v := .tuple #[.agg #[.int .i64 0, str [], .int .u64 0, .int .u64 0], .int .i64 2]) (by simp [results, Try.results40, go_sem, d0, d1, d2, d3]) rfl (Ret.mk rfl ((((HE3.out.setCell (.inr (by show w.heap.size ≤ w.heap.size + 1; omega)) _).setCell (.inr (by show w.heap.size ≤ w.heap.size + 1; omega)) _).setCell (.inr (by show w.heap.size ≤ w.heap.size + 1; omega)) _).setCell (.inr (by show w.heap.size ≤ w.heap.size + 1; omega)) _))
set_option maxRecDepth 20000 in
set_option maxHeartbeats 1600000 in
theorem eidOf_bad (t : T) (hok : t.ok) (ho : (readE t).ok = false) (A : Option Addr) (c : Nat) (w : World) (h : IsL w (fun _ => True) t A) : Calls Try.prog 40 #[itemV t A c] w (Ret (.tuple #[zeroE.v, .int .i64 2]) w) := by
  have K1 : Hid (∀ W, IsL W (fun _ => True) t A → Calls Try.prog 56 #[itemV t A c] W (Ret (readE t).v W)) := fun W hW => eread_any t (by rintro rfl; exact T.not_nil hok) A c W hW
  have H := hid h
  have hl := readE_name hok
  have K2 : Hid (∀ W, Calls Try.prog 28 #[(readE t).v] W (Ret (.tuple #[itemV (numT 0) none 0, .int .i64 1]) W)) := fun W => eidItem_bad _ _ _ _ hl ho W
  clear ho h hok hl
  generalize readE t = e at *
  have HE := hid (((Mod.refl [] w).alloc (.cells (itemC t A c) 63)).alloc (.cells #[.int .i64 0, .string ⟨#[]⟩, .int .u64 0, .int .u64 0] 24))
  have HX := hid ((Blk.new w 63 (itemC t A c)).alloc (.cells #[.int .i64 0, .string ⟨#[]⟩, .int .u64 0, .int .u64 0] 24))
  have HQ := hid (Blk.new' (w.alloc (.cells (itemC t A c) 63)) 24 #[.int .i64 0, .string ⟨#[]⟩, .int .u64 0, .int .u64 0] (N := w.heap.size + 1) (by simp))
  go_enter Try.func40, Try.ntmps40
  go_wp2_with fail
  refine (K1.out _ (H.out.ext HE.out)).mono ?_
  rintro e1 w1 ⟨rfl, hb1⟩
  have HE1 := hid ((HE.out.trans hb1).alloc (.cells e.c 24))
  have HX1 := hid ((HX.out.ext hb1).alloc (.cells e.c 24))
  have HQ1 := hid ((HQ.out.ext hb1).alloc (.cells e.c 24))
  have HV1 := hid (Blk.new w1 24 e.c)
  clear hb1
  go_wp2_with fail
  refine (K2.out _).mono ?_
  rintro e1 w3 ⟨rfl, hb3⟩
  have HE3 := hid ((HE1.out.trans hb3).alloc (.cells (itemC (numT 0) none 0) 63))
  have HQ3 := hid ((HQ1.out.ext hb3).alloc (.cells (itemC (numT 0) none 0) 63))
  clear hb3
  obtain ⟨r0, r1, r2, r3⟩ : (w3.alloc (.cells (itemC (numT 0) none 0) 63)).cell? ⟨w.heap.size + 1, 0, none⟩ = some (.int .i64 0) ∧ (w3.alloc (.cells (itemC (numT 0) none 0) 63)).cell? ⟨w.heap.size + 1, 1, none⟩ = some (str []) ∧ (w3.alloc (.cells (itemC (numT 0) none 0) 63)).cell? ⟨w.heap.size + 1, 2, none⟩ = some (.int .u64 0) ∧ (w3.alloc (.cells (itemC (numT 0) none 0) 63)).cell? ⟨w.heap.size + 1, 3, none⟩ = some (.int .u64 0) := ⟨HQ3.out.cell 0, HQ3.out.cell 1, HQ3.out.cell 2, HQ3.out.cell 3⟩
  have f0 := Blk.frozen HQ3.out 0
  have f1 := Blk.frozen HQ3.out 1
  have f2 := Blk.frozen HQ3.out 2
  have f3 := Blk.frozen HQ3.out 3
  go_wp2_with fail
  have B4 := (((HQ3.out.set_ 0 (.int .i64 0)).set_ 1 (str [])).set_ 2 (.int .u64 0)).set_ 3 (.int .u64 0)
  obtain ⟨d0, d1, d2, d3⟩ := And.intro (B4.cell 0) (And.intro (B4.cell 1) (And.intro (B4.cell 2) (B4.cell 3)))
  simp only [List.setIfInBounds_toArray, List.set_cons_zero, List.set_cons_succ, List.getElem?_toArray, List.getElem?_cons_zero, List.getElem?_cons_succ] at d0 d1 d2 d3
  clear r0 r1 r2 r3 f0 f1 f2 f3
  refine bodyPost_ret (v := .tuple #[.agg #[.int .i64 0, str [], .int .u64 0, .int .u64 0], .int .i64 2]) (by simp [results, Try.results40, go_sem, d0, d1, d2, d3]) rfl (Ret.mk rfl ((((HE3.out.setCell (.inr (by show w.heap.size ≤ w.heap.size + 1; omega)) _).setCell (.inr (by show w.heap.size ≤ w.heap.size + 1; omega)) _).setCell (.inr (by show w.heap.size ≤ w.heap.size + 1; omega)) _).setCell (.inr (by show w.heap.size ≤ w.heap.size + 1; omega)) _))
theorem eidOf_any (t : T) (hok : t.ok) (A : Option Addr) (c : Nat) (w : World) (h : IsL w (fun _ => True) t A) : Calls Try.prog 40 #[itemV t A c] w (Ret (.tuple #[(if ofB t then readE t else zeroE).v, .int .i64 (if ofB t then 0 else 2)]) w) := by
  by_cases ho : (readE t).ok = true
  · by_cases hs : (t.right 8 && t.same (eidT (readE t))) = true
    · have hb : ofB t = true := by unfold ofB; rw [ho, hs]; rfl
      rw [hb]; exact eidOf_yes t hok ho hs A c w h
    · have hs2 : (t.right 8 && t.same (eidT (readE t))) = false := by simpa using hs
      have hb : ofB t = false := by unfold ofB; rw [ho, hs2]; rfl
      rw [hb]; exact eidOf_no t hok ho hs2 A c w h
  · have ho2 : (readE t).ok = false := by simpa using ho
    have hb : ofB t = false := by unfold ofB; rw [ho2]; rfl
    rw [hb]; exact eidOf_bad t hok ho2 A c w h
end Go.Proofs.Ytagjhkknefiieaa
