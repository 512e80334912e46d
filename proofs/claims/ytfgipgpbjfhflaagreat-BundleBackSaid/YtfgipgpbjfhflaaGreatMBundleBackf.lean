/-
 The name of an item.
 Data of blocks: a name, a number, hops; made by the code.
 What the laws of the layer wake the program by.
 The plain law of a reader: its state, and what each call makes of it. No program in sight.
 The walks of package cbor's reading functions: join, fail.
 The walks of (*Reader).head, a case at a time.
 The walks of the reader's calls: each returns what the plain reader returns, and leaves the reader as the plain one.
 How an item is parsed, plainly: how far it goes, or where it is wrong, and why.
 The parser of items: its small methods.
 An array's items, gathered: the row grows in place or anew; what a round of the parser's loop keeps.
 The parser of items: a string.
 The parser's loop: where a round fails; how the loop ends.
 The parser of items: an array's items.
-/
import Derived.Test.YtfgipgpbjfhflaaGreatMBundleBacke
import Derived.Lib.Strings
import Derived.Laws.OwnMore
import Derived.OwnWalk
import Derived.OneCell
import Derived.Deep.AppendLies
import Derived.Deep.RegionLaw

namespace Go.Proofs.YtfgipgpbjfhflaaGreat
open Go.RowKit
set_option linter.unusedVariables false
set_option linter.unusedSimpArgs false

theorem readE_name {t : T} (hok : t.ok) : (readE t).name.length < 4611686018427387904 := by
 unfold readE
 split
 · simp [zeroE]
 ·
  rename_i h
  split
  · simp
  ·
   split
   ·
    cases t with
    | nil => exact absurd hok T.not_nil
    | mk kind n s op k ch =>
     have hk : k = 2 := by
      by_cases hk : k = 2
      · exact hk
      · exact absurd (Or.inr (Or.inl hk)) h
     subst hk
     have h1 := hok.2.2.2.2 1 (by omega)
     show (ch 1).s.length < _
     cases hc : ch 1 with
     | nil => simp [T.s]
     | mk a b d e f g => rw [hc] at h1; exact h1.2.2.1
   · simp [noneE]
def ofB (t : T) : Bool := (readE t).ok && (t.right 8 && t.same (eidT (readE t)))

set_option maxRecDepth 20000 in
set_option maxHeartbeats 1600000 in
theorem eidOf_yes (t : T) (hok : t.ok) (ho : (readE t).ok = true) (hs : (t.right 8 && t.same (eidT (readE t))) = true) (A : Option Addr) (c : Nat) (w : World) (h : IsL w (fun _ => True) t A) : Calls Tryz.prog 119 #[itemV t A c] w (Ret (.tuple #[(readE t).v, .int .i64 0]) w) := by
 have K1 : Hid (∀ W, IsL W (fun _ => True) t A → Calls Tryz.prog 133 #[itemV t A c] W (Ret (readE t).v W)) := fun W hW => eread_any t (by rintro rfl; exact T.not_nil hok) A c W hW
 have H := hid h
 have K2 := hid (fun W => eidItem_ok (readE t) ho W)
 obtain ⟨g1, g2, _, _⟩ := eidT_ok ho
 have K3 : Hid (∀ (B : Option Addr) (W : World), IsL W (fun _ => True) t A → IsL W (fun _ => True) (eidT (readE t)) B → Calls Tryz.prog 65 #[itemV t A c, itemV (eidT (readE t)) B 2] W (Ret (.bool true) W)) := fun B W h1 h2 => by
  have := Same_any t (eidT (readE t)) hok g1 A B c 2 W h1 h2
  rw [g2 8 (by omega), Bool.and_true, hs] at this
  exact this
 clear g1 g2 ho h hok hs
 generalize eidT (readE t) = y at *
 generalize readE t = e at *
 have HE := hid (((Mod.refl [] w).alloc (.cells (itemC t A c) 52)).alloc (.cells #[.int .i64 0, .string ⟨#[]⟩, .int .u64 0, .int .u64 0] 24))
 have HX := hid ((Blk.new w 52 (itemC t A c)).alloc (.cells #[.int .i64 0, .string ⟨#[]⟩, .int .u64 0, .int .u64 0] 24))
 have HQ := hid (Blk.new' (w.alloc (.cells (itemC t A c) 52)) 24 #[.int .i64 0, .string ⟨#[]⟩, .int .u64 0, .int .u64 0] (N := w.heap.size + 1) (by simp))
 go_enter Tryz.func119, Tryz.ntmps119
 go_wp2_with fail
 refine (K1.out _ (H.out.ext HE.out)).mono ?_
 rintro e1 w1 ⟨rfl, hb1⟩
 have HE1 := hid ((HE.out.trans hb1).alloc (.cells e.c 24))
 have HX1 := hid ((HX.out.ext hb1).alloc (.cells e.c 24))
 have HQ1 := hid ((HQ.out.ext hb1).alloc (.cells e.c 24))
 have HV1 := hid (Blk.new w1 24 e.c)
 clear hb1
 go_wp2_with fail
 refine (K2.out _).mono ?_
 rintro e1 w2 ⟨B, rfl, hb2, hl2⟩
 have HE2 := hid ((HE1.out.trans hb2).alloc (.cells (itemC y B 2) 52))
 have HX2 := hid ((HX1.out.ext hb2).alloc (.cells (itemC y B 2) 52))
 have HQ2 := hid ((HQ1.out.ext hb2).alloc (.cells (itemC y B 2) 52))
 have HV2 := hid ((HV1.out.ext hb2).alloc (.cells (itemC y B 2) 52))
 have HY2 := hid (Blk.new w2 52 (itemC y B 2))
 have HL2 : Hid (IsL (w2.alloc (.cells (itemC y B 2) 52)) (fun _ => True) y B) := IsL.ext (IsL.weak (fun _ _ _ => trivial) _ hl2) ((Mod.refl _ _).alloc _)
 have H2 := hid ((H.out.ext HE2.out))
 clear hb2 hl2
 obtain ⟨q0, q1, q2, q3, q4⟩ := cells5 HX2.out
 go_wp2_with fail
 refine (K3.out B _ H2.out HL2.out).mono ?_
 rintro e1 w3 ⟨rfl, hb3⟩
 have HE3 := hid (HE2.out.trans hb3)
 have HQ3 := hid (HQ2.out.ext hb3)
 have HV3 := hid (HV2.out.ext hb3)
 clear hb3 q0 q1 q2 q3 q4
 obtain ⟨r0, r1, r2, r3⟩ : w3.cell? ⟨w.heap.size + 1, 0, none⟩ = some (.int .i64 0) ∧ w3.cell? ⟨w.heap.size + 1, 1, none⟩ = some (str []) ∧ w3.cell? ⟨w.heap.size + 1, 2, none⟩ = some (.int .u64 0) ∧ w3.cell? ⟨w.heap.size + 1, 3, none⟩ = some (.int .u64 0) := ⟨HQ3.out.cell 0, HQ3.out.cell 1, HQ3.out.cell 2, HQ3.out.cell 3⟩
 have f0 := Blk.frozen HQ3.out 0
 have f1 := Blk.frozen HQ3.out 1
 have f2 := Blk.frozen HQ3.out 2
 have f3 := Blk.frozen HQ3.out 3
 obtain ⟨v0, v1, v2, v3⟩ : w3.cell? ⟨w1.heap.size, 0, none⟩ = some (.int .i64 e.sch) ∧ w3.cell? ⟨w1.heap.size, 1, none⟩ = some (str e.name) ∧ w3.cell? ⟨w1.heap.size, 2, none⟩ = some (.int .u64 (e.node : Int)) ∧ w3.cell? ⟨w1.heap.size, 3, none⟩ = some (.int .u64 (e.svc : Int)) := ⟨HV3.out.cell 0, HV3.out.cell 1, HV3.out.cell 2, HV3.out.cell 3⟩
 go_wp2_with fail
 have B4 := (((HQ3.out.set_ 0 (.int .i64 e.sch)).set_ 1 (str e.name)).set_ 2 (.int .u64 (e.node : Int))).set_ 3 (.int .u64 (e.svc : Int))
 obtain ⟨d0, d1, d2, d3⟩ := And.intro (B4.cell 0) (And.intro (B4.cell 1) (And.intro (B4.cell 2) (B4.cell 3)))
 simp only [List.setIfInBounds_toArray, List.set_cons_zero, List.set_cons_succ, List.getElem?_toArray, List.getElem?_cons_zero, List.getElem?_cons_succ] at d0 d1 d2 d3
 clear r0 r1 r2 r3 f0 f1 f2 f3 v0 v1 v2 v3
 refine bodyPost_ret (v := .tuple #[e.v, .int .i64 0]) (by simp [results, Tryz.results119, go_sem, d0, d1, d2, d3]) rfl (Ret.mk rfl ((((HE3.out.setCell (.inr (by show w.heap.size ≤ w.heap.size + 1; omega)) _).setCell (.inr (by show w.heap.size ≤ w.heap.size + 1; omega)) _).setCell (.inr (by show w.heap.size ≤ w.heap.size + 1; omega)) _).setCell (.inr (by show w.heap.size ≤ w.heap.size + 1; omega)) _))
set_option maxRecDepth 20000 in
set_option maxHeartbeats 1600000 in
theorem eidOf_no (t : T) (hok : t.ok) (ho : (readE t).ok = true) (hs : (t.right 8 && t.same (eidT (readE t))) = false) (A : Option Addr) (c : Nat) (w : World) (h : IsL w (fun _ => True) t A) : Calls Tryz.prog 119 #[itemV t A c] w (Ret (.tuple #[zeroE.v, .int .i64 2]) w) := by
 have K1 : Hid (∀ W, IsL W (fun _ => True) t A → Calls Tryz.prog 133 #[itemV t A c] W (Ret (readE t).v W)) := fun W hW => eread_any t (by rintro rfl; exact T.not_nil hok) A c W hW
 have H := hid h
 have K2 := hid (fun W => eidItem_ok (readE t) ho W)
 obtain ⟨g1, g2, _, _⟩ := eidT_ok ho
 have K3 : Hid (∀ (B : Option Addr) (W : World), IsL W (fun _ => True) t A → IsL W (fun _ => True) (eidT (readE t)) B → Calls Tryz.prog 65 #[itemV t A c, itemV (eidT (readE t)) B 2] W (Ret (.bool false) W)) := fun B W h1 h2 => by
  have := Same_any t (eidT (readE t)) hok g1 A B c 2 W h1 h2
  rw [g2 8 (by omega), Bool.and_true, hs] at this
  exact this
 clear g1 g2 ho h hok hs
 generalize eidT (readE t) = y at *
 generalize readE t = e at *
 have HE := hid (((Mod.refl [] w).alloc (.cells (itemC t A c) 52)).alloc (.cells #[.int .i64 0, .string ⟨#[]⟩, .int .u64 0, .int .u64 0] 24))
 have HX := hid ((Blk.new w 52 (itemC t A c)).alloc (.cells #[.int .i64 0, .string ⟨#[]⟩, .int .u64 0, .int .u64 0] 24))
 have HQ := hid (Blk.new' (w.alloc (.cells (itemC t A c) 52)) 24 #[.int .i64 0, .string ⟨#[]⟩, .int .u64 0, .int .u64 0] (N := w.heap.size + 1) (by simp))
 go_enter Tryz.func119, Tryz.ntmps119
 go_wp2_with fail
 refine (K1.out _ (H.out.ext HE.out)).mono ?_
 rintro e1 w1 ⟨rfl, hb1⟩
 have HE1 := hid ((HE.out.trans hb1).alloc (.cells e.c 24))
 have HX1 := hid ((HX.out.ext hb1).alloc (.cells e.c 24))
 have HQ1 := hid ((HQ.out.ext hb1).alloc (.cells e.c 24))
 have HV1 := hid (Blk.new w1 24 e.c)
 clear hb1
 go_wp2_with fail
 refine (K2.out _).mono ?_
 rintro e1 w2 ⟨B, rfl, hb2, hl2⟩
 have HE2 := hid ((HE1.out.trans hb2).alloc (.cells (itemC y B 2) 52))
 have HX2 := hid ((HX1.out.ext hb2).alloc (.cells (itemC y B 2) 52))
 have HQ2 := hid ((HQ1.out.ext hb2).alloc (.cells (itemC y B 2) 52))
 have HV2 := hid ((HV1.out.ext hb2).alloc (.cells (itemC y B 2) 52))
 have HY2 := hid (Blk.new w2 52 (itemC y B 2))
 have HL2 : Hid (IsL (w2.alloc (.cells (itemC y B 2) 52)) (fun _ => True) y B) := IsL.ext (IsL.weak (fun _ _ _ => trivial) _ hl2) ((Mod.refl _ _).alloc _)
 have H2 := hid ((H.out.ext HE2.out))
 clear hb2 hl2
 obtain ⟨q0, q1, q2, q3, q4⟩ := cells5 HX2.out
 go_wp2_with fail
 refine (K3.out B _ H2.out HL2.out).mono ?_
 rintro e1 w3 ⟨rfl, hb3⟩
 have HE3 := hid (HE2.out.trans hb3)
 have HQ3 := hid (HQ2.out.ext hb3)
 have HV3 := hid (HV2.out.ext hb3)
 clear hb3 q0 q1 q2 q3 q4
 obtain ⟨r0, r1, r2, r3⟩ : w3.cell? ⟨w.heap.size + 1, 0, none⟩ = some (.int .i64 0) ∧ w3.cell? ⟨w.heap.size + 1, 1, none⟩ = some (str []) ∧ w3.cell? ⟨w.heap.size + 1, 2, none⟩ = some (.int .u64 0) ∧ w3.cell? ⟨w.heap.size + 1, 3, none⟩ = some (.int .u64 0) := ⟨HQ3.out.cell 0, HQ3.out.cell 1, HQ3.out.cell 2, HQ3.out.cell 3⟩
 have f0 := Blk.frozen HQ3.out 0
 have f1 := Blk.frozen HQ3.out 1
 have f2 := Blk.frozen HQ3.out 2
 have f3 := Blk.frozen HQ3.out 3
 go_wp2_with fail
 have B4 := (((HQ3.out.set_ 0 (.int .i64 0)).set_ 1 (str [])).set_ 2 (.int .u64 0)).set_ 3 (.int .u64 0)
 obtain ⟨d0, d1, d2, d3⟩ := And.intro (B4.cell 0) (And.intro (B4.cell 1) (And.intro (B4.cell 2) (B4.cell 3)))
 simp only [List.setIfInBounds_toArray, List.set_cons_zero, List.set_cons_succ, List.getElem?_toArray, List.getElem?_cons_zero, List.getElem?_cons_succ] at d0 d1 d2 d3
 clear r0 r1 r2 r3 f0 f1 f2 f3
 refine bodyPost_ret (v := .tuple #[.agg #[.int .i64 0, str [], .int .u64 0, .int .u64 0], .int .i64 2]) (by simp [results, Tryz.results119, go_sem, d0, d1, d2, d3]) rfl (Ret.mk rfl ((((HE3.out.setCell (.inr (by show w.heap.size ≤ w.heap.size + 1; omega)) _).setCell (.inr (by show w.heap.size ≤ w.heap.size + 1; omega)) _).setCell (.inr (by show w.heap.size ≤ w.heap.size + 1; omega)) _).setCell (.inr (by show w.heap.size ≤ w.heap.size + 1; omega)) _))
set_option maxRecDepth 20000 in
set_option maxHeartbeats 1600000 in
theorem eidOf_bad (t : T) (hok : t.ok) (ho : (readE t).ok = false) (A : Option Addr) (c : Nat) (w : World) (h : IsL w (fun _ => True) t A) : Calls Tryz.prog 119 #[itemV t A c] w (Ret (.tuple #[zeroE.v, .int .i64 2]) w) := by
 have K1 : Hid (∀ W, IsL W (fun _ => True) t A → Calls Tryz.prog 133 #[itemV t A c] W (Ret (readE t).v W)) := fun W hW => eread_any t (by rintro rfl; exact T.not_nil hok) A c W hW
 have H := hid h
 have hl := readE_name hok
 have K2 : Hid (∀ W, Calls Tryz.prog 132 #[(readE t).v] W (Ret (.tuple #[itemV (numT 0) none 0, .int .i64 1]) W)) := fun W => eidItem_bad _ _ _ _ hl ho W
 clear ho h hok hl
 generalize readE t = e at *
 have HE := hid (((Mod.refl [] w).alloc (.cells (itemC t A c) 52)).alloc (.cells #[.int .i64 0, .string ⟨#[]⟩, .int .u64 0, .int .u64 0] 24))
 have HX := hid ((Blk.new w 52 (itemC t A c)).alloc (.cells #[.int .i64 0, .string ⟨#[]⟩, .int .u64 0, .int .u64 0] 24))
 have HQ := hid (Blk.new' (w.alloc (.cells (itemC t A c) 52)) 24 #[.int .i64 0, .string ⟨#[]⟩, .int .u64 0, .int .u64 0] (N := w.heap.size + 1) (by simp))
 go_enter Tryz.func119, Tryz.ntmps119
 go_wp2_with fail
 refine (K1.out _ (H.out.ext HE.out)).mono ?_
 rintro e1 w1 ⟨rfl, hb1⟩
 have HE1 := hid ((HE.out.trans hb1).alloc (.cells e.c 24))
 have HX1 := hid ((HX.out.ext hb1).alloc (.cells e.c 24))
 have HQ1 := hid ((HQ.out.ext hb1).alloc (.cells e.c 24))
 have HV1 := hid (Blk.new w1 24 e.c)
 clear hb1
 go_wp2_with fail
 refine (K2.out _).mono ?_
 rintro e1 w3 ⟨rfl, hb3⟩
 have HE3 := hid ((HE1.out.trans hb3).alloc (.cells (itemC (numT 0) none 0) 52))
 have HQ3 := hid ((HQ1.out.ext hb3).alloc (.cells (itemC (numT 0) none 0) 52))
 clear hb3
 obtain ⟨r0, r1, r2, r3⟩ : (w3.alloc (.cells (itemC (numT 0) none 0) 52)).cell? ⟨w.heap.size + 1, 0, none⟩ = some (.int .i64 0) ∧ (w3.alloc (.cells (itemC (numT 0) none 0) 52)).cell? ⟨w.heap.size + 1, 1, none⟩ = some (str []) ∧ (w3.alloc (.cells (itemC (numT 0) none 0) 52)).cell? ⟨w.heap.size + 1, 2, none⟩ = some (.int .u64 0) ∧ (w3.alloc (.cells (itemC (numT 0) none 0) 52)).cell? ⟨w.heap.size + 1, 3, none⟩ = some (.int .u64 0) := ⟨HQ3.out.cell 0, HQ3.out.cell 1, HQ3.out.cell 2, HQ3.out.cell 3⟩
 have f0 := Blk.frozen HQ3.out 0
 have f1 := Blk.frozen HQ3.out 1
 have f2 := Blk.frozen HQ3.out 2
 have f3 := Blk.frozen HQ3.out 3
 go_wp2_with fail
 have B4 := (((HQ3.out.set_ 0 (.int .i64 0)).set_ 1 (str [])).set_ 2 (.int .u64 0)).set_ 3 (.int .u64 0)
 obtain ⟨d0, d1, d2, d3⟩ := And.intro (B4.cell 0) (And.intro (B4.cell 1) (And.intro (B4.cell 2) (B4.cell 3)))
 simp only [List.setIfInBounds_toArray, List.set_cons_zero, List.set_cons_succ, List.getElem?_toArray, List.getElem?_cons_zero, List.getElem?_cons_succ] at d0 d1 d2 d3
 clear r0 r1 r2 r3 f0 f1 f2 f3
 refine bodyPost_ret (v := .tuple #[.agg #[.int .i64 0, str [], .int .u64 0, .int .u64 0], .int .i64 2]) (by simp [results, Tryz.results119, go_sem, d0, d1, d2, d3]) rfl (Ret.mk rfl ((((HE3.out.setCell (.inr (by show w.heap.size ≤ w.heap.size + 1; omega)) _).setCell (.inr (by show w.heap.size ≤ w.heap.size + 1; omega)) _).setCell (.inr (by show w.heap.size ≤ w.heap.size + 1; omega)) _).setCell (.inr (by show w.heap.size ≤ w.heap.size + 1; omega)) _))
theorem eidOf_any (t : T) (hok : t.ok) (A : Option Addr) (c : Nat) (w : World) (h : IsL w (fun _ => True) t A) : Calls Tryz.prog 119 #[itemV t A c] w (Ret (.tuple #[(if ofB t then readE t else zeroE).v, .int .i64 (if ofB t then 0 else 2)]) w) := by
 by_cases ho : (readE t).ok = true
 ·
  by_cases hs : (t.right 8 && t.same (eidT (readE t))) = true
  ·
   have hb : ofB t = true := by unfold ofB; rw [ho, hs]; rfl
   rw [hb]; exact eidOf_yes t hok ho hs A c w h
  ·
   have hs2 : (t.right 8 && t.same (eidT (readE t))) = false := by simpa using hs
   have hb : ofB t = false := by unfold ofB; rw [ho, hs2]; rfl
   rw [hb]; exact eidOf_no t hok ho hs2 A c w h
 ·
  have ho2 : (readE t).ok = false := by simpa using ho
  have hb : ofB t = false := by unfold ofB; rw [ho2]; rfl
  rw [hb]; exact eidOf_bad t hok ho2 A c w h
end Go.Proofs.YtfgipgpbjfhflaaGreat


namespace Go.Proofs.YtfgipgpbjfhflaaGreat
open Go.RowKit
set_option linter.unusedVariables false
set_option linter.unusedSimpArgs false

end Go.Proofs.YtfgipgpbjfhflaaGreat


namespace Go.Proofs.YtfgipgpbjfhflaaGreat
open Go.RowKit
set_option linter.unusedVariables false
set_option linter.unusedSimpArgs false

end Go.Proofs.YtfgipgpbjfhflaaGreat


namespace Go.Proofs.YtfgipgpbjfhflaaGreat

/-- A reader's state: its bytes, its place, where what failed began, why, where what is read now began. -/
structure RS where
 s : List UInt8
 at_ : Nat
 bad : Int
 e : Int
 fr : Nat

namespace RS
def ok (r : RS) : Prop := r.at_ ≤ r.s.length ∧ r.fr ≤ r.s.length ∧ r.s.length < 4611686018427387904
def fail (r : RS) (e : Int) : RS := if r.e = 0 then { r with at_ := r.fr, bad := r.fr, e := e } else r
def Fail (r : RS) (e : Int) : RS := if r.e = 0 then { r with bad := r.at_, e := e } else r
def head (r : RS) : RS × Nat × Nat × Bool :=
 if r.e = 0 then
  match readH (r.s.drop r.at_) with
  | none => (r.fail 2, 0, 0, false)
  | some (sz, m, n, o) => ({ r with at_ := r.at_ + sz }, m, n, o)
 else (r, 0, 0, false)
def Head (r : RS) : RS × Nat × Nat × Bool := head { r with fr := r.at_ }
def Uint (r : RS) : RS × Nat := if r.Head.1.e = 0 ∧ r.Head.2.1 ≠ 0 then (r.Head.1.fail 2, 0) else (r.Head.1, r.Head.2.2.1)
def str (r : RS) (want : Nat) (most : Int) : RS × List UInt8 :=
 if r.Head.1.e = 0 then
  if r.Head.2.1 ≠ want ∨ r.Head.2.2.2 = true ∨ r.Head.1.s.length - r.Head.1.at_ < r.Head.2.2.1 then (r.Head.1.fail 2, [])
  else if most < 0 ∨ most < r.Head.2.2.1 then (r.Head.1.fail 4, [])
  else ({ r.Head.1 with at_ := r.Head.1.at_ + r.Head.2.2.1 }, (r.Head.1.s.drop r.Head.1.at_).take r.Head.2.2.1)
 else (r.Head.1, [])
def Array (r : RS) : RS × Int :=
 if r.Head.1.e = 0 then
  if r.Head.2.1 ≠ 4 then (r.Head.1.fail 2, 0)
  else if r.Head.2.2.2 = true then (r.Head.1, -1)
  else if 1000 < r.Head.2.2.1 then (r.Head.1.fail 4, 0)
  else (r.Head.1, r.Head.2.2.1)
 else (r.Head.1, 0)
def new (s : List UInt8) : RS := ⟨s, 0, -1, 0, 0⟩

theorem fail_ok {r : RS} (h : r.ok) (e : Int) : (r.fail e).ok := by
 unfold fail
 split
 · exact ⟨h.2.1, h.2.1, h.2.2⟩
 · exact h
theorem head_ok {r : RS} (h : r.ok) : r.head.1.ok := by
 unfold head
 split
 ·
  cases hr : readH (r.s.drop r.at_) with
  | none => exact fail_ok h _
  | some x =>
   obtain ⟨sz, m, n, o⟩ := x
   have := (readH_some hr).le
   rw [List.length_drop] at this
   obtain ⟨a, b, c⟩ := h
   exact ⟨by show r.at_ + sz ≤ r.s.length; omega, b, c⟩
 · exact h
theorem Head_ok {r : RS} (h : r.ok) : r.Head.1.ok := head_ok ⟨h.1, h.1, h.2.2⟩
theorem str_ok {r : RS} (h : r.ok) (want : Nat) (most : Int) : (r.str want most).1.ok := by
 have h1 := Head_ok h
 unfold str; split
 ·
  split
  · exact fail_ok h1 _
  ·
   split
   · exact fail_ok h1 _
   ·
    rename_i h2 h3
    obtain ⟨a, b, c⟩ := h1
    refine ⟨?_, b, c⟩
    show r.Head.1.at_ + r.Head.2.2.1 ≤ r.Head.1.s.length
    simp only [not_or, Nat.not_lt] at h2
    omega
 · exact h1
theorem new_ok {s : List UInt8} (h : s.length < 4611686018427387904) : (new s).ok := ⟨Nat.zero_le _, Nat.zero_le _, h⟩
abbrev Told : Type := Nat × Nat × Bool × List UInt8 × Int
def zero : Told := (0, 0, false, [], 0)
def nx (r : RS) (sz : Nat) : RS := { r with at_ := r.at_ + sz, bad := -1, e := 0 }
def call (r : RS) (k : Nat) (N : Int) : RS × Told :=
 if k = 0 then (r.Head.1, (r.Head.2.1, r.Head.2.2.1, r.Head.2.2.2, [], 0))
 else if k = 1 then (r.Uint.1, (0, r.Uint.2, false, [], 0))
 else if k = 2 then ((r.str 2 N).1, (0, 0, false, (r.str 2 N).2, 0))
 else if k = 3 then ((r.str 3 N).1, (0, 0, false, (r.str 3 N).2, 0))
 else if k = 4 then (r.Array.1, (0, 0, false, [], r.Array.2))
 else (r.Fail 9, zero)
theorem Head_none {r : RS} (h : r.e = 0) (hr : readH (r.s.drop r.at_) = none) : r.Head = (⟨r.s, r.at_, (r.at_ : Int), 2, r.at_⟩, 0, 0, false) := by
 unfold Head head; dsimp only; rw [if_pos h, hr]; unfold fail; dsimp only; rw [if_pos h]
theorem Head_some {r : RS} (h : r.e = 0) {sz m n : Nat} {o : Bool} (hr : readH (r.s.drop r.at_) = some (sz, m, n, o)) : r.Head = (⟨r.s, r.at_ + sz, r.bad, 0, r.at_⟩, m, n, o) := by
 unfold Head head; dsimp only; rw [if_pos h, hr]; rw [h]
end RS
end Go.Proofs.YtfgipgpbjfhflaaGreat


namespace Go.Proofs.YtfgipgpbjfhflaaGreat
open Go.RowKit
set_option linter.unusedVariables false
set_option linter.unusedSimpArgs false

def RS.cells (r : RS) : _root_.Array Value := rdr r.s r.at_ r.bad r.e r.fr
/-- The reader behind a pointer. -/
def RdAt (w : World) (b : Nat) (r : RS) : Prop := Blk w b 125 r.cells
section
variable {w : World} {b : Nat} {r : RS}
theorem RdAt.s (h : RdAt w b r) : w.cell? ⟨b, 0, none⟩ = some (str r.s) := Blk.cell h 0
theorem RdAt.at_ (h : RdAt w b r) : w.cell? ⟨b, 1, none⟩ = some (.int .i64 r.at_) := Blk.cell h 1
theorem RdAt.bad (h : RdAt w b r) : w.cell? ⟨b, 2, none⟩ = some (.int .i64 r.bad) := Blk.cell h 2
theorem RdAt.e (h : RdAt w b r) : w.cell? ⟨b, 3, none⟩ = some (.int .i64 r.e) := Blk.cell h 3
theorem RdAt.fr (h : RdAt w b r) : w.cell? ⟨b, 4, none⟩ = some (.int .i64 r.fr) := Blk.cell h 4
end

theorem beq0_false {x : Int} (h : x ≠ 0) : (x == 0) = false := by simp [h]
set_option maxHeartbeats 400000 in
theorem fail_bad (b : Nat) (r : RS) (e : Int) (h0 : Hid (r.e ≠ 0)) (w : World) (h : RdAt w b r) : Calls Tryz.prog 88 #[.pointer (some ⟨b, 0, none⟩), .int .i64 e] w fun x w' => x = .returned (.tuple #[]) ∧ w = w' := by
 have c3 := h.e
 have t := beq0_false h0.out
 go_enter Tryz.func88, Tryz.ntmps88
 go_wp2
 go_end0
 exact ⟨rfl, rfl⟩
set_option maxHeartbeats 400000 in
theorem fail_good (b : Nat) (r : RS) (e : Int) (h0 : Hid (r.e = 0)) (w : World) (h : RdAt w b r) : Calls Tryz.prog 88 #[.pointer (some ⟨b, 0, none⟩), .int .i64 e] w
  fun x w' => x = .returned (.tuple #[]) ∧ w' = ((w.setCell ⟨b, 1, none⟩ (.int .i64 r.fr)).setCell ⟨b, 2, none⟩ (.int .i64 r.fr)).setCell ⟨b, 3, none⟩ (.int .i64 e) := by
 have c1 := h.at_
 have c2 := h.bad
 have c3 : w.cell? ⟨b, 3, none⟩ = some (.int .i64 0) := by have := h.e; rw [h0.out] at this; exact this
 have c4 := h.fr
 have f1 := Blk.frozen h 1
 have f2 := Blk.frozen h 2
 have f3 := Blk.frozen h 3
 go_enter Tryz.func88, Tryz.ntmps88
 go_wp2
 go_end0
 exact ⟨rfl, rfl⟩
theorem fail_any (b : Nat) (r : RS) (e : Int) (w : World) (h : RdAt w b r) : Calls Tryz.prog 88 #[.pointer (some ⟨b, 0, none⟩), .int .i64 e] w (RetS [b] (.tuple #[]) (fun w' => RdAt w' b (r.fail e)) w) := by
 by_cases h0 : r.e = 0
 ·
  refine (fail_good b r e h0 w h).mono ?_
  rintro x w' ⟨rfl, rfl⟩
  refine RetS.mk rfl ((((Mod.refl _ _).setCell (.inl (by simp)) _).setCell (.inl (by simp)) _).setCell (.inl (by simp)) _) ?_
  unfold RS.fail
  rw [if_pos h0]
  exact ((Blk.set_ h 1 _).set_ 2 _).set_ 3 _
 ·
  refine (fail_bad b r e h0 w h).mono ?_
  rintro x w' ⟨rfl, rfl⟩
  refine RetS.mk rfl (Mod.refl _ _) ?_
  unfold RS.fail
  rw [if_neg h0]
  exact h

/-! The number of bytes. -/
theorem or_byte_small (n c : Nat) (hc : c < 256) : (n * 256) ||| c = n * 256 + c := by
 rw [show n * 256 = n <<< 8 from by simp [Nat.shiftLeft_eq], ← Nat.shiftLeft_add_eq_or_of_lt (by simpa using hc)]
theorem join_val {n : Nat} (c : UInt8) (h : n < 72057594037927936) : Value.int .u64 (bits .or .u64 (IntKind.u64.wrap ((n : Int) * 256)) (IntKind.u64.wrap (c.toNat : Int))) = .int .u64 ((n * 256 + c.toNat : Nat) : Int) := by
 have hc := c.toNat_lt
 rw [IntWalk.u64_in _ (by omega), IntWalk.u64_in _ (by omega)]
 have := u64_or_nat (n * 256) c.toNat (by omega) (by omega)
 rw [or_byte_small _ _ (by omega)] at this
 rw [← this]; simp
theorem join_step {l : List UInt8} {j q : Nat} {x : UInt8} (hj : j < l.length) (hl : l.length ≤ 8) (hx : l[j] = x) (hq : fromBE (l.take j) = q) :
  Value.int .u64 (bits .or .u64 (IntKind.u64.wrap ((q : Int) * 256)) (IntKind.u64.wrap (x.toNat : Int))) = .int .u64 ((fromBE (l.take (j + 1)) : Nat) : Int) := by
 have hlt := fromBE_lt (l.take j)
 have hle : (l.take j).length ≤ 7 := by rw [List.length_take]; omega
 have hp : 2 ^ (8 * (l.take j).length) ≤ 2 ^ (8 * 7) := Nat.pow_le_pow_right (by omega) (by omega)
 rw [join_val x (by rw [← hq]; exact Nat.lt_of_lt_of_le hlt (by simpa using hp)), List.take_succ_eq_append_getElem hj, fromBE_snoc, hq, hx]
theorem cell_bytesRow (w : World) (l : List UInt8) (cap t : Nat) (fz : Nat × Nat) (j : Nat) (h : j < l.length) :
  (w.alloc (.cells (bytesRow ⟨l.toArray⟩ cap) t fz)).cell? ⟨w.heap.size, j, none⟩ = some (.int .u8 (l[j].toNat : Int)) := by
 rw [World.cell?_alloc_mark]
 simp only [bytesRow]
 rw [Array.getElem?_append_left (by simpa using h)]
 simp [h]
set_option maxHeartbeats 400000 in
theorem join_n (l : List UInt8) (hl : l.length ≤ 8) (w : World) : Calls Tryz.prog 117 #[str l] w (Ret (.int .u64 (fromBE l)) w) := by
 have hconv := fun (w : World) (s : ByteArray) => run_bytes_of_string (P := Tryz.prog) w 9 77 5 s Tryz.underlying9 Tryz.underlying77 Tryz.underlying5
 go_enter Tryz.func117, Tryz.ntmps117
 go_wp2
 have hext : Ext w ((w.alloc (Obj.cells (bytesRow { data := l.toArray } (grownCap w l.length 0 5)) 5 ((bytesRow { data := l.toArray } (grownCap w l.length 0 5)).size, (bytesRow { data := l.toArray } (grownCap w l.length 0 5)).size + 1))).drew) :=
  ((Mod.refl _ _).alloc _).drew
 have hcell : ∀ j (h : j < l.length), ((w.alloc (Obj.cells (bytesRow { data := l.toArray } (grownCap w l.length 0 5)) 5 ((bytesRow { data := l.toArray } (grownCap w l.length 0 5)).size, (bytesRow { data := l.toArray } (grownCap w l.length 0 5)).size + 1))).drew).cell? ⟨w.heap.size, j, none⟩ = some (.int .u8 (l[j].toNat : Int)) := by
  intro j h
  rw [World.cell?_drew]
  exact cell_bytesRow w l _ _ _ j h
 generalize hW : World.drew (World.alloc w _) = W at *
 have HW := hid hW; clear hW
 have HC := hid hcell; clear hcell
 go_loop [3, 9] (fun n i => ∃ j : Nat, j ≤ l.length ∧ i = .int .i64 j ∧ n = .int .u64 ((fromBE (l.take j) : Nat) : Int)) (fun _ i => l.length - (intOf i).toNat)
 case atStart => exact ⟨0, Nat.zero_le _, rfl, rfl⟩
 case round =>
  obtain ⟨j, hj, rfl, rfl⟩ := hrel
  by_cases hlt : j < l.length
  ·
   have hc := HC.out j hlt
   generalize hx : l[j] = x at *
   generalize hq : fromBE (l.take j) = q at *
   have HX := hid hx; clear hx
   have HQ := hid hq; clear hq
   go_wp2
   go_round
   case rel => exact ⟨j + 1, by omega, by go_num, join_step hlt hl HX.out HQ.out⟩
   case measure => simp [intOf]; omega
  ·
   obtain rfl : j = l.length := by omega
   have ht : l.take l.length = l := List.take_length
   rw [ht]
   go_wp2
   go_ret
   exact ⟨rfl, hext⟩
theorem RdAt.froz {w : World} {b : Nat} {r : RS} (h : RdAt w b r) (i : Nat) : w.frozen? ⟨b, i, none⟩ = false := Blk.frozen h i
theorem extract_str (l : List UInt8) (a b : Nat) : Value.string ((⟨l.toArray⟩ : ByteArray).extract a b) = str ((l.drop a).take (b - a)) := by
 rw [Go.Lib.extract_eq]
theorem extract_rest (l : List UInt8) (a : Nat) : Value.string ((⟨l.toArray⟩ : ByteArray).extract a l.length) = str (l.drop a) := by
 rw [extract_str, List.take_of_length_le]; simp

set_option maxHeartbeats 400000 in
theorem head_off (b : Nat) (r : RS) (h0 : Hid (r.e ≠ 0)) (w : World) (h : RdAt w b r) : Calls Tryz.prog 85 #[.pointer (some ⟨b, 0, none⟩)] w
  (RetS [b] (.tuple #[.int .i64 0, .int .u64 0, .bool false]) (fun w' => RdAt w' b r) w) := by
 have c3 := h.e
 have t : (r.e != 0) = true := by simp [h0.out]
 go_enter Tryz.func85, Tryz.ntmps85
 go_wp2
 go_ret3
 exact RetS.mk rfl (Mod.refl _ _) h
set_option maxHeartbeats 400000 in
theorem head_end (b : Nat) (r : RS) (hok : r.ok) (h0 : Hid (r.e = 0)) (hend : Hid (r.s.drop r.at_ = [])) (w : World) (h : RdAt w b r) : Calls Tryz.prog 85 #[.pointer (some ⟨b, 0, none⟩)] w
  (RetS [b] (.tuple #[.int .i64 0, .int .u64 0, .bool false]) (fun w' => RdAt w' b (r.fail 2)) w) := by
 have c0 := h.s
 have c1 := h.at_
 have c3 : w.cell? ⟨b, 3, none⟩ = some (.int .i64 0) := by have := h.e; rw [h0.out] at this; exact this
 have b1 := hok.1
 have hx := extract_rest r.s r.at_
 have hx2 := hend.out
 go_enter Tryz.func85, Tryz.ntmps85
 go_upto_region 3 with fail
 go_quiet (fail)
 go_wp2_with (go_at_call 88; refine (fail_any b r 2 _ (Blk.drewN h nq)).mono ?_; rintro x w' ⟨rfl, hm, hr⟩)
 go_ret3
 exact RetS.mk rfl (((Mod.refl _ _).drewN nq).trans hm) hr
end Go.Proofs.YtfgipgpbjfhflaaGreat


namespace Go.Proofs.YtfgipgpbjfhflaaGreat
open Go.RowKit
set_option linter.unusedVariables false
set_option linter.unusedSimpArgs false
theorem and_small : ∀ c : Fin 256, bits .and .u8 (c.val : Int) 31 = ((c.val % 32 : Nat) : Int) := by decide +kernel
theorem and31 (c : UInt8) : bits .and .u8 (c.toNat : Int) 31 = ((c.toNat % 32 : Nat) : Int) := and_small ⟨c.toNat, c.toNat_lt⟩
theorem first_div (c : UInt8) (l : List UInt8) {m : Nat} (h : 0 < (⟨(c :: l).toArray⟩ : ByteArray).size) (hm : Hid (c.toNat / 32 = m)) : Value.int .i64 (wrap64 (((⟨(c :: l).toArray⟩ : ByteArray)[0].toNat : Int) / 32)) = .int .i64 (m : Int) := by
 rw [← hm.out]
 show Value.int .i64 (wrap64 ((c.toNat : Int) / 32)) = _
 rw [IntWalk.wrap64_in _ (by have := c.toNat_lt; omega)]; rfl
theorem first_mod (c : UInt8) (l : List UInt8) {k : Nat} (h : 0 < (⟨(c :: l).toArray⟩ : ByteArray).size) (hk : Hid (c.toNat % 32 = k)) : Value.int .i64 (wrap64 (bits .and .u8 ((⟨(c :: l).toArray⟩ : ByteArray)[0].toNat : Int) 31)) = .int .i64 (k : Int) := by
 rw [← hk.out]
 show Value.int .i64 (wrap64 (bits .and .u8 (c.toNat : Int) 31)) = _
 rw [and31, IntWalk.wrap64_in _ (by omega)]
theorem extract_one (c : UInt8) (l : List UInt8) (S : Nat) : Value.string ((⟨(c :: l).toArray⟩ : ByteArray).extract 1 (1 + S)) = str (l.take S) := by
 rw [extract_str, List.drop_succ_cons, List.drop_zero, Nat.add_sub_cancel_left]
set_option maxRecDepth 20000 in
set_option maxHeartbeats 400000 in
theorem head_small (b : Nat) (r : RS) (hok : r.ok) (h0 : Hid (r.e = 0)) (c : UInt8) (l : List UInt8) (hd : Hid (r.s.drop r.at_ = c :: l)) (m k : Nat) (hmm : Hid (c.toNat / 32 = m)) (hkk : Hid (c.toNat % 32 = k)) (hk : Hid (k < 24)) (w : World) (h : RdAt w b r) : Calls Tryz.prog 85 #[.pointer (some ⟨b, 0, none⟩)] w
  (RetS [b] (.tuple #[.int .i64 (m : Int), .int .u64 (k : Int), .bool false]) (fun w' => RdAt w' b { r with at_ := r.at_ + 1 }) w) := by
 have c0 := h.s
 have c1 := h.at_
 have c3 : w.cell? ⟨b, 3, none⟩ = some (.int .i64 0) := by have := h.e; rw [h0.out] at this; exact this
 have f1 := h.froz 1
 have b1 := hok.1
 have hx := extract_rest r.s r.at_
 have hx2 := hd.out
 go_enter Tryz.func85, Tryz.ntmps85
 go_upto_region 3 with fail
 go_quiet (fail)
 go_upto_region 7 with fail
 go_cut [6, 7] (fun s6 s7 wx => s6 = .int .i64 (m : Int) ∧ s7 = .int .i64 (k : Int) ∧ ∃ n, wx = w.drewN n)
 case first =>
  have hlen : (0 : Int) < (l.length : Int) + 1 := by omega
  go_quiet (fail)
  go_wp2_with fail
  go_meet
  exact ⟨first_div c l _ hmm, first_mod c l _ hkk, _, World.drewN_drewN _ _ _⟩
 obtain ⟨rfl, rfl, nw, rfl⟩ := hcut
 clear hx hx2
 have hcn := Blk.drewN h nw
 have hk32 : Hid (k ≤ 31) := by have := hkk.out; unfold Hid; omega
 have hlr : Hid (r.at_ + (l.length + 1) = r.s.length) := by
  have h1 := congrArg List.length hd.out
  rw [List.length_drop, List.length_cons] at h1
  have h2 := hok.1
  unfold Hid; omega
 have hbig := hid hok.2.2
 have t1 : decide ((k : Int) < 24) = true := by have h1 := hk.out; have h2 := hk32.out; simp; omega
 have hw1 : IntKind.u64.wrap (k : Int) = k := IntWalk.u64_in _ (by have := hk32.out; omega)
 have hw2 : wrap64 ((r.at_ : Int) + 1) = ((r.at_ + 1 : Nat) : Int) := IntWalk.wrap64_in _ (by have := hlr.out; have := hbig.out; omega)
 go_wp2
 go_ret3
 exact RetS.mk rfl (((Mod.refl _ _).drewN _).setCell (.inl (by simp)) _) (Blk.set_ hcn 1 _)

set_option maxRecDepth 20000 in
set_option maxHeartbeats 400000 in
theorem head_open (b : Nat) (r : RS) (hok : r.ok) (h0 : Hid (r.e = 0)) (c : UInt8) (l : List UInt8) (hd : Hid (r.s.drop r.at_ = c :: l)) (m k : Nat) (hmm : Hid (c.toNat / 32 = m)) (hkk : Hid (c.toNat % 32 = k)) (hk : Hid (k = 31)) (ho : opensB (m : Int) = true) (w : World) (h : RdAt w b r) : Calls Tryz.prog 85 #[.pointer (some ⟨b, 0, none⟩)] w
  (RetS [b] (.tuple #[.int .i64 (m : Int), .int .u64 0, .bool true]) (fun w' => RdAt w' b { r with at_ := r.at_ + 1 }) w) := by
 have c0 := h.s
 have c1 := h.at_
 have c3 : w.cell? ⟨b, 3, none⟩ = some (.int .i64 0) := by have := h.e; rw [h0.out] at this; exact this
 have f1 := h.froz 1
 have b1 := hok.1
 have hx := extract_rest r.s r.at_
 have hx2 := hd.out
 go_enter Tryz.func85, Tryz.ntmps85
 go_upto_region 3 with fail
 go_quiet (fail)
 go_upto_region 7 with fail
 go_cut [6, 7] (fun s6 s7 wx => s6 = .int .i64 (m : Int) ∧ s7 = .int .i64 (k : Int) ∧ ∃ n, wx = w.drewN n)
 case first =>
  have hlen : (0 : Int) < (l.length : Int) + 1 := by omega
  go_quiet (fail)
  go_wp2_with fail
  go_meet
  exact ⟨first_div c l _ hmm, first_mod c l _ hkk, _, World.drewN_drewN _ _ _⟩
 obtain ⟨rfl, rfl, nw, rfl⟩ := hcut
 clear hx hx2
 have hcn := Blk.drewN h nw
 have hk32 : Hid (k ≤ 31) := by have := hkk.out; unfold Hid; omega
 have hlr : Hid (r.at_ + (l.length + 1) = r.s.length) := by
  have h1 := congrArg List.length hd.out
  rw [List.length_drop, List.length_cons] at h1
  have h2 := hok.1
  unfold Hid; omega
 have hbig := hid hok.2.2
 have t1 : decide ((k : Int) < 24) = false := by have h1 := hk.out; have h2 := hk32.out; simp; omega
 have t2 : ((k : Int) == 31) = true := by have h1 := hk.out; have h2 := hk32.out; simp; omega
 have hw2 : wrap64 ((r.at_ : Int) + 1) = ((r.at_ + 1 : Nat) : Int) := IntWalk.wrap64_in _ (by have := hlr.out; have := hbig.out; omega)
 go_wp2_with (go_at_call 82; refine (opens_any _ _).mono ?_; rintro x w2 ⟨rfl, rfl⟩)
 go_ret3
 exact RetS.mk rfl (((Mod.refl _ _).drewN _).setCell (.inl (by simp)) _) (Blk.set_ hcn 1 _)

set_option maxRecDepth 20000 in
set_option maxHeartbeats 400000 in
theorem head_shut (b : Nat) (r : RS) (hok : r.ok) (h0 : Hid (r.e = 0)) (c : UInt8) (l : List UInt8) (hd : Hid (r.s.drop r.at_ = c :: l)) (m k : Nat) (hmm : Hid (c.toNat / 32 = m)) (hkk : Hid (c.toNat % 32 = k)) (hk : Hid (k = 31)) (ho : opensB (m : Int) = false) (w : World) (h : RdAt w b r) : Calls Tryz.prog 85 #[.pointer (some ⟨b, 0, none⟩)] w
  (RetS [b] (.tuple #[.int .i64 0, .int .u64 0, .bool false]) (fun w' => RdAt w' b (r.fail 2)) w) := by
 have c0 := h.s
 have c1 := h.at_
 have c3 : w.cell? ⟨b, 3, none⟩ = some (.int .i64 0) := by have := h.e; rw [h0.out] at this; exact this
 have f1 := h.froz 1
 have b1 := hok.1
 have hx := extract_rest r.s r.at_
 have hx2 := hd.out
 go_enter Tryz.func85, Tryz.ntmps85
 go_upto_region 3 with fail
 go_quiet (fail)
 go_upto_region 7 with fail
 go_cut [6, 7] (fun s6 s7 wx => s6 = .int .i64 (m : Int) ∧ s7 = .int .i64 (k : Int) ∧ ∃ n, wx = w.drewN n)
 case first =>
  have hlen : (0 : Int) < (l.length : Int) + 1 := by omega
  go_quiet (fail)
  go_wp2_with fail
  go_meet
  exact ⟨first_div c l _ hmm, first_mod c l _ hkk, _, World.drewN_drewN _ _ _⟩
 obtain ⟨rfl, rfl, nw, rfl⟩ := hcut
 clear hx hx2
 have hcn := Blk.drewN h nw
 have hk32 : Hid (k ≤ 31) := by have := hkk.out; unfold Hid; omega
 have hlr : Hid (r.at_ + (l.length + 1) = r.s.length) := by
  have h1 := congrArg List.length hd.out
  rw [List.length_drop, List.length_cons] at h1
  have h2 := hok.1
  unfold Hid; omega
 have hbig := hid hok.2.2
 have t1 : decide ((k : Int) < 24) = false := by have h1 := hk.out; have h2 := hk32.out; simp; omega
 have t2 : ((k : Int) == 31) = true := by have h1 := hk.out; have h2 := hk32.out; simp; omega
 have t3 : decide (28 ≤ (k : Int)) = true := by have h1 := hk.out; have h2 := hk32.out; simp; omega
 go_wp2_with (first | (go_at_call 82; refine (opens_any _ _).mono ?_; rintro x w2 ⟨rfl, rfl⟩) | (go_at_call 88; refine (fail_any b r 2 _ (by exact hcn)).mono ?_; rintro x w1 ⟨rfl, hmf, hrf⟩))
 go_ret3
 exact RetS.mk rfl (((Mod.refl _ _).drewN _).trans hmf) hrf

set_option maxRecDepth 20000 in
set_option maxHeartbeats 400000 in
theorem head_big (b : Nat) (r : RS) (hok : r.ok) (h0 : Hid (r.e = 0)) (c : UInt8) (l : List UInt8) (hd : Hid (r.s.drop r.at_ = c :: l)) (m k : Nat) (hmm : Hid (c.toNat / 32 = m)) (hkk : Hid (c.toNat % 32 = k)) (hk : Hid (28 ≤ k ∧ k ≠ 31)) (w : World) (h : RdAt w b r) : Calls Tryz.prog 85 #[.pointer (some ⟨b, 0, none⟩)] w
  (RetS [b] (.tuple #[.int .i64 0, .int .u64 0, .bool false]) (fun w' => RdAt w' b (r.fail 2)) w) := by
 have c0 := h.s
 have c1 := h.at_
 have c3 : w.cell? ⟨b, 3, none⟩ = some (.int .i64 0) := by have := h.e; rw [h0.out] at this; exact this
 have f1 := h.froz 1
 have b1 := hok.1
 have hx := extract_rest r.s r.at_
 have hx2 := hd.out
 go_enter Tryz.func85, Tryz.ntmps85
 go_upto_region 3 with fail
 go_quiet (fail)
 go_upto_region 7 with fail
 go_cut [6, 7] (fun s6 s7 wx => s6 = .int .i64 (m : Int) ∧ s7 = .int .i64 (k : Int) ∧ ∃ n, wx = w.drewN n)
 case first =>
  have hlen : (0 : Int) < (l.length : Int) + 1 := by omega
  go_quiet (fail)
  go_wp2_with fail
  go_meet
  exact ⟨first_div c l _ hmm, first_mod c l _ hkk, _, World.drewN_drewN _ _ _⟩
 obtain ⟨rfl, rfl, nw, rfl⟩ := hcut
 clear hx hx2
 have hcn := Blk.drewN h nw
 have hk32 : Hid (k ≤ 31) := by have := hkk.out; unfold Hid; omega
 have hlr : Hid (r.at_ + (l.length + 1) = r.s.length) := by
  have h1 := congrArg List.length hd.out
  rw [List.length_drop, List.length_cons] at h1
  have h2 := hok.1
  unfold Hid; omega
 have hbig := hid hok.2.2
 have t1 : decide ((k : Int) < 24) = false := by have h1 := hk.out; have h2 := hk32.out; simp; omega
 have t2 : ((k : Int) == 31) = false := by have h1 := hk.out; have h2 := hk32.out; simp; omega
 have t3 : decide (28 ≤ (k : Int)) = true := by have h1 := hk.out; have h2 := hk32.out; simp; omega
 go_wp2_with (go_at_call 88; refine (fail_any b r 2 _ (by exact hcn)).mono ?_; rintro x w1 ⟨rfl, hmf, hrf⟩)
 go_ret3
 exact RetS.mk rfl (((Mod.refl _ _).drewN _).trans hmf) hrf

set_option maxRecDepth 20000 in
set_option maxHeartbeats 400000 in
theorem head_short (b : Nat) (r : RS) (hok : r.ok) (h0 : Hid (r.e = 0)) (c : UInt8) (l : List UInt8) (hd : Hid (r.s.drop r.at_ = c :: l)) (m k : Nat) (hmm : Hid (c.toNat / 32 = m)) (hkk : Hid (c.toNat % 32 = k)) (S : Nat) (hS : Hid (2 ^ (k - 24) = S)) (hk : Hid (24 ≤ k ∧ k < 28)) (hs : Hid (l.length < S)) (w : World) (h : RdAt w b r) : Calls Tryz.prog 85 #[.pointer (some ⟨b, 0, none⟩)] w
  (RetS [b] (.tuple #[.int .i64 0, .int .u64 0, .bool false]) (fun w' => RdAt w' b (r.fail 2)) w) := by
 have c0 := h.s
 have c1 := h.at_
 have c3 : w.cell? ⟨b, 3, none⟩ = some (.int .i64 0) := by have := h.e; rw [h0.out] at this; exact this
 have f1 := h.froz 1
 have b1 := hok.1
 have hx := extract_rest r.s r.at_
 have hx2 := hd.out
 go_enter Tryz.func85, Tryz.ntmps85
 go_upto_region 3 with fail
 go_quiet (fail)
 go_upto_region 7 with fail
 go_cut [6, 7] (fun s6 s7 wx => s6 = .int .i64 (m : Int) ∧ s7 = .int .i64 (k : Int) ∧ ∃ n, wx = w.drewN n)
 case first =>
  have hlen : (0 : Int) < (l.length : Int) + 1 := by omega
  go_quiet (fail)
  go_wp2_with fail
  go_meet
  exact ⟨first_div c l _ hmm, first_mod c l _ hkk, _, World.drewN_drewN _ _ _⟩
 obtain ⟨rfl, rfl, nw, rfl⟩ := hcut
 clear hx hx2
 have hcn := Blk.drewN h nw
 have hk32 : Hid (k ≤ 31) := by have := hkk.out; unfold Hid; omega
 have hlr : Hid (r.at_ + (l.length + 1) = r.s.length) := by
  have h1 := congrArg List.length hd.out
  rw [List.length_drop, List.length_cons] at h1
  have h2 := hok.1
  unfold Hid; omega
 have hbig := hid hok.2.2
 have t1 : decide ((k : Int) < 24) = false := by have h1 := hk.out; have h2 := hk32.out; simp; omega
 have t2 : ((k : Int) == 31) = false := by have h1 := hk.out; have h2 := hk32.out; simp; omega
 have t3 : decide (28 ≤ (k : Int)) = false := by have h1 := hk.out; have h2 := hk32.out; simp; omega
 go_upto_region 17 with fail
 go_cut [8] (fun s wx => s = .int .i64 (S : Int) ∧ wx = w.drewN nw)
 case first =>
  have hk4 : k = 24 ∨ k = 25 ∨ k = 26 ∨ k = 27 := by have := hk.out; omega
  rcases hk4 with rfl | rfl | rfl | rfl
  all_goals go_wp2
  all_goals go_meet
  all_goals exact ⟨by rw [← hS.out]; rfl, rfl⟩
 obtain ⟨rfl, rfl⟩ := hcut
 have hw3 : wrap64 (1 + (S : Int)) = 1 + (S : Int) := IntWalk.wrap64_in _ (by have := hS.out; have h2 : S ≤ 8 := by { have h1 := hk.out; rw [← hS.out]; exact Nat.le_trans (Nat.pow_le_pow_right (by omega) (show k - 24 ≤ 3 by omega)) (by decide) }; omega)
 have hS8 : Hid (S ≤ 8) := by
  have h1 := hk.out
  unfold Hid
  rw [← hS.out]
  exact Nat.le_trans (Nat.pow_le_pow_right (by omega) (show k - 24 ≤ 3 by omega)) (by decide)
 have t4 : decide ((l.length : Int) + 1 < 1 + (S : Int)) = true := by have := hs.out; simp; omega
 go_wp2_with (go_at_call 88; refine (fail_any b r 2 _ (by exact hcn)).mono ?_; rintro x w1 ⟨rfl, hmf, hrf⟩)
 go_ret3
 exact RetS.mk rfl (((Mod.refl _ _).drewN _).trans hmf) hrf

set_option maxRecDepth 20000 in
set_option maxHeartbeats 400000 in
theorem head_long (b : Nat) (r : RS) (hok : r.ok) (h0 : Hid (r.e = 0)) (c : UInt8) (l : List UInt8) (hd : Hid (r.s.drop r.at_ = c :: l)) (m k : Nat) (hmm : Hid (c.toNat / 32 = m)) (hkk : Hid (c.toNat % 32 = k)) (S : Nat) (hS : Hid (2 ^ (k - 24) = S)) (hk : Hid (24 ≤ k ∧ k < 28)) (n : Nat) (hn : Hid (fromBE (l.take S) = n)) (hs : Hid (S ≤ l.length)) (hc : Hid ((headL m n).length ≠ 1 + S)) (w : World) (h : RdAt w b r) : Calls Tryz.prog 85 #[.pointer (some ⟨b, 0, none⟩)] w
  (RetS [b] (.tuple #[.int .i64 0, .int .u64 0, .bool false]) (fun w' => RdAt w' b (r.fail 2)) w) := by
 have c0 := h.s
 have c1 := h.at_
 have c3 : w.cell? ⟨b, 3, none⟩ = some (.int .i64 0) := by have := h.e; rw [h0.out] at this; exact this
 have f1 := h.froz 1
 have b1 := hok.1
 have hx := extract_rest r.s r.at_
 have hx2 := hd.out
 go_enter Tryz.func85, Tryz.ntmps85
 go_upto_region 3 with fail
 go_quiet (fail)
 go_upto_region 7 with fail
 go_cut [6, 7] (fun s6 s7 wx => s6 = .int .i64 (m : Int) ∧ s7 = .int .i64 (k : Int) ∧ ∃ n, wx = w.drewN n)
 case first =>
  have hlen : (0 : Int) < (l.length : Int) + 1 := by omega
  go_quiet (fail)
  go_wp2_with fail
  go_meet
  exact ⟨first_div c l _ hmm, first_mod c l _ hkk, _, World.drewN_drewN _ _ _⟩
 obtain ⟨rfl, rfl, nw, rfl⟩ := hcut
 clear hx hx2
 have hcn := Blk.drewN h nw
 have hk32 : Hid (k ≤ 31) := by have := hkk.out; unfold Hid; omega
 have hlr : Hid (r.at_ + (l.length + 1) = r.s.length) := by
  have h1 := congrArg List.length hd.out
  rw [List.length_drop, List.length_cons] at h1
  have h2 := hok.1
  unfold Hid; omega
 have hbig := hid hok.2.2
 have t1 : decide ((k : Int) < 24) = false := by have h1 := hk.out; have h2 := hk32.out; simp; omega
 have t2 : ((k : Int) == 31) = false := by have h1 := hk.out; have h2 := hk32.out; simp; omega
 have t3 : decide (28 ≤ (k : Int)) = false := by have h1 := hk.out; have h2 := hk32.out; simp; omega
 go_upto_region 17 with fail
 go_cut [8] (fun s wx => s = .int .i64 (S : Int) ∧ wx = w.drewN nw)
 case first =>
  have hk4 : k = 24 ∨ k = 25 ∨ k = 26 ∨ k = 27 := by have := hk.out; omega
  rcases hk4 with rfl | rfl | rfl | rfl
  all_goals go_wp2
  all_goals go_meet
  all_goals exact ⟨by rw [← hS.out]; rfl, rfl⟩
 obtain ⟨rfl, rfl⟩ := hcut
 have hw3 : wrap64 (1 + (S : Int)) = 1 + (S : Int) := IntWalk.wrap64_in _ (by have := hS.out; have h2 : S ≤ 8 := by { have h1 := hk.out; rw [← hS.out]; exact Nat.le_trans (Nat.pow_le_pow_right (by omega) (show k - 24 ≤ 3 by omega)) (by decide) }; omega)
 have hS8 : Hid (S ≤ 8) := by
  have h1 := hk.out
  unfold Hid
  rw [← hS.out]
  exact Nat.le_trans (Nat.pow_le_pow_right (by omega) (show k - 24 ≤ 3 by omega)) (by decide)
 have t4 : decide ((l.length : Int) + 1 < 1 + (S : Int)) = false := by have := hs.out; simp; omega
 have t5 : (S : Int) ≤ (l.length : Int) := by have := hs.out; omega
 have t6 : (((headL m n).length : Int) == 1 + (S : Int)) = false := by have := hc.out; simp; omega
 have t7 : (((headL m n).length : Int) != 1 + (S : Int)) = true := by have := hc.out; simp; omega
 have hn64 : Hid (n < 18446744073709551616 ∧ m ≤ 7) := by
  have h1 := fromBE_lt (l.take S)
  have h2 : (l.take S).length ≤ 8 := by have := hS8.out; rw [List.length_take]; omega
  have h3 : 2 ^ (8 * (l.take S).length) ≤ 2 ^ (8 * 8) := Nat.pow_le_pow_right (by omega) (by omega)
  rw [hn.out] at h1
  have := c.toNat_lt
  have := hmm.out
  exact ⟨Nat.lt_of_lt_of_le h1 h3, by omega⟩
 have hl8 : Hid ((l.take S).length ≤ 8) := by have := hS8.out; unfold Hid; rw [List.length_take]; omega
 go_wp2_with (first | (go_at_call 117; rw [extract_one]; refine (join_n (l.take S) hl8.out _).mono ?_; rintro x w2 ⟨rfl, hb2⟩; rw [hn.out]) | (go_at_call 108; refine (head_in m n (by omega) (by have := hn64.out; omega) (by omega) (by have := hn64.out; omega) _).mono ?_; rintro x w3 ⟨rfl, hb3⟩; simp only [Int.toNat_natCast]; have hr3 : RdAt w3 b r := (Blk.ext hcn hb2).ext hb3; have c1' := hr3.at_; have f1' := hr3.froz 1) | (go_at_call 88; refine (fail_any b r 2 _ hr3).mono ?_; rintro x w1 ⟨rfl, hmf, hrf⟩))
 go_ret3
 exact RetS.mk rfl ((((((Mod.refl _ _).drewN _).trans hb2.of_ext).trans hb3.of_ext)).trans hmf) hrf

set_option maxRecDepth 20000 in
set_option maxHeartbeats 400000 in
theorem head_good (b : Nat) (r : RS) (hok : r.ok) (h0 : Hid (r.e = 0)) (c : UInt8) (l : List UInt8) (hd : Hid (r.s.drop r.at_ = c :: l)) (m k : Nat) (hmm : Hid (c.toNat / 32 = m)) (hkk : Hid (c.toNat % 32 = k)) (S : Nat) (hS : Hid (2 ^ (k - 24) = S)) (hk : Hid (24 ≤ k ∧ k < 28)) (n : Nat) (hn : Hid (fromBE (l.take S) = n)) (hs : Hid (S ≤ l.length)) (hc : Hid ((headL m n).length = 1 + S)) (w : World) (h : RdAt w b r) : Calls Tryz.prog 85 #[.pointer (some ⟨b, 0, none⟩)] w
  (RetS [b] (.tuple #[.int .i64 (m : Int), .int .u64 (n : Int), .bool false]) (fun w' => RdAt w' b { r with at_ := r.at_ + (1 + S) }) w) := by
 have c0 := h.s
 have c1 := h.at_
 have c3 : w.cell? ⟨b, 3, none⟩ = some (.int .i64 0) := by have := h.e; rw [h0.out] at this; exact this
 have f1 := h.froz 1
 have b1 := hok.1
 have hx := extract_rest r.s r.at_
 have hx2 := hd.out
 go_enter Tryz.func85, Tryz.ntmps85
 go_upto_region 3 with fail
 go_quiet (fail)
 go_upto_region 7 with fail
 go_cut [6, 7] (fun s6 s7 wx => s6 = .int .i64 (m : Int) ∧ s7 = .int .i64 (k : Int) ∧ ∃ n, wx = w.drewN n)
 case first =>
  have hlen : (0 : Int) < (l.length : Int) + 1 := by omega
  go_quiet (fail)
  go_wp2_with fail
  go_meet
  exact ⟨first_div c l _ hmm, first_mod c l _ hkk, _, World.drewN_drewN _ _ _⟩
 obtain ⟨rfl, rfl, nw, rfl⟩ := hcut
 clear hx hx2
 have hcn := Blk.drewN h nw
 have hk32 : Hid (k ≤ 31) := by have := hkk.out; unfold Hid; omega
 have hlr : Hid (r.at_ + (l.length + 1) = r.s.length) := by
  have h1 := congrArg List.length hd.out
  rw [List.length_drop, List.length_cons] at h1
  have h2 := hok.1
  unfold Hid; omega
 have hbig := hid hok.2.2
 have t1 : decide ((k : Int) < 24) = false := by have h1 := hk.out; have h2 := hk32.out; simp; omega
 have t2 : ((k : Int) == 31) = false := by have h1 := hk.out; have h2 := hk32.out; simp; omega
 have t3 : decide (28 ≤ (k : Int)) = false := by have h1 := hk.out; have h2 := hk32.out; simp; omega
 go_upto_region 17 with fail
 go_cut [8] (fun s wx => s = .int .i64 (S : Int) ∧ wx = w.drewN nw)
 case first =>
  have hk4 : k = 24 ∨ k = 25 ∨ k = 26 ∨ k = 27 := by have := hk.out; omega
  rcases hk4 with rfl | rfl | rfl | rfl
  all_goals go_wp2
  all_goals go_meet
  all_goals exact ⟨by rw [← hS.out]; rfl, rfl⟩
 obtain ⟨rfl, rfl⟩ := hcut
 have hw3 : wrap64 (1 + (S : Int)) = 1 + (S : Int) := IntWalk.wrap64_in _ (by have := hS.out; have h2 : S ≤ 8 := by { have h1 := hk.out; rw [← hS.out]; exact Nat.le_trans (Nat.pow_le_pow_right (by omega) (show k - 24 ≤ 3 by omega)) (by decide) }; omega)
 have hS8 : Hid (S ≤ 8) := by
  have h1 := hk.out
  unfold Hid
  rw [← hS.out]
  exact Nat.le_trans (Nat.pow_le_pow_right (by omega) (show k - 24 ≤ 3 by omega)) (by decide)
 have t4 : decide ((l.length : Int) + 1 < 1 + (S : Int)) = false := by have := hs.out; simp; omega
 have t5 : (S : Int) ≤ (l.length : Int) := by have := hs.out; omega
 have t6 : (((headL m n).length : Int) == 1 + (S : Int)) = true := by have := hc.out; simp; omega
 have t7 : (((headL m n).length : Int) != 1 + (S : Int)) = false := by have := hc.out; simp; omega
 have hw4 : wrap64 ((r.at_ : Int) + (1 + (S : Int))) = ((r.at_ + (1 + S) : Nat) : Int) := IntWalk.wrap64_in _ (by have := hlr.out; have := hbig.out; have := hS8.out; omega)
 have hn64 : Hid (n < 18446744073709551616 ∧ m ≤ 7) := by
  have h1 := fromBE_lt (l.take S)
  have h2 : (l.take S).length ≤ 8 := by have := hS8.out; rw [List.length_take]; omega
  have h3 : 2 ^ (8 * (l.take S).length) ≤ 2 ^ (8 * 8) := Nat.pow_le_pow_right (by omega) (by omega)
  rw [hn.out] at h1
  have := c.toNat_lt
  have := hmm.out
  exact ⟨Nat.lt_of_lt_of_le h1 h3, by omega⟩
 have hl8 : Hid ((l.take S).length ≤ 8) := by have := hS8.out; unfold Hid; rw [List.length_take]; omega
 go_wp2_with (first | (go_at_call 117; rw [extract_one]; refine (join_n (l.take S) hl8.out _).mono ?_; rintro x w2 ⟨rfl, hb2⟩; rw [hn.out]) | (go_at_call 108; refine (head_in m n (by omega) (by have := hn64.out; omega) (by omega) (by have := hn64.out; omega) _).mono ?_; rintro x w3 ⟨rfl, hb3⟩; simp only [Int.toNat_natCast]; have hr3 : RdAt w3 b r := (Blk.ext hcn hb2).ext hb3; have c1' := hr3.at_; have f1' := hr3.froz 1) | (go_at_call 88; refine (fail_any b r 2 _ hr3).mono ?_; rintro x w1 ⟨rfl, hmf, hrf⟩))
 go_ret3
 exact RetS.mk rfl (((((Mod.refl _ _).drewN _).trans hb2.of_ext).trans hb3.of_ext).setCell (.inl (by simp)) _) (Blk.set_ hr3 1 _)

end Go.Proofs.YtfgipgpbjfhflaaGreat


namespace Go.Proofs.YtfgipgpbjfhflaaGreat
open Go.RowKit
set_option linter.unusedVariables false
set_option linter.unusedSimpArgs false

theorem head_of {b : Nat} {w : World} {r r' : RS} {m n : Nat} {o : Bool} (hm : r.head = (r', m, n, o))
  (h : Calls Tryz.prog 85 #[.pointer (some ⟨b, 0, none⟩)] w (RetS [b] (.tuple #[.int .i64 (m : Int), .int .u64 (n : Int), .bool o]) (fun w' => RdAt w' b r') w)) :
  Calls Tryz.prog 85 #[.pointer (some ⟨b, 0, none⟩)] w
   (RetS [b] (.tuple #[.int .i64 (r.head.2.1 : Int), .int .u64 (r.head.2.2.1 : Int), .bool r.head.2.2.2]) (fun w' => RdAt w' b r.head.1) w) := by
 rw [hm]; exact h
theorem head_any_r (b : Nat) (r : RS) (hok : r.ok) (w : World) (h : RdAt w b r) : Calls Tryz.prog 85 #[.pointer (some ⟨b, 0, none⟩)] w
  (RetS [b] (.tuple #[.int .i64 (r.head.2.1 : Int), .int .u64 (r.head.2.2.1 : Int), .bool r.head.2.2.2]) (fun w' => RdAt w' b r.head.1) w) := by
 by_cases h0 : r.e = 0
 case neg => exact head_of (by unfold RS.head; rw [if_neg h0]) (head_off b r h0 w h)
 cases hd : r.s.drop r.at_ with
 | nil => exact head_of (by unfold RS.head; rw [if_pos h0, hd]; rfl) (head_end b r hok h0 hd w h)
 | cons c l =>
  have hc := c.toNat_lt
  by_cases h1 : c.toNat % 32 < 24
  · exact head_of (by unfold RS.head; rw [if_pos h0, hd]; unfold readH; dsimp only; rw [if_pos h1]) (head_small b r hok h0 c l hd _ _ rfl rfl h1 w h)
  by_cases h2 : c.toNat % 32 = 31
  ·
   cases ho : opensB ((c.toNat / 32 : Nat) : Int)
   · exact head_of (by unfold RS.head; rw [if_pos h0, hd]; unfold readH; dsimp only; rw [if_neg h1, if_neg (by rw [ho]; simp), if_pos (by omega)]) (head_shut b r hok h0 c l hd _ _ rfl rfl h2 ho w h)
   · exact head_of (by unfold RS.head; rw [if_pos h0, hd]; unfold readH; dsimp only; rw [if_neg h1, if_pos ⟨h2, ho⟩]) (head_open b r hok h0 c l hd _ _ rfl rfl h2 ho w h)
  by_cases h3 : 28 ≤ c.toNat % 32
  · exact head_of (by unfold RS.head; rw [if_pos h0, hd]; unfold readH; dsimp only; rw [if_neg h1, if_neg (fun x => h2 x.1), if_pos h3]) (head_big b r hok h0 c l hd _ _ rfl rfl ⟨h3, h2⟩ w h)
  by_cases h4 : l.length < 2 ^ (c.toNat % 32 - 24)
  · exact head_of (by unfold RS.head; rw [if_pos h0, hd]; unfold readH; dsimp only; rw [if_neg h1, if_neg (fun x => h2 x.1), if_neg h3, if_pos h4]) (head_short b r hok h0 c l hd _ _ rfl rfl _ rfl ⟨by omega, by omega⟩ h4 w h)
  by_cases h5 : (headL (c.toNat / 32) (fromBE (l.take (2 ^ (c.toNat % 32 - 24))))).length = 1 + 2 ^ (c.toNat % 32 - 24)
  · exact head_of (by unfold RS.head; rw [if_pos h0, hd]; unfold readH; dsimp only; rw [if_neg h1, if_neg (fun x => h2 x.1), if_neg h3, if_neg h4, if_pos h5]) (head_good b r hok h0 c l hd _ _ rfl rfl _ rfl ⟨by omega, by omega⟩ _ rfl (Nat.le_of_not_lt h4) h5 w h)
  · exact head_of (by unfold RS.head; rw [if_pos h0, hd]; unfold readH; dsimp only; rw [if_neg h1, if_neg (fun x => h2 x.1), if_neg h3, if_neg h4, if_neg h5]) (head_long b r hok h0 c l hd _ _ rfl rfl _ rfl ⟨by omega, by omega⟩ _ rfl (Nat.le_of_not_lt h4) h5 w h)

set_option maxRecDepth 20000 in
set_option maxHeartbeats 400000 in
theorem Head_any_r (b : Nat) (r : RS) (hok : r.ok) (w : World) (h : RdAt w b r) : Calls Tryz.prog 54 #[.pointer (some ⟨b, 0, none⟩)] w
  (RetS [b] (.tuple #[.int .i64 (r.Head.2.1 : Int), .int .u64 (r.Head.2.2.1 : Int), .bool r.Head.2.2.2]) (fun w' => RdAt w' b r.Head.1) w) := by
 have c1 := h.at_
 have c4 := h.fr
 have f4 := h.froz 4
 have hs : RdAt (w.setCell ⟨b, 4, none⟩ (.int .i64 (r.at_ : Int))) b { r with fr := r.at_ } := Blk.set_ h 4 _
 have hok2 : RS.ok { r with fr := r.at_ } := ⟨hok.1, hok.1, hok.2.2⟩
 go_enter Tryz.func54, Tryz.ntmps54
 go_wp2_with (go_at_call 85; refine (head_any_r b _ hok2 _ hs).mono ?_; rintro x w1 ⟨rfl, hm, hr⟩)
 go_ret3
 exact RetS.mk rfl (((Mod.refl _ _).setCell (.inl (by simp)) _).trans hm) hr

set_option maxRecDepth 20000 in
set_option maxHeartbeats 400000 in
theorem At_any (b : Nat) (r : RS) (w : World) (h : RdAt w b r) : Calls Tryz.prog 56 #[.pointer (some ⟨b, 0, none⟩)] w fun e w' => e = .returned (.int .i64 r.at_) ∧ w = w' := by
 have c1 := h.at_
 go_enter Tryz.func56, Tryz.ntmps56
 go_wp2
 go_ret
 exact ⟨rfl, rfl⟩
set_option maxRecDepth 20000 in
set_option maxHeartbeats 400000 in
theorem Array_e (b : Nat) (r : RS) (hok : r.ok) (he : Hid (r.Head.1.e ≠ 0)) (w : World) (h : RdAt w b r) : Calls Tryz.prog 59 #[.pointer (some ⟨b, 0, none⟩)] w (RetS [b] (.int .i64 0) (fun w' => RdAt w' b r.Head.1) w) := by
 have te : (r.Head.1.e != 0) = true := by have := he.out; simp [this]
 go_enter Tryz.func59, Tryz.ntmps59
 go_wp2_with (go_at_call 54; refine (Head_any_r b r hok _ h).mono ?_; rintro x w1 ⟨rfl, hm1, hr1⟩; have c0 := hr1.s; have c1 := hr1.at_; have c3 := hr1.e; have f1 := hr1.froz 1)
 go_ret
 exact RetS.mk rfl hm1 hr1

set_option maxRecDepth 20000 in
set_option maxHeartbeats 400000 in
theorem Array_m (b : Nat) (r : RS) (hok : r.ok) (he : Hid (r.Head.1.e = 0)) (hm : Hid (r.Head.2.1 ≠ 4)) (w : World) (h : RdAt w b r) : Calls Tryz.prog 59 #[.pointer (some ⟨b, 0, none⟩)] w (RetS [b] (.int .i64 0) (fun w' => RdAt w' b (r.Head.1.fail 2)) w) := by
 have te : (r.Head.1.e != 0) = false := by have := he.out; simp [this]
 have tm : ((r.Head.2.1 : Int) != 4) = true := by have := hm.out; simp; omega
 go_enter Tryz.func59, Tryz.ntmps59
 go_wp2_with (first | (go_at_call 54; refine (Head_any_r b r hok _ h).mono ?_; rintro x w1 ⟨rfl, hm1, hr1⟩; have c0 := hr1.s; have c1 := hr1.at_; have c3 := hr1.e; have f1 := hr1.froz 1) | (go_at_call 88; refine (fail_any b r.Head.1 2 _ (by first | exact hr1 | exact Blk.drewN hr1 _)).mono ?_; rintro x w2 ⟨rfl, hm2, hr2⟩))
 go_ret
 exact RetS.mk rfl (hm1.trans hm2) hr2

set_option maxRecDepth 20000 in
set_option maxHeartbeats 400000 in
theorem Array_o (b : Nat) (r : RS) (hok : r.ok) (he : Hid (r.Head.1.e = 0)) (hm : Hid (r.Head.2.1 = 4)) (ho : r.Head.2.2.2 = true) (w : World) (h : RdAt w b r) : Calls Tryz.prog 59 #[.pointer (some ⟨b, 0, none⟩)] w (RetS [b] (.int .i64 (-1)) (fun w' => RdAt w' b r.Head.1) w) := by
 have te : (r.Head.1.e != 0) = false := by have := he.out; simp [this]
 have tm : ((r.Head.2.1 : Int) != 4) = false := by have := hm.out; simp; omega
 go_enter Tryz.func59, Tryz.ntmps59
 go_wp2_with (go_at_call 54; refine (Head_any_r b r hok _ h).mono ?_; rintro x w1 ⟨rfl, hm1, hr1⟩; have c0 := hr1.s; have c1 := hr1.at_; have c3 := hr1.e; have f1 := hr1.froz 1)
 go_ret
 exact RetS.mk rfl hm1 hr1

set_option maxRecDepth 20000 in
set_option maxHeartbeats 400000 in
theorem Array_l (b : Nat) (r : RS) (hok : r.ok) (he : Hid (r.Head.1.e = 0)) (hm : Hid (r.Head.2.1 = 4)) (ho : r.Head.2.2.2 = false) (hn : Hid (1000 < r.Head.2.2.1)) (w : World) (h : RdAt w b r) : Calls Tryz.prog 59 #[.pointer (some ⟨b, 0, none⟩)] w (RetS [b] (.int .i64 0) (fun w' => RdAt w' b (r.Head.1.fail 4)) w) := by
 have te : (r.Head.1.e != 0) = false := by have := he.out; simp [this]
 have tm : ((r.Head.2.1 : Int) != 4) = false := by have := hm.out; simp; omega
 have tn : decide (1000 < (r.Head.2.2.1 : Int)) = true := by have := hn.out; simp; omega
 go_enter Tryz.func59, Tryz.ntmps59
 go_wp2_with (first | (go_at_call 54; refine (Head_any_r b r hok _ h).mono ?_; rintro x w1 ⟨rfl, hm1, hr1⟩; have c0 := hr1.s; have c1 := hr1.at_; have c3 := hr1.e; have f1 := hr1.froz 1) | (go_at_call 88; refine (fail_any b r.Head.1 4 _ (by first | exact hr1 | exact Blk.drewN hr1 _)).mono ?_; rintro x w2 ⟨rfl, hm2, hr2⟩))
 go_ret
 exact RetS.mk rfl (hm1.trans hm2) hr2

set_option maxRecDepth 20000 in
set_option maxHeartbeats 400000 in
theorem Array_g (b : Nat) (r : RS) (hok : r.ok) (he : Hid (r.Head.1.e = 0)) (hm : Hid (r.Head.2.1 = 4)) (ho : r.Head.2.2.2 = false) (hn : Hid (¬ 1000 < r.Head.2.2.1)) (w : World) (h : RdAt w b r) : Calls Tryz.prog 59 #[.pointer (some ⟨b, 0, none⟩)] w (RetS [b] (.int .i64 (r.Head.2.2.1 : Int)) (fun w' => RdAt w' b r.Head.1) w) := by
 have te : (r.Head.1.e != 0) = false := by have := he.out; simp [this]
 have tm : ((r.Head.2.1 : Int) != 4) = false := by have := hm.out; simp; omega
 have tn : decide (1000 < (r.Head.2.2.1 : Int)) = false := by have := hn.out; simp; omega
 have hw : Hid (wrap64 (r.Head.2.2.1 : Int) = (r.Head.2.2.1 : Int)) := IntWalk.wrap64_in _ (by have := hn.out; omega)
 go_enter Tryz.func59, Tryz.ntmps59
 go_wp2_with (go_at_call 54; refine (Head_any_r b r hok _ h).mono ?_; rintro x w1 ⟨rfl, hm1, hr1⟩; have c0 := hr1.s; have c1 := hr1.at_; have c3 := hr1.e; have f1 := hr1.froz 1)
 go_ret
 exact RetS.mk (congrArg (Value.int .i64) hw.out) hm1 hr1

theorem Array_any (b : Nat) (r : RS) (hok : r.ok) (w : World) (h : RdAt w b r) : Calls Tryz.prog 59 #[.pointer (some ⟨b, 0, none⟩)] w (RetS [b] (.int .i64 r.Array.2) (fun w' => RdAt w' b r.Array.1) w) := by
 by_cases he : r.Head.1.e = 0
 ·
  by_cases hm : r.Head.2.1 = 4
  ·
   cases ho : r.Head.2.2.2
   ·
    by_cases hn : 1000 < r.Head.2.2.1
    ·
     have e : r.Array = (r.Head.1.fail 4, 0) := by unfold RS.Array; rw [if_pos he, if_neg (fun x => x hm), if_neg (by simp [ho]), if_pos hn]
     rw [e]; exact Array_l b r hok he hm ho hn w h
    ·
     have e : r.Array = (r.Head.1, (r.Head.2.2.1 : Int)) := by unfold RS.Array; rw [if_pos he, if_neg (fun x => x hm), if_neg (by simp [ho]), if_neg hn]
     rw [e]; exact Array_g b r hok he hm ho hn w h
   ·
    have e : r.Array = (r.Head.1, -1) := by unfold RS.Array; rw [if_pos he, if_neg (fun x => x hm), if_pos ho]
    rw [e]; exact Array_o b r hok he hm ho w h
  ·
   have e : r.Array = (r.Head.1.fail 2, 0) := by unfold RS.Array; rw [if_pos he, if_pos hm]
   rw [e]; exact Array_m b r hok he hm w h
 ·
  have e : r.Array = (r.Head.1, 0) := by unfold RS.Array; rw [if_neg he]
  rw [e]; exact Array_e b r hok he w h

set_option maxRecDepth 20000 in
set_option maxHeartbeats 400000 in
theorem str_e (b : Nat) (r : RS) (hok : r.ok) (want : Nat) (most : Int) (he : Hid (r.Head.1.e ≠ 0)) (w : World) (h : RdAt w b r) : Calls Tryz.prog 118 #[.pointer (some ⟨b, 0, none⟩), .int .i64 (want : Int), .int .i64 most] w (RetS [b] (str []) (fun w' => RdAt w' b r.Head.1) w) := by
 have te : (r.Head.1.e != 0) = true := by have := he.out; simp [this]
 go_enter Tryz.func118, Tryz.ntmps118
 go_wp2_with (go_at_call 54; refine (Head_any_r b r hok _ h).mono ?_; rintro x w1 ⟨rfl, hm1, hr1⟩; have c0 := hr1.s; have c1 := hr1.at_; have c3 := hr1.e; have f1 := hr1.froz 1)
 go_ret
 exact RetS.mk rfl hm1 hr1

set_option maxRecDepth 20000 in
set_option maxHeartbeats 400000 in
theorem str_m (b : Nat) (r : RS) (hok : r.ok) (want : Nat) (most : Int) (he : Hid (r.Head.1.e = 0)) (hm : Hid (r.Head.2.1 ≠ want)) (w : World) (h : RdAt w b r) : Calls Tryz.prog 118 #[.pointer (some ⟨b, 0, none⟩), .int .i64 (want : Int), .int .i64 most] w (RetS [b] (str []) (fun w' => RdAt w' b (r.Head.1.fail 2)) w) := by
 have te : (r.Head.1.e != 0) = false := by have := he.out; simp [this]
 have tm : ((r.Head.2.1 : Int) != (want : Int)) = true := by have := hm.out; simp; omega
 go_enter Tryz.func118, Tryz.ntmps118
 go_upto_region 4 with (go_at_call 54; refine (Head_any_r b r hok _ h).mono ?_; rintro x w1 ⟨rfl, hm1, hr1⟩; have c0 := hr1.s; have c1 := hr1.at_; have c3 := hr1.e; have f1 := hr1.froz 1)
 go_quiet (fail)
 go_wp2_with (go_at_call 88; refine (fail_any b r.Head.1 2 _ (by first | exact hr1 | exact Blk.drewN hr1 _)).mono ?_; rintro x w2 ⟨rfl, hm2, hr2⟩)
 go_ret
 exact RetS.mk rfl ((hm1.drewN _).trans hm2) hr2

set_option maxRecDepth 20000 in
set_option maxHeartbeats 400000 in
theorem str_o (b : Nat) (r : RS) (hok : r.ok) (want : Nat) (most : Int) (he : Hid (r.Head.1.e = 0)) (hm : Hid (r.Head.2.1 = want)) (ho : r.Head.2.2.2 = true) (w : World) (h : RdAt w b r) : Calls Tryz.prog 118 #[.pointer (some ⟨b, 0, none⟩), .int .i64 (want : Int), .int .i64 most] w (RetS [b] (str []) (fun w' => RdAt w' b (r.Head.1.fail 2)) w) := by
 have te : (r.Head.1.e != 0) = false := by have := he.out; simp [this]
 have tm : ((r.Head.2.1 : Int) != (want : Int)) = false := by have := hm.out; simp; omega
 go_enter Tryz.func118, Tryz.ntmps118
 go_upto_region 4 with (go_at_call 54; refine (Head_any_r b r hok _ h).mono ?_; rintro x w1 ⟨rfl, hm1, hr1⟩; have c0 := hr1.s; have c1 := hr1.at_; have c3 := hr1.e; have f1 := hr1.froz 1)
 go_quiet (fail)
 go_wp2_with (go_at_call 88; refine (fail_any b r.Head.1 2 _ (by first | exact hr1 | exact Blk.drewN hr1 _)).mono ?_; rintro x w2 ⟨rfl, hm2, hr2⟩)
 go_ret
 exact RetS.mk rfl ((hm1.drewN _).trans hm2) hr2

set_option maxRecDepth 20000 in
set_option maxHeartbeats 400000 in
theorem str_s (b : Nat) (r : RS) (hok : r.ok) (want : Nat) (most : Int) (he : Hid (r.Head.1.e = 0)) (hm : Hid (r.Head.2.1 = want)) (ho : r.Head.2.2.2 = false) (hn : Hid (r.Head.1.s.length - r.Head.1.at_ < r.Head.2.2.1)) (w : World) (h : RdAt w b r) : Calls Tryz.prog 118 #[.pointer (some ⟨b, 0, none⟩), .int .i64 (want : Int), .int .i64 most] w (RetS [b] (str []) (fun w' => RdAt w' b (r.Head.1.fail 2)) w) := by
 have te : (r.Head.1.e != 0) = false := by have := he.out; simp [this]
 have tm : ((r.Head.2.1 : Int) != (want : Int)) = false := by have := hm.out; simp; omega
 have hok1 := RS.Head_ok hok
 have hle := hid hok1.1
 have hbig := hid hok1.2.2
 have hw : IntKind.u64.wrap (wrap64 ((r.Head.1.s.length : Int) - (r.Head.1.at_ : Int))) = (r.Head.1.s.length : Int) - (r.Head.1.at_ : Int) := by
  have h1 := hle.out; have h2 := hbig.out
  rw [IntWalk.wrap64_in _ (by omega), IntWalk.u64_in _ (by omega)]
 have tn : decide ((r.Head.1.s.length : Int) - (r.Head.1.at_ : Int) < (r.Head.2.2.1 : Int)) = true := by have h1 := hn.out; have h2 := hle.out; simp; omega
 go_enter Tryz.func118, Tryz.ntmps118
 go_upto_region 4 with (go_at_call 54; refine (Head_any_r b r hok _ h).mono ?_; rintro x w1 ⟨rfl, hm1, hr1⟩; have c0 := hr1.s; have c1 := hr1.at_; have c3 := hr1.e; have f1 := hr1.froz 1)
 go_quiet (fail)
 go_wp2_with (go_at_call 88; refine (fail_any b r.Head.1 2 _ (by first | exact hr1 | exact Blk.drewN hr1 _)).mono ?_; rintro x w2 ⟨rfl, hm2, hr2⟩)
 go_ret
 exact RetS.mk rfl ((hm1.drewN _).trans hm2) hr2

set_option maxRecDepth 20000 in
set_option maxHeartbeats 400000 in
theorem str_l1 (b : Nat) (r : RS) (hok : r.ok) (want : Nat) (most : Int) (he : Hid (r.Head.1.e = 0)) (hm : Hid (r.Head.2.1 = want)) (ho : r.Head.2.2.2 = false) (hn : Hid (¬ r.Head.1.s.length - r.Head.1.at_ < r.Head.2.2.1)) (hl : Hid (most < 0)) (w : World) (h : RdAt w b r) : Calls Tryz.prog 118 #[.pointer (some ⟨b, 0, none⟩), .int .i64 (want : Int), .int .i64 most] w (RetS [b] (str []) (fun w' => RdAt w' b (r.Head.1.fail 4)) w) := by
 have te : (r.Head.1.e != 0) = false := by have := he.out; simp [this]
 have tm : ((r.Head.2.1 : Int) != (want : Int)) = false := by have := hm.out; simp; omega
 have hok1 := RS.Head_ok hok
 have hle := hid hok1.1
 have hbig := hid hok1.2.2
 have hw : IntKind.u64.wrap (wrap64 ((r.Head.1.s.length : Int) - (r.Head.1.at_ : Int))) = (r.Head.1.s.length : Int) - (r.Head.1.at_ : Int) := by
  have h1 := hle.out; have h2 := hbig.out
  rw [IntWalk.wrap64_in _ (by omega), IntWalk.u64_in _ (by omega)]
 have tn : decide ((r.Head.1.s.length : Int) - (r.Head.1.at_ : Int) < (r.Head.2.2.1 : Int)) = false := by have h1 := hn.out; have h2 := hle.out; simp; omega
 have t1 : decide (most < 0) = true := by have := hl.out; simp; omega
 go_enter Tryz.func118, Tryz.ntmps118
 go_upto_region 4 with (go_at_call 54; refine (Head_any_r b r hok _ h).mono ?_; rintro x w1 ⟨rfl, hm1, hr1⟩; have c0 := hr1.s; have c1 := hr1.at_; have c3 := hr1.e; have f1 := hr1.froz 1)
 go_quiet (fail)
 go_wp2_with (go_at_call 88; refine (fail_any b r.Head.1 4 _ (by first | exact hr1 | exact Blk.drewN hr1 _)).mono ?_; rintro x w2 ⟨rfl, hm2, hr2⟩)
 go_ret
 exact RetS.mk rfl ((hm1.drewN _).trans hm2) hr2

set_option maxRecDepth 20000 in
set_option maxHeartbeats 400000 in
theorem str_l2 (b : Nat) (r : RS) (hok : r.ok) (want : Nat) (most : Int) (hmb : Hid (most < 9223372036854775808)) (he : Hid (r.Head.1.e = 0)) (hm : Hid (r.Head.2.1 = want)) (ho : r.Head.2.2.2 = false) (hn : Hid (¬ r.Head.1.s.length - r.Head.1.at_ < r.Head.2.2.1)) (hl : Hid (0 ≤ most ∧ most < (r.Head.2.2.1 : Int))) (w : World) (h : RdAt w b r) : Calls Tryz.prog 118 #[.pointer (some ⟨b, 0, none⟩), .int .i64 (want : Int), .int .i64 most] w (RetS [b] (str []) (fun w' => RdAt w' b (r.Head.1.fail 4)) w) := by
 have te : (r.Head.1.e != 0) = false := by have := he.out; simp [this]
 have tm : ((r.Head.2.1 : Int) != (want : Int)) = false := by have := hm.out; simp; omega
 have hok1 := RS.Head_ok hok
 have hle := hid hok1.1
 have hbig := hid hok1.2.2
 have hw : IntKind.u64.wrap (wrap64 ((r.Head.1.s.length : Int) - (r.Head.1.at_ : Int))) = (r.Head.1.s.length : Int) - (r.Head.1.at_ : Int) := by
  have h1 := hle.out; have h2 := hbig.out
  rw [IntWalk.wrap64_in _ (by omega), IntWalk.u64_in _ (by omega)]
 have tn : decide ((r.Head.1.s.length : Int) - (r.Head.1.at_ : Int) < (r.Head.2.2.1 : Int)) = false := by have h1 := hn.out; have h2 := hle.out; simp; omega
 have t1 : decide (most < 0) = false := by have := hl.out; simp; omega
 have hwm : IntKind.u64.wrap most = most := IntWalk.u64_in _ (by have h1 := hl.out; have h2 := hmb.out; omega)
 have t2 : decide (most < (r.Head.2.2.1 : Int)) = true := by have := hl.out; simp; omega
 go_enter Tryz.func118, Tryz.ntmps118
 go_upto_region 4 with (go_at_call 54; refine (Head_any_r b r hok _ h).mono ?_; rintro x w1 ⟨rfl, hm1, hr1⟩; have c0 := hr1.s; have c1 := hr1.at_; have c3 := hr1.e; have f1 := hr1.froz 1)
 go_quiet (fail)
 go_wp2_with (go_at_call 88; refine (fail_any b r.Head.1 4 _ (by first | exact hr1 | exact Blk.drewN hr1 _)).mono ?_; rintro x w2 ⟨rfl, hm2, hr2⟩)
 go_ret
 exact RetS.mk rfl ((hm1.drewN _).trans hm2) hr2

set_option maxRecDepth 20000 in
set_option maxHeartbeats 400000 in
theorem str_g (b : Nat) (r : RS) (hok : r.ok) (want : Nat) (most : Int) (hmb : Hid (most < 9223372036854775808)) (he : Hid (r.Head.1.e = 0)) (hm : Hid (r.Head.2.1 = want)) (ho : r.Head.2.2.2 = false) (hn : Hid (¬ r.Head.1.s.length - r.Head.1.at_ < r.Head.2.2.1)) (hl : Hid (0 ≤ most ∧ (r.Head.2.2.1 : Int) ≤ most)) (w : World) (h : RdAt w b r) : Calls Tryz.prog 118 #[.pointer (some ⟨b, 0, none⟩), .int .i64 (want : Int), .int .i64 most] w (RetS [b] (str ((r.Head.1.s.drop r.Head.1.at_).take r.Head.2.2.1)) (fun w' => RdAt w' b { r.Head.1 with at_ := r.Head.1.at_ + r.Head.2.2.1 }) w) := by
 have te : (r.Head.1.e != 0) = false := by have := he.out; simp [this]
 have tm : ((r.Head.2.1 : Int) != (want : Int)) = false := by have := hm.out; simp; omega
 have hok1 := RS.Head_ok hok
 have hle := hid hok1.1
 have hbig := hid hok1.2.2
 have hw : IntKind.u64.wrap (wrap64 ((r.Head.1.s.length : Int) - (r.Head.1.at_ : Int))) = (r.Head.1.s.length : Int) - (r.Head.1.at_ : Int) := by
  have h1 := hle.out; have h2 := hbig.out
  rw [IntWalk.wrap64_in _ (by omega), IntWalk.u64_in _ (by omega)]
 have tn : decide ((r.Head.1.s.length : Int) - (r.Head.1.at_ : Int) < (r.Head.2.2.1 : Int)) = false := by have h1 := hn.out; have h2 := hle.out; simp; omega
 have t1 : decide (most < 0) = false := by have := hl.out; simp; omega
 have hwm : IntKind.u64.wrap most = most := IntWalk.u64_in _ (by have h1 := hl.out; have h2 := hmb.out; omega)
 have t2 : decide (most < (r.Head.2.2.1 : Int)) = false := by have := hl.out; simp; omega
 have hw1 : wrap64 (r.Head.2.2.1 : Int) = (r.Head.2.2.1 : Int) := IntWalk.wrap64_in _ (by have h1 := hn.out; have h2 := hbig.out; omega)
 have hw2 : wrap64 ((r.Head.1.at_ : Int) + (r.Head.2.2.1 : Int)) = ((r.Head.1.at_ + r.Head.2.2.1 : Nat) : Int) := IntWalk.wrap64_in _ (by have h1 := hn.out; have h2 := hbig.out; have h3 := hle.out; omega)
 have hsl : (r.Head.1.at_ : Int) + (r.Head.2.2.1 : Int) ≤ (r.Head.1.s.length : Int) := by have h1 := hn.out; have h3 := hle.out; omega
 have hex : Hid (_ = _) := (extract_str r.Head.1.s r.Head.1.at_ (r.Head.1.at_ + r.Head.2.2.1)).trans (by rw [Nat.add_sub_cancel_left])
 go_enter Tryz.func118, Tryz.ntmps118
 go_upto_region 4 with (go_at_call 54; refine (Head_any_r b r hok _ h).mono ?_; rintro x w1 ⟨rfl, hm1, hr1⟩; have c0 := hr1.s; have c1 := hr1.at_; have c3 := hr1.e; have f1 := hr1.froz 1)
 go_quiet (fail)
 go_upto_region 10 with fail
 go_quiet (fail)
 go_wp2
 go_ret
 exact RetS.mk hex.out ((hm1.drewN _).setCell (.inl (List.mem_singleton.2 rfl)) _) (Blk.set_ (Blk.drewN hr1 _) 1 _)

theorem str_any (b : Nat) (r : RS) (hok : r.ok) (want : Nat) (most : Int) (hmb : most < 9223372036854775808) (w : World) (h : RdAt w b r) : Calls Tryz.prog 118 #[.pointer (some ⟨b, 0, none⟩), .int .i64 (want : Int), .int .i64 most] w (RetS [b] (str (r.str want most).2) (fun w' => RdAt w' b (r.str want most).1) w) := by
 by_cases he : r.Head.1.e = 0
 ·
  by_cases hm : r.Head.2.1 = want
  ·
   cases ho : r.Head.2.2.2
   ·
    by_cases hn : r.Head.1.s.length - r.Head.1.at_ < r.Head.2.2.1
    ·
     have e : r.str want most = (r.Head.1.fail 2, []) := by unfold RS.str; rw [if_pos he, if_pos (.inr (.inr hn))]
     rw [e]; exact str_s b r hok want most he hm ho hn w h
    ·
     have hno : ¬ (r.Head.2.1 ≠ want ∨ r.Head.2.2.2 = true ∨ r.Head.1.s.length - r.Head.1.at_ < r.Head.2.2.1) := by rw [ho]; simp [hm, hn]
     by_cases h1 : most < 0
     ·
      have e : r.str want most = (r.Head.1.fail 4, []) := by unfold RS.str; rw [if_pos he, if_neg hno, if_pos (.inl h1)]
      rw [e]; exact str_l1 b r hok want most he hm ho hn h1 w h
     ·
      by_cases h2 : most < (r.Head.2.2.1 : Int)
      ·
       have e : r.str want most = (r.Head.1.fail 4, []) := by unfold RS.str; rw [if_pos he, if_neg hno, if_pos (.inr h2)]
       rw [e]; exact str_l2 b r hok want most hmb he hm ho hn ⟨by omega, h2⟩ w h
      ·
       have e : r.str want most = ({ r.Head.1 with at_ := r.Head.1.at_ + r.Head.2.2.1 }, (r.Head.1.s.drop r.Head.1.at_).take r.Head.2.2.1) := by
        unfold RS.str; rw [if_pos he, if_neg hno, if_neg (by rintro (x | x); exact h1 x; exact h2 x)]
       rw [e]; exact str_g b r hok want most hmb he hm ho hn ⟨by omega, by omega⟩ w h
   ·
    have e : r.str want most = (r.Head.1.fail 2, []) := by unfold RS.str; rw [if_pos he, if_pos (.inr (.inl ho))]
    rw [e]; exact str_o b r hok want most he hm ho w h
  ·
   have e : r.str want most = (r.Head.1.fail 2, []) := by unfold RS.str; rw [if_pos he, if_pos (.inl hm)]
   rw [e]; exact str_m b r hok want most he hm w h
 ·
  have e : r.str want most = (r.Head.1, []) := by unfold RS.str; rw [if_neg he]
  rw [e]; exact str_e b r hok want most he w h

set_option maxRecDepth 20000 in
set_option maxHeartbeats 400000 in
theorem RBytes_any (b : Nat) (r : RS) (hok : r.ok) (most : Int) (hmb : Hid (most < 9223372036854775808)) (w : World) (h : RdAt w b r) : Calls Tryz.prog 86 #[.pointer (some ⟨b, 0, none⟩), .int .i64 most] w (RetS [b] (str (r.str 2 most).2) (fun w' => RdAt w' b (r.str 2 most).1) w) := by
 go_enter Tryz.func86, Tryz.ntmps86
 go_wp2_with (go_at_call 118; refine (str_any b r hok 2 most hmb.out _ h).mono ?_; rintro x w1 ⟨rfl, hm, hr⟩)
 go_ret
 exact RetS.mk rfl hm hr

set_option maxRecDepth 20000 in
set_option maxHeartbeats 400000 in
theorem RText_any (b : Nat) (r : RS) (hok : r.ok) (most : Int) (hmb : Hid (most < 9223372036854775808)) (w : World) (h : RdAt w b r) : Calls Tryz.prog 87 #[.pointer (some ⟨b, 0, none⟩), .int .i64 most] w (RetS [b] (str (r.str 3 most).2) (fun w' => RdAt w' b (r.str 3 most).1) w) := by
 go_enter Tryz.func87, Tryz.ntmps87
 go_wp2_with (go_at_call 118; refine (str_any b r hok 3 most hmb.out _ h).mono ?_; rintro x w1 ⟨rfl, hm, hr⟩)
 go_ret
 exact RetS.mk rfl hm hr

set_option maxRecDepth 20000 in
set_option maxHeartbeats 400000 in
theorem Bad_any (b : Nat) (r : RS) (w : World) (h : RdAt w b r) : Calls Tryz.prog 55 #[.pointer (some ⟨b, 0, none⟩)] w (Ret (.tuple #[.int .i64 r.bad, .int .i64 r.e]) w) := by
 have c2 := h.bad
 have c3 := h.e
 go_enter Tryz.func55, Tryz.ntmps55
 go_upto_region 1 with fail
 go_quiet (fail)
 go_wp2
 go_ret2
 exact Ret.mk rfl ((Mod.refl _ _).drewN _)
end Go.Proofs.YtfgipgpbjfhflaaGreat


namespace Go.Proofs.YtfgipgpbjfhflaaGreat
set_option linter.unusedVariables false
set_option linter.unusedSimpArgs false

/-- An array's items from e on, the number of those that may still come being j of a thousand. -/
def floop (f : List UInt8 → Nat × Int) (l : List UInt8) (o : Bool) (n : Nat) : Nat → Nat → Nat × Int
 | 0, e => if o = false ∧ n ≤ 1000 then (e, 0) else if o = true ∧ l[e]? = some 255 then (e + 1, 0) else (e, 4)
 | j + 1, e => if o = false ∧ n ≤ 1000 - (j + 1) then (e, 0) else if o = true ∧ l[e]? = some 255 then (e + 1, 0) else
   if (f (l.drop e)).2 = 0 then floop f l o n j (e + (f (l.drop e)).1) else (e + (f (l.drop e)).1, (f (l.drop e)).2)
/-- No item's kind. -/
def noK (m : Nat) : Bool := m != 0 && m != 2 && m != 3 && m != 4
/-- Place and error. -/
def flt : Nat → List UInt8 → Nat × Int
 | 0, l => match readH l with
  | none => (0, 2)
  | some (sz, m, n, o) => if noK m = true then (0, 2) else (0, 3)
 | d + 1, l => match readH l with
  | none => (0, 2)
  | some (sz, m, n, o) => if noK m = true then (0, 2) else if m = 0 then (sz, 0) else
    if m < 4 then (if o = true ∨ l.length - sz < n then (0, 2) else (sz + n, 0)) else
    if o = false ∧ 1000 < n then (0, 4) else floop (flt d) l o n 1000 sz

theorem floop_le {f : List UInt8 → Nat × Int} (hf : ∀ l, (f l).1 ≤ l.length) (l : List UInt8) (o : Bool) (n : Nat) : ∀ j e, e ≤ l.length → (floop f l o n j e).1 ≤ l.length := by
 intro j
 induction j with
 | zero =>
  intro e he
  unfold floop
  split
  · exact he
  ·
   split
   · rename_i h; exact (List.getElem?_eq_some_iff.1 h.2).1
   · exact he
 | succ j ih =>
  intro e he
  have h1 := hf (l.drop e)
  rw [List.length_drop] at h1
  unfold floop
  split
  · exact he
  ·
   split
   · rename_i h; exact (List.getElem?_eq_some_iff.1 h.2).1
   ·
    split
    · exact ih _ (by omega)
    · show e + (f (l.drop e)).1 ≤ l.length; omega
theorem flt_le (d : Nat) : ∀ l, (flt d l).1 ≤ l.length := by
 induction d with
 | zero =>
  intro l
  unfold flt
  split
  · exact Nat.zero_le _
  · split <;> exact Nat.zero_le _
 | succ d ih =>
  intro l
  unfold flt
  split
  · exact Nat.zero_le _
  ·
   rename_i sz m n o hr
   have h1 := (readH_some hr).le
   split
   · exact Nat.zero_le _
   ·
    split
    · exact h1
    ·
     split
     ·
      split
      · exact Nat.zero_le _
      · show sz + n ≤ l.length; rename_i h; simp only [not_or, Nat.not_lt] at h; omega
     ·
      split
      · exact Nat.zero_le _
      · exact floop_le ih l o n 1000 sz h1

theorem cat_split (f : Nat → List UInt8) {i k : Nat} (h : i ≤ k) : ∃ r, T.cat f k = T.cat f i ++ r := by
 induction k with
 | zero => obtain rfl : i = 0 := by omega
           exact ⟨[], by simp⟩
 | succ k ih =>
  by_cases e : i = k + 1
  · subst e; exact ⟨[], by simp⟩
  ·
   obtain ⟨r, hr⟩ := ih (by omega)
   exact ⟨r ++ f k, by rw [T.cat, hr, List.append_assoc]⟩
theorem pre_split (kind : Int) (s : List UInt8) (op : Bool) (kk : Nat) (ch : Nat → T) {i k : Nat} (h : i ≤ k) : ∃ r, pre kind s op kk ch k = pre kind s op kk ch i ++ r := by
 obtain ⟨r, hr⟩ := cat_split (fun i => (ch i).bytes) h
 exact ⟨r, by unfold pre; rw [hr, List.append_assoc]⟩
theorem get_255 {l : List UInt8} {e : Nat} : l[e]? = some 255 ↔ ∃ v, l.drop e = 255 :: v := by
 rw [← List.head?_drop]
 cases l.drop e with
 | nil => simp
 | cons x v => simp

theorem readH_255 {t : List UInt8} {sz m n : Nat} {o : Bool} (h : readH t = some (sz, m, n, o)) : (m = 7 ∧ o = true) ↔ ∃ v, t = 255 :: v := by
 constructor
 ·
  rintro ⟨rfl, rfl⟩
  unfold readH at h
  match t, h with
  | c :: r, h =>
   have hc := c.toNat_lt
   dsimp only at h
   split at h
   · simp at h
   ·
    split at h
    ·
     rename_i h1
     simp only [Option.some.injEq, Prod.mk.injEq] at h
     have e : c.toNat = 255 := by omega
     refine ⟨r, ?_⟩
     rw [← b8_toNat c, e]; rfl
    ·
     split at h
     · cases h
     ·
      split at h
      · cases h
      ·
       split at h
       · simp at h
       · cases h
 ·
  rintro ⟨v, rfl⟩
  rw [T.readH_break] at h
  simp only [Option.some.injEq, Prod.mk.injEq] at h
  exact ⟨h.2.1.symm, h.2.2.2.symm⟩

theorem flt_bytes (t : T) : ∀ d, t.right d = true → t.ok → ∀ x, flt d (t.bytes ++ x) = (t.bytes.length, 0) := by
 induction t with
 | nil => intro d h hok; cases hok
 | mk kind n s op k ch ih =>
  intro d h hok x
  have hp : (T.mk kind n s op k ch).plain = true := by rw [T.right_eq] at h; simp at h; exact h.2
  have hr := T.readH_bytes _ hp hok x
  cases d with
  | zero => unfold T.right at h; simp at h
  | succ d =>
   unfold T.right at h
   rw [if_neg (by omega), Bool.and_eq_true, T.all_iff] at h
   obtain ⟨h1, h2⟩ := h
   simp only [Nat.add_sub_cancel] at h2
   have hkd := T.node_kind h1
   unfold T.ok at hok
   unfold flt
   rw [hr]
   unfold T.plain at hp
   rw [Bool.and_eq_true, T.all_iff] at hp
   rcases hkd with rfl | rfl | rfl | rfl
   ·
    simp only [T.hd, if_true]
    unfold T.node at h1
    simp at h1
    obtain ⟨⟨rfl, rfl⟩, rfl⟩ := h1
    simp [noK, T.bytes]
   ·
    unfold T.node at h1
    simp at h1
    obtain ⟨⟨rfl, rfl⟩, rfl⟩ := h1
    simp [T.hd, noK, T.bytes]
   ·
    unfold T.node at h1
    simp at h1
    obtain ⟨⟨rfl, rfl⟩, rfl⟩ := h1
    simp [T.hd, noK, T.bytes]
   ·
    unfold T.node at h1
    simp at h1
    obtain ⟨⟨rfl, rfl⟩, hk⟩ := h1
    rw [pre_end]
    have key : ∀ m i, i + m = k → floop (flt d) (pre 4 [] op k ch k ++ (if op then [255] else []) ++ x) op (if op then 0 else k) (1000 - i) (pre 4 [] op k ch i).length = ((pre 4 [] op k ch k ++ (if op then [255] else [])).length, 0) := by
     intro m
     induction m with
     | zero =>
      intro i hi
      obtain rfl : i = k := by omega
      cases op
      ·
       simp only [Bool.false_eq_true, if_false, List.append_nil]
       cases hj : 1000 - i with
       | zero => unfold floop; rw [if_pos ⟨rfl, by omega⟩]
       | succ j => unfold floop; rw [if_pos ⟨rfl, by omega⟩]
      ·
       simp only [if_true]
       have h255 : (pre 4 [] true i ch i ++ [255] ++ x)[(pre 4 [] true i ch i).length]? = some 255 := get_255.2 ⟨x, by rw [List.append_assoc, List.drop_left]; rfl⟩
       cases hj : 1000 - i with
       | zero => unfold floop; rw [if_neg (by simp), if_pos ⟨rfl, h255⟩, List.length_append]; rfl
       | succ j => unfold floop; rw [if_neg (by simp), if_pos ⟨rfl, h255⟩, List.length_append]; rfl
     | succ m ihm =>
      intro i hi
      have hik : i < k := by omega
      have e1 : 1000 - i = (1000 - (i + 1)) + 1 := by omega
      obtain ⟨r, hr⟩ := pre_split 4 [] op k ch (show i + 1 ≤ k by omega)
      have hd : (pre 4 [] op k ch k ++ (if op then [255] else []) ++ x).drop (pre 4 [] op k ch i).length = (ch i).bytes ++ (r ++ ((if op then [255] else []) ++ x)) := by
       rw [hr, pre_succ, List.append_assoc, List.append_assoc, List.append_assoc, List.drop_left]
      have hc := ih i d (h2 i hik) (hok.2.2.2.2 i hik) (r ++ ((if op then [255] else []) ++ x))
      rw [e1]
      unfold floop
      rw [if_neg (by intro h; obtain ⟨h3, h4⟩ := h; subst h3; simp at h4; omega), if_neg (by
       rintro ⟨_, h4⟩
       obtain ⟨v, hv⟩ := get_255.1 h4
       rw [hd] at hv
       exact T.bytes_not_break (ch i) (hp.2 i hik) (hok.2.2.2.2 i hik) _ _ hv), hd, hc, if_pos rfl]
      have := ihm (i + 1) (by omega)
      rw [pre_succ, List.length_append] at this
      exact this
    have h0 := key k 0 (by omega)
    cases op
    ·
     have e : (pre 4 [] false k ch 0).length = (headL 4 k).length := by simp [pre, T.cat]
     rw [e] at h0
     have eh : (T.mk 4 0 [] false k ch).hd = ((headL 4 k).length, 4, k, false) := rfl
     rw [eh]
     dsimp only
     rw [if_neg (by decide), if_neg (by decide), if_neg (by decide), if_neg (by rintro ⟨_, h⟩; omega)]
     exact h0
    ·
     have eh : (T.mk 4 0 [] true k ch).hd = (1, 4, 0, true) := rfl
     rw [eh]
     dsimp only
     rw [if_neg (by decide), if_neg (by decide), if_neg (by decide), if_neg (by rintro ⟨h, _⟩; cases h)]
     exact h0
end Go.Proofs.YtfgipgpbjfhflaaGreat


namespace Go.Proofs.YtfgipgpbjfhflaaGreat
open Go.RowKit
set_option linter.unusedVariables false
set_option linter.unusedSimpArgs false

/-- A parser behind a pointer: its bytes, its place, its error. -/
def PAt (w : World) (g : Nat) (l : List UInt8) (p : Nat) (e : Int) : Prop := Blk w g 63 #[str l, .int .i64 (p : Int), .int .i64 e]
section
variable {w : World} {g : Nat} {l : List UInt8} {p : Nat} {x : Int}
theorem PAt.b (h : PAt w g l p x) : w.cell? ⟨g, 0, none⟩ = some (str l) := Blk.cell h 0
theorem PAt.at_ (h : PAt w g l p x) : w.cell? ⟨g, 1, none⟩ = some (.int .i64 (p : Int)) := Blk.cell h 1
theorem PAt.err (h : PAt w g l p x) : w.cell? ⟨g, 2, none⟩ = some (.int .i64 x) := Blk.cell h 2
theorem PAt.froz (h : PAt w g l p x) (i : Nat) : w.frozen? ⟨g, i, none⟩ = false := Blk.frozen h i
end

theorem head_255 {t : List UInt8} : t.head? = some 255 ↔ ∃ v, t = 255 :: v := by
 cases t with
 | nil => simp
 | cons x v => simp
theorem new_break (t : List UInt8) : (decide (((RS.new t).Head.2.1 : Int) = 7) && (RS.new t).Head.2.2.2) = decide (t.head? = some 255) := by
 cases hr : readH t with
 | none =>
  rw [RS.Head_none (r := RS.new t) rfl hr]
  have : ¬ t.head? = some 255 := fun h => by
   obtain ⟨v, rfl⟩ := head_255.1 h
   rw [T.readH_break] at hr; cases hr
  rw [decide_eq_false this]
  rfl
 | some x =>
  obtain ⟨sz, m, n, o⟩ := x
  rw [RS.Head_some (r := RS.new t) rfl hr]
  have h := readH_255 hr
  rw [Bool.eq_iff_iff, Bool.and_eq_true, decide_eq_true_iff, decide_eq_true_iff, head_255, ← h]
  constructor
  · rintro ⟨a, b⟩; exact ⟨by have : (m : Int) = 7 := a; omega, b⟩
  · rintro ⟨a, b⟩; subst a; exact ⟨rfl, b⟩
theorem new_break2 (l : List UInt8) (p : Nat) : (decide (((RS.new (l.drop p)).Head.2.1 : Int) = 7) && (RS.new (l.drop p)).Head.2.2.2) = decide (l[p]? = some 255) := by
 rw [new_break, Bool.eq_iff_iff, decide_eq_true_iff, decide_eq_true_iff, List.head?_drop]

/-- No item. -/
def nulT : T := T.mk 0 0 [] false 0 fun _ => T.nil

set_option maxRecDepth 20000 in
set_option maxHeartbeats 400000 in
theorem pfail_any (g : Nat) (l : List UInt8) (p q : Nat) (e : Int) (w : World) (h : PAt w g l p 0) :
  Calls Tryz.prog 32 #[.pointer (some ⟨g, 0, none⟩), .int .i64 (q : Int), .int .i64 e] w (RetS [g] (itemV nulT none 0) (fun w' => PAt w' g l q e) w) := by
 have c1 := h.at_
 have c2 := h.err
 have f1 := h.froz 1
 have f2 := h.froz 2
 have hg : g < w.heap.size := Blk.lt h
 have H := hid h
 clear h
 go_enter Tryz.func32, Tryz.ntmps32
 go_wp2
 refine bodyPost_ret (v := itemV nulT none 0) (by simp [results, Tryz.results32, go_sem]; exact ⟨rfl, rfl, rfl, rfl, rfl⟩) rfl (RetS.mk rfl ?_ ?_)
 · exact ((((Mod.refl _ _).setCell (.inl (by simp)) _).setCell (.inl (by simp)) _).alloc _)
 · exact Blk.alloc (Blk.set_ (Blk.set_ H.out 1 (.int .i64 (q : Int))) 2 (.int .i64 e)) _

set_option maxRecDepth 20000 in
set_option maxHeartbeats 400000 in
theorem preader_any (g : Nat) (l : List UInt8) (p : Nat) (e : Int) (hp : Hid (p ≤ l.length ∧ l.length ≤ 1073741824)) (w : World) (h : PAt w g l p e) :
  Calls Tryz.prog 53 #[.pointer (some ⟨g, 0, none⟩)] w fun x w' => x = .returned (.pointer (some ⟨w.heap.size, 0, none⟩)) ∧ Ext w w' ∧ RdAt w' w.heap.size (RS.new (l.drop p)) := by
 have c0 := h.b
 have c1 := h.at_
 have hp0 : (0 : Int) ≤ (p : Int) := by omega
 have hp1 : (p : Int) ≤ (l.length : Int) := by have := hp.out; omega
 have hl1 : (l.length : Int) ≤ 1073741824 := by have := hp.out; omega
 go_enter Tryz.func53, Tryz.ntmps53
 go_upto_region 1 with fail
 go_region_held3 (fun w' => w'.cell? ⟨g, 0, none⟩ = some (str l) ∧ w'.cell? ⟨g, 1, none⟩ = some (.int .i64 (p : Int))) (go_keep)
  ((go_at_call 84; rw [extract_rest]; refine (newReader_any (l.drop p) _).mono ?_; rintro x w' ⟨rfl, rfl⟩))
 all_goals go_wp2_with fail
 all_goals go_ret
 all_goals exact ⟨rfl, by first | exact ((Mod.refl _ _).alloc _) | exact ((Mod.refl _ _).alloc _).drew | exact ((Mod.refl _ _).drew.alloc _).drew | exact ((Mod.refl _ _).drew.alloc _), Blk.new _ _ _⟩

set_option maxRecDepth 20000 in
set_option maxHeartbeats 400000 in
theorem broken_any (g : Nat) (l : List UInt8) (p : Nat) (e : Int) (hp : Hid (p ≤ l.length ∧ l.length ≤ 1073741824)) (w : World) (h : PAt w g l p e) :
  Calls Tryz.prog 89 #[.pointer (some ⟨g, 0, none⟩)] w (Ret (.bool (decide (l[p]? = some 255))) w) := by
 have hr : Hid (RS.ok (RS.new (l.drop p))) := RS.new_ok (by have := hp.out; rw [List.length_drop]; omega)
 go_enter Tryz.func89, Tryz.ntmps89
 go_wp2_with fail
 refine (preader_any g l p e hp _ h).mono ?_
 rintro x w1 ⟨rfl, hb1, hr1⟩
 go_wp2_with fail
 refine (Head_any_r _ _ hr.out _ hr1).mono ?_
 rintro x w2 ⟨rfl, hm2, hr2⟩
 have HB := hid (new_break2 l p)
 generalize (RS.new (List.drop p l)).Head.2.2.2 = o at *
 generalize (RS.new (List.drop p l)).Head.2.1 = m at *
 have hz : Ext w w2 := Mod.new (S := [w.heap.size]) ((hb1.of_ext).trans hm2) (fun k hk => by rw [List.mem_singleton] at hk; subst hk; exact .inr (Nat.le_refl _))
 go_wp2_with fail
 ·
  rename_i h7
  go_ret
  refine Ret.mk ?_ hz
  rw [← HB.out]; simp [h7]
 ·
  rename_i h7
  go_ret
  refine Ret.mk ?_ hz
  rw [← HB.out]; simp [h7]
end Go.Proofs.YtfgipgpbjfhflaaGreat


namespace Go.Proofs.YtfgipgpbjfhflaaGreat
open Go.RowKit
set_option linter.unusedVariables false
set_option linter.unusedSimpArgs false

section
variable {P : Program} (w : World)
end

/-- What a round keeps: i items have come, as far as e. -/
structure LOk (w : World) (g X N p : Nat) (l : List UInt8) (o : Bool) (n d sz : Nat) (F : Nat × Int) (wr : World) (i e : Nat) (A : Option Addr) (c : Nat) (ch : Nat → T) (ac : Nat → Option Addr × Nat) : Prop where
 i1000 : i ≤ 1000
 iN : o = false → i ≤ n
 fl : floop (flt d) (l.drop p) o n (1000 - i) e = F
 le : p + e ≤ l.length
 cat : (l.drop p).drop sz = T.cat (fun j => (ch j).bytes) i ++ (l.drop p).drop e
 kids : ∀ j, j < i → (ch j).right d = true ∧ (ch j).ok
 mod : Mod [g] w wr
 nx : N ≤ wr.heap.size
 x : Blk wr X 52 #[.int .i64 4, .int .u64 0, str [], .slice A i c, .bool o]
 pa : PAt wr g l (p + e) 0
 own : wr.ownsRow N 52 5 (.slice A i c) i (flatC ch ac i)
 mem : ∀ j, j < i → IsC wr (fun b => N ≤ b ∧ A ≠ some ⟨b, 0, none⟩) (ch j) (ac j).1 (ac j).2

theorem cat_congr {f f' : Nat → List UInt8} {i : Nat} (h : ∀ j, j < i → f j = f' j) : T.cat f i = T.cat f' i := by
 induction i with
 | zero => rfl
 | succ i ih => rw [T.cat, T.cat, ih (fun j hj => h j (by omega)), h i (by omega)]

/-- One more. -/
def put (ch : Nat → T) (i : Nat) (t : T) (j : Nat) : T := if j = i then t else ch j
def putA (ac : Nat → Option Addr × Nat) (i : Nat) (a : Option Addr × Nat) (j : Nat) : Option Addr × Nat := if j = i then a else ac j

theorem LOk.step {w : World} {g X N p : Nat} {l : List UInt8} {o : Bool} {n d sz : Nat} {F : Nat × Int} {wr : World} {i e : Nat} {A : Option Addr} {c : Nat} {ch : Nat → T} {ac : Nat → Option Addr × Nat}
  (h : LOk w g X N p l o n d sz F wr i e A c ch ac) (hg : g < w.heap.size) (hwX : w.heap.size ≤ X) (hXN : X < N) (hi : i < 1000) (hin : o = false → i < n) (hnb : ¬ (o = true ∧ l[p + e]? = some 255))
  {t : T} {At : Option Addr} {ct : Nat} {w2 w4 : World} {v' : Value} (hr0 : (flt d (l.drop (p + e))).2 = 0) (hm2 : Mod [g] wr w2) (hp2 : PAt w2 g l (p + e + (flt d (l.drop (p + e))).1) 0)
  (ht : t.right d = true ∧ t.ok) (htb : t.bytes ++ l.drop (p + e + (flt d (l.drop (p + e))).1) = l.drop (p + e)) (hL : IsC w2 (fun b => wr.heap.size ≤ b) t At ct)
  (hown : w4.ownsRow N 52 5 v' (i + 1) (flatC ch ac i ++ [.int .i64 t.kind, .int .u64 (t.n : Int), str t.s, .slice At t.k ct, .bool t.op])) (hgr : (w2.alloc (.cells (itemC t At ct) 52)).grownBy w4 (Value.slice A i c).ownBlock)
  (hbl : v'.ownBlock = (Value.slice A i c).ownBlock ∨ ∀ k, v'.ownBlock = some k → w2.heap.size ≤ k) :
  ∃ A' c', v' = .slice A' (i + 1) c' ∧ LOk w g X N p l o n d sz F (w4.setCell ⟨X, 3, none⟩ v') (i + 1) (e + (flt d (l.drop (p + e))).1) A' c' (put ch i t) (putA ac i (At, ct)) := by
 obtain ⟨h1, h2, h3, h4, h5, h6, h7, h8, h9, h10, h11, h12⟩ := h
 obtain ⟨g', c', rfl, hNg, hgl⟩ := own_form hown
 refine ⟨some ⟨g', 0, none⟩, c', rfl, ?_⟩
 have hlt := h11.lt
 have hXr : X < wr.heap.size := h9.lt
 have hgr2 : g < wr.heap.size := h10.lt
 have hs2 := hm2.size
 have hrow : ∀ k, (Value.slice A i c).ownBlock = some k → N ≤ k ∧ k < wr.heap.size := hlt
 obtain ⟨S, hS⟩ : ∃ S : List Nat, ∀ k, k ∈ S ↔ (Value.slice A i c).ownBlock = some k := by
  cases A with
  | none => exact ⟨[], fun k => by simp [Value.ownBlock]⟩
  | some a => exact ⟨[a.block], fun k => by simp [Value.ownBlock, eq_comm]⟩
 have hm4 : Mod S w2 w4 := ((Mod.refl S w2).alloc _).grown hgr (fun k hk => .inl ((hS k).2 hk))
 have hsz4 := hm4.size
 have hX4 : X ∉ S := fun hk => by have := hrow X ((hS X).1 hk); omega
 have hg4 : g ∉ S := fun hk => by have := hrow g ((hS g).1 hk); omega
 have hxg : X ≠ g := by omega
 have b4 : Blk w4 X 52 #[.int .i64 4, .int .u64 0, str [], .slice A i c, .bool o] := (h9.mod hm2 (by simpa using hxg)).mod hm4 hX4
 have p4 : PAt w4 g l (p + e + (flt d (l.drop (p + e))).1) 0 := Blk.mod hp2 hm4 hg4
 have hmW : Mod (X :: S) w2 (w4.setCell ⟨X, 3, none⟩ (.slice (some ⟨g', 0, none⟩) (i + 1) c')) := (hm4.mono (fun k hk => List.mem_cons_of_mem _ hk)).setCell (p := ⟨X, 3, none⟩) (.inl List.mem_cons_self) _
 have hA' : ∀ b, b < wr.heap.size → N ≤ b → A ≠ some ⟨b, 0, none⟩ → (some ⟨g', 0, none⟩ : Option Addr) ≠ some ⟨b, 0, none⟩ := by
  intro b hb hN hne he
  simp only [Option.some.injEq, Addr.mk.injEq, and_true] at he
  subst he
  rcases hbl with hbl | hbl
  ·
   cases A with
   | none => simp [Value.ownBlock] at hbl
   | some a =>
    have hs := h11.2
    simp [Value.ownBlock] at hbl
    rcases hs with ⟨hs, _⟩ | ⟨q, cap, cur, hs, _⟩
    · cases hs
    ·
     simp only [Value.slice.injEq, Option.some.injEq] at hs
     obtain ⟨rfl, _⟩ := hs
     simp at hbl
     subst hbl
     exact hne rfl
  · have := hbl g' rfl; omega
 have hle := flt_le d (l.drop (p + e))
 rw [List.length_drop] at hle
 refine ⟨by omega, fun ho => hin ho, ?_, by omega, ?_, ?_, ?_, ?_, ?_, ?_, ?_, ?_⟩
 ·
  rw [← h3, show 1000 - i = (1000 - (i + 1)) + 1 by omega]
  conv => rhs; unfold floop
  rw [if_neg (by rintro ⟨ho, hn⟩; have := hin ho; omega), List.getElem?_drop, if_neg hnb, List.drop_drop, if_pos hr0]
 ·
  rw [h5, T.cat, show put ch i t i = t from if_pos rfl, List.append_assoc]
  congr 1
  · exact cat_congr fun j hj => by rw [show put ch i t j = ch j from if_neg (by omega)]
  · rw [List.drop_drop, List.drop_drop, ← Nat.add_assoc]; exact htb.symm
 ·
  intro j hj
  by_cases e : j = i
  · subst e; rw [show put ch j t j = t from if_pos rfl]; exact ht
  · rw [show put ch i t j = ch j from if_neg e]; exact h6 j (by omega)
 ·
  refine Mod.new (S := g :: X :: S) (((h7.trans hm2).mono (fun k hk => by rw [List.mem_singleton] at hk; subst hk; exact List.mem_cons_self)).trans (hmW.mono (fun k hk => List.mem_cons_of_mem _ hk))) ?_
  intro k hk
  rcases List.mem_cons.1 hk with rfl | hk
  · exact .inl (List.mem_singleton.2 rfl)
  ·
   rcases List.mem_cons.1 hk with rfl | hk
   · exact .inr hwX
   ·
    have := hrow k ((hS k).1 hk)
    exact .inr (by omega)
 · have := hmW.size; omega
 ·
  have := b4.set_ 3 (.slice (some ⟨g', 0, none⟩) (i + 1) c')
  simpa using this
 ·
  rw [← Nat.add_assoc]
  exact Blk.far p4 (by simpa using fun e => hxg e.symm) _
 ·
  rw [flatC, flatC_congr (ch := put ch i t) (ac := putA ac i (At, ct)) (ch' := ch) (ac' := ac) (fun j hj => ⟨if_neg (by omega), if_neg (by omega)⟩), show put ch i t i = t from if_pos rfl, show putA ac i (At, ct) i = (At, ct) from if_pos rfl]
  exact ownsRow_setCell_other hown (by simp [Value.ownBlock]; omega) _
 ·
  intro j hj
  by_cases e : j = i
  ·
   subst e
   rw [show put ch j t j = t from if_pos rfl, show putA ac j (At, ct) j = (At, ct) from if_pos rfl]
   have hS2 : ∀ k, k ∈ X :: S → k < wr.heap.size := fun k hk => by
    rcases List.mem_cons.1 hk with rfl | hk
    · exact hXr
    · exact (hrow k ((hS k).1 hk)).2
   have q1 : IsC w2 (fun b => wr.heap.size ≤ b ∧ (some ⟨g', 0, none⟩ : Option Addr) ≠ some ⟨b, 0, none⟩) t At ct := IsC.weak (fun k hk hq => ⟨hq, fun he => by
    simp only [Option.some.injEq, Addr.mk.injEq, and_true] at he
    subst he
    rcases hbl with hbl | hbl
    · have := (hrow g' hbl.symm).2; omega
    · have := hbl g' rfl; omega⟩) t hL
   have q2 := IsC.mod hmW (fun k hq hk hm => by have := hS2 k hm; have := hq.1; omega) t q1
   exact IsC.weak (fun k hk hq => ⟨by have := hq.1; omega, hq.2⟩) t q2
  ·
   rw [show put ch i t j = ch j from if_neg e, show putA ac i (At, ct) j = ac j from if_neg e]
   have q0 := IsC.weak (R := fun b => N ≤ b ∧ A ≠ some ⟨b, 0, none⟩ ∧ (some ⟨g', 0, none⟩ : Option Addr) ≠ some ⟨b, 0, none⟩) (fun k hk hq => ⟨hq.1, hq.2, hA' k hk hq.1 hq.2⟩) (ch j) (h12 j (by omega))
   have q1 := IsC.mod hm2 (fun k hq hk hm => by rw [List.mem_singleton] at hm; subst hm; have := hq.1; omega) (ch j) q0
   have q2 := IsC.mod hmW (fun k hq hk hm => by
    rcases List.mem_cons.1 hm with rfl | hm
    · have := hq.1; omega
    ·
     have hk2 := (hS k).1 hm
     cases A with
     | none => simp [Value.ownBlock] at hk2
     | some a =>
      simp [Value.ownBlock] at hk2
      rcases h11.2 with ⟨hs, _⟩ | ⟨q, cap, cur, hs, _⟩
      · cases hs
      ·
       simp only [Value.slice.injEq, Option.some.injEq] at hs
       obtain ⟨rfl, _⟩ := hs
       simp at hk2
       subst hk2
       exact hq.2.1 rfl) (ch j) q1
   exact IsC.weak (fun k hk hq => ⟨hq.1, hq.2.2⟩) (ch j) q2
end Go.Proofs.YtfgipgpbjfhflaaGreat


namespace Go.Proofs.YtfgipgpbjfhflaaGreat
open Go.RowKit
set_option linter.unusedVariables false
set_option linter.unusedSimpArgs false

/-- What an item's parse comes to: R: how far, or where, and what is wrong. -/
def IPost (g : Nat) (l : List UInt8) (p : Nat) (R : Nat × Int) (d : Nat) (w : World) (x : Ending) (w' : World) : Prop :=
 ∃ t A c, x = .returned (itemV t A c) ∧ Mod [g] w w' ∧ PAt w' g l (p + R.1) R.2 ∧ (R.2 = 0 → (t.right d = true ∧ t.ok) ∧ t.bytes ++ l.drop (p + R.1) = l.drop p ∧ IsC w' (fun b => w.heap.size ≤ b) t A c)

theorem newstr_bad {L : List UInt8} {sz k n : Nat} {o : Bool} (h : readH L = some (sz, k, n, o)) (hb : o = true ∨ L.length - sz < n) : (RS.new L).str k 1073741824 = ((RS.new L).Head.1.fail 2, []) := by
 have e := RS.Head_some (r := RS.new L) rfl h
 unfold RS.str
 rw [e]
 dsimp only
 rw [if_pos rfl, if_pos (.inr (by simpa [RS.new] using hb))]
theorem newstr_good {L : List UInt8} {sz k n : Nat} {o : Bool} (h : readH L = some (sz, k, n, o)) (hL : L.length ≤ 1073741824) (hb : ¬ (o = true ∨ L.length - sz < n)) : (RS.new L).str k 1073741824 = (⟨L, sz + n, -1, 0, 0⟩, (L.drop sz).take n) := by
 have e := RS.Head_some (r := RS.new L) rfl h
 unfold RS.str
 rw [e]
 dsimp only
 rw [if_pos rfl, if_neg (by rintro (h1 | h1); exact h1 rfl; exact hb (by simpa [RS.new] using h1)), if_neg (by simp only [not_or, Nat.not_lt] at hb ⊢; omega)]
 simp [RS.new]
theorem newfail_e (L : List UInt8) {sz k n : Nat} {o : Bool} (h : readH L = some (sz, k, n, o)) : ((RS.new L).Head.1.fail 2).e = 2 ∧ ((RS.new L).Head.1.fail 2).bad = 0 := by
 rw [RS.Head_some (r := RS.new L) rfl h]
 unfold RS.fail
 rw [if_pos rfl]
 exact ⟨rfl, rfl⟩

/-- A string's item. -/
def sT (k : Nat) (s : List UInt8) : T := T.mk k 0 s false 0 fun _ => T.nil
theorem sT_good {l : List UInt8} {p sz k n d : Nat} {o : Bool} (hk : k = 2 ∨ k = 3) (h : readH (l.drop p) = some (sz, k, n, o)) (hL : l.length ≤ 1073741824) (hb : ¬ (o = true ∨ (l.drop p).length - sz < n)) :
  ((sT k (((l.drop p).drop sz).take n)).right (d + 1) = true ∧ (sT k (((l.drop p).drop sz).take n)).ok) ∧ (sT k (((l.drop p).drop sz).take n)).bytes ++ l.drop (p + (sz + n)) = l.drop p := by
 simp only [not_or, Nat.not_lt, Bool.not_eq_true] at hb
 obtain ⟨rfl, hn⟩ := hb
 have hh := readH_some h
 have hlen : (((l.drop p).drop sz).take n).length = n := by rw [List.length_take, List.length_drop]; omega
 have h1 := hh.closed rfl
 have hle := hh.le
 rw [List.length_drop] at hn hle
 refine ⟨⟨?_, ?_⟩, ?_⟩
 ·
  unfold sT T.right T.node
  rcases hk with rfl | rfl <;> simp [T.all]
 ·
  unfold sT T.ok
  rw [hlen]
  exact ⟨by omega, by omega, by omega, by omega, fun i hi => by omega⟩
 ·
  have e : (sT k (((l.drop p).drop sz).take n)).bytes = headL k n ++ ((l.drop p).drop sz).take n := by
   unfold sT T.bytes
   rw [if_neg (by omega), if_pos (by omega), hlen, Int.toNat_natCast]
  rw [e, ← h1.1, ← List.drop_drop, ← List.drop_drop, List.append_assoc, List.take_append_drop, List.take_append_drop]

def strR (o : Bool) (L : List UInt8) (sz n : Nat) : Nat × Int := if o = true ∨ L.length - sz < n then (0, 2) else (sz + n, 0)
set_option maxRecDepth 20000 in
set_option maxHeartbeats 800000 in
theorem pstr_any (k : Nat) (hk : Hid (k = 2 ∨ k = 3)) (g : Nat) (l : List UInt8) (p : Nat) (hp : Hid (p ≤ l.length ∧ l.length ≤ 1073741824)) (d sz n : Nat) (o : Bool) (hr : Hid (readH (l.drop p) = some (sz, k, n, o)))
  (w : World) (h : PAt w g l p 0) :
  Calls Tryz.prog 58 #[.pointer (some ⟨g, 0, none⟩), .int .i64 (k : Int)] w (IPost g l p (strR o (l.drop p) sz n) (d + 1) w) := by
 have hrk : Hid (RS.ok (RS.new (l.drop p))) := RS.new_ok (by have := hp.out; rw [List.length_drop]; omega)
 have H0 := hid (Blk.alloc h (.cells (itemC nulT none 0) 52))
 have hg : Hid (g < w.heap.size) := Blk.lt h
 clear h
 go_enter Tryz.func58, Tryz.ntmps58
 go_wp2_with fail
 refine (preader_any g l p 0 hp _ H0.out).mono ?_
 rintro x w1 ⟨rfl, hb1, hr1⟩
 have P1 := hid (H0.out.ext hb1)
 have B1 := hid ((Blk.new w 52 (itemC nulT none 0)).ext hb1)
 have HE1 := hid (((Mod.refl [] w).alloc (.cells (itemC nulT none 0) 52)).trans hb1)
 have hw1 : Hid (w.heap.size + 1 ≤ w1.heap.size) := by have := hb1.size; simp at this; exact this
 have hR1 : RdAt w1 (w.heap.size + 1) (RS.new (l.drop p)) := by simpa using hr1
 have HR1 := hid hR1
 clear hr1 hR1 hb1
 go_upto_region 2 with fail
 go_cut [5, 6] (fun s5 s6 wx => ∃ R X, s5 = .pointer (some ⟨R, 0, none⟩) ∧ s6 = .pointer (some ⟨X, 0, none⟩) ∧ Hid (Ext w wx ∧ PAt wx g l p 0 ∧ Blk wx w.heap.size 52 (itemC nulT none 0) ∧ RdAt wx R (RS.new (l.drop p)) ∧ Blk wx X 52 (itemC (sT k []) none 0) ∧ w.heap.size < R ∧ R < X))
 case first =>
  go_wp2_with fail
  go_meet
  refine ⟨w.heap.size + 1, w1.heap.size, rfl, rfl, HE1.out.alloc _, P1.out.alloc _, B1.out.alloc _, Blk.alloc HR1.out _, Blk.new _ _ _, by omega, ?_⟩
  have := Blk.lt HR1.out; omega
 obtain ⟨R, X, rfl, rfl, hH⟩ := hcut
 clear P1 B1 HE1 HR1 hw1 H0
 have hgX : Hid (g ≠ X ∧ g ≠ R ∧ X ≠ R ∧ w.heap.size ≠ g ∧ w.heap.size ≠ R ∧ w.heap.size ≠ X) := by have h1 := hg.out; have h2 := hH.out.2.2.2.2.2; unfold Hid; omega
 have BX := hid hH.out.2.2.2.2.1
 have HSX : Hid (∀ W, Mod [R] wc W → W.cell? ⟨X, 2, none⟩ = some (str []) ∧ W.frozen? ⟨X, 2, none⟩ = false) := fun W hW => ⟨(BX.out.mod hW (by simpa using hgX.out.2.2.1)).cell 2, (BX.out.mod hW (by simpa using hgX.out.2.2.1)).frozen 2⟩
 have HXS : Hid (∀ W s, Blk W X 52 (itemC (sT k []) none 0) → Blk (W.setCell ⟨X, 2, none⟩ (str s)) X 52 (itemC (sT k s) none 0)) := fun W s h => by
  have := Blk.set_ h 2 (str s)
  simpa [itemC, sT, T.kind, T.n, T.s, T.k, T.op] using this
 have HJ : Hid (∀ w2 r s, Mod [R] wc w2 → RdAt w2 R r → (Ext w (w2.setCell ⟨X, 2, none⟩ (str s)) ∧ PAt (w2.setCell ⟨X, 2, none⟩ (str s)) g l p 0 ∧ Blk (w2.setCell ⟨X, 2, none⟩ (str s)) w.heap.size 52 (itemC nulT none 0) ∧ RdAt (w2.setCell ⟨X, 2, none⟩ (str s)) R r ∧ Blk (w2.setCell ⟨X, 2, none⟩ (str s)) X 52 (itemC (sT k s) none 0))) := by
  intro w2 r s hm hr
  obtain ⟨k1, k2, k3, k4, k5, k6⟩ := hH.out
  obtain ⟨n1, n2, n3, n4, n5, n6⟩ := hgX.out
  refine ⟨?_, ?_, ?_, ?_, HXS.out _ _ (k5.mod hm (by simpa using n3))⟩
  · exact Mod.new (S := [R, X]) ((k1.of_ext.trans (hm.mono (by simp))).setCell (.inl (by simp)) _) (fun k hk => .inr (by simp at hk; omega))
  · exact Blk.far (k2.mod hm (by simpa using n2)) (by simpa using n1) _
  · exact Blk.far (k3.mod hm (by simpa using n5)) (by simpa using n6) _
  · exact Blk.far hr (by simpa using fun e => n3 e.symm) _
 go_step
 go_step
 go_cut [] (fun wx => Hid (Ext w wx ∧ PAt wx g l p 0 ∧ Blk wx w.heap.size 52 (itemC nulT none 0) ∧ RdAt wx R ((RS.new (l.drop p)).str k 1073741824).1 ∧ Blk wx X 52 (itemC (sT k ((RS.new (l.drop p)).str k 1073741824).2) none 0)))
 case first =>
  rcases hk.out with rfl | rfl
  ·
   go_wp2_with (go_at_call 86; refine (RBytes_any R _ hrk.out 1073741824 (by unfold Hid; omega) _ hH.out.2.2.2.1).mono ?_; rintro x w2 ⟨rfl, hm2, hr2⟩; obtain ⟨x2, f2⟩ := HSX.out w2 hm2)
   go_meet
   exact HJ.out _ _ _ hm2 hr2
  ·
   go_wp2_with (go_at_call 87; refine (RText_any R _ hrk.out 1073741824 (by unfold Hid; omega) _ hH.out.2.2.2.1).mono ?_; rintro x w2 ⟨rfl, hm2, hr2⟩; obtain ⟨x2, f2⟩ := HSX.out w2 hm2)
   go_meet
   exact HJ.out _ _ _ hm2 hr2
 clear HJ HXS HSX BX
 by_cases hb : o = true ∨ (l.drop p).length - sz < n
 ·
  have HS := newstr_bad hr.out hb
  have HF := hid (newfail_e _ hr.out)
  have hR0 : strR o (l.drop p) sz n = (0, 2) := if_pos hb
  have HR0 := hid hR0
  rw [HS] at hcut
  clear hR0 HS hb
  go_wp2_with fail
  refine (Bad_any R _ _ hcut.out.2.2.2.1).mono ?_
  rintro x w3 ⟨rfl, hb3⟩
  rw [HF.out.1]
  have P3 := hid (hcut.out.2.1.ext hb3)
  have B3 := hid (hcut.out.2.2.1.ext hb3)
  have HE3 := hid (hcut.out.1.trans hb3)
  have q1 : w3.cell? ⟨g, 1, none⟩ = some (.int .i64 (p : Int)) := PAt.at_ P3.out
  clear hb3
  go_wp2_with fail
  refine (pfail_any g l p p 2 _ P3.out).mono ?_
  rintro x w4 ⟨rfl, hm4, hp4⟩
  have B4 := B3.out.mod hm4 (by simpa using hgX.out.2.2.2.1)
  have HP4 := hid hp4; have HM4 := hid hm4; have HB4 := hid B4
  obtain ⟨c0, c1, c2, c3, c4⟩ := cells5 B4
  have f0 := B4.frozen 0
  have f1 := B4.frozen 1
  have f2 := B4.frozen 2
  have f3 := B4.frozen 3
  have f4 := B4.frozen 4
  clear hm4 hp4 B4 q1
  go_wp2_with fail
  obtain ⟨d0, d1, d2, d3, d4⟩ := cells5 (set5_blk (t := nulT) (A := none) (c := 0) HB4.out)
  clear c0 c1 c2 c3 c4 f0 f1 f2 f3 f4
  show bodyPost _ _ _ _ _ (set5 w4 w.heap.size nulT none 0)
  refine bodyPost_ret (v := itemV nulT none 0) (by simp [results, Tryz.results58, go_sem, d0, d1, d2, d3, d4]) rfl ?_
  rw [HR0.out]
  refine ⟨nulT, none, 0, rfl, set5_mod (HE3.out.of_ext.trans HM4.out) (Nat.le_refl _), set5_far HP4.out (by simpa using fun e => hgX.out.2.2.2.1 e.symm), fun h => by cases h⟩
 ·
  have HS := newstr_good hr.out (by rw [List.length_drop]; have := hp.out; omega) hb
  have hR0 : strR o (l.drop p) sz n = (sz + n, 0) := if_neg hb
  have HN : Hid (sz + n ≤ 1073741824) := by
   have h1 := (readH_some hr.out).le
   have h2 := hp.out
   simp only [not_or, Nat.not_lt] at hb
   have h3 := hb.2
   rw [List.length_drop] at h1 h3
   unfold Hid; omega
  have HG := hid (sT_good (d := d) hk.out hr.out hp.out.2 hb)
  have HR0 := hid hR0
  rw [HS] at hcut
  clear hR0 HS hb
  go_wp2_with fail
  refine (Bad_any R _ _ hcut.out.2.2.2.1).mono ?_
  rintro x w3 ⟨rfl, hb3⟩
  have P3 := hid (hcut.out.2.1.ext hb3)
  have B3 := hid (hcut.out.2.2.1.ext hb3)
  have R3 := hid (hcut.out.2.2.2.1.ext hb3)
  have X3 := hid (hcut.out.2.2.2.2.ext hb3)
  have HE3 := hid (hcut.out.1.trans hb3)
  clear hb3
  have q1 : w3.cell? ⟨g, 1, none⟩ = some (.int .i64 (p : Int)) := PAt.at_ P3.out
  have z1 : w3.frozen? ⟨g, 1, none⟩ = false := PAt.froz P3.out 1
  have hp1 : (p : Int) ≤ 1073741824 := by have := hp.out; omega
  have hp0 : (0 : Int) ≤ (p : Int) := by omega
  have hs1 : (sz : Int) + (n : Int) ≤ 1073741824 := by have := HN.out; omega
  have hs0 : (0 : Int) ≤ (sz : Int) + (n : Int) := by omega
  have tw : IntKind.i64.wrap ((p : Int) + ((sz : Int) + (n : Int))) = (p : Int) + ((sz : Int) + (n : Int)) := IntWalk.i64_in _ (by omega)
  have HP9 : Hid (Mod [g] w (w3.setCell ⟨g, 1, none⟩ (.int .i64 ((p : Int) + ((sz : Int) + (n : Int))))) ∧ PAt (w3.setCell ⟨g, 1, none⟩ (.int .i64 ((p : Int) + ((sz : Int) + (n : Int))))) g l (p + (sz + n)) 0 ∧
    Blk (w3.setCell ⟨g, 1, none⟩ (.int .i64 ((p : Int) + ((sz : Int) + (n : Int))))) w.heap.size 52 (itemC nulT none 0) ∧ Blk (w3.setCell ⟨g, 1, none⟩ (.int .i64 ((p : Int) + ((sz : Int) + (n : Int))))) X 52 (itemC (sT k (((l.drop p).drop sz).take n)) none 0)) := by
   refine ⟨HE3.out.of_ext.setCell (.inl (by simp)) _, ?_, Blk.far B3.out (by simpa using hgX.out.2.2.2.1) _, Blk.far X3.out (by simpa using fun e => hgX.out.1 e.symm) _⟩
   have := Blk.set_ P3.out 1 (.int .i64 ((p + (sz + n) : Nat) : Int))
   simpa [PAt] using this
  go_upto_region 9 with fail
  go_cut [] (fun wx => Hid (Mod [g] w wx ∧ PAt wx g l (p + (sz + n)) 0 ∧ Blk wx w.heap.size 52 (itemC nulT none 0) ∧ Blk wx X 52 (itemC (sT k (((l.drop p).drop sz).take n)) none 0)))
  case first =>
   go_region_with ((go_at_call 56; refine (At_any R ⟨l.drop p, sz + n, -1, 0, 0⟩ _ ?_).mono ?_; (first | exact R3.out | exact Blk.drew R3.out | exact Blk.drew (Blk.drew R3.out)); rintro x w' ⟨rfl, rfl⟩))
   all_goals go_wp2_with fail
   all_goals go_meet
   all_goals exact ⟨by first | exact HP9.out.1 | exact HP9.out.1.drew, HP9.out.2⟩
  clear q1 z1 hp1 hp0 hs1 hs0 tw HP9 X3
  have hc2 := hid hcut.out
  have hg2 := hid HG.out
  clear hcut HG
  have HLs : Hid (∀ W Q, IsC W Q (sT k (((l.drop p).drop sz).take n)) none 0) := fun W Q => IsC.leaf
  generalize sT k (((l.drop p).drop sz).take n) = t at *
  obtain ⟨x0, x1, x2, x3, x4⟩ := cells5 hc2.out.2.2.2
  have B4 := hc2.out.2.2.1
  obtain ⟨c0, c1, c2, c3, c4⟩ := cells5 B4
  have f0 := B4.frozen 0
  have f1 := B4.frozen 1
  have f2 := B4.frozen 2
  have f3 := B4.frozen 3
  have f4 := B4.frozen 4
  have HB4 := hid B4
  clear B4
  go_wp2_with fail
  obtain ⟨d0, d1, d2, d3, d4⟩ := cells5 (set5_blk (t := t) (A := none) (c := 0) HB4.out)
  clear c0 c1 c2 c3 c4 f0 f1 f2 f3 f4 x0 x1 x2 x3 x4
  show bodyPost _ _ _ _ _ (set5 wc w.heap.size t none 0)
  refine bodyPost_ret (v := itemV t none 0) (by simp [results, Tryz.results58, go_sem, d0, d1, d2, d3, d4]) rfl ?_
  rw [HR0.out]
  refine ⟨_, none, 0, rfl, set5_mod hc2.out.1 (Nat.le_refl _), set5_far hc2.out.2.1 (by simpa using fun e => hgX.out.2.2.2.1 e.symm), fun _ => ⟨hg2.out.1, hg2.out.2, HLs.out _ _⟩⟩
end Go.Proofs.YtfgipgpbjfhflaaGreat


namespace Go.Proofs.YtfgipgpbjfhflaaGreat
open Go.RowKit
set_option linter.unusedVariables false
set_option linter.unusedSimpArgs false

/-- What is kept once an item has failed. -/
structure LErr (w : World) (g X : Nat) (l : List UInt8) (p : Nat) (F : Nat × Int) (wr : World) : Prop where
 ne : F.2 ≠ 0
 mod : Mod [g] w wr
 x : ∃ t A c, Blk wr X 52 (itemC t A c)
 pa : PAt wr g l (p + F.1) F.2

theorem LOk.next {w : World} {g X N p : Nat} {l : List UInt8} {o : Bool} {n d sz : Nat} {F : Nat × Int} {wr : World} {i e : Nat} {A : Option Addr} {c : Nat} {ch : Nat → T} {ac : Nat → Option Addr × Nat}
  (h : LOk w g X N p l o n d sz F wr i e A c ch ac) (hi : i < 1000) (hin : o = false → i < n) (hnb : ¬ (o = true ∧ l[p + e]? = some 255)) (hr : (flt d (l.drop (p + e))).2 ≠ 0) :
  F = (e + (flt d (l.drop (p + e))).1, (flt d (l.drop (p + e))).2) := by
 rw [← h.fl, show 1000 - i = (1000 - (i + 1)) + 1 by omega]
 unfold floop
 rw [if_neg (by rintro ⟨ho, hn⟩; have := hin ho; omega), List.getElem?_drop, if_neg hnb, List.drop_drop, if_neg hr]
theorem LOk.stepErr {w : World} {g X N p : Nat} {l : List UInt8} {o : Bool} {n d sz : Nat} {F : Nat × Int} {wr : World} {i e : Nat} {A : Option Addr} {c : Nat} {ch : Nat → T} {ac : Nat → Option Addr × Nat}
  (h : LOk w g X N p l o n d sz F wr i e A c ch ac) (hg : g < w.heap.size) (hwX : w.heap.size ≤ X) (hXN : X < N) (hi : i < 1000) (hin : o = false → i < n) (hnb : ¬ (o = true ∧ l[p + e]? = some 255))
  {t : T} {At : Option Addr} {ct : Nat} {w2 w4 : World} {v' : Value} {xs : List Value} (hr : (flt d (l.drop (p + e))).2 ≠ 0) (hm2 : Mod [g] wr w2) (hp2 : PAt w2 g l (p + e + (flt d (l.drop (p + e))).1) (flt d (l.drop (p + e))).2)
  (hown : w4.ownsRow N 52 5 v' (i + 1) xs) (hgr : (w2.alloc (.cells (itemC t At ct) 52)).grownBy w4 (Value.slice A i c).ownBlock) :
  LErr w g X l p F (w4.setCell ⟨X, 3, none⟩ v') := by
 have hF := h.next hi hin hnb hr
 obtain ⟨h1, h2, h3, h4, h5, h6, h7, h8, h9, h10, h11, h12⟩ := h
 obtain ⟨g', c', rfl, hNg, hgl⟩ := own_form hown
 have hrow : ∀ k, (Value.slice A i c).ownBlock = some k → N ≤ k ∧ k < wr.heap.size := h11.lt
 obtain ⟨S, hS⟩ : ∃ S : List Nat, ∀ k, k ∈ S ↔ (Value.slice A i c).ownBlock = some k := by
  cases A with
  | none => exact ⟨[], fun k => by simp [Value.ownBlock]⟩
  | some a => exact ⟨[a.block], fun k => by simp [Value.ownBlock, eq_comm]⟩
 have hm4 : Mod S w2 w4 := ((Mod.refl S w2).alloc _).grown hgr (fun k hk => .inl ((hS k).2 hk))
 have hX4 : X ∉ S := fun hk => by have := hrow X ((hS X).1 hk); omega
 have hg4 : g ∉ S := fun hk => by have := hrow g ((hS g).1 hk); omega
 have hxg : X ≠ g := by omega
 have b4 : Blk w4 X 52 #[.int .i64 4, .int .u64 0, str [], .slice A i c, .bool o] := (h9.mod hm2 (by simpa using hxg)).mod hm4 hX4
 have p4 : PAt w4 g l (p + e + (flt d (l.drop (p + e))).1) (flt d (l.drop (p + e))).2 := Blk.mod hp2 hm4 hg4
 have hmW : Mod (X :: S) w2 (w4.setCell ⟨X, 3, none⟩ (.slice (some ⟨g', 0, none⟩) (i + 1) c')) := (hm4.mono (fun k hk => List.mem_cons_of_mem _ hk)).setCell (p := ⟨X, 3, none⟩) (.inl List.mem_cons_self) _
 refine ⟨by rw [hF]; exact hr, ?_, ⟨T.mk 4 0 [] o (i + 1) ch, some ⟨g', 0, none⟩, c', ?_⟩, ?_⟩
 ·
  refine Mod.new (S := g :: X :: S) (((h7.trans hm2).mono (fun k hk => by rw [List.mem_singleton] at hk; subst hk; exact List.mem_cons_self)).trans (hmW.mono (fun k hk => List.mem_cons_of_mem _ hk))) ?_
  intro k hk
  rcases List.mem_cons.1 hk with rfl | hk
  · exact .inl (List.mem_singleton.2 rfl)
  ·
   rcases List.mem_cons.1 hk with rfl | hk
   · exact .inr hwX
   ·
    have := hrow k ((hS k).1 hk)
    exact .inr (by omega)
 ·
  have := b4.set_ 3 (.slice (some ⟨g', 0, none⟩) (i + 1) c')
  simpa [itemC, T.kind, T.n, T.s, T.k, T.op] using this
 ·
  rw [hF]
  dsimp only
  rw [← Nat.add_assoc]
  exact Blk.far p4 (by simpa using fun e => hxg e.symm) _

/-- The loop's end. -/
theorem LOk.ends {w : World} {g X N p : Nat} {l : List UInt8} {o : Bool} {n d sz : Nat} {F : Nat × Int} {wr : World} {i e : Nat} {A : Option Addr} {c : Nat} {ch : Nat → T} {ac : Nat → Option Addr × Nat}
  (h : LOk w g X N p l o n d sz F wr i e A c ch ac) (hh : readH (l.drop p) = some (sz, 4, n, o)) (hn : o = false → i = n) {e' : Nat} (he : l.drop (p + e) = (if o then [255] else []) ++ l.drop (p + e')) :
  ((T.mk 4 0 [] o i ch).right (d + 1) = true ∧ (T.mk 4 0 [] o i ch).ok) ∧ (T.mk 4 0 [] o i ch).bytes ++ l.drop (p + e') = l.drop p ∧ IsC wr (fun b => N ≤ b) (T.mk 4 0 [] o i ch) A c := by
 obtain ⟨h1, h2, h3, h4, h5, h6, h7, h8, h9, h10, h11, h12⟩ := h
 have hs := readH_some hh
 refine ⟨⟨?_, ?_⟩, ?_, ?_⟩
 ·
  unfold T.right T.node
  rw [if_neg (by omega), Bool.and_eq_true, T.all_iff]
  exact ⟨by simp [h1], fun j hj => (h6 j hj).1⟩
 ·
  unfold T.ok
  exact ⟨by omega, by omega, by simp, by omega, fun j hj => (h6 j hj).2⟩
 ·
  have e1 : (T.mk 4 0 [] o i ch).bytes = (if o then [159] else headL 4 i) ++ (T.cat (fun j => (ch j).bytes) i ++ (if o then [255] else [])) := rfl
  rw [List.drop_drop, List.drop_drop, he] at h5
  rw [e1, List.append_assoc, List.append_assoc, ← h5]
  cases o with
  | false =>
   obtain rfl := hn rfl
   simp only [Bool.false_eq_true, if_false]
   rw [← (hs.closed rfl).1, ← List.drop_drop, List.take_append_drop]
  | true =>
   simp only [if_true]
   have h8 := hs.opened rfl
   obtain rfl := h8.1
   rw [show ([159] : List UInt8) = (l.drop p).take 1 from h8.2.2.2.symm, ← List.drop_drop, List.take_append_drop]
 ·
  refine ⟨room_cap h11, fun h0 => ?_⟩
  obtain ⟨i', rfl⟩ : ∃ i', i = i' + 1 := ⟨i - 1, by omega⟩
  obtain ⟨g', c', hv, hNg, hgl⟩ := own_form h11
  simp only [Value.slice.injEq] at hv
  obtain ⟨rfl, _, rfl⟩ := hv
  refine ⟨g', 0, rfl, hgl, hNg, fun j hj => ⟨(ac j).1, (ac j).2, ?_, IsC.weak (fun k hk hq => hq.1) (ch j) (h12 j hj)⟩⟩
  obtain ⟨f0, f1, f2, f3, f4⟩ := flatC_get ch ac (i' + 1) j hj
  rw [Nat.zero_add]
  exact ⟨(h11.cellAt _ (by omega)).trans f0, (h11.cellAt _ (by omega)).trans f1, (h11.cellAt _ (by omega)).trans f2, (h11.cellAt _ (by omega)).trans f3, (h11.cellAt _ (by omega)).trans f4⟩
/-- F where the loop ends. -/
theorem LOk.F_closed {w : World} {g X N p : Nat} {l : List UInt8} {n d sz : Nat} {F : Nat × Int} {wr : World} {i e : Nat} {A : Option Addr} {c : Nat} {ch : Nat → T} {ac : Nat → Option Addr × Nat}
  (h : LOk w g X N p l false n d sz F wr i e A c ch ac) (hi : i = n) : F = (e, 0) := by
 have h1 := h.i1000
 rw [← h.fl]
 cases hj : 1000 - i with
 | zero => unfold floop; rw [if_pos ⟨rfl, by omega⟩]
 | succ j => unfold floop; rw [if_pos ⟨rfl, by omega⟩]
theorem LOk.F_break {w : World} {g X N p : Nat} {l : List UInt8} {n d sz : Nat} {F : Nat × Int} {wr : World} {i e : Nat} {A : Option Addr} {c : Nat} {ch : Nat → T} {ac : Nat → Option Addr × Nat}
  (h : LOk w g X N p l true n d sz F wr i e A c ch ac) (hb : l[p + e]? = some 255) : F = (e + 1, 0) := by
 have h1 := h.i1000
 rw [← h.fl]
 cases hj : 1000 - i with
 | zero => unfold floop; rw [if_neg (by simp), List.getElem?_drop, if_pos ⟨rfl, hb⟩]
 | succ j => unfold floop; rw [if_neg (by simp), List.getElem?_drop, if_pos ⟨rfl, hb⟩]
theorem LOk.F_long {w : World} {g X N p : Nat} {l : List UInt8} {n d sz : Nat} {F : Nat × Int} {wr : World} {i e : Nat} {A : Option Addr} {c : Nat} {ch : Nat → T} {ac : Nat → Option Addr × Nat}
  (h : LOk w g X N p l true n d sz F wr i e A c ch ac) (hi : i = 1000) (hb : ¬ l[p + e]? = some 255) : F = (e, 4) := by
 rw [← h.fl, hi, show 1000 - 1000 = 0 from rfl]
 unfold floop
 rw [if_neg (by simp), List.getElem?_drop, if_neg (fun x => hb x.2)]

/-- The row's block in a later world. -/
theorem LOk.own2 {w : World} {g X N p : Nat} {l : List UInt8} {o : Bool} {n d sz : Nat} {F : Nat × Int} {wr : World} {i e : Nat} {A : Option Addr} {c : Nat} {ch : Nat → T} {ac : Nat → Option Addr × Nat}
  (h : LOk w g X N p l o n d sz F wr i e A c ch ac) (hgN : g < N) {w2 : World} (hm2 : Mod [g] wr w2) (ob : Obj) : (w2.alloc ob).ownsRow N 52 5 (.slice A i c) i (flatC ch ac i) :=
 (ownsRow_mod h.own hm2 (fun k hk => by have := (h.own.lt k hk).1; simp; omega)).alloc ob
theorem LOk.ext {w : World} {g X N p : Nat} {l : List UInt8} {o : Bool} {n d sz : Nat} {F : Nat × Int} {wr w2 : World} {i e : Nat} {A : Option Addr} {c : Nat} {ch : Nat → T} {ac : Nat → Option Addr × Nat}
  (h : LOk w g X N p l o n d sz F wr i e A c ch ac) (hm : Ext wr w2) : LOk w g X N p l o n d sz F w2 i e A c ch ac := by
 obtain ⟨h1, h2, h3, h4, h5, h6, h7, h8, h9, h10, h11, h12⟩ := h
 exact ⟨h1, h2, h3, h4, h5, h6, h7.trans hm.of_ext, Nat.le_trans h8 hm.size, h9.ext hm, Blk.ext h10 hm, ownsRow_mod h11 hm (by simp), fun j hj => (h12 j hj).ext hm⟩
theorem LOk.keep {w : World} {g X N p : Nat} {l : List UInt8} {o : Bool} {n d sz : Nat} {F : Nat × Int} {wr : World} {i e : Nat} {A : Option Addr} {c : Nat} {ch : Nat → T} {ac : Nat → Option Addr × Nat}
  (h : LOk w g X N p l o n d sz F wr i e A c ch ac) {w2 w4 : World} (hm2 : Mod [g] wr w2) {ob : Obj} (hgr : (w2.alloc ob).grownBy w4 (Value.slice A i c).ownBlock)
  {b : Nat} {ty : TypeId} {cs : Array Value} (hB : Blk wr b ty cs) (hbg : b ≠ g) (hbN : b < N) : Blk w4 b ty cs := by
 have hrow : ∀ k, (Value.slice A i c).ownBlock = some k → N ≤ k ∧ k < wr.heap.size := h.own.lt
 obtain ⟨S, hS⟩ : ∃ S : List Nat, ∀ k, k ∈ S ↔ (Value.slice A i c).ownBlock = some k := by
  cases A with
  | none => exact ⟨[], fun k => by simp [Value.ownBlock]⟩
  | some a => exact ⟨[a.block], fun k => by simp [Value.ownBlock, eq_comm]⟩
 have hm4 : Mod S w2 w4 := ((Mod.refl S w2).alloc _).grown hgr (fun k hk => .inl ((hS k).2 hk))
 exact (hB.mod hm2 (by simpa using hbg)).mod hm4 (fun hk => by have := hrow b ((hS b).1 hk); omega)
theorem LOk.room {w : World} {g X N p : Nat} {l : List UInt8} {o : Bool} {n d sz : Nat} {F : Nat × Int} {wr : World} {i e : Nat} {A : Option Addr} {c : Nat} {ch : Nat → T} {ac : Nat → Option Addr × Nat}
  (h : LOk w g X N p l o n d sz F wr i e A c ch ac) {w2 : World} (hm2 : Mod [g] wr w2) : N ≤ w2.heap.size := Nat.le_trans h.nx hm2.size
end Go.Proofs.YtfgipgpbjfhflaaGreat


namespace Go.Proofs.YtfgipgpbjfhflaaGreat
open Go.RowKit
set_option linter.unusedVariables false
set_option linter.unusedSimpArgs false

theorem Blk.newAt (w : World) (t : TypeId) (cs : Array Value) {N : Nat} (h : w.heap.size = N) : Blk (w.alloc (.cells cs t)) N t cs := by subst h; exact Blk.new _ _ _

set_option maxRecDepth 20000 in
set_option maxHeartbeats 1600000 in
theorem plist_any (d : Nat) (hd : Hid (d ≤ 8)) (g : Nat) (l : List UInt8) (hl : Hid (l.length ≤ 1073741824))
  (IH : Hid (∀ (p : Nat), p ≤ l.length → ∀ w, PAt w g l p 0 → Calls Tryz.prog 31 #[.pointer (some ⟨g, 0, none⟩), .int .i64 (d : Int)] w (IPost g l p (flt d (l.drop p)) d w)))
  (p sz n : Nat) (o : Bool) (nI : Int) (hn : Hid ((o = true → nI = -1) ∧ (o = false → nI = n))) (hr : Hid (readH (l.drop p) = some (sz, 4, n, o))) (hnn : Hid (o = false → n ≤ 1000)) (hpl : Hid (p + sz ≤ l.length))
  (w : World) (h : PAt w g l (p + sz) 0) :
  Calls Tryz.prog 60 #[.pointer (some ⟨g, 0, none⟩), .int .i64 nI, .int .i64 ((d : Int) + 1)] w (IPost g l p (floop (flt d) (l.drop p) o n 1000 sz) (d + 1) w) := by
 have hg : Hid (g < w.heap.size) := Blk.lt h
 have t1 : decide (nI < 0) = o := by
  have := hn.out
  cases o with
  | true => rw [this.1 rfl]; rfl
  | false => rw [this.2 rfl]; simp
 obtain ⟨F, hF⟩ : ∃ F, F = floop (flt d) (l.drop p) o n 1000 sz := ⟨_, rfl⟩
 rw [← hF]
 have HB0 := hid ((Blk.new w 52 (itemC nulT none 0)).alloc (.cells #[.int .i64 4, .int .u64 0, str [], .slice none 0 0, .bool o] 52))
 have HL0 : Hid (LOk w g (w.heap.size + 1) (w.heap.size + 2) p l o n d sz F ((w.alloc (.cells (itemC nulT none 0) 52)).alloc (.cells #[.int .i64 4, .int .u64 0, str [], .slice none 0 0, .bool o] 52)) 0 sz none 0 (fun _ => T.nil) (fun _ => (none, 0))) := by
  refine ⟨by omega, fun _ => Nat.zero_le _, hF.symm, hpl.out, by simp [T.cat], fun j hj => by omega, ((Mod.refl _ _).alloc _).alloc _, by simp, Blk.newAt _ _ _ (by simp), (Blk.alloc (Blk.alloc h _) _), World.ownsRow_nil _ _ _ _, fun j hj => by omega⟩
 have HF := hid hF
 clear hF h
 go_enter Tryz.func60, Tryz.ntmps60
 go_wp2_with fail
 go_loopg [] 1001 (fun gk wr => Hid (Blk wr w.heap.size 52 (itemC nulT none 0)) ∧ ((∃ i e A c ch ac, gk = 1001 - i ∧ Hid (LOk w g (w.heap.size + 1) (w.heap.size + 2) p l o n d sz F wr i e A c ch ac)) ∨ (gk = 0 ∧ Hid (LErr w g (w.heap.size + 1) l p F wr))))
 case atStart => exact ⟨HB0.out, .inl ⟨0, sz, none, 0, _, _, rfl, HL0.out⟩⟩
 case round =>
  clear HB0 HL0
  obtain ⟨hB, ⟨i, e, A, c, ch, ac, rfl, hK⟩ | ⟨rfl, hE⟩⟩ := hrel
  ·
   obtain ⟨q, hq⟩ : ∃ q, q = p + e := ⟨_, rfl⟩
   have hpa : PAt wr g l q 0 := by rw [hq]; exact hK.out.pa
   have HPA := hid hpa
   have p1 : wr.cell? ⟨g, 1, none⟩ = some (.int .i64 (q : Int)) := PAt.at_ hpa
   have p2 : wr.cell? ⟨g, 2, none⟩ = some (.int .i64 0) := PAt.err hpa
   have hql : Hid (q ≤ l.length) := by rw [hq]; exact hK.out.le
   have HQ := hid hq
   clear hq hpa
   by_cases hend : o = false ∧ i = n
   ·
    obtain ⟨ho, hi⟩ := hend
    subst ho
    have hFe := hK.out.F_closed hi
    have HE := hid (hK.out.ends hr.out (fun _ => hi) (e' := e) rfl)
    obtain ⟨t, ht⟩ : ∃ t, t = T.mk 4 0 [] false i ch := ⟨_, rfl⟩
    have hx : Blk wr (w.heap.size + 1) 52 (itemC t A c) := by subst ht; exact hK.out.x
    have hk : t.k = i := by subst ht; rfl
    obtain ⟨x0, x1, x2, x3, x4⟩ := cells5 hx
    have t2 : ((t.k : Int) != nI) = false := by rw [hk, hn.out.2 rfl, hi]; simp
    have t3 : ((t.k : Int) = nI) = True := by rw [hk, hn.out.2 rfl, hi]; simp
    rw [← ht] at HE
    have HFe := hid hFe
    clear hx ht hk hFe hi
    obtain ⟨c0, c1, c2, c3, c4⟩ := cells5 hB.out
    have f0 := hB.out.frozen 0
    have f1 := hB.out.frozen 1
    have f2 := hB.out.frozen 2
    have f3 := hB.out.frozen 3
    have f4 := hB.out.frozen 4
    go_wp2_with fail
    obtain ⟨d0, d1, d2, d3, d4⟩ := cells5 (set5_blk (t := t) (A := A) (c := c) hB.out)
    clear c0 c1 c2 c3 c4 f0 f1 f2 f3 f4 x0 x1 x2 x3 x4 p1 p2
    show bodyPost _ _ _ _ _ (set5 wr w.heap.size t A c)
    refine bodyPost_ret (v := itemV t A c) (by simp [results, Tryz.results60, go_sem, d0, d1, d2, d3, d4]) rfl ?_
    rw [HFe.out]
    refine ⟨t, A, c, rfl, set5_mod hK.out.mod (Nat.le_refl _), ?_, fun _ => ⟨HE.out.1, HE.out.2.1, ?_⟩⟩
    ·
     have := HPA.out
     rw [HQ.out] at this
     exact set5_far this (by have := hg.out; omega)
    · exact IsC.weak (fun k hk hq => by omega) t (IsC.mod set5_modb (fun k hq hk hm => by rw [List.mem_singleton] at hm; omega) t HE.out.2.2)
   by_cases hbr : o = true ∧ l[p + e]? = some 255
   ·
    obtain ⟨ho, hb⟩ := hbr
    subst ho
    have hFe := hK.out.F_break hb
    have hb2 := get_255.1 hb
    have he : l.drop (p + e) = [255] ++ l.drop (p + (e + 1)) := by
     obtain ⟨v, hv⟩ := hb2
     have h1 : l.drop (p + e + 1) = v := by rw [← List.drop_drop, hv]; rfl
     rw [hv, ← Nat.add_assoc, h1]; rfl
    have HE := hid (hK.out.ends hr.out (fun h => by cases h) (e' := e + 1) he)
    obtain ⟨t, ht⟩ : ∃ t, t = T.mk 4 0 [] true i ch := ⟨_, rfl⟩
    have hx : Blk wr (w.heap.size + 1) 52 (itemC t A c) := by subst ht; exact hK.out.x
    have hk : t.k = i := by subst ht; rfl
    obtain ⟨x0, x1, x2, x3, x4⟩ := cells5 hx
    have t2 : ((t.k : Int) != nI) = true := by rw [hk, hn.out.1 rfl]; simp
    have t3 : ((t.k : Int) = nI) = False := by rw [hk, hn.out.1 rfl]; simp
    have tb : decide (l[q]? = some 255) = true := by rw [HQ.out, hb]; simp
    rw [← ht] at HE
    have HFe := hid hFe; have HX := hid hx
    have hlt : q < l.length := by rw [HQ.out]; exact (List.getElem?_eq_some_iff.1 hb).1
    have hq0 : (0 : Int) ≤ (q : Int) := by omega
    have hq1 : (q : Int) ≤ 1073741824 := by have := hl.out; omega
    have HLT := hid hlt
    clear hx ht hk hFe hb hb2 he hlt x0 x1 x2 x3 x4
    have x3 : wr.cell? ⟨w.heap.size + 1, 3, none⟩ = some (.slice A t.k c) := HX.out.cell 3
    go_wp2_with fail
    refine (broken_any g l q 0 (show Hid _ from ⟨hql.out, hl.out⟩) _ HPA.out).mono ?_
    rintro x w2 ⟨rfl, hb2⟩
    rw [tb]
    have HP2 := hid (HPA.out.ext hb2)
    have HX2 := hid (HX.out.ext hb2)
    have HB2 := hid (hB.out.ext hb2)
    have HM2 := hid (hK.out.mod.trans hb2.of_ext)
    clear p1 p2 x3
    have p1 : w2.cell? ⟨g, 1, none⟩ = some (.int .i64 (q : Int)) := PAt.at_ HP2.out
    have z1 : w2.frozen? ⟨g, 1, none⟩ = false := PAt.froz HP2.out 1
    obtain ⟨x0, x1, x2, x3, x4⟩ := cells5 HX2.out
    obtain ⟨c0, c1, c2, c3, c4⟩ := cells5 HB2.out
    have f0 := HB2.out.frozen 0
    have f1 := HB2.out.frozen 1
    have f2 := HB2.out.frozen 2
    have f3 := HB2.out.frozen 3
    have f4 := HB2.out.frozen 4
    have HEL := hid (IsC.mod hb2 (fun k hq hk => by simp) t HE.out.2.2)
    have hgX : g ≠ w.heap.size := by have := hg.out; omega
    have hgX1 : ¬ w.heap.size = g := by have := hg.out; omega
    have hgX2 : ¬ w.heap.size + 1 = g := by have := hg.out; omega
    have hgX3 : ¬ g = w.heap.size + 1 := by have := hg.out; omega
    clear hb2
    go_wp2_with fail
    have HB5 : Hid (Blk (w2.setCell ⟨g, 1, none⟩ (.int .i64 ((q : Int) + 1))) w.heap.size 52 (itemC nulT none 0)) := Blk.far HB2.out (by simpa using fun e => hgX e.symm) _
    obtain ⟨d0, d1, d2, d3, d4⟩ := cells5 (set5_blk (t := t) (A := A) (c := c) HB5.out)
    clear c0 c1 c2 c3 c4 f0 f1 f2 f3 f4 x0 x1 x2 x3 x4 p1 z1
    show bodyPost _ _ _ _ _ (set5 (w2.setCell ⟨g, 1, none⟩ (.int .i64 ((q : Int) + 1))) w.heap.size t A c)
    refine bodyPost_ret (v := itemV t A c) (by simp [results, Tryz.results60, go_sem, d0, d1, d2, d3, d4]) rfl ?_
    rw [HFe.out]
    refine ⟨t, A, c, rfl, set5_mod (HM2.out.setCell (.inl (by simp)) _) (Nat.le_refl _), ?_, fun _ => ⟨HE.out.1, HE.out.2.1, ?_⟩⟩
    ·
     have h1 := Blk.set_ HP2.out 1 (.int .i64 ((q + 1 : Nat) : Int))
     have h2 : PAt (w2.setCell ⟨g, 1, none⟩ (.int .i64 ((q : Int) + 1))) g l (p + (e + 1)) 0 := by
      rw [← Nat.add_assoc, ← HQ.out]
      simpa [PAt] using h1
     exact set5_far h2 hgX
    ·
     have hm : Mod [g] w2 (w2.setCell ⟨g, 1, none⟩ (.int .i64 ((q : Int) + 1))) := (Mod.refl _ _).setCell (.inl (by simp)) _
     have e1 := IsC.mod hm (fun k hq hk hm => by rw [List.mem_singleton] at hm; have := hg.out; omega) t HEL.out
     exact IsC.weak (fun k hk hq => by omega) t (IsC.mod set5_modb (fun k hq hk hm => by rw [List.mem_singleton] at hm; omega) t e1)
   have hin : Hid (o = false → i < n) := fun ho => by have h1 := hK.out.iN ho; have h2 : i ≠ n := fun h => hend ⟨ho, h⟩; omega
   have t2 : ((i : Int) != nI) = true := by
    have := hn.out
    cases o with
    | true => rw [this.1 rfl]; simp
    | false => rw [this.2 rfl]; have := hin.out rfl; simp; omega
   have t3 : ((i : Int) = nI) = False := by simpa using t2
   have x3 : wr.cell? ⟨w.heap.size + 1, 3, none⟩ = some (.slice A i c) := hK.out.x.cell 3
   have y3 : wr.frozen? ⟨w.heap.size + 1, 3, none⟩ = false := hK.out.x.frozen 3
   by_cases hlong : o = true ∧ i = 1000
   ·
    obtain ⟨ho, hi⟩ := hlong
    subst ho
    have hb : ¬ l[p + e]? = some 255 := fun h => hbr ⟨rfl, h⟩
    have HFe := hid (hK.out.F_long hi hb)
    have tb : decide (l[q]? = some 255) = false := by rw [HQ.out]; simpa using hb
    have ti : ((i : Int) == 1000) = true := by rw [hi]; rfl
    have ti2 : (i = 1000) = True := by simp [hi]
    have HX := hid hK.out.x
    clear hb hi hbr hend
    go_wp2_with fail
    refine (broken_any g l q 0 (show Hid _ from ⟨hql.out, hl.out⟩) _ HPA.out).mono ?_
    rintro x w2 ⟨rfl, hb2⟩
    rw [tb]
    have HP2 := hid (HPA.out.ext hb2)
    have HB2 := hid (hB.out.ext hb2)
    have HM2 := hid (hK.out.mod.trans hb2.of_ext)
    clear p1 p2 x3 y3
    have p1 : w2.cell? ⟨g, 1, none⟩ = some (.int .i64 (q : Int)) := PAt.at_ HP2.out
    have x3 : w2.cell? ⟨w.heap.size + 1, 3, none⟩ = some (.slice A i c) := (HX.out.ext hb2).cell 3
    have hgX : w.heap.size ≠ g := by have := hg.out; omega
    clear hb2
    go_wp2_with fail
    refine (pfail_any g l q q 4 _ HP2.out).mono ?_
    rintro x w3 ⟨rfl, hm3, hp3⟩
    have HB3 := hid (HB2.out.mod hm3 (by simpa using hgX))
    have HP3 := hid hp3; have HM3 := hid (HM2.out.trans hm3)
    clear hm3 hp3 p1 x3
    obtain ⟨c0, c1, c2, c3, c4⟩ := cells5 HB3.out
    have f0 := HB3.out.frozen 0
    have f1 := HB3.out.frozen 1
    have f2 := HB3.out.frozen 2
    have f3 := HB3.out.frozen 3
    have f4 := HB3.out.frozen 4
    go_wp2_with fail
    obtain ⟨d0, d1, d2, d3, d4⟩ := cells5 (set5_blk (t := nulT) (A := none) (c := 0) HB3.out)
    clear c0 c1 c2 c3 c4 f0 f1 f2 f3 f4
    show bodyPost _ _ _ _ _ (set5 w3 w.heap.size nulT none 0)
    refine bodyPost_ret (v := itemV nulT none 0) (by simp [results, Tryz.results60, go_sem, d0, d1, d2, d3, d4]) rfl ?_
    rw [HFe.out]
    refine ⟨nulT, none, 0, rfl, set5_mod HM3.out (Nat.le_refl _), ?_, fun h => by cases h⟩
    have h3 := HP3.out
    rw [HQ.out] at h3
    exact set5_far h3 (fun e => hgX e.symm)
   ·
    have hi : i < 1000 := by
     have h1 := hK.out.i1000
     have h2 := hin.out
     have h3 := hnn.out
     cases o with
     | true => have h4 : i ≠ 1000 := fun h => hlong ⟨rfl, h⟩; omega
     | false => have := h2 rfl; have := h3 rfl; omega
    have HI := hid hi
    have HNB := hid hbr
    have ti : ((i : Int) == 1000) = false := by simp; omega
    have ti2 : (i = 1000) = False := by simp; omega
    have HX := hid hK.out.x
    have hd1 : Hid (d ≤ 8) := hd
    have td : (d : Int) + 1 - 1 = (d : Int) := by omega
    have tw : IntKind.i64.wrap (d : Int) = (d : Int) := IntWalk.i64_in _ (by have := hd.out; omega)
    have tw2 : IntKind.i64.wrap ((d : Int) + 1 - 1) = (d : Int) := by rw [td, tw]
    clear hi hbr hend hlong
    have HIH : Hid (∀ W, PAt W g l q 0 → Calls Tryz.prog 31 #[.pointer (some ⟨g, 0, none⟩), .int .i64 (d : Int)] W (IPost g l q (flt d (l.drop q)) d W)) := fun W hW => IH.out q hql.out W hW
    cases o
    ·
     have HIN := hid (hin.out rfl)
     obtain ⟨i0, hi0, hz0, hz1, hz2⟩ := info_parts infoItem
     have hgX : w.heap.size + 1 ≠ g := by have := hg.out; omega
     have hgB : w.heap.size ≠ g := by have := hg.out; omega
     have HgX := hid hgX; have HgB := hid hgB
     clear hgX hgB
     go_upto_region 8 with fail
     go_region_law (first
      | (refine step_append_lies _ rfl (.tmp 48) (.tmp 53) 50 rfl (w.heap.size + 2) 52 i0 _ 5 64 Tryz.underlying50 hi0 hz0 hz1 hz2 rfl (by decide) (.slice A i c) i _ (by simp [Act.eval]) ho2 ⟨w2.heap.size, 0, none⟩ 1 1 [Value.int .i64 tc.kind, .int .u64 (tc.n : Int), str tc.s, .slice Ac tc.k cc, .bool tc.op] (by simp [Act.eval]) rfl (news5 w2 tc Ac cc) (one5 tc Ac cc) (by decide) (by have := HI.out; unfold maxLen; omega) (by have := HI.out; omega) (by have := hK.out.room hm; simp; omega) (w2.heap.size + 1) (by simp) ?_; intro g' c' w4 hown' hgr hbl hgl; have hx4 := hK.out.keep hm hgr hK.out.x HgX.out (by omega); have x4 : w4.cell? ⟨w.heap.size + 1, 3, none⟩ = some (.slice A i c) := hx4.cell 3; have xf : w4.frozen? ⟨w.heap.size + 1, 3, none⟩ = false := hx4.frozen 3)
      | (go_simp; go_at_call 31; (try rw [tw2]); refine (HIH.out _ ?_).mono ?_; (first | exact HPA.out | exact Blk.drew HPA.out); rintro x w2 ⟨tc, Ac, cc, rfl, hm2, hp2, hs2⟩; have hm : Mod [g] wr w2 := (by first | exact hm2 | exact (Mod.refl _ _).drew.trans hm2); have ho2 := hK.out.own2 (by have := hg.out; omega) hm (.cells (itemC tc Ac cc) 52); have z3 : w2.cell? ⟨w.heap.size + 1, 3, none⟩ = some (.slice A i c) := (hK.out.x.mod hm (by simpa using HgX.out)).cell 3; have zf : w2.frozen? ⟨w.heap.size + 1, 3, none⟩ = false := (hK.out.x.mod hm (by simpa using HgX.out)).frozen 3; have z4 : (w2.alloc (.cells #[Value.int .i64 tc.kind, .int .u64 (tc.n : Int), str tc.s, .slice Ac tc.k cc, .bool tc.op] 52)).cell? ⟨w.heap.size + 1, 3, none⟩ = some (.slice A i c) := ((hK.out.x.mod hm (by simpa using HgX.out)).alloc _).cell 3; have hne : ¬ w.heap.size + 1 = w2.heap.size := (by have := hK.out.room hm; omega)))
     all_goals go_wp2_with fail
     all_goals have hq := HQ.out
     all_goals have hblk : (Value.slice (some ⟨g', 0, none⟩) (i + 1) c').ownBlock = (Value.slice A i c).ownBlock ∨ ∀ k, (Value.slice (some ⟨g', 0, none⟩) (i + 1) c').ownBlock = some k → w2.heap.size ≤ k := hbl.elim (fun h => .inl h.symm) (fun h => .inr fun k hk => by simp [Value.ownBlock] at hk; omega)
     all_goals have hB5 : Blk (w4.setCell ⟨w.heap.size + 1, 3, none⟩ (.slice (some ⟨g', 0, none⟩) (i + 1) c')) w.heap.size 52 (itemC nulT none 0) := Blk.far (hK.out.keep hm hgr hB.out HgB.out (by omega)) (by simp) _
     all_goals subst hq
     all_goals
      by_cases her : (flt d (l.drop (p + e))).2 = 0
      ·
       obtain ⟨A', c2, e1, hL⟩ := hK.out.step hg.out (by omega) (by omega) HI.out (fun _ => HIN.out) (fun h => by cases h.1) her hm (by rw [her] at hp2; exact hp2) (hs2 her).1 (hs2 her).2.1 (hs2 her).2.2 hown' hgr hblk
       simp only [Value.slice.injEq, true_and] at e1
       obtain ⟨rfl, rfl⟩ := e1
       go_roundg (1001 - (i + 1))
       case measure => have := HI.out; omega
       case rel => exact ⟨hB5, .inl ⟨_, _, _, _, _, _, rfl, hL⟩⟩
      ·
       have hL := hK.out.stepErr hg.out (by omega) (by omega) HI.out (fun _ => HIN.out) (fun h => by cases h.1) her hm hp2 hown' hgr
       go_roundg 0
       case measure => have := HI.out; omega
       case rel => exact ⟨hB5, .inr ⟨rfl, hL⟩⟩
    ·
     have HNB2 : Hid (¬ l[p + e]? = some 255) := fun h => HNB.out ⟨rfl, h⟩
     have tb : decide (l[q]? = some 255) = false := by rw [HQ.out]; have := HNB2.out; simpa using this
     go_wp2_with fail
     refine (broken_any g l q 0 (show Hid _ from ⟨hql.out, hl.out⟩) _ HPA.out).mono ?_
     rintro x w1 ⟨rfl, hb1⟩
     rw [tb]
     have HK1 := hid (hK.out.ext hb1)
     have HB1 := hid (hB.out.ext hb1)
     have HP1 := hid (HPA.out.ext hb1)
     clear p1 p2 x3 y3 hb1
     have p1 : w1.cell? ⟨g, 1, none⟩ = some (.int .i64 (q : Int)) := PAt.at_ HP1.out
     have p2 : w1.cell? ⟨g, 2, none⟩ = some (.int .i64 0) := PAt.err HP1.out
     have x3 : w1.cell? ⟨w.heap.size + 1, 3, none⟩ = some (.slice A i c) := HK1.out.x.cell 3
     have y3 : w1.frozen? ⟨w.heap.size + 1, 3, none⟩ = false := HK1.out.x.frozen 3
     obtain ⟨i0, hi0, hz0, hz1, hz2⟩ := info_parts infoItem
     have hgX : w.heap.size + 1 ≠ g := by have := hg.out; omega
     have hgB : w.heap.size ≠ g := by have := hg.out; omega
     have HgX := hid hgX; have HgB := hid hgB
     clear hgX hgB
     go_upto_region 8 with fail
     go_region_law (first
      | (refine step_append_lies _ rfl (.tmp 48) (.tmp 53) 50 rfl (w.heap.size + 2) 52 i0 _ 5 64 Tryz.underlying50 hi0 hz0 hz1 hz2 rfl (by decide) (.slice A i c) i _ (by simp [Act.eval]) ho2 ⟨w2.heap.size, 0, none⟩ 1 1 [Value.int .i64 tc.kind, .int .u64 (tc.n : Int), str tc.s, .slice Ac tc.k cc, .bool tc.op] (by simp [Act.eval]) rfl (news5 w2 tc Ac cc) (one5 tc Ac cc) (by decide) (by have := HI.out; unfold maxLen; omega) (by have := HI.out; omega) (by have := HK1.out.room hm; simp; omega) (w2.heap.size + 1) (by simp) ?_; intro g' c' w4 hown' hgr hbl hgl; have hx4 := HK1.out.keep hm hgr HK1.out.x HgX.out (by omega); have x4 : w4.cell? ⟨w.heap.size + 1, 3, none⟩ = some (.slice A i c) := hx4.cell 3; have xf : w4.frozen? ⟨w.heap.size + 1, 3, none⟩ = false := hx4.frozen 3)
      | (go_simp; go_at_call 31; (try rw [tw2]); refine (HIH.out _ ?_).mono ?_; (first | exact HP1.out | exact Blk.drew HP1.out); rintro x w2 ⟨tc, Ac, cc, rfl, hm2, hp2, hs2⟩; have hm : Mod [g] w1 w2 := (by first | exact hm2 | exact (Mod.refl _ _).drew.trans hm2); have ho2 := HK1.out.own2 (by have := hg.out; omega) hm (.cells (itemC tc Ac cc) 52); have z3 : w2.cell? ⟨w.heap.size + 1, 3, none⟩ = some (.slice A i c) := (HK1.out.x.mod hm (by simpa using HgX.out)).cell 3; have zf : w2.frozen? ⟨w.heap.size + 1, 3, none⟩ = false := (HK1.out.x.mod hm (by simpa using HgX.out)).frozen 3; have z4 : (w2.alloc (.cells #[Value.int .i64 tc.kind, .int .u64 (tc.n : Int), str tc.s, .slice Ac tc.k cc, .bool tc.op] 52)).cell? ⟨w.heap.size + 1, 3, none⟩ = some (.slice A i c) := ((HK1.out.x.mod hm (by simpa using HgX.out)).alloc _).cell 3; have hne : ¬ w.heap.size + 1 = w2.heap.size := (by have := HK1.out.room hm; omega)))
     all_goals go_wp2_with fail
     all_goals have hq := HQ.out
     all_goals have hblk : (Value.slice (some ⟨g', 0, none⟩) (i + 1) c').ownBlock = (Value.slice A i c).ownBlock ∨ ∀ k, (Value.slice (some ⟨g', 0, none⟩) (i + 1) c').ownBlock = some k → w2.heap.size ≤ k := hbl.elim (fun h => .inl h.symm) (fun h => .inr fun k hk => by simp [Value.ownBlock] at hk; omega)
     all_goals have hB5 : Blk (w4.setCell ⟨w.heap.size + 1, 3, none⟩ (.slice (some ⟨g', 0, none⟩) (i + 1) c')) w.heap.size 52 (itemC nulT none 0) := Blk.far (HK1.out.keep hm hgr HB1.out HgB.out (by omega)) (by simp) _
     all_goals subst hq
     all_goals
      by_cases her : (flt d (l.drop (p + e))).2 = 0
      ·
       obtain ⟨A', c2, e1, hL⟩ := HK1.out.step hg.out (by omega) (by omega) HI.out (fun h => by cases h) (fun h => HNB2.out h.2) her hm (by rw [her] at hp2; exact hp2) (hs2 her).1 (hs2 her).2.1 (hs2 her).2.2 hown' hgr hblk
       simp only [Value.slice.injEq, true_and] at e1
       obtain ⟨rfl, rfl⟩ := e1
       go_roundg (1001 - (i + 1))
       case measure => have := HI.out; omega
       case rel => exact ⟨hB5, .inl ⟨_, _, _, _, _, _, rfl, hL⟩⟩
      ·
       have hL := HK1.out.stepErr hg.out (by omega) (by omega) HI.out (fun h => by cases h) (fun h => HNB2.out h.2) her hm hp2 hown' hgr
       go_roundg 0
       case measure => have := HI.out; omega
       case rel => exact ⟨hB5, .inr ⟨rfl, hL⟩⟩
  ·
   obtain ⟨t, A, c, hx⟩ := hE.out.x
   have p2 : wr.cell? ⟨g, 2, none⟩ = some (.int .i64 F.2) := PAt.err hE.out.pa
   have te : (F.2 == 0) = false := by have := hE.out.ne; simp [this]
   have te2 : (F.2 = 0) = False := by have := hE.out.ne; simp [this]
   obtain ⟨x0, x1, x2, x3, x4⟩ := cells5 hx
   obtain ⟨c0, c1, c2, c3, c4⟩ := cells5 hB.out
   have f0 := hB.out.frozen 0
   have f1 := hB.out.frozen 1
   have f2 := hB.out.frozen 2
   have f3 := hB.out.frozen 3
   have f4 := hB.out.frozen 4
   clear hx
   go_wp2_with fail
   obtain ⟨d0, d1, d2, d3, d4⟩ := cells5 (set5_blk (t := t) (A := A) (c := c) hB.out)
   clear c0 c1 c2 c3 c4 f0 f1 f2 f3 f4 x0 x1 x2 x3 x4 p2
   show bodyPost _ _ _ _ _ (set5 wr w.heap.size t A c)
   refine bodyPost_ret (v := itemV t A c) (by simp [results, Tryz.results60, go_sem, d0, d1, d2, d3, d4]) rfl ?_
   exact ⟨t, A, c, rfl, set5_mod hE.out.mod (Nat.le_refl _), set5_far hE.out.pa (by have := hg.out; omega), fun h => absurd h hE.out.ne⟩
end Go.Proofs.YtfgipgpbjfhflaaGreat
