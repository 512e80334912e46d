/-
 strings.Repeat: the library's contract, at this program.
-/
import Derived.Test.YthecmnbkjchjmaaGreatMExtAgesap
import Derived.Test.YthecmnbkjchjmaaGreatMExtAgesau
import Derived.Shelf.Strings.Repeat
import Derived.Shelf.Abstract

namespace Go.Proofs.YthecmnbkjchjmaaGreat
open Go.RowKit
set_option linter.unusedVariables false
set_option linter.unusedSimpArgs false

def layRep_ren : Shelf.Ren where
 f := fun x => match x with
  | 105 => 150
  | 212 => 161
  | 99 => 162
  | 165 => 163
  | 166 => 164
  | 170 => 165
  | 169 => 166
  | 263 => 169
  | 264 => 170
  | 206 => 157
  | 240 => 171
  | 241 => 172
  | 276 => 175
  | 277 => 176
  | n => n
 t := fun x => match x with
  | 9 => 9
  | 3 => 3
  | 4 => 4
  | 20 => 20
  | 0 => 0
  | 46 => 155
  | 109 => 184
  | 5 => 5
  | 72 => 188
  | 76 => 192
  | 51 => 47
  | 146 => 197
  | 53 => 22
  | 148 => 199
  | 70 => 186
  | 37 => 100
  | 75 => 191
  | 127 => 201
  | 164 => 204
  | 80 => 194
  | n => n
 g := fun n => n
theorem layRep : Lays.n105 Tryz.prog layRep_ren where
 mixed := by kernel_rfl
 f105 := Tryz.func150.trans (by kernel_rfl)
 f212 := Tryz.func161.trans (by kernel_rfl)
 f99 := Tryz.func162.trans (by kernel_rfl)
 f165 := Tryz.func163.trans (by kernel_rfl)
 f166 := Tryz.func164.trans (by kernel_rfl)
 f170 := Tryz.func165.trans (by kernel_rfl)
 f169 := Tryz.func166.trans (by kernel_rfl)
 f263 := Tryz.func169.trans (by kernel_rfl)
 f264 := Tryz.func170.trans (by kernel_rfl)
 f206 := Tryz.func157.trans (by kernel_rfl)
 f240 := Tryz.func171.trans (by kernel_rfl)
 f241 := Tryz.func172.trans (by kernel_rfl)
 f276 := Tryz.func175.trans (by kernel_rfl)
 f277 := Tryz.func176.trans (by kernel_rfl)
 t9 := Tryz.underlying9
 a9 := Tryz.isAgg9
 z9 := Tryz.sizeOf9
 v9 := Tryz.zeroValue9
 t3 := Tryz.underlying3
 a3 := Tryz.isAgg3
 z3 := Tryz.sizeOf3
 v3 := Tryz.zeroValue3
 t4 := Tryz.underlying4
 a4 := Tryz.isAgg4
 z4 := Tryz.sizeOf4
 v4 := Tryz.zeroValue4
 t20 := Tryz.underlying20
 a20 := Tryz.isAgg20
 z20 := Tryz.sizeOf20
 v20 := Tryz.zeroValue20
 t0 := Tryz.underlying0
 a0 := Tryz.isAgg0
 z0 := Tryz.sizeOf0
 v0 := Tryz.zeroValue0
 t46 := Tryz.underlying155
 a46 := Tryz.isAgg155
 z46 := Tryz.sizeOf155
 v46 := Tryz.zeroValue155
 t109 := Tryz.underlying184
 a109 := Tryz.isAgg184
 z109 := Tryz.sizeOf184
 v109 := Tryz.zeroValue184
 t5 := Tryz.underlying5
 a5 := Tryz.isAgg5
 z5 := Tryz.sizeOf5
 v5 := Tryz.zeroValue5
 t72 := Tryz.underlying188
 a72 := Tryz.isAgg188
 z72 := Tryz.sizeOf188
 v72 := Tryz.zeroValue188
 t76 := Tryz.underlying192
 a76 := Tryz.isAgg192
 z76 := Tryz.sizeOf192
 v76 := Tryz.zeroValue192
 t51 := Tryz.underlying47
 a51 := Tryz.isAgg47
 z51 := Tryz.sizeOf47
 v51 := Tryz.zeroValue47
 t146 := Tryz.underlying197
 a146 := Tryz.isAgg197
 z146 := Tryz.sizeOf197
 v146 := Tryz.zeroValue197
 t53 := Tryz.underlying22
 a53 := Tryz.isAgg22
 z53 := Tryz.sizeOf22
 v53 := Tryz.zeroValue22
 t148 := Tryz.underlying199
 a148 := Tryz.isAgg199
 z148 := Tryz.sizeOf199
 v148 := Tryz.zeroValue199
 t70 := Tryz.underlying186
 a70 := Tryz.isAgg186
 z70 := Tryz.sizeOf186
 v70 := Tryz.zeroValue186
 t37 := Tryz.underlying100
 a37 := Tryz.isAgg100
 z37 := Tryz.sizeOf100
 v37 := Tryz.zeroValue100
 t75 := Tryz.underlying191
 a75 := Tryz.isAgg191
 z75 := Tryz.sizeOf191
 v75 := Tryz.zeroValue191
 t127 := Tryz.underlying201
 a127 := Tryz.isAgg201
 z127 := Tryz.sizeOf201
 v127 := Tryz.zeroValue201
 t164 := Tryz.underlying204
 a164 := Tryz.isAgg204
 z164 := Tryz.sizeOf204
 v164 := Tryz.zeroValue204
theorem layRepX : Builder.Extra Tryz.prog layRep_ren where
 sizeBuilder := by kernel_rfl
 liesBuilder := by kernel_rfl
 t5 := Tryz.underlying5
 a5 := Tryz.isAgg5
 z5 := Tryz.sizeOf5
 v5 := Tryz.zeroValue5
 infoByte := by kernel_rfl
 cellsByte := by kernel_rfl
 sizeByte := by kernel_rfl
 neB5 := by decide

theorem repeat0 (k : Nat) : Lib.repeatL [0] k = List.replicate k (0 : UInt8) := by
 induction k with
 | zero => rfl
 | succ k ih => rw [Lib.repeatL, ih, List.replicate_succ]; rfl
theorem Repeat_zero (k : Nat) (hk : k <= 1000) (w : World) : Calls Tryz.prog 150 #[.string ⟨#[0]⟩, .int .i64 (k : Int)] w (Ret (str (List.replicate k 0)) w) := by
 refine (Any.strings_Repeat layRep layRepX ⟨#[0]⟩ k w (by omega) (by show 1 * k <= _; omega)).mono fun e w' ⟨he, hb⟩ => ⟨?_, Mod.of_below hb⟩
 rw [he]
 show Ending.returned (.string ⟨(Lib.repeatL [0] k).toArray⟩) = _
 rw [repeat0]
end Go.Proofs.YthecmnbkjchjmaaGreat


namespace Go.Proofs.YthecmnbkjchjmaaGreat
open Go.RowKit
set_option linter.unusedVariables false
set_option linter.unusedSimpArgs false

set_option maxRecDepth 20000 in
set_option maxHeartbeats 1600000 in
theorem Same_any (a b : T) (hoa : a.ok) (hob : b.ok) (A B : Option Addr) (c d : Nat) (w : World) (ha : IsL w (fun _ => True) a A) (hb : IsL w (fun _ => True) b B) :
  Calls Tryz.prog 139 #[itemV a A c, itemV b B d] w (Ret (.bool (a.right 8 && b.right 8 && a.same b)) w) := by
 have H := hid ha; have H' := hid hb; have HO := hid hoa; have HO' := hid hob
 have HBa : Hid (Blk ((w.alloc (.cells (itemC a A c) 86)).alloc (.cells (itemC b B d) 86)) w.heap.size 86 (itemC a A c)) := (Blk.new _ _ _).alloc _
 have HBb : Hid (Blk ((w.alloc (.cells (itemC a A c) 86)).alloc (.cells (itemC b B d) 86)) (w.heap.size + 1) 86 (itemC b B d)) := Blk.new' _ _ _ (by simp)
 have HE0 := hid (((Mod.refl [] w).alloc (.cells (itemC a A c) 86)).alloc (.cells (itemC b B d) 86))
 clear ha hb hoa hob
 go_enter Tryz.func139, Tryz.ntmps139
 go_wp2_with fail
 refine (iRight_any a HO.out A c _ (H.out.ext HE0.out)).mono ?_
 rintro e w2 ⟨rfl, hb2⟩
 have HE2 := hid (HE0.out.trans hb2)
 have hBa2 := HBa.out.ext hb2
 have hBb2 := HBb.out.ext hb2
 have ca0 : w2.cell? ⟨w.heap.size, 0, none⟩ = some (.int .i64 a.kind) := hBa2.cell 0
 have ca1 : w2.cell? ⟨w.heap.size, 1, none⟩ = some (.int .u64 (a.n : Int)) := hBa2.cell 1
 have ca2 : w2.cell? ⟨w.heap.size, 2, none⟩ = some (str a.s) := hBa2.cell 2
 have ca3 : w2.cell? ⟨w.heap.size, 3, none⟩ = some (.slice A a.k c) := hBa2.cell 3
 have ca4 : w2.cell? ⟨w.heap.size, 4, none⟩ = some (.bool a.op) := hBa2.cell 4
 have cb0 : w2.cell? ⟨w.heap.size + 1, 0, none⟩ = some (.int .i64 b.kind) := hBb2.cell 0
 have cb1 : w2.cell? ⟨w.heap.size + 1, 1, none⟩ = some (.int .u64 (b.n : Int)) := hBb2.cell 1
 have cb2 : w2.cell? ⟨w.heap.size + 1, 2, none⟩ = some (str b.s) := hBb2.cell 2
 have cb3 : w2.cell? ⟨w.heap.size + 1, 3, none⟩ = some (.slice B b.k d) := hBb2.cell 3
 have cb4 : w2.cell? ⟨w.heap.size + 1, 4, none⟩ = some (.bool b.op) := hBb2.cell 4
 have HA2 := hid hBa2; have HB2 := hid hBb2
 clear hBa2 hBb2 hb2
 cases hr : a.right 8
 .
  have HR := hid hr
  clear hr
  go_wp2_with fail
  go_ret
  exact Ret.mk (by simp [show a.right 8 = false from HR.out]) HE2.out
 .
  have HR := hid hr
  clear hr
  go_wp2_with fail
  refine (iRight_any b HO'.out B d _ (H'.out.ext HE2.out)).mono ?_
  rintro e w3 ⟨rfl, hb3⟩
  have HE3 := hid (HE2.out.trans hb3)
  have hBa2 := HA2.out.ext hb3
  have hBb2 := HB2.out.ext hb3
  clear ca0 ca1 ca2 ca3 ca4 cb0 cb1 cb2 cb3 cb4
  have ca0 : w3.cell? ⟨w.heap.size, 0, none⟩ = some (.int .i64 a.kind) := hBa2.cell 0
  have ca1 : w3.cell? ⟨w.heap.size, 1, none⟩ = some (.int .u64 (a.n : Int)) := hBa2.cell 1
  have ca2 : w3.cell? ⟨w.heap.size, 2, none⟩ = some (str a.s) := hBa2.cell 2
  have ca3 : w3.cell? ⟨w.heap.size, 3, none⟩ = some (.slice A a.k c) := hBa2.cell 3
  have ca4 : w3.cell? ⟨w.heap.size, 4, none⟩ = some (.bool a.op) := hBa2.cell 4
  have cb0 : w3.cell? ⟨w.heap.size + 1, 0, none⟩ = some (.int .i64 b.kind) := hBb2.cell 0
  have cb1 : w3.cell? ⟨w.heap.size + 1, 1, none⟩ = some (.int .u64 (b.n : Int)) := hBb2.cell 1
  have cb2 : w3.cell? ⟨w.heap.size + 1, 2, none⟩ = some (str b.s) := hBb2.cell 2
  have cb3 : w3.cell? ⟨w.heap.size + 1, 3, none⟩ = some (.slice B b.k d) := hBb2.cell 3
  have cb4 : w3.cell? ⟨w.heap.size + 1, 4, none⟩ = some (.bool b.op) := hBb2.cell 4
  clear hBa2 hBb2 hb3
  cases hr : b.right 8
  .
   have HR2 := hid hr
   clear hr
   go_wp2_with fail
   go_ret
   exact Ret.mk (by simp [show b.right 8 = false from HR2.out]) HE3.out
  .
   have HR2 := hid hr
   clear hr
   go_wp2_with fail
   refine (same_any a b HO.out HO'.out A c B d _ (H.out.ext HE3.out) (H'.out.ext HE3.out)).mono ?_
   rintro e w4 ⟨rfl, hb4⟩
   go_wp2_with fail
   go_ret
   exact Ret.mk (by simp [show a.right 8 = true from HR.out, show b.right 8 = true from HR2.out]) (HE3.out.trans hb4)

structure Two (W : World) (g : Nat) (a b : T) (A B : Option Addr) (c d : Nat) : Prop where
 a0 : W.cell? ⟨g, 0, none⟩ = some (.int .i64 a.kind)
 a1 : W.cell? ⟨g, 1, none⟩ = some (.int .u64 (a.n : Int))
 a2 : W.cell? ⟨g, 2, none⟩ = some (str a.s)
 a3 : W.cell? ⟨g, 3, none⟩ = some (.slice A a.k c)
 a4 : W.cell? ⟨g, 4, none⟩ = some (.bool a.op)
 b0 : W.cell? ⟨g + 1, 0, none⟩ = some (.int .i64 b.kind)
 b1 : W.cell? ⟨g + 1, 1, none⟩ = some (.int .u64 (b.n : Int))
 b2 : W.cell? ⟨g + 1, 2, none⟩ = some (str b.s)
 b3 : W.cell? ⟨g + 1, 3, none⟩ = some (.slice B b.k d)
 b4 : W.cell? ⟨g + 1, 4, none⟩ = some (.bool b.op)
theorem Two.new (w : World) (a b : T) (A B : Option Addr) (c d : Nat) : Hid (∀ W, Ext ((w.alloc (.cells (itemC a A c) 86)).alloc (.cells (itemC b B d) 86)) W -> Two W w.heap.size a b A B c d) := fun W hW => by
 have h1 : Blk W w.heap.size 86 (itemC a A c) := ((Blk.new _ _ _).alloc _).ext hW
 have h2 : Blk W (w.heap.size + 1) 86 (itemC b B d) := (Blk.new' _ _ _ (by simp)).ext hW
 exact ⟨h1.cell 0, h1.cell 1, h1.cell 2, h1.cell 3, h1.cell 4, h2.cell 0, h2.cell 1, h2.cell 2, h2.cell 3, h2.cell 4⟩

end Go.Proofs.YthecmnbkjchjmaaGreat


namespace Go.Proofs.YthecmnbkjchjmaaGreat
open Go.RowKit
set_option linter.unusedVariables false
set_option linter.unusedSimpArgs false

theorem readE_name {t : T} (hok : t.ok) : (readE t).name.length < 4611686018427387904 := by
 unfold readE
 split
 . simp [zeroE]
 .
  rename_i h
  split
  . simp
  .
   split
   .
    cases t with
    | nil => exact absurd hok T.not_nil
    | mk kind n s op k ch =>
     have hk : k = 2 := by
      by_cases hk : k = 2
      . exact hk
      . exact absurd (Or.inr (Or.inl hk)) h
     subst hk
     have h1 := hok.2.2.2.2 1 (by omega)
     show (ch 1).s.length < _
     cases hc : ch 1 with
     | nil => simp [T.s]
     | mk a b d e f g => rw [hc] at h1; exact h1.2.2.1
   . simp [noneE]
def ofB (t : T) : Bool := (readE t).ok && (t.right 8 && t.same (eidT (readE t)))

set_option maxRecDepth 20000 in
set_option maxHeartbeats 1600000 in
theorem eidOf_yes (t : T) (hok : t.ok) (ho : (readE t).ok = true) (hs : (t.right 8 && t.same (eidT (readE t))) = true) (A : Option Addr) (c : Nat) (w : World) (h : IsL w (fun _ => True) t A) : Calls Tryz.prog 117 #[itemV t A c] w (Ret (.tuple #[(readE t).v, .int .i64 0]) w) := by
 have K1 : Hid (∀ W, IsL W (fun _ => True) t A -> Calls Tryz.prog 138 #[itemV t A c] W (Ret (readE t).v W)) := fun W hW => eread_any t (by rintro rfl; exact T.not_nil hok) A c W hW
 have H := hid h
 have K2 := hid (fun W => eidItem_ok (readE t) ho W)
 obtain ⟨g1, g2, _, _⟩ := eidT_ok ho
 have K3 : Hid (∀ (B : Option Addr) (W : World), IsL W (fun _ => True) t A -> IsL W (fun _ => True) (eidT (readE t)) B -> Calls Tryz.prog 139 #[itemV t A c, itemV (eidT (readE t)) B 2] W (Ret (.bool true) W)) := fun B W h1 h2 => by
  have := Same_any t (eidT (readE t)) hok g1 A B c 2 W h1 h2
  rw [g2 8 (by omega), Bool.and_true, hs] at this
  exact this
 clear g1 g2 ho h hok hs
 generalize eidT (readE t) = y at *
 generalize readE t = e at *
 have HE := hid (((Mod.refl [] w).alloc (.cells (itemC t A c) 86)).alloc (.cells #[.int .i64 0, .string ⟨#[]⟩, .int .u64 0, .int .u64 0] 24))
 have HX := hid ((Blk.new w 86 (itemC t A c)).alloc (.cells #[.int .i64 0, .string ⟨#[]⟩, .int .u64 0, .int .u64 0] 24))
 have HQ := hid (Blk.new' (w.alloc (.cells (itemC t A c) 86)) 24 #[.int .i64 0, .string ⟨#[]⟩, .int .u64 0, .int .u64 0] (N := w.heap.size + 1) (by simp))
 go_enter Tryz.func117, Tryz.ntmps117
 go_wp2_with fail
 refine (K1.out _ (H.out.ext HE.out)).mono ?_
 rintro e1 w1 ⟨rfl, hb1⟩
 have HE1 := hid ((HE.out.trans hb1).alloc (.cells e.c 24))
 have HX1 := hid ((HX.out.ext hb1).alloc (.cells e.c 24))
 have HQ1 := hid ((HQ.out.ext hb1).alloc (.cells e.c 24))
 have HV1 := hid (Blk.new w1 24 e.c)
 clear hb1
 go_wp2_with fail
 refine (K2.out _).mono ?_
 rintro e1 w2 ⟨B, rfl, hb2, hl2⟩
 have HE2 := hid ((HE1.out.trans hb2).alloc (.cells (itemC y B 2) 86))
 have HX2 := hid ((HX1.out.ext hb2).alloc (.cells (itemC y B 2) 86))
 have HQ2 := hid ((HQ1.out.ext hb2).alloc (.cells (itemC y B 2) 86))
 have HV2 := hid ((HV1.out.ext hb2).alloc (.cells (itemC y B 2) 86))
 have HY2 := hid (Blk.new w2 86 (itemC y B 2))
 have HL2 : Hid (IsL (w2.alloc (.cells (itemC y B 2) 86)) (fun _ => True) y B) := IsL.ext (IsL.weak (fun _ _ _ => trivial) _ hl2) ((Mod.refl _ _).alloc _)
 have H2 := hid ((H.out.ext HE2.out))
 clear hb2 hl2
 obtain ⟨q0, q1, q2, q3, q4⟩ := cells5 HX2.out
 go_wp2_with fail
 refine (K3.out B _ H2.out HL2.out).mono ?_
 rintro e1 w3 ⟨rfl, hb3⟩
 have HE3 := hid (HE2.out.trans hb3)
 have HQ3 := hid (HQ2.out.ext hb3)
 have HV3 := hid (HV2.out.ext hb3)
 clear hb3 q0 q1 q2 q3 q4
 obtain ⟨r0, r1, r2, r3⟩ : w3.cell? ⟨w.heap.size + 1, 0, none⟩ = some (.int .i64 0) /\ w3.cell? ⟨w.heap.size + 1, 1, none⟩ = some (str []) /\ w3.cell? ⟨w.heap.size + 1, 2, none⟩ = some (.int .u64 0) /\ w3.cell? ⟨w.heap.size + 1, 3, none⟩ = some (.int .u64 0) := ⟨HQ3.out.cell 0, HQ3.out.cell 1, HQ3.out.cell 2, HQ3.out.cell 3⟩
 have f0 := Blk.frozen HQ3.out 0
 have f1 := Blk.frozen HQ3.out 1
 have f2 := Blk.frozen HQ3.out 2
 have f3 := Blk.frozen HQ3.out 3
 obtain ⟨v0, v1, v2, v3⟩ : w3.cell? ⟨w1.heap.size, 0, none⟩ = some (.int .i64 e.sch) /\ w3.cell? ⟨w1.heap.size, 1, none⟩ = some (str e.name) /\ w3.cell? ⟨w1.heap.size, 2, none⟩ = some (.int .u64 (e.node : Int)) /\ w3.cell? ⟨w1.heap.size, 3, none⟩ = some (.int .u64 (e.svc : Int)) := ⟨HV3.out.cell 0, HV3.out.cell 1, HV3.out.cell 2, HV3.out.cell 3⟩
 go_wp2_with fail
 have B4 := (((HQ3.out.set_ 0 (.int .i64 e.sch)).set_ 1 (str e.name)).set_ 2 (.int .u64 (e.node : Int))).set_ 3 (.int .u64 (e.svc : Int))
 obtain ⟨d0, d1, d2, d3⟩ := And.intro (B4.cell 0) (And.intro (B4.cell 1) (And.intro (B4.cell 2) (B4.cell 3)))
 simp only [List.setIfInBounds_toArray, List.set_cons_zero, List.set_cons_succ, List.getElem?_toArray, List.getElem?_cons_zero, List.getElem?_cons_succ] at d0 d1 d2 d3
 clear r0 r1 r2 r3 f0 f1 f2 f3 v0 v1 v2 v3
 refine bodyPost_ret (v := .tuple #[e.v, .int .i64 0]) (by simp [results, Tryz.results117, go_sem, d0, d1, d2, d3]) rfl (Ret.mk rfl ((((HE3.out.setCell (.inr (by show w.heap.size <= w.heap.size + 1; omega)) _).setCell (.inr (by show w.heap.size <= w.heap.size + 1; omega)) _).setCell (.inr (by show w.heap.size <= w.heap.size + 1; omega)) _).setCell (.inr (by show w.heap.size <= w.heap.size + 1; omega)) _))
set_option maxRecDepth 20000 in
set_option maxHeartbeats 1600000 in
theorem eidOf_no (t : T) (hok : t.ok) (ho : (readE t).ok = true) (hs : (t.right 8 && t.same (eidT (readE t))) = false) (A : Option Addr) (c : Nat) (w : World) (h : IsL w (fun _ => True) t A) : Calls Tryz.prog 117 #[itemV t A c] w (Ret (.tuple #[zeroE.v, .int .i64 2]) w) := by
 have K1 : Hid (∀ W, IsL W (fun _ => True) t A -> Calls Tryz.prog 138 #[itemV t A c] W (Ret (readE t).v W)) := fun W hW => eread_any t (by rintro rfl; exact T.not_nil hok) A c W hW
 have H := hid h
 have K2 := hid (fun W => eidItem_ok (readE t) ho W)
 obtain ⟨g1, g2, _, _⟩ := eidT_ok ho
 have K3 : Hid (∀ (B : Option Addr) (W : World), IsL W (fun _ => True) t A -> IsL W (fun _ => True) (eidT (readE t)) B -> Calls Tryz.prog 139 #[itemV t A c, itemV (eidT (readE t)) B 2] W (Ret (.bool false) W)) := fun B W h1 h2 => by
  have := Same_any t (eidT (readE t)) hok g1 A B c 2 W h1 h2
  rw [g2 8 (by omega), Bool.and_true, hs] at this
  exact this
 clear g1 g2 ho h hok hs
 generalize eidT (readE t) = y at *
 generalize readE t = e at *
 have HE := hid (((Mod.refl [] w).alloc (.cells (itemC t A c) 86)).alloc (.cells #[.int .i64 0, .string ⟨#[]⟩, .int .u64 0, .int .u64 0] 24))
 have HX := hid ((Blk.new w 86 (itemC t A c)).alloc (.cells #[.int .i64 0, .string ⟨#[]⟩, .int .u64 0, .int .u64 0] 24))
 have HQ := hid (Blk.new' (w.alloc (.cells (itemC t A c) 86)) 24 #[.int .i64 0, .string ⟨#[]⟩, .int .u64 0, .int .u64 0] (N := w.heap.size + 1) (by simp))
 go_enter Tryz.func117, Tryz.ntmps117
 go_wp2_with fail
 refine (K1.out _ (H.out.ext HE.out)).mono ?_
 rintro e1 w1 ⟨rfl, hb1⟩
 have HE1 := hid ((HE.out.trans hb1).alloc (.cells e.c 24))
 have HX1 := hid ((HX.out.ext hb1).alloc (.cells e.c 24))
 have HQ1 := hid ((HQ.out.ext hb1).alloc (.cells e.c 24))
 have HV1 := hid (Blk.new w1 24 e.c)
 clear hb1
 go_wp2_with fail
 refine (K2.out _).mono ?_
 rintro e1 w2 ⟨B, rfl, hb2, hl2⟩
 have HE2 := hid ((HE1.out.trans hb2).alloc (.cells (itemC y B 2) 86))
 have HX2 := hid ((HX1.out.ext hb2).alloc (.cells (itemC y B 2) 86))
 have HQ2 := hid ((HQ1.out.ext hb2).alloc (.cells (itemC y B 2) 86))
 have HV2 := hid ((HV1.out.ext hb2).alloc (.cells (itemC y B 2) 86))
 have HY2 := hid (Blk.new w2 86 (itemC y B 2))
 have HL2 : Hid (IsL (w2.alloc (.cells (itemC y B 2) 86)) (fun _ => True) y B) := IsL.ext (IsL.weak (fun _ _ _ => trivial) _ hl2) ((Mod.refl _ _).alloc _)
 have H2 := hid ((H.out.ext HE2.out))
 clear hb2 hl2
 obtain ⟨q0, q1, q2, q3, q4⟩ := cells5 HX2.out
 go_wp2_with fail
 refine (K3.out B _ H2.out HL2.out).mono ?_
 rintro e1 w3 ⟨rfl, hb3⟩
 have HE3 := hid (HE2.out.trans hb3)
 have HQ3 := hid (HQ2.out.ext hb3)
 have HV3 := hid (HV2.out.ext hb3)
 clear hb3 q0 q1 q2 q3 q4
 obtain ⟨r0, r1, r2, r3⟩ : w3.cell? ⟨w.heap.size + 1, 0, none⟩ = some (.int .i64 0) /\ w3.cell? ⟨w.heap.size + 1, 1, none⟩ = some (str []) /\ w3.cell? ⟨w.heap.size + 1, 2, none⟩ = some (.int .u64 0) /\ w3.cell? ⟨w.heap.size + 1, 3, none⟩ = some (.int .u64 0) := ⟨HQ3.out.cell 0, HQ3.out.cell 1, HQ3.out.cell 2, HQ3.out.cell 3⟩
 have f0 := Blk.frozen HQ3.out 0
 have f1 := Blk.frozen HQ3.out 1
 have f2 := Blk.frozen HQ3.out 2
 have f3 := Blk.frozen HQ3.out 3
 go_wp2_with fail
 have B4 := (((HQ3.out.set_ 0 (.int .i64 0)).set_ 1 (str [])).set_ 2 (.int .u64 0)).set_ 3 (.int .u64 0)
 obtain ⟨d0, d1, d2, d3⟩ := And.intro (B4.cell 0) (And.intro (B4.cell 1) (And.intro (B4.cell 2) (B4.cell 3)))
 simp only [List.setIfInBounds_toArray, List.set_cons_zero, List.set_cons_succ, List.getElem?_toArray, List.getElem?_cons_zero, List.getElem?_cons_succ] at d0 d1 d2 d3
 clear r0 r1 r2 r3 f0 f1 f2 f3
 refine bodyPost_ret (v := .tuple #[.agg #[.int .i64 0, str [], .int .u64 0, .int .u64 0], .int .i64 2]) (by simp [results, Tryz.results117, go_sem, d0, d1, d2, d3]) rfl (Ret.mk rfl ((((HE3.out.setCell (.inr (by show w.heap.size <= w.heap.size + 1; omega)) _).setCell (.inr (by show w.heap.size <= w.heap.size + 1; omega)) _).setCell (.inr (by show w.heap.size <= w.heap.size + 1; omega)) _).setCell (.inr (by show w.heap.size <= w.heap.size + 1; omega)) _))
set_option maxRecDepth 20000 in
set_option maxHeartbeats 1600000 in
theorem eidOf_bad (t : T) (hok : t.ok) (ho : (readE t).ok = false) (A : Option Addr) (c : Nat) (w : World) (h : IsL w (fun _ => True) t A) : Calls Tryz.prog 117 #[itemV t A c] w (Ret (.tuple #[zeroE.v, .int .i64 2]) w) := by
 have K1 : Hid (∀ W, IsL W (fun _ => True) t A -> Calls Tryz.prog 138 #[itemV t A c] W (Ret (readE t).v W)) := fun W hW => eread_any t (by rintro rfl; exact T.not_nil hok) A c W hW
 have H := hid h
 have hl := readE_name hok
 have K2 : Hid (∀ W, Calls Tryz.prog 58 #[(readE t).v] W (Ret (.tuple #[itemV (numT 0) none 0, .int .i64 1]) W)) := fun W => eidItem_bad _ _ _ _ hl ho W
 clear ho h hok hl
 generalize readE t = e at *
 have HE := hid (((Mod.refl [] w).alloc (.cells (itemC t A c) 86)).alloc (.cells #[.int .i64 0, .string ⟨#[]⟩, .int .u64 0, .int .u64 0] 24))
 have HX := hid ((Blk.new w 86 (itemC t A c)).alloc (.cells #[.int .i64 0, .string ⟨#[]⟩, .int .u64 0, .int .u64 0] 24))
 have HQ := hid (Blk.new' (w.alloc (.cells (itemC t A c) 86)) 24 #[.int .i64 0, .string ⟨#[]⟩, .int .u64 0, .int .u64 0] (N := w.heap.size + 1) (by simp))
 go_enter Tryz.func117, Tryz.ntmps117
 go_wp2_with fail
 refine (K1.out _ (H.out.ext HE.out)).mono ?_
 rintro e1 w1 ⟨rfl, hb1⟩
 have HE1 := hid ((HE.out.trans hb1).alloc (.cells e.c 24))
 have HX1 := hid ((HX.out.ext hb1).alloc (.cells e.c 24))
 have HQ1 := hid ((HQ.out.ext hb1).alloc (.cells e.c 24))
 have HV1 := hid (Blk.new w1 24 e.c)
 clear hb1
 go_wp2_with fail
 refine (K2.out _).mono ?_
 rintro e1 w3 ⟨rfl, hb3⟩
 have HE3 := hid ((HE1.out.trans hb3).alloc (.cells (itemC (numT 0) none 0) 86))
 have HQ3 := hid ((HQ1.out.ext hb3).alloc (.cells (itemC (numT 0) none 0) 86))
 clear hb3
 obtain ⟨r0, r1, r2, r3⟩ : (w3.alloc (.cells (itemC (numT 0) none 0) 86)).cell? ⟨w.heap.size + 1, 0, none⟩ = some (.int .i64 0) /\ (w3.alloc (.cells (itemC (numT 0) none 0) 86)).cell? ⟨w.heap.size + 1, 1, none⟩ = some (str []) /\ (w3.alloc (.cells (itemC (numT 0) none 0) 86)).cell? ⟨w.heap.size + 1, 2, none⟩ = some (.int .u64 0) /\ (w3.alloc (.cells (itemC (numT 0) none 0) 86)).cell? ⟨w.heap.size + 1, 3, none⟩ = some (.int .u64 0) := ⟨HQ3.out.cell 0, HQ3.out.cell 1, HQ3.out.cell 2, HQ3.out.cell 3⟩
 have f0 := Blk.frozen HQ3.out 0
 have f1 := Blk.frozen HQ3.out 1
 have f2 := Blk.frozen HQ3.out 2
 have f3 := Blk.frozen HQ3.out 3
 go_wp2_with fail
 have B4 := (((HQ3.out.set_ 0 (.int .i64 0)).set_ 1 (str [])).set_ 2 (.int .u64 0)).set_ 3 (.int .u64 0)
 obtain ⟨d0, d1, d2, d3⟩ := And.intro (B4.cell 0) (And.intro (B4.cell 1) (And.intro (B4.cell 2) (B4.cell 3)))
 simp only [List.setIfInBounds_toArray, List.set_cons_zero, List.set_cons_succ, List.getElem?_toArray, List.getElem?_cons_zero, List.getElem?_cons_succ] at d0 d1 d2 d3
 clear r0 r1 r2 r3 f0 f1 f2 f3
 refine bodyPost_ret (v := .tuple #[.agg #[.int .i64 0, str [], .int .u64 0, .int .u64 0], .int .i64 2]) (by simp [results, Tryz.results117, go_sem, d0, d1, d2, d3]) rfl (Ret.mk rfl ((((HE3.out.setCell (.inr (by show w.heap.size <= w.heap.size + 1; omega)) _).setCell (.inr (by show w.heap.size <= w.heap.size + 1; omega)) _).setCell (.inr (by show w.heap.size <= w.heap.size + 1; omega)) _).setCell (.inr (by show w.heap.size <= w.heap.size + 1; omega)) _))
theorem eidOf_any (t : T) (hok : t.ok) (A : Option Addr) (c : Nat) (w : World) (h : IsL w (fun _ => True) t A) : Calls Tryz.prog 117 #[itemV t A c] w (Ret (.tuple #[(if ofB t then readE t else zeroE).v, .int .i64 (if ofB t then 0 else 2)]) w) := by
 by_cases ho : (readE t).ok = true
 .
  by_cases hs : (t.right 8 && t.same (eidT (readE t))) = true
  .
   have hb : ofB t = true := by unfold ofB; rw [ho, hs]; rfl
   rw [hb]; exact eidOf_yes t hok ho hs A c w h
  .
   have hs2 : (t.right 8 && t.same (eidT (readE t))) = false := by simpa using hs
   have hb : ofB t = false := by unfold ofB; rw [ho, hs2]; rfl
   rw [hb]; exact eidOf_no t hok ho hs2 A c w h
 .
  have ho2 : (readE t).ok = false := by simpa using ho
  have hb : ofB t = false := by unfold ofB; rw [ho2]; rfl
  rw [hb]; exact eidOf_bad t hok ho2 A c w h
end Go.Proofs.YthecmnbkjchjmaaGreat


namespace Go.Proofs.YthecmnbkjchjmaaGreat
open Go.RowKit Go.Shelf
set_option linter.unusedVariables false
set_option linter.unusedSimpArgs false

def hasNum (n : Int) (b : BV) : Bool := decide (b.num = n)
def numB (bs : Nat -> BV) (n : Int) (i : Nat) : Bool := hasNum n (bs i)
set_option maxRecDepth 20000 in
theorem IndexFuncB_any (A : Option Addr) (bs : Nat -> BV) (k c g : Nat) (lb : Array Value) (P : BV -> Bool) (eg : ∀ args w, (callFunc g args).run Tryz.prog w = .ok (.enter g args) w)
  (hk : k < 4611686018427387904) (w : World) (h : BsL w A k bs) (hp : Hid (∀ (W : World) (x : BV), Ext w W -> Calls Tryz.prog g (#[x.v] ++ lb) W (Ret (.bool (P x)) W))) :
  Calls Tryz.prog 98 #[.slice A k c, .func (.func g) #[] lb] w (Ret (.int .i64 (firstI (fun i => P (bs i)) k)) w) := by
 have HL := hid h
 have k1 : (k : Int) < 4611686018427387904 := by omega
 have HK := hid hk
 clear h hk
 obtain ⟨e0, he0⟩ := Later.self w
 go_enter Tryz.func98, Tryz.ntmps98
 go_wp2_with fail
 go_loopw [8] (fun s5 wr => ∃ i : Nat, s5 = .int .i64 (i : Int) /\ Hid (i <= k /\ ∀ j, j < i -> (fun i => P (bs i)) j = false) /\ ∃ e : Later w, wr = e.x) (fun s5 _ => k - (intOf s5).toNat)
 case atStart => exact ⟨0, rfl, (show Hid _ from ⟨by omega, fun j hj => by omega⟩), e0, (by first | exact he0 | rfl)⟩
 case round =>
  clear he0 e0
  obtain ⟨i, rfl, hi, e, rfl⟩ := hrel
  have i0 : (0 : Int) <= (i : Int) := by omega
  by_cases hlt : i < k
  .
   obtain ⟨b, o, rfl, hb, q0, q1, q2, q3, q4⟩ := HL.out.cells hlt
   have tc : decide (i < k) = true := by simp [hlt]
   have i1 : (i : Int) < (k : Int) := by omega
   have HLT := hid hlt
   clear hlt
   by_cases ht : (fun i => P (bs i)) i = true
   .
    have HF : Hid (firstI ((fun i => P (bs i))) k = (i : Int)) := by unfold Hid firstI; rw [firstOf_some HLT.out ht hi.out.2]
    have hcall : Calls Tryz.prog g (#[(bs i).v] ++ lb) e.x (Ret (.bool true) e.x) := by have := hp.out e.x (bs i) e.h; rw [show P (bs i) = true from ht] at this; exact this
    clear ht
    go_wp2_with (go_at_fn g; refine (Ret.later hcall).mono ?_; rintro x _ ⟨rfl, e3, rfl⟩)
    go_ret
    exact Ret.mk (by rw [HF.out]; rfl) e3.h
   .
    have HN : Hid ((fun i => P (bs i)) i = false) := by unfold Hid; simpa using ht
    have hcall : Calls Tryz.prog g (#[(bs i).v] ++ lb) e.x (Ret (.bool false) e.x) := by have := hp.out e.x (bs i) e.h; rw [show P (bs i) = false from HN.out] at this; exact this
    clear ht
    go_wp2_with (go_at_fn g; refine (Ret.later hcall).mono ?_; rintro x _ ⟨rfl, e3, rfl⟩)
    go_roundw
    case rel => exact ⟨i + 1, by go_num, (show Hid _ from ⟨HLT.out, fun j hj => by
     by_cases hji : j = i
     . subst hji; exact HN.out
     . exact hi.out.2 j (by omega)⟩), e3, rfl⟩
    case measure => have := HLT.out; simp [intOf]; omega
  .
   obtain rfl : i = k := by have := hi.out.1; omega
   have tc : decide (i < i) = false := by simp
   have HF : Hid (firstI ((fun i => P (bs i))) i = -1) := by unfold Hid firstI; rw [firstOf_none hi.out.2]
   go_wp2_with fail
   go_ret
   exact Ret.mk (by rw [HF.out]; rfl) (e.h)
set_option maxRecDepth 20000 in
theorem atCl_any (n : Int) (B : Nat) (w : World) (hB : B < w.heap.size) (c0 : w.cell? ⟨B, 0, none⟩ = some (.int .i64 n)) (W : World) (x : BV) (hb : Ext w W) : Calls Tryz.prog 99 (#[x.v] ++ #[.pointer (some ⟨B, 0, none⟩)]) W (Ret (.bool (hasNum n x)) W) := by
 have d0 : W.cell? ⟨B, 0, none⟩ = some (.int .i64 n) := (hb.cell hB (by simp)).trans c0
 have hBW : B < W.heap.size := Nat.lt_of_lt_of_le hB hb.size
 have hne : B ≠ W.heap.size := by omega
 clear c0
 show Calls Tryz.prog 99 #[.agg #[.int .i64 x.ty, .int .i64 x.num, .int .u64 (x.fl : Int), .int .i64 x.crc, str x.data], .pointer (some ⟨B, 0, none⟩)] W _
 go_enter Tryz.func99, Tryz.ntmps99
 go_wp2
 go_ret
 exact Ret.mk (by simp [hasNum]; rfl) ((Mod.refl _ _).alloc _)
theorem entersAC : ∀ args w, (callFunc 99 args).run Tryz.prog w = .ok (.enter 99 args) w := enters_of Tryz.func99 (by kernel_rfl) rfl
set_option maxRecDepth 20000 in
theorem at_any (p : PV) (bs : Nat -> BV) (k c : Nat) (A : Option Addr) (n : Int) (hk : k < 4611686018427387904) (w : World) (h : BsL w A k bs) : Calls Tryz.prog 83 #[bunV p A k c, .int .i64 n] w (Ret (.int .i64 (firstI (numB bs n) k)) w) := by
 have HE := hid (((Mod.refl [] w).alloc (.cells (bunC p A k c) 29)).alloc (.cells #[.int .i64 n] 3))
 have HB := hid ((Blk.new w 29 (bunC p A k c)).alloc (.cells #[.int .i64 n] 3))
 have HN : Hid (Blk ((w.alloc (.cells (bunC p A k c) 29)).alloc (.cells #[.int .i64 n] 3)) (w.heap.size + 1) 3 #[.int .i64 n]) := Blk.newL _ _ _ (by simp)
 have HL := hid (BsL.ext h HE.out)
 have HK := hid hk
 clear h hk
 go_enter Tryz.func83, Tryz.ntmps83
 go_upto_region 1 with fail
 generalize (w.alloc (.cells (bunC p A k c) 29)).alloc (.cells #[.int .i64 n] 3) = V at *
 have KI : Hid (Calls Tryz.prog 98 #[.slice A k c, .func (.func 99) #[] #[.pointer (some ⟨w.heap.size + 1, 0, none⟩)]] V (Ret (.int .i64 (firstI (numB bs n) k)) V)) :=
  IndexFuncB_any A bs k c 99 #[.pointer (some ⟨w.heap.size + 1, 0, none⟩)] (hasNum n) entersAC HK.out V HL.out (fun W x hb => atCl_any n (w.heap.size + 1) V HN.out.lt (HN.out.cell 0) W x hb)
 have b19 : V.cell? ⟨w.heap.size, 19, none⟩ = some (.slice A k c) := HB.out.cell 19
 go_wp2_with (go_at_call 98; refine KI.out.mono ?_; rintro x w2 ⟨rfl, hb2⟩)
 go_ret
 exact Ret.mk rfl (HE.out.trans hb2)
end Go.Proofs.YthecmnbkjchjmaaGreat


namespace Go.Proofs.YthecmnbkjchjmaaGreat
open Go.RowKit
set_option linter.unusedVariables false
set_option linter.unusedSimpArgs false

def cntGe (bs : Nat -> BV) (n : Int) : Nat -> Nat
 | 0 => 0
 | k + 1 => cntGe bs n k + (if n <= (bs k).num then 1 else 0)
theorem cntGe_le (bs : Nat -> BV) (n : Int) : ∀ k, cntGe bs n k <= k
 | 0 => Nat.le_refl _
 | k + 1 => by have := cntGe_le bs n k; rw [cntGe]; split <;> omega
theorem cntGe_mono (bs : Nat -> BV) (n : Int) : ∀ k, cntGe bs (n + 1) k <= cntGe bs n k
 | 0 => Nat.le_refl _
 | k + 1 => by
  have := cntGe_mono bs n k
  rw [cntGe, cntGe]
  split <;> split <;> omega
theorem cntGe_less {bs : Nat -> BV} {n : Int} {i : Nat} : ∀ {k : Nat}, i < k -> (bs i).num = n -> cntGe bs (n + 1) k + 1 <= cntGe bs n k
 | k + 1, h, hn => by
  rw [cntGe, cntGe]
  by_cases e : i = k
  .
   subst e
   have := cntGe_mono bs n i
   rw [if_neg (by omega), if_pos (by omega)]
   omega
  .
   have := cntGe_less (k := k) (by omega) hn
   split <;> split <;> omega
def usedB (bs : Nat -> BV) (k : Nat) (n : Nat) : Prop := ∃ i, firstOf (numB bs (n : Int)) k = some i
theorem free_ex (bs : Nat -> BV) (k : Nat) : ∀ (m n : Nat), cntGe bs (n : Int) k <= m -> ∃ N, n <= N /\ N <= n + m /\ firstOf (numB bs (N : Int)) k = none /\ ∀ j, n <= j -> j < N -> usedB bs k j
 | m, n, h => by
  cases hf : firstOf (numB bs (n : Int)) k with
  | none => exact ⟨n, Nat.le_refl _, by omega, hf, fun j h1 h2 => by omega⟩
  | some i =>
   obtain ⟨h1, h2, _⟩ := firstOf_spec hf
   have hn : (bs i).num = (n : Int) := by simpa [numB, hasNum] using h2
   have hl := cntGe_less h1 hn
   obtain ⟨m', rfl⟩ : ∃ m', m = m' + 1 := ⟨m - 1, by omega⟩
   have h3 : cntGe bs ((n + 1 : Nat) : Int) k <= m' := by
      have : ((n + 1 : Nat) : Int) = (n : Int) + 1 := by omega
      rw [this]; omega
   obtain ⟨N, a1, a2, a3, a4⟩ := free_ex bs k m' (n + 1) h3
   refine ⟨N, by omega, by omega, a3, fun j b1 b2 => ?_⟩
   by_cases e : j = n
   . subst e; exact ⟨i, hf⟩
   . exact a4 j (by omega) b2
noncomputable def freeN (bs : Nat -> BV) (k : Nat) : Nat := (free_ex bs k (cntGe bs ((2 : Nat) : Int) k) 2 (Nat.le_refl _)).choose
theorem freeN_spec (bs : Nat -> BV) (k : Nat) : 2 <= freeN bs k /\ freeN bs k <= 2 + k /\ firstOf (numB bs (freeN bs k : Int)) k = none /\ ∀ j, 2 <= j -> j < freeN bs k -> usedB bs k j := by
 obtain ⟨h1, h2, h3, h4⟩ := (free_ex bs k (cntGe bs ((2 : Nat) : Int) k) 2 (Nat.le_refl _)).choose_spec
 have := cntGe_le bs ((2 : Nat) : Int) k
 exact ⟨h1, Nat.le_trans h2 (by omega), h3, h4⟩
set_option maxRecDepth 20000 in
set_option maxHeartbeats 800000 in
theorem Free_any (p : PV) (bs : Nat -> BV) (k c : Nat) (A : Option Addr) (hk : k < 4611686018427387904) (w : World) (h : BsL w A k bs) : Calls Tryz.prog 63 #[bunV p A k c] w (Ret (.int .i64 (freeN bs k : Nat)) w) := by
 have HS := hid (freeN_spec bs k)
 have KA := hid (fun W n (hW : BsL W A k bs) => at_any p bs k c A n hk W hW)
 have n9 : ((freeN bs k : Nat) : Int) <= 4611686018427387910 := by have := HS.out.2.1; omega
 generalize freeN bs k = N at *
 have HE := hid ((Mod.refl [] w).alloc (.cells (bunC p A k c) 29))
 have HB0 : Hid (Blk (w.alloc (.cells (bunC p A k c) 29)) w.heap.size 29 (bunC p A k c)) := hid (Blk.new w 29 (bunC p A k c))
 have HL := hid (BsL.ext h HE.out)
 clear h hk
 go_enter Tryz.func63, Tryz.ntmps63
 go_upto_region 1 with fail
 generalize (w.alloc (.cells (bunC p A k c) 29)) = V at *
 obtain ⟨e, he⟩ := Later.self V
 rw [he]
 clear he
 go_upto_region 2 with fail
 go_loopw [3] (fun s3 wr => ∃ n : Nat, s3 = .int .i64 (n : Int) /\ Hid (2 <= n /\ n <= N) /\ ∃ e : Later V, wr = e.x) (fun s3 _ => N - (intOf s3).toNat)
 case atStart => exact ⟨2, rfl, (show Hid _ from ⟨by omega, HS.out.1⟩), e, rfl⟩
 case round =>
  clear e
  obtain ⟨n, rfl, hn, e, rfl⟩ := hrel
  have n0 : (0 : Int) <= (n : Int) := by omega
  have n1 : (n : Int) <= (N : Int) := by have := hn.out; omega
  by_cases hlt : n < N
  .
   obtain ⟨i, hi⟩ := HS.out.2.2.2 n hn.out.1 hlt
   have KB := hid (fun W hW => KA.out W (n : Int) hW)
   unfold firstI at KB
   rw [hi] at KB
   have HLT := hid hlt
   have i0 : (0 : Int) <= (i : Int) := by omega
   have i1 : decide ((i : Int) < 0) = false := by simp
   have i2 : ((i : Int) < 0) = False := eq_false (by omega)
   have i3 : decide ((0 : Int) <= (i : Int)) = true := decide_eq_true (by omega)
   have n2 : (n : Int) < (N : Int) := by omega
   clear hi hlt KA
   go_wp2_with (first | (refine wpList_row (by rfl) 29 _ rfl _ rfl (HB0.out.later _) Tryz.underlying29 rfl (by kernel_rfl) ?_) | (go_at_call 83; refine (Ret.later (KB.out _ (HL.out.ext (Later.h _)))).mono ?_; rintro x _ ⟨rfl, e, rfl⟩))
   go_roundw
   case rel => exact ⟨n + 1, by go_num, (show Hid _ from ⟨by have := hn.out.1; omega, HLT.out⟩), e, rfl⟩
   case measure => have := HLT.out; simp [intOf]; omega
  .
   obtain rfl : n = N := by have := hn.out.2; omega
   have KB := hid (fun W hW => KA.out W (n : Int) hW)
   unfold firstI at KB
   rw [HS.out.2.2.1] at KB
   clear KA hlt
   go_wp2_with (first | (refine wpList_row (by rfl) 29 _ rfl _ rfl (HB0.out.later _) Tryz.underlying29 rfl (by kernel_rfl) ?_) | (go_at_call 83; refine (Ret.later (KB.out _ (HL.out.ext (Later.h _)))).mono ?_; rintro x _ ⟨rfl, e, rfl⟩))
   go_ret
   exact Ret.mk rfl (HE.out.trans e.h)
end Go.Proofs.YthecmnbkjchjmaaGreat
