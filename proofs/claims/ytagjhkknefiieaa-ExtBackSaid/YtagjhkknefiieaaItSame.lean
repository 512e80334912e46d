/-
  The law ItemSame: its walk.
-/
import Derived.Test.YtagjhkknefiieaaItSm
import Derived.Test.YtagjhkknefiieaaItOpen
import Derived.Test.YtagjhkknefiieaaItMk
namespace Go.Proofs.Ytagjhkknefiieaa
open Go.RowKit
set_option linter.unusedVariables false

def t82 : T := T.mk 4 0 [] false 2 fun i => if i = 0 then numT 1 else strT [97]
theorem t82_build : buildV t82 = .tuple #[str [130, 1, 65, 97], .int .i64 0] := by
  have h1 : t82.right 8 = true := by decide
  have h2 : t82.bytes = [130, 1, 65, 97] := by decide
  rw [buildV, h1, h2]; rfl
theorem t82_ok : t82.ok := by
  unfold t82 T.ok
  refine ⟨by omega, by omega, by simp, by omega, fun i hi => ?_⟩
  dsimp only
  split
  · unfold numT T.ok; exact ⟨by omega, by omega, by simp, by omega, fun i hi => by omega⟩
  · unfold strT T.ok; exact ⟨by omega, by omega, by simp, by omega, fun i hi => by omega⟩
set_option maxRecDepth 20000 in
set_option maxHeartbeats 1600000 in
/-- The code's Same. -/
theorem Same_any (a b : T) (hoa : a.ok) (hob : b.ok) (A B : Option Addr) (c d : Nat) (w : World) (ha : IsL w (fun _ => True) a A) (hb : IsL w (fun _ => True) b B) :
    Calls Try.prog 57 #[itemV a A c, itemV b B d] w (Ret (.bool (a.right 8 && b.right 8 && a.same b)) w) := by
  have H := hid ha; have H' := hid hb; have HO := hid hoa; have HO' := hid hob
  have HBa : Hid (Blk ((w.alloc (.cells (itemC a A c) 63)).alloc (.cells (itemC b B d) 63)) w.heap.size 63 (itemC a A c)) := (Blk.new _ _ _).alloc _
  have HBb : Hid (Blk ((w.alloc (.cells (itemC a A c) 63)).alloc (.cells (itemC b B d) 63)) (w.heap.size + 1) 63 (itemC b B d)) := Blk.new' _ _ _ (by simp)
  have HE0 := hid (((Mod.refl [] w).alloc (.cells (itemC a A c) 63)).alloc (.cells (itemC b B d) 63))
  clear ha hb hoa hob
  go_enter Try.func57, Try.ntmps57
  go_wp2_with fail
  refine (iRight_any a HO.out A c _ (H.out.ext HE0.out)).mono ?_
  rintro e w2 ⟨rfl, hb2⟩
  have HE2 := hid (HE0.out.trans hb2)
  have hBa2 := HBa.out.ext hb2
  have hBb2 := HBb.out.ext hb2
  have ca0 : w2.cell? ⟨w.heap.size, 0, none⟩ = some (.int .i64 a.kind) := hBa2.cell 0
  have ca1 : w2.cell? ⟨w.heap.size, 1, none⟩ = some (.int .u64 (a.n : Int)) := hBa2.cell 1
  have ca2 : w2.cell? ⟨w.heap.size, 2, none⟩ = some (str a.s) := hBa2.cell 2
  have ca3 : w2.cell? ⟨w.heap.size, 3, none⟩ = some (.slice A a.k c) := hBa2.cell 3
  have ca4 : w2.cell? ⟨w.heap.size, 4, none⟩ = some (.bool a.op) := hBa2.cell 4
  have cb0 : w2.cell? ⟨w.heap.size + 1, 0, none⟩ = some (.int .i64 b.kind) := hBb2.cell 0
  have cb1 : w2.cell? ⟨w.heap.size + 1, 1, none⟩ = some (.int .u64 (b.n : Int)) := hBb2.cell 1
  have cb2 : w2.cell? ⟨w.heap.size + 1, 2, none⟩ = some (str b.s) := hBb2.cell 2
  have cb3 : w2.cell? ⟨w.heap.size + 1, 3, none⟩ = some (.slice B b.k d) := hBb2.cell 3
  have cb4 : w2.cell? ⟨w.heap.size + 1, 4, none⟩ = some (.bool b.op) := hBb2.cell 4
  have HA2 := hid hBa2; have HB2 := hid hBb2
  clear hBa2 hBb2 hb2
  cases hr : a.right 8
  · have HR := hid hr
    clear hr
    go_wp2_with fail
    go_ret
    exact Ret.mk (by simp [show a.right 8 = false from HR.out]) HE2.out
  · have HR := hid hr
    clear hr
    go_wp2_with fail
    refine (iRight_any b HO'.out B d _ (H'.out.ext HE2.out)).mono ?_
    rintro e w3 ⟨rfl, hb3⟩
    have HE3 := hid (HE2.out.trans hb3)
    have hBa2 := HA2.out.ext hb3
    have hBb2 := HB2.out.ext hb3
    clear ca0 ca1 ca2 ca3 ca4 cb0 cb1 cb2 cb3 cb4
    have ca0 : w3.cell? ⟨w.heap.size, 0, none⟩ = some (.int .i64 a.kind) := hBa2.cell 0
    have ca1 : w3.cell? ⟨w.heap.size, 1, none⟩ = some (.int .u64 (a.n : Int)) := hBa2.cell 1
    have ca2 : w3.cell? ⟨w.heap.size, 2, none⟩ = some (str a.s) := hBa2.cell 2
    have ca3 : w3.cell? ⟨w.heap.size, 3, none⟩ = some (.slice A a.k c) := hBa2.cell 3
    have ca4 : w3.cell? ⟨w.heap.size, 4, none⟩ = some (.bool a.op) := hBa2.cell 4
    have cb0 : w3.cell? ⟨w.heap.size + 1, 0, none⟩ = some (.int .i64 b.kind) := hBb2.cell 0
    have cb1 : w3.cell? ⟨w.heap.size + 1, 1, none⟩ = some (.int .u64 (b.n : Int)) := hBb2.cell 1
    have cb2 : w3.cell? ⟨w.heap.size + 1, 2, none⟩ = some (str b.s) := hBb2.cell 2
    have cb3 : w3.cell? ⟨w.heap.size + 1, 3, none⟩ = some (.slice B b.k d) := hBb2.cell 3
    have cb4 : w3.cell? ⟨w.heap.size + 1, 4, none⟩ = some (.bool b.op) := hBb2.cell 4
    clear hBa2 hBb2 hb3
    cases hr : b.right 8
    · have HR2 := hid hr
      clear hr
      go_wp2_with fail
      go_ret
      exact Ret.mk (by simp [show b.right 8 = false from HR2.out]) HE3.out
    · have HR2 := hid hr
      clear hr
      go_wp2_with fail
      refine (same_any a b HO.out HO'.out A c B d _ (H.out.ext HE3.out) (H'.out.ext HE3.out)).mono ?_
      rintro e w4 ⟨rfl, hb4⟩
      go_wp2_with fail
      go_ret
      exact Ret.mk (by simp [show a.right 8 = true from HR.out, show b.right 8 = true from HR2.out]) (HE3.out.trans hb4)

theorem same_law {a b : T} (hoa : a.ok) (hob : b.ok) (hra : a.right 8 = true) (hrb : b.right 8 = true) : a.same b = decide (a.bytes = b.bytes) := by
  have pa : a.plain = true := by rw [T.right_eq] at hra; simp at hra; exact hra.2
  have pb : b.plain = true := by rw [T.right_eq] at hrb; simp at hrb; exact hrb.2
  rw [Bool.eq_iff_iff, decide_eq_true_iff]
  exact ⟨T.same_bytes a b hob, fun h => (T.bytes_inj a b pa pb hoa hob [] [] (by rw [h])).1⟩

/-- The two arguments' blocks in a later world. -/
structure Two (W : World) (g : Nat) (a b : T) (A B : Option Addr) (c d : Nat) : Prop where
  a0 : W.cell? ⟨g, 0, none⟩ = some (.int .i64 a.kind)
  a1 : W.cell? ⟨g, 1, none⟩ = some (.int .u64 (a.n : Int))
  a2 : W.cell? ⟨g, 2, none⟩ = some (str a.s)
  a3 : W.cell? ⟨g, 3, none⟩ = some (.slice A a.k c)
  a4 : W.cell? ⟨g, 4, none⟩ = some (.bool a.op)
  b0 : W.cell? ⟨g + 1, 0, none⟩ = some (.int .i64 b.kind)
  b1 : W.cell? ⟨g + 1, 1, none⟩ = some (.int .u64 (b.n : Int))
  b2 : W.cell? ⟨g + 1, 2, none⟩ = some (str b.s)
  b3 : W.cell? ⟨g + 1, 3, none⟩ = some (.slice B b.k d)
  b4 : W.cell? ⟨g + 1, 4, none⟩ = some (.bool b.op)
theorem Two.new (w : World) (a b : T) (A B : Option Addr) (c d : Nat) : Hid (∀ W, Ext ((w.alloc (.cells (itemC a A c) 63)).alloc (.cells (itemC b B d) 63)) W → Two W w.heap.size a b A B c d) := fun W hW => by
  have h1 : Blk W w.heap.size 63 (itemC a A c) := ((Blk.new _ _ _).alloc _).ext hW
  have h2 : Blk W (w.heap.size + 1) 63 (itemC b B d) := (Blk.new' _ _ _ (by simp)).ext hW
  exact ⟨h1.cell 0, h1.cell 1, h1.cell 2, h1.cell 3, h1.cell 4, h2.cell 0, h2.cell 1, h2.cell 2, h2.cell 3, h2.cell 4⟩

end Go.Proofs.Ytagjhkknefiieaa
