/-
  The parser of items: its small methods.
-/
import Derived.Test.YtagjhkknefiieaaRdOps
import Derived.Test.YtagjhkknefiieaaOpen
import Derived.Test.YtagjhkknefiieaaPsPlain
import Derived.Test.YtagjhkknefiieaaItMem
namespace Go.Proofs.Ytagjhkknefiieaa
open Go.RowKit
set_option linter.unusedVariables false

/-- A parser behind a pointer: its bytes, its place, its error. -/
def PAt (w : World) (g : Nat) (l : List UInt8) (p : Nat) (e : Int) : Prop := Blk w g 109 #[str l, .int .i64 (p : Int), .int .i64 e]
section
variable {w : World} {g : Nat} {l : List UInt8} {p : Nat} {x : Int}
theorem PAt.b (h : PAt w g l p x) : w.cell? ⟨g, 0, none⟩ = some (str l) := Blk.cell h 0
theorem PAt.at_ (h : PAt w g l p x) : w.cell? ⟨g, 1, none⟩ = some (.int .i64 (p : Int)) := Blk.cell h 1
theorem PAt.err (h : PAt w g l p x) : w.cell? ⟨g, 2, none⟩ = some (.int .i64 x) := Blk.cell h 2
theorem PAt.froz (h : PAt w g l p x) (i : Nat) : w.frozen? ⟨g, i, none⟩ = false := Blk.frozen h i
end

theorem head_255 {t : List UInt8} : t.head? = some 255 ↔ ∃ v, t = 255 :: v := by
  cases t with
  | nil => simp
  | cons x v => simp
theorem new_break (t : List UInt8) : (decide (((RS.new t).Head.2.1 : Int) = 7) && (RS.new t).Head.2.2.2) = decide (t.head? = some 255) := by
  cases hr : readH t with
  | none =>
    rw [RS.Head_none (r := RS.new t) rfl hr]
    have : ¬ t.head? = some 255 := fun h => by
      obtain ⟨v, rfl⟩ := head_255.1 h
      rw [T.readH_break] at hr; cases hr
    rw [decide_eq_false this]
    rfl
  | some x =>
    obtain ⟨sz, m, n, o⟩ := x
    rw [RS.Head_some (r := RS.new t) rfl hr]
    have h := readH_255 hr
    rw [Bool.eq_iff_iff, Bool.and_eq_true, decide_eq_true_iff, decide_eq_true_iff, head_255, ← h]
    constructor
    · rintro ⟨a, b⟩; exact ⟨by have : (m : Int) = 7 := a; omega, b⟩
    · rintro ⟨a, b⟩; subst a; exact ⟨rfl, b⟩
theorem new_break2 (l : List UInt8) (p : Nat) : (decide (((RS.new (l.drop p)).Head.2.1 : Int) = 7) && (RS.new (l.drop p)).Head.2.2.2) = decide (l[p]? = some 255) := by
  rw [new_break, Bool.eq_iff_iff, decide_eq_true_iff, decide_eq_true_iff, List.head?_drop]

/-- No item. -/
def nulT : T := T.mk 0 0 [] false 0 fun _ => T.nil

set_option maxRecDepth 20000 in
set_option maxHeartbeats 400000 in
theorem pfail_any (g : Nat) (l : List UInt8) (p q : Nat) (e : Int) (w : World) (h : PAt w g l p 0) :
    Calls Try.prog 65 #[.pointer (some ⟨g, 0, none⟩), .int .i64 (q : Int), .int .i64 e] w (RetS [g] (itemV nulT none 0) (fun w' => PAt w' g l q e) w) := by
  have c1 := h.at_
  have c2 := h.err
  have f1 := h.froz 1
  have f2 := h.froz 2
  have hg : g < w.heap.size := Blk.lt h
  have H := hid h
  clear h
  go_enter Try.func65, Try.ntmps65
  go_wp2
  refine bodyPost_ret (v := itemV nulT none 0) (by simp [results, Try.results65, go_sem]; exact ⟨rfl, rfl, rfl, rfl, rfl⟩) rfl (RetS.mk rfl ?_ ?_)
  · exact ((((Mod.refl _ _).setCell (.inl (by simp)) _).setCell (.inl (by simp)) _).alloc _)
  · exact Blk.alloc (Blk.set_ (Blk.set_ H.out 1 (.int .i64 (q : Int))) 2 (.int .i64 e)) _

set_option maxRecDepth 20000 in
set_option maxHeartbeats 400000 in
theorem preader_any (g : Nat) (l : List UInt8) (p : Nat) (e : Int) (hp : Hid (p ≤ l.length ∧ l.length ≤ 1073741824)) (w : World) (h : PAt w g l p e) :
    Calls Try.prog 76 #[.pointer (some ⟨g, 0, none⟩)] w fun x w' => x = .returned (.pointer (some ⟨w.heap.size, 0, none⟩)) ∧ Ext w w' ∧ RdAt w' w.heap.size (RS.new (l.drop p)) := by
  have c0 := h.b
  have c1 := h.at_
  have hp0 : (0 : Int) ≤ (p : Int) := by omega
  have hp1 : (p : Int) ≤ (l.length : Int) := by have := hp.out; omega
  have hl1 : (l.length : Int) ≤ 1073741824 := by have := hp.out; omega
  go_enter Try.func76, Try.ntmps76
  go_upto_region 1 with fail
  go_region_held3 (fun w' => w'.cell? ⟨g, 0, none⟩ = some (str l) ∧ w'.cell? ⟨g, 1, none⟩ = some (.int .i64 (p : Int))) (go_keep)
    ((go_at_call 90; rw [extract_rest]; refine (newReader_any (l.drop p) _).mono ?_; rintro x w' ⟨rfl, rfl⟩))
  all_goals go_wp2_with fail
  all_goals go_ret
  all_goals exact ⟨rfl, by first | exact ((Mod.refl _ _).alloc _) | exact ((Mod.refl _ _).alloc _).drew | exact ((Mod.refl _ _).drew.alloc _).drew | exact ((Mod.refl _ _).drew.alloc _), Blk.new _ _ _⟩

set_option maxRecDepth 20000 in
set_option maxHeartbeats 400000 in
theorem broken_any (g : Nat) (l : List UInt8) (p : Nat) (e : Int) (hp : Hid (p ≤ l.length ∧ l.length ≤ 1073741824)) (w : World) (h : PAt w g l p e) :
    Calls Try.prog 95 #[.pointer (some ⟨g, 0, none⟩)] w (Ret (.bool (decide (l[p]? = some 255))) w) := by
  have hr : Hid (RS.ok (RS.new (l.drop p))) := RS.new_ok (by have := hp.out; rw [List.length_drop]; omega)
  go_enter Try.func95, Try.ntmps95
  go_wp2_with fail
  refine (preader_any g l p e hp _ h).mono ?_
  rintro x w1 ⟨rfl, hb1, hr1⟩
  go_wp2_with fail
  refine (Head_any_r _ _ hr.out _ hr1).mono ?_
  rintro x w2 ⟨rfl, hm2, hr2⟩
  have HB := hid (new_break2 l p)
  generalize (RS.new (List.drop p l)).Head.2.2.2 = o at *
  generalize (RS.new (List.drop p l)).Head.2.1 = m at *
  have hz : Ext w w2 := Mod.new (S := [w.heap.size]) ((hb1.of_ext).trans hm2) (fun k hk => by rw [List.mem_singleton] at hk; subst hk; exact .inr (Nat.le_refl _))
  go_wp2_with fail
  · rename_i h7
    go_ret
    refine Ret.mk ?_ hz
    rw [← HB.out]; simp [h7]
  · rename_i h7
    go_ret
    refine Ret.mk ?_ hz
    rw [← HB.out]; simp [h7]
end Go.Proofs.Ytagjhkknefiieaa
