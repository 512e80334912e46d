/-
  Regions that draw their order, whose operations read and whose callees turn nothing that was there: walked once, in the order of the text.
-/
import Derived.Test.YtagjhkknefiieaaBase
import Derived.Laws.Rows
import Derived.Deep.Quiet
namespace Go.Proofs.Ytagjhkknefiieaa
open Go.RowKit
set_option linter.unusedVariables false

section
variable {P : Program} {ops : Array Oper} {C : World → Prop} {rest : List Oper} {o : Oper} {a : Act} {w : World}
/-- A drawn region, walked once: the class of worlds is 'nothing that was there has turned'. -/
theorem wp_region_ext {id : Nat} {Q : Exit → Act → World → Prop} {l : List Oper} (hm : P.follows .mixedOrders = true) (hB : Region.lexB .any l.toArray = true)
    (h : wpQuiet P l.toArray (Ext w) (fun a' => ∀ w', Ext w w' → Q .normal a' w') l a) : (Code.region id l.toArray true).wp P Q a w :=
  wp_region_quiet (C := Ext w) hm hB ((Mod.refl [] w).drew) (by simpa using h)
theorem q_skip {Q : Act → Prop} (hw : Region.wanted o (yielded ops a.tmps) = false) (h : wpQuiet P ops C Q rest (a.put o.dst undef)) : wpQuiet P ops C Q (o :: rest) a :=
  wpQuiet_step fun K hK => by rw [if_neg (by rw [hw]; exact Bool.false_ne_true)]; exact hK _ h
/-- A struct or array is loaded out of a block that is known whole. -/
theorem q_row {Q : Act → Prop} (hw : Region.wanted o (yielded ops a.tmps) = true) (ty : TypeId) (x : Operand) (ho : o.op = .load ty x) (g : Nat) (hx : a.eval x = .pointer (some ⟨g, 0, none⟩))
    {t : TypeId} {cs : Array Value} {d : TypeDesc} (hg : ∀ w, C w → Blk w g t cs) (hu : P.underlying ty = some d) (hd : (match d with | .struct _ | .array _ _ => true | _ => false) = true)
    (hi : (P.info? ty).map (·.size) = some cs.size) (h : wpQuiet P ops C Q rest (a.put o.dst (.agg cs))) : wpQuiet P ops C Q (o :: rest) a :=
  wpQuiet_step fun K hK => by
    rw [if_pos hw]
    refine ⟨.agg cs, fun w hw' => ?_, hK _ h⟩
    unfold Oper.quietAt execOp
    simp only [ho, hx, Instr.loadAt, Instr.sureAddr, Sem.run_bind, Sem.run_pure, Result.andThen_ok, run_loadVar_row w g t ty cs (0, 0) d (hg w hw') hu hd hi]
    exact ⟨rfl, rfl⟩
/-- A number, a string, a pointer is loaded out of a cell. -/
theorem q_load {Q : Act → Prop} (hw : Region.wanted o (yielded ops a.tmps) = true) (ty : TypeId) (x : Operand) (ho : o.op = .load ty x) (p : Addr) (hx : a.eval x = .pointer (some p))
    {v : Value} {d : TypeDesc} (hc : ∀ w, C w → w.cell? p = some v) (hu : P.underlying ty = some d) (hd : (match d with | .struct _ | .array _ _ => true | _ => false) = false)
    (h : wpQuiet P ops C Q rest (a.put o.dst v)) : wpQuiet P ops C Q (o :: rest) a :=
  wpQuiet_step fun K hK => by
    rw [if_pos hw]
    refine ⟨v, fun w hw' => ?_, hK _ h⟩
    have hagg : (isAgg ty).run P w = .ok false w := by
      unfold isAgg
      rw [Sem.run_bind, run_underlying hu w]
      cases d <;> simp_all
    have hl : (loadVar ty p).run P w = .ok v w := by
      simp [loadVar, Sem.run_bind, hagg, hc w hw']
    unfold Oper.quietAt execOp
    simp only [ho, hx, Instr.loadAt, Instr.sureAddr, Sem.run_bind, Sem.run_pure, Result.andThen_ok, hl]
    exact ⟨rfl, rfl⟩
/-- Two strings become one. -/
theorem q_cat {Q : Act → Prop} (hw : Region.wanted o (yielded ops a.tmps) = true) (ty t2 : TypeId) (x y : Operand) (ho : o.op = .binOp .add ty x y t2) (l1 l2 : List UInt8) (hx : a.eval x = str l1) (hy : a.eval y = str l2)
    (hl : l1.length + l2.length ≤ 9223372036854775807) (h : wpQuiet P ops C Q rest (a.put o.dst (str (l1 ++ l2)))) : wpQuiet P ops C Q (o :: rest) a :=
  wpQuiet_step fun K hK => by
    rw [if_pos hw]
    refine ⟨str (l1 ++ l2), fun w hw' => ?_, hK _ h⟩
    have hl' : ¬ 9223372036854775807 < l1.length + l2.length := by omega
    unfold Oper.quietAt execOp
    simp only [ho, hx, hy]
    simp [go_sem, hl']
    rw [ByteArray.mk_append_mk]
/-- A struct or array is loaded out of a block that is known whole, in a plain region. -/
theorem wpList_row {Q : Exit → Act → World → Prop} (hw : Region.wanted o (yielded ops a.tmps) = true) (ty : TypeId) (x : Operand) (ho : o.op = .load ty x)
    (g : Nat) (hx : a.eval x = .pointer (some ⟨g, 0, none⟩)) {t : TypeId} {cs : Array Value} {d : TypeDesc} (hg : Blk w g t cs)
    (hu : P.underlying ty = some d) (hd : (match d with | .struct _ | .array _ _ => true | _ => false) = true) (hi : (P.info? ty).map (·.size) = some cs.size)
    (h : wpList P ops Q rest (a.put o.dst (.agg cs)) w) : wpList P ops Q (o :: rest) a w :=
  wpList_step fun K hK => by rw [if_pos hw]; exact wp_load_row ty x ho g hx t cs (0, 0) d hg hu hd hi (hK _ _ h)
theorem Ret.ext {f : FuncId} {args : Array Value} {v : Value} {w W : World} (h : Calls P f args W (Ret v W)) (hW : Ext w W) : Calls P f args W (fun e w'' => e = .returned v ∧ Ext w w'') :=
  h.mono fun _ _ hh => ⟨hh.1, hW.trans hh.2⟩
end
end Go.Proofs.Ytagjhkknefiieaa
