/-
 Blocks, plainly: why one is not right; its header.
-/
import Derived.Test.YthecmnbkjchjmaaGreatMExtAgesab
import Derived.Test.YthecmnbkjchjmaaGreatMExtAgesac
import Derived.Laws.Rows
import Derived.Deep.Quiet
import Derived.Deep.MidRow
import Derived.Deep.RegionHeld3
import Derived.Laws.OwnMore
import Derived.OwnWalk
import Derived.OneCell
import Derived.Lib.SliceRun
import Derived.Deep.Slices
import Derived.Deep.Fields
import Derived.ChangeSame
import Derived.SizedLaws
import Derived.OpenShut

namespace Go.Proofs.YthecmnbkjchjmaaGreat
set_option linter.unusedVariables false
set_option linter.unusedSimpArgs false

structure BV where
 ty : Int
 num : Int
 fl : Nat
 crc : Int
 data : List UInt8
def BV.right (b : BV) : Int :=
 if b.ty < 1 \/ 65535 < b.ty \/ b.num < 1 \/ 65535 < b.num \/ 255 < b.fl \/ b.crc < 0 \/ 2 < b.crc then 1 else if 4000 < b.data.length then 4
 else if (b.ty = 1 /\ b.num ≠ 1) \/ (b.ty ≠ 1 /\ b.num = 1) then 8 else 0
def BV.hdr (b : BV) : List UInt8 := headL 0 b.ty.toNat ++ headL 0 b.num.toNat ++ headL 0 b.fl

theorem BV.right_zero {b : BV} (h : b.right = 0) : 1 <= b.ty /\ b.ty <= 65535 /\ 1 <= b.num /\ b.num <= 65535 /\ b.fl <= 255 /\ 0 <= b.crc /\ b.crc <= 2 /\ b.data.length <= 4000 /\ (b.ty = 1 ↔ b.num = 1) := by
 unfold BV.right at h
 split at h
 . omega
 .
  split at h
  . omega
  .
   split at h
   . omega
   . omega
end Go.Proofs.YthecmnbkjchjmaaGreat


namespace Go.Proofs.YthecmnbkjchjmaaGreat
set_option linter.unusedVariables false
set_option linter.unusedSimpArgs false

structure PV where
 fl : Nat
 crc : Int
 d : EV
 s : EV
 r : EV
 t : Nat
 q : Nat
 l : Nat
 o : Nat
 n : Nat
def firstOf (p : Nat -> Bool) : Nat -> Option Nat
 | 0 => none
 | k + 1 => match firstOf p k with | some i => some i | none => if p k then some k else none
theorem firstOf_none {p : Nat -> Bool} {k : Nat} (hj : ∀ j, j < k -> p j = false) : firstOf p k = none := by
 induction k with
 | zero => rfl
 | succ k ih => rw [firstOf, ih (fun j h => hj j (by omega)), hj k (by omega)]; rfl
theorem firstOf_some {p : Nat -> Bool} {k i : Nat} (hi : i < k) (h : p i = true) (hj : ∀ j, j < i -> p j = false) : firstOf p k = some i := by
 induction k with
 | zero => omega
 | succ k ih =>
  rw [firstOf]
  by_cases e : i = k
  .
   subst e
   rw [firstOf_none hj, h]; rfl
  . rw [ih (by omega)]
theorem firstOf_no {p : Nat -> Bool} {k : Nat} (h : firstOf p k = none) : ∀ j, j < k -> p j = false := by
 induction k with
 | zero => intro j hj; omega
 | succ k ih =>
  rw [firstOf] at h
  cases hf : firstOf p k with
  | some x => rw [hf] at h; cases h
  | none =>
   rw [hf] at h
   intro j hj
   by_cases e : j = k
   .
    subst e
    cases hp : p j with
    | false => rfl
    | true => simp [hp] at h
   . exact ih hf j (by omega)
theorem firstOf_spec {p : Nat -> Bool} {k i : Nat} (h : firstOf p k = some i) : i < k /\ p i = true /\ ∀ j, j < i -> p j = false := by
 induction k with
 | zero => cases h
 | succ k ih =>
  rw [firstOf] at h
  cases hf : firstOf p k with
  | some x =>
   rw [hf] at h
   simp only [Option.some.injEq] at h
   subst h
   have := ih hf
   exact ⟨by omega, this.2.1, this.2.2⟩
  | none =>
   rw [hf] at h
   cases hk : p k with
   | true =>
    simp only [hk, if_true, Option.some.injEq] at h
    subst h
    exact ⟨by omega, hk, fun j hj => firstOf_no hf j hj⟩
   | false => simp [hk] at h
def firstI (p : Nat -> Bool) (k : Nat) : Int := match firstOf p k with | some i => (i : Int) | none => -1
end Go.Proofs.YthecmnbkjchjmaaGreat


namespace Go.Proofs.YthecmnbkjchjmaaGreat
open Go.RowKit
set_option linter.unusedVariables false
set_option linter.unusedSimpArgs false

section
variable {P : Program} {ops : Array Oper} {C : World -> Prop} {rest : List Oper} {o : Oper} {a : Act} {w : World}
theorem q_cat {Q : Act -> Prop} (hw : Region.wanted o (yielded ops a.tmps) = true) (ty t2 : TypeId) (x y : Operand) (ho : o.op = .binOp .add ty x y t2) (l1 l2 : List UInt8) (hx : a.eval x = str l1) (hy : a.eval y = str l2)
  (hl : l1.length + l2.length <= 9223372036854775807) (h : wpQuiet P ops C Q rest (a.put o.dst (str (l1 ++ l2)))) : wpQuiet P ops C Q (o :: rest) a :=
 wpQuiet_step fun K hK => by
  rw [if_pos hw]
  refine ⟨str (l1 ++ l2), fun w hw' => ?_, hK _ h⟩
  have hl' : ¬ 9223372036854775807 < l1.length + l2.length := by omega
  unfold Oper.quietAt execOp
  simp only [ho, hx, hy]
  simp [go_sem, hl']
  rw [ByteArray.mk_append_mk]
theorem wpList_row {Q : Exit -> Act -> World -> Prop} (hw : Region.wanted o (yielded ops a.tmps) = true) (ty : TypeId) (x : Operand) (ho : o.op = .load ty x)
  (g : Nat) (hx : a.eval x = .pointer (some ⟨g, 0, none⟩)) {t : TypeId} {cs : Array Value} {d : TypeDesc} (hg : Blk w g t cs)
  (hu : P.underlying ty = some d) (hd : (match d with | .struct _ | .array _ _ => true | _ => false) = true) (hi : (P.info? ty).map (·.size) = some cs.size)
  (h : wpList P ops Q rest (a.put o.dst (.agg cs)) w) : wpList P ops Q (o :: rest) a w :=
 wpList_step fun K hK => by rw [if_pos hw]; exact wp_load_row ty x ho g hx t cs (0, 0) d hg hu hd hi (hK _ _ h)
theorem Ret.ext {f : FuncId} {args : Array Value} {v : Value} {w W : World} (h : Calls P f args W (Ret v W)) (hW : Ext w W) : Calls P f args W (fun e w'' => e = .returned v /\ Ext w w'') :=
 h.mono fun _ _ hh => ⟨hh.1, hW.trans hh.2⟩
end
end Go.Proofs.YthecmnbkjchjmaaGreat


namespace Go.Proofs.YthecmnbkjchjmaaGreat
open Go.RowKit
set_option linter.unusedVariables false
set_option linter.unusedSimpArgs false

structure Later (w : World) where
 x : World
 h : Ext w x
instance (w : World) : Nonempty (Later w) := ⟨⟨w, Mod.refl _ _⟩⟩
section
variable {P : Program} {w : World}
theorem Later.self (w : World) : ∃ e : Later w, w = e.x := ⟨⟨w, Mod.refl _ _⟩, rfl⟩
theorem Later.go (e : Later w) {y : World} (h : Ext e.x y) : ∃ e' : Later w, y = e'.x := ⟨⟨y, e.h.trans h⟩, rfl⟩
theorem Ret.later {e : Later w} {f : FuncId} {args : Array Value} {v : Value} (h : Calls P f args e.x (Ret v e.x)) : Calls P f args e.x (fun r w' => r = .returned v /\ ∃ e' : Later w, w' = e'.x) :=
 h.mono fun _ _ hh => ⟨hh.1, e.go hh.2⟩
theorem Ret.laterW {W : World} (hW : Ext w W) {f : FuncId} {args : Array Value} {v : Value} (h : Calls P f args W (Ret v W)) : Calls P f args W (fun r w' => r = .returned v /\ ∃ e' : Later w, w' = e'.x) :=
 h.mono fun _ _ hh => ⟨hh.1, ⟨_, hW.trans hh.2⟩, rfl⟩
theorem Blk.later {g : Nat} {t : TypeId} {cs : Array Value} (h : Blk w g t cs) (e : Later w) : Blk e.x g t cs := h.ext e.h
theorem Blk.cellL {g : Nat} {t : TypeId} {cs : Array Value} (h : Blk w g t cs) (i : Nat) {v : Value} (hv : cs[i]? = some v) (e : Later w) : e.x.cell? ⟨g, i, none⟩ = some v := ((h.later e).cell i).trans hv
theorem Blk.newL (w : World) (t : TypeId) (cs : Array Value) {N : Nat} (h : w.heap.size = N) : Blk (w.alloc (.cells cs t)) N t cs := h ▸ Blk.new w t cs
theorem cellL {b o : Nat} {v : Value} (h : w.cell? ⟨b, o, none⟩ = some v) (e : Later w) : e.x.cell? ⟨b, o, none⟩ = some v := by
 have hb : b < w.heap.size := by
  rcases Nat.lt_or_ge b w.heap.size with hlt | hge
  . exact hlt
  . simp [World.cell?, Array.getElem?_eq_none hge] at h
 exact (e.h.cell hb (by simp)).trans h
theorem wp_region_later {e : Later w} {id : Nat} {Q : Exit -> Act -> World -> Prop} {a : Act} {l : List Oper} (hm : P.follows .mixedOrders = true) (hB : Region.lexB .any l.toArray = true)
  (h : wpQuiet P l.toArray (fun w' => ∃ e : Later w, w' = e.x) (fun a' => ∀ w', (∃ e : Later w, w' = e.x) -> Q .normal a' w') l a) : (Code.region id l.toArray true).wp P Q a e.x :=
 wp_region_quiet (C := fun w' => ∃ e : Later w, w' = e.x) hm hB ⟨⟨_, e.h.drew⟩, rfl⟩ (by simpa using h)
theorem wpList_mid {ops : Array Oper} {rest : List Oper} {op : Oper} {a : Act} {W : World} {Q : Exit -> Act -> World -> Prop} (hw : Region.wanted op (yielded ops a.tmps) = true) (ty : TypeId) (x : Operand) (ho : op.op = .load ty x)
  (b o : Nat) (hx : a.eval x = .pointer (some ⟨b, o, none⟩)) (cs : List Value) (d : TypeDesc) (hc : W.rangeAt b o cs)
  (hu : P.underlying ty = some d) (hd : d.isRow = true) (hi : (P.info? ty).map (·.size) = some cs.length)
  (h : wpList P ops Q rest (a.put op.dst (.agg cs.toArray)) W) : wpList P ops Q (op :: rest) a W :=
 wpList_step fun K hK => by rw [if_pos hw]; exact wp_load_mid ty x ho b o hx cs d hc hu hd hi (hK _ _ h)
theorem Blk.range {g : Nat} {t : TypeId} {cs : Array Value} (h : Blk w g t cs) (o n : Nat) {l : List Value} (hl : (cs.extract o (o + n)).toList = l) (e : Later w) : e.x.rangeAt g o l := hl ▸ World.rangeAt_of_block (h.later e) o n
theorem yieldsIf_row {ops : Array Oper} {S : World -> Prop} {op : Oper} {a : Act} (hw : Region.wanted op (yielded ops a.tmps) = true) (ty : TypeId) (x : Operand) (ho : op.op = .load ty x) (g : Nat) (hx : a.eval x = .pointer (some ⟨g, 0, none⟩))
  {t : TypeId} {cs : Array Value} {d : TypeDesc} (hS : ∀ w, S w -> Blk w g t cs) (hu : P.underlying ty = some d) (hd : (match d with | .struct _ | .array _ _ => true | _ => false) = true)
  (hi : (P.info? ty).map (·.size) = some cs.size) : YieldsIf P ops S op (.agg cs) a :=
 .inl ⟨hw, fun w hw' => by
  unfold execOp
  simp only [ho, hx, Instr.loadAt, Instr.sureAddr, Sem.run_bind, Sem.run_pure, Result.andThen_ok, run_loadVar_row w g t ty cs (0, 0) d (hS w hw') hu hd hi]⟩
theorem yieldsIf_cat {ops : Array Oper} {S : World -> Prop} {o : Oper} {a : Act} (hw : Region.wanted o (yielded ops a.tmps) = true) (ty t2 : TypeId) (x y : Operand) (ho : o.op = .binOp .add ty x y t2) (l1 l2 : List UInt8) (hx : a.eval x = str l1) (hy : a.eval y = str l2)
  (hl : l1.length + l2.length <= 9223372036854775807) : YieldsIf P ops S o (str (l1 ++ l2)) a :=
 .inl ⟨hw, fun w hw' => by
  have hl' : ¬ 9223372036854775807 < l1.length + l2.length := by omega
  unfold execOp
  simp only [ho, hx, hy]
  simp [go_sem, hl']
  rw [ByteArray.mk_append_mk]⟩
end
end Go.Proofs.YthecmnbkjchjmaaGreat


namespace Go.Proofs.YthecmnbkjchjmaaGreat
open Go.RowKit
set_option linter.unusedVariables false
set_option linter.unusedSimpArgs false

def set5 (W : World) (b : Nat) (t : T) (A : Option Addr) (c : Nat) : World := ((((W.setCell ⟨b, 0, none⟩ (.int .i64 t.kind)).setCell ⟨b, 1, none⟩ (.int .u64 (t.n : Int))).setCell ⟨b, 2, none⟩ (str t.s)).setCell ⟨b, 3, none⟩ (.slice A t.k c)).setCell ⟨b, 4, none⟩ (.bool t.op)
section
variable {W : World} {b : Nat} {t0 t : T} {A0 A : Option Addr} {c0 c : Nat}
theorem set5_blk (h : Blk W b 86 (itemC t0 A0 c0)) : Blk (set5 W b t A c) b 86 (itemC t A c) := by
 have := ((((h.set_ 0 (.int .i64 t.kind)).set_ 1 (.int .u64 (t.n : Int))).set_ 2 (str t.s)).set_ 3 (.slice A t.k c)).set_ 4 (.bool t.op)
 unfold set5
 simpa [itemC] using this
theorem set5_mod {w : World} {S : List Nat} (h : Mod S w W) (hb : w.heap.size <= b) : Mod S w (set5 W b t A c) :=
 ((((h.setCell (.inr hb) _).setCell (.inr hb) _).setCell (.inr hb) _).setCell (.inr hb) _).setCell (.inr hb) _
theorem set5_modR {w : World} (h : Mod [b] w W) : Mod [b] w (set5 W b t A c) :=
 ((((h.setCell (.inl (by simp)) _).setCell (.inl (by simp)) _).setCell (.inl (by simp)) _).setCell (.inl (by simp)) _).setCell (.inl (by simp)) _
theorem set5_modb : Mod [b] W (set5 W b t A c) :=
 (((((Mod.refl _ _).setCell (.inl (by simp)) _).setCell (.inl (by simp)) _).setCell (.inl (by simp)) _).setCell (.inl (by simp)) _).setCell (.inl (by simp)) _
theorem set5_far {g : Nat} {ty : TypeId} {cs : Array Value} (h : Blk W g ty cs) (hg : g ≠ b) : Blk (set5 W b t A c) g ty cs := h.mod set5_modb (by simpa using hg)
end
theorem cells5 {W : World} {b : Nat} {t : T} {A : Option Addr} {c : Nat} (h : Blk W b 86 (itemC t A c)) : W.cell? ⟨b, 0, none⟩ = some (.int .i64 t.kind) /\ W.cell? ⟨b, 1, none⟩ = some (.int .u64 (t.n : Int)) /\ W.cell? ⟨b, 2, none⟩ = some (str t.s) /\
  W.cell? ⟨b, 3, none⟩ = some (.slice A t.k c) /\ W.cell? ⟨b, 4, none⟩ = some (.bool t.op) := ⟨h.cell 0, h.cell 1, h.cell 2, h.cell 3, h.cell 4⟩
end Go.Proofs.YthecmnbkjchjmaaGreat


namespace Go.Proofs.YthecmnbkjchjmaaGreat
open Go.RowKit
set_option linter.unusedVariables false
set_option linter.unusedSimpArgs false

theorem infoItem : (Tryz.prog.info? 86).map (fun i => (i.zero, i.size, i.bytes)) = some (some (.agg #[.int .i64 0, .int .u64 0, .string ⟨#[]⟩, .slice none 0 0, .bool false]), 5, 64) := by kernel_rfl

theorem ownsRow_mod {w w' : World} {S : List Nat} {base : Nat} {e : TypeId} {size : Nat} {v : Value} {n : Nat} {xs : List Value} (h : w.ownsRow base e size v n xs) (hm : Mod S w w') (hs : ∀ k, v.ownBlock = some k -> k ∉ S) : w'.ownsRow base e size v n xs := by
 refine ⟨h.1, ?_⟩
 have hlt := h.lt
 rcases h.2 with h0 | ⟨g, cap, cur, rfl, hbg, hg, hnc, hcm, hcs, htake⟩
 . exact .inl h0
 . exact .inr ⟨g, cap, cur, rfl, hbg, (hm.block g (hlt g rfl).2 (hs g rfl)).trans hg, hnc, hcm, hcs, htake⟩

theorem own_form {w : World} {base : Nat} {e : TypeId} {size : Nat} {v : Value} {n : Nat} {xs : List Value} (h : w.ownsRow base e size v (n + 1) xs) : ∃ g c, v = .slice (some ⟨g, 0, none⟩) (n + 1) c /\ base <= g /\ g < w.heap.size := by
 have hlt := h.lt
 rcases h.2 with ⟨_, h0⟩ | ⟨g, cap, cur, rfl, hbg, hg, _⟩
 . cases h0
 . exact ⟨g, cap, rfl, hbg, (hlt g rfl).2⟩
theorem news5 (W : World) (t : T) (A : Option Addr) (c : Nat) : ∀ j u, [Value.int .i64 t.kind, .int .u64 (t.n : Int), str t.s, .slice A t.k c, .bool t.op][j]? = some u ->
  (W.alloc (.cells (itemC t A c) 86)).cell? ((⟨W.heap.size, 0, none⟩ : Addr).add j) = some u := by
 intro j u hj
 rw [addr_add, Nat.zero_add]
 rw [(Blk.new W 86 (itemC t A c)).cell j]
 simpa using hj
theorem one5 (t : T) (A : Option Addr) (c : Nat) : ∀ u ∈ [Value.int .i64 t.kind, .int .u64 (t.n : Int), str t.s, .slice A t.k c, .bool t.op], u.oneCell' = true := by
 intro u hu
 simp at hu
 rcases hu with rfl | rfl | rfl | rfl | rfl <;> rfl

theorem own_of_blk {w : World} {g base n size : Nat} {e : TypeId} {cs : Array Value} (h : Blk w g e cs) (hb : base <= g) (hn : n <= maxLen) (hs : cs.size = n * size) : w.ownsRow base e size (.slice (some ⟨g, 0, none⟩) n n) n cs.toList :=
 ⟨by simpa using hs, .inr ⟨g, n, cs, rfl, hb, h, Nat.le_refl _, hn, hs, by rw [<- hs]; exact List.take_of_length_le (by simp)⟩⟩
theorem own_cells {w : World} {g base n c size : Nat} {e : TypeId} {xs : List Value} (h : w.ownsRow base e size (.slice (some ⟨g, 0, none⟩) n c) n xs) {j : Nat} {u : Value} (hj : xs[j]? = some u) : w.cell? ⟨g, j, none⟩ = some u := by
 have := h.cells (g := g) rfl j u hj
 rw [addr_add, Nat.zero_add] at this
 exact this
def flatC (ch : Nat -> T) (ac : Nat -> Option Addr × Nat) : Nat -> List Value
 | 0 => []
 | i + 1 => flatC ch ac i ++ [.int .i64 (ch i).kind, .int .u64 ((ch i).n : Int), str (ch i).s, .slice (ac i).1 (ch i).k (ac i).2, .bool (ch i).op]
theorem flatC_length (ch : Nat -> T) (ac : Nat -> Option Addr × Nat) (i : Nat) : (flatC ch ac i).length = i * 5 := by
 induction i with
 | zero => rfl
 | succ i ih => rw [flatC, List.length_append, ih]; simp; omega
theorem flatC_congr {ch ch' : Nat -> T} {ac ac' : Nat -> Option Addr × Nat} {i : Nat} (h : ∀ j, j < i -> ch j = ch' j /\ ac j = ac' j) : flatC ch ac i = flatC ch' ac' i := by
 induction i with
 | zero => rfl
 | succ i ih => rw [flatC, flatC, ih (fun j hj => h j (by omega)), (h i (by omega)).1, (h i (by omega)).2]
theorem flatC_get (ch : Nat -> T) (ac : Nat -> Option Addr × Nat) (i : Nat) : ∀ j, j < i -> (flatC ch ac i)[j * 5]? = some (.int .i64 (ch j).kind) /\ (flatC ch ac i)[j * 5 + 1]? = some (.int .u64 ((ch j).n : Int)) /\ (flatC ch ac i)[j * 5 + 2]? = some (str (ch j).s) /\
  (flatC ch ac i)[j * 5 + 3]? = some (.slice (ac j).1 (ch j).k (ac j).2) /\ (flatC ch ac i)[j * 5 + 4]? = some (.bool (ch j).op) := by
 induction i with
 | zero => intro j hj; omega
 | succ i ih =>
  intro j hj
  have hl := flatC_length ch ac i
  rw [flatC]
  by_cases e : j = i
  .
   subst e
   refine ⟨?_, ?_, ?_, ?_, ?_⟩ <;> (rw [List.getElem?_append_right (by omega), hl]; simp)
  .
   have := ih j (by omega)
   refine ⟨?_, ?_, ?_, ?_, ?_⟩ <;> rw [List.getElem?_append_left (by omega)]
   . exact this.1
   . exact this.2.1
   . exact this.2.2.1
   . exact this.2.2.2.1
   . exact this.2.2.2.2

theorem flatC_idx (ch : Nat -> T) (ac : Nat -> Option Addr × Nat) (k : Nat) {j : Nat} {u : Value} (h : (flatC ch ac k)[j]? = some u) : ∃ i r, i < k /\ r < 5 /\ j = i * 5 + r := by
 have := (List.getElem?_eq_some_iff.1 h).1
 rw [flatC_length] at this
 exact ⟨j / 5, j % 5, by omega, by omega, by omega⟩
theorem flatC_news {W : World} {b o : Nat} {ch : Nat -> T} {ac : Nat -> Option Addr × Nat} {k : Nat} (h : ∀ i, i < k -> At5 W b (o + i * 5) (ch i) (ac i).1 (ac i).2) : ∀ j u, (flatC ch ac k)[j]? = some u -> W.cell? ((⟨b, o, none⟩ : Addr).add j) = some u := by
 intro j u hj
 obtain ⟨i, r, hi, hr, rfl⟩ := flatC_idx ch ac k hj
 obtain ⟨g0, g1, g2, g3, g4⟩ := flatC_get ch ac k i hi
 obtain ⟨a0, a1, a2, a3, a4⟩ := h i hi
 rw [addr_add, <- Nat.add_assoc]
 have h5 : r = 0 \/ r = 1 \/ r = 2 \/ r = 3 \/ r = 4 := by omega
 rcases h5 with rfl | rfl | rfl | rfl | rfl
 . rw [<- hj, Nat.add_zero, Nat.add_zero, g0]; exact a0
 . rw [<- hj, g1]; exact a1
 . rw [<- hj, g2]; exact a2
 . rw [<- hj, g3]; exact a3
 . rw [<- hj, g4]; exact a4
theorem flatC_one (ch : Nat -> T) (ac : Nat -> Option Addr × Nat) (k : Nat) : ∀ u ∈ flatC ch ac k, u.oneCell' = true := by
 intro u hu
 obtain ⟨j, hj⟩ := List.getElem?_of_mem hu
 obtain ⟨i, r, hi, hr, rfl⟩ := flatC_idx ch ac k hj
 obtain ⟨g0, g1, g2, g3, g4⟩ := flatC_get ch ac k i hi
 have h5 : r = 0 \/ r = 1 \/ r = 2 \/ r = 3 \/ r = 4 := by omega
 rcases h5 with rfl | rfl | rfl | rfl | rfl
 . rw [Nat.add_zero, g0] at hj; cases hj; rfl
 . rw [g1] at hj; cases hj; rfl
 . rw [g2] at hj; cases hj; rfl
 . rw [g3] at hj; cases hj; rfl
 . rw [g4] at hj; cases hj; rfl
theorem IsL.rows {W : World} {Q : Nat -> Prop} {kind : Int} {n : Nat} {s : List UInt8} {op : Bool} {k : Nat} {ch : Nat -> T} {A : Option Addr} (h : IsL W Q (T.mk kind n s op k ch) A) (hk : 0 < k) :
  ∃ (b o : Nat) (ac : Nat -> Option Addr × Nat), A = some ⟨b, o, none⟩ /\ b < W.heap.size /\ Q b /\ ∀ i, i < k -> At5 W b (o + i * 5) (ch i) (ac i).1 (ac i).2 /\ IsL W Q (ch i) (ac i).1 := by
 obtain ⟨b, o, hA, hb, hq, hc⟩ := h hk
 have hex : ∀ i, ∃ p : Option Addr × Nat, i < k -> At5 W b (o + i * 5) (ch i) p.1 p.2 /\ IsL W Q (ch i) p.1 := fun i => by
  by_cases hi : i < k
  .
   obtain ⟨Ai, ci, h1, h2⟩ := hc i hi
   exact ⟨(Ai, ci), fun _ => ⟨h1, h2⟩⟩
  . exact ⟨(none, 0), fun h => absurd h hi⟩
 exact ⟨b, o, fun i => (hex i).choose, hA, hb, hq, fun i hi => (hex i).choose_spec hi⟩
theorem own_IsL {W : World} {Q : Nat -> Prop} {base g c k : Nat} {ch : Nat -> T} {ac : Nat -> Option Addr × Nat} (hlt : g < W.heap.size) (q : Q g) (h : W.ownsRow base 86 5 (.slice (some ⟨g, 0, none⟩) k c) k (flatC ch ac k)) (hI : ∀ i, i < k -> IsL W Q (ch i) (ac i).1) : IsL W Q (T.mk 4 0 [] false k ch) (some ⟨g, 0, none⟩) := fun _ => ⟨g, 0, rfl, hlt, q, fun i hi => by
 obtain ⟨g0, g1, g2, g3, g4⟩ := flatC_get ch ac k i hi
 refine ⟨(ac i).1, (ac i).2, ⟨?_, ?_, ?_, ?_, ?_⟩, hI i hi⟩
 . rw [Nat.zero_add]; exact own_cells h g0
 . rw [Nat.zero_add]; exact own_cells h g1
 . rw [Nat.zero_add]; exact own_cells h g2
 . rw [Nat.zero_add]; exact own_cells h g3
 . rw [Nat.zero_add]; exact own_cells h g4⟩
theorem own_last {W : World} {base g c n : Nat} {ch : Nat -> T} {ac : Nat -> Option Addr × Nat} (t : T) (A : Option Addr) (ca : Nat) (h : W.ownsRow base 86 5 (.slice (some ⟨g, 0, none⟩) (n + 1) c) (n + 1) (flatC ch ac (n + 1))) :
  (((((W.setCell ⟨g, n * 5, none⟩ (.int .i64 t.kind)).setCell ⟨g, n * 5 + 1, none⟩ (.int .u64 (t.n : Int))).setCell ⟨g, n * 5 + 2, none⟩ (str t.s)).setCell ⟨g, n * 5 + 3, none⟩ (.slice A t.k ca)).setCell ⟨g, n * 5 + 4, none⟩ (.bool t.op)).ownsRow base 86 5 (.slice (some ⟨g, 0, none⟩) (n + 1) c) (n + 1)
   (flatC (fun i => if i = n then t else ch i) (fun i => if i = n then (A, ca) else ac i) (n + 1)) := by
 have h5 := ((((h.stored (n * 5) (.int .i64 t.kind)).1.stored (n * 5 + 1) (.int .u64 (t.n : Int))).1.stored (n * 5 + 2) (str t.s)).1.stored (n * 5 + 3) (.slice A t.k ca)).1.stored (n * 5 + 4) (.bool t.op)
 have hl := flatC_length ch ac n
 have e : (((((flatC ch ac (n + 1)).set (n * 5) (.int .i64 t.kind)).set (n * 5 + 1) (.int .u64 (t.n : Int))).set (n * 5 + 2) (str t.s)).set (n * 5 + 3) (.slice A t.k ca)).set (n * 5 + 4) (.bool t.op) = flatC (fun i => if i = n then t else ch i) (fun i => if i = n then (A, ca) else ac i) (n + 1) := by
  have hc : flatC (fun i => if i = n then t else ch i) (fun i => if i = n then (A, ca) else ac i) n = flatC ch ac n := flatC_congr fun j hj => by
   have : ¬ j = n := by omega
   simp [this]
  rw [flatC, flatC, hc, <- hl]
  simp
 rw [e] at h5
 exact h5.1
end Go.Proofs.YthecmnbkjchjmaaGreat


namespace Go.Proofs.YthecmnbkjchjmaaGreat
open Go.RowKit
set_option linter.unusedVariables false
set_option linter.unusedSimpArgs false

set_option maxHeartbeats 800000 in
theorem CloneI_any {Q : Nat -> Prop} {kind : Int} {n : Nat} {s : List UInt8} {op : Bool} (ch : Nat -> T) (k : Nat) (hk : Hid (0 < k /\ k <= 1000)) (A : Option Addr) (c : Nat) (w : World) (h : IsL w Q (T.mk kind n s op k ch) A) :
  Calls Tryz.prog 158 #[.slice A k c] w (fun e w' => ∃ (g c' : Nat) (ac : Nat -> Option Addr × Nat), e = .returned (.slice (some ⟨g, 0, none⟩) k c') /\ Ext w w' /\ w.heap.size <= g /\ g < w'.heap.size /\ w'.ownsRow w.heap.size 86 5 (.slice (some ⟨g, 0, none⟩) k c') k (flatC ch ac k) /\ ∀ i, i < k -> IsL w' Q (ch i) (ac i).1) := by
 have he := Lib.run_eql_slice_nil (P := Tryz.prog)
 obtain ⟨i0, hi, hz0, hz1, hz2⟩ := info_parts infoItem
 obtain ⟨b, o, ac, rfl, hb, hq, hc⟩ := h.rows hk.out.1
 have hl := World.ownsRow_lit (base := w.heap.size) (e := 86) (size := 5) w #[] 0 (Nat.le_refl _) (Nat.zero_le _) rfl
 have hnews : Hid (∀ j u, (flatC ch ac k)[j]? = some u -> (w.alloc (.cells #[] 86)).cell? ((⟨b, o, none⟩ : Addr).add j) = some u) := flatC_news fun i hi => (hc i hi).1.mod (S := []) ((Mod.refl _ _).alloc _) hb (by simp)
 have hfl := hid (flatC_length ch ac k)
 have hfc := hid (flatC_one ch ac k)
 have HC := hid hc
 clear hc h
 go_enter Tryz.func158, Tryz.ntmps158
 go_wp2_with (at_builtin; refine wpList_append_own _ rfl _ _ 84 rfl w.heap.size 86 i0 _ 5 64 Tryz.underlying84 hi hz0 hz1 hz2 rfl (by decide) _ _ _ rfl hl ⟨b, o, none⟩ k c (flatC ch ac k) rfl hfl.out hnews.out hfc.out (by have := hk.out; unfold maxLen; omega) (by have := hk.out; omega) (by simp) ?_; intro v' w1 hown' hgrow hnil)
 have hg2 : (w.alloc (.cells #[] 86)).grownBy w1 (some w.heap.size) := hgrow
 have hm : Ext w w1 := ((Mod.refl [] w).alloc (.cells #[] 86)).grown hg2 (fun k hk => .inr (by cases hk; exact Nat.le_refl _))
 have hown2 : w1.ownsRow w.heap.size 86 5 v' k (flatC ch ac k) := by simpa using hown'
 obtain ⟨m, rfl⟩ : ∃ m, k = m + 1 := ⟨k - 1, by have := hk.out.1; omega⟩
 obtain ⟨g, c', rfl, hg, hlt⟩ := own_form hown2
 go_wp2
 go_ret
 exact ⟨g, c', rfl, hm, hg, hlt, ac, hown2, fun i hi => (HC.out i hi).2.ext hm⟩

end Go.Proofs.YthecmnbkjchjmaaGreat


namespace Go.Proofs.YthecmnbkjchjmaaGreat
open Go.ChangeShapes Go.WideShapes Go.ChangeAt Go.RowKit Go.Deep
set_option linter.unusedVariables false
set_option linter.unusedSimpArgs false

section
variable {H : Type} {enc : TypeId × Value -> H} {w : World} {base b0 : Nat} {spare : Nat -> Bool} {held : Bool} {r : Reach}
theorem field_at {P : Program} {fs : Array Field} {cs : List Value} {ys : List (DataW H × List MemPlace)} {n : Nat} (hone : oneCellFields P fs = true)
  (hfl : ∀ (i : Nat) (f : Field), fs[i]? = some f -> DataW.trod enc P w base spare held n f.type ((cs.drop f.offset).take (P.cellsOf f.type)) = ys[i]?)
  {i : Nat} {f : Field} (h : fs[i]? = some f) {c : Value} (hc : cs[i]? = some c) : DataW.trod enc P w base spare held n f.type [c] = ys[i]? := by
 obtain ⟨ho, hk⟩ := hone_of hone i f h
 have := hfl i f h
 rw [ho, hk] at this
 obtain ⟨hlt, hv⟩ := List.getElem?_eq_some_iff.1 hc
 rw [List.drop_eq_getElem_cons hlt, hv] at this
 exact this

theorem weights_mem_all {P : Program} {e : TypeId} {d : DataW H} {n : Nat} (hn : n ∈ d.weights P e) : ∀ {l : List (DataW H)}, d ∈ l -> n ∈ DataW.weightsAll P e l
 | x :: r, h => by
  simp only [DataW.weightsAll, List.mem_append]
  rcases List.mem_cons.1 h with rfl | h
  . exact .inl hn
  . exact .inr (weights_mem_all hn h)

end
end Go.Proofs.YthecmnbkjchjmaaGreat


namespace Go.Proofs.YthecmnbkjchjmaaGreat
open Go.ChangeShapes Go.WideShapes Go.ChangeAt Go.RowKit Go.Deep
set_option linter.unusedVariables false
set_option linter.unusedSimpArgs false

section
variable {H : Type} {enc : TypeId × Value -> H} {w : World} {base b0 : Nat} {spare : Nat -> Bool} {held : Bool} {r : Reach}
set_option maxRecDepth 100000 in
theorem trod_eid {fuel : Nat} {cs : List Value} {x : DataW H × List MemPlace} (h : DataW.trod enc Tryz.prog w base spare held fuel 24 cs = some x) :
  ∃ e : EV, cs = [.int .i64 e.sch, str e.name, .int .u64 (e.node : Int), .int .u64 (e.svc : Int)] /\ e.node < 18446744073709551616 /\ e.svc < 18446744073709551616 /\ (-9223372036854775808 <= e.sch /\ e.sch <= 9223372036854775807) := by
 obtain ⟨ys, n', hn', hy, hlen, hyl, hfl⟩ := DataW.trod_struct Tryz.underlying24 h
 match cs, hlen with
 | [c0, c1, c2, c3], _ =>
  have h0 := field_at (by kernel_rfl) hfl (i := 0) rfl rfl
  have h1 := field_at (by kernel_rfl) hfl (i := 1) rfl rfl
  have h2 := field_at (by kernel_rfl) hfl (i := 2) rfl rfl
  have h3 := field_at (by kernel_rfl) hfl (i := 3) rfl rfl
  clear hfl h
  match ys, hyl with
  | [y0, y1, y2, y3], _ =>
   obtain ⟨sch, e0, _, w0⟩ := DataW.trod_int (k := .i64) (by kernel_rfl) h0
   obtain ⟨s, e1, _, _⟩ := DataW.trod_string (by kernel_rfl) h1
   obtain ⟨a, e2, _, w2⟩ := DataW.trod_int (k := .u64) (by kernel_rfl) h2
   obtain ⟨b, e3, _, w3⟩ := DataW.trod_int (k := .u64) (by kernel_rfl) h3
   have q0 : c0 = .int .i64 sch := by have : [c0] = [Value.int .i64 sch] := e0; simpa using this
   have q1 : c1 = .string s := by have : [c1] = [Value.string s] := e1; simpa using this
   have q2 : c2 = .int .u64 a := by have : [c2] = [Value.int .u64 a] := e2; simpa using this
   have q3 : c3 = .int .u64 b := by have : [c3] = [Value.int .u64 b] := e3; simpa using this
   subst q0 q1 q2 q3
   have b0 : -9223372036854775808 <= sch /\ sch <= 9223372036854775807 := by simpa [Lit.wf, IntKind.min, IntKind.max, IntKind.signed, IntKind.bits] using w0
   have b2 : 0 <= a /\ a <= 18446744073709551615 := by simpa [Lit.wf, IntKind.min, IntKind.max, IntKind.signed, IntKind.bits] using w2
   have b3 : 0 <= b /\ b <= 18446744073709551615 := by simpa [Lit.wf, IntKind.min, IntKind.max, IntKind.signed, IntKind.bits] using w3
   obtain ⟨a, rfl⟩ := Int.eq_ofNat_of_zero_le b2.1
   obtain ⟨b, rfl⟩ := Int.eq_ofNat_of_zero_le b3.1
   exact ⟨⟨sch, s.data.toList, a, b⟩, rfl, by show a < _; omega, by show b < _; omega, b0⟩

end
end Go.Proofs.YthecmnbkjchjmaaGreat
