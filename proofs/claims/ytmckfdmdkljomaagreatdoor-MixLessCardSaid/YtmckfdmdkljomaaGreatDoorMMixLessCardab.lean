/-
 From a law's walk to the given statement: the arguments read behind the call as before, because nothing that was there has turned.
-/
import Derived.Test.YtmckfdmdkljomaaGreatDoorMMixLessCardaa
import Derived.ProofKit
import Derived.OpenShut
import Derived.ShutString
import Derived.ChangeOld
import Derived.Laws.Rows
import Derived.Deep.Quiet
import Derived.Deep.MidRow
import Derived.Deep.RegionHeld3
import Derived.Laws.OwnMore
import Derived.OwnWalk
import Derived.OneCell
namespace Go.Proofs.YtmckfdmdkljomaaGreatDoor
open Go.ChangeShapes Go.WideShapes Go.ChangeAt Go.RowKit
set_option linter.unusedVariables false
set_option linter.unusedSimpArgs false
theorem own : ownKnob Tryz.prog.godebug = none := by kernel_rfl
theorem laidOut : laidOutB Tryz.prog = true := by kernel_rfl
theorem trodAll_below {H : Type} {enc : TypeId × Value -> H} {W W' : World} (hb : Below W.heap.size W W') : ∀ (ts : List TypeId) (vs : List Value) (ds : List (DataW H)) (ps : List MemPlace),
  (∀ t ∈ ts, Tryz.prog.readableRec t = true /\ t < Tryz.prog.types.size) -> DataW.TrodAll enc Tryz.prog W 0 (fun _ => true) true ts vs ds ps -> DataW.TrodAll enc Tryz.prog W' 0 (fun b => decide (b < W.heap.size)) true ts vs ds ps
 | [], vs, ds, ps, _, h => by obtain ⟨rfl, rfl, rfl⟩ := trodAll_nil h; exact trodAll_mk0
 | t :: ts, vs, ds, ps, hr, h => by
  obtain ⟨v, vs', d, ds', p, q, rfl, rfl, rfl, h1, h2⟩ := trodAll_cons h
  have hlt : ∀ x ∈ p, x.block < W.heap.size := by obtain ⟨m, hm⟩ := h1; exact DataW.trod_lt m _ _ _ hm
  have hr1 := hr t List.mem_cons_self
  exact trodAll_cons_mk (Below.trod laidOut hr1.1 hr1.2 h1 hb hlt) (trodAll_below hb ts vs' ds' q (fun t ht => hr t (List.mem_cons_of_mem _ ht)) h2)
theorem law_post {H : Type} {enc : TypeId × Value -> H} {f : Func} {spec : ChangeSpec} {W W' : World} {args : Array Value} {ds gs : List (DataW H)} {before : List MemPlace} {tb : TypeId}
  (hvars : spec.vars = []) (hW : DataW.Whole enc Tryz.prog f.params.toList spec.vars false W args.toList ds gs before)
  (hfn : spec.fn H ds = { results := [.lit (.bool true)], args := ds }) (hres : f.resultTypes = #[tb]) (htb : Tryz.prog.underlying tb = some .bool)
  (hread : ∀ t ∈ f.params.toList, Tryz.prog.readableRec t = true /\ t < Tryz.prog.types.size) (hb : Below W.heap.size W W') :
  spec.post enc Tryz.prog f false true false false W args (.bool true) W' := by
 have hW' := hW
 obtain ⟨p, q, hA, hV, rfl, hfz, hnd⟩ := hW
 rw [hvars] at hV
 obtain ⟨rfl, rfl⟩ := trodVars_none hV
 refine ⟨ds, [], p ++ [], [], p, [], hW', ?_, ?_, ?_, hb.frame _, fun h => by cases h⟩
 .
  rw [List.append_nil, hfn, hres]
  exact trodAll_mk1 (shut_bool htb _)
 .
  rw [List.append_nil, hfn]
  exact trodAll_below hb _ _ _ _ hread hA
 .
  rw [List.append_nil, hfn, hvars]
  rfl
section
section
variable {P : Program} {ops : Array Oper} {C : World -> Prop} {rest : List Oper} {o : Oper} {a : Act} {w : World}
theorem q_row {Q : Act -> Prop} (hw : Region.wanted o (yielded ops a.tmps) = true) (ty : TypeId) (x : Operand) (ho : o.op = .load ty x) (g : Nat) (hx : a.eval x = .pointer (some ⟨g, 0, none⟩))
  {t : TypeId} {cs : Array Value} {d : TypeDesc} (hg : ∀ w, C w -> Blk w g t cs) (hu : P.underlying ty = some d) (hd : (match d with | .struct _ | .array _ _ => true | _ => false) = true)
  (hi : (P.info? ty).map (·.size) = some cs.size) (h : wpQuiet P ops C Q rest (a.put o.dst (.agg cs))) : wpQuiet P ops C Q (o :: rest) a :=
 wpQuiet_step fun K hK => by
  rw [if_pos hw]
  refine ⟨.agg cs, fun w hw' => ?_, hK _ h⟩
  unfold Oper.quietAt execOp
  simp only [ho, hx, Instr.loadAt, Instr.sureAddr, Sem.run_bind, Sem.run_pure, Result.andThen_ok, run_loadVar_row w g t ty cs (0, 0) d (hg w hw') hu hd hi]
  exact ⟨rfl, rfl⟩
theorem q_cat {Q : Act -> Prop} (hw : Region.wanted o (yielded ops a.tmps) = true) (ty t2 : TypeId) (x y : Operand) (ho : o.op = .binOp .add ty x y t2) (l1 l2 : List UInt8) (hx : a.eval x = str l1) (hy : a.eval y = str l2)
  (hl : l1.length + l2.length <= 9223372036854775807) (h : wpQuiet P ops C Q rest (a.put o.dst (str (l1 ++ l2)))) : wpQuiet P ops C Q (o :: rest) a :=
 wpQuiet_step fun K hK => by
  rw [if_pos hw]
  refine ⟨str (l1 ++ l2), fun w hw' => ?_, hK _ h⟩
  have hl' : ¬ 9223372036854775807 < l1.length + l2.length := by omega
  unfold Oper.quietAt execOp
  simp only [ho, hx, hy]
  simp [go_sem, hl']
  rw [ByteArray.mk_append_mk]
theorem wpList_row {Q : Exit -> Act -> World -> Prop} (hw : Region.wanted o (yielded ops a.tmps) = true) (ty : TypeId) (x : Operand) (ho : o.op = .load ty x)
  (g : Nat) (hx : a.eval x = .pointer (some ⟨g, 0, none⟩)) {t : TypeId} {cs : Array Value} {d : TypeDesc} (hg : Blk w g t cs)
  (hu : P.underlying ty = some d) (hd : (match d with | .struct _ | .array _ _ => true | _ => false) = true) (hi : (P.info? ty).map (·.size) = some cs.size)
  (h : wpList P ops Q rest (a.put o.dst (.agg cs)) w) : wpList P ops Q (o :: rest) a w :=
 wpList_step fun K hK => by rw [if_pos hw]; exact wp_load_row ty x ho g hx t cs (0, 0) d hg hu hd hi (hK _ _ h)
theorem Ret.ext {f : FuncId} {args : Array Value} {v : Value} {w W : World} (h : Calls P f args W (Ret v W)) (hW : Ext w W) : Calls P f args W (fun e w'' => e = .returned v /\ Ext w w'') :=
 h.mono fun _ _ hh => ⟨hh.1, hW.trans hh.2⟩
end
end
section
structure Later (w : World) where
 x : World
 h : Ext w x
instance (w : World) : Nonempty (Later w) := ⟨⟨w, Mod.refl _ _⟩⟩
section
variable {P : Program} {w : World}
theorem Later.self (w : World) : ∃ e : Later w, w = e.x := ⟨⟨w, Mod.refl _ _⟩, rfl⟩
theorem Later.go (e : Later w) {y : World} (h : Ext e.x y) : ∃ e' : Later w, y = e'.x := ⟨⟨y, e.h.trans h⟩, rfl⟩
theorem Ret.later {e : Later w} {f : FuncId} {args : Array Value} {v : Value} (h : Calls P f args e.x (Ret v e.x)) : Calls P f args e.x (fun r w' => r = .returned v /\ ∃ e' : Later w, w' = e'.x) :=
 h.mono fun _ _ hh => ⟨hh.1, e.go hh.2⟩
theorem Ret.laterW {W : World} (hW : Ext w W) {f : FuncId} {args : Array Value} {v : Value} (h : Calls P f args W (Ret v W)) : Calls P f args W (fun r w' => r = .returned v /\ ∃ e' : Later w, w' = e'.x) :=
 h.mono fun _ _ hh => ⟨hh.1, ⟨_, hW.trans hh.2⟩, rfl⟩
theorem Blk.later {g : Nat} {t : TypeId} {cs : Array Value} (h : Blk w g t cs) (e : Later w) : Blk e.x g t cs := h.ext e.h
theorem Blk.cellL {g : Nat} {t : TypeId} {cs : Array Value} (h : Blk w g t cs) (i : Nat) {v : Value} (hv : cs[i]? = some v) (e : Later w) : e.x.cell? ⟨g, i, none⟩ = some v := ((h.later e).cell i).trans hv
theorem Blk.newL (w : World) (t : TypeId) (cs : Array Value) {N : Nat} (h : w.heap.size = N) : Blk (w.alloc (.cells cs t)) N t cs := h ▸ Blk.new w t cs
theorem cellL {b o : Nat} {v : Value} (h : w.cell? ⟨b, o, none⟩ = some v) (e : Later w) : e.x.cell? ⟨b, o, none⟩ = some v := by
 have hb : b < w.heap.size := by
  rcases Nat.lt_or_ge b w.heap.size with hlt | hge
  . exact hlt
  . simp [World.cell?, Array.getElem?_eq_none hge] at h
 exact (e.h.cell hb (by simp)).trans h
theorem wp_region_later {e : Later w} {id : Nat} {Q : Exit -> Act -> World -> Prop} {a : Act} {l : List Oper} (hm : P.follows .mixedOrders = true) (hB : Region.lexB .any l.toArray = true)
  (h : wpQuiet P l.toArray (fun w' => ∃ e : Later w, w' = e.x) (fun a' => ∀ w', (∃ e : Later w, w' = e.x) -> Q .normal a' w') l a) : (Code.region id l.toArray true).wp P Q a e.x :=
 wp_region_quiet (C := fun w' => ∃ e : Later w, w' = e.x) hm hB ⟨⟨_, e.h.drew⟩, rfl⟩ (by simpa using h)
theorem wpList_mid {ops : Array Oper} {rest : List Oper} {op : Oper} {a : Act} {W : World} {Q : Exit -> Act -> World -> Prop} (hw : Region.wanted op (yielded ops a.tmps) = true) (ty : TypeId) (x : Operand) (ho : op.op = .load ty x)
  (b o : Nat) (hx : a.eval x = .pointer (some ⟨b, o, none⟩)) (cs : List Value) (d : TypeDesc) (hc : W.rangeAt b o cs)
  (hu : P.underlying ty = some d) (hd : d.isRow = true) (hi : (P.info? ty).map (·.size) = some cs.length)
  (h : wpList P ops Q rest (a.put op.dst (.agg cs.toArray)) W) : wpList P ops Q (op :: rest) a W :=
 wpList_step fun K hK => by rw [if_pos hw]; exact wp_load_mid ty x ho b o hx cs d hc hu hd hi (hK _ _ h)
theorem later_mid {ops : Array Oper} {rest : List Oper} {op : Oper} {a : Act} {Q : Act -> Prop} (hw : Region.wanted op (yielded ops a.tmps) = true) (ty : TypeId) (x : Operand) (ho : op.op = .load ty x)
  (b o : Nat) (hx : a.eval x = .pointer (some ⟨b, o, none⟩)) (cs : List Value) (d : TypeDesc) (hc : ∀ e : Later w, e.x.rangeAt b o cs)
  (hu : P.underlying ty = some d) (hd : d.isRow = true) (hi : (P.info? ty).map (·.size) = some cs.length)
  (h : wpQuiet P ops (fun w' => ∃ e : Later w, w' = e.x) Q rest (a.put op.dst (.agg cs.toArray))) : wpQuiet P ops (fun w' => ∃ e : Later w, w' = e.x) Q (op :: rest) a :=
 wpQuiet_step fun K hK => by
  rw [if_pos hw]
  refine ⟨.agg cs.toArray, fun W ⟨e, he⟩ => ?_, hK _ h⟩
  subst he
  unfold Oper.quietAt execOp
  simp only [ho, hx, Instr.loadAt, Instr.sureAddr, Sem.run_bind, Sem.run_pure, Result.andThen_ok, run_loadVar_mid e.x b o ty cs d (hc e) hu hd hi]
  exact ⟨rfl, rfl⟩
theorem Blk.range {g : Nat} {t : TypeId} {cs : Array Value} (h : Blk w g t cs) (o n : Nat) {l : List Value} (hl : (cs.extract o (o + n)).toList = l) (e : Later w) : e.x.rangeAt g o l := hl ▸ World.rangeAt_of_block (h.later e) o n
theorem yieldsIf_row {ops : Array Oper} {S : World -> Prop} {op : Oper} {a : Act} (hw : Region.wanted op (yielded ops a.tmps) = true) (ty : TypeId) (x : Operand) (ho : op.op = .load ty x) (g : Nat) (hx : a.eval x = .pointer (some ⟨g, 0, none⟩))
  {t : TypeId} {cs : Array Value} {d : TypeDesc} (hS : ∀ w, S w -> Blk w g t cs) (hu : P.underlying ty = some d) (hd : (match d with | .struct _ | .array _ _ => true | _ => false) = true)
  (hi : (P.info? ty).map (·.size) = some cs.size) : YieldsIf P ops S op (.agg cs) a :=
 .inl ⟨hw, fun w hw' => by
  unfold execOp
  simp only [ho, hx, Instr.loadAt, Instr.sureAddr, Sem.run_bind, Sem.run_pure, Result.andThen_ok, run_loadVar_row w g t ty cs (0, 0) d (hS w hw') hu hd hi]⟩
theorem later_row {ops : Array Oper} {rest : List Oper} {o : Oper} {a : Act} {Q : Act -> Prop} (hw : Region.wanted o (yielded ops a.tmps) = true) (ty : TypeId) (x : Operand) (ho : o.op = .load ty x) (g : Nat) (hx : a.eval x = .pointer (some ⟨g, 0, none⟩))
  {t : TypeId} {cs : Array Value} {d : TypeDesc} (hg : ∀ e : Later w, Blk e.x g t cs) (hu : P.underlying ty = some d) (hd : (match d with | .struct _ | .array _ _ => true | _ => false) = true)
  (hi : (P.info? ty).map (·.size) = some cs.size) (h : wpQuiet P ops (fun w' => ∃ e : Later w, w' = e.x) Q rest (a.put o.dst (.agg cs))) : wpQuiet P ops (fun w' => ∃ e : Later w, w' = e.x) Q (o :: rest) a :=
 q_row hw ty x ho g hx (fun w ⟨e, he⟩ => he ▸ hg e) hu hd hi h
end
end
inductive T where
 | nil
 | mk (kind : Int) (n : Nat) (s : List UInt8) (op : Bool) (k : Nat) (ch : Nat -> T)
namespace T
def kind : T -> Int | nil => 0 | mk a _ _ _ _ _ => a
def n : T -> Nat | nil => 0 | mk _ a _ _ _ _ => a
def s : T -> List UInt8 | nil => [] | mk _ _ a _ _ _ => a
def op : T -> Bool | nil => false | mk _ _ _ a _ _ => a
def k : T -> Nat | nil => 0 | mk _ _ _ _ a _ => a
def ch : T -> Nat -> T | nil => fun _ => nil | mk _ _ _ _ _ a => a
def mx (f : Nat -> Nat) : Nat -> Nat
 | 0 => 0
 | j + 1 => max (mx f j) (f j)
def all (f : Nat -> Bool) : Nat -> Bool
 | 0 => true
 | j + 1 => all f j && f j
def cat (f : Nat -> List UInt8) : Nat -> List UInt8
 | 0 => []
 | j + 1 => cat f j ++ f j
def sum (f : Nat -> Nat) : Nat -> Nat
 | 0 => 0
 | j + 1 => sum f j + f j
def cl (f : Nat -> Nat -> Nat) (m n0 : Nat) : Nat -> Nat
 | 0 => n0
 | j + 1 => if cl f m n0 j <= m then cl f m n0 j + f j (m - cl f m n0 j) else cl f m n0 j
theorem all_iff {f : Nat -> Bool} {k : Nat} : all f k = true ↔ ∀ i, i < k -> f i = true := by
 induction k with
 | zero => simp [all]
 | succ j ih =>
  rw [all, Bool.and_eq_true, ih]
  constructor
  .
   rintro ⟨h1, h2⟩ i hi
   by_cases e : i = j
   . subst e; exact h2
   . exact h1 i (by omega)
  .
   intro h
   exact ⟨fun i hi => h i (by omega), h j (by omega)⟩
theorem mx_le {f : Nat -> Nat} {k d : Nat} : mx f k <= d ↔ ∀ i, i < k -> f i <= d := by
 induction k with
 | zero => simp [mx]
 | succ j ih =>
  rw [mx, Nat.max_le, ih]
  constructor
  .
   rintro ⟨h1, h2⟩ i hi
   by_cases e : i = j
   . subst e; exact h2
   . exact h1 i (by omega)
  .
   intro h
   exact ⟨fun i hi => h i (by omega), h j (by omega)⟩
def deep : T -> Nat -> Nat
 | nil, _ => 1
 | mk _ _ _ _ k ch, m => if m < 1 then 1 else mx (fun i => (ch i).deep (m - 1)) k + 1
def node (kind : Int) (n : Nat) (s : List UInt8) (op : Bool) (k : Nat) : Bool :=
 if kind = 0 then s == [] && k == 0 && !op else if kind = 2 \/ kind = 3 then n == 0 && k == 0 && !op else if kind = 4 then n == 0 && s == [] && decide (k <= 1000) else false
def plain : T -> Bool
 | nil => false
 | mk kind n s op k ch => node kind n s op k && all (fun i => (ch i).plain) k
def right : T -> Nat -> Bool
 | nil, _ => false
 | mk kind n s op k ch, d => if d < 1 then false else node kind n s op k && all (fun i => (ch i).right (d - 1)) k
def bytes : T -> List UInt8
 | nil => []
 | mk kind n s op k ch => if kind = 0 then headL 0 n else if kind < 4 then headL kind.toNat s.length ++ s else
   (if op then [159] else headL 4 k) ++ (cat (fun i => (ch i).bytes) k ++ (if op then [255] else []))
def size : T -> Nat
 | nil => 0
 | mk _ _ s _ k ch => 1 + s.length + sum (fun i => (ch i).size) k
def count : T -> Nat -> Nat
 | nil, _ => 0
 | mk _ _ s _ k ch, m => cl (fun i => (ch i).count) m (1 + s.length) k
def same : T -> T -> Bool
 | nil, nil => true
 | nil, mk .. => false
 | mk kind n s op k ch, b => kind == b.kind && n == b.n && s == b.s && op == b.op && k == b.k && all (fun i => (ch i).same (b.ch i)) k
def ok : T -> Prop
 | nil => False
 | mk kind n s op k ch => (-9223372036854775808 <= kind /\ kind <= 9223372036854775807) /\ n < 18446744073709551616 /\ s.length < 4611686018427387904 /\ k < 4611686018427387904 /\ ∀ i, i < k -> (ch i).ok
theorem not_nil : ¬ ok nil := fun h => h
theorem deep_le (t : T) : ∀ m, t.deep m <= m + 1 := by
 induction t with
 | nil => intro m; simp [deep]
 | mk kind n s op k ch ih =>
  intro m
  unfold deep
  split
  . omega
  .
   have : mx (fun i => (ch i).deep (m - 1)) k <= m := mx_le.2 fun i _ => by have := ih i (m - 1); omega
   omega
theorem deep_pos (t : T) : ∀ m, 1 <= t.deep m := by
 cases t with
 | nil => intro m; simp [deep]
 | mk kind n s op k ch =>
  intro m
  unfold deep
  split <;> omega
theorem right_eq (t : T) : ∀ d, t.right d = (decide (t.deep (d + 1) <= d) && t.plain) := by
 induction t with
 | nil => intro d; simp [right, plain]
 | mk kind n s op k ch ih =>
  intro d
  cases d with
  | zero =>
   have := deep_pos (mk kind n s op k ch) (0 + 1)
   rw [show right (mk kind n s op k ch) 0 = false from by unfold right; simp]
   have h : ¬ (mk kind n s op k ch).deep (0 + 1) <= 0 := by omega
   simp [h]
  | succ d =>
   rw [Bool.eq_iff_iff]
   unfold right deep plain
   rw [if_neg (by omega), if_neg (by omega), Bool.and_eq_true, Bool.and_eq_true, Bool.and_eq_true, all_iff, all_iff, decide_eq_true_iff]
   simp only [Nat.add_sub_cancel]
   have e : (mx (fun i => (ch i).deep (d + 1)) k + 1 <= d + 1) ↔ ∀ i, i < k -> (ch i).deep (d + 1) <= d := by
    rw [<- mx_le]; omega
   rw [e]
   constructor
   .
    rintro ⟨h1, h2⟩
    refine ⟨fun i hi => ?_, h1, fun i hi => ?_⟩
    .
     have := h2 i hi
     rw [ih i d] at this
     simp at this
     exact this.1
    .
     have := h2 i hi
     rw [ih i d] at this
     simp at this
     exact this.2
   .
    rintro ⟨h1, h2, h3⟩
    refine ⟨h2, fun i hi => ?_⟩
    rw [ih i d]
    simp [h1 i hi, h3 i hi]
/- The count. -/
/- How long the bytes are. -/
theorem cat_length {f : Nat -> List UInt8} {g : Nat -> Nat} {c k : Nat} (h : ∀ i, i < k -> (f i).length <= c * g i) : (cat f k).length <= c * sum g k := by
 induction k with
 | zero => simp [cat]
 | succ j ih =>
  have := ih (fun i hi => h i (by omega))
  have h2 := h j (by omega)
  rw [cat, sum, List.length_append, Nat.mul_add]
  omega
theorem bytes_le (t : T) : t.bytes.length <= 10 * t.size := by
 induction t with
 | nil => simp [bytes, size]
 | mk kind n s op k ch ih =>
  unfold bytes size
  have := headL_le 0 n
  have := headL_le kind.toNat s.length
  have := headL_le 4 k
  have := cat_length (f := fun i => (ch i).bytes) (g := fun i => (ch i).size) (c := 10) (k := k) (fun i _ => ih i)
  split
  . omega
  .
   split
   . rw [List.length_append]; omega
   .
    rw [List.length_append, List.length_append]
    cases op
    . simp only [Bool.false_eq_true, if_false, List.length_nil]; omega
    . simp only [if_true, List.length_cons, List.length_nil]; omega
theorem sum_le_cat {f : Nat -> List UInt8} {g : Nat -> Nat} {k : Nat} (h : ∀ i, i < k -> g i <= (f i).length) : sum g k <= (cat f k).length := by
 induction k with
 | zero => simp [sum]
 | succ j ih =>
  have := ih (fun i hi => h i (by omega))
  have h2 := h j (by omega)
  rw [cat, sum, List.length_append]
  omega
theorem size_le (t : T) (h : t.plain = true) : t.size <= t.bytes.length := by
 induction t with
 | nil => simp [plain] at h
 | mk kind n s op k ch ih =>
  unfold plain at h
  rw [Bool.and_eq_true, all_iff] at h
  obtain ⟨h1, h2⟩ := h
  unfold bytes size
  have p0 := headL_pos 0 n
  have p1 := headL_pos kind.toNat s.length
  have p2 := headL_pos 4 k
  have hs := sum_le_cat (f := fun i => (ch i).bytes) (g := fun i => (ch i).size) (k := k) (fun i hi => ih i (h2 i hi))
  unfold node at h1
  by_cases a : kind = 0
  .
   rw [if_pos a] at h1 ⊢
   simp at h1
   obtain ⟨⟨rfl, rfl⟩, rfl⟩ := h1
   simp [sum]; omega
  .
   rw [if_neg a] at h1 ⊢
   by_cases b : kind = 2 \/ kind = 3
   .
    rw [if_pos b] at h1
    simp at h1
    obtain ⟨⟨rfl, rfl⟩, rfl⟩ := h1
    rw [if_pos (by omega), List.length_append]
    simp [sum]; omega
   .
    rw [if_neg b] at h1
    by_cases c : kind = 4
    .
     rw [if_pos c] at h1
     simp at h1
     obtain ⟨⟨rfl, rfl⟩, h3⟩ := h1
     rw [if_neg (by omega), List.length_append, List.length_append]
     cases op
     . simp only [Bool.false_eq_true, if_false, List.length_nil]; omega
     . simp only [if_true, List.length_cons, List.length_nil]; omega
    . rw [if_neg c] at h1; cases h1
theorem size_ch {kind : Int} {n : Nat} {s : List UInt8} {op : Bool} {k : Nat} {ch : Nat -> T} {i : Nat} (hi : i < k) : (ch i).size <= (mk kind n s op k ch).size := by
 show (ch i).size <= 1 + s.length + sum (fun i => (ch i).size) k
 have : ∀ j, i < j -> (ch i).size <= sum (fun i => (ch i).size) j := by
  intro j hj
  induction j with
  | zero => omega
  | succ j ih =>
   rw [sum]
   by_cases e : i = j
   . subst e; omega
   . have := ih (by omega); omega
 have := this k hi
 omega
end T
namespace T
def catR : (Nat -> List UInt8) -> Nat -> List UInt8
 | _, 0 => []
 | f, k + 1 => f 0 ++ catR (fun i => f (i + 1)) k
theorem cat_eq (k : Nat) : ∀ f, cat f k = catR f k := by
 have h : ∀ k f, cat f (k + 1) = f 0 ++ cat (fun i => f (i + 1)) k := by
  intro k
  induction k with
  | zero => intro f; simp [cat]
  | succ k ih =>
   intro f
   rw [cat, ih]
   rw [cat]
   simp
 induction k with
 | zero => intro f; rfl
 | succ k ih => intro f; rw [h, catR, ih]
theorem catR_same {R : Nat -> Prop} : ∀ (k : Nat) (f g : Nat -> List UInt8) (x y : List UInt8) (R : Nat -> Prop), (∀ i, i < k -> ∀ u v, f i ++ u = g i ++ v -> R i /\ u = v) -> catR f k ++ x = catR g k ++ y -> (∀ i, i < k -> R i) /\ x = y := by
 intro k
 induction k with
 | zero => intro f g x y R h e; exact ⟨fun i hi => by omega, e⟩
 | succ k ih =>
  intro f g x y R h e
  rw [catR, catR, List.append_assoc, List.append_assoc] at e
  obtain ⟨h0, e1⟩ := h 0 (by omega) _ _ e
  obtain ⟨h1, e2⟩ := ih (fun i => f (i + 1)) (fun i => g (i + 1)) x y (fun i => R (i + 1)) (fun i hi => h (i + 1) (by omega)) e1
  refine ⟨fun i hi => ?_, e2⟩
  cases i with
  | zero => exact h0
  | succ i => exact h1 i (by omega)
theorem catR_end : ∀ (k j : Nat) (f g : Nat -> List UInt8) (x y : List UInt8) (R : Nat -> Prop), (∀ i, i < k -> i < j -> ∀ u v, f i ++ u = g i ++ v -> R i /\ u = v) -> (∀ i, i < k -> ∀ u v, f i ++ u ≠ 255 :: v) -> (∀ i, i < j -> ∀ u v, g i ++ u ≠ 255 :: v) ->
  catR f k ++ 255 :: x = catR g j ++ 255 :: y -> k = j /\ (∀ i, i < k -> R i) /\ x = y := by
 intro k
 induction k with
 | zero =>
  intro j f g x y R h hf hg e
  cases j with
  | zero => simp [catR] at e; exact ⟨rfl, fun i hi => by omega, e⟩
  | succ j => rw [catR, catR, List.append_assoc, List.nil_append] at e; exact absurd e.symm (hg 0 (by omega) _ _)
 | succ k ih =>
  intro j f g x y R h hf hg e
  cases j with
  | zero => rw [catR, catR, List.append_assoc, List.nil_append] at e; exact absurd e (hf 0 (by omega) _ _)
  | succ j =>
   rw [catR, catR, List.append_assoc, List.append_assoc] at e
   obtain ⟨h0, e1⟩ := h 0 (by omega) (by omega) _ _ e
   obtain ⟨hkj, h1, e2⟩ := ih j (fun i => f (i + 1)) (fun i => g (i + 1)) x y (fun i => R (i + 1)) (fun i hi hj => h (i + 1) (by omega) (by omega)) (fun i hi => hf (i + 1) (by omega)) (fun i hi => hg (i + 1) (by omega)) e1
   refine ⟨by omega, fun i hi => ?_, e2⟩
   cases i with
   | zero => exact h0
   | succ i => exact h1 i (by omega)
theorem readH_open (t : List UInt8) : readH (159 :: t) = some (1, 4, 0, true) := by
 unfold readH
 have e : (159 : UInt8).toNat = 159 := rfl
 simp only [e]
 rfl
theorem readH_break (t : List UInt8) : readH (255 :: t) = some (1, 7, 0, true) := by
 unfold readH
 have e : (255 : UInt8).toNat = 255 := rfl
 simp only [e]
 rfl
def hd : T -> Nat × Nat × Nat × Bool
 | nil => (0, 0, 0, false)
 | mk kind n s op k _ => if kind = 0 then ((headL 0 n).length, 0, n, false) else if kind < 4 then ((headL kind.toNat s.length).length, kind.toNat, s.length, false) else if op then (1, 4, 0, true) else ((headL 4 k).length, 4, k, false)
theorem node_kind {kind : Int} {n : Nat} {s : List UInt8} {op : Bool} {k : Nat} (h : node kind n s op k = true) : kind = 0 \/ kind = 2 \/ kind = 3 \/ kind = 4 := by
 unfold node at h
 split at h
 . exact .inl ‹_›
 .
  split at h
  .
   rename_i h1; rcases h1 with h1 | h1
   . exact .inr (.inl h1)
   . exact .inr (.inr (.inl h1))
  .
   split at h
   . exact .inr (.inr (.inr ‹_›))
   . cases h
theorem readH_bytes (t : T) (h : t.plain = true) (hok : t.ok) (x : List UInt8) : readH (t.bytes ++ x) = some t.hd := by
 cases t with
 | nil => cases h
 | mk kind n s op k ch =>
  unfold plain at h
  rw [Bool.and_eq_true] at h
  have hk := node_kind h.1
  unfold ok at hok
  unfold bytes; dsimp only [hd]
  by_cases a : kind = 0
  .
   rw [if_pos a, if_pos a]
   exact readH_head (by omega) hok.2.1 x
  .
   rw [if_neg a, if_neg a]
   by_cases b : kind < 4
   .
    rw [if_pos b, if_pos b, List.append_assoc]
    exact readH_head (by omega) (by have := hok.2.2.1; omega) _
   .
    rw [if_neg b, if_neg b, List.append_assoc]
    cases op
    .
     simp only [Bool.false_eq_true, if_false]
     exact readH_head (by omega) (by have := hok.2.2.2.1; omega) _
    .
     simp only [if_true]
     exact readH_open _
theorem bytes_not_break (t : T) (h : t.plain = true) (hok : t.ok) (u v : List UInt8) : t.bytes ++ u ≠ 255 :: v := by
 intro e
 have h1 := readH_bytes t h hok u
 rw [e, readH_break] at h1
 cases t with
 | nil => cases h
 | mk kind n s op k ch =>
  unfold plain at h
  rw [Bool.and_eq_true] at h
  have hk := node_kind h.1
  dsimp only [hd] at h1
  split at h1
  . simp at h1
  .
   split at h1
   . simp at h1
   . split at h1 <;> simp at h1
theorem bytes_inj (a : T) : ∀ b, a.plain = true -> b.plain = true -> a.ok -> b.ok -> ∀ x y, a.bytes ++ x = b.bytes ++ y -> a.same b = true /\ x = y := by
 induction a with
 | nil => intro b h; cases h
 | mk kind n s op k ch ih =>
  intro b hpa hpb hoa hob x y e
  have r1 := readH_bytes _ hpa hoa x
  have r2 := readH_bytes b hpb hob y
  rw [e, r2] at r1
  have r3 : b.hd = (mk kind n s op k ch).hd := Option.some.inj r1
  clear r1 r2
  cases b with
  | nil => cases hpb
  | mk kind' n' s' op' k' ch' =>
   have qa := hpa; have qb := hpb
   unfold plain at qa qb
   rw [Bool.and_eq_true, all_iff] at qa qb
   have ka := node_kind qa.1; have kb := node_kind qb.1
   obtain ⟨na, pa⟩ := qa
   obtain ⟨nb, pb⟩ := qb
   unfold ok at hoa hob
   have sm : ∀ (h1 : kind = kind') (h2 : n = n') (h3 : s = s') (h4 : op = op') (h5 : k = k') (h6 : ∀ i, i < k -> (ch i).same (ch' i) = true), (mk kind n s op k ch).same (mk kind' n' s' op' k' ch') = true := by
    intro h1 h2 h3 h4 h5 h6
    subst h1 h2 h3 h4 h5
    unfold same
    simp only [T.kind, T.n, T.s, T.op, T.k, T.ch, Bool.and_eq_true, beq_self_eq_true, true_and, all_iff]
    exact h6
   dsimp only [hd] at r3
   unfold node at na nb
   unfold bytes at e
   by_cases a0 : kind = 0
   .
    rw [if_pos a0] at r3 na e
    by_cases b0 : kind' = 0
    .
     rw [if_pos b0] at r3 nb e
     simp at r3 na nb
     obtain ⟨⟨rfl, rfl⟩, rfl⟩ := na
     obtain ⟨⟨rfl, rfl⟩, rfl⟩ := nb
     obtain ⟨_, rfl⟩ := r3
     exact ⟨sm (by omega) rfl rfl rfl rfl (fun i hi => by omega), List.append_cancel_left e⟩
    .
     rw [if_neg b0] at r3
     split at r3
     . simp at r3; omega
     . split at r3 <;> simp at r3
   .
    rw [if_neg a0] at r3 na e
    by_cases b0 : kind' = 0
    .
     rw [if_pos b0] at r3
     split at r3
     . simp at r3; omega
     . split at r3 <;> simp at r3
    .
     rw [if_neg b0] at r3 nb e
     by_cases a4 : kind < 4
     .
      rw [if_pos a4] at r3 e
      rw [if_pos (by omega)] at na
      by_cases b4 : kind' < 4
      .
       rw [if_pos b4] at r3 e
       rw [if_pos (by omega)] at nb
       simp at r3 na nb
       obtain ⟨⟨rfl, rfl⟩, rfl⟩ := na
       obtain ⟨⟨rfl, rfl⟩, rfl⟩ := nb
       obtain ⟨_, hkk, hss⟩ := r3
       obtain rfl : kind = kind' := by omega
       rw [hss, List.append_assoc, List.append_assoc] at e
       have e2 := List.append_cancel_left e
       obtain ⟨rfl, e3⟩ := List.append_inj e2 hss.symm
       exact ⟨sm rfl rfl rfl rfl rfl (fun i hi => by omega), e3⟩
      .
       rw [if_neg b4] at r3
       split at r3
       . simp at r3
       . simp at r3; omega
     .
      rw [if_neg a4] at r3 e
      obtain rfl : kind = 4 := by omega
      by_cases b4 : kind' < 4
      .
       rw [if_pos b4] at r3
       split at r3
       . simp at r3
       . simp at r3; omega
      .
       rw [if_neg b4] at r3 e
       obtain rfl : kind' = 4 := by omega
       rw [if_neg (by omega), if_pos rfl] at na nb
       simp at na nb
       obtain ⟨⟨rfl, rfl⟩, _⟩ := na
       obtain ⟨⟨rfl, rfl⟩, _⟩ := nb
       cases op with
       | false =>
        cases op' with
        | true => simp at r3
        | false =>
         simp only [Bool.false_eq_true, if_false, Prod.mk.injEq, true_and, and_true] at r3
         obtain ⟨_, rfl⟩ := r3
         simp only [Bool.false_eq_true, if_false, List.append_nil, List.append_assoc] at e
         have e2 := List.append_cancel_left e
         rw [cat_eq, cat_eq] at e2
         obtain ⟨h1, h2⟩ := catR_same (R := fun _ => True) k' (fun i => (ch i).bytes) (fun i => (ch' i).bytes) x y (fun i => (ch i).same (ch' i) = true) (fun i hi u v h => ih i (ch' i) (pa i hi) (pb i hi) (hoa.2.2.2.2 i hi) (hob.2.2.2.2 i hi) u v h) e2
         exact ⟨sm rfl rfl rfl rfl rfl h1, h2⟩
       | true =>
        cases op' with
        | false => simp at r3
        | true =>
         simp only [if_true, List.append_assoc, List.cons_append, List.nil_append, List.cons.injEq, true_and] at e
         rw [cat_eq, cat_eq] at e
         obtain ⟨rfl, h1, h2⟩ := catR_end k k' (fun i => (ch i).bytes) (fun i => (ch' i).bytes) x y (fun i => (ch i).same (ch' i) = true) (fun i hi hj u v h => ih i (ch' i) (pa i hi) (pb i hj) (hoa.2.2.2.2 i hi) (hob.2.2.2.2 i hj) u v h)
          (fun i hi => bytes_not_break (ch i) (pa i hi) (hoa.2.2.2.2 i hi)) (fun i hi => bytes_not_break (ch' i) (pb i hi) (hob.2.2.2.2 i hi)) e
         exact ⟨sm rfl rfl rfl rfl rfl h1, h2⟩
theorem same_bytes (a : T) : ∀ b, b.ok -> a.same b = true -> a.bytes = b.bytes := by
 induction a with
 | nil =>
  intro b hb h
  cases b with
  | nil => rfl
  | mk => cases h
 | mk kind n s op k ch ih =>
  intro b hb h
  cases b with
  | nil => cases hb
  | mk kind' n' s' op' k' ch' =>
   unfold same at h
   unfold ok at hb
   simp only [T.kind, T.n, T.s, T.op, T.k, T.ch, Bool.and_eq_true, beq_iff_eq, all_iff] at h
   obtain ⟨⟨⟨⟨⟨rfl, rfl⟩, rfl⟩, rfl⟩, rfl⟩, h6⟩ := h
   have : ∀ j, j <= k -> cat (fun i => (ch i).bytes) j = cat (fun i => (ch' i).bytes) j := by
    intro j hj
    induction j with
    | zero => rfl
    | succ j ih2 => rw [cat, cat, ih2 (by omega), ih j (ch' j) (hb.2.2.2.2 j (by omega)) (h6 j (by omega))]
   unfold bytes
   rw [this k (Nat.le_refl _)]
end T
abbrev itemV (t : T) (A : Option Addr) (c : Nat) : Value := .agg #[.int .i64 t.kind, .int .u64 (t.n : Int), str t.s, .slice A t.k c, .bool t.op]
def At5 (w : World) (b o : Nat) (t : T) (A : Option Addr) (c : Nat) : Prop :=
 w.cell? ⟨b, o, none⟩ = some (.int .i64 t.kind) /\ w.cell? ⟨b, o + 1, none⟩ = some (.int .u64 (t.n : Int)) /\ w.cell? ⟨b, o + 2, none⟩ = some (str t.s) /\ w.cell? ⟨b, o + 3, none⟩ = some (.slice A t.k c) /\ w.cell? ⟨b, o + 4, none⟩ = some (.bool t.op)
def IsL (w : World) (Q : Nat -> Prop) : T -> Option Addr -> Prop
 | T.nil, A => False
 | T.mk _ _ _ _ k ch, A => 0 < k -> ∃ b o, A = some ⟨b, o, none⟩ /\ b < w.heap.size /\ Q b /\ ∀ i, i < k -> ∃ Ai ci, At5 w b (o + i * 5) (ch i) Ai ci /\ IsL w Q (ch i) Ai
theorem At5.mod {w w' : World} {b o : Nat} {t : T} {A : Option Addr} {c : Nat} {S : List Nat} (h : At5 w b o t A c) (hm : Mod S w w') (hb : b < w.heap.size) (hs : b ∉ S) : At5 w' b o t A c := by
 obtain ⟨h0, h1, h2, h3, h4⟩ := h
 exact ⟨(hm.cell hb hs).trans h0, (hm.cell hb hs).trans h1, (hm.cell hb hs).trans h2, (hm.cell hb hs).trans h3, (hm.cell hb hs).trans h4⟩
theorem IsL.mod {w w' : World} {Q : Nat -> Prop} {S : List Nat} (hm : Mod S w w') (hs : ∀ k, Q k -> k < w.heap.size -> k ∉ S) (t : T) : ∀ {A : Option Addr}, IsL w Q t A -> IsL w' Q t A := by
 induction t with
 | nil => intro A h; cases h
 | mk kind n s op k ch ih =>
  intro A h h0
  obtain ⟨b, o, hA, hb, hq, hc⟩ := h h0
  refine ⟨b, o, hA, Nat.lt_of_lt_of_le hb hm.size, hq, fun i hi => ?_⟩
  obtain ⟨Ai, ci, h1, h2⟩ := hc i hi
  exact ⟨Ai, ci, h1.mod hm hb (hs b hq hb), ih i h2⟩
theorem IsL.ext {w w' : World} {Q : Nat -> Prop} {t : T} {A : Option Addr} (h : IsL w Q t A) (hm : Ext w w') : IsL w' Q t A := IsL.mod hm (by simp) t h
theorem IsL.weak {w : World} {Q R : Nat -> Prop} (hq : ∀ k, k < w.heap.size -> Q k -> R k) (t : T) : ∀ {A : Option Addr}, IsL w Q t A -> IsL w R t A := by
 induction t with
 | nil => intro A h; cases h
 | mk kind n s op k ch ih =>
  intro A h h0
  obtain ⟨b, o, hA, hb, hq', hc⟩ := h h0
  refine ⟨b, o, hA, hb, hq b hb hq', fun i hi => ?_⟩
  obtain ⟨Ai, ci, h1, h2⟩ := hc i hi
  exact ⟨Ai, ci, h1, ih i h2⟩
theorem IsL.cells {w W : World} {Q : Nat -> Prop} {kind : Int} {n : Nat} {s : List UInt8} {op : Bool} {k : Nat} {ch : Nat -> T} {A : Option Addr} (h : IsL w Q (.mk kind n s op k ch) A) (hW : Ext w W) {i : Nat} (hi : i < k) :
  ∃ b o Ai ci, A = some ⟨b, o, none⟩ /\ b < w.heap.size /\ At5 W b (o + i * 5) (ch i) Ai ci /\ IsL W Q (ch i) Ai := by
 obtain ⟨b, o, hA, hb, hq, hc⟩ := h (by omega)
 obtain ⟨Ai, ci, h1, h2⟩ := hc i hi
 exact ⟨b, o, Ai, ci, hA, hb, h1.mod hW hb (by simp), h2.ext hW⟩
theorem IsL.leaf {w : World} {Q : Nat -> Prop} {kind : Int} {n : Nat} {s : List UInt8} {op : Bool} {ch : Nat -> T} {A : Option Addr} : IsL w Q (.mk kind n s op 0 ch) A := fun h => by omega
abbrev itemC (t : T) (A : Option Addr) (c : Nat) : Array Value := #[.int .i64 t.kind, .int .u64 (t.n : Int), str t.s, .slice A t.k c, .bool t.op]
set_option maxRecDepth 20000 in
set_option maxHeartbeats 1600000 in
theorem Deep_any (t : T) : ∀ (m : Nat), m <= 9 -> t.ok -> ∀ A c w, IsL w (fun _ => True) t A ->
  Calls Tryz.prog 113 #[itemV t A c, .int .i64 (m : Int)] w (Ret (.int .i64 (t.deep m : Int)) w) := by
 induction t with
 | nil => intro m _ hok; cases hok
 | mk kind n s op k ch ih =>
  intro m hm hok A c w h
  have H := hid h; have HM := hid hm; have HO := hid hok
  have m0 : (0 : Int) <= (m : Int) := by omega
  have m1 : (m : Int) <= 9 := by omega
  clear h hm hok
  show Calls Tryz.prog 113 #[.agg #[.int .i64 kind, .int .u64 (n : Int), str s, .slice A k c, .bool op], .int .i64 (m : Int)] w _
  by_cases hm0 : m < 1
  .
   have e : (T.mk kind n s op k ch).deep m = 1 := by unfold T.deep; rw [if_pos hm0]
   rw [e]
   obtain rfl : m = 0 := by omega
   clear e
   go_enter Tryz.func113, Tryz.ntmps113
   go_wp2
   go_ret
   exact Ret.mk rfl ((Mod.refl _ _).alloc _)
  .
   have e : (T.mk kind n s op k ch).deep m = T.mx (fun i => (ch i).deep (m - 1)) k + 1 := if_neg hm0
   have hl : Hid (∀ j, j <= k -> T.mx (fun i => (ch i).deep (m - 1)) j <= 10) := fun j _ => T.mx_le.2 fun i _ => by have := T.deep_le (ch i) (m - 1); have := HM.out; omega
   rw [e]
   have tm : decide ((m : Int) < 1) = false := by simp; omega
   have tm2 : (m < 1) = False := by simp [hm0]
   have tm3 : (m = 0) = False := by simp; omega
   have HMP : Hid (1 <= m) := by unfold Hid; omega
   have hk : Hid (k < 4611686018427387904) := by have := HO.out; unfold T.ok at this; exact this.2.2.2.1
   have HB : Hid (Blk (w.alloc (.cells #[.int .i64 kind, .int .u64 (n : Int), str s, .slice A k c, .bool op] 68)) w.heap.size 68 #[.int .i64 kind, .int .u64 (n : Int), str s, .slice A k c, .bool op]) := Blk.new _ _ _
   have HE0 := hid ((Mod.refl [] w).alloc (.cells #[.int .i64 kind, .int .u64 (n : Int), str s, .slice A k c, .bool op] 68))
   clear e hm0
   go_enter Tryz.func113, Tryz.ntmps113
   go_wp2_with fail
   go_loopw [5, 6] (fun s5 s6 wr => ∃ i : Nat, i <= k /\ s6 = .int .i64 (i : Int) /\ s5 = .int .i64 (T.mx (fun i => (ch i).deep (m - 1)) i : Nat) /\ Hid (Ext w wr /\ Blk wr w.heap.size 68 #[.int .i64 kind, .int .u64 (n : Int), str s, .slice A k c, .bool op])) (fun _ i _ => k - (intOf i).toNat)
   case atStart => exact ⟨0, Nat.zero_le _, rfl, rfl, HE0.out, HB.out⟩
   case round =>
    obtain ⟨i, hi, rfl, rfl, hH⟩ := hrel
    have i0 : (0 : Int) <= (i : Int) := by omega
    have c3 : wr.cell? ⟨w.heap.size, 3, none⟩ = some (.slice A k c) := hH.out.2.cell 3
    have x1 := hl.out i hi
    by_cases hlt : i < k
    .
     obtain ⟨b, o, Ai, ci, rfl, hb, ⟨k0, k1, k2, k3, k4⟩, hL⟩ := H.out.cells hH.out.1 hlt
     have i1 : (i : Int) < (k : Int) := by omega
     have hk2 : (k : Int) < 4611686018427387904 := by have := hk.out; omega
     have ti : decide (i < k) = true := by simp [hlt]
     have ha : (m : Int) - 1 = ((m - 1 : Nat) : Int) := by have := HMP.out; omega
     have hd1 := T.deep_le (ch i) (m - 1)
     have HD : Hid ((ch i).deep (m - 1) <= 10) := by have := HM.out; unfold Hid; omega
     have HX := hid x1
     have HL := hid hL; have HLT := hid hlt
     have HOi : Hid (ch i).ok := by have := HO.out; unfold T.ok at this; exact this.2.2.2.2 i hlt
     have HMX : Hid (T.mx (fun i => (ch i).deep (m - 1)) (i + 1) = max (T.mx (fun i => (ch i).deep (m - 1)) i) ((ch i).deep (m - 1))) := rfl
     have HI := hid (ih i)
     clear hL hlt hd1 ih
     generalize T.mx (fun i => (ch i).deep (m - 1)) i = M at *
     go_wp2_with fail
     refine (HI.out (m - 1) (by have := HM.out; omega) HOi.out Ai ci _ HL.out).mono ?_
     rintro e w3 ⟨rfl, hb3⟩
     generalize (ch i).deep (m - 1) = D at *
     have HE3 := hid (hH.out.1.trans hb3)
     have HB3 := hid (hH.out.2.ext hb3)
     clear hb3
     go_wp2_with fail
     have hlt := HLT.out
     refine ⟨⟨i + 1, by omega, by simp, ?_, (show Hid _ from ⟨HE3.out, HB3.out⟩)⟩, ?_⟩
     . rw [HMX.out]; congr 1; omega
     . simp only [intOf]; omega
    .
     obtain rfl : i = k := by omega
     have ti : decide (i < i) = false := by simp
     clear ih
     go_wp2_with fail
     go_ret
     exact Ret.mk rfl hH.out.1
theorem infoItem : (Tryz.prog.info? 68).map (fun i => (i.zero, i.size, i.bytes)) = some (some (.agg #[.int .i64 0, .int .u64 0, .string ⟨#[]⟩, .slice none 0 0, .bool false]), 5, 64) := by kernel_rfl
theorem ownsRow_mod {w w' : World} {S : List Nat} {base : Nat} {e : TypeId} {size : Nat} {v : Value} {n : Nat} {xs : List Value} (h : w.ownsRow base e size v n xs) (hm : Mod S w w') (hs : ∀ k, v.ownBlock = some k -> k ∉ S) : w'.ownsRow base e size v n xs := by
 refine ⟨h.1, ?_⟩
 have hlt := h.lt
 rcases h.2 with h0 | ⟨g, cap, cur, rfl, hbg, hg, hnc, hcm, hcs, htake⟩
 . exact .inl h0
 . exact .inr ⟨g, cap, cur, rfl, hbg, (hm.block g (hlt g rfl).2 (hs g rfl)).trans hg, hnc, hcm, hcs, htake⟩
theorem own_form {w : World} {base : Nat} {e : TypeId} {size : Nat} {v : Value} {n : Nat} {xs : List Value} (h : w.ownsRow base e size v (n + 1) xs) : ∃ g c, v = .slice (some ⟨g, 0, none⟩) (n + 1) c /\ base <= g /\ g < w.heap.size := by
 have hlt := h.lt
 rcases h.2 with ⟨_, h0⟩ | ⟨g, cap, cur, rfl, hbg, hg, _⟩
 . cases h0
 . exact ⟨g, cap, rfl, hbg, (hlt g rfl).2⟩
theorem news5 (W : World) (t : T) (A : Option Addr) (c : Nat) : ∀ j u, [Value.int .i64 t.kind, .int .u64 (t.n : Int), str t.s, .slice A t.k c, .bool t.op][j]? = some u ->
  (W.alloc (.cells (itemC t A c) 68)).cell? ((⟨W.heap.size, 0, none⟩ : Addr).add j) = some u := by
 intro j u hj
 rw [addr_add, Nat.zero_add]
 rw [(Blk.new W 68 (itemC t A c)).cell j]
 simpa using hj
theorem one5 (t : T) (A : Option Addr) (c : Nat) : ∀ u ∈ [Value.int .i64 t.kind, .int .u64 (t.n : Int), str t.s, .slice A t.k c, .bool t.op], u.oneCell' = true := by
 intro u hu
 simp at hu
 rcases hu with rfl | rfl | rfl | rfl | rfl <;> rfl
theorem own_of_blk {w : World} {g base n size : Nat} {e : TypeId} {cs : Array Value} (h : Blk w g e cs) (hb : base <= g) (hn : n <= maxLen) (hs : cs.size = n * size) : w.ownsRow base e size (.slice (some ⟨g, 0, none⟩) n n) n cs.toList :=
 ⟨by simpa using hs, .inr ⟨g, n, cs, rfl, hb, h, Nat.le_refl _, hn, hs, by rw [<- hs]; exact List.take_of_length_le (by simp)⟩⟩
theorem own_cells {w : World} {g base n c size : Nat} {e : TypeId} {xs : List Value} (h : w.ownsRow base e size (.slice (some ⟨g, 0, none⟩) n c) n xs) {j : Nat} {u : Value} (hj : xs[j]? = some u) : w.cell? ⟨g, j, none⟩ = some u := by
 have := h.cells (g := g) rfl j u hj
 rw [addr_add, Nat.zero_add] at this
 exact this
def flatC (ch : Nat -> T) (ac : Nat -> Option Addr × Nat) : Nat -> List Value
 | 0 => []
 | i + 1 => flatC ch ac i ++ [.int .i64 (ch i).kind, .int .u64 ((ch i).n : Int), str (ch i).s, .slice (ac i).1 (ch i).k (ac i).2, .bool (ch i).op]
theorem flatC_length (ch : Nat -> T) (ac : Nat -> Option Addr × Nat) (i : Nat) : (flatC ch ac i).length = i * 5 := by
 induction i with
 | zero => rfl
 | succ i ih => rw [flatC, List.length_append, ih]; simp; omega
theorem flatC_congr {ch ch' : Nat -> T} {ac ac' : Nat -> Option Addr × Nat} {i : Nat} (h : ∀ j, j < i -> ch j = ch' j /\ ac j = ac' j) : flatC ch ac i = flatC ch' ac' i := by
 induction i with
 | zero => rfl
 | succ i ih => rw [flatC, flatC, ih (fun j hj => h j (by omega)), (h i (by omega)).1, (h i (by omega)).2]
theorem flatC_get (ch : Nat -> T) (ac : Nat -> Option Addr × Nat) (i : Nat) : ∀ j, j < i -> (flatC ch ac i)[j * 5]? = some (.int .i64 (ch j).kind) /\ (flatC ch ac i)[j * 5 + 1]? = some (.int .u64 ((ch j).n : Int)) /\ (flatC ch ac i)[j * 5 + 2]? = some (str (ch j).s) /\
  (flatC ch ac i)[j * 5 + 3]? = some (.slice (ac j).1 (ch j).k (ac j).2) /\ (flatC ch ac i)[j * 5 + 4]? = some (.bool (ch j).op) := by
 induction i with
 | zero => intro j hj; omega
 | succ i ih =>
  intro j hj
  have hl := flatC_length ch ac i
  rw [flatC]
  by_cases e : j = i
  .
   subst e
   refine ⟨?_, ?_, ?_, ?_, ?_⟩ <;> (rw [List.getElem?_append_right (by omega), hl]; simp)
  .
   have := ih j (by omega)
   refine ⟨?_, ?_, ?_, ?_, ?_⟩ <;> rw [List.getElem?_append_left (by omega)]
   . exact this.1
   . exact this.2.1
   . exact this.2.2.1
   . exact this.2.2.2.1
   . exact this.2.2.2.2
theorem flatC_idx (ch : Nat -> T) (ac : Nat -> Option Addr × Nat) (k : Nat) {j : Nat} {u : Value} (h : (flatC ch ac k)[j]? = some u) : ∃ i r, i < k /\ r < 5 /\ j = i * 5 + r := by
 have := (List.getElem?_eq_some_iff.1 h).1
 rw [flatC_length] at this
 exact ⟨j / 5, j % 5, by omega, by omega, by omega⟩
theorem flatC_news {W : World} {b o : Nat} {ch : Nat -> T} {ac : Nat -> Option Addr × Nat} {k : Nat} (h : ∀ i, i < k -> At5 W b (o + i * 5) (ch i) (ac i).1 (ac i).2) : ∀ j u, (flatC ch ac k)[j]? = some u -> W.cell? ((⟨b, o, none⟩ : Addr).add j) = some u := by
 intro j u hj
 obtain ⟨i, r, hi, hr, rfl⟩ := flatC_idx ch ac k hj
 obtain ⟨g0, g1, g2, g3, g4⟩ := flatC_get ch ac k i hi
 obtain ⟨a0, a1, a2, a3, a4⟩ := h i hi
 rw [addr_add, <- Nat.add_assoc]
 have h5 : r = 0 \/ r = 1 \/ r = 2 \/ r = 3 \/ r = 4 := by omega
 rcases h5 with rfl | rfl | rfl | rfl | rfl
 . rw [<- hj, Nat.add_zero, Nat.add_zero, g0]; exact a0
 . rw [<- hj, g1]; exact a1
 . rw [<- hj, g2]; exact a2
 . rw [<- hj, g3]; exact a3
 . rw [<- hj, g4]; exact a4
theorem flatC_one (ch : Nat -> T) (ac : Nat -> Option Addr × Nat) (k : Nat) : ∀ u ∈ flatC ch ac k, u.oneCell' = true := by
 intro u hu
 obtain ⟨j, hj⟩ := List.getElem?_of_mem hu
 obtain ⟨i, r, hi, hr, rfl⟩ := flatC_idx ch ac k hj
 obtain ⟨g0, g1, g2, g3, g4⟩ := flatC_get ch ac k i hi
 have h5 : r = 0 \/ r = 1 \/ r = 2 \/ r = 3 \/ r = 4 := by omega
 rcases h5 with rfl | rfl | rfl | rfl | rfl
 . rw [Nat.add_zero, g0] at hj; cases hj; rfl
 . rw [g1] at hj; cases hj; rfl
 . rw [g2] at hj; cases hj; rfl
 . rw [g3] at hj; cases hj; rfl
 . rw [g4] at hj; cases hj; rfl
theorem IsL.rows {W : World} {Q : Nat -> Prop} {kind : Int} {n : Nat} {s : List UInt8} {op : Bool} {k : Nat} {ch : Nat -> T} {A : Option Addr} (h : IsL W Q (T.mk kind n s op k ch) A) (hk : 0 < k) :
  ∃ (b o : Nat) (ac : Nat -> Option Addr × Nat), A = some ⟨b, o, none⟩ /\ b < W.heap.size /\ Q b /\ ∀ i, i < k -> At5 W b (o + i * 5) (ch i) (ac i).1 (ac i).2 /\ IsL W Q (ch i) (ac i).1 := by
 obtain ⟨b, o, hA, hb, hq, hc⟩ := h hk
 have hex : ∀ i, ∃ p : Option Addr × Nat, i < k -> At5 W b (o + i * 5) (ch i) p.1 p.2 /\ IsL W Q (ch i) p.1 := fun i => by
  by_cases hi : i < k
  .
   obtain ⟨Ai, ci, h1, h2⟩ := hc i hi
   exact ⟨(Ai, ci), fun _ => ⟨h1, h2⟩⟩
  . exact ⟨(none, 0), fun h => absurd h hi⟩
 exact ⟨b, o, fun i => (hex i).choose, hA, hb, hq, fun i hi => (hex i).choose_spec hi⟩
theorem own_IsL {W : World} {Q : Nat -> Prop} {base g c k : Nat} {ch : Nat -> T} {ac : Nat -> Option Addr × Nat} (hlt : g < W.heap.size) (q : Q g) (h : W.ownsRow base 68 5 (.slice (some ⟨g, 0, none⟩) k c) k (flatC ch ac k)) (hI : ∀ i, i < k -> IsL W Q (ch i) (ac i).1) : IsL W Q (T.mk 4 0 [] false k ch) (some ⟨g, 0, none⟩) := fun _ => ⟨g, 0, rfl, hlt, q, fun i hi => by
 obtain ⟨g0, g1, g2, g3, g4⟩ := flatC_get ch ac k i hi
 refine ⟨(ac i).1, (ac i).2, ⟨?_, ?_, ?_, ?_, ?_⟩, hI i hi⟩
 . rw [Nat.zero_add]; exact own_cells h g0
 . rw [Nat.zero_add]; exact own_cells h g1
 . rw [Nat.zero_add]; exact own_cells h g2
 . rw [Nat.zero_add]; exact own_cells h g3
 . rw [Nat.zero_add]; exact own_cells h g4⟩
theorem own_last {W : World} {base g c n : Nat} {ch : Nat -> T} {ac : Nat -> Option Addr × Nat} (t : T) (A : Option Addr) (ca : Nat) (h : W.ownsRow base 68 5 (.slice (some ⟨g, 0, none⟩) (n + 1) c) (n + 1) (flatC ch ac (n + 1))) :
  (((((W.setCell ⟨g, n * 5, none⟩ (.int .i64 t.kind)).setCell ⟨g, n * 5 + 1, none⟩ (.int .u64 (t.n : Int))).setCell ⟨g, n * 5 + 2, none⟩ (str t.s)).setCell ⟨g, n * 5 + 3, none⟩ (.slice A t.k ca)).setCell ⟨g, n * 5 + 4, none⟩ (.bool t.op)).ownsRow base 68 5 (.slice (some ⟨g, 0, none⟩) (n + 1) c) (n + 1)
   (flatC (fun i => if i = n then t else ch i) (fun i => if i = n then (A, ca) else ac i) (n + 1)) := by
 have h5 := ((((h.stored (n * 5) (.int .i64 t.kind)).1.stored (n * 5 + 1) (.int .u64 (t.n : Int))).1.stored (n * 5 + 2) (str t.s)).1.stored (n * 5 + 3) (.slice A t.k ca)).1.stored (n * 5 + 4) (.bool t.op)
 have hl := flatC_length ch ac n
 have e : (((((flatC ch ac (n + 1)).set (n * 5) (.int .i64 t.kind)).set (n * 5 + 1) (.int .u64 (t.n : Int))).set (n * 5 + 2) (str t.s)).set (n * 5 + 3) (.slice A t.k ca)).set (n * 5 + 4) (.bool t.op) = flatC (fun i => if i = n then t else ch i) (fun i => if i = n then (A, ca) else ac i) (n + 1) := by
  have hc : flatC (fun i => if i = n then t else ch i) (fun i => if i = n then (A, ca) else ac i) n = flatC ch ac n := flatC_congr fun j hj => by
   have : ¬ j = n := by omega
   simp [this]
  rw [flatC, flatC, hc, <- hl]
  simp
 rw [e] at h5
 exact h5.1
end Go.Proofs.YtmckfdmdkljomaaGreatDoor
