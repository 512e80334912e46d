/-
 From a law's walk to the given statement: the arguments read behind the call as before, because nothing that was there has turned.
-/
import Derived.Test.YthecmnbkjchjmaaGreatMExtAgesaa
import Derived.ProofKit
import Derived.OpenShut
import Derived.ShutString
import Derived.ChangeOld
import Derived.Maps.Own
import Derived.Maps.OwnOps
import Derived.Maps.Views

namespace Go.Proofs.YthecmnbkjchjmaaGreat
open Go.ChangeShapes Go.WideShapes Go.ChangeAt Go.RowKit
set_option linter.unusedVariables false
set_option linter.unusedSimpArgs false

theorem own : ownKnob Tryz.prog.godebug = none := by kernel_rfl
theorem laidOut : laidOutB Tryz.prog = true := by kernel_rfl

theorem trodAll_below {H : Type} {enc : TypeId × Value -> H} {W W' : World} (hb : Below W.heap.size W W') : ∀ (ts : List TypeId) (vs : List Value) (ds : List (DataW H)) (ps : List MemPlace),
  (∀ t ∈ ts, Tryz.prog.readableRec t = true /\ t < Tryz.prog.types.size) -> DataW.TrodAll enc Tryz.prog W 0 (fun _ => true) true ts vs ds ps -> DataW.TrodAll enc Tryz.prog W' 0 (fun b => decide (b < W.heap.size)) true ts vs ds ps
 | [], vs, ds, ps, _, h => by obtain ⟨rfl, rfl, rfl⟩ := trodAll_nil h; exact trodAll_mk0
 | t :: ts, vs, ds, ps, hr, h => by
  obtain ⟨v, vs', d, ds', p, q, rfl, rfl, rfl, h1, h2⟩ := trodAll_cons h
  have hlt : ∀ x ∈ p, x.block < W.heap.size := by obtain ⟨m, hm⟩ := h1; exact DataW.trod_lt m _ _ _ hm
  have hr1 := hr t List.mem_cons_self
  exact trodAll_cons_mk (Below.trod laidOut hr1.1 hr1.2 h1 hb hlt) (trodAll_below hb ts vs' ds' q (fun t ht => hr t (List.mem_cons_of_mem _ ht)) h2)

theorem law_post {H : Type} {enc : TypeId × Value -> H} {f : Func} {spec : ChangeSpec} {W W' : World} {args : Array Value} {ds gs : List (DataW H)} {before : List MemPlace} {tb : TypeId}
  (hvars : spec.vars = []) (hW : DataW.Whole enc Tryz.prog f.params.toList spec.vars false W args.toList ds gs before)
  (hfn : spec.fn H ds = { results := [.lit (.bool true)], args := ds }) (hres : f.resultTypes = #[tb]) (htb : Tryz.prog.underlying tb = some .bool)
  (hread : ∀ t ∈ f.params.toList, Tryz.prog.readableRec t = true /\ t < Tryz.prog.types.size) (hb : Below W.heap.size W W') :
  spec.post enc Tryz.prog f false true false false W args (.bool true) W' := by
 have hW' := hW
 obtain ⟨p, q, hA, hV, rfl, hfz, hnd⟩ := hW
 rw [hvars] at hV
 obtain ⟨rfl, rfl⟩ := trodVars_none hV
 refine ⟨ds, [], p ++ [], [], p, [], hW', ?_, ?_, ?_, hb.frame _, fun h => by cases h⟩
 .
  rw [List.append_nil, hfn, hres]
  exact trodAll_mk1 (shut_bool htb _)
 .
  rw [List.append_nil, hfn]
  exact trodAll_below hb _ _ _ _ hread hA
 .
  rw [List.append_nil, hfn, hvars]
  rfl
end Go.Proofs.YthecmnbkjchjmaaGreat


namespace Go.Proofs.YthecmnbkjchjmaaGreat
set_option linter.unusedVariables false
set_option linter.unusedSimpArgs false

inductive T where
 | nil
 | mk (kind : Int) (n : Nat) (s : List UInt8) (op : Bool) (k : Nat) (ch : Nat -> T)
namespace T
def kind : T -> Int | nil => 0 | mk a _ _ _ _ _ => a
def n : T -> Nat | nil => 0 | mk _ a _ _ _ _ => a
def s : T -> List UInt8 | nil => [] | mk _ _ a _ _ _ => a
def op : T -> Bool | nil => false | mk _ _ _ a _ _ => a
def k : T -> Nat | nil => 0 | mk _ _ _ _ a _ => a
def ch : T -> Nat -> T | nil => fun _ => nil | mk _ _ _ _ _ a => a

def mx (f : Nat -> Nat) : Nat -> Nat
 | 0 => 0
 | j + 1 => max (mx f j) (f j)
def all (f : Nat -> Bool) : Nat -> Bool
 | 0 => true
 | j + 1 => all f j && f j
def cat (f : Nat -> List UInt8) : Nat -> List UInt8
 | 0 => []
 | j + 1 => cat f j ++ f j
def sum (f : Nat -> Nat) : Nat -> Nat
 | 0 => 0
 | j + 1 => sum f j + f j
def cl (f : Nat -> Nat -> Nat) (m n0 : Nat) : Nat -> Nat
 | 0 => n0
 | j + 1 => if cl f m n0 j <= m then cl f m n0 j + f j (m - cl f m n0 j) else cl f m n0 j

theorem all_iff {f : Nat -> Bool} {k : Nat} : all f k = true ↔ ∀ i, i < k -> f i = true := by
 induction k with
 | zero => simp [all]
 | succ j ih =>
  rw [all, Bool.and_eq_true, ih]
  constructor
  .
   rintro ⟨h1, h2⟩ i hi
   by_cases e : i = j
   . subst e; exact h2
   . exact h1 i (by omega)
  .
   intro h
   exact ⟨fun i hi => h i (by omega), h j (by omega)⟩
theorem mx_le {f : Nat -> Nat} {k d : Nat} : mx f k <= d ↔ ∀ i, i < k -> f i <= d := by
 induction k with
 | zero => simp [mx]
 | succ j ih =>
  rw [mx, Nat.max_le, ih]
  constructor
  .
   rintro ⟨h1, h2⟩ i hi
   by_cases e : i = j
   . subst e; exact h2
   . exact h1 i (by omega)
  .
   intro h
   exact ⟨fun i hi => h i (by omega), h j (by omega)⟩

def deep : T -> Nat -> Nat
 | nil, _ => 1
 | mk _ _ _ _ k ch, m => if m < 1 then 1 else mx (fun i => (ch i).deep (m - 1)) k + 1
def node (kind : Int) (n : Nat) (s : List UInt8) (op : Bool) (k : Nat) : Bool :=
 if kind = 0 then s == [] && k == 0 && !op else if kind = 2 \/ kind = 3 then n == 0 && k == 0 && !op else if kind = 4 then n == 0 && s == [] && decide (k <= 1000) else false
def plain : T -> Bool
 | nil => false
 | mk kind n s op k ch => node kind n s op k && all (fun i => (ch i).plain) k
def right : T -> Nat -> Bool
 | nil, _ => false
 | mk kind n s op k ch, d => if d < 1 then false else node kind n s op k && all (fun i => (ch i).right (d - 1)) k
def bytes : T -> List UInt8
 | nil => []
 | mk kind n s op k ch => if kind = 0 then headL 0 n else if kind < 4 then headL kind.toNat s.length ++ s else
   (if op then [159] else headL 4 k) ++ (cat (fun i => (ch i).bytes) k ++ (if op then [255] else []))
def size : T -> Nat
 | nil => 0
 | mk _ _ s _ k ch => 1 + s.length + sum (fun i => (ch i).size) k
def count : T -> Nat -> Nat
 | nil, _ => 0
 | mk _ _ s _ k ch, m => cl (fun i => (ch i).count) m (1 + s.length) k
def same : T -> T -> Bool
 | nil, nil => true
 | nil, mk .. => false
 | mk kind n s op k ch, b => kind == b.kind && n == b.n && s == b.s && op == b.op && k == b.k && all (fun i => (ch i).same (b.ch i)) k
def ok : T -> Prop
 | nil => False
 | mk kind n s op k ch => (-9223372036854775808 <= kind /\ kind <= 9223372036854775807) /\ n < 18446744073709551616 /\ s.length < 4611686018427387904 /\ k < 4611686018427387904 /\ ∀ i, i < k -> (ch i).ok

theorem not_nil : ¬ ok nil := fun h => h
theorem deep_le (t : T) : ∀ m, t.deep m <= m + 1 := by
 induction t with
 | nil => intro m; simp [deep]
 | mk kind n s op k ch ih =>
  intro m
  unfold deep
  split
  . omega
  .
   have : mx (fun i => (ch i).deep (m - 1)) k <= m := mx_le.2 fun i _ => by have := ih i (m - 1); omega
   omega
theorem deep_pos (t : T) : ∀ m, 1 <= t.deep m := by
 cases t with
 | nil => intro m; simp [deep]
 | mk kind n s op k ch =>
  intro m
  unfold deep
  split <;> omega

theorem right_eq (t : T) : ∀ d, t.right d = (decide (t.deep (d + 1) <= d) && t.plain) := by
 induction t with
 | nil => intro d; simp [right, plain]
 | mk kind n s op k ch ih =>
  intro d
  cases d with
  | zero =>
   have := deep_pos (mk kind n s op k ch) (0 + 1)
   rw [show right (mk kind n s op k ch) 0 = false from by unfold right; simp]
   have h : ¬ (mk kind n s op k ch).deep (0 + 1) <= 0 := by omega
   simp [h]
  | succ d =>
   rw [Bool.eq_iff_iff]
   unfold right deep plain
   rw [if_neg (by omega), if_neg (by omega), Bool.and_eq_true, Bool.and_eq_true, Bool.and_eq_true, all_iff, all_iff, decide_eq_true_iff]
   simp only [Nat.add_sub_cancel]
   have e : (mx (fun i => (ch i).deep (d + 1)) k + 1 <= d + 1) ↔ ∀ i, i < k -> (ch i).deep (d + 1) <= d := by
    rw [<- mx_le]; omega
   rw [e]
   constructor
   .
    rintro ⟨h1, h2⟩
    refine ⟨fun i hi => ?_, h1, fun i hi => ?_⟩
    .
     have := h2 i hi
     rw [ih i d] at this
     simp at this
     exact this.1
    .
     have := h2 i hi
     rw [ih i d] at this
     simp at this
     exact this.2
   .
    rintro ⟨h1, h2, h3⟩
    refine ⟨h2, fun i hi => ?_⟩
    rw [ih i d]
    simp [h1 i hi, h3 i hi]

/- The count. -/
/- How long the bytes are. -/
theorem cat_length {f : Nat -> List UInt8} {g : Nat -> Nat} {c k : Nat} (h : ∀ i, i < k -> (f i).length <= c * g i) : (cat f k).length <= c * sum g k := by
 induction k with
 | zero => simp [cat]
 | succ j ih =>
  have := ih (fun i hi => h i (by omega))
  have h2 := h j (by omega)
  rw [cat, sum, List.length_append, Nat.mul_add]
  omega
theorem bytes_le (t : T) : t.bytes.length <= 10 * t.size := by
 induction t with
 | nil => simp [bytes, size]
 | mk kind n s op k ch ih =>
  unfold bytes size
  have := headL_le 0 n
  have := headL_le kind.toNat s.length
  have := headL_le 4 k
  have := cat_length (f := fun i => (ch i).bytes) (g := fun i => (ch i).size) (c := 10) (k := k) (fun i _ => ih i)
  split
  . omega
  .
   split
   . rw [List.length_append]; omega
   .
    rw [List.length_append, List.length_append]
    cases op
    . simp only [Bool.false_eq_true, if_false, List.length_nil]; omega
    . simp only [if_true, List.length_cons, List.length_nil]; omega
theorem sum_le_cat {f : Nat -> List UInt8} {g : Nat -> Nat} {k : Nat} (h : ∀ i, i < k -> g i <= (f i).length) : sum g k <= (cat f k).length := by
 induction k with
 | zero => simp [sum]
 | succ j ih =>
  have := ih (fun i hi => h i (by omega))
  have h2 := h j (by omega)
  rw [cat, sum, List.length_append]
  omega
theorem size_le (t : T) (h : t.plain = true) : t.size <= t.bytes.length := by
 induction t with
 | nil => simp [plain] at h
 | mk kind n s op k ch ih =>
  unfold plain at h
  rw [Bool.and_eq_true, all_iff] at h
  obtain ⟨h1, h2⟩ := h
  unfold bytes size
  have p0 := headL_pos 0 n
  have p1 := headL_pos kind.toNat s.length
  have p2 := headL_pos 4 k
  have hs := sum_le_cat (f := fun i => (ch i).bytes) (g := fun i => (ch i).size) (k := k) (fun i hi => ih i (h2 i hi))
  unfold node at h1
  by_cases a : kind = 0
  .
   rw [if_pos a] at h1 ⊢
   simp at h1
   obtain ⟨⟨rfl, rfl⟩, rfl⟩ := h1
   simp [sum]; omega
  .
   rw [if_neg a] at h1 ⊢
   by_cases b : kind = 2 \/ kind = 3
   .
    rw [if_pos b] at h1
    simp at h1
    obtain ⟨⟨rfl, rfl⟩, rfl⟩ := h1
    rw [if_pos (by omega), List.length_append]
    simp [sum]; omega
   .
    rw [if_neg b] at h1
    by_cases c : kind = 4
    .
     rw [if_pos c] at h1
     simp at h1
     obtain ⟨⟨rfl, rfl⟩, h3⟩ := h1
     rw [if_neg (by omega), List.length_append, List.length_append]
     cases op
     . simp only [Bool.false_eq_true, if_false, List.length_nil]; omega
     . simp only [if_true, List.length_cons, List.length_nil]; omega
    . rw [if_neg c] at h1; cases h1
theorem size_ch {kind : Int} {n : Nat} {s : List UInt8} {op : Bool} {k : Nat} {ch : Nat -> T} {i : Nat} (hi : i < k) : (ch i).size <= (mk kind n s op k ch).size := by
 show (ch i).size <= 1 + s.length + sum (fun i => (ch i).size) k
 have : ∀ j, i < j -> (ch i).size <= sum (fun i => (ch i).size) j := by
  intro j hj
  induction j with
  | zero => omega
  | succ j ih =>
   rw [sum]
   by_cases e : i = j
   . subst e; omega
   . have := ih (by omega); omega
 have := this k hi
 omega
end T
end Go.Proofs.YthecmnbkjchjmaaGreat


namespace Go.Proofs.YthecmnbkjchjmaaGreat
set_option linter.unusedVariables false
set_option linter.unusedSimpArgs false
namespace T

def catR : (Nat -> List UInt8) -> Nat -> List UInt8
 | _, 0 => []
 | f, k + 1 => f 0 ++ catR (fun i => f (i + 1)) k
theorem cat_eq (k : Nat) : ∀ f, cat f k = catR f k := by
 have h : ∀ k f, cat f (k + 1) = f 0 ++ cat (fun i => f (i + 1)) k := by
  intro k
  induction k with
  | zero => intro f; simp [cat]
  | succ k ih =>
   intro f
   rw [cat, ih]
   rw [cat]
   simp
 induction k with
 | zero => intro f; rfl
 | succ k ih => intro f; rw [h, catR, ih]

theorem catR_same {R : Nat -> Prop} : ∀ (k : Nat) (f g : Nat -> List UInt8) (x y : List UInt8) (R : Nat -> Prop), (∀ i, i < k -> ∀ u v, f i ++ u = g i ++ v -> R i /\ u = v) -> catR f k ++ x = catR g k ++ y -> (∀ i, i < k -> R i) /\ x = y := by
 intro k
 induction k with
 | zero => intro f g x y R h e; exact ⟨fun i hi => by omega, e⟩
 | succ k ih =>
  intro f g x y R h e
  rw [catR, catR, List.append_assoc, List.append_assoc] at e
  obtain ⟨h0, e1⟩ := h 0 (by omega) _ _ e
  obtain ⟨h1, e2⟩ := ih (fun i => f (i + 1)) (fun i => g (i + 1)) x y (fun i => R (i + 1)) (fun i hi => h (i + 1) (by omega)) e1
  refine ⟨fun i hi => ?_, e2⟩
  cases i with
  | zero => exact h0
  | succ i => exact h1 i (by omega)
theorem catR_end : ∀ (k j : Nat) (f g : Nat -> List UInt8) (x y : List UInt8) (R : Nat -> Prop), (∀ i, i < k -> i < j -> ∀ u v, f i ++ u = g i ++ v -> R i /\ u = v) -> (∀ i, i < k -> ∀ u v, f i ++ u ≠ 255 :: v) -> (∀ i, i < j -> ∀ u v, g i ++ u ≠ 255 :: v) ->
  catR f k ++ 255 :: x = catR g j ++ 255 :: y -> k = j /\ (∀ i, i < k -> R i) /\ x = y := by
 intro k
 induction k with
 | zero =>
  intro j f g x y R h hf hg e
  cases j with
  | zero => simp [catR] at e; exact ⟨rfl, fun i hi => by omega, e⟩
  | succ j => rw [catR, catR, List.append_assoc, List.nil_append] at e; exact absurd e.symm (hg 0 (by omega) _ _)
 | succ k ih =>
  intro j f g x y R h hf hg e
  cases j with
  | zero => rw [catR, catR, List.append_assoc, List.nil_append] at e; exact absurd e (hf 0 (by omega) _ _)
  | succ j =>
   rw [catR, catR, List.append_assoc, List.append_assoc] at e
   obtain ⟨h0, e1⟩ := h 0 (by omega) (by omega) _ _ e
   obtain ⟨hkj, h1, e2⟩ := ih j (fun i => f (i + 1)) (fun i => g (i + 1)) x y (fun i => R (i + 1)) (fun i hi hj => h (i + 1) (by omega) (by omega)) (fun i hi => hf (i + 1) (by omega)) (fun i hi => hg (i + 1) (by omega)) e1
   refine ⟨by omega, fun i hi => ?_, e2⟩
   cases i with
   | zero => exact h0
   | succ i => exact h1 i (by omega)

theorem readH_open (t : List UInt8) : readH (159 :: t) = some (1, 4, 0, true) := by
 unfold readH
 have e : (159 : UInt8).toNat = 159 := rfl
 simp only [e]
 rfl
theorem readH_break (t : List UInt8) : readH (255 :: t) = some (1, 7, 0, true) := by
 unfold readH
 have e : (255 : UInt8).toNat = 255 := rfl
 simp only [e]
 rfl

def hd : T -> Nat × Nat × Nat × Bool
 | nil => (0, 0, 0, false)
 | mk kind n s op k _ => if kind = 0 then ((headL 0 n).length, 0, n, false) else if kind < 4 then ((headL kind.toNat s.length).length, kind.toNat, s.length, false) else if op then (1, 4, 0, true) else ((headL 4 k).length, 4, k, false)
theorem node_kind {kind : Int} {n : Nat} {s : List UInt8} {op : Bool} {k : Nat} (h : node kind n s op k = true) : kind = 0 \/ kind = 2 \/ kind = 3 \/ kind = 4 := by
 unfold node at h
 split at h
 . exact .inl ‹_›
 .
  split at h
  .
   rename_i h1; rcases h1 with h1 | h1
   . exact .inr (.inl h1)
   . exact .inr (.inr (.inl h1))
  .
   split at h
   . exact .inr (.inr (.inr ‹_›))
   . cases h
theorem readH_bytes (t : T) (h : t.plain = true) (hok : t.ok) (x : List UInt8) : readH (t.bytes ++ x) = some t.hd := by
 cases t with
 | nil => cases h
 | mk kind n s op k ch =>
  unfold plain at h
  rw [Bool.and_eq_true] at h
  have hk := node_kind h.1
  unfold ok at hok
  unfold bytes; dsimp only [hd]
  by_cases a : kind = 0
  .
   rw [if_pos a, if_pos a]
   exact readH_head (by omega) hok.2.1 x
  .
   rw [if_neg a, if_neg a]
   by_cases b : kind < 4
   .
    rw [if_pos b, if_pos b, List.append_assoc]
    exact readH_head (by omega) (by have := hok.2.2.1; omega) _
   .
    rw [if_neg b, if_neg b, List.append_assoc]
    cases op
    .
     simp only [Bool.false_eq_true, if_false]
     exact readH_head (by omega) (by have := hok.2.2.2.1; omega) _
    .
     simp only [if_true]
     exact readH_open _
theorem bytes_not_break (t : T) (h : t.plain = true) (hok : t.ok) (u v : List UInt8) : t.bytes ++ u ≠ 255 :: v := by
 intro e
 have h1 := readH_bytes t h hok u
 rw [e, readH_break] at h1
 cases t with
 | nil => cases h
 | mk kind n s op k ch =>
  unfold plain at h
  rw [Bool.and_eq_true] at h
  have hk := node_kind h.1
  dsimp only [hd] at h1
  split at h1
  . simp at h1
  .
   split at h1
   . simp at h1
   . split at h1 <;> simp at h1

theorem bytes_inj (a : T) : ∀ b, a.plain = true -> b.plain = true -> a.ok -> b.ok -> ∀ x y, a.bytes ++ x = b.bytes ++ y -> a.same b = true /\ x = y := by
 induction a with
 | nil => intro b h; cases h
 | mk kind n s op k ch ih =>
  intro b hpa hpb hoa hob x y e
  have r1 := readH_bytes _ hpa hoa x
  have r2 := readH_bytes b hpb hob y
  rw [e, r2] at r1
  have r3 : b.hd = (mk kind n s op k ch).hd := Option.some.inj r1
  clear r1 r2
  cases b with
  | nil => cases hpb
  | mk kind' n' s' op' k' ch' =>
   have qa := hpa; have qb := hpb
   unfold plain at qa qb
   rw [Bool.and_eq_true, all_iff] at qa qb
   have ka := node_kind qa.1; have kb := node_kind qb.1
   obtain ⟨na, pa⟩ := qa
   obtain ⟨nb, pb⟩ := qb
   unfold ok at hoa hob
   have sm : ∀ (h1 : kind = kind') (h2 : n = n') (h3 : s = s') (h4 : op = op') (h5 : k = k') (h6 : ∀ i, i < k -> (ch i).same (ch' i) = true), (mk kind n s op k ch).same (mk kind' n' s' op' k' ch') = true := by
    intro h1 h2 h3 h4 h5 h6
    subst h1 h2 h3 h4 h5
    unfold same
    simp only [T.kind, T.n, T.s, T.op, T.k, T.ch, Bool.and_eq_true, beq_self_eq_true, true_and, all_iff]
    exact h6
   dsimp only [hd] at r3
   unfold node at na nb
   unfold bytes at e
   by_cases a0 : kind = 0
   .
    rw [if_pos a0] at r3 na e
    by_cases b0 : kind' = 0
    .
     rw [if_pos b0] at r3 nb e
     simp at r3 na nb
     obtain ⟨⟨rfl, rfl⟩, rfl⟩ := na
     obtain ⟨⟨rfl, rfl⟩, rfl⟩ := nb
     obtain ⟨_, rfl⟩ := r3
     exact ⟨sm (by omega) rfl rfl rfl rfl (fun i hi => by omega), List.append_cancel_left e⟩
    .
     rw [if_neg b0] at r3
     split at r3
     . simp at r3; omega
     . split at r3 <;> simp at r3
   .
    rw [if_neg a0] at r3 na e
    by_cases b0 : kind' = 0
    .
     rw [if_pos b0] at r3
     split at r3
     . simp at r3; omega
     . split at r3 <;> simp at r3
    .
     rw [if_neg b0] at r3 nb e
     by_cases a4 : kind < 4
     .
      rw [if_pos a4] at r3 e
      rw [if_pos (by omega)] at na
      by_cases b4 : kind' < 4
      .
       rw [if_pos b4] at r3 e
       rw [if_pos (by omega)] at nb
       simp at r3 na nb
       obtain ⟨⟨rfl, rfl⟩, rfl⟩ := na
       obtain ⟨⟨rfl, rfl⟩, rfl⟩ := nb
       obtain ⟨_, hkk, hss⟩ := r3
       obtain rfl : kind = kind' := by omega
       rw [hss, List.append_assoc, List.append_assoc] at e
       have e2 := List.append_cancel_left e
       obtain ⟨rfl, e3⟩ := List.append_inj e2 hss.symm
       exact ⟨sm rfl rfl rfl rfl rfl (fun i hi => by omega), e3⟩
      .
       rw [if_neg b4] at r3
       split at r3
       . simp at r3
       . simp at r3; omega
     .
      rw [if_neg a4] at r3 e
      obtain rfl : kind = 4 := by omega
      by_cases b4 : kind' < 4
      .
       rw [if_pos b4] at r3
       split at r3
       . simp at r3
       . simp at r3; omega
      .
       rw [if_neg b4] at r3 e
       obtain rfl : kind' = 4 := by omega
       rw [if_neg (by omega), if_pos rfl] at na nb
       simp at na nb
       obtain ⟨⟨rfl, rfl⟩, _⟩ := na
       obtain ⟨⟨rfl, rfl⟩, _⟩ := nb
       cases op with
       | false =>
        cases op' with
        | true => simp at r3
        | false =>
         simp only [Bool.false_eq_true, if_false, Prod.mk.injEq, true_and, and_true] at r3
         obtain ⟨_, rfl⟩ := r3
         simp only [Bool.false_eq_true, if_false, List.append_nil, List.append_assoc] at e
         have e2 := List.append_cancel_left e
         rw [cat_eq, cat_eq] at e2
         obtain ⟨h1, h2⟩ := catR_same (R := fun _ => True) k' (fun i => (ch i).bytes) (fun i => (ch' i).bytes) x y (fun i => (ch i).same (ch' i) = true) (fun i hi u v h => ih i (ch' i) (pa i hi) (pb i hi) (hoa.2.2.2.2 i hi) (hob.2.2.2.2 i hi) u v h) e2
         exact ⟨sm rfl rfl rfl rfl rfl h1, h2⟩
       | true =>
        cases op' with
        | false => simp at r3
        | true =>
         simp only [if_true, List.append_assoc, List.cons_append, List.nil_append, List.cons.injEq, true_and] at e
         rw [cat_eq, cat_eq] at e
         obtain ⟨rfl, h1, h2⟩ := catR_end k k' (fun i => (ch i).bytes) (fun i => (ch' i).bytes) x y (fun i => (ch i).same (ch' i) = true) (fun i hi hj u v h => ih i (ch' i) (pa i hi) (pb i hj) (hoa.2.2.2.2 i hi) (hob.2.2.2.2 i hj) u v h)
          (fun i hi => bytes_not_break (ch i) (pa i hi) (hoa.2.2.2.2 i hi)) (fun i hi => bytes_not_break (ch' i) (pb i hi) (hob.2.2.2.2 i hi)) e
         exact ⟨sm rfl rfl rfl rfl rfl h1, h2⟩

theorem same_bytes (a : T) : ∀ b, b.ok -> a.same b = true -> a.bytes = b.bytes := by
 induction a with
 | nil =>
  intro b hb h
  cases b with
  | nil => rfl
  | mk => cases h
 | mk kind n s op k ch ih =>
  intro b hb h
  cases b with
  | nil => cases hb
  | mk kind' n' s' op' k' ch' =>
   unfold same at h
   unfold ok at hb
   simp only [T.kind, T.n, T.s, T.op, T.k, T.ch, Bool.and_eq_true, beq_iff_eq, all_iff] at h
   obtain ⟨⟨⟨⟨⟨rfl, rfl⟩, rfl⟩, rfl⟩, rfl⟩, h6⟩ := h
   have : ∀ j, j <= k -> cat (fun i => (ch i).bytes) j = cat (fun i => (ch' i).bytes) j := by
    intro j hj
    induction j with
    | zero => rfl
    | succ j ih2 => rw [cat, cat, ih2 (by omega), ih j (ch' j) (hb.2.2.2.2 j (by omega)) (h6 j (by omega))]
   unfold bytes
   rw [this k (Nat.le_refl _)]

theorem same_refl (a : T) : a.same a = true := by
 induction a with
 | nil => rfl
 | mk kind n s op k ch ih =>
  unfold same
  simp only [T.kind, T.n, T.s, T.op, T.k, T.ch, Bool.and_eq_true, beq_self_eq_true, true_and, all_iff]
  exact fun i _ => ih i
end T
end Go.Proofs.YthecmnbkjchjmaaGreat


namespace Go.Proofs.YthecmnbkjchjmaaGreat
open Go.RowKit
set_option linter.unusedVariables false
set_option linter.unusedSimpArgs false

abbrev itemV (t : T) (A : Option Addr) (c : Nat) : Value := .agg #[.int .i64 t.kind, .int .u64 (t.n : Int), str t.s, .slice A t.k c, .bool t.op]
def At5 (w : World) (b o : Nat) (t : T) (A : Option Addr) (c : Nat) : Prop :=
 w.cell? ⟨b, o, none⟩ = some (.int .i64 t.kind) /\ w.cell? ⟨b, o + 1, none⟩ = some (.int .u64 (t.n : Int)) /\ w.cell? ⟨b, o + 2, none⟩ = some (str t.s) /\ w.cell? ⟨b, o + 3, none⟩ = some (.slice A t.k c) /\ w.cell? ⟨b, o + 4, none⟩ = some (.bool t.op)
def IsL (w : World) (Q : Nat -> Prop) : T -> Option Addr -> Prop
 | T.nil, A => False
 | T.mk _ _ _ _ k ch, A => 0 < k -> ∃ b o, A = some ⟨b, o, none⟩ /\ b < w.heap.size /\ Q b /\ ∀ i, i < k -> ∃ Ai ci, At5 w b (o + i * 5) (ch i) Ai ci /\ IsL w Q (ch i) Ai

theorem At5.mod {w w' : World} {b o : Nat} {t : T} {A : Option Addr} {c : Nat} {S : List Nat} (h : At5 w b o t A c) (hm : Mod S w w') (hb : b < w.heap.size) (hs : b ∉ S) : At5 w' b o t A c := by
 obtain ⟨h0, h1, h2, h3, h4⟩ := h
 exact ⟨(hm.cell hb hs).trans h0, (hm.cell hb hs).trans h1, (hm.cell hb hs).trans h2, (hm.cell hb hs).trans h3, (hm.cell hb hs).trans h4⟩
theorem IsL.mod {w w' : World} {Q : Nat -> Prop} {S : List Nat} (hm : Mod S w w') (hs : ∀ k, Q k -> k < w.heap.size -> k ∉ S) (t : T) : ∀ {A : Option Addr}, IsL w Q t A -> IsL w' Q t A := by
 induction t with
 | nil => intro A h; cases h
 | mk kind n s op k ch ih =>
  intro A h h0
  obtain ⟨b, o, hA, hb, hq, hc⟩ := h h0
  refine ⟨b, o, hA, Nat.lt_of_lt_of_le hb hm.size, hq, fun i hi => ?_⟩
  obtain ⟨Ai, ci, h1, h2⟩ := hc i hi
  exact ⟨Ai, ci, h1.mod hm hb (hs b hq hb), ih i h2⟩
theorem IsL.ext {w w' : World} {Q : Nat -> Prop} {t : T} {A : Option Addr} (h : IsL w Q t A) (hm : Ext w w') : IsL w' Q t A := IsL.mod hm (by simp) t h
theorem IsL.weak {w : World} {Q R : Nat -> Prop} (hq : ∀ k, k < w.heap.size -> Q k -> R k) (t : T) : ∀ {A : Option Addr}, IsL w Q t A -> IsL w R t A := by
 induction t with
 | nil => intro A h; cases h
 | mk kind n s op k ch ih =>
  intro A h h0
  obtain ⟨b, o, hA, hb, hq', hc⟩ := h h0
  refine ⟨b, o, hA, hb, hq b hb hq', fun i hi => ?_⟩
  obtain ⟨Ai, ci, h1, h2⟩ := hc i hi
  exact ⟨Ai, ci, h1, ih i h2⟩
theorem IsL.cells {w W : World} {Q : Nat -> Prop} {kind : Int} {n : Nat} {s : List UInt8} {op : Bool} {k : Nat} {ch : Nat -> T} {A : Option Addr} (h : IsL w Q (.mk kind n s op k ch) A) (hW : Ext w W) {i : Nat} (hi : i < k) :
  ∃ b o Ai ci, A = some ⟨b, o, none⟩ /\ b < w.heap.size /\ At5 W b (o + i * 5) (ch i) Ai ci /\ IsL W Q (ch i) Ai := by
 obtain ⟨b, o, hA, hb, hq, hc⟩ := h (by omega)
 obtain ⟨Ai, ci, h1, h2⟩ := hc i hi
 exact ⟨b, o, Ai, ci, hA, hb, h1.mod hW hb (by simp), h2.ext hW⟩
theorem IsL.leaf {w : World} {Q : Nat -> Prop} {kind : Int} {n : Nat} {s : List UInt8} {op : Bool} {ch : Nat -> T} {A : Option Addr} : IsL w Q (.mk kind n s op 0 ch) A := fun h => by omega

abbrev itemC (t : T) (A : Option Addr) (c : Nat) : Array Value := #[.int .i64 t.kind, .int .u64 (t.n : Int), str t.s, .slice A t.k c, .bool t.op]

set_option maxRecDepth 20000 in
set_option maxHeartbeats 1600000 in
theorem Deep_any (t : T) : ∀ (m : Nat), m <= 9 -> t.ok -> ∀ A c w, IsL w (fun _ => True) t A ->
  Calls Tryz.prog 87 #[itemV t A c, .int .i64 (m : Int)] w (Ret (.int .i64 (t.deep m : Int)) w) := by
 induction t with
 | nil => intro m _ hok; cases hok
 | mk kind n s op k ch ih =>
  intro m hm hok A c w h
  have H := hid h; have HM := hid hm; have HO := hid hok
  have m0 : (0 : Int) <= (m : Int) := by omega
  have m1 : (m : Int) <= 9 := by omega
  clear h hm hok
  show Calls Tryz.prog 87 #[.agg #[.int .i64 kind, .int .u64 (n : Int), str s, .slice A k c, .bool op], .int .i64 (m : Int)] w _
  by_cases hm0 : m < 1
  .
   have e : (T.mk kind n s op k ch).deep m = 1 := by unfold T.deep; rw [if_pos hm0]
   rw [e]
   obtain rfl : m = 0 := by omega
   clear e
   go_enter Tryz.func87, Tryz.ntmps87
   go_wp2
   go_ret
   exact Ret.mk rfl ((Mod.refl _ _).alloc _)
  .
   have e : (T.mk kind n s op k ch).deep m = T.mx (fun i => (ch i).deep (m - 1)) k + 1 := if_neg hm0
   have hl : Hid (∀ j, j <= k -> T.mx (fun i => (ch i).deep (m - 1)) j <= 10) := fun j _ => T.mx_le.2 fun i _ => by have := T.deep_le (ch i) (m - 1); have := HM.out; omega
   rw [e]
   have tm : decide ((m : Int) < 1) = false := by simp; omega
   have tm2 : (m < 1) = False := by simp [hm0]
   have tm3 : (m = 0) = False := by simp; omega
   have HMP : Hid (1 <= m) := by unfold Hid; omega
   have hk : Hid (k < 4611686018427387904) := by have := HO.out; unfold T.ok at this; exact this.2.2.2.1
   have HB : Hid (Blk (w.alloc (.cells #[.int .i64 kind, .int .u64 (n : Int), str s, .slice A k c, .bool op] 86)) w.heap.size 86 #[.int .i64 kind, .int .u64 (n : Int), str s, .slice A k c, .bool op]) := Blk.new _ _ _
   have HE0 := hid ((Mod.refl [] w).alloc (.cells #[.int .i64 kind, .int .u64 (n : Int), str s, .slice A k c, .bool op] 86))
   clear e hm0
   go_enter Tryz.func87, Tryz.ntmps87
   go_wp2_with fail
   go_loopw [5, 6] (fun s5 s6 wr => ∃ i : Nat, i <= k /\ s6 = .int .i64 (i : Int) /\ s5 = .int .i64 (T.mx (fun i => (ch i).deep (m - 1)) i : Nat) /\ Hid (Ext w wr /\ Blk wr w.heap.size 86 #[.int .i64 kind, .int .u64 (n : Int), str s, .slice A k c, .bool op])) (fun _ i _ => k - (intOf i).toNat)
   case atStart => exact ⟨0, Nat.zero_le _, rfl, rfl, HE0.out, HB.out⟩
   case round =>
    obtain ⟨i, hi, rfl, rfl, hH⟩ := hrel
    have i0 : (0 : Int) <= (i : Int) := by omega
    have c3 : wr.cell? ⟨w.heap.size, 3, none⟩ = some (.slice A k c) := hH.out.2.cell 3
    have x1 := hl.out i hi
    by_cases hlt : i < k
    .
     obtain ⟨b, o, Ai, ci, rfl, hb, ⟨k0, k1, k2, k3, k4⟩, hL⟩ := H.out.cells hH.out.1 hlt
     have i1 : (i : Int) < (k : Int) := by omega
     have hk2 : (k : Int) < 4611686018427387904 := by have := hk.out; omega
     have ti : decide (i < k) = true := by simp [hlt]
     have ha : (m : Int) - 1 = ((m - 1 : Nat) : Int) := by have := HMP.out; omega
     have hd1 := T.deep_le (ch i) (m - 1)
     have HD : Hid ((ch i).deep (m - 1) <= 10) := by have := HM.out; unfold Hid; omega
     have HX := hid x1
     have HL := hid hL; have HLT := hid hlt
     have HOi : Hid (ch i).ok := by have := HO.out; unfold T.ok at this; exact this.2.2.2.2 i hlt
     have HMX : Hid (T.mx (fun i => (ch i).deep (m - 1)) (i + 1) = max (T.mx (fun i => (ch i).deep (m - 1)) i) ((ch i).deep (m - 1))) := rfl
     have HI := hid (ih i)
     clear hL hlt hd1 ih
     generalize T.mx (fun i => (ch i).deep (m - 1)) i = M at *
     go_wp2_with fail
     refine (HI.out (m - 1) (by have := HM.out; omega) HOi.out Ai ci _ HL.out).mono ?_
     rintro e w3 ⟨rfl, hb3⟩
     generalize (ch i).deep (m - 1) = D at *
     have HE3 := hid (hH.out.1.trans hb3)
     have HB3 := hid (hH.out.2.ext hb3)
     clear hb3
     go_wp2_with fail
     have hlt := HLT.out
     refine ⟨⟨i + 1, by omega, by simp, ?_, (show Hid _ from ⟨HE3.out, HB3.out⟩)⟩, ?_⟩
     . rw [HMX.out]; congr 1; omega
     . simp only [intOf]; omega
    .
     obtain rfl : i = k := by omega
     have ti : decide (i < i) = false := by simp
     clear ih
     go_wp2_with fail
     go_ret
     exact Ret.mk rfl hH.out.1
end Go.Proofs.YthecmnbkjchjmaaGreat


namespace Go.Proofs.YthecmnbkjchjmaaGreat

structure RS where
 s : List UInt8
 at_ : Nat
 bad : Int
 e : Int
 fr : Nat

namespace RS
def ok (r : RS) : Prop := r.at_ <= r.s.length /\ r.fr <= r.s.length /\ r.s.length < 4611686018427387904
def fail (r : RS) (e : Int) : RS := if r.e = 0 then { r with at_ := r.fr, bad := r.fr, e := e } else r
def Fail (r : RS) (e : Int) : RS := if r.e = 0 then { r with bad := r.at_, e := e } else r
def head (r : RS) : RS × Nat × Nat × Bool :=
 if r.e = 0 then
  match readH (r.s.drop r.at_) with
  | none => (r.fail 2, 0, 0, false)
  | some (sz, m, n, o) => ({ r with at_ := r.at_ + sz }, m, n, o)
 else (r, 0, 0, false)
def Head (r : RS) : RS × Nat × Nat × Bool := head { r with fr := r.at_ }
def Uint (r : RS) : RS × Nat := if r.Head.1.e = 0 /\ r.Head.2.1 ≠ 0 then (r.Head.1.fail 2, 0) else (r.Head.1, r.Head.2.2.1)
def str (r : RS) (want : Nat) (most : Int) : RS × List UInt8 :=
 if r.Head.1.e = 0 then
  if r.Head.2.1 ≠ want \/ r.Head.2.2.2 = true \/ r.Head.1.s.length - r.Head.1.at_ < r.Head.2.2.1 then (r.Head.1.fail 2, [])
  else if most < 0 \/ most < r.Head.2.2.1 then (r.Head.1.fail 4, [])
  else ({ r.Head.1 with at_ := r.Head.1.at_ + r.Head.2.2.1 }, (r.Head.1.s.drop r.Head.1.at_).take r.Head.2.2.1)
 else (r.Head.1, [])
def Array (r : RS) : RS × Int :=
 if r.Head.1.e = 0 then
  if r.Head.2.1 ≠ 4 then (r.Head.1.fail 2, 0)
  else if r.Head.2.2.2 = true then (r.Head.1, -1)
  else if 1000 < r.Head.2.2.1 then (r.Head.1.fail 4, 0)
  else (r.Head.1, r.Head.2.2.1)
 else (r.Head.1, 0)
def done (r : RS) : Bool := decide (r.e = 0) && decide (r.at_ = r.s.length)
def new (s : List UInt8) : RS := ⟨s, 0, -1, 0, 0⟩

theorem fail_ok {r : RS} (h : r.ok) (e : Int) : (r.fail e).ok := by
 unfold fail
 split
 . exact ⟨h.2.1, h.2.1, h.2.2⟩
 . exact h
theorem head_ok {r : RS} (h : r.ok) : r.head.1.ok := by
 unfold head
 split
 .
  cases hr : readH (r.s.drop r.at_) with
  | none => exact fail_ok h _
  | some x =>
   obtain ⟨sz, m, n, o⟩ := x
   have := (readH_some hr).le
   rw [List.length_drop] at this
   obtain ⟨a, b, c⟩ := h
   exact ⟨by show r.at_ + sz <= r.s.length; omega, b, c⟩
 . exact h
theorem Head_ok {r : RS} (h : r.ok) : r.Head.1.ok := head_ok ⟨h.1, h.1, h.2.2⟩
theorem str_ok {r : RS} (h : r.ok) (want : Nat) (most : Int) : (r.str want most).1.ok := by
 have h1 := Head_ok h
 unfold str; split
 .
  split
  . exact fail_ok h1 _
  .
   split
   . exact fail_ok h1 _
   .
    rename_i h2 h3
    obtain ⟨a, b, c⟩ := h1
    refine ⟨?_, b, c⟩
    show r.Head.1.at_ + r.Head.2.2.1 <= r.Head.1.s.length
    simp only [not_or, Nat.not_lt] at h2
    omega
 . exact h1
theorem new_ok {s : List UInt8} (h : s.length < 4611686018427387904) : (new s).ok := ⟨Nat.zero_le _, Nat.zero_le _, h⟩
abbrev Told : Type := Nat × Nat × Bool × List UInt8 × Int
def zero : Told := (0, 0, false, [], 0)
def nx (r : RS) (sz : Nat) : RS := { r with at_ := r.at_ + sz, bad := -1, e := 0 }
def call (r : RS) (k : Nat) (N : Int) : RS × Told :=
 if k = 0 then (r.Head.1, (r.Head.2.1, r.Head.2.2.1, r.Head.2.2.2, [], 0))
 else if k = 1 then (r.Uint.1, (0, r.Uint.2, false, [], 0))
 else if k = 2 then ((r.str 2 N).1, (0, 0, false, (r.str 2 N).2, 0))
 else if k = 3 then ((r.str 3 N).1, (0, 0, false, (r.str 3 N).2, 0))
 else if k = 4 then (r.Array.1, (0, 0, false, [], r.Array.2))
 else (r.Fail 9, zero)
theorem Head_none {r : RS} (h : r.e = 0) (hr : readH (r.s.drop r.at_) = none) : r.Head = (⟨r.s, r.at_, (r.at_ : Int), 2, r.at_⟩, 0, 0, false) := by
 unfold Head head; dsimp only; rw [if_pos h, hr]; unfold fail; dsimp only; rw [if_pos h]
theorem Head_some {r : RS} (h : r.e = 0) {sz m n : Nat} {o : Bool} (hr : readH (r.s.drop r.at_) = some (sz, m, n, o)) : r.Head = (⟨r.s, r.at_ + sz, r.bad, 0, r.at_⟩, m, n, o) := by
 unfold Head head; dsimp only; rw [if_pos h, hr]; rw [h]
end RS
end Go.Proofs.YthecmnbkjchjmaaGreat


namespace Go.Proofs.YthecmnbkjchjmaaGreat
open Go.RowKit Go.Maps
set_option linter.unusedVariables false
set_option linter.unusedSimpArgs false

theorem law3 : Keyed Tryz.prog 3 := int_keyed Tryz.underlying3
theorem zero3 (w : World) : (zeroValue 3).run Tryz.prog w = .ok (.int .i64 0) w := by kernel_rfl
abbrev UD := DataW Unit
def InI (x : Int) : Prop := -9223372036854775808 <= x /\ x <= 9223372036854775807
theorem InI.wf {x : Int} (h : InI x) : (Lit.int .i64 x).wf = true := by
 have := h
 simpa [InI, Lit.wf, IntKind.min, IntKind.max, IntKind.signed, IntKind.bits] using this
theorem keyOf3 {x : Int} (h : InI x) : keyOf Tryz.prog 3 (.int .i64 x) = some (.int .i64 x) := keyOf_int_mk Tryz.underlying3 h.wf

def Counts (w : World) (m c : Nat) (f : Int -> Nat) : Prop :=
 ∃ D : UD, w.ownsMap Tryz.prog 3 (plainElem (H := Unit) Tryz.prog 3) m c D /\ ∀ id, InI id -> D.atKey (.int .i64 id) (.lit (.int .i64 0)) = .lit (.int .i64 (f id : Int))

theorem Counts.kept {w w' : World} {m c : Nat} {f : Int -> Nat} {S : List Nat} (h : Counts w m c f) (hm : Mod S w w') (hs : m ∉ S) : Counts w' m c f := by
 obtain ⟨D, ⟨es, clock, h1, h2, h3, h4⟩, h5⟩ := h
 have hlt : m < w.heap.size := by
  rcases Nat.lt_or_ge m w.heap.size with hlt | hge
  . exact hlt
  . rw [Array.getElem?_eq_none hge] at h1; cases h1
 exact ⟨D, ⟨es, clock, (hm.block m hlt hs).trans h1, h2, h3, h4⟩, h5⟩
theorem Counts.lt {w : World} {m c : Nat} {f : Int -> Nat} (h : Counts w m c f) : m < w.heap.size := by
 obtain ⟨D, h1, _⟩ := h
 exact h1.lt
theorem Counts.look {w : World} {m c : Nat} {f : Int -> Nat} (h : Counts w m c f) {id : Int} (hi : InI id) :
  (Instr.lookup 165 (.map (some m)) (.int .i64 id) false).run Tryz.prog w = .ok (.int .i64 (f id : Int)) w := by
 obtain ⟨D, hown, hat⟩ := h
 obtain ⟨v, hrun, h1, _⟩ := hown.lookup_int law3 Tryz.underlying165 Tryz.underlying3 (zero3 w) (keyOf3 hi)
 rw [hat id hi] at h1
 have : v = (f id : Int) := by
  have := h1
  simp at this
  exact this.symm
 rw [hrun, this]
def upd (f : Int -> Nat) (id : Int) : Int -> Nat := fun x => if x = id then f id + 1 else f x
theorem Counts.put {w w' : World} {m c : Nat} {f : Int -> Nat} {D : UD} {id : Int} (hi : InI id) (hown : w.ownsMap Tryz.prog 3 (plainElem (H := Unit) Tryz.prog 3) m c D)
  (hat : ∀ id, InI id -> D.atKey (.int .i64 id) (.lit (.int .i64 0)) = .lit (.int .i64 (f id : Int)))
  (h1 : w'.ownsMap Tryz.prog 3 (plainElem (H := Unit) Tryz.prog 3) m (c + 1) (D.put (.int .i64 id) (.lit (.int .i64 ((f id : Int) + 1))))) : Counts w' m (c + 1) (upd f id) := by
 refine ⟨_, h1, fun x hx => ?_⟩
 obtain ⟨es, clock, e1, e2, e3, e4⟩ := hown
 by_cases e : x = id
 .
  subst e
  rw [atKey_put_same ⟨_, e4⟩ (by simp [WideAt.IsKeyLit])]
  simp [upd]
 .
  rw [atKey_put_other (by intro h; simp at h; exact e h)]
  rw [hat x hx]
  simp [upd, e]

theorem Counts.made (w : World) : Counts (w.alloc (.map #[] 0)) w.heap.size 0 (fun _ => 0) := ⟨.map [], World.ownsMap_made _ _ _ _, fun id _ => rfl⟩
theorem Counts.congr {w : World} {m c : Nat} {f g : Int -> Nat} (h : Counts w m c f) (e : ∀ x, f x = g x) : Counts w m c g := by
 obtain rfl : f = g := funext e
 exact h
end Go.Proofs.YthecmnbkjchjmaaGreat
