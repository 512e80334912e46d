/-
  Items, plainly: trees; what is right; their bytes, which have no other item's bytes as a beginning.
-/
import Derived.Test.YtagjhkknefiieaaPlain01
namespace Go.Proofs.Ytagjhkknefiieaa
set_option linter.unusedVariables false

/-- An item: its kind, its number, its text, whether it is open, how many items it has, and which. -/
inductive T where
  | nil
  | mk (kind : Int) (n : Nat) (s : List UInt8) (op : Bool) (k : Nat) (ch : Nat → T)
namespace T
def kind : T → Int | nil => 0 | mk a _ _ _ _ _ => a
def n : T → Nat | nil => 0 | mk _ a _ _ _ _ => a
def s : T → List UInt8 | nil => [] | mk _ _ a _ _ _ => a
def op : T → Bool | nil => false | mk _ _ _ a _ _ => a
def k : T → Nat | nil => 0 | mk _ _ _ _ a _ => a
def ch : T → Nat → T | nil => fun _ => nil | mk _ _ _ _ _ a => a

def mx (f : Nat → Nat) : Nat → Nat
  | 0 => 0
  | j + 1 => max (mx f j) (f j)
def all (f : Nat → Bool) : Nat → Bool
  | 0 => true
  | j + 1 => all f j && f j
def cat (f : Nat → List UInt8) : Nat → List UInt8
  | 0 => []
  | j + 1 => cat f j ++ f j
def sum (f : Nat → Nat) : Nat → Nat
  | 0 => 0
  | j + 1 => sum f j + f j
/-- The count so far, of the first j: it stops beyond m. -/
def cl (f : Nat → Nat → Nat) (m n0 : Nat) : Nat → Nat
  | 0 => n0
  | j + 1 => if cl f m n0 j ≤ m then cl f m n0 j + f j (m - cl f m n0 j) else cl f m n0 j

theorem all_iff {f : Nat → Bool} {k : Nat} : all f k = true ↔ ∀ i, i < k → f i = true := by
  induction k with
  | zero => simp [all]
  | succ j ih =>
    rw [all, Bool.and_eq_true, ih]
    constructor
    · rintro ⟨h1, h2⟩ i hi
      by_cases e : i = j
      · subst e; exact h2
      · exact h1 i (by omega)
    · intro h
      exact ⟨fun i hi => h i (by omega), h j (by omega)⟩
theorem mx_le {f : Nat → Nat} {k d : Nat} : mx f k ≤ d ↔ ∀ i, i < k → f i ≤ d := by
  induction k with
  | zero => simp [mx]
  | succ j ih =>
    rw [mx, Nat.max_le, ih]
    constructor
    · rintro ⟨h1, h2⟩ i hi
      by_cases e : i = j
      · subst e; exact h2
      · exact h1 i (by omega)
    · intro h
      exact ⟨fun i hi => h i (by omega), h j (by omega)⟩

def deep : T → Nat → Nat
  | nil, _ => 1
  | mk _ _ _ _ k ch, m => if m < 1 then 1 else mx (fun i => (ch i).deep (m - 1)) k + 1
def node (kind : Int) (n : Nat) (s : List UInt8) (op : Bool) (k : Nat) : Bool :=
  if kind = 0 then s == [] && k == 0 && !op else if kind = 2 ∨ kind = 3 then n == 0 && k == 0 && !op else if kind = 4 then n == 0 && s == [] && decide (k ≤ 1000) else false
def plain : T → Bool
  | nil => false
  | mk kind n s op k ch => node kind n s op k && all (fun i => (ch i).plain) k
def right : T → Nat → Bool
  | nil, _ => false
  | mk kind n s op k ch, d => if d < 1 then false else node kind n s op k && all (fun i => (ch i).right (d - 1)) k
def bytes : T → List UInt8
  | nil => []
  | mk kind n s op k ch => if kind = 0 then headL 0 n else if kind < 4 then headL kind.toNat s.length ++ s else
      (if op then [159] else headL 4 k) ++ (cat (fun i => (ch i).bytes) k ++ (if op then [255] else []))
def size : T → Nat
  | nil => 0
  | mk _ _ s _ k ch => 1 + s.length + sum (fun i => (ch i).size) k
def count : T → Nat → Nat
  | nil, _ => 0
  | mk _ _ s _ k ch, m => cl (fun i => (ch i).count) m (1 + s.length) k
def same : T → T → Bool
  | nil, nil => true
  | nil, mk .. => false
  | mk kind n s op k ch, b => kind == b.kind && n == b.n && s == b.s && op == b.op && k == b.k && all (fun i => (ch i).same (b.ch i)) k
/-- Each number is one of a machine's. -/
def ok : T → Prop
  | nil => False
  | mk kind n s op k ch => (-9223372036854775808 ≤ kind ∧ kind ≤ 9223372036854775807) ∧ n < 18446744073709551616 ∧ s.length < 4611686018427387904 ∧ k < 4611686018427387904 ∧ ∀ i, i < k → (ch i).ok

theorem not_nil : ¬ ok nil := fun h => h
theorem deep_le (t : T) : ∀ m, t.deep m ≤ m + 1 := by
  induction t with
  | nil => intro m; simp [deep]
  | mk kind n s op k ch ih =>
    intro m
    unfold deep
    split
    · omega
    · have : mx (fun i => (ch i).deep (m - 1)) k ≤ m := mx_le.2 fun i _ => by have := ih i (m - 1); omega
      omega
theorem deep_pos (t : T) : ∀ m, 1 ≤ t.deep m := by
  cases t with
  | nil => intro m; simp [deep]
  | mk kind n s op k ch =>
    intro m
    unfold deep
    split <;> omega

theorem right_eq (t : T) : ∀ d, t.right d = (decide (t.deep (d + 1) ≤ d) && t.plain) := by
  induction t with
  | nil => intro d; simp [right, plain]
  | mk kind n s op k ch ih =>
    intro d
    cases d with
    | zero =>
      have := deep_pos (mk kind n s op k ch) (0 + 1)
      rw [show right (mk kind n s op k ch) 0 = false from by unfold right; simp]
      have h : ¬ (mk kind n s op k ch).deep (0 + 1) ≤ 0 := by omega
      simp [h]
    | succ d =>
      rw [Bool.eq_iff_iff]
      unfold right deep plain
      rw [if_neg (by omega), if_neg (by omega), Bool.and_eq_true, Bool.and_eq_true, Bool.and_eq_true, all_iff, all_iff, decide_eq_true_iff]
      simp only [Nat.add_sub_cancel]
      have e : (mx (fun i => (ch i).deep (d + 1)) k + 1 ≤ d + 1) ↔ ∀ i, i < k → (ch i).deep (d + 1) ≤ d := by
        rw [← mx_le]; omega
      rw [e]
      constructor
      · rintro ⟨h1, h2⟩
        refine ⟨fun i hi => ?_, h1, fun i hi => ?_⟩
        · have := h2 i hi
          rw [ih i d] at this
          simp at this
          exact this.1
        · have := h2 i hi
          rw [ih i d] at this
          simp at this
          exact this.2
      · rintro ⟨h1, h2, h3⟩
        refine ⟨h2, fun i hi => ?_⟩
        rw [ih i d]
        simp [h1 i hi, h3 i hi]

/- The count. -/
theorem cl_stop {f : Nat → Nat → Nat} {m n0 j : Nat} (h : m < cl f m n0 j) : ∀ k, j ≤ k → cl f m n0 k = cl f m n0 j := by
  intro k hk
  induction k with
  | zero => have : j = 0 := by omega
            subst this; rfl
  | succ k ih =>
    by_cases e : j = k + 1
    · subst e; rfl
    · have := ih (by omega)
      rw [cl, this, if_neg (by omega)]
theorem cl_mono (f : Nat → Nat → Nat) (m n0 : Nat) : ∀ i j, i ≤ j → cl f m n0 i ≤ cl f m n0 j := by
  intro i j h
  induction j with
  | zero => have : i = 0 := by omega
            subst this; exact Nat.le_refl _
  | succ j ih =>
    by_cases e : i = j + 1
    · subst e; exact Nat.le_refl _
    · refine Nat.le_trans (ih (by omega)) ?_
      rw [cl]; split <;> omega
theorem count_size (t : T) : ∀ m, t.count m ≤ m → t.size = t.count m := by
  induction t with
  | nil => intro m _; rfl
  | mk kind n s op k ch ih =>
    intro m h
    unfold count at h ⊢
    unfold size
    have key : ∀ j, j ≤ k → 1 + s.length + sum (fun i => (ch i).size) j = cl (fun i => (ch i).count) m (1 + s.length) j := by
      intro j hj
      induction j with
      | zero => rfl
      | succ j ih2 =>
        have e := ih2 (by omega)
        have hm := cl_mono (fun i => (ch i).count) m (1 + s.length) (j + 1) k hj
        have hl : cl (fun i => (ch i).count) m (1 + s.length) j ≤ m := Nat.le_trans (cl_mono _ m (1 + s.length) j (j + 1) (by omega)) (by omega)
        rw [cl, if_pos hl] at hm
        have := ih j (m - cl (fun i => (ch i).count) m (1 + s.length) j) (by omega)
        rw [cl, if_pos hl, ← this, ← e, sum]
        omega
    exact key k (Nat.le_refl _)
theorem count_le (t : T) (h : t.ok) : ∀ m, t.count m ≤ m + 4611686018427387904 := by
  induction t with
  | nil => intro m; simp [count]
  | mk kind n s op k ch ih =>
    intro m
    unfold ok at h
    unfold count
    have key : ∀ j, j ≤ k → cl (fun i => (ch i).count) m (1 + s.length) j ≤ m + 4611686018427387904 := by
      intro j hj
      induction j with
      | zero => have := h.2.2.1; show 1 + s.length ≤ _; omega
      | succ j ih2 =>
        have e := ih2 (by omega)
        rw [cl]
        split
        · have := ih j (h.2.2.2.2 j (by omega)) (m - cl (fun i => (ch i).count) m (1 + s.length) j)
          omega
        · exact e
    exact key k (Nat.le_refl _)

/- How long the bytes are. -/
theorem cat_length {f : Nat → List UInt8} {g : Nat → Nat} {c k : Nat} (h : ∀ i, i < k → (f i).length ≤ c * g i) : (cat f k).length ≤ c * sum g k := by
  induction k with
  | zero => simp [cat]
  | succ j ih =>
    have := ih (fun i hi => h i (by omega))
    have h2 := h j (by omega)
    rw [cat, sum, List.length_append, Nat.mul_add]
    omega
theorem bytes_le (t : T) : t.bytes.length ≤ 10 * t.size := by
  induction t with
  | nil => simp [bytes, size]
  | mk kind n s op k ch ih =>
    unfold bytes size
    have := headL_le 0 n
    have := headL_le kind.toNat s.length
    have := headL_le 4 k
    have := cat_length (f := fun i => (ch i).bytes) (g := fun i => (ch i).size) (c := 10) (k := k) (fun i _ => ih i)
    split
    · omega
    · split
      · rw [List.length_append]; omega
      · rw [List.length_append, List.length_append]
        cases op
        · simp only [Bool.false_eq_true, if_false, List.length_nil]; omega
        · simp only [if_true, List.length_cons, List.length_nil]; omega
theorem sum_le_cat {f : Nat → List UInt8} {g : Nat → Nat} {k : Nat} (h : ∀ i, i < k → g i ≤ (f i).length) : sum g k ≤ (cat f k).length := by
  induction k with
  | zero => simp [sum]
  | succ j ih =>
    have := ih (fun i hi => h i (by omega))
    have h2 := h j (by omega)
    rw [cat, sum, List.length_append]
    omega
theorem size_le (t : T) (h : t.plain = true) : t.size ≤ t.bytes.length := by
  induction t with
  | nil => simp [plain] at h
  | mk kind n s op k ch ih =>
    unfold plain at h
    rw [Bool.and_eq_true, all_iff] at h
    obtain ⟨h1, h2⟩ := h
    unfold bytes size
    have p0 := headL_pos 0 n
    have p1 := headL_pos kind.toNat s.length
    have p2 := headL_pos 4 k
    have hs := sum_le_cat (f := fun i => (ch i).bytes) (g := fun i => (ch i).size) (k := k) (fun i hi => ih i (h2 i hi))
    unfold node at h1
    by_cases a : kind = 0
    · rw [if_pos a] at h1 ⊢
      simp at h1
      obtain ⟨⟨rfl, rfl⟩, rfl⟩ := h1
      simp [sum]; omega
    · rw [if_neg a] at h1 ⊢
      by_cases b : kind = 2 ∨ kind = 3
      · rw [if_pos b] at h1
        simp at h1
        obtain ⟨⟨rfl, rfl⟩, rfl⟩ := h1
        rw [if_pos (by omega), List.length_append]
        simp [sum]; omega
      · rw [if_neg b] at h1
        by_cases c : kind = 4
        · rw [if_pos c] at h1
          simp at h1
          obtain ⟨⟨rfl, rfl⟩, h3⟩ := h1
          rw [if_neg (by omega), List.length_append, List.length_append]
          cases op
          · simp only [Bool.false_eq_true, if_false, List.length_nil]; omega
          · simp only [if_true, List.length_cons, List.length_nil]; omega
        · rw [if_neg c] at h1; cases h1
theorem size_ch {kind : Int} {n : Nat} {s : List UInt8} {op : Bool} {k : Nat} {ch : Nat → T} {i : Nat} (hi : i < k) : (ch i).size ≤ (mk kind n s op k ch).size := by
  show (ch i).size ≤ 1 + s.length + sum (fun i => (ch i).size) k
  have : ∀ j, i < j → (ch i).size ≤ sum (fun i => (ch i).size) j := by
    intro j hj
    induction j with
    | zero => omega
    | succ j ih =>
      rw [sum]
      by_cases e : i = j
      · subst e; omega
      · have := ih (by omega); omega
  have := this k hi
  omega
end T
end Go.Proofs.Ytagjhkknefiieaa
