/-
  Names of endpoints, plainly: which are right, as the code and as the reference tell it.
-/
import Derived.Test.YtagjhkknefiieaaPlain01
namespace Go.Proofs.Ytagjhkknefiieaa
set_option linter.unusedVariables false

/-- A name. -/
structure EV where
  sch : Int
  name : List UInt8
  node : Nat
  svc : Nat
def noneL : List UInt8 := [110, 111, 110, 101]
/-- May a byte stand in a node's name? -/
def lett (c : UInt8) : Bool := decide (97 ≤ c.toNat ∧ c.toNat ≤ 122) || decide (48 ≤ c.toNat ∧ c.toNat ≤ 57) || decide (c.toNat = 45) || decide (c.toNat = 46)
def prin (c : UInt8) : Bool := decide (33 ≤ c.toNat ∧ c.toNat ≤ 126)
/-- How many bytes are the node's, as the code counts them: behind the strokes, from byte i on. -/
def nodeA : List UInt8 → Nat → Nat
  | [], _ => 0
  | c :: l, i => if lett c then nodeA l (i + 1) else if c.toNat = 47 ∧ 0 < i then i + 3 else 0
def nodeN (s : List UInt8) : Nat := if s.take 2 = [47, 47] ∧ s.length ≤ 60 then nodeA (s.drop 2) 0 else 0
def namedL (s : List UInt8) : Bool := decide (s = noneL) || (decide (nodeN s ≠ 0) && (s.drop (nodeN s)).all prin)
def EV.ok (e : EV) : Bool :=
  if e.sch = 1 then decide (e.node = 0) && decide (e.svc = 0) && namedL e.name else if e.sch = 2 then decide (e.name = []) && decide (e.node ≤ 4294967295) && decide (e.svc ≤ 4294967295) else false

/-- Where the third stroke is, as the reference looks for it: from byte i on. -/
def slashA : List UInt8 → Nat → Nat
  | [], _ => 0
  | c :: l, i => if c.toNat = 47 then i else slashA l (i + 1)
def slash (s : List UInt8) : Nat := slashA (s.drop 2) 2
/-- The reference's look at each byte, from byte i on; k: the third stroke. -/
def goodA (k : Nat) : List UInt8 → Nat → Bool
  | [], _ => true
  | c :: l, i => !((decide (i < k) && !lett c) || (decide (k < i) && !prin c)) && goodA k l (i + 1)
def EV.okR (e : EV) : Bool :=
  if e.sch = 2 then decide (e.name = []) && decide (e.node ≤ 4294967295) && decide (e.svc ≤ 4294967295)
  else if e.sch ≠ 1 ∨ e.node ≠ 0 ∨ e.svc ≠ 0 ∨ 60 < e.name.length then false
  else if e.name = noneL then true
  else if slash e.name < 3 ∨ e.name.take 2 ≠ [47, 47] then false
  else goodA (slash e.name) (e.name.drop 2) 2

theorem lett_stroke {c : UInt8} (h : c.toNat = 47) : lett c = false := by simp [lett, h]
theorem goodA_far {k : Nat} : ∀ (l : List UInt8) (i : Nat), k < i → goodA k l i = l.all prin
  | [], _, _ => rfl
  | c :: l, i, h => by
    have h1 : ¬ i < k := by omega
    rw [goodA, goodA_far l (i + 1) (by omega), List.all_cons]
    simp [h1, h]
theorem nodeA_ge : ∀ (l : List UInt8) (j : Nat), nodeA l j = 0 ∨ j + 3 ≤ nodeA l j
  | [], _ => .inl rfl
  | c :: l, j => by
    have ih := nodeA_ge l (j + 1)
    rw [nodeA]
    split
    · omega
    · split
      · exact .inr (Nat.le_refl _)
      · exact .inl rfl
theorem slashA_ge : ∀ (l : List UInt8) (j : Nat), slashA l j = 0 ∨ j ≤ slashA l j
  | [], _ => .inl rfl
  | c :: l, j => by
    have ih := slashA_ge l (j + 1)
    rw [slashA]
    split
    · exact .inr (Nat.le_refl _)
    · omega
/-- The two ways to look agree, from byte i on (none of the strokes before). -/
theorem node_slash : ∀ (l : List UInt8) (i : Nat),
    (decide (nodeA l i ≠ 0) && (l.drop (nodeA l i - 2 - i)).all prin) = (decide (¬ slashA l (i + 2) < 3) && goodA (slashA l (i + 2)) l (i + 2))
  | [], i => by simp [nodeA, slashA]
  | c :: l, i => by
    have ih := node_slash l (i + 1)
    by_cases h47 : c.toNat = 47
    · have hl := lett_stroke h47
      rw [nodeA, slashA, if_pos h47, hl]
      by_cases hi : 0 < i
      · have e1 : i + 3 - 2 - i = 1 := by omega
        have e2 : ¬ i + 2 < 3 := by omega
        have e3 : ¬ i + 2 < i + 2 := by omega
        simp only [Bool.false_eq_true, if_false, h47, hi, and_self, if_true, e1, e2, goodA, e3]
        rw [goodA_far l (i + 2 + 1) (by omega)]
        simp
      · have e2 : i + 2 < 3 := by omega
        simp [hi, e2]
    · have hs := slashA_ge l (i + 2 + 1)
      have hn := nodeA_ge l (i + 1)
      rw [slashA, if_neg h47, goodA]
      by_cases hl : lett c = true
      · rw [nodeA, if_pos hl]
        have e1 : ((c :: l).drop (nodeA l (i + 1) - 2 - i)) = l.drop (nodeA l (i + 1) - 2 - (i + 1)) ∨ nodeA l (i + 1) = 0 := by
          rcases hn with h | h
          · exact .inr h
          · left
            rw [show nodeA l (i + 1) - 2 - i = (nodeA l (i + 1) - 2 - (i + 1)) + 1 by omega, List.drop_succ_cons]
        have e2 : (decide (nodeA l (i + 1) ≠ 0) && ((c :: l).drop (nodeA l (i + 1) - 2 - i)).all prin) = (decide (nodeA l (i + 1) ≠ 0) && (l.drop (nodeA l (i + 1) - 2 - (i + 1))).all prin) := by
          rcases e1 with h | h
          · rw [h]
          · simp [h]
        rw [e2, ih]
        rw [show i + 1 + 2 = i + 2 + 1 by omega]
        rcases hs with h | h
        · simp [h]
        · have h1 : ¬ slashA l (i + 2 + 1) < i + 2 := by omega
          simp [h1, hl]
      · have hl' : lett c = false := by simpa using hl
        have hi : ¬ (c.toNat = 47 ∧ 0 < i) := fun h => h47 h.1
        rw [nodeA, hl', if_neg (by simp), if_neg hi]
        rcases hs with h | h
        · simp [h]
        · have h1 : i + 2 < slashA l (i + 2 + 1) := by omega
          simp [h1, hl']
theorem EV.ok_eq (e : EV) : e.okR = e.ok := by
  unfold EV.okR EV.ok
  by_cases h2 : e.sch = 2
  · rw [if_pos h2, if_neg (by omega), if_pos h2]
  rw [if_neg h2]
  by_cases h1 : e.sch = 1
  · rw [if_pos h1]
    by_cases hn : e.node = 0
    · by_cases hs : e.svc = 0
      · by_cases h0 : e.name = noneL
        · have hl : ¬ (e.sch ≠ 1 ∨ e.node ≠ 0 ∨ e.svc ≠ 0 ∨ 60 < e.name.length) := by
            have : e.name.length = 4 := by rw [h0]; rfl
            omega
          rw [if_neg hl, if_pos h0]
          simp [hn, hs, namedL, h0]
        · by_cases hl60 : 60 < e.name.length
          · have hN : nodeN e.name = 0 := by unfold nodeN; rw [if_neg (by omega)]
            rw [if_pos (by omega)]
            simp [namedL, h0, hN]
          · rw [if_neg (by omega), if_neg h0]
            by_cases ht : e.name.take 2 = [47, 47]
            · have hN : nodeN e.name = nodeA (e.name.drop 2) 0 := by unfold nodeN; rw [if_pos ⟨ht, by omega⟩]
              have hk := node_slash (e.name.drop 2) 0
              have hge := nodeA_ge (e.name.drop 2) 0
              simp only [namedL, h0, hN, hn, hs, decide_true, decide_false, Bool.true_and, Bool.false_or]
              have e3 : (decide (nodeA (e.name.drop 2) 0 ≠ 0) && (e.name.drop (nodeA (e.name.drop 2) 0)).all prin) = (decide (nodeA (e.name.drop 2) 0 ≠ 0) && ((e.name.drop 2).drop (nodeA (e.name.drop 2) 0 - 2 - 0)).all prin) := by
                rcases hge with h | h
                · simp [h]
                · rw [List.drop_drop, show 2 + (nodeA (e.name.drop 2) 0 - 2 - 0) = nodeA (e.name.drop 2) 0 by omega]
              rw [e3, hk]
              unfold slash
              by_cases hlt : slashA (e.name.drop 2) 2 < 3
              · simp [hlt]
              · simp [hlt, ht]
            · have hN : nodeN e.name = 0 := by unfold nodeN; rw [if_neg (fun h => ht h.1)]
              rw [if_pos (Or.inr ht)]
              simp [namedL, h0, hN]
      · rw [if_pos (by omega)]; simp [hs]
    · rw [if_pos (by omega)]; simp [hn]
  · rw [if_pos (Or.inl h1), if_neg h1, if_neg h2]
end Go.Proofs.Ytagjhkknefiieaa
