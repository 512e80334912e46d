/-
  Items, plainly: no item's bytes begin with another's.
-/
import Derived.Test.YtagjhkknefiieaaItPlain
namespace Go.Proofs.Ytagjhkknefiieaa
set_option linter.unusedVariables false
namespace T

def catR : (Nat → List UInt8) → Nat → List UInt8
  | _, 0 => []
  | f, k + 1 => f 0 ++ catR (fun i => f (i + 1)) k
theorem cat_eq (k : Nat) : ∀ f, cat f k = catR f k := by
  have h : ∀ k f, cat f (k + 1) = f 0 ++ cat (fun i => f (i + 1)) k := by
    intro k
    induction k with
    | zero => intro f; simp [cat]
    | succ k ih =>
      intro f
      rw [cat, ih]
      rw [cat]
      simp
  induction k with
  | zero => intro f; rfl
  | succ k ih => intro f; rw [h, catR, ih]

theorem catR_same {R : Nat → Prop} : ∀ (k : Nat) (f g : Nat → List UInt8) (x y : List UInt8) (R : Nat → Prop), (∀ i, i < k → ∀ u v, f i ++ u = g i ++ v → R i ∧ u = v) → catR f k ++ x = catR g k ++ y → (∀ i, i < k → R i) ∧ x = y := by
  intro k
  induction k with
  | zero => intro f g x y R h e; exact ⟨fun i hi => by omega, e⟩
  | succ k ih =>
    intro f g x y R h e
    rw [catR, catR, List.append_assoc, List.append_assoc] at e
    obtain ⟨h0, e1⟩ := h 0 (by omega) _ _ e
    obtain ⟨h1, e2⟩ := ih (fun i => f (i + 1)) (fun i => g (i + 1)) x y (fun i => R (i + 1)) (fun i hi => h (i + 1) (by omega)) e1
    refine ⟨fun i hi => ?_, e2⟩
    cases i with
    | zero => exact h0
    | succ i => exact h1 i (by omega)
theorem catR_end : ∀ (k j : Nat) (f g : Nat → List UInt8) (x y : List UInt8) (R : Nat → Prop), (∀ i, i < k → i < j → ∀ u v, f i ++ u = g i ++ v → R i ∧ u = v) → (∀ i, i < k → ∀ u v, f i ++ u ≠ 255 :: v) → (∀ i, i < j → ∀ u v, g i ++ u ≠ 255 :: v) →
    catR f k ++ 255 :: x = catR g j ++ 255 :: y → k = j ∧ (∀ i, i < k → R i) ∧ x = y := by
  intro k
  induction k with
  | zero =>
    intro j f g x y R h hf hg e
    cases j with
    | zero => simp [catR] at e; exact ⟨rfl, fun i hi => by omega, e⟩
    | succ j => rw [catR, catR, List.append_assoc, List.nil_append] at e; exact absurd e.symm (hg 0 (by omega) _ _)
  | succ k ih =>
    intro j f g x y R h hf hg e
    cases j with
    | zero => rw [catR, catR, List.append_assoc, List.nil_append] at e; exact absurd e (hf 0 (by omega) _ _)
    | succ j =>
      rw [catR, catR, List.append_assoc, List.append_assoc] at e
      obtain ⟨h0, e1⟩ := h 0 (by omega) (by omega) _ _ e
      obtain ⟨hkj, h1, e2⟩ := ih j (fun i => f (i + 1)) (fun i => g (i + 1)) x y (fun i => R (i + 1)) (fun i hi hj => h (i + 1) (by omega) (by omega)) (fun i hi => hf (i + 1) (by omega)) (fun i hi => hg (i + 1) (by omega)) e1
      refine ⟨by omega, fun i hi => ?_, e2⟩
      cases i with
      | zero => exact h0
      | succ i => exact h1 i (by omega)

theorem readH_open (t : List UInt8) : readH (159 :: t) = some (1, 4, 0, true) := by
  unfold readH
  have e : (159 : UInt8).toNat = 159 := rfl
  simp only [e]
  rfl
theorem readH_break (t : List UInt8) : readH (255 :: t) = some (1, 7, 0, true) := by
  unfold readH
  have e : (255 : UInt8).toNat = 255 := rfl
  simp only [e]
  rfl

/-- The head of an item. -/
def hd : T → Nat × Nat × Nat × Bool
  | nil => (0, 0, 0, false)
  | mk kind n s op k _ => if kind = 0 then ((headL 0 n).length, 0, n, false) else if kind < 4 then ((headL kind.toNat s.length).length, kind.toNat, s.length, false) else if op then (1, 4, 0, true) else ((headL 4 k).length, 4, k, false)
theorem node_kind {kind : Int} {n : Nat} {s : List UInt8} {op : Bool} {k : Nat} (h : node kind n s op k = true) : kind = 0 ∨ kind = 2 ∨ kind = 3 ∨ kind = 4 := by
  unfold node at h
  split at h
  · exact .inl ‹_›
  · split at h
    · rename_i h1; rcases h1 with h1 | h1
      · exact .inr (.inl h1)
      · exact .inr (.inr (.inl h1))
    · split at h
      · exact .inr (.inr (.inr ‹_›))
      · cases h
theorem readH_bytes (t : T) (h : t.plain = true) (hok : t.ok) (x : List UInt8) : readH (t.bytes ++ x) = some t.hd := by
  cases t with
  | nil => cases h
  | mk kind n s op k ch =>
    unfold plain at h
    rw [Bool.and_eq_true] at h
    have hk := node_kind h.1
    unfold ok at hok
    unfold bytes; dsimp only [hd]
    by_cases a : kind = 0
    · rw [if_pos a, if_pos a]
      exact readH_head (by omega) hok.2.1 x
    · rw [if_neg a, if_neg a]
      by_cases b : kind < 4
      · rw [if_pos b, if_pos b, List.append_assoc]
        exact readH_head (by omega) (by have := hok.2.2.1; omega) _
      · rw [if_neg b, if_neg b, List.append_assoc]
        cases op
        · simp only [Bool.false_eq_true, if_false]
          exact readH_head (by omega) (by have := hok.2.2.2.1; omega) _
        · simp only [if_true]
          exact readH_open _
theorem bytes_not_break (t : T) (h : t.plain = true) (hok : t.ok) (u v : List UInt8) : t.bytes ++ u ≠ 255 :: v := by
  intro e
  have h1 := readH_bytes t h hok u
  rw [e, readH_break] at h1
  cases t with
  | nil => cases h
  | mk kind n s op k ch =>
    unfold plain at h
    rw [Bool.and_eq_true] at h
    have hk := node_kind h.1
    dsimp only [hd] at h1
    split at h1
    · simp at h1
    · split at h1
      · simp at h1
      · split at h1 <;> simp at h1

theorem bytes_inj (a : T) : ∀ b, a.plain = true → b.plain = true → a.ok → b.ok → ∀ x y, a.bytes ++ x = b.bytes ++ y → a.same b = true ∧ x = y := by
  induction a with
  | nil => intro b h; cases h
  | mk kind n s op k ch ih =>
    intro b hpa hpb hoa hob x y e
    have r1 := readH_bytes _ hpa hoa x
    have r2 := readH_bytes b hpb hob y
    rw [e, r2] at r1
    have r3 : b.hd = (mk kind n s op k ch).hd := Option.some.inj r1
    clear r1 r2
    cases b with
    | nil => cases hpb
    | mk kind' n' s' op' k' ch' =>
      have qa := hpa; have qb := hpb
      unfold plain at qa qb
      rw [Bool.and_eq_true, all_iff] at qa qb
      have ka := node_kind qa.1; have kb := node_kind qb.1
      obtain ⟨na, pa⟩ := qa
      obtain ⟨nb, pb⟩ := qb
      unfold ok at hoa hob
      have sm : ∀ (h1 : kind = kind') (h2 : n = n') (h3 : s = s') (h4 : op = op') (h5 : k = k') (h6 : ∀ i, i < k → (ch i).same (ch' i) = true), (mk kind n s op k ch).same (mk kind' n' s' op' k' ch') = true := by
        intro h1 h2 h3 h4 h5 h6
        subst h1 h2 h3 h4 h5
        unfold same
        simp only [T.kind, T.n, T.s, T.op, T.k, T.ch, Bool.and_eq_true, beq_self_eq_true, true_and, all_iff]
        exact h6
      dsimp only [hd] at r3
      unfold node at na nb
      unfold bytes at e
      by_cases a0 : kind = 0
      · rw [if_pos a0] at r3 na e
        by_cases b0 : kind' = 0
        · rw [if_pos b0] at r3 nb e
          simp at r3 na nb
          obtain ⟨⟨rfl, rfl⟩, rfl⟩ := na
          obtain ⟨⟨rfl, rfl⟩, rfl⟩ := nb
          obtain ⟨_, rfl⟩ := r3
          exact ⟨sm (by omega) rfl rfl rfl rfl (fun i hi => by omega), List.append_cancel_left e⟩
        · rw [if_neg b0] at r3
          split at r3
          · simp at r3; omega
          · split at r3 <;> simp at r3
      · rw [if_neg a0] at r3 na e
        by_cases b0 : kind' = 0
        · rw [if_pos b0] at r3
          split at r3
          · simp at r3; omega
          · split at r3 <;> simp at r3
        · rw [if_neg b0] at r3 nb e
          by_cases a4 : kind < 4
          · rw [if_pos a4] at r3 e
            rw [if_pos (by omega)] at na
            by_cases b4 : kind' < 4
            · rw [if_pos b4] at r3 e
              rw [if_pos (by omega)] at nb
              simp at r3 na nb
              obtain ⟨⟨rfl, rfl⟩, rfl⟩ := na
              obtain ⟨⟨rfl, rfl⟩, rfl⟩ := nb
              obtain ⟨_, hkk, hss⟩ := r3
              obtain rfl : kind = kind' := by omega
              rw [hss, List.append_assoc, List.append_assoc] at e
              have e2 := List.append_cancel_left e
              obtain ⟨rfl, e3⟩ := List.append_inj e2 hss.symm
              exact ⟨sm rfl rfl rfl rfl rfl (fun i hi => by omega), e3⟩
            · rw [if_neg b4] at r3
              split at r3
              · simp at r3
              · simp at r3; omega
          · rw [if_neg a4] at r3 e
            obtain rfl : kind = 4 := by omega
            by_cases b4 : kind' < 4
            · rw [if_pos b4] at r3
              split at r3
              · simp at r3
              · simp at r3; omega
            · rw [if_neg b4] at r3 e
              obtain rfl : kind' = 4 := by omega
              rw [if_neg (by omega), if_pos rfl] at na nb
              simp at na nb
              obtain ⟨⟨rfl, rfl⟩, _⟩ := na
              obtain ⟨⟨rfl, rfl⟩, _⟩ := nb
              cases op with
              | false =>
                cases op' with
                | true => simp at r3
                | false =>
                  simp only [Bool.false_eq_true, if_false, Prod.mk.injEq, true_and, and_true] at r3
                  obtain ⟨_, rfl⟩ := r3
                  simp only [Bool.false_eq_true, if_false, List.append_nil, List.append_assoc] at e
                  have e2 := List.append_cancel_left e
                  rw [cat_eq, cat_eq] at e2
                  obtain ⟨h1, h2⟩ := catR_same (R := fun _ => True) k' (fun i => (ch i).bytes) (fun i => (ch' i).bytes) x y (fun i => (ch i).same (ch' i) = true) (fun i hi u v h => ih i (ch' i) (pa i hi) (pb i hi) (hoa.2.2.2.2 i hi) (hob.2.2.2.2 i hi) u v h) e2
                  exact ⟨sm rfl rfl rfl rfl rfl h1, h2⟩
              | true =>
                cases op' with
                | false => simp at r3
                | true =>
                  simp only [if_true, List.append_assoc, List.cons_append, List.nil_append, List.cons.injEq, true_and] at e
                  rw [cat_eq, cat_eq] at e
                  obtain ⟨rfl, h1, h2⟩ := catR_end k k' (fun i => (ch i).bytes) (fun i => (ch' i).bytes) x y (fun i => (ch i).same (ch' i) = true) (fun i hi hj u v h => ih i (ch' i) (pa i hi) (pb i hj) (hoa.2.2.2.2 i hi) (hob.2.2.2.2 i hj) u v h)
                    (fun i hi => bytes_not_break (ch i) (pa i hi) (hoa.2.2.2.2 i hi)) (fun i hi => bytes_not_break (ch' i) (pb i hi) (hob.2.2.2.2 i hi)) e
                  exact ⟨sm rfl rfl rfl rfl rfl h1, h2⟩

theorem same_bytes (a : T) : ∀ b, b.ok → a.same b = true → a.bytes = b.bytes := by
  induction a with
  | nil =>
    intro b hb h
    cases b with
    | nil => rfl
    | mk => cases h
  | mk kind n s op k ch ih =>
    intro b hb h
    cases b with
    | nil => cases hb
    | mk kind' n' s' op' k' ch' =>
      unfold same at h
      unfold ok at hb
      simp only [T.kind, T.n, T.s, T.op, T.k, T.ch, Bool.and_eq_true, beq_iff_eq, all_iff] at h
      obtain ⟨⟨⟨⟨⟨rfl, rfl⟩, rfl⟩, rfl⟩, rfl⟩, h6⟩ := h
      have : ∀ j, j ≤ k → cat (fun i => (ch i).bytes) j = cat (fun i => (ch' i).bytes) j := by
        intro j hj
        induction j with
        | zero => rfl
        | succ j ih2 => rw [cat, cat, ih2 (by omega), ih j (ch' j) (hb.2.2.2.2 j (by omega)) (h6 j (by omega))]
      unfold bytes
      rw [this k (Nat.le_refl _)]

theorem same_refl (a : T) : a.same a = true := by
  induction a with
  | nil => rfl
  | mk kind n s op k ch ih =>
    unfold same
    simp only [T.kind, T.n, T.s, T.op, T.k, T.ch, Bool.and_eq_true, beq_self_eq_true, true_and, all_iff]
    exact fun i _ => ih i
end T
end Go.Proofs.Ytagjhkknefiieaa
