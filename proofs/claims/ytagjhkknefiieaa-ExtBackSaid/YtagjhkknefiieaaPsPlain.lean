/-
  How an item is parsed, plainly: how far it goes, or where it is wrong, and why.
-/
import Derived.Test.YtagjhkknefiieaaItRef2
namespace Go.Proofs.Ytagjhkknefiieaa
set_option linter.unusedVariables false

/-- An array's items from e on, the number of those that may still come being j of a thousand. -/
def floop (f : List UInt8 → Nat × Int) (l : List UInt8) (o : Bool) (n : Nat) : Nat → Nat → Nat × Int
  | 0, e => if o = false ∧ n ≤ 1000 then (e, 0) else if o = true ∧ l[e]? = some 255 then (e + 1, 0) else (e, 4)
  | j + 1, e => if o = false ∧ n ≤ 1000 - (j + 1) then (e, 0) else if o = true ∧ l[e]? = some 255 then (e + 1, 0) else
      if (f (l.drop e)).2 = 0 then floop f l o n j (e + (f (l.drop e)).1) else (e + (f (l.drop e)).1, (f (l.drop e)).2)
/-- No item's kind. -/
def noK (m : Nat) : Bool := m != 0 && m != 2 && m != 3 && m != 4
/-- Place and error. -/
def flt : Nat → List UInt8 → Nat × Int
  | 0, l => match readH l with
    | none => (0, 2)
    | some (sz, m, n, o) => if noK m = true then (0, 2) else (0, 3)
  | d + 1, l => match readH l with
    | none => (0, 2)
    | some (sz, m, n, o) => if noK m = true then (0, 2) else if m = 0 then (sz, 0) else
        if m < 4 then (if o = true ∨ l.length - sz < n then (0, 2) else (sz + n, 0)) else
        if o = false ∧ 1000 < n then (0, 4) else floop (flt d) l o n 1000 sz

theorem floop_le {f : List UInt8 → Nat × Int} (hf : ∀ l, (f l).1 ≤ l.length) (l : List UInt8) (o : Bool) (n : Nat) : ∀ j e, e ≤ l.length → (floop f l o n j e).1 ≤ l.length := by
  intro j
  induction j with
  | zero =>
    intro e he
    unfold floop
    split
    · exact he
    · split
      · rename_i h; exact (List.getElem?_eq_some_iff.1 h.2).1
      · exact he
  | succ j ih =>
    intro e he
    have h1 := hf (l.drop e)
    rw [List.length_drop] at h1
    unfold floop
    split
    · exact he
    · split
      · rename_i h; exact (List.getElem?_eq_some_iff.1 h.2).1
      · split
        · exact ih _ (by omega)
        · show e + (f (l.drop e)).1 ≤ l.length; omega
theorem flt_le (d : Nat) : ∀ l, (flt d l).1 ≤ l.length := by
  induction d with
  | zero =>
    intro l
    unfold flt
    split
    · exact Nat.zero_le _
    · split <;> exact Nat.zero_le _
  | succ d ih =>
    intro l
    unfold flt
    split
    · exact Nat.zero_le _
    · rename_i sz m n o hr
      have h1 := (readH_some hr).le
      split
      · exact Nat.zero_le _
      · split
        · exact h1
        · split
          · split
            · exact Nat.zero_le _
            · show sz + n ≤ l.length; rename_i h; simp only [not_or, Nat.not_lt] at h; omega
          · split
            · exact Nat.zero_le _
            · exact floop_le ih l o n 1000 sz h1

theorem cat_split (f : Nat → List UInt8) {i k : Nat} (h : i ≤ k) : ∃ r, T.cat f k = T.cat f i ++ r := by
  induction k with
  | zero => obtain rfl : i = 0 := by omega
            exact ⟨[], by simp⟩
  | succ k ih =>
    by_cases e : i = k + 1
    · subst e; exact ⟨[], by simp⟩
    · obtain ⟨r, hr⟩ := ih (by omega)
      exact ⟨r ++ f k, by rw [T.cat, hr, List.append_assoc]⟩
theorem pre_split (kind : Int) (s : List UInt8) (op : Bool) (kk : Nat) (ch : Nat → T) {i k : Nat} (h : i ≤ k) : ∃ r, pre kind s op kk ch k = pre kind s op kk ch i ++ r := by
  obtain ⟨r, hr⟩ := cat_split (fun i => (ch i).bytes) h
  exact ⟨r, by unfold pre; rw [hr, List.append_assoc]⟩
theorem get_255 {l : List UInt8} {e : Nat} : l[e]? = some 255 ↔ ∃ v, l.drop e = 255 :: v := by
  rw [← List.head?_drop]
  cases l.drop e with
  | nil => simp
  | cons x v => simp

theorem readH_255 {t : List UInt8} {sz m n : Nat} {o : Bool} (h : readH t = some (sz, m, n, o)) : (m = 7 ∧ o = true) ↔ ∃ v, t = 255 :: v := by
  constructor
  · rintro ⟨rfl, rfl⟩
    unfold readH at h
    match t, h with
    | c :: r, h =>
      have hc := c.toNat_lt
      dsimp only at h
      split at h
      · simp at h
      · split at h
        · rename_i h1
          simp only [Option.some.injEq, Prod.mk.injEq] at h
          have e : c.toNat = 255 := by omega
          refine ⟨r, ?_⟩
          rw [← b8_toNat c, e]; rfl
        · split at h
          · cases h
          · split at h
            · cases h
            · split at h
              · simp at h
              · cases h
  · rintro ⟨v, rfl⟩
    rw [T.readH_break] at h
    simp only [Option.some.injEq, Prod.mk.injEq] at h
    exact ⟨h.2.1.symm, h.2.2.2.symm⟩

theorem flt_bytes (t : T) : ∀ d, t.right d = true → t.ok → ∀ x, flt d (t.bytes ++ x) = (t.bytes.length, 0) := by
  induction t with
  | nil => intro d h hok; cases hok
  | mk kind n s op k ch ih =>
    intro d h hok x
    have hp : (T.mk kind n s op k ch).plain = true := by rw [T.right_eq] at h; simp at h; exact h.2
    have hr := T.readH_bytes _ hp hok x
    cases d with
    | zero => unfold T.right at h; simp at h
    | succ d =>
      unfold T.right at h
      rw [if_neg (by omega), Bool.and_eq_true, T.all_iff] at h
      obtain ⟨h1, h2⟩ := h
      simp only [Nat.add_sub_cancel] at h2
      have hkd := T.node_kind h1
      unfold T.ok at hok
      unfold flt
      rw [hr]
      unfold T.plain at hp
      rw [Bool.and_eq_true, T.all_iff] at hp
      rcases hkd with rfl | rfl | rfl | rfl
      · simp only [T.hd, if_true]
        unfold T.node at h1
        simp at h1
        obtain ⟨⟨rfl, rfl⟩, rfl⟩ := h1
        simp [noK, T.bytes]
      · unfold T.node at h1
        simp at h1
        obtain ⟨⟨rfl, rfl⟩, rfl⟩ := h1
        simp [T.hd, noK, T.bytes]
      · unfold T.node at h1
        simp at h1
        obtain ⟨⟨rfl, rfl⟩, rfl⟩ := h1
        simp [T.hd, noK, T.bytes]
      · unfold T.node at h1
        simp at h1
        obtain ⟨⟨rfl, rfl⟩, hk⟩ := h1
        rw [pre_end]
        have key : ∀ m i, i + m = k → floop (flt d) (pre 4 [] op k ch k ++ (if op then [255] else []) ++ x) op (if op then 0 else k) (1000 - i) (pre 4 [] op k ch i).length = ((pre 4 [] op k ch k ++ (if op then [255] else [])).length, 0) := by
          intro m
          induction m with
          | zero =>
            intro i hi
            obtain rfl : i = k := by omega
            cases op
            · simp only [Bool.false_eq_true, if_false, List.append_nil]
              cases hj : 1000 - i with
              | zero => unfold floop; rw [if_pos ⟨rfl, by omega⟩]
              | succ j => unfold floop; rw [if_pos ⟨rfl, by omega⟩]
            · simp only [if_true]
              have h255 : (pre 4 [] true i ch i ++ [255] ++ x)[(pre 4 [] true i ch i).length]? = some 255 := get_255.2 ⟨x, by rw [List.append_assoc, List.drop_left]; rfl⟩
              cases hj : 1000 - i with
              | zero => unfold floop; rw [if_neg (by simp), if_pos ⟨rfl, h255⟩, List.length_append]; rfl
              | succ j => unfold floop; rw [if_neg (by simp), if_pos ⟨rfl, h255⟩, List.length_append]; rfl
          | succ m ihm =>
            intro i hi
            have hik : i < k := by omega
            have e1 : 1000 - i = (1000 - (i + 1)) + 1 := by omega
            obtain ⟨r, hr⟩ := pre_split 4 [] op k ch (show i + 1 ≤ k by omega)
            have hd : (pre 4 [] op k ch k ++ (if op then [255] else []) ++ x).drop (pre 4 [] op k ch i).length = (ch i).bytes ++ (r ++ ((if op then [255] else []) ++ x)) := by
              rw [hr, pre_succ, List.append_assoc, List.append_assoc, List.append_assoc, List.drop_left]
            have hc := ih i d (h2 i hik) (hok.2.2.2.2 i hik) (r ++ ((if op then [255] else []) ++ x))
            rw [e1]
            unfold floop
            rw [if_neg (by intro h; obtain ⟨h3, h4⟩ := h; subst h3; simp at h4; omega), if_neg (by
              rintro ⟨_, h4⟩
              obtain ⟨v, hv⟩ := get_255.1 h4
              rw [hd] at hv
              exact T.bytes_not_break (ch i) (hp.2 i hik) (hok.2.2.2.2 i hik) _ _ hv), hd, hc, if_pos rfl]
            have := ihm (i + 1) (by omega)
            rw [pre_succ, List.length_append] at this
            exact this
        have h0 := key k 0 (by omega)
        cases op
        · have e : (pre 4 [] false k ch 0).length = (headL 4 k).length := by simp [pre, T.cat]
          rw [e] at h0
          have eh : (T.mk 4 0 [] false k ch).hd = ((headL 4 k).length, 4, k, false) := rfl
          rw [eh]
          dsimp only
          rw [if_neg (by decide), if_neg (by decide), if_neg (by decide), if_neg (by rintro ⟨_, h⟩; omega)]
          exact h0
        · have eh : (T.mk 4 0 [] true k ch).hd = (1, 4, 0, true) := rfl
          rw [eh]
          dsimp only
          rw [if_neg (by decide), if_neg (by decide), if_neg (by decide), if_neg (by rintro ⟨h, _⟩; cases h)]
          exact h0
end Go.Proofs.Ytagjhkknefiieaa
