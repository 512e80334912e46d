/-
  Tables, plainly: what becomes of the keys.
-/
namespace Go.Proofs.Ytmcehdinkghlfaa
set_option linter.unusedVariables false

section
variable {κ : Type} [BEq κ]
def putK (most : Nat) (ks : List κ) (k : κ) : List κ × Int :=
  if ks.findIdx (fun x => x == k) < ks.length then (ks, 0) else if most ≤ ks.length then (ks, 9) else (ks ++ [k], 0)
def dropK (ks : List κ) (k : κ) : List κ × Bool :=
  if ks.findIdx (fun x => x == k) < ks.length then (ks.eraseIdx (ks.findIdx (fun x => x == k)), true) else (ks, false)
def pushK (most : Nat) (ks : List κ) (k : κ) : List κ × Option κ :=
  if (putK most ks k).2 = 0 ∨ most = 0 then ((putK most ks k).1, none)
  else match ks with
    | [] => (ks, none)
    | e :: r => ((putK most (dropK (e :: r) e).1 k).1, some e)
end

theorem findIdx_map' {α β : Type} (f : α → β) (p : β → Bool) (l : List α) : (l.map f).findIdx p = l.findIdx (fun x => p (f x)) := by
  induction l with
  | nil => rfl
  | cons a l ih =>
    rw [List.map_cons, List.findIdx_cons, List.findIdx_cons, ih]
theorem findIdx_congr' {α : Type} {p q : α → Bool} {l : List α} (h : ∀ x ∈ l, p x = q x) : l.findIdx p = l.findIdx q := by
  induction l with
  | nil => rfl
  | cons a l ih =>
    rw [List.findIdx_cons, List.findIdx_cons, h a (by simp), ih (fun x hx => h x (by simp [hx]))]
theorem eraseIdx_map' {α β : Type} (f : α → β) (l : List α) (i : Nat) : (l.map f).eraseIdx i = (l.eraseIdx i).map f := by
  rw [List.eraseIdx_eq_take_drop_succ, List.eraseIdx_eq_take_drop_succ, List.map_append, List.map_take, List.map_drop]

/-- f tells the keys of a list apart from k just as they are. -/
def Apart {κ : Type} [BEq κ] (f : Nat → κ) (N : Nat) : Prop := ∀ x y, x < N → y < N → (f x == f y) = (x == y)
section
variable {κ : Type} [BEq κ] {f : Nat → κ} {N : Nat}
theorem find_f (hf : Apart f N) {qs : List Nat} (hq : ∀ x ∈ qs, x < N) {q : Nat} (hqn : q < N) : (qs.map f).findIdx (fun x => x == f q) = qs.findIdx (fun x => x == q) := by
  rw [findIdx_map']
  exact findIdx_congr' (fun x hx => hf x q (hq x hx) hqn)
theorem putK_f (hf : Apart f N) (most : Nat) {qs : List Nat} (hq : ∀ x ∈ qs, x < N) {q : Nat} (hqn : q < N) : putK most (qs.map f) (f q) = ((putK most qs q).1.map f, (putK most qs q).2) := by
  unfold putK
  rw [find_f hf hq hqn, List.length_map]
  split
  · rfl
  · split
    · rfl
    · simp
theorem dropK_f (hf : Apart f N) {qs : List Nat} (hq : ∀ x ∈ qs, x < N) {q : Nat} (hqn : q < N) : dropK (qs.map f) (f q) = ((dropK qs q).1.map f, (dropK qs q).2) := by
  unfold dropK
  rw [find_f hf hq hqn, List.length_map]
  split
  · simp [eraseIdx_map']
  · rfl
theorem putK_lt {most : Nat} {qs : List Nat} (hq : ∀ x ∈ qs, x < N) {q : Nat} (hqn : q < N) : ∀ x ∈ (putK most qs q).1, x < N := by
  unfold putK
  split
  · exact hq
  · split
    · exact hq
    · intro x hx
      simp at hx
      rcases hx with hx | rfl
      · exact hq x hx
      · exact hqn
theorem dropK_lt {qs : List Nat} (hq : ∀ x ∈ qs, x < N) (q : Nat) : ∀ x ∈ (dropK qs q).1, x < N := by
  unfold dropK
  split
  · intro x hx; exact hq x (List.mem_of_mem_eraseIdx hx)
  · exact hq
theorem putK_len (most : Nat) (qs : List Nat) (q : Nat) : (putK most qs q).1.length ≤ qs.length + 1 := by
  unfold putK
  split
  · simp
  · split
    · simp
    · simp
theorem dropK_len (qs : List Nat) (q : Nat) : (dropK qs q).1.length ≤ qs.length := by
  unfold dropK
  split
  · rw [List.length_eraseIdx]; split <;> simp
  · exact Nat.le_refl _
theorem pushK_lt {most : Nat} {qs : List Nat} (hq : ∀ x ∈ qs, x < N) {q : Nat} (hqn : q < N) : (∀ x ∈ (pushK most qs q).1, x < N) ∧ (∀ x, (pushK most qs q).2 = some x → x < N) := by
  unfold pushK
  split
  · exact ⟨putK_lt hq hqn, by simp⟩
  · split
    · exact ⟨hq, by simp⟩
    · refine ⟨putK_lt (dropK_lt hq _) hqn, fun x hx => ?_⟩
      simp at hx
      subst hx
      exact hq _ (by simp)
theorem pushK_len (most : Nat) (qs : List Nat) (q : Nat) : (pushK most qs q).1.length ≤ qs.length + 1 := by
  unfold pushK
  split
  · exact putK_len _ _ _
  · cases qs with
    | nil => simp
    | cons e r =>
      have h1 := putK_len most (dropK (e :: r) e).1 q
      have h2 := dropK_len (e :: r) e
      simp only
      omega
theorem pushK_f (hf : Apart f N) (most : Nat) {qs : List Nat} (hq : ∀ x ∈ qs, x < N) {q : Nat} (hqn : q < N) : pushK most (qs.map f) (f q) = ((pushK most qs q).1.map f, (pushK most qs q).2.map f) := by
  unfold pushK
  rw [putK_f hf most hq hqn]
  split
  · rfl
  · cases qs with
    | nil => rfl
    | cons e r =>
      have he : e < N := hq e (by simp)
      simp only [List.map_cons]
      have h1 : dropK (f e :: r.map f) (f e) = ((dropK (e :: r) e).1.map f, (dropK (e :: r) e).2) := dropK_f (qs := e :: r) hf hq he
      rw [h1]
      simp only
      rw [putK_f hf most (dropK_lt hq e) hqn]
      rfl
end
end Go.Proofs.Ytmcehdinkghlfaa
