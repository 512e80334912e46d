/-
  Sums against chance, plainly: the code's (bits turned about, a byte at a time) and the reference's (bits in a row) are the same.
-/
import Init
namespace Go.Proofs.Yticbopfacfmjfaa
set_option linter.unusedVariables false
namespace Crc

/-- So many bits about. -/
def rv : Nat → Nat → Nat
  | 0, _ => 0
  | n + 1, x => 2 ^ n * (x % 2) + rv n (x / 2)
theorem rv_lt : ∀ (n x : Nat), rv n x < 2 ^ n
  | 0, _ => by simp [rv]
  | n + 1, x => by
    have h := rv_lt n (x / 2)
    have h2 : x % 2 < 2 := Nat.mod_lt _ (by omega)
    have : x % 2 = 0 ∨ x % 2 = 1 := by omega
    unfold rv
    rcases this with e | e <;> rw [e, Nat.pow_succ] <;> omega
theorem rv_bit : ∀ (n x i : Nat), (rv n x).testBit i = (decide (i < n) && x.testBit (n - 1 - i))
  | 0, x, i => by simp [rv]
  | n + 1, x, i => by
    have h := rv_bit n (x / 2) i
    have hl := rv_lt n (x / 2)
    unfold rv
    rw [Nat.testBit_two_pow_mul_add _ hl]
    by_cases hi : i < n
    · rw [if_pos hi, h]
      have e : n + 1 - 1 - i = (n - 1 - i) + 1 := by omega
      rw [e, Nat.testBit_succ]
      simp [hi, Nat.lt_succ_of_lt hi]
    · rw [if_neg hi]
      by_cases hin : i = n
      · subst hin
        simp [Nat.testBit_zero]
      · have h1 : ¬ i < n + 1 := by omega
        have h3 : i - n = (i - n - 1) + 1 := by omega
        have h4 : x % 2 / 2 = 0 := by omega
        simp only [h1, decide_false, Bool.false_and]
        rw [h3, Nat.testBit_succ, h4, Nat.zero_testBit]
theorem rv_xor (n x y : Nat) : rv n (x ^^^ y) = rv n x ^^^ rv n y := by
  apply Nat.eq_of_testBit_eq
  intro i
  rw [Nat.testBit_xor, rv_bit, rv_bit, rv_bit, Nat.testBit_xor]
  cases decide (i < n) <;> simp
theorem rv_rv (n x : Nat) (h : x < 2 ^ n) : rv n (rv n x) = x := by
  apply Nat.eq_of_testBit_eq
  intro i
  rw [rv_bit, rv_bit]
  by_cases hi : i < n
  · have e : n - 1 - (n - 1 - i) = i := by omega
    have e2 : n - 1 - i < n := by omega
    simp [hi, e, e2]
  · have : x < 2 ^ i := Nat.lt_of_lt_of_le h (Nat.pow_le_pow_right (by omega) (by omega))
    simp [hi, Nat.testBit_lt_two_pow this]
theorem rv_high (m x : Nat) : rv (m + 1) x / 2 ^ m = x % 2 := by
  unfold rv
  rw [Nat.mul_add_div (Nat.two_pow_pos m), Nat.div_eq_of_lt (rv_lt m _)]
  omega
theorem rv_half (m x : Nat) (h : x < 2 ^ (m + 1)) : rv (m + 1) (x / 2) = rv (m + 1) x * 2 % 2 ^ (m + 1) := by
  apply Nat.eq_of_testBit_eq
  intro i
  rw [rv_bit, Nat.testBit_mod_two_pow, ← Nat.testBit_succ]
  cases i with
  | zero =>
    have e : (m + 1 - 1 - 0).succ = m + 1 := by omega
    rw [e, Nat.testBit_lt_two_pow h]
    simp [Nat.testBit_zero]
  | succ i =>
    have t : (rv (m + 1) x * 2).testBit (i + 1) = (rv (m + 1) x).testBit i := by rw [Nat.testBit_succ, Nat.mul_div_cancel _ (by omega : 0 < 2)]
    rw [t, rv_bit]
    by_cases hi : i + 1 < m + 1
    · have e : (m + 1 - 1 - (i + 1)).succ = m + 1 - 1 - i := by omega
      have h2 : i < m + 1 := by omega
      simp only [hi, h2, e, decide_true, Bool.true_and]
    · simp [hi]

/-- The code's step, its byte, its row. -/
def stepC (p s : Nat) : Nat := if s % 2 = 1 then s / 2 ^^^ p else s / 2
def stepsC (p : Nat) : Nat → Nat → Nat
  | 0, s => s
  | k + 1, s => stepsC p k (stepC p s)
def divC (p : Nat) (s : Nat) (l : List UInt8) : Nat := l.foldl (fun s c => stepsC p 8 (s ^^^ c.toNat)) s
/-- The same step, with a bit of the row. -/
def stepB (p s b : Nat) : Nat := if s % 2 = b then s / 2 else s / 2 ^^^ p
def stepsB (p : Nat) : Nat → Nat → Nat → Nat
  | 0, s, _ => s
  | k + 1, s, c => stepsB p k (stepB p s (c % 2)) (c / 2)
/-- The reference's step, its byte, its row. -/
def stepR (top d r b : Nat) : Nat := if r / (top / 2) = b then r * 2 % top else (r * 2 % top) ^^^ d
def stepsR (top d : Nat) : Nat → Nat → Nat → Nat
  | 0, r, _ => r
  | k + 1, r, c => stepsR top d k (stepR top d r (c % 2)) (c / 2)
def divR (top d : Nat) (r : Nat) (l : List UInt8) : Nat := l.foldl (fun r c => stepsR top d 8 r c.toNat) r

theorem xor_mod (a b : Nat) : (a ^^^ b) % 2 = if a % 2 = b % 2 then 0 else 1 := by
  have h := Nat.testBit_xor a b 0
  simp only [Nat.testBit_zero] at h
  rcases Nat.mod_two_eq_zero_or_one a with ha | ha <;> rcases Nat.mod_two_eq_zero_or_one b with hb | hb <;> rcases Nat.mod_two_eq_zero_or_one (a ^^^ b) with hab | hab <;> simp [ha, hb, hab] at h ⊢
theorem xor_half (a b : Nat) : (a ^^^ b) / 2 = a / 2 ^^^ b / 2 := by
  apply Nat.eq_of_testBit_eq
  intro i
  rw [← Nat.testBit_succ, Nat.testBit_xor, Nat.testBit_xor, ← Nat.testBit_succ, ← Nat.testBit_succ]
theorem stepC_xor (p s c : Nat) : stepC p (s ^^^ c) = stepB p s (c % 2) ^^^ (c / 2) := by
  unfold stepC stepB
  rw [xor_mod, xor_half]
  by_cases h : s % 2 = c % 2
  · simp [h]
  · simp only [h, if_false, if_true]
    rw [Nat.xor_assoc, Nat.xor_comm (c / 2), ← Nat.xor_assoc]
theorem stepsC_xor (p : Nat) : ∀ (k s c : Nat), stepsC p k (s ^^^ c) = stepsB p k s c ^^^ (c / 2 ^ k)
  | 0, s, c => by simp [stepsC, stepsB]
  | k + 1, s, c => by
    show stepsC p k (stepC p (s ^^^ c)) = stepsB p k (stepB p s (c % 2)) (c / 2) ^^^ (c / 2 ^ (k + 1))
    rw [stepC_xor, stepsC_xor p k, Nat.div_div_eq_div_mul, Nat.pow_succ, Nat.mul_comm]
theorem stepB_lt {m p s b : Nat} (hp : p < 2 ^ (m + 1)) (hs : s < 2 ^ (m + 1)) : stepB p s b < 2 ^ (m + 1) := by
  unfold stepB
  split
  · omega
  · exact Nat.xor_lt_two_pow (by omega) hp
theorem stepsB_lt {m p : Nat} (hp : p < 2 ^ (m + 1)) : ∀ (k s c : Nat), s < 2 ^ (m + 1) → stepsB p k s c < 2 ^ (m + 1)
  | 0, s, c, h => h
  | k + 1, s, c, h => stepsB_lt hp k _ _ (stepB_lt hp h)
theorem stepR_rv {m p s b : Nat} (hs : s < 2 ^ (m + 1)) : stepR (2 ^ (m + 1)) (rv (m + 1) p) (rv (m + 1) s) b = rv (m + 1) (stepB p s b) := by
  have e : 2 ^ (m + 1) / 2 = 2 ^ m := by rw [Nat.pow_succ]; omega
  unfold stepR stepB
  rw [e, rv_high]
  split
  · rw [rv_half m s hs]
  · rw [rv_xor, rv_half m s hs]
theorem stepsR_rv {m p : Nat} (hp : p < 2 ^ (m + 1)) : ∀ (k s c : Nat), s < 2 ^ (m + 1) → stepsR (2 ^ (m + 1)) (rv (m + 1) p) k (rv (m + 1) s) c = rv (m + 1) (stepsB p k s c)
  | 0, s, c, h => rfl
  | k + 1, s, c, h => by
    show stepsR _ _ k (stepR _ _ _ _) _ = rv _ (stepsB p k (stepB p s _) _)
    rw [stepR_rv h]
    exact stepsR_rv hp k _ _ (stepB_lt hp h)
theorem byte_rv {m p s : Nat} (hp : p < 2 ^ (m + 1)) (hs : s < 2 ^ (m + 1)) (c : UInt8) :
    stepsR (2 ^ (m + 1)) (rv (m + 1) p) 8 (rv (m + 1) s) c.toNat = rv (m + 1) (stepsC p 8 (s ^^^ c.toNat)) ∧ stepsC p 8 (s ^^^ c.toNat) < 2 ^ (m + 1) := by
  have h0 : c.toNat / 2 ^ 8 = 0 := Nat.div_eq_of_lt c.toNat_lt
  have h := stepsC_xor p 8 s c.toNat
  rw [h0, Nat.xor_zero] at h
  rw [h]
  exact ⟨stepsR_rv hp 8 s _ hs, stepsB_lt hp 8 s _ hs⟩
theorem div_rv {m p : Nat} (hp : p < 2 ^ (m + 1)) : ∀ (l : List UInt8) (s : Nat), s < 2 ^ (m + 1) → divR (2 ^ (m + 1)) (rv (m + 1) p) (rv (m + 1) s) l = rv (m + 1) (divC p s l) ∧ divC p s l < 2 ^ (m + 1)
  | [], s, h => ⟨rfl, h⟩
  | c :: l, s, h => by
    have hb := byte_rv hp h c
    have ih := div_rv hp l _ hb.2
    unfold divR divC at ih ⊢
    simp only [List.foldl_cons]
    rw [hb.1]
    exact ih
theorem not_xor {n x : Nat} (h : x < 2 ^ n) : 2 ^ n - 1 - x = (2 ^ n - 1) ^^^ x := by
  apply Nat.eq_of_testBit_eq
  intro i
  have e : 2 ^ n - 1 - x = 2 ^ n - (x + 1) := by omega
  rw [e, Nat.testBit_two_pow_sub_succ h, Nat.testBit_xor, Nat.testBit_two_pow_sub_one]
  by_cases hi : i < n
  · simp [hi]
  · have : x < 2 ^ i := Nat.lt_of_lt_of_le h (Nat.pow_le_pow_right (by omega) (by omega))
    simp [hi, Nat.testBit_lt_two_pow this]
theorem rv_ones (n : Nat) : rv n (2 ^ n - 1) = 2 ^ n - 1 := by
  apply Nat.eq_of_testBit_eq
  intro i
  rw [rv_bit, Nat.testBit_two_pow_sub_one, Nat.testBit_two_pow_sub_one]
  by_cases hi : i < n
  · have : n - 1 - i < n := by omega
    simp [hi, this]
  · simp [hi]
/-- The two sums. -/
theorem sums {m p : Nat} (hp : p < 2 ^ (m + 1)) (l : List UInt8) :
    rv (m + 1) (2 ^ (m + 1) - 1 - divR (2 ^ (m + 1)) (rv (m + 1) p) (2 ^ (m + 1) - 1) l) = 2 ^ (m + 1) - 1 - divC p (2 ^ (m + 1) - 1) l := by
  have h0 : 2 ^ (m + 1) - 1 < 2 ^ (m + 1) := by have := Nat.two_pow_pos (m + 1); omega
  have h := div_rv hp l (2 ^ (m + 1) - 1) h0
  rw [rv_ones] at h
  rw [h.1, not_xor (rv_lt _ _), rv_xor, rv_ones, rv_rv _ _ h.2, ← not_xor h.2]
end Crc
end Go.Proofs.Yticbopfacfmjfaa
