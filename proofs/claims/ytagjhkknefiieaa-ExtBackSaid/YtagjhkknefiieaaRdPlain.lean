/-
  The plain law of a reader: its state, and what each call makes of it. No program in sight.
-/
import Derived.Test.YtagjhkknefiieaaPlain01
namespace Go.Proofs.Ytagjhkknefiieaa

/-- A reader's state: its bytes, its place, where what failed began, why, where what is read now began. -/
structure RS where
  s : List UInt8
  at_ : Nat
  bad : Int
  e : Int
  fr : Nat

namespace RS
def ok (r : RS) : Prop := r.at_ ≤ r.s.length ∧ r.fr ≤ r.s.length ∧ r.s.length < 4611686018427387904
def fail (r : RS) (e : Int) : RS := if r.e = 0 then { r with at_ := r.fr, bad := r.fr, e := e } else r
def Fail (r : RS) (e : Int) : RS := if r.e = 0 then { r with bad := r.at_, e := e } else r
def head (r : RS) : RS × Nat × Nat × Bool :=
  if r.e = 0 then
    match readH (r.s.drop r.at_) with
    | none => (r.fail 2, 0, 0, false)
    | some (sz, m, n, o) => ({ r with at_ := r.at_ + sz }, m, n, o)
  else (r, 0, 0, false)
def Head (r : RS) : RS × Nat × Nat × Bool := head { r with fr := r.at_ }
def Uint (r : RS) : RS × Nat := if r.Head.1.e = 0 ∧ r.Head.2.1 ≠ 0 then (r.Head.1.fail 2, 0) else (r.Head.1, r.Head.2.2.1)
def str (r : RS) (want : Nat) (most : Int) : RS × List UInt8 :=
  if r.Head.1.e = 0 then
    if r.Head.2.1 ≠ want ∨ r.Head.2.2.2 = true ∨ r.Head.1.s.length - r.Head.1.at_ < r.Head.2.2.1 then (r.Head.1.fail 2, [])
    else if most < 0 ∨ most < r.Head.2.2.1 then (r.Head.1.fail 4, [])
    else ({ r.Head.1 with at_ := r.Head.1.at_ + r.Head.2.2.1 }, (r.Head.1.s.drop r.Head.1.at_).take r.Head.2.2.1)
  else (r.Head.1, [])
def Array (r : RS) : RS × Int :=
  if r.Head.1.e = 0 then
    if r.Head.2.1 ≠ 4 then (r.Head.1.fail 2, 0)
    else if r.Head.2.2.2 = true then (r.Head.1, -1)
    else if 1000 < r.Head.2.2.1 then (r.Head.1.fail 4, 0)
    else (r.Head.1, r.Head.2.2.1)
  else (r.Head.1, 0)
def done (r : RS) : Bool := decide (r.e = 0) && decide (r.at_ = r.s.length)
def new (s : List UInt8) : RS := ⟨s, 0, -1, 0, 0⟩

theorem fail_s (r : RS) (e : Int) : (r.fail e).s = r.s := by unfold fail; split <;> rfl
theorem head_s (r : RS) : r.head.1.s = r.s := by
  unfold head
  split
  · cases readH (r.s.drop r.at_) with
    | none => exact fail_s _ _
    | some x => rfl
  · rfl
theorem Head_s (r : RS) : r.Head.1.s = r.s := by unfold Head; rw [head_s]
theorem fail_ok {r : RS} (h : r.ok) (e : Int) : (r.fail e).ok := by
  unfold fail
  split
  · exact ⟨h.2.1, h.2.1, h.2.2⟩
  · exact h
theorem head_ok {r : RS} (h : r.ok) : r.head.1.ok := by
  unfold head
  split
  · cases hr : readH (r.s.drop r.at_) with
    | none => exact fail_ok h _
    | some x =>
      obtain ⟨sz, m, n, o⟩ := x
      have := (readH_some hr).le
      rw [List.length_drop] at this
      obtain ⟨a, b, c⟩ := h
      exact ⟨by show r.at_ + sz ≤ r.s.length; omega, b, c⟩
  · exact h
theorem Head_ok {r : RS} (h : r.ok) : r.Head.1.ok := head_ok ⟨h.1, h.1, h.2.2⟩
theorem Head_n {r : RS} : r.Head.2.2.1 < 18446744073709551616 ∧ r.Head.2.1 ≤ 7 := by
  unfold Head head
  split
  · cases hr : readH _ with
    | none => exact ⟨(by show (0 : Nat) < 18446744073709551616; decide), Nat.zero_le _⟩
    | some x =>
      obtain ⟨sz, m, n, o⟩ := x
      exact ⟨(readH_some hr).n64, (readH_some hr).m7⟩
  · exact ⟨(by show (0 : Nat) < 18446744073709551616; decide), Nat.zero_le _⟩
theorem Uint_ok {r : RS} (h : r.ok) : r.Uint.1.ok := by
  unfold Uint; split
  · exact fail_ok (Head_ok h) _
  · exact Head_ok h
theorem str_ok {r : RS} (h : r.ok) (want : Nat) (most : Int) : (r.str want most).1.ok := by
  have h1 := Head_ok h
  unfold str; split
  · split
    · exact fail_ok h1 _
    · split
      · exact fail_ok h1 _
      · rename_i h2 h3
        obtain ⟨a, b, c⟩ := h1
        refine ⟨?_, b, c⟩
        show r.Head.1.at_ + r.Head.2.2.1 ≤ r.Head.1.s.length
        simp only [not_or, Nat.not_lt] at h2
        omega
  · exact h1
theorem Array_ok {r : RS} (h : r.ok) : r.Array.1.ok := by
  have h1 := Head_ok h
  unfold Array; split
  · split
    · exact fail_ok h1 _
    · split
      · exact h1
      · split
        · exact fail_ok h1 _
        · exact h1
  · exact h1
theorem Fail_ok {r : RS} (h : r.ok) (e : Int) : (r.Fail e).ok := by
  unfold Fail; split
  · exact ⟨h.1, h.2.1, h.2.2⟩
  · exact h
theorem new_ok {s : List UInt8} (h : s.length < 4611686018427387904) : (new s).ok := ⟨Nat.zero_le _, Nat.zero_le _, h⟩
/-- The reference's fail, and its calls. -/
def rf (r : RS) (e : Int) : RS := { r with bad := (r.at_ : Int), e := e }
abbrev Told : Type := Nat × Nat × Bool × List UInt8 × Int
def zero : Told := (0, 0, false, [], 0)
def nx (r : RS) (sz : Nat) : RS := { r with at_ := r.at_ + sz, bad := -1, e := 0 }
def rdo (r : RS) (k : Nat) (N : Int) : RS × Told :=
  if r.e = 0 then
    if k = 5 then (r.rf 9, zero)
    else match readH (r.s.drop r.at_) with
    | none => (r.rf 2, zero)
    | some (sz, m, n, o) =>
      if k = 0 then (r.nx sz, (m, n, o, [], 0))
      else if k = 1 then (if m = 0 then (r.nx sz, (0, n, false, [], 0)) else (r.rf 2, zero))
      else if k = 4 then
        if m = 4 then (if o = true then (r.nx sz, (0, 0, false, [], -1)) else if 1000 < n then (r.rf 4, zero) else (r.nx sz, (0, 0, false, [], (n : Int)))) else (r.rf 2, zero)
      else if m ≠ k ∨ o = true ∨ r.s.length - (r.at_ + sz) < n then (r.rf 2, zero)
      else if N < 0 ∨ N < n then (r.rf 4, zero)
      else (r.nx (sz + n), (0, 0, false, (r.s.drop (r.at_ + sz)).take n, 0))
  else (r, zero)
def call (r : RS) (k : Nat) (N : Int) : RS × Told :=
  if k = 0 then (r.Head.1, (r.Head.2.1, r.Head.2.2.1, r.Head.2.2.2, [], 0))
  else if k = 1 then (r.Uint.1, (0, r.Uint.2, false, [], 0))
  else if k = 2 then ((r.str 2 N).1, (0, 0, false, (r.str 2 N).2, 0))
  else if k = 3 then ((r.str 3 N).1, (0, 0, false, (r.str 3 N).2, 0))
  else if k = 4 then (r.Array.1, (0, 0, false, [], r.Array.2))
  else (r.Fail 9, zero)
/-- Two readers that are alike but for where what is read now began. -/
def sim (a b : RS) : Prop := a.s = b.s ∧ a.at_ = b.at_ ∧ a.bad = b.bad ∧ a.e = b.e
def fresh (r : RS) : Prop := r.e = 0 → r.bad = -1

theorem Head_off {r : RS} (h : r.e ≠ 0) : r.Head = ({ r with fr := r.at_ }, 0, 0, false) := by
  unfold Head head; rw [if_neg (by simpa using h)]
theorem Head_none {r : RS} (h : r.e = 0) (hr : readH (r.s.drop r.at_) = none) : r.Head = (⟨r.s, r.at_, (r.at_ : Int), 2, r.at_⟩, 0, 0, false) := by
  unfold Head head; dsimp only; rw [if_pos h, hr]; unfold fail; dsimp only; rw [if_pos h]
theorem Head_some {r : RS} (h : r.e = 0) {sz m n : Nat} {o : Bool} (hr : readH (r.s.drop r.at_) = some (sz, m, n, o)) : r.Head = (⟨r.s, r.at_ + sz, r.bad, 0, r.at_⟩, m, n, o) := by
  unfold Head head; dsimp only; rw [if_pos h, hr]; rw [h]
theorem call_sim {r : RS} (hf : r.fresh) {k : Nat} (hk : k < 6) (N : Int) : (r.rdo k N).2 = (r.call k N).2 ∧ sim (r.rdo k N).1 (r.call k N).1 := by
  by_cases h : r.e = 0
  case neg =>
    have e := Head_off h
    have e1 : r.rdo k N = (r, zero) := by unfold rdo; rw [if_neg h]
    rw [e1]
    have : k = 0 ∨ k = 1 ∨ k = 2 ∨ k = 3 ∨ k = 4 ∨ k = 5 := by omega
    rcases this with rfl | rfl | rfl | rfl | rfl | rfl <;> simp [call, Uint, str, Array, Fail, e, h, sim, zero]
  have hb := hf h
  have h5 : k = 0 ∨ k = 1 ∨ k = 2 ∨ k = 3 ∨ k = 4 ∨ k = 5 := by omega
  cases hr : readH (r.s.drop r.at_) with
  | none =>
    have e := Head_none h hr
    rcases h5 with rfl | rfl | rfl | rfl | rfl | rfl <;> simp [rdo, call, Uint, str, Array, Fail, e, h, hr, sim, rf, zero]
  | some x =>
    obtain ⟨sz, m, n, o⟩ := x
    have e := Head_some h hr
    rcases h5 with rfl | rfl | rfl | rfl | rfl | rfl
    · simp [rdo, call, e, h, hr, sim, nx, hb]
    · by_cases hm : m = 0 <;> simp [rdo, call, Uint, e, h, hr, sim, nx, hb, hm, rf, fail, zero]
    · by_cases c1 : m ≠ 2 ∨ o = true ∨ r.s.length - (r.at_ + sz) < n
      · simp only [rdo, call, str, e, h, hr, if_true, c1]; simp [sim, rf, fail, zero]
      · by_cases c2 : N < 0 ∨ N < (n : Int)
        · simp only [rdo, call, str, e, h, hr, if_true, c1, c2, if_false]; simp [sim, rf, fail, zero]
        · simp only [rdo, call, str, e, h, hr, if_true, c1, c2, if_false]; simp [sim, nx, hb, Nat.add_assoc]
    · by_cases c1 : m ≠ 3 ∨ o = true ∨ r.s.length - (r.at_ + sz) < n
      · simp only [rdo, call, str, e, h, hr, if_true, c1]; simp [sim, rf, fail, zero]
      · by_cases c2 : N < 0 ∨ N < (n : Int)
        · simp only [rdo, call, str, e, h, hr, if_true, c1, c2, if_false]; simp [sim, rf, fail, zero]
        · simp only [rdo, call, str, e, h, hr, if_true, c1, c2, if_false]; simp [sim, nx, hb, Nat.add_assoc]
    · by_cases hm : m = 4
      · cases o
        · by_cases hn : 1000 < n <;> simp [rdo, call, Array, e, h, hr, sim, nx, hb, hm, rf, fail, zero, hn]
        · simp [rdo, call, Array, e, h, hr, sim, nx, hb, hm]
      · simp [rdo, call, Array, e, h, hr, sim, hm, rf, fail, zero]
    · simp [rdo, call, Fail, h, sim, rf, zero]
end RS
end Go.Proofs.Ytagjhkknefiieaa
