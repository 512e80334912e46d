/-
  The plain law of a reader: its state, and what each call makes of it. No program in sight.
-/
import Derived.Test.YtmekhofncflhaaaPlain01
namespace Go.Proofs.Ytmekhofncflhaaa

/-- A reader's state: its bytes, its place, where what failed began, why, where what is read now began. -/
structure RS where
  s : List UInt8
  at_ : Nat
  bad : Int
  e : Int
  fr : Nat

namespace RS
def ok (r : RS) : Prop := r.at_ ≤ r.s.length ∧ r.fr ≤ r.s.length ∧ r.s.length < 4611686018427387904
def fail (r : RS) (e : Int) : RS := if r.e = 0 then { r with at_ := r.fr, bad := r.fr, e := e } else r
def Fail (r : RS) (e : Int) : RS := if r.e = 0 then { r with bad := r.at_, e := e } else r
def head (r : RS) : RS × Nat × Nat × Bool :=
  if r.e = 0 then
    match readH (r.s.drop r.at_) with
    | none => (r.fail 2, 0, 0, false)
    | some (sz, m, n, o) => ({ r with at_ := r.at_ + sz }, m, n, o)
  else (r, 0, 0, false)
def Head (r : RS) : RS × Nat × Nat × Bool := head { r with fr := r.at_ }
def Uint (r : RS) : RS × Nat := if r.Head.1.e = 0 ∧ r.Head.2.1 ≠ 0 then (r.Head.1.fail 2, 0) else (r.Head.1, r.Head.2.2.1)
def str (r : RS) (want : Nat) (most : Int) : RS × List UInt8 :=
  if r.Head.1.e = 0 then
    if r.Head.2.1 ≠ want ∨ r.Head.2.2.2 = true ∨ r.Head.1.s.length - r.Head.1.at_ < r.Head.2.2.1 then (r.Head.1.fail 2, [])
    else if most < 0 ∨ most < r.Head.2.2.1 then (r.Head.1.fail 4, [])
    else ({ r.Head.1 with at_ := r.Head.1.at_ + r.Head.2.2.1 }, (r.Head.1.s.drop r.Head.1.at_).take r.Head.2.2.1)
  else (r.Head.1, [])
def Array (r : RS) : RS × Int :=
  if r.Head.1.e = 0 then
    if r.Head.2.1 ≠ 4 then (r.Head.1.fail 2, 0)
    else if r.Head.2.2.2 = true then (r.Head.1, -1)
    else if 1000 < r.Head.2.2.1 then (r.Head.1.fail 4, 0)
    else (r.Head.1, r.Head.2.2.1)
  else (r.Head.1, 0)
def done (r : RS) : Bool := decide (r.e = 0) && decide (r.at_ = r.s.length)
def new (s : List UInt8) : RS := ⟨s, 0, -1, 0, 0⟩

theorem fail_s (r : RS) (e : Int) : (r.fail e).s = r.s := by unfold fail; split <;> rfl
theorem head_s (r : RS) : r.head.1.s = r.s := by
  unfold head
  split
  · cases readH (r.s.drop r.at_) with
    | none => exact fail_s _ _
    | some x => rfl
  · rfl
theorem Head_s (r : RS) : r.Head.1.s = r.s := by unfold Head; rw [head_s]
theorem fail_ok {r : RS} (h : r.ok) (e : Int) : (r.fail e).ok := by
  unfold fail
  split
  · exact ⟨h.2.1, h.2.1, h.2.2⟩
  · exact h
theorem head_ok {r : RS} (h : r.ok) : r.head.1.ok := by
  unfold head
  split
  · cases hr : readH (r.s.drop r.at_) with
    | none => exact fail_ok h _
    | some x =>
      obtain ⟨sz, m, n, o⟩ := x
      have := (readH_some hr).le
      rw [List.length_drop] at this
      obtain ⟨a, b, c⟩ := h
      exact ⟨by show r.at_ + sz ≤ r.s.length; omega, b, c⟩
  · exact h
theorem Head_ok {r : RS} (h : r.ok) : r.Head.1.ok := head_ok ⟨h.1, h.1, h.2.2⟩
theorem Head_n {r : RS} : r.Head.2.2.1 < 18446744073709551616 ∧ r.Head.2.1 ≤ 7 := by
  unfold Head head
  split
  · cases hr : readH _ with
    | none => exact ⟨(by show (0 : Nat) < 18446744073709551616; decide), Nat.zero_le _⟩
    | some x =>
      obtain ⟨sz, m, n, o⟩ := x
      exact ⟨(readH_some hr).n64, (readH_some hr).m7⟩
  · exact ⟨(by show (0 : Nat) < 18446744073709551616; decide), Nat.zero_le _⟩
theorem Uint_ok {r : RS} (h : r.ok) : r.Uint.1.ok := by
  unfold Uint; split
  · exact fail_ok (Head_ok h) _
  · exact Head_ok h
theorem str_ok {r : RS} (h : r.ok) (want : Nat) (most : Int) : (r.str want most).1.ok := by
  have h1 := Head_ok h
  unfold str; split
  · split
    · exact fail_ok h1 _
    · split
      · exact fail_ok h1 _
      · rename_i h2 h3
        obtain ⟨a, b, c⟩ := h1
        refine ⟨?_, b, c⟩
        show r.Head.1.at_ + r.Head.2.2.1 ≤ r.Head.1.s.length
        simp only [not_or, Nat.not_lt] at h2
        omega
  · exact h1
theorem Array_ok {r : RS} (h : r.ok) : r.Array.1.ok := by
  have h1 := Head_ok h
  unfold Array; split
  · split
    · exact fail_ok h1 _
    · split
      · exact h1
      · split
        · exact fail_ok h1 _
        · exact h1
  · exact h1
theorem Fail_ok {r : RS} (h : r.ok) (e : Int) : (r.Fail e).ok := by
  unfold Fail; split
  · exact ⟨h.1, h.2.1, h.2.2⟩
  · exact h
theorem new_ok {s : List UInt8} (h : s.length < 4611686018427387904) : (new s).ok := ⟨Nat.zero_le _, Nat.zero_le _, h⟩
end RS
end Go.Proofs.Ytmekhofncflhaaa
