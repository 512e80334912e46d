/-
  The plain laws of the statements CborOne, CborStrings: what a reader makes of a head's bytes. No program in sight.
-/
import Derived.Test.YtmekhofncflhaaaRdPlain
namespace Go.Proofs.Ytmekhofncflhaaa
namespace RS
theorem new_Head_none {b : List UInt8} (h : readH b = none) : (new b).Head = (⟨b, 0, 0, 2, 0⟩, 0, 0, false) := by
  unfold Head head new
  simp only [List.drop_zero, h, if_true]
  rfl
theorem new_Head_some {b : List UInt8} {sz m n : Nat} {o : Bool} (h : readH b = some (sz, m, n, o)) : (new b).Head = (⟨b, sz, -1, 0, 0⟩, m, n, o) := by
  unfold Head head new
  simp only [List.drop_zero, h, if_true, Nat.zero_add]
theorem uint_done {b : List UInt8} (h : (new b).Uint.1.done = true) : headL 0 (new b).Uint.2 = b := by
  cases hr : readH b with
  | none =>
    exfalso
    have e := new_Head_none hr
    unfold Uint at h
    rw [e] at h
    simp [done] at h
  | some x =>
    obtain ⟨sz, m, n, o⟩ := x
    have e := new_Head_some hr
    have hs := readH_some hr
    unfold Uint at h ⊢
    rw [e] at h ⊢
    dsimp only at h ⊢
    by_cases hm : m = 0
    · subst hm
      rw [if_neg (fun x => x.2 rfl)] at h ⊢
      have hsz : sz = b.length := by simp [done] at h; exact h
      cases o with
      | true => exact absurd (hs.opened rfl).2.2.1 (by decide)
      | false =>
        have := (hs.closed rfl).1
        rw [hsz, List.take_length] at this
        exact this.symm
    · rw [if_pos ⟨rfl, hm⟩] at h
      simp [fail, done] at h
theorem uint_head {n : Nat} (hn : n < 18446744073709551616) : (new (headL 0 n)).Uint = (⟨headL 0 n, (headL 0 n).length, -1, 0, 0⟩, n) := by
  have hr := readH_head (m := 0) (by omega) hn []
  rw [List.append_nil] at hr
  have e := new_Head_some hr
  unfold Uint
  rw [e]
  rw [if_neg (fun x => x.2 rfl)]
theorem Uint_lt (r : RS) : r.Uint.2 < 18446744073709551616 := by
  unfold Uint; split
  · show (0 : Nat) < 18446744073709551616; decide
  · exact Head_n.1
/-- A string with its head is read again. -/
theorem str_head {m : Nat} (hm : m ≤ 7) {s : List UInt8} (hs : s.length < 18446744073709551616) {most : Int} (hmost : (s.length : Int) ≤ most) :
    (new (headL m s.length ++ s)).str m most = (⟨headL m s.length ++ s, (headL m s.length ++ s).length, -1, 0, 0⟩, s) := by
  have e := new_Head_some (readH_head hm hs s)
  unfold str
  rw [e]
  dsimp only
  rw [if_pos rfl, if_neg (by simp), if_neg (by omega)]
  rw [List.drop_left, List.take_length, List.length_append]
end RS
end Go.Proofs.Ytmekhofncflhaaa
