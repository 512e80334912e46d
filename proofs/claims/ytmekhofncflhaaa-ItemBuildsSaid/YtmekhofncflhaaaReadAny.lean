/-
  The reference's Read, whatever the bytes; and its reader's fail.
-/
import Derived.Test.YtmekhofncflhaaaRead2
import Derived.Test.YtmekhofncflhaaaRdPlain
namespace Go.Proofs.Ytmekhofncflhaaa
open Go.RowKit
set_option linter.unusedVariables false

theorem read_of {l : List UInt8} {x : Option (Nat × Nat × Nat × Bool)} {w : World} (h : readH l = x) (hc : Calls Try.prog 55 #[str l] w (Ret (gotOf x) w)) :
    Calls Try.prog 55 #[str l] w (Ret (gotOf (readH l)) w) := by rw [h]; exact hc
theorem sz4_val {k : Nat} (h : 24 ≤ k) (h2 : k < 28) : sz4 k = 2 ^ (k - 24) := by
  have : k = 24 ∨ k = 25 ∨ k = 26 ∨ k = 27 := by omega
  rcases this with rfl | rfl | rfl | rfl <;> decide
theorem sz4_none {k : Nat} (h : 28 ≤ k) : sz4 k = 0 := by
  unfold sz4 sz3 sz2 sz1
  rw [if_neg (by omega), if_neg (by omega), if_neg (by omega), if_neg (by omega)]
theorem pow_sz {k : Nat} (h : 24 ≤ k) (h2 : k < 28) : 1 ≤ 2 ^ (k - 24) ∧ 2 ^ (k - 24) ≤ 8 := by
  have : k = 24 ∨ k = 25 ∨ k = 26 ∨ k = 27 := by omega
  rcases this with rfl | rfl | rfl | rfl <;> decide
theorem canon_iff {c : UInt8} {l : List UInt8} {k : Nat} (hk : c.toNat % 32 = k) (h : 24 ≤ k) (h2 : k < 28) (hl : 2 ^ (k - 24) ≤ l.length) :
    headL (c.toNat / 32) (fromBE (l.take (2 ^ (k - 24)))) = (c :: l).take (2 ^ (k - 24) + 1) ↔ (headL (c.toNat / 32) (fromBE (l.take (2 ^ (k - 24))))).length = 1 + 2 ^ (k - 24) := by
  obtain ⟨j, rfl⟩ : ∃ j, k = 24 + j := ⟨k - 24, by omega⟩
  rw [Nat.add_sub_cancel_left] at *
  have hlen : (l.take (2 ^ j)).length = 2 ^ j := by rw [List.length_take]; omega
  constructor
  · intro e; rw [e, List.length_take, List.length_cons]; omega
  · intro e
    have hlt := fromBE_lt (l.take (2 ^ j))
    rw [hlen] at hlt
    rw [headL_of_length (by omega) hlt e, List.take_succ_cons]
    have hb := be_fromBE (l.take (2 ^ j))
    rw [hlen] at hb
    rw [hb, show 32 * (c.toNat / 32) + 24 + j = c.toNat from by omega, b8_toNat]

theorem read_any (l : List UInt8) (w : World) : Calls Try.prog 55 #[str l] w (Ret (gotOf (readH l)) w) := by
  cases l with
  | nil => exact read_of (x := none) rfl (read_nil w)
  | cons c l =>
    have hc := c.toNat_lt
    by_cases h1 : c.toNat % 32 < 24
    · exact read_of (x := some (_, _, _, _)) (by unfold readH; dsimp only; rw [if_pos h1]) (read_small c l _ _ rfl rfl h1 w)
    by_cases h2 : c.toNat % 32 = 31 ∧ opensB ((c.toNat / 32 : Nat) : Int) = true
    · exact read_of (x := some (_, _, _, _)) (by unfold readH; dsimp only; rw [if_neg h1, if_pos h2]) (read_open c l _ _ rfl rfl h2.1 h2.2 w)
    by_cases h3 : 28 ≤ c.toNat % 32
    · exact read_of (x := none) (by unfold readH; dsimp only; rw [if_neg h1, if_neg h2, if_pos h3]) (read_none c l _ _ rfl rfl (by unfold Hid; omega) h2 (sz4_none h3) w)
    have h24 : 24 ≤ c.toNat % 32 := by omega
    have h28 : c.toNat % 32 < 28 := by omega
    by_cases h4 : l.length < 2 ^ (c.toNat % 32 - 24)
    · exact read_of (x := none) (by unfold readH; dsimp only; rw [if_neg h1, if_neg h2, if_neg h3, if_pos h4]) (read_short c l _ _ rfl rfl _ ⟨h24, h28⟩ (sz4_val h24 h28) (pow_sz h24 h28) h4 w)
    have h4' := Nat.le_of_not_lt h4
    by_cases h5 : (headL (c.toNat / 32) (fromBE (l.take (2 ^ (c.toNat % 32 - 24))))).length = 1 + 2 ^ (c.toNat % 32 - 24)
    · exact read_of (x := some (_, _, _, _)) (by unfold readH; dsimp only; rw [if_neg h1, if_neg h2, if_neg h3, if_neg h4, if_pos h5, Nat.add_comm 1])
        (read_good c l _ _ rfl rfl _ ⟨h24, h28⟩ (sz4_val h24 h28) (pow_sz h24 h28) _ rfl h4' ((canon_iff rfl h24 h28 h4').2 h5) w)
    · exact read_of (x := none) (by unfold readH; dsimp only; rw [if_neg h1, if_neg h2, if_neg h3, if_neg h4, if_neg h5])
        (read_long c l _ _ rfl rfl _ ⟨h24, h28⟩ (sz4_val h24 h28) (pow_sz h24 h28) _ rfl h4' (fun e => h5 ((canon_iff rfl h24 h28 h4').1 e)) w)

/-- The reference's reader, as a value; what a call told, as a value. -/
def rrV (r : RS) : Value := .agg #[str r.s, .int .i64 (r.at_ : Int), .int .i64 r.bad, .int .i64 r.e]
def toldV (major n : Nat) (open_ : Bool) (s : List UInt8) (k : Int) : Value := .agg #[.int .i64 (major : Int), .int .u64 (n : Int), .bool open_, str s, .int .i64 k]
set_option maxRecDepth 20000 in
set_option maxHeartbeats 400000 in
theorem rfail_any (r : RS) (e : Int) (w : World) : Calls Try.prog 54 #[rrV r, .int .i64 e] w (Ret (.tuple #[rrV { r with bad := (r.at_ : Int), e := e }, toldV 0 0 false [] 0]) w) := by
  unfold rrV toldV
  go_enter Try.func54, Try.ntmps54
  go_wp2
  refine bodyPost_ret (v := .tuple #[rrV { r with bad := (r.at_ : Int), e := e }, toldV 0 0 false [] 0]) (by simp [results, Try.results54, go_sem, rrV, toldV]) rfl (Ret.mk rfl ?_)
  repeat (first | exact Mod.refl _ _ | apply Mod.drewN | apply Mod.alloc | refine Mod.setCell ?_ (.inr (by simp)) _)
end Go.Proofs.Ytmekhofncflhaaa
