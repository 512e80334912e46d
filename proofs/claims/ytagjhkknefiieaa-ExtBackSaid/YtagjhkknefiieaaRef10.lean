/-
  The reference's look at names.
-/
import Derived.Test.YtagjhkknefiieaaEid3
namespace Go.Proofs.Ytagjhkknefiieaa
open Go.RowKit
set_option linter.unusedVariables false

def lettersL : List UInt8 := [97, 98, 99, 100, 101, 102, 103, 104, 105, 106, 107, 108, 109, 110, 111, 112, 113, 114, 115, 116, 117, 118, 119, 120, 121, 122, 48, 49, 50, 51, 52, 53, 54, 55, 56, 57, 45, 46]
theorem lett_mem_n : ∀ n : Fin 256, lett (UInt8.ofNat n.val) = lettersL.contains (UInt8.ofNat n.val) := by decide +kernel
theorem lett_mem (c : UInt8) : lett c = lettersL.contains c := by
  have := lett_mem_n ⟨c.toNat, c.toNat_lt⟩
  simpa using this
set_option maxHeartbeats 800000 in
theorem letter_any (c : UInt8) (w : World) : Calls Try.prog 31 #[.int .u8 (c.toNat : Int)] w (Ret (.bool (lett c)) w) := by
  rw [lett_mem]
  obtain ⟨B, hB⟩ : ∃ B, lettersL.contains c = B := ⟨_, rfl⟩
  rw [hB]
  have HB : Hid ((lettersL.drop 0).contains c = B) := hB
  clear hB
  go_enter Try.func31, Try.ntmps31
  go_wp2_with fail
  go_loop [3] (fun i => ∃ j : Nat, j ≤ 38 ∧ i = .int .i64 j ∧ Hid ((lettersL.drop j).contains c = B)) (fun i => 38 - (intOf i).toNat)
  case atStart => exact ⟨0, Nat.zero_le _, rfl, HB⟩
  case round =>
    obtain ⟨j, hj, rfl, HP⟩ := hrel
    by_cases hlt : j < 38
    · have hlt2 : j < lettersL.length := hlt
      have hdr : lettersL.drop j = lettersL[j] :: lettersL.drop (j + 1) := List.drop_eq_getElem_cons hlt2
      rw [hdr] at HP
      by_cases hx : lettersL[j] = c
      · have q : ((((({ data := #[97, 98, 99, 100, 101, 102, 103, 104, 105, 106, 107, 108, 109, 110, 111, 112, 113, 114, 115, 116, 117, 118, 119, 120, 121, 122, 48, 49, 50, 51, 52, 53, 54, 55, 56, 57, 45, 46] } : ByteArray)[j]'hlt)).toNat : Int) == (c.toNat : Int)) = true := by show (((lettersL[j]).toNat : Int) == _) = true; simp [hx]
        have HT : Hid (true = B) := by have := HP.out; rw [hx, List.contains_cons] at this; rw [← this]; unfold Hid; simp
        clear HP hdr hx
        go_wp2_with fail
        go_ret
        exact Ret.mk (by rw [← HT.out]; rfl) (Mod.refl _ _)
      · have hn : ¬ (lettersL[j]).toNat = c.toNat := fun h => hx (UInt8.toNat_inj.1 h)
        have q : ((((({ data := #[97, 98, 99, 100, 101, 102, 103, 104, 105, 106, 107, 108, 109, 110, 111, 112, 113, 114, 115, 116, 117, 118, 119, 120, 121, 122, 48, 49, 50, 51, 52, 53, 54, 55, 56, 57, 45, 46] } : ByteArray)[j]'hlt)).toNat : Int) == (c.toNat : Int)) = false := by show (((lettersL[j]).toNat : Int) == _) = false; simp; omega
        have HT : Hid ((lettersL.drop (j + 1)).contains c = B) := by have := HP.out; rw [List.contains_cons] at this; have h2 : (c == lettersL[j]) = false := (by simpa using Ne.symm hx); rw [h2, Bool.false_or] at this; exact this
        clear HP hdr hx hn
        go_wp2_with fail
        go_round
        case rel => exact ⟨j + 1, by omega, by go_num, HT⟩
        case measure => simp [intOf]; omega
    · obtain rfl : j = 38 := by omega
      have HT : Hid (false = B) := HP
      clear HP
      go_wp2_with fail
      go_ret
      exact Ret.mk (by rw [← HT.out]; rfl) (Mod.refl _ _)

set_option maxHeartbeats 800000 in
theorem slash_any (s : List UInt8) (hs : Hid (s.length < 4611686018427387904)) (w : World) : Calls Try.prog 30 #[str s] w (Ret (.int .i64 (slash s : Nat)) w) := by
  obtain ⟨B, hB⟩ : ∃ B, slash s = B := ⟨_, rfl⟩
  rw [hB]
  have HB : Hid (slashA (s.drop 2) 2 = B) := hB
  clear hB
  go_enter Try.func30, Try.ntmps30
  go_wp2_with fail
  have hs2 := hs.out
  by_cases hl : s.length < 2
  · have HT : Hid (0 = B) := by have := HB.out; rw [List.drop_eq_nil_of_le (by omega)] at this; exact this
    go_loop [3] (fun i => i = .int .i64 2) (fun i => 0)
    case atStart => rfl
    case round =>
      subst hrel
      go_wp2_with fail
      go_ret
      exact Ret.mk (by rw [← HT.out]; rfl) (Mod.refl _ _)
  go_loop [3] (fun i => ∃ j : Nat, 2 ≤ j ∧ j ≤ s.length ∧ i = .int .i64 j ∧ Hid (slashA (s.drop j) j = B)) (fun i => s.length - (intOf i).toNat)
  case atStart => exact ⟨2, Nat.le_refl _, by omega, rfl, HB⟩
  case round =>
    obtain ⟨j, hj2, hj, rfl, HP⟩ := hrel
    by_cases hlt : j < s.length
    · have hdr : s.drop j = s[j] :: s.drop (j + 1) := List.drop_eq_getElem_cons hlt
      rw [hdr, slashA] at HP
      clear hdr
      by_cases hx : (s[j]).toNat = 47
      · have q : ((((⟨s.toArray⟩ : ByteArray)[j]'hlt).toNat : Int) == 47) = true := by show (((s[j]).toNat : Int) == 47) = true; simp; omega
        have q2 : ((((⟨s.toArray⟩ : ByteArray)[j]'hlt).toNat : Int) = 47) = True := by show (((s[j]).toNat : Int) = 47) = True; simp; omega
        have HT : Hid (j = B) := by have := HP.out; rw [if_pos hx] at this; exact this
        clear HP hx
        go_wp2_with fail
        go_ret
        exact Ret.mk (by rw [← HT.out]; rfl) (Mod.refl _ _)
      · have q : ((((⟨s.toArray⟩ : ByteArray)[j]'hlt).toNat : Int) == 47) = false := by show (((s[j]).toNat : Int) == 47) = false; simp; omega
        have q2 : ((((⟨s.toArray⟩ : ByteArray)[j]'hlt).toNat : Int) = 47) = False := by show (((s[j]).toNat : Int) = 47) = False; simp; omega
        have HT : Hid (slashA (s.drop (j + 1)) (j + 1) = B) := by have := HP.out; rw [if_neg hx] at this; exact this
        clear HP hx
        go_wp2_with fail
        go_round
        case rel => exact ⟨j + 1, by omega, by omega, by go_num, HT⟩
        case measure => simp [intOf]; omega
    · obtain rfl : j = s.length := by omega
      have HT : Hid (0 = B) := by have := HP.out; rw [List.drop_length] at this; exact this
      clear HP
      go_wp2_with fail
      go_ret
      exact Ret.mk (by rw [← HT.out]; rfl) (Mod.refl _ _)
end Go.Proofs.Ytagjhkknefiieaa
