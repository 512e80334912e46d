/-
  Names: the code's look at them.
-/
import Derived.Test.YtagjhkknefiieaaBase
import Derived.Test.YtagjhkknefiieaaEidPlain
import Derived.Laws.RangeAny
import Derived.Lib.Strings
namespace Go.Proofs.Ytagjhkknefiieaa
open Go.RowKit
set_option linter.unusedVariables false

abbrev EV.c (e : EV) : Array Value := #[.int .i64 e.sch, str e.name, .int .u64 (e.node : Int), .int .u64 (e.svc : Int)]
abbrev EV.v (e : EV) : Value := .agg e.c
def lettN (n : Nat) : Bool := decide (97 ≤ n ∧ n ≤ 122) || decide (48 ≤ n ∧ n ≤ 57) || decide (n = 45) || decide (n = 46)
set_option maxHeartbeats 800000 in
theorem nodeByte_any (n : Nat) (h : n ≤ 2147483647) (w : World) : Calls Try.prog 84 #[.int .i32 (n : Int)] w (fun e w' => e = .returned (.bool (lettN n)) ∧ w' = w) := by
  go_enter Try.func84, Try.ntmps84
  go_wp2
  all_goals go_ret
  all_goals refine ⟨?_, rfl⟩
  all_goals (refine congrArg Ending.returned (congrArg Value.bool ?_))
  all_goals unfold lettN
  all_goals rw [Bool.eq_iff_iff]
  all_goals simp
  all_goals omega
theorem ext0 (s : List UInt8) (a b : Nat) : ((⟨s.toArray⟩ : ByteArray).extract a b) = ⟨((s.drop a).take (b - a)).toArray⟩ := by
  rw [Go.Lib.extract_eq]
set_option maxHeartbeats 800000 in
theorem CutPrefix_yes (s : List UInt8) (hs : Hid (s.length < 4611686018427387904)) (h : Hid (s.take 2 = [47, 47])) (w : World) : Calls Try.prog 83 #[str s, .string ⟨#[47, 47]⟩] w (fun e w' => e = .returned (.tuple #[str (s.drop 2), .bool true]) ∧ w' = w) := by
  have hl : 2 ≤ s.length := by
    have := congrArg List.length h.out
    rw [List.length_take] at this
    simp at this
    omega
  have hx : ((⟨s.toArray⟩ : ByteArray).extract 0 2) = ⟨([47, 47] : List UInt8).toArray⟩ := by rw [ext0, List.drop_zero, h.out]
  have hd : ((⟨s.toArray⟩ : ByteArray).extract 2 s.length) = ⟨(s.drop 2).toArray⟩ := by rw [ext0, List.take_of_length_le (by simp)]
  go_enter Try.func83, Try.ntmps83
  go_wp2
  refine bodyPost_ret (v := .tuple #[str (s.drop 2), .bool true]) (by simp [results, Try.results83, go_sem]) rfl ⟨rfl, rfl⟩
set_option maxHeartbeats 800000 in
theorem CutPrefix_no (s : List UInt8) (hs : Hid (s.length < 4611686018427387904)) (h : Hid (s.take 2 ≠ [47, 47])) (w : World) : Calls Try.prog 83 #[str s, .string ⟨#[47, 47]⟩] w (fun e w' => e = .returned (.tuple #[str s, .bool false]) ∧ w' = w) := by
  by_cases hl : 2 ≤ s.length
  · have hx : ((⟨s.toArray⟩ : ByteArray).extract 0 2) = ⟨(s.take 2).toArray⟩ := by rw [ext0, List.drop_zero]
    have h1 : (s.take 2 == [47, 47]) = false := by simpa using h.out
    have h2 : (s.take 2 = [47, 47]) = False := by simpa using h.out
    generalize s.take 2 = t at *
    go_enter Try.func83, Try.ntmps83
    go_wp2
    refine bodyPost_ret (v := .tuple #[str s, .bool false]) (by simp [results, Try.results83, go_sem]) rfl ⟨rfl, rfl⟩
  · have hl2 : decide ((2 : Int) ≤ (s.length : Int)) = false := by simp; omega
    clear hl
    go_enter Try.func83, Try.ntmps83
    go_wp2
    refine bodyPost_ret (v := .tuple #[str s, .bool false]) (by simp [results, Try.results83, go_sem]) rfl ⟨rfl, rfl⟩

set_option maxHeartbeats 1600000 in
theorem node_any (s : List UInt8) (hs : Hid (s.length < 4611686018427387904)) (w : World) : Calls Try.prog 70 #[str s] w (Ret (.int .i64 (nodeN s : Nat)) w) := by
  by_cases ht : s.take 2 = [47, 47]
  · have K := hid (fun W => CutPrefix_yes s hs ht W)
    by_cases hl : 60 < s.length
    · have hN : nodeN s = 0 := by unfold nodeN; rw [if_neg (by omega)]
      rw [hN]
      have t1 : decide (60 < (s.length : Int)) = true := by simp; omega
      go_enter Try.func70, Try.ntmps70
      go_wp2_with fail
      refine (K.out _).mono ?_
      rintro e w1 ⟨rfl, rfl⟩
      go_wp2_with fail
      go_ret
      exact Ret.mk rfl (Mod.refl _ _)
    · have hN : nodeN s = nodeA (s.drop 2) 0 := by unfold nodeN; rw [if_pos ⟨ht, by omega⟩]
      have t1 : decide (60 < (s.length : Int)) = false := by simp; omega
      have hr : Hid ((s.drop 2).length ≤ 60) := by unfold Hid; simp; omega
      rw [hN]
      clear hN
      go_enter Try.func70, Try.ntmps70
      go_wp2_with fail
      refine (K.out _).mono ?_
      rintro e w1 ⟨rfl, hw1⟩
      rw [hw1]
      clear hw1 w1 K ht hl
      generalize s.drop 2 = r at *
      generalize hNN : nodeA r 0 = N at *
      have HN : Hid (nodeA (r.drop 0) 0 = N) := hNN
      clear hNN
      go_wp2_with fail
      go_loopw [5, 6] (fun i c wr => ∃ pos : Nat, pos ≤ r.length ∧ wr = w.iter ⟨r.toArray⟩ pos ∧ Hid (nodeA (r.drop pos) pos = N)) (fun _ _ wr => r.length - wr.iterPos w.heap.size)
      case atStart => exact ⟨0, Nat.zero_le _, rfl, HN⟩
      case round =>
        obtain ⟨pos, hp, rfl, HP⟩ := hrel
        have hr60 := hr.out
        have hE : Ext w (w.iter ⟨r.toArray⟩ pos) := (Mod.refl _ _).alloc _
        by_cases hlt : pos < r.length
        · have hd : r.drop pos = r[pos] :: r.drop (pos + 1) := List.drop_eq_getElem_cons hlt
          rw [hd, nodeA] at HP
          clear hd
          by_cases h128 : (r[pos]).toNat < 128
          · have hnx : ∀ ty, (Instr.next (.pointer (some ⟨w.heap.size, 0, none⟩)) true ty).run Try.prog (w.iter ⟨r.toArray⟩ pos) = .ok (.tuple #[.bool true, .int .i64 pos, .int .i32 (r[pos]).toNat]) (w.iter ⟨r.toArray⟩ (pos + 1)) := fun ty => run_next_ascii w ⟨r.toArray⟩ pos ty hlt h128
            have KB := hid (fun W => nodeByte_any (r[pos]).toNat (by omega) W)
            have hL : lettN (r[pos]).toNat = lett r[pos] := rfl
            rw [hL] at KB
            generalize r[pos] = x at *
            go_wp2_with fail
            refine (KB.out _).mono ?_
            rintro e w1 ⟨rfl, hw1⟩
            rw [hw1]
            clear hw1 w1 KB hL
            by_cases hl : lett x = true
            · rw [hl]
              have HP2 : Hid (nodeA (r.drop (pos + 1)) (pos + 1) = N) := by have := HP.out; rw [if_pos hl] at this; exact this
              clear HP
              go_wp2_with fail
              go_roundw
              case rel => exact ⟨pos + 1, by omega, rfl, HP2⟩
              case measure => simp; omega
            · have hl2 : lett x = false := by simpa using hl
              rw [hl2]
              have HP2 : Hid ((if x.toNat = 47 ∧ 0 < pos then pos + 3 else 0) = N) := by have := HP.out; rw [if_neg (by simp [hl2])] at this; exact this
              clear HP
              by_cases h47 : x.toNat = 47
              · by_cases h0 : 0 < pos
                · have e3 : pos + 3 = N := by have := HP2.out; rw [if_pos ⟨h47, h0⟩] at this; exact this
                  rw [h47]
                  have t2 : decide (0 < (pos : Int)) = true := by simp; omega
                  go_wp2_with fail
                  go_ret
                  exact ⟨by rw [← e3]; go_num, (Mod.refl _ _).alloc _⟩
                · have e3 : 0 = N := by have := HP2.out; rw [if_neg (fun h => h0 h.2)] at this; exact this
                  rw [h47]
                  have t2 : decide (0 < (pos : Int)) = false := by simp; omega
                  go_wp2_with fail
                  go_ret
                  exact ⟨by rw [← e3]; rfl, (Mod.refl _ _).alloc _⟩
              · have e3 : 0 = N := by have := HP2.out; rw [if_neg (fun h => h47 h.1)] at this; exact this
                have t3 : ((x.toNat : Int) == 47) = false := by simp; omega
                have t4 : ((x.toNat : Int) = 47) = False := by simp; omega
                go_wp2_with fail
                go_ret
                exact ⟨by rw [← e3]; rfl, (Mod.refl _ _).alloc _⟩
          · have hdc := decode_high ⟨r.toArray⟩ pos hlt (by show 128 ≤ (r[pos]).toNat; omega)
            have hdl := decode_le ⟨r.toArray⟩ pos
            have hnx : ∀ ty, (Instr.next (.pointer (some ⟨w.heap.size, 0, none⟩)) true ty).run Try.prog (w.iter ⟨r.toArray⟩ pos) = _ := fun ty => run_next_any w ⟨r.toArray⟩ pos ty hlt
            have KB := hid (fun W => nodeByte_any (Utf8.decode ⟨r.toArray⟩ pos).1 hdl W)
            have hL : lettN (Utf8.decode ⟨r.toArray⟩ pos).1 = false := by simp [lettN]; omega
            rw [hL] at KB
            have hl2 : lett r[pos] = false := by
              show lettN (r[pos]).toNat = false
              simp [lettN]; omega
            have e3 : Hid (0 = N) := by have := HP.out; rw [if_neg (by simp [hl2]), if_neg (by omega)] at this; exact this
            clear HP hl2 hL
            have t3 : (((Utf8.decode ⟨r.toArray⟩ pos).1 : Int) == 47) = false := by simp; omega
            have t4 : (((Utf8.decode ⟨r.toArray⟩ pos).1 : Int) = 47) = False := by simp; omega
            have hE2 : Ext w (w.iter ⟨r.toArray⟩ (pos + (Utf8.decode ⟨r.toArray⟩ pos).2)) := (Mod.refl _ _).alloc _
            generalize (Utf8.decode ⟨r.toArray⟩ pos).1 = R at *
            generalize pos + (Utf8.decode ⟨r.toArray⟩ pos).2 = pos2 at *
            go_wp2_with fail
            refine (KB.out _).mono ?_
            rintro e w1 ⟨rfl, hw1⟩
            rw [hw1]
            clear hw1 w1 KB
            go_wp2_with fail
            go_ret
            exact ⟨by rw [← e3.out]; rfl, hE2⟩
        · obtain rfl : pos = r.length := by omega
          have e3 : Hid (0 = N) := by have := HP.out; rw [List.drop_length] at this; exact this
          have hnx : ∀ ty, (Instr.next (.pointer (some ⟨w.heap.size, 0, none⟩)) true ty).run Try.prog (w.iter ⟨r.toArray⟩ r.length) = _ := fun ty => run_next_end w ⟨r.toArray⟩ r.length ty (by show ¬ r.length < r.length; omega)
          go_wp2_with fail
          go_ret
          exact ⟨by rw [← e3.out]; rfl, hE⟩
  · have K := hid (fun W => CutPrefix_no s hs ht W)
    have hN : nodeN s = 0 := by unfold nodeN; rw [if_neg (fun h => ht h.1)]
    rw [hN]
    go_enter Try.func70, Try.ntmps70
    go_wp2_with fail
    refine (K.out _).mono ?_
    rintro e w1 ⟨rfl, rfl⟩
    go_wp2_with fail
    go_ret
    exact Ret.mk rfl (Mod.refl _ _)
end Go.Proofs.Ytagjhkknefiieaa
