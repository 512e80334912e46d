/-
 The reference's sums.
-/
import Derived.Test.YthecmnbkjchjmaaGreatMExtAgesas
import Derived.Test.YthecmnbkjchjmaaGreatMExtAgesav
import Derived.Laws.OwnMore
import Derived.OwnWalk
import Derived.OneCell

namespace Go.Proofs.YthecmnbkjchjmaaGreat
open Go.RowKit
set_option linter.unusedVariables false
set_option linter.unusedSimpArgs false

theorem Crc.rv_succ : ∀ (i n : Nat), Crc.rv (i + 1) n = 2 * Crc.rv i n + n / 2 ^ i % 2
 | 0, n => by simp [Crc.rv]
 | i + 1, n => by
  have h := Crc.rv_succ i (n / 2)
  have e : n / 2 / 2 ^ i = n / 2 ^ (i + 1) := by rw [Nat.div_div_eq_div_mul, Nat.pow_succ, Nat.mul_comm]
  have e2 : 2 ^ (i + 1) * (n % 2) = 2 * (2 ^ i * (n % 2)) := by rw [Nat.pow_succ, Nat.mul_comm (2 ^ i) 2, Nat.mul_assoc]
  have e3 : Crc.rv (i + 1 + 1) n = 2 ^ (i + 1) * (n % 2) + Crc.rv (i + 1) (n / 2) := rfl
  have e4 : Crc.rv (i + 1) n = 2 ^ i * (n % 2) + Crc.rv i (n / 2) := rfl
  rw [e3, h, e4, e, e2]
  omega

set_option maxHeartbeats 400000 in
theorem turn_n (n : Nat) (hn : Hid (n < 4294967296)) (size : Nat) (hs : Hid (size <= 32)) (w : World) : Calls Tryz.prog 90 #[.int .u64 (n : Int), .int .i64 (size : Int)] w (Ret (.int .u64 (Crc.rv size n : Nat)) w) := by
 go_enter Tryz.func90, Tryz.ntmps90
 go_wp2
 go_loopw [0, 5, 6] (fun x o i wr => ∃ j : Nat, j <= size /\ i = .int .i64 j /\ o = .int .u64 ((Crc.rv j n : Nat) : Int) /\ x = .int .u64 ((n / 2 ^ j : Nat) : Int) /\ Ext w wr) (fun _ _ i _ => size - (intOf i).toNat)
 case atStart => exact ⟨0, Nat.zero_le _, rfl, rfl, by simp, Mod.refl _ _⟩
 case round =>
  obtain ⟨j, hj, rfl, rfl, rfl, hb⟩ := hrel
  by_cases hlt : j < size
  .
   have h32 := hs.out
   have HS := hid (Crc.rv_succ j n)
   have hx : n / 2 ^ (j + 1) = n / 2 ^ j / 2 := by rw [Nat.div_div_eq_div_mul, Nat.pow_succ]
   have HX := hid hx; clear hx
   have hr : Crc.rv j n < 4294967296 := Nat.lt_of_lt_of_le (Crc.rv_lt j n) (show 2 ^ j <= 2 ^ 32 from Nat.pow_le_pow_right (by omega) (by omega))
   have hq : n / 2 ^ j < 4294967296 := Nat.lt_of_le_of_lt (Nat.div_le_self _ _) hn.out
   generalize Crc.rv j n = r at *
   generalize n / 2 ^ j = q at *
   go_wp2
   go_roundw
   case rel => exact ⟨j + 1, by omega, by go_num, by rw [HS.out]; go_num, by rw [HX.out]; go_num, hb⟩
   case measure => simp [intOf]; omega
  .
   obtain rfl : j = size := by omega
   go_wp2
   go_ret
   exact ⟨rfl, hb⟩

set_option maxHeartbeats 400000 in
theorem divisor_16 (w : World) : Calls Tryz.prog 89 #[.int .i64 16] w (Ret (.int .u64 4129) w) := by
 go_enter Tryz.func89, Tryz.ntmps89
 go_wp2
 go_ret
 exact Ret.mk rfl (Mod.refl _ _)
def Crc.tab : List Nat := [28, 27, 26, 25, 23, 22, 20, 19, 18, 14, 13, 11, 10, 9, 8, 6, 0]
def Crc.dv (j : Nat) : Nat := ((Crc.tab.take j).map (2 ^ ·)).sum
theorem Crc.dv_succ : ∀ j : Fin 17, Crc.dv (j.val + 1) = Crc.dv j.val + 2 ^ (Crc.tab.getD j.val 0) /\ Crc.dv j.val <= 517762881 /\ Crc.tab.getD j.val 0 <= 28 := by decide
set_option maxHeartbeats 400000 in
theorem divisor_32 (w : World) : Calls Tryz.prog 89 #[.int .i64 32] w (Ret (.int .u64 517762881) w) := by
 go_enter Tryz.func89, Tryz.ntmps89
 go_wp2
 have hext := hid ((Mod.refl [] w).alloc (.cells ((Crc.tab.map fun (n : Nat) => Value.int .i64 (n : Int)).toArray) 143))
 have hcell : Hid (∀ j, j < 17 -> (w.alloc (.cells ((Crc.tab.map fun (n : Nat) => Value.int .i64 (n : Int)).toArray) 143)).cell? ⟨w.heap.size, j, none⟩ = some (.int .i64 ((Crc.tab.getD j 0 : Nat) : Int))) := fun j hj => by
  rw [(Blk.new w 143 _).cell j]
  have h : j < Crc.tab.length := hj
  simp [h]
 have hW : ∃ W, W = w.alloc (.cells ((Crc.tab.map fun (n : Nat) => Value.int .i64 (n : Int)).toArray) 143) := ⟨_, rfl⟩
 obtain ⟨W, hW⟩ := hW
 rw [<- hW] at hext hcell
 change Code.wp _ _ _ _ (w.alloc (.cells ((Crc.tab.map fun (n : Nat) => Value.int .i64 (n : Int)).toArray) 143))
 rw [<- hW]
 clear hW
 go_loop [3, 5, 6, 7] (fun n i p k => ∃ j : Nat, j <= 17 /\ i = .int .i64 j /\ n = .int .u64 ((Crc.dv j : Nat) : Int)) (fun _ i _ _ => 17 - (intOf i).toNat)
 case atStart => exact ⟨0, Nat.zero_le _, rfl, rfl⟩
 case round =>
  obtain ⟨j, hj, rfl, rfl⟩ := hrel
  by_cases hlt : j < 17
  .
   have hc := hcell.out j hlt
   obtain ⟨hd, hd2, ht⟩ := Crc.dv_succ ⟨j, hlt⟩
   simp only [] at hd hd2 ht
   have HD := hid hd; clear hd
   generalize Crc.tab.getD j 0 = t at *
   generalize Crc.dv j = d at *
   go_wp2
   go_loop [6, 7] (fun p k => ∃ i : Nat, i <= t /\ k = .int .i64 i /\ p = .int .u64 ((2 ^ i : Nat) : Int)) (fun _ k => t - (intOf k).toNat)
   case atStart => exact ⟨0, Nat.zero_le _, rfl, rfl⟩
   case round =>
    obtain ⟨i, hi, rfl, rfl⟩ := hrel
    have hp : 2 ^ i <= 268435456 := show 2 ^ i <= 2 ^ 28 from Nat.pow_le_pow_right (by omega) (by omega)
    by_cases hil : i < t
    .
     have HS := hid (Nat.pow_succ 2 i)
     generalize 2 ^ i = x at *
     go_wp2
     go_round
     case rel => exact ⟨i + 1, by omega, by go_num, by rw [HS.out]; go_num⟩
     case measure => simp [intOf]; omega
    .
     obtain rfl : i = t := by omega
     generalize 2 ^ i = x at *
     go_wp2
     go_round
     case rel => exact ⟨j + 1, by omega, by go_num, by rw [HD.out]; go_num⟩
     case measure => simp [intOf]; omega
  .
   obtain rfl : j = 17 := by omega
   go_wp2
   go_ret
   have e : Crc.dv 17 = 517762881 := by decide
   refine ⟨?_, hext.out⟩
   show Ending.returned (.int .u64 ((Crc.dv 17 : Nat) : Int)) = _
   rw [e]; rfl
end Go.Proofs.YthecmnbkjchjmaaGreat


namespace Go.Proofs.YthecmnbkjchjmaaGreat
open Go.RowKit
set_option linter.unusedVariables false
set_option linter.unusedSimpArgs false

theorem Crc.stepR_lt {m d r b : Nat} (hd : d < 2 ^ m) : Crc.stepR (2 ^ m) d r b < 2 ^ m := by
 have := Nat.mod_lt (r * 2) (Nat.two_pow_pos m)
 unfold Crc.stepR
 split
 . exact this
 . exact Nat.xor_lt_two_pow this hd

theorem Crc.x_16 (l : List UInt8) : Crc.rv 16 (65535 - Crc.divR 65536 4129 65535 l) = Crc.x25 l := Crc.sums (m := 15) (p := 33800) (by decide) l
theorem Crc.r_16 {r c : Nat} : Crc.stepR 65536 4129 r c = if r / 32768 = c then r * 2 % 65536 else (r * 2 % 65536) ^^^ 4129 := rfl
set_option maxHeartbeats 800000 in
theorem Sum16 (l : List UInt8) (hl : Hid (l.length < 1000000)) (w : World) : Calls Tryz.prog 74 #[.int .i64 16, str l] w (Ret (.int .u64 (Crc.x25 l : Nat)) w) := by
 obtain ⟨T, hT⟩ : ∃ T, T = Crc.divR 65536 4129 65535 l := ⟨_, rfl⟩
 have hX := Crc.x_16 l
 rw [<- hT] at hX
 rw [<- hX]
 have HT := hid hT; clear hT hX
 go_enter Tryz.func74, Tryz.ntmps74
 go_wp2_with fail
 go_loop [5, 6] (fun t i => ∃ j : Nat, j <= 16 /\ i = .int .i64 j /\ t = .int .u64 ((2 ^ j : Nat) : Int)) (fun _ i => 16 - (intOf i).toNat)
 case atStart => exact ⟨0, Nat.zero_le _, rfl, rfl⟩
 case round =>
  obtain ⟨j, hj, rfl, rfl⟩ := hrel
  have hp : 2 ^ j <= 4294967296 := show 2 ^ j <= 2 ^ 32 from Nat.pow_le_pow_right (by omega) (by omega)
  by_cases hlt : j < 16
  .
   have HS := hid (Nat.pow_succ 2 j)
   generalize 2 ^ j = x at *
   go_wp2_with fail
   go_round
   case rel => exact ⟨j + 1, by omega, by go_num, by rw [HS.out]; go_num⟩
   case measure => simp [intOf]; omega
  .
   obtain rfl : j = 16 := by omega
   have e2 : (2 : Nat) ^ 16 = 65536 := by decide
   rw [e2]
   clear e2 hp
   go_wp2_with fail
   refine (divisor_16 _).mono ?_
   rintro e w1 ⟨rfl, hb1⟩
   go_wp2_with fail
   go_loop [7, 9, 10, 11, 12, 13] (fun r i c k bt h => ∃ j x : Nat, j <= l.length /\ x < 65536 /\ i = .int .i64 j /\ r = .int .u64 (x : Int) /\ Hid (T = Crc.divR 65536 4129 x (l.drop j))) (fun _ i _ _ _ _ => l.length - (intOf i).toNat)
   case atStart => exact ⟨0, 65535, Nat.zero_le _, by omega, rfl, rfl, HT⟩
   case round =>
    obtain ⟨j, x, hj, hx, rfl, rfl, HR⟩ := hrel
    have hl2 : l.length < 1000000 := hl.out
    by_cases hlt : j < l.length
    .
     have HS : Hid (T = Crc.divR 65536 4129 (Crc.stepsR 65536 4129 8 x (l[j]).toNat) (l.drop (j + 1))) := by
      have h1 := HR.out
      rw [List.drop_eq_getElem_cons hlt] at h1
      exact h1
     clear HR
     have hc8 := (l[j]).toNat_lt
     go_wp2_with fail
     generalize hcn : (l[j]).toNat = cn at *
     have HCN := hid hcn; clear hcn
     go_loop [7, 10, 11, 12, 13] (fun r c k bt h => ∃ n y d : Nat, n <= 8 /\ y < 65536 /\ d < 256 /\ k = .int .i64 n /\ r = .int .u64 (y : Int) /\ c = .int .i64 (d : Int) /\ Hid (Crc.stepsR 65536 4129 (8 - n) y d = Crc.stepsR 65536 4129 8 x cn)) (fun _ _ k _ _ => 8 - (intOf k).toNat)
     case atStart => exact ⟨0, x, cn, by omega, hx, by omega, rfl, rfl, (by show Value.int .i64 (wrap64 ((l[j]).toNat : Int)) = _; rw [HCN.out]; congr 1; exact IntWalk.wrap64_in _ (by omega)), rfl⟩
     case round =>
      obtain ⟨n, y, d, hn, hy, hd, rfl, rfl, rfl, HQ⟩ := hrel
      by_cases hn8 : n < 8
      .
       have HN : Hid (Crc.stepsR 65536 4129 (8 - (n + 1)) (Crc.stepR 65536 4129 y (d % 2)) (d / 2) = Crc.stepsR 65536 4129 8 x cn) := by
        have h1 := HQ.out
        rw [show 8 - n = (8 - (n + 1)) + 1 by omega] at h1
        exact h1
       have hL := Crc.stepR_lt (m := 16) (d := 4129) (r := y) (b := d % 2) (by decide)
       clear HQ
       by_cases hbit : y / 32768 = d % 2
       .
        have hE : Crc.stepR 65536 4129 y (d % 2) = y * 2 % 65536 := by rw [Crc.r_16, if_pos hbit]
        rw [hE] at HN hL
        go_wp2_with fail
        go_round
        case rel => exact ⟨n + 1, _, d / 2, by omega, hL, by omega, by go_num, by simp, by simp, HN⟩
        case measure => simp [intOf]; omega
       .
        have hE : Crc.stepR 65536 4129 y (d % 2) = (y * 2 % 65536) ^^^ 4129 := by rw [Crc.r_16, if_neg hbit]
        have tX := u64_xor_nat (y * 2 % 65536) 4129 (by omega) (by omega)
        rw [hE] at HN hL
        go_wp2_with fail
        go_round
        case rel => exact ⟨n + 1, _, d / 2, by omega, hL, by omega, by go_num, by rw [<- tX]; simp, by simp, HN⟩
        case measure => simp [intOf]; omega
      .
       obtain rfl : n = 8 := by omega
       have h1 : y = Crc.stepsR 65536 4129 8 x cn := HQ.out
       subst h1
       clear HQ
       go_wp2_with fail
       go_round
       case rel => exact ⟨j + 1, _, by omega, hy, by go_num, rfl, HS⟩
       case measure => simp [intOf]; omega
    .
     obtain rfl : j = l.length := by omega
     have h1 := HR.out
     rw [List.drop_length] at h1
     have h2 : T = x := h1
     subst h2
     clear HR h1
     go_wp2_with fail
     have K := hid (fun W => turn_n (65535 - T) (by unfold Hid; omega) 16 (by unfold Hid; omega) W)
     have e5 : ((65535 - T : Nat) : Int) = 65535 - (T : Int) := by omega
     rw [e5] at K
     refine (K.out _).mono ?_
     rintro e w2 ⟨rfl, hb2⟩
     go_wp2_with fail
     go_ret
     exact Ret.mk rfl (hb1.trans hb2)

theorem Crc.x_32 (l : List UInt8) : Crc.rv 32 (4294967295 - Crc.divR 4294967296 517762881 4294967295 l) = Crc.cast l := Crc.sums (m := 31) (p := 2197175160) (by decide) l
theorem Crc.r_32 {r c : Nat} : Crc.stepR 4294967296 517762881 r c = if r / 2147483648 = c then r * 2 % 4294967296 else (r * 2 % 4294967296) ^^^ 517762881 := rfl
set_option maxHeartbeats 800000 in
theorem Sum32 (l : List UInt8) (hl : Hid (l.length < 1000000)) (w : World) : Calls Tryz.prog 74 #[.int .i64 32, str l] w (Ret (.int .u64 (Crc.cast l : Nat)) w) := by
 obtain ⟨T, hT⟩ : ∃ T, T = Crc.divR 4294967296 517762881 4294967295 l := ⟨_, rfl⟩
 have hX := Crc.x_32 l
 rw [<- hT] at hX
 rw [<- hX]
 have HT := hid hT; clear hT hX
 go_enter Tryz.func74, Tryz.ntmps74
 go_wp2_with fail
 go_loop [5, 6] (fun t i => ∃ j : Nat, j <= 32 /\ i = .int .i64 j /\ t = .int .u64 ((2 ^ j : Nat) : Int)) (fun _ i => 32 - (intOf i).toNat)
 case atStart => exact ⟨0, Nat.zero_le _, rfl, rfl⟩
 case round =>
  obtain ⟨j, hj, rfl, rfl⟩ := hrel
  have hp : 2 ^ j <= 4294967296 := show 2 ^ j <= 2 ^ 32 from Nat.pow_le_pow_right (by omega) (by omega)
  by_cases hlt : j < 32
  .
   have HS := hid (Nat.pow_succ 2 j)
   generalize 2 ^ j = x at *
   go_wp2_with fail
   go_round
   case rel => exact ⟨j + 1, by omega, by go_num, by rw [HS.out]; go_num⟩
   case measure => simp [intOf]; omega
  .
   obtain rfl : j = 32 := by omega
   have e2 : (2 : Nat) ^ 32 = 4294967296 := by decide
   rw [e2]
   clear e2 hp
   go_wp2_with fail
   refine (divisor_32 _).mono ?_
   rintro e w1 ⟨rfl, hb1⟩
   go_wp2_with fail
   go_loop [7, 9, 10, 11, 12, 13] (fun r i c k bt h => ∃ j x : Nat, j <= l.length /\ x < 4294967296 /\ i = .int .i64 j /\ r = .int .u64 (x : Int) /\ Hid (T = Crc.divR 4294967296 517762881 x (l.drop j))) (fun _ i _ _ _ _ => l.length - (intOf i).toNat)
   case atStart => exact ⟨0, 4294967295, Nat.zero_le _, by omega, rfl, rfl, HT⟩
   case round =>
    obtain ⟨j, x, hj, hx, rfl, rfl, HR⟩ := hrel
    have hl2 : l.length < 1000000 := hl.out
    by_cases hlt : j < l.length
    .
     have HS : Hid (T = Crc.divR 4294967296 517762881 (Crc.stepsR 4294967296 517762881 8 x (l[j]).toNat) (l.drop (j + 1))) := by
      have h1 := HR.out
      rw [List.drop_eq_getElem_cons hlt] at h1
      exact h1
     clear HR
     have hc8 := (l[j]).toNat_lt
     go_wp2_with fail
     generalize hcn : (l[j]).toNat = cn at *
     have HCN := hid hcn; clear hcn
     go_loop [7, 10, 11, 12, 13] (fun r c k bt h => ∃ n y d : Nat, n <= 8 /\ y < 4294967296 /\ d < 256 /\ k = .int .i64 n /\ r = .int .u64 (y : Int) /\ c = .int .i64 (d : Int) /\ Hid (Crc.stepsR 4294967296 517762881 (8 - n) y d = Crc.stepsR 4294967296 517762881 8 x cn)) (fun _ _ k _ _ => 8 - (intOf k).toNat)
     case atStart => exact ⟨0, x, cn, by omega, hx, by omega, rfl, rfl, (by show Value.int .i64 (wrap64 ((l[j]).toNat : Int)) = _; rw [HCN.out]; congr 1; exact IntWalk.wrap64_in _ (by omega)), rfl⟩
     case round =>
      obtain ⟨n, y, d, hn, hy, hd, rfl, rfl, rfl, HQ⟩ := hrel
      by_cases hn8 : n < 8
      .
       have HN : Hid (Crc.stepsR 4294967296 517762881 (8 - (n + 1)) (Crc.stepR 4294967296 517762881 y (d % 2)) (d / 2) = Crc.stepsR 4294967296 517762881 8 x cn) := by
        have h1 := HQ.out
        rw [show 8 - n = (8 - (n + 1)) + 1 by omega] at h1
        exact h1
       have hL := Crc.stepR_lt (m := 32) (d := 517762881) (r := y) (b := d % 2) (by decide)
       clear HQ
       by_cases hbit : y / 2147483648 = d % 2
       .
        have hE : Crc.stepR 4294967296 517762881 y (d % 2) = y * 2 % 4294967296 := by rw [Crc.r_32, if_pos hbit]
        rw [hE] at HN hL
        go_wp2_with fail
        go_round
        case rel => exact ⟨n + 1, _, d / 2, by omega, hL, by omega, by go_num, by simp, by simp, HN⟩
        case measure => simp [intOf]; omega
       .
        have hE : Crc.stepR 4294967296 517762881 y (d % 2) = (y * 2 % 4294967296) ^^^ 517762881 := by rw [Crc.r_32, if_neg hbit]
        have tX := u64_xor_nat (y * 2 % 4294967296) 517762881 (by omega) (by omega)
        rw [hE] at HN hL
        go_wp2_with fail
        go_round
        case rel => exact ⟨n + 1, _, d / 2, by omega, hL, by omega, by go_num, by rw [<- tX]; simp, by simp, HN⟩
        case measure => simp [intOf]; omega
      .
       obtain rfl : n = 8 := by omega
       have h1 : y = Crc.stepsR 4294967296 517762881 8 x cn := HQ.out
       subst h1
       clear HQ
       go_wp2_with fail
       go_round
       case rel => exact ⟨j + 1, _, by omega, hy, by go_num, rfl, HS⟩
       case measure => simp [intOf]; omega
    .
     obtain rfl : j = l.length := by omega
     have h1 := HR.out
     rw [List.drop_length] at h1
     have h2 : T = x := h1
     subst h2
     clear HR h1
     go_wp2_with fail
     have K := hid (fun W => turn_n (4294967295 - T) (by unfold Hid; omega) 32 (by unfold Hid; omega) W)
     have e5 : ((4294967295 - T : Nat) : Int) = 4294967295 - (T : Int) := by omega
     rw [e5] at K
     refine (K.out _).mono ?_
     rintro e w2 ⟨rfl, hb2⟩
     go_wp2_with fail
     go_ret
     exact Ret.mk rfl (hb1.trans hb2)
end Go.Proofs.YthecmnbkjchjmaaGreat


namespace Go.Proofs.YthecmnbkjchjmaaGreat
open Go.RowKit
set_option linter.unusedVariables false
set_option linter.unusedSimpArgs false

theorem bv_nat {b : BV} (h : b.right = 0) : ∃ ty num : Nat, b = ⟨ty, num, b.fl, b.crc, b.data⟩ := by
 obtain ⟨ty, num, fl, crc, data⟩ := b
 have h := BV.right_zero h
 simp only [] at h
 obtain ⟨ty, rfl⟩ := Int.eq_ofNat_of_zero_le (show 0 <= ty by omega)
 obtain ⟨num, rfl⟩ := Int.eq_ofNat_of_zero_le (show 0 <= num by omega)
 exact ⟨ty, num, rfl⟩
end Go.Proofs.YthecmnbkjchjmaaGreat


namespace Go.Proofs.YthecmnbkjchjmaaGreat
open Go.RowKit
set_option linter.unusedVariables false
set_option linter.unusedSimpArgs false

def parseR (l : List UInt8) : Nat × Int := if (flt 8 l).2 = 0 /\ (flt 8 l).1 < l.length then ((flt 8 l).1, 2) else flt 8 l
def PPost (l : List UInt8) (w : World) (x : Ending) (w' : World) : Prop :=
 Ext w w' /\ (((parseR l).2 ≠ 0 /\ x = .returned (.tuple #[itemV nulT none 0, .int .i64 ((parseR l).1 : Int), .int .i64 (parseR l).2])) \/
  ((parseR l).2 = 0 /\ ∃ t A c, x = .returned (.tuple #[itemV t A c, .int .i64 (-1), .int .i64 0]) /\ (t.right 8 = true /\ t.ok) /\ t.bytes = l /\ IsL w' (fun _ => True) t A))
def PPostC (l : List UInt8) (w : World) (x : Ending) (w' : World) : Prop :=
 Ext w w' /\ (((parseR l).2 ≠ 0 /\ x = .returned (.tuple #[itemV nulT none 0, .int .i64 ((parseR l).1 : Int), .int .i64 (parseR l).2])) \/
  ((parseR l).2 = 0 /\ ∃ t A c, x = .returned (.tuple #[itemV t A c, .int .i64 (-1), .int .i64 0]) /\ (t.right 8 = true /\ t.ok) /\ t.bytes = l /\ IsC w' (fun _ => True) t A c))
theorem PPostC.out {l : List UInt8} {w : World} {x : Ending} {w' : World} (h : PPostC l w x w') : PPost l w x w' := by
 obtain ⟨hb, h | ⟨h0, t, A, c, h1, h2, h3, h4⟩⟩ := h
 . exact ⟨hb, .inl h⟩
 . exact ⟨hb, .inr ⟨h0, t, A, c, h1, h2, h3, h4.isL⟩⟩

set_option maxRecDepth 20000 in
set_option maxHeartbeats 1600000 in
theorem parse_anyC (l : List UInt8) (hl : Hid (l.length <= 1073741824)) (w : World) : Calls Tryz.prog 84 #[str l] w (PPostC l w) := by
 have hF0 : Hid (flt 8 (l.drop 0) = flt 8 l) := by unfold Hid; rw [List.drop_zero]
 have HP1 : Hid (PAt ((w.alloc (.cells (itemC nulT none 0) 86)).alloc (.cells #[str l, .int .i64 ((0 : Nat) : Int), .int .i64 0] 138)) (w.heap.size + 1) l 0 0) := Blk.newAt _ _ _ (by simp)
 have HB1 : Hid (Blk ((w.alloc (.cells (itemC nulT none 0) 86)).alloc (.cells #[str l, .int .i64 ((0 : Nat) : Int), .int .i64 0] 138)) w.heap.size 86 (itemC nulT none 0)) := (Blk.new _ _ _).alloc _
 have HE1 := hid (((Mod.refl [w.heap.size + 1] w).alloc (.cells (itemC nulT none 0) 86)).alloc (.cells #[str l, .int .i64 ((0 : Nat) : Int), .int .i64 0] 138))
 go_enter Tryz.func84, Tryz.ntmps84
 go_upto_region 2 with fail
 go_cut [6] (fun s6 wx => ∃ X t A c, s6 = .pointer (some ⟨X, 0, none⟩) /\ Hid (Mod [w.heap.size + 1] w wx /\ PAt wx (w.heap.size + 1) l (flt 8 l).1 (flt 8 l).2 /\ Blk wx w.heap.size 86 (itemC nulT none 0) /\ Blk wx X 86 (itemC t A c) /\ w.heap.size + 1 < X /\
   ((flt 8 l).2 = 0 -> (t.right 8 = true /\ t.ok) /\ t.bytes ++ l.drop (flt 8 l).1 = l /\ IsC wx (fun b => w.heap.size + 2 <= b /\ b ≠ X) t A c)))
 case first =>
  go_wp2_with fail
  refine (pitem_any (w.heap.size + 1) l hl.out 8 (by omega) 0 (by omega) _ HP1.out).mono ?_
  rintro x w2 ⟨t, A, c, rfl, hm2, hp2, hs2⟩
  rw [hF0.out] at hp2 hs2
  rw [Nat.zero_add] at hp2 hs2
  rw [List.drop_zero] at hs2
  have HB2 := hid (HB1.out.mod hm2 (by simp))
  have HP2 := hid hp2
  have HS2 := hid hs2
  have HE2 := hid (HE1.out.trans hm2)
  clear hm2 hp2 hs2 HB1 HE1 HP1
  go_wp2_with fail
  go_meet
  refine ⟨w2.heap.size, t, A, c, rfl, HE2.out.alloc _, Blk.alloc HP2.out _, HB2.out.alloc _, Blk.new _ _ _, Blk.lt HP2.out, fun h0 => ⟨(HS2.out h0).1, (HS2.out h0).2.1, ?_⟩⟩
  have h3 := (HS2.out h0).2.2
  exact IsC.ext (IsC.weak (fun k hk hq => ⟨by simpa using hq, by omega⟩) t h3) ((Mod.refl _ _).alloc _)
 obtain ⟨X, t, A, c, rfl, hH⟩ := hcut
 clear HB1 HE1 HP1 hF0
 obtain ⟨E, hE⟩ : ∃ E, E = (flt 8 l).2 := ⟨_, rfl⟩
 obtain ⟨q, hq⟩ : ∃ q, q = (flt 8 l).1 := ⟨_, rfl⟩
 have HPR : Hid (parseR l = if E = 0 /\ q < l.length then (q, 2) else (q, E)) := by unfold Hid parseR; rw [hE, hq]
 rw [<- hE, <- hq] at hH
 have hql : q <= l.length := by rw [hq]; exact flt_le 8 l
 have q0 : (0 : Int) <= (q : Int) := by omega
 have q1 : (q : Int) <= (l.length : Int) := by omega
 have l1 : (l.length : Int) <= 1073741824 := by have := hl.out; omega
 have HQL := hid hql
 clear hE hq hql
 have p1 : wc.cell? ⟨w.heap.size + 1, 1, none⟩ = some (.int .i64 (q : Int)) := PAt.at_ hH.out.2.1
 have p2 : wc.cell? ⟨w.heap.size + 1, 2, none⟩ = some (.int .i64 E) := PAt.err hH.out.2.1
 by_cases hE : E = 0
 .
  subst hE
  by_cases hql : q < l.length
  .
   have tl : decide (q < l.length) = true := by simp [hql]
   have tl2 : decide ((q : Int) < (l.length : Int)) = true := by simp [hql]
   have HPE := hid HPR.out
   rw [if_pos ⟨rfl, hql⟩] at HPE
   clear hql
   go_upto_region 4 with fail
   go_wp2_with fail
   refine (pfail_any (w.heap.size + 1) l q q 2 _ hH.out.2.1).mono ?_
   rintro x w3 ⟨rfl, hm3, hp3⟩
   have HM3 := hid (hH.out.1.trans hm3)
   have HP3 := hid hp3
   have HB3 := hid (hH.out.2.2.1.mod hm3 (by simp))
   clear hm3 hp3 p1 p2
   have p1 : w3.cell? ⟨w.heap.size + 1, 1, none⟩ = some (.int .i64 (q : Int)) := PAt.at_ HP3.out
   have p2 : w3.cell? ⟨w.heap.size + 1, 2, none⟩ = some (.int .i64 2) := PAt.err HP3.out
   obtain ⟨c0, c1, c2, c3, c4⟩ := cells5 HB3.out
   have f0 := Blk.frozen HB3.out 0
   have f1 := Blk.frozen HB3.out 1
   have f2 := Blk.frozen HB3.out 2
   have f3 := Blk.frozen HB3.out 3
   have f4 := Blk.frozen HB3.out 4
   go_upto_region 6 with fail
   have HW : Hid (Mod [w.heap.size + 1] w (set5 w3 w.heap.size nulT none 0).drew /\ Blk (set5 w3 w.heap.size nulT none 0).drew w.heap.size 86 (itemC nulT none 0)) := ⟨(set5_mod HM3.out (Nat.le_refl _)).drew, Blk.drew (set5_blk HB3.out)⟩
   go_cut [3, 4] (fun s3 s4 wx => s3 = .int .i64 (q : Int) /\ s4 = .int .i64 2 /\ Hid (Mod [w.heap.size + 1] w wx /\ Blk wx w.heap.size 86 (itemC nulT none 0)))
   case first =>
    go_region
    all_goals go_wp2_with fail
    all_goals go_meet
    all_goals exact ⟨rfl, rfl, HW.out.1, HW.out.2⟩
   clear c0 c1 c2 c3 c4 f0 f1 f2 f3 f4
   obtain ⟨rfl, rfl, hR⟩ := hcut
   obtain ⟨d0, d1, d2, d3, d4⟩ := cells5 hR.out.2
   go_wp2_with fail
   refine bodyPost_ret (v := .tuple #[itemV nulT none 0, .int .i64 (q : Int), .int .i64 2]) (by simp [results, Tryz.results84, go_sem, d0, d1, d2, d3, d4]) rfl ?_
   refine ⟨Mod.new (S := [w.heap.size + 1]) hR.out.1 (fun k hk => by rw [List.mem_singleton] at hk; subst hk; exact .inr (by omega)), .inl ?_⟩
   rw [HPE.out]
   exact ⟨(show ¬ ((2 : Int) = 0) by decide), rfl⟩
  .
   have tl : decide (q < l.length) = false := by simp [hql]
   have tl2 : decide ((q : Int) < (l.length : Int)) = false := by simp; omega
   have HPE := hid HPR.out
   rw [if_neg (fun h => hql h.2)] at HPE
   have HQ := hid hql
   clear hql
   obtain ⟨x0, x1, x2, x3, x4⟩ := cells5 hH.out.2.2.2.1
   obtain ⟨c0, c1, c2, c3, c4⟩ := cells5 hH.out.2.2.1
   have f0 := Blk.frozen hH.out.2.2.1 0
   have f1 := Blk.frozen hH.out.2.2.1 1
   have f2 := Blk.frozen hH.out.2.2.1 2
   have f3 := Blk.frozen hH.out.2.2.1 3
   have f4 := Blk.frozen hH.out.2.2.1 4
   go_wp2_with fail
   obtain ⟨d0, d1, d2, d3, d4⟩ := cells5 (set5_blk (t := t) (A := A) (c := c) hH.out.2.2.1)
   clear c0 c1 c2 c3 c4 f0 f1 f2 f3 f4 x0 x1 x2 x3 x4 p1 p2
   show bodyPost _ _ _ _ _ (set5 wc w.heap.size t A c)
   refine bodyPost_ret (v := .tuple #[itemV t A c, .int .i64 (-1), .int .i64 0]) (by simp [results, Tryz.results84, go_sem, d0, d1, d2, d3, d4]) rfl ?_
   refine ⟨Mod.new (S := [w.heap.size + 1]) (set5_mod hH.out.1 (Nat.le_refl _)) (fun k hk => by rw [List.mem_singleton] at hk; subst hk; exact .inr (by omega)), .inr ?_⟩
   have h1 := hH.out.2.2.2.2.2 (by first | rfl | trivial)
   rw [HPE.out]
   refine ⟨rfl, t, A, c, rfl, h1.1, ?_, ?_⟩
   .
    have h2 := h1.2.1
    have hqe : q = l.length := by have := HQ.out; have := HQL.out; omega
    rw [hqe, List.drop_length, List.append_nil] at h2
    exact h2
   . exact IsC.weak (fun k hk hq => trivial) t (IsC.mod set5_modb (fun k hq hk hm => by rw [List.mem_singleton] at hm; have := hq.1; omega) t h1.2.2)
 .
  have te : (E == 0) = false := by simp [hE]
  have te2 : (E = 0) = False := by simp [hE]
  have tn : (E != 0) = true := by simp [hE]
  have HPE := hid HPR.out
  rw [if_neg (fun h => hE h.1)] at HPE
  have HNE := hid hE
  clear hE
  obtain ⟨c0, c1, c2, c3, c4⟩ := cells5 hH.out.2.2.1
  have f0 := Blk.frozen hH.out.2.2.1 0
  have f1 := Blk.frozen hH.out.2.2.1 1
  have f2 := Blk.frozen hH.out.2.2.1 2
  have f3 := Blk.frozen hH.out.2.2.1 3
  have f4 := Blk.frozen hH.out.2.2.1 4
  go_upto_region 6 with fail
  have HW : Hid (Mod [w.heap.size + 1] w (set5 wc w.heap.size nulT none 0).drew /\ Blk (set5 wc w.heap.size nulT none 0).drew w.heap.size 86 (itemC nulT none 0)) := ⟨(set5_mod hH.out.1 (Nat.le_refl _)).drew, Blk.drew (set5_blk hH.out.2.2.1)⟩
  go_cut [3, 4] (fun s3 s4 wx => s3 = .int .i64 (q : Int) /\ s4 = .int .i64 E /\ Hid (Mod [w.heap.size + 1] w wx /\ Blk wx w.heap.size 86 (itemC nulT none 0)))
  case first =>
   go_region
   all_goals go_wp2_with fail
   all_goals go_meet
   all_goals exact ⟨rfl, rfl, HW.out.1, HW.out.2⟩
  clear c0 c1 c2 c3 c4 f0 f1 f2 f3 f4
  obtain ⟨rfl, rfl, hR⟩ := hcut
  obtain ⟨d0, d1, d2, d3, d4⟩ := cells5 hR.out.2
  go_wp2_with fail
  refine bodyPost_ret (v := .tuple #[itemV nulT none 0, .int .i64 (q : Int), .int .i64 E]) (by simp [results, Tryz.results84, go_sem, d0, d1, d2, d3, d4]) rfl ?_
  refine ⟨Mod.new (S := [w.heap.size + 1]) hR.out.1 (fun k hk => by rw [List.mem_singleton] at hk; subst hk; exact .inr (by omega)), .inl ?_⟩
  rw [HPE.out]
  exact ⟨HNE.out, rfl⟩
theorem parse_any (l : List UInt8) (hl : Hid (l.length <= 1073741824)) (w : World) : Calls Tryz.prog 84 #[str l] w (PPost l w) := (parse_anyC l hl w).mono fun _ _ h => h.out
end Go.Proofs.YthecmnbkjchjmaaGreat


namespace Go.Proofs.YthecmnbkjchjmaaGreat
open Go.RowKit
set_option linter.unusedVariables false
set_option linter.unusedSimpArgs false

theorem parse_back {x : T} (hx : x.right 8 = true) (hox : x.ok) : parseR x.bytes = (x.bytes.length, 0) := by
 have h := flt_bytes x 8 hx hox []
 rw [List.append_nil] at h
 unfold parseR
 rw [h]
 rw [if_neg (by rintro ⟨_, h⟩; exact Nat.lt_irrefl _ h)]
def set4 (W : World) (b : Nat) (e : EV) : World := (((W.setCell ⟨b, 0, none⟩ (.int .i64 e.sch)).setCell ⟨b, 1, none⟩ (str e.name)).setCell ⟨b, 2, none⟩ (.int .u64 (e.node : Int))).setCell ⟨b, 3, none⟩ (.int .u64 (e.svc : Int))
theorem set4_blk {W : World} {b : Nat} {e0 e : EV} (h : Blk W b 24 e0.c) : Blk (set4 W b e) b 24 e.c := by
 have := (((h.set_ 0 (.int .i64 e.sch)).set_ 1 (str e.name)).set_ 2 (.int .u64 (e.node : Int))).set_ 3 (.int .u64 (e.svc : Int))
 unfold set4
 simpa using this
theorem set4_mod {w W : World} {S : List Nat} {b : Nat} {e : EV} (h : Mod S w W) (hb : w.heap.size <= b) : Mod S w (set4 W b e) := (((h.setCell (.inr hb) _).setCell (.inr hb) _).setCell (.inr hb) _).setCell (.inr hb) _
theorem cells4 {W : World} {b : Nat} {e : EV} (h : Blk W b 24 e.c) : W.cell? ⟨b, 0, none⟩ = some (.int .i64 e.sch) /\ W.cell? ⟨b, 1, none⟩ = some (str e.name) /\ W.cell? ⟨b, 2, none⟩ = some (.int .u64 (e.node : Int)) /\ W.cell? ⟨b, 3, none⟩ = some (.int .u64 (e.svc : Int)) := ⟨h.cell 0, h.cell 1, h.cell 2, h.cell 3⟩
theorem same_mk {t : T} {kind : Int} {n : Nat} {s : List UInt8} {op : Bool} {k : Nat} {ch : Nat -> T} (h : (T.mk kind n s op k ch).same t = true) : t.kind = kind /\ t.n = n /\ t.s = s /\ t.op = op /\ t.k = k /\ ∀ i, i < k -> (ch i).same (t.ch i) = true := by
 unfold T.same at h
 simp only [Bool.and_eq_true, beq_iff_eq] at h
 obtain ⟨⟨⟨⟨⟨h1, h2⟩, h3⟩, h4⟩, h5⟩, h6⟩ := h
 exact ⟨h1.symm, h2.symm, h3.symm, h4.symm, h5.symm, T.all_iff.1 h6⟩
theorem readE_same {e : EV} (ho : e.ok = true) {t : T} (h : (eidT e).same t = true) : readE t = e := by
 rcases EV.ok_cases ho with rfl | ⟨name, rfl, hn, hl⟩ | ⟨node, svc, rfl, ha, hb⟩
 .
  obtain ⟨h1, h2, h3, h4, h5, h6⟩ := same_mk h
  have g0 := same_mk (h6 0 (by omega))
  have g1 : (numT 0).same (t.ch 1) = true := h6 1 (by omega)
  have g1 := same_mk g1
  have z : ¬ (t.kind ≠ 4 \/ t.k ≠ 2 \/ (t.ch 0).kind ≠ 0) := by rw [h1, h5, g0.1]; decide
  have z2 : ¬ ((t.ch 0).n = 2 /\ (t.ch 1).k = 2) := by rintro ⟨h, _⟩; rw [g0.2.1] at h; revert h; decide
  have z3 : ¬ ((t.ch 0).n = 1 /\ (t.ch 1).kind = 3) := by rintro ⟨_, h⟩; rw [g1.1] at h; revert h; decide
  unfold readE
  rw [if_neg z, if_neg z2, if_neg z3]
  rfl
 .
  have h0 : ¬ name = noneL := hn
  have e1 : eidT ⟨1, name, 0, 0⟩ = T.mk 4 0 [] false 2 fun i => if i = 0 then numT 1 else textT name := by simp [eidT, twoT, h0]
  rw [e1] at h
  obtain ⟨h1, h2, h3, h4, h5, h6⟩ := same_mk h
  have g0 := same_mk (h6 0 (by omega))
  have g1 : (textT name).same (t.ch 1) = true := h6 1 (by omega)
  have g1 := same_mk g1
  have z : ¬ (t.kind ≠ 4 \/ t.k ≠ 2 \/ (t.ch 0).kind ≠ 0) := by rw [h1, h5, g0.1]; decide
  have z2 : ¬ ((t.ch 0).n = 2 /\ (t.ch 1).k = 2) := by rintro ⟨h, _⟩; rw [g0.2.1] at h; revert h; decide
  have z3 : (t.ch 0).n = 1 /\ (t.ch 1).kind = 3 := by rw [g0.2.1, g1.1]; decide
  unfold readE
  rw [if_neg z, if_neg z2, if_pos z3, g1.2.2.1]
 .
  obtain ⟨h1, h2, h3, h4, h5, h6⟩ := same_mk h
  have g0 := same_mk (h6 0 (by omega))
  have g1 : (T.mk 4 0 [] false 2 (fun j => if j = 0 then numT node else numT svc)).same (t.ch 1) = true := h6 1 (by omega)
  have g1 := same_mk g1
  have k0 : (numT node).same ((t.ch 1).ch 0) = true := g1.2.2.2.2.2 0 (by omega)
  have k1 : (numT svc).same ((t.ch 1).ch 1) = true := g1.2.2.2.2.2 1 (by omega)
  have k0 := same_mk k0
  have k1 := same_mk k1
  have z : ¬ (t.kind ≠ 4 \/ t.k ≠ 2 \/ (t.ch 0).kind ≠ 0) := by rw [h1, h5, g0.1]; decide
  have z2 : (t.ch 0).n = 2 /\ (t.ch 1).k = 2 := ⟨g0.2.1, g1.2.2.2.2.1⟩
  unfold readE
  rw [if_neg z, if_pos z2, k0.2.1, k1.2.1]
end Go.Proofs.YthecmnbkjchjmaaGreat


namespace Go.Proofs.YthecmnbkjchjmaaGreat
open Go.RowKit
set_option linter.unusedVariables false
set_option linter.unusedSimpArgs false

theorem numT_plain (n : Nat) : (numT n).plain = true /\ (numT n).bytes.length <= 9 := by
 have := headL_le 0 n
 exact ⟨by simp [numT, T.plain, T.node, T.all], by simpa [numT, T.bytes] using this⟩
end Go.Proofs.YthecmnbkjchjmaaGreat


namespace Go.Proofs.YthecmnbkjchjmaaGreat
open Go.RowKit
set_option linter.unusedVariables false
set_option linter.unusedSimpArgs false

theorem pairT2_plain (l k : Nat) : (pairT2 l k).plain = true /\ (pairT2 l k).size <= 100 := by
 exact ⟨by simp [pairT2, numT, T.plain, T.node, T.all], by simp [pairT2, numT, T.size, T.sum]⟩
end Go.Proofs.YthecmnbkjchjmaaGreat


namespace Go.Proofs.YthecmnbkjchjmaaGreat
open Go.RowKit
set_option linter.unusedVariables false
set_option linter.unusedSimpArgs false

section
variable {f g : Nat -> List Value} {z : Nat}
end
end Go.Proofs.YthecmnbkjchjmaaGreat


namespace Go.Proofs.YthecmnbkjchjmaaGreat
open Go.RowKit
set_option linter.unusedVariables false
set_option linter.unusedSimpArgs false

def NsL (w : World) (A : Option Addr) (k : Nat) (f : Nat -> Int) : Prop := 0 < k -> ∃ b o, A = some ⟨b, o, none⟩ /\ b < w.heap.size /\ ∀ i, i < k -> w.cell? ⟨b, o + i, none⟩ = some (.int .i64 (f i))
def At6 (w : World) (b o : Nat) (p : PR) (A : Option Addr) (c : Nat) : Prop := w.cell? ⟨b, o, none⟩ = some (.int .i64 p.id) /\ w.cell? ⟨b, o + 1, none⟩ = some (.int .i64 p.t.kind) /\ w.cell? ⟨b, o + 2, none⟩ = some (.int .u64 (p.t.n : Int)) /\ w.cell? ⟨b, o + 3, none⟩ = some (str p.t.s) /\ w.cell? ⟨b, o + 4, none⟩ = some (.slice A p.t.k c) /\ w.cell? ⟨b, o + 5, none⟩ = some (.bool p.t.op)
theorem At6.five {w : World} {b o : Nat} {p : PR} {A : Option Addr} {c : Nat} (h : At6 w b o p A c) : At5 w b (o + 1) p.t A c := ⟨h.2.1, h.2.2.1, h.2.2.2.1, h.2.2.2.2.1, h.2.2.2.2.2⟩
def PsL (w : World) (Q : Nat -> Prop) (A : Option Addr) (p : PL) : Prop := 0 < p.k -> ∃ b o, A = some ⟨b, o, none⟩ /\ b < w.heap.size /\ Q b /\ ∀ i, i < p.k -> ∃ Ai ci, At6 w b (o + i * 6) (p.a i) Ai ci /\ IsL w Q (p.a i).t Ai
def RsL (w : World) (Q : Nat -> Prop) (A : Option Addr) (k : Nat) (f : Nat -> PL) : Prop := 0 < k -> ∃ b o, A = some ⟨b, o, none⟩ /\ b < w.heap.size /\ Q b /\ ∀ i, i < k -> ∃ Ai ci, w.cell? ⟨b, o + i, none⟩ = some (.slice Ai (f i).k ci) /\ (f i).k <= ci /\ PsL w Q Ai (f i)
theorem NsL.mod {S : List Nat} {w w' : World} {A : Option Addr} {k : Nat} {f : Nat -> Int} (h : NsL w A k f) (hm : Mod S w w') (hs : ∀ b o, A = some ⟨b, o, none⟩ -> b < w.heap.size -> b ∉ S) : NsL w' A k f := fun h0 => by
 obtain ⟨b, o, hA, hb, hc⟩ := h h0
 exact ⟨b, o, hA, Nat.lt_of_lt_of_le hb hm.size, fun i hi => (hm.cell hb (hs b o hA hb)).trans (hc i hi)⟩
theorem NsL.ext {w w' : World} {A : Option Addr} {k : Nat} {f : Nat -> Int} (h : NsL w A k f) (hm : Ext w w') : NsL w' A k f := h.mod hm (by simp)
theorem At6.mod {S : List Nat} {w w' : World} {b o : Nat} {p : PR} {A : Option Addr} {c : Nat} (h : At6 w b o p A c) (hm : Mod S w w') (hb : b < w.heap.size) (hs : b ∉ S) : At6 w' b o p A c := by
 obtain ⟨h0, h1, h2, h3, h4, h5⟩ := h
 exact ⟨(hm.cell hb hs).trans h0, (hm.cell hb hs).trans h1, (hm.cell hb hs).trans h2, (hm.cell hb hs).trans h3, (hm.cell hb hs).trans h4, (hm.cell hb hs).trans h5⟩
theorem PsL.mod {S : List Nat} {Q : Nat -> Prop} {w w' : World} {A : Option Addr} {p : PL} (h : PsL w Q A p) (hm : Mod S w w') (hs : ∀ k, Q k -> k < w.heap.size -> k ∉ S) : PsL w' Q A p := fun h0 => by
 obtain ⟨b, o, hA, hb, hq, hc⟩ := h h0
 refine ⟨b, o, hA, Nat.lt_of_lt_of_le hb hm.size, hq, fun i hi => ?_⟩
 obtain ⟨Ai, ci, h1, h2⟩ := hc i hi
 exact ⟨Ai, ci, h1.mod hm hb (hs b hq hb), IsL.mod hm hs _ h2⟩
theorem PsL.ext {Q : Nat -> Prop} {w w' : World} {A : Option Addr} {p : PL} (h : PsL w Q A p) (hm : Ext w w') : PsL w' Q A p := h.mod hm (by simp)
theorem PsL.weak {Q R : Nat -> Prop} {w : World} {A : Option Addr} {p : PL} (h : PsL w Q A p) (hq : ∀ k, k < w.heap.size -> Q k -> R k) : PsL w R A p := fun h0 => by
 obtain ⟨b, o, hA, hb, hqb, hc⟩ := h h0
 refine ⟨b, o, hA, hb, hq b hb hqb, fun i hi => ?_⟩
 obtain ⟨Ai, ci, h1, h2⟩ := hc i hi
 exact ⟨Ai, ci, h1, IsL.weak hq _ h2⟩
theorem RsL.mod {S : List Nat} {Q : Nat -> Prop} {w w' : World} {A : Option Addr} {k : Nat} {f : Nat -> PL} (h : RsL w Q A k f) (hm : Mod S w w') (hs : ∀ k, Q k -> k < w.heap.size -> k ∉ S) : RsL w' Q A k f := fun h0 => by
 obtain ⟨b, o, hA, hb, hq, hc⟩ := h h0
 refine ⟨b, o, hA, Nat.lt_of_lt_of_le hb hm.size, hq, fun i hi => ?_⟩
 obtain ⟨Ai, ci, h1, hkc, h2⟩ := hc i hi
 exact ⟨Ai, ci, (hm.cell hb (hs b hq hb)).trans h1, hkc, h2.mod hm hs⟩
theorem RsL.ext {Q : Nat -> Prop} {w w' : World} {A : Option Addr} {k : Nat} {f : Nat -> PL} (h : RsL w Q A k f) (hm : Ext w w') : RsL w' Q A k f := h.mod hm (by simp)
theorem RsL.weak {Q R : Nat -> Prop} {w : World} {A : Option Addr} {k : Nat} {f : Nat -> PL} (h : RsL w Q A k f) (hq : ∀ k, k < w.heap.size -> Q k -> R k) : RsL w R A k f := fun h0 => by
 obtain ⟨b, o, hA, hb, hqb, hc⟩ := h h0
 refine ⟨b, o, hA, hb, hq b hb hqb, fun i hi => ?_⟩
 obtain ⟨Ai, ci, h1, hkc, h2⟩ := hc i hi
 exact ⟨Ai, ci, h1, hkc, h2.weak hq⟩
structure AA where
 t : Option Addr
 tc : Nat
 p : Option Addr
 pc : Nat
 r : Option Addr
 rc : Nat
structure AsL (w : World) (Q : Nat -> Prop) (a : AV) (m : AA) : Prop where
 t : NsL w m.t a.tk a.tg
 tq : ∀ b o, m.t = some ⟨b, o, none⟩ -> 0 < a.tk -> Q b
 p : PsL w Q m.p a.ps
 r : RsL w Q m.r a.rk a.rs
theorem AsL.mod {S : List Nat} {Q : Nat -> Prop} {w w' : World} {a : AV} {m : AA} (h : AsL w Q a m) (hm : Mod S w w') (hs : ∀ k, Q k -> k < w.heap.size -> k ∉ S) : AsL w' Q a m :=
 ⟨fun h0 => by
  obtain ⟨b, o, hA, hb, hc⟩ := h.t h0
  exact ⟨b, o, hA, Nat.lt_of_lt_of_le hb hm.size, fun i hi => (hm.cell hb (hs b (h.tq b o hA h0) hb)).trans (hc i hi)⟩, h.tq, h.p.mod hm hs, h.r.mod hm hs⟩
theorem AsL.ext {Q : Nat -> Prop} {w w' : World} {a : AV} {m : AA} (h : AsL w Q a m) (hm : Ext w w') : AsL w' Q a m := h.mod hm (by simp)

end Go.Proofs.YthecmnbkjchjmaaGreat
