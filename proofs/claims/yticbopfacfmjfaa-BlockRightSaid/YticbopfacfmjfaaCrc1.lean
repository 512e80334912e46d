/-
  The code's sums: divide, X25, Castagnoli, Size, Sum.
-/
import Derived.Test.YticbopfacfmjfaaBase
import Derived.Test.YticbopfacfmjfaaCrcPlain
import Derived.Laws.BitsAllLaws
namespace Go.Proofs.Yticbopfacfmjfaa
open Go.RowKit
set_option linter.unusedVariables false

theorem cell_row8 (w : World) (l : List UInt8) (cap t : Nat) (fz : Nat × Nat) (j : Nat) (h : j < l.length) :
    (w.alloc (.cells (bytesRow ⟨l.toArray⟩ cap) t fz)).cell? ⟨w.heap.size, j, none⟩ = some (.int .u8 (l[j].toNat : Int)) := by
  rw [World.cell?_alloc_mark]
  simp only [bytesRow]
  rw [Array.getElem?_append_left (by simpa using h)]
  simp [h]
theorem Crc.stepC_lt {p s m : Nat} (hp : p < 2 ^ m) (hs : s < 2 ^ m) : Crc.stepC p s < 2 ^ m := by
  unfold Crc.stepC
  split
  · exact Nat.xor_lt_two_pow (by omega) hp
  · omega
theorem Crc.stepsC_lt {p m : Nat} (hp : p < 2 ^ m) : ∀ (k s : Nat), s < 2 ^ m → Crc.stepsC p k s < 2 ^ m
  | 0, s, h => h
  | k + 1, s, h => Crc.stepsC_lt hp k _ (Crc.stepC_lt hp h)
theorem Crc.divC_lt {p m : Nat} (hp : p < 2 ^ m) : ∀ (l : List UInt8) (s : Nat), s < 2 ^ m → 8 ≤ m → Crc.divC p s l < 2 ^ m
  | [], s, h, _ => h
  | c :: l, s, h, h8 => by
    have hc : c.toNat < 2 ^ m := Nat.lt_of_lt_of_le c.toNat_lt (Nat.pow_le_pow_right (by omega) h8)
    have := Crc.divC_lt hp l (Crc.stepsC p 8 (s ^^^ c.toNat)) (Crc.stepsC_lt hp 8 _ (Nat.xor_lt_two_pow h hc)) h8
    exact this

theorem and1_16 {s : Nat} (hs : s < 65536) : bits .and .u16 (s : Int) 1 = ((s % 2 : Nat) : Int) := by
  have := u16_and_nat s 1 hs (by omega)
  rw [Nat.and_one_is_mod] at this
  exact this
theorem xor_16 {s c : Nat} (hs : s < 65536) (hc : c < 65536) : bits .xor .u16 (s : Int) (c : Int) = ((s ^^^ c : Nat) : Int) := u16_xor_nat s c hs hc

set_option maxHeartbeats 400000 in
theorem divide16 (p s : Nat) (hp : Hid (p < 65536)) (hs : Hid (s < 65536)) (l : List UInt8) (hl : Hid (l.length < 1000000)) (w : World) :
    Calls Try.prog 62 #[.int .u16 (s : Int), .int .u16 (p : Int), str l] w (Ret (.int .u16 (Crc.divC p s l : Nat)) w) := by
  have hconv := fun (w : World) (s : ByteArray) => run_bytes_of_string (P := Try.prog) w 9 27 5 s Try.underlying9 Try.underlying27 Try.underlying5
  obtain ⟨T, hT⟩ : ∃ T, T = Crc.divC p s l := ⟨_, rfl⟩
  rw [← hT]
  have HT := hid hT; clear hT
  go_enter Try.func62, Try.ntmps62
  go_wp2
  have hext : Ext w (w.alloc (Obj.cells (bytesRow { data := l.toArray } (grownCap w l.length 0 5)) 5 ((bytesRow { data := l.toArray } (grownCap w l.length 0 5)).size, (bytesRow { data := l.toArray } (grownCap w l.length 0 5)).size + 1))).drew := ((Mod.refl _ _).alloc _).drew
  have hcell : ∀ j (h : j < l.length), (w.alloc (Obj.cells (bytesRow { data := l.toArray } (grownCap w l.length 0 5)) 5 ((bytesRow { data := l.toArray } (grownCap w l.length 0 5)).size, (bytesRow { data := l.toArray } (grownCap w l.length 0 5)).size + 1))).drew.cell? ⟨w.heap.size, j, none⟩ = some (.int .u8 (l[j].toNat : Int)) := fun j h => by rw [World.cell?_drew]; exact cell_row8 w l _ _ _ j h
  generalize hW : World.drew (World.alloc w _) = W at *
  have HW := hid hW; clear hW
  have HC := hid hcell; clear hcell
  have HL := hid hl.out
  go_loop [0, 12] (fun n i => ∃ j c : Nat, j ≤ l.length ∧ c < 65536 ∧ i = .int .i64 j ∧ n = .int .u16 (c : Int) ∧ Hid (T = Crc.divC p c (l.drop j))) (fun _ i => l.length - (intOf i).toNat)
  case atStart => exact ⟨0, s, Nat.zero_le _, hs.out, rfl, rfl, HT⟩
  case round =>
    obtain ⟨j, c, hj, hc, rfl, rfl, HR⟩ := hrel
    by_cases hlt : j < l.length
    · have hcc := HC.out j hlt
      generalize hx : l[j] = x at *
      have HX := hid hx; clear hx
      have hx8 := x.toNat_lt
      have tx : IntKind.u16.wrap (x.toNat : Int) = (x.toNat : Int) := IntWalk.u16_in _ (by omega)
      have t2 := xor_16 (s := c) (c := x.toNat) hc (by omega)
      have hcx : c ^^^ x.toNat < 65536 := Nat.xor_lt_two_pow (n := 16) hc (by omega)
      have HS : Hid (T = Crc.divC p (Crc.stepsC p 8 (c ^^^ x.toNat)) (l.drop (j + 1))) := by
        have h1 := HR.out
        rw [List.drop_eq_getElem_cons hlt, HX.out] at h1
        exact h1
      clear HR
      go_wp2
      generalize c ^^^ x.toNat = y at *
      go_loop [0, 20] (fun n i => ∃ k c : Nat, k ≤ 8 ∧ c < 65536 ∧ i = .int .i64 k ∧ n = .int .u16 (c : Int) ∧ Hid (Crc.stepsC p (8 - k) c = Crc.stepsC p 8 y)) (fun _ i => 8 - (intOf i).toNat)
      case atStart => exact ⟨0, y, by omega, hcx, rfl, rfl, rfl⟩
      case round =>
        obtain ⟨k, c, hk, hc, rfl, rfl, HR⟩ := hrel
        by_cases hlt : k < 8
        · have tA := and1_16 hc
          have HN : Hid (Crc.stepsC p (8 - (k + 1)) (Crc.stepC p c) = Crc.stepsC p 8 y) := by
            have h1 := HR.out
            rw [show 8 - k = (8 - (k + 1)) + 1 by omega] at h1
            exact h1
          have hL := Crc.stepC_lt (m := 16) hp.out hc
          clear HR
          rcases Nat.mod_two_eq_zero_or_one c with e | e
          · have hS : Crc.stepC p c = c / 2 := by unfold Crc.stepC; rw [if_neg (by omega)]
            rw [hS] at HN hL
            rw [e] at tA
            go_wp2
            go_round
            case rel => exact ⟨k + 1, c / 2, by omega, hL, by go_num, by simp, HN⟩
            case measure => simp [intOf]; omega
          · have hS : Crc.stepC p c = c / 2 ^^^ p := by unfold Crc.stepC; rw [if_pos e]
            have tX := xor_16 (s := c / 2) (c := p) (by omega) hp.out
            rw [hS] at HN hL
            rw [e] at tA
            go_wp2
            go_round
            case rel => exact ⟨k + 1, c / 2 ^^^ p, by omega, hL, by go_num, by rw [← tX]; simp, HN⟩
            case measure => simp [intOf]; omega
        · obtain rfl : k = 8 := by omega
          have h1 : c = Crc.stepsC p 8 y := HR.out
          have hl2 : l.length < 1000000 := hl.out
          subst h1
          clear HR
          go_wp2
          go_round
          case rel => exact ⟨j + 1, _, by omega, hc, by go_num, rfl, HS⟩
          case measure => simp [intOf]; omega
    · obtain rfl : j = l.length := by omega
      have h1 := HR.out
      rw [List.drop_length] at h1
      have h2 : T = c := h1
      subst h2
      clear HR h1
      go_wp2
      go_ret
      exact ⟨rfl, hext⟩

theorem and1_32 {s : Nat} (hs : s < 4294967296) : bits .and .u32 (s : Int) 1 = ((s % 2 : Nat) : Int) := by
  have := u32_and_nat s 1 hs (by omega)
  rw [Nat.and_one_is_mod] at this
  exact this
theorem xor_32 {s c : Nat} (hs : s < 4294967296) (hc : c < 4294967296) : bits .xor .u32 (s : Int) (c : Int) = ((s ^^^ c : Nat) : Int) := u32_xor_nat s c hs hc

set_option maxHeartbeats 400000 in
theorem divide32 (p s : Nat) (hp : Hid (p < 4294967296)) (hs : Hid (s < 4294967296)) (l : List UInt8) (hl : Hid (l.length < 1000000)) (w : World) :
    Calls Try.prog 63 #[.int .u32 (s : Int), .int .u32 (p : Int), str l] w (Ret (.int .u32 (Crc.divC p s l : Nat)) w) := by
  have hconv := fun (w : World) (s : ByteArray) => run_bytes_of_string (P := Try.prog) w 9 27 5 s Try.underlying9 Try.underlying27 Try.underlying5
  obtain ⟨T, hT⟩ : ∃ T, T = Crc.divC p s l := ⟨_, rfl⟩
  rw [← hT]
  have HT := hid hT; clear hT
  go_enter Try.func63, Try.ntmps63
  go_wp2
  have hext : Ext w (w.alloc (Obj.cells (bytesRow { data := l.toArray } (grownCap w l.length 0 5)) 5 ((bytesRow { data := l.toArray } (grownCap w l.length 0 5)).size, (bytesRow { data := l.toArray } (grownCap w l.length 0 5)).size + 1))).drew := ((Mod.refl _ _).alloc _).drew
  have hcell : ∀ j (h : j < l.length), (w.alloc (Obj.cells (bytesRow { data := l.toArray } (grownCap w l.length 0 5)) 5 ((bytesRow { data := l.toArray } (grownCap w l.length 0 5)).size, (bytesRow { data := l.toArray } (grownCap w l.length 0 5)).size + 1))).drew.cell? ⟨w.heap.size, j, none⟩ = some (.int .u8 (l[j].toNat : Int)) := fun j h => by rw [World.cell?_drew]; exact cell_row8 w l _ _ _ j h
  generalize hW : World.drew (World.alloc w _) = W at *
  have HW := hid hW; clear hW
  have HC := hid hcell; clear hcell
  have HL := hid hl.out
  go_loop [0, 12] (fun n i => ∃ j c : Nat, j ≤ l.length ∧ c < 4294967296 ∧ i = .int .i64 j ∧ n = .int .u32 (c : Int) ∧ Hid (T = Crc.divC p c (l.drop j))) (fun _ i => l.length - (intOf i).toNat)
  case atStart => exact ⟨0, s, Nat.zero_le _, hs.out, rfl, rfl, HT⟩
  case round =>
    obtain ⟨j, c, hj, hc, rfl, rfl, HR⟩ := hrel
    by_cases hlt : j < l.length
    · have hcc := HC.out j hlt
      generalize hx : l[j] = x at *
      have HX := hid hx; clear hx
      have hx8 := x.toNat_lt
      have tx : IntKind.u32.wrap (x.toNat : Int) = (x.toNat : Int) := IntWalk.u32_in _ (by omega)
      have t2 := xor_32 (s := c) (c := x.toNat) hc (by omega)
      have hcx : c ^^^ x.toNat < 4294967296 := Nat.xor_lt_two_pow (n := 32) hc (by omega)
      have HS : Hid (T = Crc.divC p (Crc.stepsC p 8 (c ^^^ x.toNat)) (l.drop (j + 1))) := by
        have h1 := HR.out
        rw [List.drop_eq_getElem_cons hlt, HX.out] at h1
        exact h1
      clear HR
      go_wp2
      generalize c ^^^ x.toNat = y at *
      go_loop [0, 20] (fun n i => ∃ k c : Nat, k ≤ 8 ∧ c < 4294967296 ∧ i = .int .i64 k ∧ n = .int .u32 (c : Int) ∧ Hid (Crc.stepsC p (8 - k) c = Crc.stepsC p 8 y)) (fun _ i => 8 - (intOf i).toNat)
      case atStart => exact ⟨0, y, by omega, hcx, rfl, rfl, rfl⟩
      case round =>
        obtain ⟨k, c, hk, hc, rfl, rfl, HR⟩ := hrel
        by_cases hlt : k < 8
        · have tA := and1_32 hc
          have HN : Hid (Crc.stepsC p (8 - (k + 1)) (Crc.stepC p c) = Crc.stepsC p 8 y) := by
            have h1 := HR.out
            rw [show 8 - k = (8 - (k + 1)) + 1 by omega] at h1
            exact h1
          have hL := Crc.stepC_lt (m := 32) hp.out hc
          clear HR
          rcases Nat.mod_two_eq_zero_or_one c with e | e
          · have hS : Crc.stepC p c = c / 2 := by unfold Crc.stepC; rw [if_neg (by omega)]
            rw [hS] at HN hL
            rw [e] at tA
            go_wp2
            go_round
            case rel => exact ⟨k + 1, c / 2, by omega, hL, by go_num, by simp, HN⟩
            case measure => simp [intOf]; omega
          · have hS : Crc.stepC p c = c / 2 ^^^ p := by unfold Crc.stepC; rw [if_pos e]
            have tX := xor_32 (s := c / 2) (c := p) (by omega) hp.out
            rw [hS] at HN hL
            rw [e] at tA
            go_wp2
            go_round
            case rel => exact ⟨k + 1, c / 2 ^^^ p, by omega, hL, by go_num, by rw [← tX]; simp, HN⟩
            case measure => simp [intOf]; omega
        · obtain rfl : k = 8 := by omega
          have h1 : c = Crc.stepsC p 8 y := HR.out
          have hl2 : l.length < 1000000 := hl.out
          subst h1
          clear HR
          go_wp2
          go_round
          case rel => exact ⟨j + 1, _, by omega, hc, by go_num, rfl, HS⟩
          case measure => simp [intOf]; omega
    · obtain rfl : j = l.length := by omega
      have h1 := HR.out
      rw [List.drop_length] at h1
      have h2 : T = c := h1
      subst h2
      clear HR h1
      go_wp2
      go_ret
      exact ⟨rfl, hext⟩
end Go.Proofs.Yticbopfacfmjfaa
