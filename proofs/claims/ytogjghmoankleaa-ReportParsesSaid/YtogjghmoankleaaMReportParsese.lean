/-
  The code's sums: divide, X25, Castagnoli, Size, Sum.
  The code's sums' bytes.
  strings.Repeat: the library's contract, at this program.
  Primaries: the sum put in.
  Primaries: the item and the bytes, as the code makes them.
  The reference's sums.
  The reference's sums, whole.
  A block's item, without a sum.
  A block without a sum: its item, its bytes; the block that the laws wake the program by.
  A block's bytes; the block that the laws wake the program by.
  An item with the right sum as its last part.
  A block's item and bytes, whatever its sum.
  The reference's blocks: bytes, header.
  The reference's blocks, built.
  Primaries: the bytes, as the reference puts them together.
  Reports: the reference's Bytes.
  Reports: a part of an item.
  The name that an item may be.
  Items: the code's same.
-/
import Derived.Test.YtogjghmoankleaaMReportParsesd
import Derived.Laws.BitsAllLaws
import Derived.Shelf.Strings.Repeat

namespace Go.Proofs.Ytogjghmoankleaa
open Go.RowKit
set_option linter.unusedVariables false
set_option linter.unusedSimpArgs false

theorem cell_row8 (w : World) (l : List UInt8) (cap t : Nat) (fz : Nat × Nat) (j : Nat) (h : j < l.length) :
    (w.alloc (.cells (bytesRow ⟨l.toArray⟩ cap) t fz)).cell? ⟨w.heap.size, j, none⟩ = some (.int .u8 (l[j].toNat : Int)) := by
  rw [World.cell?_alloc_mark]
  simp only [bytesRow]
  rw [Array.getElem?_append_left (by simpa using h)]
  simp [h]
theorem Crc.stepC_lt {p s m : Nat} (hp : p < 2 ^ m) (hs : s < 2 ^ m) : Crc.stepC p s < 2 ^ m := by
  unfold Crc.stepC
  split
  · exact Nat.xor_lt_two_pow (by omega) hp
  · omega
theorem Crc.stepsC_lt {p m : Nat} (hp : p < 2 ^ m) : ∀ (k s : Nat), s < 2 ^ m → Crc.stepsC p k s < 2 ^ m
  | 0, s, h => h
  | k + 1, s, h => Crc.stepsC_lt hp k _ (Crc.stepC_lt hp h)
theorem Crc.divC_lt {p m : Nat} (hp : p < 2 ^ m) : ∀ (l : List UInt8) (s : Nat), s < 2 ^ m → 8 ≤ m → Crc.divC p s l < 2 ^ m
  | [], s, h, _ => h
  | c :: l, s, h, h8 => by
    have hc : c.toNat < 2 ^ m := Nat.lt_of_lt_of_le c.toNat_lt (Nat.pow_le_pow_right (by omega) h8)
    have := Crc.divC_lt hp l (Crc.stepsC p 8 (s ^^^ c.toNat)) (Crc.stepsC_lt hp 8 _ (Nat.xor_lt_two_pow h hc)) h8
    exact this

theorem and1_16 {s : Nat} (hs : s < 65536) : bits .and .u16 (s : Int) 1 = ((s % 2 : Nat) : Int) := by
  have := u16_and_nat s 1 hs (by omega)
  rw [Nat.and_one_is_mod] at this
  exact this
theorem xor_16 {s c : Nat} (hs : s < 65536) (hc : c < 65536) : bits .xor .u16 (s : Int) (c : Int) = ((s ^^^ c : Nat) : Int) := u16_xor_nat s c hs hc

set_option maxHeartbeats 400000 in
theorem divide16 (p s : Nat) (hp : Hid (p < 65536)) (hs : Hid (s < 65536)) (l : List UInt8) (hl : Hid (l.length < 1000000)) (w : World) :
    Calls Try.prog 159 #[.int .u16 (s : Int), .int .u16 (p : Int), str l] w (Ret (.int .u16 (Crc.divC p s l : Nat)) w) := by
  have hconv := fun (w : World) (s : ByteArray) => run_bytes_of_string (P := Try.prog) w 9 73 5 s Try.underlying9 Try.underlying73 Try.underlying5
  obtain ⟨T, hT⟩ : ∃ T, T = Crc.divC p s l := ⟨_, rfl⟩
  rw [← hT]
  have HT := hid hT; clear hT
  go_enter Try.func159, Try.ntmps159
  go_wp2
  have hext : Ext w (w.alloc (Obj.cells (bytesRow { data := l.toArray } (grownCap w l.length 0 5)) 5 ((bytesRow { data := l.toArray } (grownCap w l.length 0 5)).size, (bytesRow { data := l.toArray } (grownCap w l.length 0 5)).size + 1))).drew := ((Mod.refl _ _).alloc _).drew
  have hcell : ∀ j (h : j < l.length), (w.alloc (Obj.cells (bytesRow { data := l.toArray } (grownCap w l.length 0 5)) 5 ((bytesRow { data := l.toArray } (grownCap w l.length 0 5)).size, (bytesRow { data := l.toArray } (grownCap w l.length 0 5)).size + 1))).drew.cell? ⟨w.heap.size, j, none⟩ = some (.int .u8 (l[j].toNat : Int)) := fun j h => by rw [World.cell?_drew]; exact cell_row8 w l _ _ _ j h
  generalize hW : World.drew (World.alloc w _) = W at *
  have HW := hid hW; clear hW
  have HC := hid hcell; clear hcell
  have HL := hid hl.out
  go_loop [0, 12] (fun n i => ∃ j c : Nat, j ≤ l.length ∧ c < 65536 ∧ i = .int .i64 j ∧ n = .int .u16 (c : Int) ∧ Hid (T = Crc.divC p c (l.drop j))) (fun _ i => l.length - (intOf i).toNat)
  case atStart => exact ⟨0, s, Nat.zero_le _, hs.out, rfl, rfl, HT⟩
  case round =>
    obtain ⟨j, c, hj, hc, rfl, rfl, HR⟩ := hrel
    by_cases hlt : j < l.length
    · have hcc := HC.out j hlt
      generalize hx : l[j] = x at *
      have HX := hid hx; clear hx
      have hx8 := x.toNat_lt
      have tx : IntKind.u16.wrap (x.toNat : Int) = (x.toNat : Int) := IntWalk.u16_in _ (by omega)
      have t2 := xor_16 (s := c) (c := x.toNat) hc (by omega)
      have hcx : c ^^^ x.toNat < 65536 := Nat.xor_lt_two_pow (n := 16) hc (by omega)
      have HS : Hid (T = Crc.divC p (Crc.stepsC p 8 (c ^^^ x.toNat)) (l.drop (j + 1))) := by
        have h1 := HR.out
        rw [List.drop_eq_getElem_cons hlt, HX.out] at h1
        exact h1
      clear HR
      go_wp2
      generalize c ^^^ x.toNat = y at *
      go_loop [0, 20] (fun n i => ∃ k c : Nat, k ≤ 8 ∧ c < 65536 ∧ i = .int .i64 k ∧ n = .int .u16 (c : Int) ∧ Hid (Crc.stepsC p (8 - k) c = Crc.stepsC p 8 y)) (fun _ i => 8 - (intOf i).toNat)
      case atStart => exact ⟨0, y, by omega, hcx, rfl, rfl, rfl⟩
      case round =>
        obtain ⟨k, c, hk, hc, rfl, rfl, HR⟩ := hrel
        by_cases hlt : k < 8
        · have tA := and1_16 hc
          have HN : Hid (Crc.stepsC p (8 - (k + 1)) (Crc.stepC p c) = Crc.stepsC p 8 y) := by
            have h1 := HR.out
            rw [show 8 - k = (8 - (k + 1)) + 1 by omega] at h1
            exact h1
          have hL := Crc.stepC_lt (m := 16) hp.out hc
          clear HR
          rcases Nat.mod_two_eq_zero_or_one c with e | e
          · have hS : Crc.stepC p c = c / 2 := by unfold Crc.stepC; rw [if_neg (by omega)]
            rw [hS] at HN hL
            rw [e] at tA
            go_wp2
            go_round
            case rel => exact ⟨k + 1, c / 2, by omega, hL, by go_num, by simp, HN⟩
            case measure => simp [intOf]; omega
          · have hS : Crc.stepC p c = c / 2 ^^^ p := by unfold Crc.stepC; rw [if_pos e]
            have tX := xor_16 (s := c / 2) (c := p) (by omega) hp.out
            rw [hS] at HN hL
            rw [e] at tA
            go_wp2
            go_round
            case rel => exact ⟨k + 1, c / 2 ^^^ p, by omega, hL, by go_num, by rw [← tX]; simp, HN⟩
            case measure => simp [intOf]; omega
        · obtain rfl : k = 8 := by omega
          have h1 : c = Crc.stepsC p 8 y := HR.out
          have hl2 : l.length < 1000000 := hl.out
          subst h1
          clear HR
          go_wp2
          go_round
          case rel => exact ⟨j + 1, _, by omega, hc, by go_num, rfl, HS⟩
          case measure => simp [intOf]; omega
    · obtain rfl : j = l.length := by omega
      have h1 := HR.out
      rw [List.drop_length] at h1
      have h2 : T = c := h1
      subst h2
      clear HR h1
      go_wp2
      go_ret
      exact ⟨rfl, hext⟩

theorem and1_32 {s : Nat} (hs : s < 4294967296) : bits .and .u32 (s : Int) 1 = ((s % 2 : Nat) : Int) := by
  have := u32_and_nat s 1 hs (by omega)
  rw [Nat.and_one_is_mod] at this
  exact this
theorem xor_32 {s c : Nat} (hs : s < 4294967296) (hc : c < 4294967296) : bits .xor .u32 (s : Int) (c : Int) = ((s ^^^ c : Nat) : Int) := u32_xor_nat s c hs hc

set_option maxHeartbeats 400000 in
theorem divide32 (p s : Nat) (hp : Hid (p < 4294967296)) (hs : Hid (s < 4294967296)) (l : List UInt8) (hl : Hid (l.length < 1000000)) (w : World) :
    Calls Try.prog 160 #[.int .u32 (s : Int), .int .u32 (p : Int), str l] w (Ret (.int .u32 (Crc.divC p s l : Nat)) w) := by
  have hconv := fun (w : World) (s : ByteArray) => run_bytes_of_string (P := Try.prog) w 9 73 5 s Try.underlying9 Try.underlying73 Try.underlying5
  obtain ⟨T, hT⟩ : ∃ T, T = Crc.divC p s l := ⟨_, rfl⟩
  rw [← hT]
  have HT := hid hT; clear hT
  go_enter Try.func160, Try.ntmps160
  go_wp2
  have hext : Ext w (w.alloc (Obj.cells (bytesRow { data := l.toArray } (grownCap w l.length 0 5)) 5 ((bytesRow { data := l.toArray } (grownCap w l.length 0 5)).size, (bytesRow { data := l.toArray } (grownCap w l.length 0 5)).size + 1))).drew := ((Mod.refl _ _).alloc _).drew
  have hcell : ∀ j (h : j < l.length), (w.alloc (Obj.cells (bytesRow { data := l.toArray } (grownCap w l.length 0 5)) 5 ((bytesRow { data := l.toArray } (grownCap w l.length 0 5)).size, (bytesRow { data := l.toArray } (grownCap w l.length 0 5)).size + 1))).drew.cell? ⟨w.heap.size, j, none⟩ = some (.int .u8 (l[j].toNat : Int)) := fun j h => by rw [World.cell?_drew]; exact cell_row8 w l _ _ _ j h
  generalize hW : World.drew (World.alloc w _) = W at *
  have HW := hid hW; clear hW
  have HC := hid hcell; clear hcell
  have HL := hid hl.out
  go_loop [0, 12] (fun n i => ∃ j c : Nat, j ≤ l.length ∧ c < 4294967296 ∧ i = .int .i64 j ∧ n = .int .u32 (c : Int) ∧ Hid (T = Crc.divC p c (l.drop j))) (fun _ i => l.length - (intOf i).toNat)
  case atStart => exact ⟨0, s, Nat.zero_le _, hs.out, rfl, rfl, HT⟩
  case round =>
    obtain ⟨j, c, hj, hc, rfl, rfl, HR⟩ := hrel
    by_cases hlt : j < l.length
    · have hcc := HC.out j hlt
      generalize hx : l[j] = x at *
      have HX := hid hx; clear hx
      have hx8 := x.toNat_lt
      have tx : IntKind.u32.wrap (x.toNat : Int) = (x.toNat : Int) := IntWalk.u32_in _ (by omega)
      have t2 := xor_32 (s := c) (c := x.toNat) hc (by omega)
      have hcx : c ^^^ x.toNat < 4294967296 := Nat.xor_lt_two_pow (n := 32) hc (by omega)
      have HS : Hid (T = Crc.divC p (Crc.stepsC p 8 (c ^^^ x.toNat)) (l.drop (j + 1))) := by
        have h1 := HR.out
        rw [List.drop_eq_getElem_cons hlt, HX.out] at h1
        exact h1
      clear HR
      go_wp2
      generalize c ^^^ x.toNat = y at *
      go_loop [0, 20] (fun n i => ∃ k c : Nat, k ≤ 8 ∧ c < 4294967296 ∧ i = .int .i64 k ∧ n = .int .u32 (c : Int) ∧ Hid (Crc.stepsC p (8 - k) c = Crc.stepsC p 8 y)) (fun _ i => 8 - (intOf i).toNat)
      case atStart => exact ⟨0, y, by omega, hcx, rfl, rfl, rfl⟩
      case round =>
        obtain ⟨k, c, hk, hc, rfl, rfl, HR⟩ := hrel
        by_cases hlt : k < 8
        · have tA := and1_32 hc
          have HN : Hid (Crc.stepsC p (8 - (k + 1)) (Crc.stepC p c) = Crc.stepsC p 8 y) := by
            have h1 := HR.out
            rw [show 8 - k = (8 - (k + 1)) + 1 by omega] at h1
            exact h1
          have hL := Crc.stepC_lt (m := 32) hp.out hc
          clear HR
          rcases Nat.mod_two_eq_zero_or_one c with e | e
          · have hS : Crc.stepC p c = c / 2 := by unfold Crc.stepC; rw [if_neg (by omega)]
            rw [hS] at HN hL
            rw [e] at tA
            go_wp2
            go_round
            case rel => exact ⟨k + 1, c / 2, by omega, hL, by go_num, by simp, HN⟩
            case measure => simp [intOf]; omega
          · have hS : Crc.stepC p c = c / 2 ^^^ p := by unfold Crc.stepC; rw [if_pos e]
            have tX := xor_32 (s := c / 2) (c := p) (by omega) hp.out
            rw [hS] at HN hL
            rw [e] at tA
            go_wp2
            go_round
            case rel => exact ⟨k + 1, c / 2 ^^^ p, by omega, hL, by go_num, by rw [← tX]; simp, HN⟩
            case measure => simp [intOf]; omega
        · obtain rfl : k = 8 := by omega
          have h1 : c = Crc.stepsC p 8 y := HR.out
          have hl2 : l.length < 1000000 := hl.out
          subst h1
          clear HR
          go_wp2
          go_round
          case rel => exact ⟨j + 1, _, by omega, hc, by go_num, rfl, HS⟩
          case measure => simp [intOf]; omega
    · obtain rfl : j = l.length := by omega
      have h1 := HR.out
      rw [List.drop_length] at h1
      have h2 : T = c := h1
      subst h2
      clear HR h1
      go_wp2
      go_ret
      exact ⟨rfl, hext⟩
end Go.Proofs.Ytogjghmoankleaa


namespace Go.Proofs.Ytogjghmoankleaa
open Go.RowKit
set_option linter.unusedVariables false
set_option linter.unusedSimpArgs false

def Crc.x25 (l : List UInt8) : Nat := 65535 - Crc.divC 33800 65535 l
def Crc.cast (l : List UInt8) : Nat := 4294967295 - Crc.divC 2197175160 4294967295 l
def Crc.sumL (kind : Nat) (l : List UInt8) : List UInt8 := if kind = 1 then be (Crc.x25 l) 2 else if kind = 2 then be (Crc.cast l) 4 else []

theorem Size_any (k : Nat) (hk : k ≤ 2) (w : World) : Calls Try.prog 76 #[.int .i64 (k : Int)] w (Ret (.int .i64 ((2 * k : Nat) : Int)) w) := by
  go_enter Try.func76, Try.ntmps76
  go_wp2
  go_ret
  exact Ret.mk (by simp) (Mod.refl _ _)

theorem X25_any (l : List UInt8) (hl : Hid (l.length < 1000000)) (w : World) : Calls Try.prog 145 #[str l] w (Ret (.int .u16 (Crc.x25 l : Nat)) w) := by
  have hd : Crc.divC 33800 65535 l < 65536 := Crc.divC_lt (m := 16) (by decide) l 65535 (by decide) (by decide)
  have tx : bits .xor .u16 IntKind.u16.max (Crc.divC 33800 65535 l : Int) = ((65535 - Crc.divC 33800 65535 l : Nat) : Int) := by
    rw [Crc.not_xor (n := 16) hd]
    exact u16_xor_nat 65535 _ (by decide) hd
  have K := hid (fun W => divide16 33800 65535 (by unfold Hid; decide) (by unfold Hid; decide) l hl W)
  unfold Crc.x25
  generalize Crc.divC 33800 65535 l = d at *
  go_enter Try.func145, Try.ntmps145
  go_wp2_with fail
  refine (K.out _).mono ?_
  rintro e w1 ⟨rfl, hb1⟩
  go_wp2_with fail
  go_ret
  exact Ret.mk (by simp) hb1
theorem Castagnoli_any (l : List UInt8) (hl : Hid (l.length < 1000000)) (w : World) : Calls Try.prog 146 #[str l] w (Ret (.int .u32 (Crc.cast l : Nat)) w) := by
  have hd : Crc.divC 2197175160 4294967295 l < 4294967296 := Crc.divC_lt (m := 32) (by decide) l 4294967295 (by decide) (by decide)
  have tx : bits .xor .u32 IntKind.u32.max (Crc.divC 2197175160 4294967295 l : Int) = ((4294967295 - Crc.divC 2197175160 4294967295 l : Nat) : Int) := by
    rw [Crc.not_xor (n := 32) hd]
    exact u32_xor_nat 4294967295 _ (by decide) hd
  have K := hid (fun W => divide32 2197175160 4294967295 (by unfold Hid; decide) (by unfold Hid; decide) l hl W)
  unfold Crc.cast
  generalize Crc.divC 2197175160 4294967295 l = d at *
  go_enter Try.func146, Try.ntmps146
  go_wp2_with fail
  refine (K.out _).mono ?_
  rintro e w1 ⟨rfl, hb1⟩
  go_wp2_with fail
  go_ret
  exact Ret.mk (by simp) hb1
theorem be2 {n : Nat} (h : n < 65536) : be n 2 = [b8 (n / 256), b8 (n % 256)] := by
  have e : n / 256 % 256 = n / 256 := by omega
  rw [be_succ, be_succ, be_zero]
  simp [e]
theorem be4 {n : Nat} (h : n < 4294967296) : be n 4 = [b8 (n / 16777216), b8 (n / 65536 % 256), b8 (n / 256 % 256), b8 (n % 256)] := by
  have e : n / 16777216 % 256 = n / 16777216 := by omega
  rw [be_succ, be_succ, be_succ, be_succ, be_zero]
  simp [e]
theorem b8_cast {n : Nat} (h : n < 256) : ((b8 n).toNat : Int) = (n : Int) := by
  simp [b8]
  omega
/-- Bytes laid in a new block, as a string. -/
theorem conv_new (l : List UInt8) (c : Nat) (W : World) : (convert 73 9 (.slice (some ⟨W.heap.size, 0, none⟩) l.length c)).run Try.prog (W.alloc (.cells (l.map fun b => Value.int .u8 (b.toNat : Int)).toArray 5)) = .ok (str l) (W.alloc (.cells (l.map fun b => Value.int .u8 (b.toNat : Int)).toArray 5)) := by
  refine run_convert_bytes_back (P := Try.prog) _ 73 9 5 _ c l Try.underlying73 Try.underlying5 Try.underlying9 (fun j hj => ?_)
  rw [addr_add, Nat.zero_add, (Blk.new W 5 _).cell j]
  simp [hj]
theorem Sum_1 (l : List UInt8) (hl : Hid (l.length < 1000000)) (w : World) : Calls Try.prog 117 #[.int .i64 1, str l] w (Ret (str (be (Crc.x25 l) 2)) w) := by
  have hd : Crc.x25 l < 65536 := by unfold Crc.x25; omega
  have K := hid (fun W => X25_any l hl W)
  generalize Crc.x25 l = d at *
  have hcv : ∀ W : World, (convert 73 9 (.slice (some ⟨W.heap.size, 0, none⟩) 2 2)).run Try.prog (W.alloc (.cells #[.int .u8 ((d : Int) / 256), .int .u8 ((d : Int) % 256)] 5)) = .ok (str (be d 2)) (W.alloc (.cells #[.int .u8 ((d : Int) / 256), .int .u8 ((d : Int) % 256)] 5)) := fun W => by
    have := conv_new (be d 2) 2 W
    rw [be_length, be2 hd] at this
    simpa [b8_cast (show d / 256 < 256 by omega), b8_cast (show d % 256 < 256 by omega), be2 hd] using this
  go_enter Try.func117, Try.ntmps117
  go_wp2_with fail
  refine (K.out _).mono ?_
  rintro e w1 ⟨rfl, hb1⟩
  go_wp2_with fail
  go_ret
  exact Ret.mk rfl (hb1.alloc _)
theorem Sum_2 (l : List UInt8) (hl : Hid (l.length < 1000000)) (w : World) : Calls Try.prog 117 #[.int .i64 2, str l] w (Ret (str (be (Crc.cast l) 4)) w) := by
  have hd : Crc.cast l < 4294967296 := by unfold Crc.cast; omega
  have K := hid (fun W => Castagnoli_any l hl W)
  generalize Crc.cast l = d at *
  have hcv : ∀ W : World, (convert 73 9 (.slice (some ⟨W.heap.size, 0, none⟩) 4 4)).run Try.prog (W.alloc (.cells #[.int .u8 ((d : Int) / 16777216), .int .u8 ((d : Int) / 65536 % 256), .int .u8 ((d : Int) / 256 % 256), .int .u8 ((d : Int) % 256)] 5)) = .ok (str (be d 4)) (W.alloc (.cells #[.int .u8 ((d : Int) / 16777216), .int .u8 ((d : Int) / 65536 % 256), .int .u8 ((d : Int) / 256 % 256), .int .u8 ((d : Int) % 256)] 5)) := fun W => by
    have := conv_new (be d 4) 4 W
    rw [be_length, be4 hd] at this
    simpa [b8_cast (show d / 16777216 < 256 by omega), b8_cast (show d / 65536 % 256 < 256 by omega), b8_cast (show d / 256 % 256 < 256 by omega), b8_cast (show d % 256 < 256 by omega), be4 hd] using this
  go_enter Try.func117, Try.ntmps117
  go_wp2_with fail
  refine (K.out _).mono ?_
  rintro e w1 ⟨rfl, hb1⟩
  go_wp2_with fail
  go_ret
  exact Ret.mk rfl (hb1.alloc _)
theorem Sum_any (k : Nat) (h1 : 1 ≤ k) (h2 : k ≤ 2) (l : List UInt8) (hl : Hid (l.length < 1000000)) (w : World) : Calls Try.prog 117 #[.int .i64 (k : Int), str l] w (Ret (str (Crc.sumL k l)) w) := by
  have : k = 1 ∨ k = 2 := by omega
  rcases this with rfl | rfl
  · exact Sum_1 l hl w
  · exact Sum_2 l hl w
theorem Crc.sumL_length {k : Nat} (h1 : 1 ≤ k) (h2 : k ≤ 2) (l : List UInt8) : (Crc.sumL k l).length = 2 * k := by
  have : k = 1 ∨ k = 2 := by omega
  rcases this with rfl | rfl
  · exact be_length _ _
  · exact be_length _ _
end Go.Proofs.Ytogjghmoankleaa


namespace Go.Proofs.Ytogjghmoankleaa
open Go.RowKit
set_option linter.unusedVariables false
set_option linter.unusedSimpArgs false

def layRep_ren : Shelf.Ren where
  f := fun x => match x with
    | 105 => 71
    | 212 => 110
    | 99 => 111
    | 165 => 112
    | 166 => 113
    | 170 => 114
    | 169 => 115
    | 263 => 140
    | 264 => 141
    | 206 => 142
    | 240 => 143
    | 241 => 144
    | 276 => 157
    | 277 => 158
    | n => n
  t := fun x => match x with
    | 9 => 9
    | 3 => 3
    | 4 => 4
    | 20 => 20
    | 0 => 0
    | 46 => 157
    | 109 => 158
    | 5 => 5
    | 72 => 163
    | 76 => 167
    | 51 => 185
    | 146 => 186
    | 53 => 24
    | 148 => 188
    | 70 => 161
    | 37 => 73
    | 75 => 166
    | 127 => 190
    | 164 => 200
    | 80 => 169
    | n => n
  g := fun n => n
theorem layRep : Lays.n105 Try.prog layRep_ren where
  mixed := by kernel_rfl
  f105 := Try.func71.trans (by kernel_rfl)
  f212 := Try.func110.trans (by kernel_rfl)
  f99 := Try.func111.trans (by kernel_rfl)
  f165 := Try.func112.trans (by kernel_rfl)
  f166 := Try.func113.trans (by kernel_rfl)
  f170 := Try.func114.trans (by kernel_rfl)
  f169 := Try.func115.trans (by kernel_rfl)
  f263 := Try.func140.trans (by kernel_rfl)
  f264 := Try.func141.trans (by kernel_rfl)
  f206 := Try.func142.trans (by kernel_rfl)
  f240 := Try.func143.trans (by kernel_rfl)
  f241 := Try.func144.trans (by kernel_rfl)
  f276 := Try.func157.trans (by kernel_rfl)
  f277 := Try.func158.trans (by kernel_rfl)
  t9 := Try.underlying9
  a9 := Try.isAgg9
  z9 := Try.sizeOf9
  v9 := Try.zeroValue9
  t3 := Try.underlying3
  a3 := Try.isAgg3
  z3 := Try.sizeOf3
  v3 := Try.zeroValue3
  t4 := Try.underlying4
  a4 := Try.isAgg4
  z4 := Try.sizeOf4
  v4 := Try.zeroValue4
  t20 := Try.underlying20
  a20 := Try.isAgg20
  z20 := Try.sizeOf20
  v20 := Try.zeroValue20
  t0 := Try.underlying0
  a0 := Try.isAgg0
  z0 := Try.sizeOf0
  v0 := Try.zeroValue0
  t46 := Try.underlying157
  a46 := Try.isAgg157
  z46 := Try.sizeOf157
  v46 := Try.zeroValue157
  t109 := Try.underlying158
  a109 := Try.isAgg158
  z109 := Try.sizeOf158
  v109 := Try.zeroValue158
  t5 := Try.underlying5
  a5 := Try.isAgg5
  z5 := Try.sizeOf5
  v5 := Try.zeroValue5
  t72 := Try.underlying163
  a72 := Try.isAgg163
  z72 := Try.sizeOf163
  v72 := Try.zeroValue163
  t76 := Try.underlying167
  a76 := Try.isAgg167
  z76 := Try.sizeOf167
  v76 := Try.zeroValue167
  t51 := Try.underlying185
  a51 := Try.isAgg185
  z51 := Try.sizeOf185
  v51 := Try.zeroValue185
  t146 := Try.underlying186
  a146 := Try.isAgg186
  z146 := Try.sizeOf186
  v146 := Try.zeroValue186
  t53 := Try.underlying24
  a53 := Try.isAgg24
  z53 := Try.sizeOf24
  v53 := Try.zeroValue24
  t148 := Try.underlying188
  a148 := Try.isAgg188
  z148 := Try.sizeOf188
  v148 := Try.zeroValue188
  t70 := Try.underlying161
  a70 := Try.isAgg161
  z70 := Try.sizeOf161
  v70 := Try.zeroValue161
  t37 := Try.underlying73
  a37 := Try.isAgg73
  z37 := Try.sizeOf73
  v37 := Try.zeroValue73
  t75 := Try.underlying166
  a75 := Try.isAgg166
  z75 := Try.sizeOf166
  v75 := Try.zeroValue166
  t127 := Try.underlying190
  a127 := Try.isAgg190
  z127 := Try.sizeOf190
  v127 := Try.zeroValue190
  t164 := Try.underlying200
  a164 := Try.isAgg200
  z164 := Try.sizeOf200
  v164 := Try.zeroValue200
theorem layRepX : Builder.Extra Try.prog layRep_ren where
  sizeBuilder := by kernel_rfl
  liesBuilder := by kernel_rfl
  t5 := Try.underlying5
  a5 := Try.isAgg5
  z5 := Try.sizeOf5
  v5 := Try.zeroValue5
  infoByte := by kernel_rfl
  cellsByte := by kernel_rfl
  sizeByte := by kernel_rfl
  neB5 := by decide

theorem repeat0 (k : Nat) : Lib.repeatL [0] k = List.replicate k (0 : UInt8) := by
  induction k with
  | zero => rfl
  | succ k ih => rw [Lib.repeatL, ih, List.replicate_succ]; rfl
theorem Repeat_zero (k : Nat) (hk : k ≤ 1000) (w : World) : Calls Try.prog 71 #[.string ⟨#[0]⟩, .int .i64 (k : Int)] w (Ret (str (List.replicate k 0)) w) := by
  refine (Any.strings_Repeat layRep layRepX ⟨#[0]⟩ k w (by omega) (by show 1 * k ≤ _; omega)).mono fun e w' ⟨he, hb⟩ => ⟨?_, Mod.of_below hb⟩
  rw [he]
  show Ending.returned (.string ⟨(Lib.repeatL [0] k).toArray⟩) = _
  rw [repeat0]
end Go.Proofs.Ytogjghmoankleaa


namespace Go.Proofs.Ytogjghmoankleaa
open Go.RowKit
set_option linter.unusedVariables false
set_option linter.unusedSimpArgs false

theorem chL_app {L : List T} {t : T} {i : Nat} (h : i < L.length) : chL (L ++ [t]) i = chL L i := by unfold chL; rw [List.getElem?_append_left h]
theorem chL_last (L : List T) (t : T) : chL (L ++ [t]) L.length = t := by unfold chL; simp
theorem listT_app (L : List T) (t : T) : listT (L ++ [t]) = T.mk 4 0 [] false (L.length + 1) (chL (L ++ [t])) := by
  unfold listT chL
  rw [List.length_append]; rfl
theorem last_ext (L : List T) (s t : T) : listT (L ++ [t]) = T.mk 4 0 [] false (L.length + 1) (fun i => if i = L.length then t else chL (L ++ [s]) i) := by
  rw [listT_app]
  congr 1
  funext i
  by_cases h : i = L.length
  · rw [if_pos h, h, chL_last]
  · rw [if_neg h]
    by_cases h2 : i < L.length
    · rw [chL_app h2, chL_app h2]
    · unfold chL
      rw [List.getElem?_eq_none (by simp; omega), List.getElem?_eq_none (by simp; omega)]
set_option maxRecDepth 20000 in
theorem psummed_0 (t : T) (A : Option Addr) (c : Nat) (w : World) : Calls Try.prog 73 #[.int .i64 0, itemV t A c] w (Ret (itemV t A c) w) := by
  have HB := hid (Blk.new w 38 (itemC t A c))
  go_enter Try.func73, Try.ntmps73
  go_wp2_with fail
  refine bodyPost_ret (v := itemV t A c) (by simp [results, Try.results73, go_sem]) rfl (Ret.mk rfl (((Mod.refl _ _).alloc _).alloc _))
set_option maxRecDepth 20000 in
set_option maxHeartbeats 1600000 in
theorem psummed_any (L : List T) (Z : List UInt8) (kind : Nat) (k1 : 1 ≤ kind) (k2 : kind ≤ 2) (hn : L.length ≤ 20) (hok : (listT (L ++ [strT Z])).ok) (hsz : (listT (L ++ [strT Z])).size ≤ 100000) (hr : (listT (L ++ [strT Z])).right 8 = true) (hbl : (listT (L ++ [strT Z])).bytes.length < 1000000) (N : Nat) (A : Option Addr) (c : Nat) (w : World) (hN : N ≤ w.heap.size) (h : IsL w (fun b => N ≤ b) (listT (L ++ [strT Z])) A) :
    Calls Try.prog 73 #[.int .i64 (kind : Int), itemV (listT (L ++ [strT Z])) A c] w (fun e w' => ∃ A c, e = .returned (itemV (listT (L ++ [strT (Crc.sumL kind (listT (L ++ [strT Z])).bytes)])) A c) ∧ Ext w w' ∧ IsL w' (fun b => N ≤ b) (listT (L ++ [strT (Crc.sumL kind (listT (L ++ [strT Z])).bytes)])) A) := by
  have e1 : ((kind : Int) = 0) = False := by simp; omega
  have e2 : ((kind : Int) == 0) = false := by simp; omega
  have HI : Hid (IsL w (fun b => N ≤ b ∧ b < w.heap.size) (listT (L ++ [strT Z])) A) := IsL.weak (fun k hk hq => ⟨hq, hk⟩) _ h
  have KB : Hid (∀ A c W, IsL W (fun _ => True) (listT (L ++ [strT Z])) A → Calls Try.prog 51 #[itemV (listT (L ++ [strT Z])) A c] W (Ret (.tuple #[str (listT (L ++ [strT Z])).bytes, .int .i64 0]) W)) := fun A c W hW => by
    have := iBuild_any _ hok hsz A c W hW
    unfold buildV at this
    rwa [if_pos hr] at this
  have KS := hid (fun W => Sum_any kind k1 k2 (listT (L ++ [strT Z])).bytes hbl W)
  have HU := hid (last_ext L (strT Z) (strT (Crc.sumL kind (listT (L ++ [strT Z])).bytes)))
  rw [listT_app L (strT Z)] at KB KS HU HI ⊢
  have hK := CloneI_any (Q := fun b => N ≤ b ∧ b < w.heap.size) (kind := 4) (n := 0) (s := []) (op := false) (chL (L ++ [strT Z])) (L.length + 1) (by unfold Hid; omega) A c
  have KC := hid hK
  clear hK h hok hsz hr hbl
  generalize (T.mk 4 0 [] false (L.length + 1) (chL (L ++ [strT Z]))).bytes = B at *
  generalize listT (L ++ [strT (Crc.sumL kind B)]) = U at *
  generalize Crc.sumL kind B = S at *
  generalize chL (L ++ [strT Z]) = ch at *
  obtain ⟨n, hnn⟩ : ∃ n, n = L.length := ⟨_, rfl⟩
  rw [← hnn] at HI KB HU KC hn ⊢
  clear hnn
  have n0 : (0 : Int) ≤ (n : Int) := by omega
  have n1 : (n : Int) ≤ 20 := by omega
  have HN1 := hid hn
  have HNW := hid hN
  clear hn hN k1 k2
  have HE := hid (((Mod.refl [] w).alloc (.cells (itemC (T.mk 4 0 [] false (n + 1) ch) A c) 38)).alloc (.cells #[.int .i64 0, .int .u64 0, .string ⟨#[]⟩, .slice none 0 0, .bool false] 38))
  have HX := hid ((Blk.new w 38 (itemC (T.mk 4 0 [] false (n + 1) ch) A c)).alloc (.cells #[.int .i64 0, .int .u64 0, .string ⟨#[]⟩, .slice none 0 0, .bool false] 38))
  have HR : Hid (Blk ((w.alloc (.cells (itemC (T.mk 4 0 [] false (n + 1) ch) A c) 38)).alloc (.cells #[.int .i64 0, .int .u64 0, .string ⟨#[]⟩, .slice none 0 0, .bool false] 38)) (w.heap.size + 1) 38 (itemC (numT 0) none 0)) := Blk.newL _ _ _ (by simp)
  go_enter Try.func73, Try.ntmps73
  go_upto_region 3 with fail
  generalize hV : World.alloc _ _ = V
  rw [hV] at HE HX HR
  clear hV
  have HIV : Hid (∀ e : Later V, IsL e.x (fun b => N ≤ b ∧ b < w.heap.size) (T.mk 4 0 [] false (n + 1) ch) A) := fun e => HI.out.ext (HE.out.trans e.h)
  have q0 : ∀ e : Later V, e.x.cell? ⟨w.heap.size, 0, none⟩ = some (.int .i64 4) := HX.out.cellL 0 rfl
  have q1 : ∀ e : Later V, e.x.cell? ⟨w.heap.size, 1, none⟩ = some (.int .u64 0) := HX.out.cellL 1 rfl
  have q2 : ∀ e : Later V, e.x.cell? ⟨w.heap.size, 2, none⟩ = some (str []) := HX.out.cellL 2 rfl
  have q3 : ∀ e : Later V, e.x.cell? ⟨w.heap.size, 3, none⟩ = some (.slice A (n + 1) c) := HX.out.cellL 3 rfl
  have q4 : ∀ e : Later V, e.x.cell? ⟨w.heap.size, 4, none⟩ = some (.bool false) := HX.out.cellL 4 rfl
  obtain ⟨e, he⟩ := Later.self V
  rw [he]
  clear he
  have HVS : Hid (w.heap.size + 2 ≤ V.heap.size) := Nat.succ_le_of_lt HR.out.lt
  go_upto_region 5 with (first | (go_at_call 51; refine (Ret.later (KB.out _ _ _ (IsL.weak (fun _ _ _ => trivial) _ (HIV.out _)))).mono ?_; rintro x _ ⟨rfl, e, rfl⟩) | (go_at_call 69; refine (KC.out _ (HIV.out _)).mono ?_; rintro x w1 ⟨g, c', ac, rfl, hb1, hg1, hlt1, hown1, hk1⟩))
  have HO1 := hid hown1
  have HK1 := hid hk1
  have HG : Hid (w.heap.size + 2 ≤ g) := by have := HVS.out; have := e.h.size; unfold Hid; omega
  have HE1 := hid (HE.out.trans (e.h.trans hb1))
  have HR1 := hid (HR.out.ext (e.h.trans hb1))
  have HL1 := hid hlt1
  clear hb1 hg1 hlt1 hown1 hk1 HE HR HI q0 q1 q2 q3 q4 HIV HX HVS
  obtain ⟨x0, x1, x2, x3, x4⟩ := flatC_get ch ac (n + 1) n (by omega)
  have y0 : ∀ e : Later w1, e.x.cell? ⟨g, n * 5, none⟩ = _ := cellL (own_cells HO1.out x0)
  have y1 : ∀ e : Later w1, e.x.cell? ⟨g, n * 5 + 1, none⟩ = _ := cellL (own_cells HO1.out x1)
  have y2 : ∀ e : Later w1, e.x.cell? ⟨g, n * 5 + 2, none⟩ = _ := cellL (own_cells HO1.out x2)
  have y3 : ∀ e : Later w1, e.x.cell? ⟨g, n * 5 + 3, none⟩ = _ := cellL (own_cells HO1.out x3)
  have y4 : ∀ e : Later w1, e.x.cell? ⟨g, n * 5 + 4, none⟩ = _ := cellL (own_cells HO1.out x4)
  have HOE : Hid (∀ e : Later w1, e.x.ownsRow _ 38 5 (.slice (some ⟨g, 0, none⟩) (n + 1) c') (n + 1) (flatC ch ac (n + 1))) := fun e => ownsRow_mod HO1.out e.h (fun _ _ => by simp)
  have z : ∀ (e : Later w1) (j : Nat), e.x.frozen? ⟨g, j, none⟩ = false := fun e j => (HOE.out e).frozenAt j
  clear x0 x1 x2 x3 x4
  obtain ⟨e, he⟩ := Later.self w1
  rw [he]
  clear he
  go_upto_region 6 with (first | (go_at_call 117; refine (Ret.later (KS.out _)).mono ?_; rintro x _ ⟨rfl, e, rfl⟩) | (go_at_call 70; refine (Ret.later (StrV_any _ _)).mono ?_; rintro x _ ⟨rfl, e, rfl⟩))
  generalize hW : World.setCell _ _ _ = W2
  have HO2 : Hid (W2.ownsRow _ 38 5 (.slice (some ⟨g, 0, none⟩) (n + 1) c') (n + 1) (flatC (fun i => if i = n then strT S else ch i) (fun i => if i = n then ((none : Option Addr), 0) else ac i) (n + 1))) := hid (by rw [← hW]; exact own_last (n := n) (strT S) none 0 (HOE.out e))
  have HM : Hid (Mod [g] e.x W2) := hid (by rw [← hW]; exact (((((Mod.refl [g] e.x).setCell (.inl (by simp)) _).setCell (.inl (by simp)) _).setCell (.inl (by simp)) _).setCell (.inl (by simp)) _).setCell (.inl (by simp)) _)
  clear hW y0 y1 y2 y3 y4 z
  have HE2 : Hid (Ext w W2) := (((HE1.out.trans e.h).of_ext).trans HM.out).new (fun b hb => .inr (by rw [List.mem_singleton] at hb; subst hb; have := HG.out; omega))
  have HR2 : Hid (Blk W2 (w.heap.size + 1) 38 (itemC (numT 0) none 0)) := (HR1.out.later e).mod HM.out (by have := HG.out; simp; omega)
  have HK2 : Hid (∀ i, i < n + 1 → IsL W2 (fun b => N ≤ b ∧ b < w.heap.size) ((fun i => if i = n then strT S else ch i) i) ((fun i => if i = n then ((none : Option Addr), 0) else ac i) i).1) := fun i hi => by
    by_cases h : i = n
    · subst h; simp only [if_true]; exact str_IsL
    · simp only [if_neg h]
      exact (IsL.mod HM.out (fun b hb _ hs => by rw [List.mem_singleton] at hs; subst hs; have := hb.2; have := HG.out; omega) _ ((HK1.out i hi).ext e.h))
  have HL2 : Hid (g < W2.heap.size) := by have := HL1.out; have := e.h.size; have := HM.out.size; unfold Hid; omega
  obtain ⟨e, he⟩ := Later.self W2
  rw [he]
  clear he
  go_wp2_with (go_at_call 74; refine (Ret.later (ListV_any _ _ _ _)).mono ?_; rintro x _ ⟨rfl, e, rfl⟩; obtain ⟨c0, c1, c2, c3, c4⟩ := cells5 (HR2.out.later e); have f0 := (HR2.out.later e).frozen 0; have f1 := (HR2.out.later e).frozen 1; have f2 := (HR2.out.later e).frozen 2; have f3 := (HR2.out.later e).frozen 3; have f4 := (HR2.out.later e).frozen 4)
  obtain ⟨d0, d1, d2, d3, d4⟩ := cells5 (set5_blk (t := T.mk 4 0 [] false (n + 1) (fun i => if i = n then strT S else ch i)) (A := some ⟨g, 0, none⟩) (c := c') (HR2.out.later e))
  clear c0 c1 c2 c3 c4 f0 f1 f2 f3 f4
  show bodyPost _ _ _ _ _ (set5 e.x (w.heap.size + 1) (T.mk 4 0 [] false (n + 1) (fun i => if i = n then strT S else ch i)) (some ⟨g, 0, none⟩) c')
  refine bodyPost_ret (v := itemV (T.mk 4 0 [] false (n + 1) (fun i => if i = n then strT S else ch i)) (some ⟨g, 0, none⟩) c') (by simp [results, Try.results73, go_sem, d0, d1, d2, d3, d4]) rfl ⟨some ⟨g, 0, none⟩, c', by rw [HU.out], set5_mod (HE2.out.trans e.h) (by omega), ?_⟩
  rw [HU.out]
  refine IsL.weak (fun _ _ h => h.1) _ (IsL.mod (Q := fun b => N ≤ b ∧ b ≠ w.heap.size + 1) set5_modb (fun b hb _ hs => by rw [List.mem_singleton] at hs; exact hb.2 hs) _ ?_)
  refine own_IsL (by have := HL2.out; have := e.h.size; omega) (by have := HG.out; have := HNW.out; exact ⟨by omega, by omega⟩) (ownsRow_mod HO2.out e.h (fun _ _ => by simp)) (fun i hi => IsL.weak (fun b _ hb => ⟨hb.1, by have := hb.2; omega⟩) _ ((HK2.out i hi).ext e.h))
end Go.Proofs.Ytogjghmoankleaa


namespace Go.Proofs.Ytogjghmoankleaa
open Go.RowKit
set_option linter.unusedVariables false
set_option linter.unusedSimpArgs false

theorem priL_last (p : PV) {k : Nat} (hk : k ≠ 0) (s : List UInt8) : priL p k s = ([numT 7, numT p.fl, numT k, eidT p.d, eidT p.s, eidT p.r, listT [numT p.t, numT p.q], numT p.l] ++ (if p.fl % 2 = 1 then [numT p.o, numT p.n] else [])) ++ [strT s] := by
  unfold priL; rw [if_neg hk, List.append_assoc]
/-- The sum; the whole bytes. -/
def priSum (p : PV) (k : Nat) : List UInt8 := if k = 0 then [] else Crc.sumL k (priB p k (List.replicate (2 * k) 0))
def PV.bytes (p : PV) : List UInt8 := priB p p.crc.toNat (priSum p p.crc.toNat)
def PV.tree (p : PV) : T := priT p p.crc.toNat (priSum p p.crc.toNat)
theorem priSum_length (p : PV) {k : Nat} (hk : k ≤ 2) : (priSum p k).length = 2 * k := by
  unfold priSum
  by_cases h : k = 0
  · rw [if_pos h, h]; rfl
  · rw [if_neg h]; exact Crc.sumL_length (by omega) hk _
theorem PV.tree_all {p : PV} (h : p.ranged = true) : p.tree.ok ∧ (∀ d, 4 ≤ d → p.tree.right d = true) ∧ p.tree.size ≤ 4000 ∧ p.tree.bytes = p.bytes := by
  have hr := PV.ranged_spec h
  have hk : p.crc.toNat ≤ 2 := by omega
  obtain ⟨a, b, c⟩ := priT_all h hk (sum := priSum p p.crc.toNat) (by rw [priSum_length p hk]; omega)
  exact ⟨a, b, c, priT_bytes _ _ _⟩
theorem PV.bytes_length {p : PV} (h : p.ranged = true) : p.bytes.length ≤ 40000 := by
  obtain ⟨_, _, c, d⟩ := PV.tree_all h
  rw [← d]
  have := T.bytes_le p.tree
  omega
theorem psum_any (p : PV) (h : p.ranged = true) (k : Nat) (hc : p.crc = (k : Int)) (N : Nat) (A : Option Addr) (c : Nat) (w : World) (hN : N ≤ w.heap.size) (hl : IsL w (fun b => N ≤ b) (priT p k (List.replicate (2 * k) 0)) A) :
    Calls Try.prog 73 #[.int .i64 (k : Int), itemV (priT p k (List.replicate (2 * k) 0)) A c] w (fun e w' => ∃ A c, e = .returned (itemV p.tree A c) ∧ Ext w w' ∧ IsL w' (fun b => N ≤ b) p.tree A) := by
  have hr := PV.ranged_spec h
  have hk : k ≤ 2 := by omega
  have ht : p.crc.toNat = k := by omega
  unfold PV.tree
  rw [ht]
  by_cases h0 : k = 0
  · subst h0
    have e : priT p 0 (priSum p 0) = priT p 0 (List.replicate (2 * 0) 0) := rfl
    rw [e]
    exact (psummed_0 _ A c w).mono fun x w' ⟨hx, hm⟩ => ⟨A, c, hx, hm, hl.ext hm⟩
  · obtain ⟨a, b, cc⟩ := priT_all h hk (sum := List.replicate (2 * k) 0) (by simp; omega)
    have hb : (priT p k (List.replicate (2 * k) 0)).bytes.length < 1000000 := by have := T.bytes_le (priT p k (List.replicate (2 * k) 0)); omega
    have hb2 : (priT p k (List.replicate (2 * k) 0)).bytes = priB p k (List.replicate (2 * k) 0) := priT_bytes _ _ _
    have hs : priSum p k = Crc.sumL k (priB p k (List.replicate (2 * k) 0)) := by unfold priSum; rw [if_neg h0]
    rw [hs, ← hb2]
    unfold priT at a b cc hb hl ⊢
    rw [priL_last p h0] at a b cc hb hl ⊢
    rw [priL_last p h0 (Crc.sumL _ _)]
    refine psummed_any _ _ k (by omega) hk ?_ a (by omega) (b 8 (by omega)) hb N A c w hN hl
    split <;> simp
set_option maxRecDepth 20000 in
set_option maxHeartbeats 800000 in
theorem cPriItem_bad (p : PV) (hnl : Hid (p.d.name.length < 4611686018427387904 ∧ p.s.name.length < 4611686018427387904 ∧ p.r.name.length < 4611686018427387904)) (hf : p.fl < 18446744073709551616) (hb : p.right ≠ 0) (w : World) : Calls Try.prog 36 #[.agg p.c] w (Ret (.tuple #[itemV (numT 0) none 0, .int .i64 p.right]) w) := by
  have KR := hid (fun W => cPriRight_any p hnl hf W)
  generalize p.right = r at *
  have r1 : (r == 0) = false := by simpa using hb
  have r2 : (r = 0) = False := by simpa using hb
  have r3 : (r != 0) = true := by simpa using hb
  have HE := hid (((Mod.refl [] w).alloc (.cells p.c 68)).alloc (.cells #[.int .i64 0, .int .u64 0, .string ⟨#[]⟩, .slice none 0 0, .bool false] 38))
  have HB := hid ((Blk.new w 68 p.c).alloc (.cells #[.int .i64 0, .int .u64 0, .string ⟨#[]⟩, .slice none 0 0, .bool false] 38))
  have HR : Hid (Blk ((w.alloc (.cells p.c 68)).alloc (.cells #[.int .i64 0, .int .u64 0, .string ⟨#[]⟩, .slice none 0 0, .bool false] 38)) (w.heap.size + 1) 38 (itemC (numT 0) none 0)) := Blk.newL _ _ _ (by simp)
  clear hb hf
  go_enter Try.func36, Try.ntmps36
  go_upto_region 1 with fail
  generalize (w.alloc (.cells p.c 68)).alloc (.cells #[.int .i64 0, .int .u64 0, .string ⟨#[]⟩, .slice none 0 0, .bool false] 38) = V at *
  have HBL : Hid (∀ e : Later V, Blk e.x w.heap.size 68 p.c) := fun e => HB.out.later e
  obtain ⟨e, he⟩ := Later.self V
  rw [he]
  clear he
  go_wp2_with (first | (refine wpList_row (by rfl) 68 _ rfl _ rfl (HBL.out _) Try.underlying68 rfl (by kernel_rfl) ?_) | (go_at_call 64; refine (Ret.later (KR.out _)).mono ?_; rintro x _ ⟨rfl, e, rfl⟩; obtain ⟨c0, c1, c2, c3, c4⟩ := cells5 (HR.out.later e); have f0 := (HR.out.later e).frozen 0; have f1 := (HR.out.later e).frozen 1; have f2 := (HR.out.later e).frozen 2; have f3 := (HR.out.later e).frozen 3; have f4 := (HR.out.later e).frozen 4))
  obtain ⟨d0, d1, d2, d3, d4⟩ := cells5 (set5_blk (t := numT 0) (A := none) (c := 0) (HR.out.later e))
  clear c0 c1 c2 c3 c4 f0 f1 f2 f3 f4
  show bodyPost _ _ _ _ _ (set5 e.x (w.heap.size + 1) (numT 0) none 0)
  refine bodyPost_ret (v := .tuple #[itemV (numT 0) none 0, .int .i64 r]) (by simp [results, Try.results36, go_sem, d0, d1, d2, d3, d4]) rfl (Ret.mk rfl (set5_mod (HE.out.trans e.h) (by omega)))
set_option maxRecDepth 20000 in
set_option maxHeartbeats 800000 in
theorem cPriItem_ok (p : PV) (hnl : Hid (p.d.name.length < 4611686018427387904 ∧ p.s.name.length < 4611686018427387904 ∧ p.r.name.length < 4611686018427387904)) (hf : p.fl < 18446744073709551616) (hb : p.right = 0) (w : World) : Calls Try.prog 36 #[.agg p.c] w (fun e w' => ∃ A c, e = .returned (.tuple #[itemV p.tree A c, .int .i64 0]) ∧ Ext w w' ∧ IsL w' (fun b => w.heap.size ≤ b) p.tree A) := by
  have KR := hid (fun W => cPriRight_any p hnl hf W)
  have hr := PV.right_ranged hb
  have hrs := PV.ranged_spec hr
  rw [hb] at KR
  obtain ⟨k, hc⟩ := Int.eq_ofNat_of_zero_le hrs.2.2.2.1
  have hk : k ≤ 2 := by omega
  have KP := hid (fun W => parts_any p k hc hk hr (List.replicate (2 * k) 0) W)
  have KZ : Hid (∀ W, Calls Try.prog 76 #[.int .i64 p.crc] W (Ret (.int .i64 (2 * (k : Int))) W)) := fun W => by rw [hc]; have := Size_any k hk W; simpa using this
  have KT : Hid (∀ W, Calls Try.prog 71 #[.string ⟨#[0]⟩, .int .i64 (2 * (k : Int))] W (Ret (str (List.replicate (2 * k) 0)) W)) := fun W => by have := Repeat_zero (2 * k) (by omega) W; simpa using this
  have KS : Hid (∀ N A c W, N ≤ W.heap.size → IsL W (fun b => N ≤ b) (priT p k (List.replicate (2 * k) 0)) A → Calls Try.prog 73 #[.int .i64 p.crc, itemV (priT p k (List.replicate (2 * k) 0)) A c] W (fun e w' => ∃ A c, e = .returned (itemV p.tree A c) ∧ Ext W w' ∧ IsL w' (fun b => N ≤ b) p.tree A)) := fun N A c W h1 h2 => by rw [hc]; exact psum_any p hr k hc N A c W h1 h2
  generalize List.replicate (2 * k) (0 : UInt8) = Z at *
  generalize priT p k Z = Y at *
  have k0 : (0 : Int) ≤ (k : Int) := by omega
  have k1 : (k : Int) ≤ 2 := by omega
  have HC := hid hc
  have HE := hid (((Mod.refl [] w).alloc (.cells p.c 68)).alloc (.cells #[.int .i64 0, .int .u64 0, .string ⟨#[]⟩, .slice none 0 0, .bool false] 38))
  have HB := hid ((Blk.new w 68 p.c).alloc (.cells #[.int .i64 0, .int .u64 0, .string ⟨#[]⟩, .slice none 0 0, .bool false] 38))
  have HR : Hid (Blk ((w.alloc (.cells p.c 68)).alloc (.cells #[.int .i64 0, .int .u64 0, .string ⟨#[]⟩, .slice none 0 0, .bool false] 38)) (w.heap.size + 1) 38 (itemC (numT 0) none 0)) := Blk.newL _ _ _ (by simp)
  clear hf hb hr hrs hc hk
  go_enter Try.func36, Try.ntmps36
  go_upto_region 1 with fail
  generalize (w.alloc (.cells p.c 68)).alloc (.cells #[.int .i64 0, .int .u64 0, .string ⟨#[]⟩, .slice none 0 0, .bool false] 38) = V at *
  have HBL : Hid (∀ e : Later V, Blk e.x w.heap.size 68 p.c) := fun e => HB.out.later e
  have HVS : Hid (w.heap.size + 2 ≤ V.heap.size) := Nat.succ_le_of_lt HR.out.lt
  obtain ⟨e, he⟩ := Later.self V
  rw [he]
  clear he
  go_upto_region 4 with (first | (refine wpList_row (by rfl) 68 _ rfl _ rfl (HBL.out _) Try.underlying68 rfl (by kernel_rfl) ?_) | (go_at_call 64; refine (Ret.later (KR.out _)).mono ?_; rintro x _ ⟨rfl, e, rfl⟩))
  have HS : Hid (∀ W, Mod [w.heap.size + 1] V W → W.cell? ⟨w.heap.size, 1, none⟩ = some (.int .i64 p.crc)) := fun W hW => (HB.out.mod hW (by simp)).cell 1
  have HRow : Hid (∀ W, Mod [w.heap.size + 1] V W → Blk W w.heap.size 68 p.c) := fun W hW => HB.out.mod hW (by simp)
  have g2 : max ((2 : Int) * (k : Int)) 0 = (2 * k : Int) := by omega
  refine wp_region_held_drew (S := fun w' => Mod [w.heap.size + 1] V w' ∧ ∃ t A c, Blk w' (w.heap.size + 1) 38 (itemC t A c)) (by kernel_rfl) ⟨((Later.h e).of_ext).drew, _, _, _, (HR.out.later e).drew⟩ (fun hHeld => ?_)
  refine' wpAnyH_take (i := 0) (v := _) rfl (by kernel_rfl) (by kernel_rfl) (by kernel_rfl) (fun _ _ _ h => h) (Or.inl ⟨by rfl, ?hy⟩) hHeld ?rest
  case hy => (rintro W ⟨hM, _⟩; go_simp; (try with_reducible rfl))
  case rest =>
  (try simp only [Act.put, List.setIfInBounds_toArray, List.set_cons_zero, List.set_cons_succ])
  refine' wpAnyH_take (i := 1) (v := _) rfl (by kernel_rfl) (by kernel_rfl) (by kernel_rfl) (fun _ _ _ h => h) (Or.inl ⟨by rfl, ?hy⟩) hHeld ?rest
  case hy => (rintro W ⟨hM, _⟩; have x1 := HS.out W hM; go_simp; (try with_reducible rfl))
  case rest =>
  (try simp only [Act.put, List.setIfInBounds_toArray, List.set_cons_zero, List.set_cons_succ])
  refine wpAnyH_take (i := 2) rfl (by kernel_rfl) (by kernel_rfl) (by kernel_rfl) (fun _ _ _ h => h) (yieldsIf_row (by rfl) 68 _ rfl _ rfl (fun W h => HRow.out W h.1) Try.underlying68 rfl (by kernel_rfl)) hHeld ?_
  (try simp only [Act.put, List.setIfInBounds_toArray, List.set_cons_zero, List.set_cons_succ])
  refine' wpAnyH_take (i := 3) (v := _) rfl (by kernel_rfl) (by kernel_rfl) (by kernel_rfl) (fun _ _ _ h => h) (Or.inl ⟨by rfl, ?hy⟩) hHeld ?rest
  case hy => (rintro W ⟨hM, _⟩; go_simp; (try with_reducible rfl))
  case rest =>
  (try simp only [Act.put, List.setIfInBounds_toArray, List.set_cons_zero, List.set_cons_succ])
  refine' wpAnyH_take (i := 4) (v := _) rfl (by kernel_rfl) (by kernel_rfl) (by kernel_rfl) (fun _ _ _ h => h) (Or.inl ⟨by rfl, ?hy⟩) hHeld ?rest
  case hy => (rintro W ⟨hM, _⟩; have x1 := HS.out W hM; go_simp; (try with_reducible rfl))
  case rest =>
  (try simp only [Act.put, List.setIfInBounds_toArray, List.set_cons_zero, List.set_cons_succ])
  refine wpAnyH_ready (rs := [5]) (by kernel_rfl) (by simp) ?_
  refine AllReadyH.cons rfl (fun K hK => ?_) AllReadyH.nil
  go_simp
  (go_at_call 76; refine (KZ.out _).mono ?_; rintro x w1 ⟨rfl, hb3⟩)
  refine hK.out _ _ ⟨hHeld.1.trans (Mod.of_ext hb3), let ⟨t, A, c, hb⟩ := hHeld.2; ⟨t, A, c, hb.ext hb3⟩⟩ (fun hHeld => ?_)
  clear hK K
  (try simp only [Act.put, List.setIfInBounds_toArray, List.set_cons_zero, List.set_cons_succ])
  refine' wpAnyH_take (i := 6) (v := _) rfl (by kernel_rfl) (by kernel_rfl) (by kernel_rfl) (fun _ _ _ h => h) (Or.inl ⟨by rfl, ?hy⟩) hHeld ?rest
  case hy => (rintro W ⟨hM, _⟩; go_simp; (try with_reducible rfl))
  case rest =>
  (try simp only [Act.put, List.setIfInBounds_toArray, List.set_cons_zero, List.set_cons_succ])
  refine wpAnyH_ready (rs := [7]) (by kernel_rfl) (by simp) ?_
  refine AllReadyH.cons rfl (fun K hK => ?_) AllReadyH.nil
  go_simp
  (go_at_call 71; refine (KT.out _).mono ?_; rintro x w2 ⟨rfl, hb3⟩)
  refine hK.out _ _ ⟨hHeld.1.trans (Mod.of_ext hb3), let ⟨t, A, c, hb⟩ := hHeld.2; ⟨t, A, c, hb.ext hb3⟩⟩ (fun hHeld => ?_)
  clear hK K
  (try simp only [Act.put, List.setIfInBounds_toArray, List.set_cons_zero, List.set_cons_succ])
  refine wpAnyH_ready (rs := [8]) (by kernel_rfl) (by simp) ?_
  refine AllReadyH.cons rfl (fun K hK => ?_) AllReadyH.nil
  go_simp
  (go_at_call 75; refine (KP.out _).mono ?_; rintro x w3 ⟨A, c, rfl, hb3, hl3⟩; have HL3 := hid hl3; have HN3 : Hid (w.heap.size + 2 ≤ w2.heap.size) := Nat.le_trans HVS.out hHeld.1.size)
  refine hK.out _ _ ⟨hHeld.1.trans (Mod.of_ext hb3), let ⟨t, A, c, hb⟩ := hHeld.2; ⟨t, A, c, hb.ext hb3⟩⟩ (fun hHeld => ?_)
  clear hK K
  (try simp only [Act.put, List.setIfInBounds_toArray, List.set_cons_zero, List.set_cons_succ])
  refine wpAnyH_ready (rs := [9]) (by kernel_rfl) (by simp) ?_
  refine AllReadyH.cons rfl (fun K hK => ?_) AllReadyH.nil
  go_simp
  (go_at_call 73; refine (KS.out (w.heap.size + 2) _ _ _ (Nat.le_trans HN3.out hb3.size) (IsL.weak (fun b _ hb => Nat.le_trans HN3.out hb) _ HL3.out)).mono ?_; rintro x w4 ⟨A2, c2, rfl, hb4, hl4⟩; have HL4 := hid hl4)
  refine hK.out _ _ ⟨hHeld.1.trans (Mod.of_ext hb4), let ⟨t, A, c, hb⟩ := hHeld.2; ⟨t, A, c, hb.ext hb4⟩⟩ (fun hHeld => ?_)
  clear hK K
  (try simp only [Act.put, List.setIfInBounds_toArray, List.set_cons_zero, List.set_cons_succ])
  refine wpAnyH_ready (rs := [10]) (by kernel_rfl) (by simp) ?_
  refine AllReadyH.cons rfl (fun K hK => ?_) AllReadyH.nil
  obtain ⟨t0, A0, c0, hb0⟩ := hHeld.2
  obtain ⟨q0, q1, q2, q3, q4⟩ := cells5 hb0
  have f0 := hb0.frozen 0
  have f1 := hb0.frozen 1
  have f2 := hb0.frozen 2
  have f3 := hb0.frozen 3
  have f4 := hb0.frozen 4
  go_simp
  refine hK.out _ _ ⟨set5_modR hHeld.1, p.tree, A2, c2, set5_blk hb0⟩ (fun hHeld => ?_)
  clear hK K
  (try simp only [Act.put, List.setIfInBounds_toArray, List.set_cons_zero, List.set_cons_succ])
  refine wpAnyH_ready (rs := [11]) (by kernel_rfl) (by simp) ?_
  refine AllReadyH.cons rfl (fun K hK => ?_) AllReadyH.nil
  go_simp
  refine hK.out _ _ hHeld (fun hHeld => ?_)
  clear hK K
  (try simp only [Act.put, List.setIfInBounds_toArray, List.set_cons_zero, List.set_cons_succ])
  refine wpAnyH_done (by kernel_rfl) ?_ _
  go_wp2_with fail
  obtain ⟨d0, d1, d2, d3, d4⟩ := cells5 (set5_blk (t := p.tree) (A := A2) (c := c2) hb0)
  clear q0 q1 q2 q3 q4 f0 f1 f2 f3 f4
  show bodyPost _ _ _ _ _ (set5 w4 (w.heap.size + 1) p.tree A2 c2)
  refine bodyPost_ret (v := .tuple #[itemV p.tree A2 c2, .int .i64 0]) (by simp [results, Try.results36, go_sem, d0, d1, d2, d3, d4]) rfl ⟨A2, c2, rfl, (HE.out.of_ext.trans hHeld.1).new (fun b hb => .inr (by rw [List.mem_singleton] at hb; omega)), ?_⟩
  exact IsL.weak (fun _ _ h => by have : w.heap.size + 2 ≤ _ := h; omega) _ (IsL.mod (Q := fun b => w.heap.size + 2 ≤ b) set5_modb (fun b hb _ hs => by rw [List.mem_singleton] at hs; have : w.heap.size + 2 ≤ b := hb; omega) _ HL4.out)
set_option maxRecDepth 20000 in
theorem cPriBuild_bad (p : PV) (hnl : Hid (p.d.name.length < 4611686018427387904 ∧ p.s.name.length < 4611686018427387904 ∧ p.r.name.length < 4611686018427387904)) (hf : p.fl < 18446744073709551616) (hb : p.right ≠ 0) (w : World) : Calls Try.prog 33 #[.agg p.c] w (Ret (.tuple #[str [], .int .i64 p.right]) w) := by
  have KI := hid (fun W => cPriItem_bad p hnl hf hb W)
  generalize p.right = r at *
  have r1 : (r == 0) = false := by simpa using hb
  have r2 : (r = 0) = False := by simpa using hb
  have r3 : (r != 0) = true := by simpa using hb
  have HE := hid ((Mod.refl [] w).alloc (.cells p.c 68))
  have HB := hid (Blk.new w 68 p.c)
  clear hb hf
  go_enter Try.func33, Try.ntmps33
  go_upto_region 1 with fail
  generalize w.alloc (.cells p.c 68) = V at *
  have HBL : Hid (∀ e : Later V, Blk e.x w.heap.size 68 p.c) := fun e => HB.out.later e
  obtain ⟨e, he⟩ := Later.self V
  rw [he]
  clear he
  go_wp2_with (first | (refine wpList_row (by rfl) 68 _ rfl _ rfl (HBL.out _) Try.underlying68 rfl (by kernel_rfl) ?_) | (go_at_call 36; refine (Ret.later (KI.out _)).mono ?_; rintro x _ ⟨rfl, e, rfl⟩))
  go_ret2
  exact Ret.mk rfl (HE.out.trans ((Later.h e).alloc _))
set_option maxRecDepth 20000 in
theorem cPriBuild_ok (p : PV) (hnl : Hid (p.d.name.length < 4611686018427387904 ∧ p.s.name.length < 4611686018427387904 ∧ p.r.name.length < 4611686018427387904)) (hf : p.fl < 18446744073709551616) (hb : p.right = 0) (w : World) : Calls Try.prog 33 #[.agg p.c] w (Ret (.tuple #[str p.bytes, .int .i64 0]) w) := by
  have KI := hid (fun W => cPriItem_ok p hnl hf hb W)
  obtain ⟨t1, t2, t3, t4⟩ := PV.tree_all (PV.right_ranged hb)
  have KB : Hid (∀ A c W, IsL W (fun _ => True) p.tree A → Calls Try.prog 51 #[itemV p.tree A c] W (Ret (.tuple #[str p.bytes, .int .i64 0]) W)) := fun A c W hW => by
    have := iBuild_any p.tree t1 (by omega) A c W hW
    unfold buildV at this
    rwa [if_pos (t2 8 (by omega)), t4] at this
  generalize p.tree = Y at *
  generalize p.bytes = B at *
  have HE := hid ((Mod.refl [] w).alloc (.cells p.c 68))
  have HB := hid (Blk.new w 68 p.c)
  clear hb hf t1 t2 t3 t4
  go_enter Try.func33, Try.ntmps33
  go_upto_region 1 with fail
  generalize w.alloc (.cells p.c 68) = V at *
  have HBL : Hid (∀ e : Later V, Blk e.x w.heap.size 68 p.c) := fun e => HB.out.later e
  obtain ⟨e, he⟩ := Later.self V
  rw [he]
  clear he
  go_upto_region 2 with (first | (refine wpList_row (by rfl) 68 _ rfl _ rfl (HBL.out _) Try.underlying68 rfl (by kernel_rfl) ?_) | (go_at_call 36; refine (KI.out _).mono ?_; rintro x w1 ⟨A, c, rfl, hb1, hl1⟩))
  have HL1 := hid (IsL.ext (IsL.weak (R := fun _ => True) (fun _ _ _ => trivial) _ hl1) ((Mod.refl [] w1).alloc (.cells (itemC Y A c) 38)))
  have HX1 := hid (Blk.new w1 38 (itemC Y A c))
  have HE1 := hid ((HE.out.trans (e.h.trans hb1)).alloc (.cells (itemC Y A c) 38))
  obtain ⟨q0, q1, q2, q3, q4⟩ := cells5 HX1.out
  clear hb1 hl1
  go_wp2_with (go_at_call 51; refine (KB.out _ _ _ HL1.out).mono ?_; rintro x w2 ⟨rfl, hb2⟩)
  go_ret2
  exact Ret.mk rfl (HE1.out.trans hb2)
def PV.plain (p : PV) : PV := { p with crc := 0 }
theorem PV.plain_right {p : PV} (h : p.right = 0) : p.plain.right = 0 := by
  have hr := PV.right_ranged h
  have hr2 : p.plain.ranged = true := by
    have := PV.ranged_spec hr
    unfold PV.plain PV.ranged
    rw [this.1, this.2.1, this.2.2.1]
    simp; omega
  unfold PV.right at h ⊢
  rw [if_neg (by rw [hr]; decide)] at h
  rw [if_neg (by rw [hr2]; decide)]
  exact h
set_option maxRecDepth 20000 in
theorem cPriPlain_bad (p : PV) (hnl : Hid (p.d.name.length < 4611686018427387904 ∧ p.s.name.length < 4611686018427387904 ∧ p.r.name.length < 4611686018427387904)) (hf : p.fl < 18446744073709551616) (hb : p.right ≠ 0) (w : World) : Calls Try.prog 37 #[.agg p.c] w (Ret (.tuple #[str [], .int .i64 p.right]) w) := by
  have KR := hid (fun W => cPriRight_any p hnl hf W)
  generalize p.right = r at *
  have r1 : (r == 0) = false := by simpa using hb
  have r2 : (r = 0) = False := by simpa using hb
  have r3 : (r != 0) = true := by simpa using hb
  have HE := hid ((Mod.refl [] w).alloc (.cells p.c 68))
  have HB := hid (Blk.new w 68 p.c)
  clear hb hf
  go_enter Try.func37, Try.ntmps37
  go_upto_region 1 with fail
  generalize w.alloc (.cells p.c 68) = V at *
  have HBL : Hid (∀ e : Later V, Blk e.x w.heap.size 68 p.c) := fun e => HB.out.later e
  obtain ⟨e, he⟩ := Later.self V
  rw [he]
  clear he
  go_wp2_with (first | (refine wpList_row (by rfl) 68 _ rfl _ rfl (HBL.out _) Try.underlying68 rfl (by kernel_rfl) ?_) | (go_at_call 64; refine (Ret.later (KR.out _)).mono ?_; rintro x _ ⟨rfl, e, rfl⟩))
  go_ret2
  exact Ret.mk rfl (HE.out.trans e.h)
set_option maxRecDepth 20000 in
theorem cPriPlain_ok (p : PV) (hnl : Hid (p.d.name.length < 4611686018427387904 ∧ p.s.name.length < 4611686018427387904 ∧ p.r.name.length < 4611686018427387904)) (hf : p.fl < 18446744073709551616) (hb : p.right = 0) (w : World) : Calls Try.prog 37 #[.agg p.c] w (Ret (.tuple #[str p.plain.bytes, .int .i64 0]) w) := by
  have KR := hid (fun W => cPriRight_any p hnl hf W)
  have KB := hid (fun W => cPriBuild_ok p.plain hnl hf (PV.plain_right hb) W)
  rw [hb] at KR
  generalize p.plain.bytes = B at *
  have HE := hid ((Mod.refl [] w).alloc (.cells p.c 68))
  have HB := hid (Blk.new w 68 p.c)
  clear hb hf
  go_enter Try.func37, Try.ntmps37
  go_upto_region 1 with fail
  generalize w.alloc (.cells p.c 68) = V at *
  have HBL : Hid (∀ e : Later V, Blk e.x w.heap.size 68 p.c) := fun e => HB.out.later e
  have x1 : ∀ e : Later V, e.x.cell? ⟨w.heap.size, 1, none⟩ = some (.int .i64 p.crc) := HB.out.cellL 1 rfl
  have z1 : ∀ e : Later V, e.x.frozen? ⟨w.heap.size, 1, none⟩ = false := fun e => (HB.out.later e).frozen 1
  obtain ⟨e, he⟩ := Later.self V
  rw [he]
  clear he
  go_upto_region 5 with (first | (refine wpList_row (by rfl) 68 _ rfl _ rfl (HBL.out _) Try.underlying68 rfl (by kernel_rfl) ?_) | (go_at_call 64; refine (Ret.later (KR.out _)).mono ?_; rintro x _ ⟨rfl, e, rfl⟩))
  have HE2 : Hid (Ext w (e.x.setCell ⟨w.heap.size, 1, none⟩ (.int .i64 0))) := (HE.out.trans e.h).setCell (.inr (Nat.le_refl _)) _
  have HX2 : Hid (Blk (e.x.setCell ⟨w.heap.size, 1, none⟩ (.int .i64 0)) w.heap.size 68 p.plain.c) := (HB.out.later e).set_ 1 (.int .i64 0)
  generalize e.x.setCell ⟨w.heap.size, 1, none⟩ (.int .i64 0) = V2 at *
  go_wp2_with (first | (refine wpList_row (by rfl) 68 _ rfl _ rfl HX2.out Try.underlying68 rfl (by kernel_rfl) ?_) | (go_at_call 33; refine (KB.out _).mono ?_; rintro x w2 ⟨rfl, hb2⟩))
  go_ret2
  exact Ret.mk rfl (HE2.out.trans hb2)
end Go.Proofs.Ytogjghmoankleaa


namespace Go.Proofs.Ytogjghmoankleaa
open Go.RowKit
set_option linter.unusedVariables false
set_option linter.unusedSimpArgs false

theorem Crc.rv_succ : ∀ (i n : Nat), Crc.rv (i + 1) n = 2 * Crc.rv i n + n / 2 ^ i % 2
  | 0, n => by simp [Crc.rv]
  | i + 1, n => by
    have h := Crc.rv_succ i (n / 2)
    have e : n / 2 / 2 ^ i = n / 2 ^ (i + 1) := by rw [Nat.div_div_eq_div_mul, Nat.pow_succ, Nat.mul_comm]
    have e2 : 2 ^ (i + 1) * (n % 2) = 2 * (2 ^ i * (n % 2)) := by rw [Nat.pow_succ, Nat.mul_comm (2 ^ i) 2, Nat.mul_assoc]
    have e3 : Crc.rv (i + 1 + 1) n = 2 ^ (i + 1) * (n % 2) + Crc.rv (i + 1) (n / 2) := rfl
    have e4 : Crc.rv (i + 1) n = 2 ^ i * (n % 2) + Crc.rv i (n / 2) := rfl
    rw [e3, h, e4, e, e2]
    omega

def Crc.tab : List Nat := [28, 27, 26, 25, 23, 22, 20, 19, 18, 14, 13, 11, 10, 9, 8, 6, 0]
def Crc.dv (j : Nat) : Nat := ((Crc.tab.take j).map (2 ^ ·)).sum
theorem Crc.dv_succ : ∀ j : Fin 17, Crc.dv (j.val + 1) = Crc.dv j.val + 2 ^ (Crc.tab.getD j.val 0) ∧ Crc.dv j.val ≤ 517762881 ∧ Crc.tab.getD j.val 0 ≤ 28 := by decide
end Go.Proofs.Ytogjghmoankleaa


namespace Go.Proofs.Ytogjghmoankleaa
open Go.RowKit
set_option linter.unusedVariables false
set_option linter.unusedSimpArgs false

theorem Crc.stepR_lt {m d r b : Nat} (hd : d < 2 ^ m) : Crc.stepR (2 ^ m) d r b < 2 ^ m := by
  have := Nat.mod_lt (r * 2) (Nat.two_pow_pos m)
  unfold Crc.stepR
  split
  · exact this
  · exact Nat.xor_lt_two_pow this hd

theorem Crc.x_16 (l : List UInt8) : Crc.rv 16 (65535 - Crc.divR 65536 4129 65535 l) = Crc.x25 l := Crc.sums (m := 15) (p := 33800) (by decide) l
theorem Crc.r_16 {r c : Nat} : Crc.stepR 65536 4129 r c = if r / 32768 = c then r * 2 % 65536 else (r * 2 % 65536) ^^^ 4129 := rfl
theorem Crc.x_32 (l : List UInt8) : Crc.rv 32 (4294967295 - Crc.divR 4294967296 517762881 4294967295 l) = Crc.cast l := Crc.sums (m := 31) (p := 2197175160) (by decide) l
theorem Crc.r_32 {r c : Nat} : Crc.stepR 4294967296 517762881 r c = if r / 2147483648 = c then r * 2 % 4294967296 else (r * 2 % 4294967296) ^^^ 517762881 := rfl
end Go.Proofs.Ytogjghmoankleaa


namespace Go.Proofs.Ytogjghmoankleaa
open Go.RowKit
set_option linter.unusedVariables false
set_option linter.unusedSimpArgs false

/-- Its item: five parts, or six. -/
def blkT (ty num fl crc : Nat) (data sum : List UInt8) : T := T.mk 4 0 [] false (if crc = 0 then 5 else 6) fun i => if i = 0 then numT ty else if i = 1 then numT num else if i = 2 then numT fl else if i = 3 then numT crc else if i = 4 then strT data else if i = 5 then strT sum else T.nil

/-- The cells of its first five parts. -/
abbrev blk5 (ty num fl crc : Nat) (data : List UInt8) : Array Value := #[.int .i64 0, .int .u64 (ty : Int), str [], .slice none 0 0, .bool false, .int .i64 0, .int .u64 (num : Int), str [], .slice none 0 0, .bool false, .int .i64 0, .int .u64 (fl : Int), str [], .slice none 0 0, .bool false, .int .i64 0, .int .u64 (crc : Int), str [], .slice none 0 0, .bool false, .int .i64 2, .int .u64 0, str data, .slice none 0 0, .bool false]

theorem blk5_IsL {W : World} {Q : Nat → Prop} {g : Nat} {ty num fl : Nat} {data sum : List UInt8} (q : Q g) (h : Blk W g 38 (blk5 ty num fl 0 data)) : IsL W Q (blkT ty num fl 0 data sum) (some ⟨g, 0, none⟩) := fun _ => ⟨g, 0, rfl, h.lt, q, fun j hj => by
  have hj2 : j = 0 ∨ j = 1 ∨ j = 2 ∨ j = 3 ∨ j = 4 := by simp at hj; omega
  rcases hj2 with rfl | rfl | rfl | rfl | rfl
  · exact ⟨none, 0, ⟨h.cell 0, h.cell 1, h.cell 2, h.cell 3, h.cell 4⟩, fun h => absurd h (by decide)⟩
  · exact ⟨none, 0, ⟨h.cell 5, h.cell 6, h.cell 7, h.cell 8, h.cell 9⟩, fun h => absurd h (by decide)⟩
  · exact ⟨none, 0, ⟨h.cell 10, h.cell 11, h.cell 12, h.cell 13, h.cell 14⟩, fun h => absurd h (by decide)⟩
  · exact ⟨none, 0, ⟨h.cell 15, h.cell 16, h.cell 17, h.cell 18, h.cell 19⟩, fun h => absurd h (by decide)⟩
  · exact ⟨none, 0, ⟨h.cell 20, h.cell 21, h.cell 22, h.cell 23, h.cell 24⟩, fun h => absurd h (by decide)⟩⟩
theorem blk6_IsL {W : World} {Q : Nat → Prop} {base g c : Nat} {ty num fl crc : Nat} {data sum : List UInt8} (hc : ¬ crc = 0) (q : Q g) (hlt : g < W.heap.size) (h : W.ownsRow base 38 5 (.slice (some ⟨g, 0, none⟩) (5 + 1) c) (5 + 1) ((blk5 ty num fl crc data).toList ++ [Value.int .i64 (strT sum).kind, .int .u64 ((strT sum).n : Int), str (strT sum).s, .slice none (strT sum).k 0, .bool (strT sum).op])) : IsL W Q (blkT ty num fl crc data sum) (some ⟨g, 0, none⟩) := by
  unfold blkT
  rw [if_neg hc]
  refine fun _ => ⟨g, 0, rfl, hlt, q, fun j hj => ?_⟩
  have hj2 : j = 0 ∨ j = 1 ∨ j = 2 ∨ j = 3 ∨ j = 4 ∨ j = 5 := by omega
  rcases hj2 with rfl | rfl | rfl | rfl | rfl | rfl
  · exact ⟨none, 0, ⟨own_cells (j := 0) h rfl, own_cells (j := 1) h rfl, own_cells (j := 2) h rfl, own_cells (j := 3) h rfl, own_cells (j := 4) h rfl⟩, fun h => absurd h (by decide)⟩
  · exact ⟨none, 0, ⟨own_cells (j := 5) h rfl, own_cells (j := 6) h rfl, own_cells (j := 7) h rfl, own_cells (j := 8) h rfl, own_cells (j := 9) h rfl⟩, fun h => absurd h (by decide)⟩
  · exact ⟨none, 0, ⟨own_cells (j := 10) h rfl, own_cells (j := 11) h rfl, own_cells (j := 12) h rfl, own_cells (j := 13) h rfl, own_cells (j := 14) h rfl⟩, fun h => absurd h (by decide)⟩
  · exact ⟨none, 0, ⟨own_cells (j := 15) h rfl, own_cells (j := 16) h rfl, own_cells (j := 17) h rfl, own_cells (j := 18) h rfl, own_cells (j := 19) h rfl⟩, fun h => absurd h (by decide)⟩
  · exact ⟨none, 0, ⟨own_cells (j := 20) h rfl, own_cells (j := 21) h rfl, own_cells (j := 22) h rfl, own_cells (j := 23) h rfl, own_cells (j := 24) h rfl⟩, fun h => absurd h (by decide)⟩
  · exact ⟨none, 0, ⟨own_cells (j := 25) h rfl, own_cells (j := 26) h rfl, own_cells (j := 27) h rfl, own_cells (j := 28) h rfl, own_cells (j := 29) h rfl⟩, fun h => absurd h (by decide)⟩
end Go.Proofs.Ytogjghmoankleaa


namespace Go.Proofs.Ytogjghmoankleaa
open Go.RowKit
set_option linter.unusedVariables false
set_option linter.unusedSimpArgs false

theorem blkT_ok {ty num fl crc : Nat} {data sum : List UInt8} (h1 : ty ≤ 65535) (h2 : num ≤ 65535) (h3 : fl ≤ 255) (h4 : crc ≤ 2) (h5 : data.length ≤ 4000) (h6 : sum.length ≤ 4000) : (blkT ty num fl crc data sum).ok := by
  unfold blkT T.ok
  refine ⟨by omega, by omega, by simp, by split <;> omega, fun i hi => ?_⟩
  dsimp only
  split
  · exact num_ok (by omega)
  · split
    · exact num_ok (by omega)
    · split
      · exact num_ok (by omega)
      · split
        · exact num_ok (by omega)
        · split
          · exact str_ok (by omega)
          · split
            · exact str_ok (by omega)
            · have : i < 6 := by split at hi <;> omega
              omega

end Go.Proofs.Ytogjghmoankleaa


namespace Go.Proofs.Ytogjghmoankleaa
open Go.RowKit
set_option linter.unusedVariables false
set_option linter.unusedSimpArgs false

end Go.Proofs.Ytogjghmoankleaa


namespace Go.Proofs.Ytogjghmoankleaa
open Go.RowKit
set_option linter.unusedVariables false
set_option linter.unusedSimpArgs false

/-- An array of six, with another last part. -/
def lastT (ch : Nat → T) (s : List UInt8) : T := T.mk 4 0 [] false 6 fun i => if i = 5 then strT s else ch i
/-- Its bytes, as they are built. -/
def bldL (t : T) : List UInt8 := if t.right 8 then t.bytes else []
theorem buildV_bld (t : T) : ∃ E, buildV t = .tuple #[str (bldL t), .int .i64 E] := by
  unfold buildV bldL
  split
  · exact ⟨_, rfl⟩
  · exact ⟨_, rfl⟩
theorem lastK {W W' : World} {g : Nat} {Q : Nat → Prop} {ch : Nat → T} {ac : Nat → Option Addr × Nat} (hm : Mod [g] W W') (hq : ∀ b, Q b → b ≠ g) (h : ∀ i, i < 6 → IsL W Q (ch i) (ac i).1) (s : List UInt8) :
    ∀ i, i < 6 → IsL W' Q ((fun i => if i = 5 then strT s else ch i) i) ((fun i => if i = 5 then ((none : Option Addr), 0) else ac i) i).1 := by
  intro i hi
  by_cases e : i = 5
  · subst e; simp only [if_true]; exact fun h => absurd h (by decide)
  · simp only [if_neg e]
    exact IsL.mod hm (fun k hk _ hm => by rw [List.mem_singleton] at hm; exact hq k hk hm) _ (h i hi)

end Go.Proofs.Ytogjghmoankleaa


namespace Go.Proofs.Ytogjghmoankleaa
open Go.RowKit
set_option linter.unusedVariables false
set_option linter.unusedSimpArgs false

theorem blkT_last {ty num fl crc : Nat} {data s t : List UInt8} (hc : ¬ crc = 0) (ch : Nat → T) (hch : blkT ty num fl crc data s = T.mk 4 0 [] false 6 ch) : lastT ch t = blkT ty num fl crc data t := by
  unfold blkT at hch ⊢
  rw [if_neg hc] at hch ⊢
  have h := (T.mk.inj hch).2.2.2.2.2
  subst h
  unfold lastT
  congr 1
  funext i
  by_cases e : i = 5
  · subst e; simp
  · simp [e]
theorem blkT_right {ty num fl crc : Nat} {data s : List UInt8} (d : Nat) (hd : 2 ≤ d) : (blkT ty num fl crc data s).right d = true := by
  unfold blkT T.right
  rw [if_neg (by omega)]
  simp only [Bool.and_eq_true]
  constructor
  · split <;> rfl
  · rw [T.all_iff]
    intro i hi
    have hi6 : i < 6 := by split at hi <;> omega
    have hd1 : ¬ d - 1 < 1 := by omega
    have h6 : i = 0 ∨ i = 1 ∨ i = 2 ∨ i = 3 ∨ i = 4 ∨ i = 5 := by omega
    rcases h6 with rfl | rfl | rfl | rfl | rfl | rfl <;> simp [numT, strT, T.right, hd1, T.node, T.all]
theorem blkT_plain {ty num fl crc : Nat} {data s : List UInt8} : (blkT ty num fl crc data s).plain = true := by
  unfold blkT T.plain
  simp only [Bool.and_eq_true]
  constructor
  · split <;> rfl
  · rw [T.all_iff]
    intro i hi
    have hi6 : i < 6 := by split at hi <;> omega
    have h6 : i = 0 ∨ i = 1 ∨ i = 2 ∨ i = 3 ∨ i = 4 ∨ i = 5 := by omega
    rcases h6 with rfl | rfl | rfl | rfl | rfl | rfl <;> simp [numT, strT, T.plain, T.node, T.all]
theorem sum_le {f : Nat → Nat} {B : Nat} (h : ∀ i, f i ≤ B) : ∀ k, T.sum f k ≤ k * B
  | 0 => by simp [T.sum]
  | k + 1 => by have := sum_le h k; have := h k; rw [T.sum, Nat.succ_mul]; omega
theorem blkT_size {ty num fl crc : Nat} {data s : List UInt8} (h5 : data.length ≤ 4000) (h6 : s.length ≤ 4000) : (blkT ty num fl crc data s).size ≤ 100000 := by
  have hs : ∀ k, k ≤ 6 → ∀ f : Nat → Nat, (∀ i, f i ≤ 4001) → 1 + ([] : List UInt8).length + T.sum f k ≤ 100000 := fun k hk f hf => by
    have := sum_le hf k
    have : k * 4001 ≤ 6 * 4001 := Nat.mul_le_mul_right _ hk
    simp
    omega
  unfold blkT T.size
  refine hs _ (by split <;> omega) _ (fun i => ?_)
  dsimp only
  split
  · simp [numT, T.size, T.sum]
  · split
    · simp [numT, T.size, T.sum]
    · split
      · simp [numT, T.size, T.sum]
      · split
        · simp [numT, T.size, T.sum]
        · split
          · simp [strT, T.size, T.sum]; omega
          · split
            · simp [strT, T.size, T.sum]; omega
            · simp [T.size]

/-- A block's item's bytes. -/
def blkB (ty num fl crc : Nat) (data sum : List UInt8) : List UInt8 :=
  headL 4 (if crc = 0 then 5 else 6) ++ headL 0 ty ++ headL 0 num ++ headL 0 fl ++ headL 0 crc ++ (headL 2 data.length ++ data) ++ (if crc = 0 then [] else headL 2 sum.length ++ sum)
theorem blkT_bytes (ty num fl crc : Nat) (data sum : List UInt8) : (blkT ty num fl crc data sum).bytes = blkB ty num fl crc data sum := by
  unfold blkT blkB
  by_cases hc : crc = 0
  · subst hc
    simp [T.bytes, T.cat, numT, strT]
  · simp [hc, T.bytes, T.cat, numT, strT]
theorem blkB_length {ty num fl crc : Nat} {data sum : List UInt8} (h5 : data.length ≤ 4000) (h6 : sum.length ≤ 4000) : (blkB ty num fl crc data sum).length < 1000000 := by
  have a1 := headL_le 4 5
  have a0 := headL_le 4 6
  have a2 := headL_le 0 ty
  have a3 := headL_le 0 num
  have a4 := headL_le 0 fl
  have a5 := headL_le 0 crc
  have a6 := headL_le 2 data.length
  have a7 := headL_le 2 sum.length
  unfold blkB
  simp only [List.length_append]
  split <;> simp <;> omega
/-- The right sum of a block. -/
def sumB (ty num fl crc : Nat) (data : List UInt8) : List UInt8 := if crc = 0 then [] else Crc.sumL crc (blkB ty num fl crc data (List.replicate (2 * crc) 0))
def finT (ty num fl crc : Nat) (data : List UInt8) : T := blkT ty num fl crc data (sumB ty num fl crc data)
theorem sumB_length {ty num fl crc : Nat} {data : List UInt8} (hc : crc ≤ 2) : (sumB ty num fl crc data).length = 2 * crc := by
  unfold sumB
  split
  · subst crc; rfl
  · exact Crc.sumL_length (by omega) hc _
theorem finV {ty num fl crc : Nat} {data : List UInt8} : buildV (finT ty num fl crc data) = .tuple #[str (blkB ty num fl crc data (sumB ty num fl crc data)), .int .i64 0] := by
  unfold buildV finT
  rw [blkT_right 8 (by omega), if_pos rfl, blkT_bytes]
end Go.Proofs.Ytogjghmoankleaa


namespace Go.Proofs.Ytogjghmoankleaa
open Go.RowKit
set_option linter.unusedVariables false
set_option linter.unusedSimpArgs false

abbrev numsV (ty num fl crc : Nat) : Value := .agg #[.int .u64 (ty : Int), .int .u64 (num : Int), .int .u64 (fl : Int), .int .u64 (crc : Int)]
def num4 (ty num fl crc i : Nat) : Nat := if i = 0 then ty else if i = 1 then num else if i = 2 then fl else crc
def cat4 (ty num fl crc : Nat) (j : Nat) : List UInt8 := T.cat (fun i => headL 0 (num4 ty num fl crc i)) j
theorem cat4_le (ty num fl crc : Nat) : ∀ j, (cat4 ty num fl crc j).length ≤ 9 * j
  | 0 => by simp [cat4, T.cat]
  | j + 1 => by
    have h := cat4_le ty num fl crc j
    have := headL_le 0 (num4 ty num fl crc j)
    unfold cat4 at h ⊢
    rw [T.cat, List.length_append]
    omega
theorem rHead_n (m n : Nat) (hm : m ≤ 7) (hn : n < 18446744073709551616) (w : World) : Calls Try.prog 55 #[.int .i64 (m : Int), .int .u64 (n : Int)] w (Ret (str (headL m n)) w) := by
  simpa using rhead_in (m : Int) (n : Int) (by omega) (by omega) (by omega) (by omega) w

end Go.Proofs.Ytogjghmoankleaa


namespace Go.Proofs.Ytogjghmoankleaa
open Go.RowKit
set_option linter.unusedVariables false
set_option linter.unusedSimpArgs false

theorem infoByte8 : (Try.prog.info? 5).map (fun i => (i.zero, i.size, i.bytes)) = some (some (.int .u8 0), 1, 1) := by kernel_rfl
/-- Bytes made, as a string. -/
theorem conv_made (k c : Nat) (W : World) : (convert 73 9 (.slice (some ⟨W.heap.size, 0, none⟩) k c)).run Try.prog (W.alloc (.cells (madeCells #[.int .u8 0] k) 5)) = .ok (str (List.replicate k 0)) (W.alloc (.cells (madeCells #[.int .u8 0] k) 5)) := by
  have h := run_convert_bytes_back (P := Try.prog) (W.alloc (.cells (madeCells #[.int .u8 0] k) 5)) 73 9 5 ⟨W.heap.size, 0, none⟩ c (List.replicate k 0) Try.underlying73 Try.underlying5 Try.underlying9 (fun j hj => by
    rw [addr_add, Nat.zero_add, (Blk.new W 5 _).cell j]
    rw [List.length_replicate] at hj
    have := toList_madeCells_one (.int .u8 0) k
    rw [← Array.getElem?_toList, this, List.getElem?_replicate, if_pos hj]
    simp)
  rw [List.length_replicate] at h
  exact h
end Go.Proofs.Ytogjghmoankleaa


namespace Go.Proofs.Ytogjghmoankleaa
open Go.RowKit
set_option linter.unusedVariables false
set_option linter.unusedSimpArgs false

theorem rBytesE (E : EV) (hE : E.ok = true) (B : Option Addr) (W : World) (hW : IsL W (fun _ => True) (eidT E) B) : Calls Try.prog 57 #[itemV (eidT E) B 2] W (Ret (str (eidT E).bytes) W) := rBytesI_any _ (eidT_ok hE).1 (eidT_ok hE).2.2.1 (eidT_ok hE).2.2.2 B 2 W hW
theorem eidT_len {e : EV} (ho : e.ok = true) : (eidT e).bytes.length ≤ 10000 := by
  have a := T.bytes_le (eidT e)
  have b := eidT_small ho
  omega
end Go.Proofs.Ytogjghmoankleaa


namespace Go.Proofs.Ytogjghmoankleaa
open Go.RowKit
set_option linter.unusedVariables false
set_option linter.unusedSimpArgs false

theorem RV.bytes_eq (r : RV) : r.bytes = (if r.of.fr then [130, 1, 134, 130] else [130, 1, 132, 130]) ++ ([if r.here then 1 else 0] ++ ([if r.gone then 1 else 0] ++ (headL 0 r.reason.toNat ++ ((eidT r.of.src).bytes ++ ([130] ++ (headL 0 r.of.t ++ (headL 0 r.of.q ++ (if r.of.fr then headL 0 r.of.o ++ headL 0 r.of.n else []))))))))  := by
  have hb : ∀ b : Bool, headL 0 (if b then 1 else 0) = [if b then 1 else 0] := fun b => by cases b <;> rfl
  have n : ∀ n, (numT n).bytes = headL 0 n := fun n => rfl
  have h2 : headL 4 2 = [130] := rfl
  have h4 : headL 4 4 = [132] := rfl
  have h6 : headL 4 6 = [134] := rfl
  have h1 : headL 0 1 = [1] := rfl
  unfold RV.bytes RV.tree RV.body bitT
  cases hf : r.of.fr <;> simp [listT_bytes, n, hb, h2, h4, h6, h1]
set_option maxRecDepth 20000 in
set_option maxHeartbeats 4000000 in
theorem r25Bytes_any (r : RV) (hr : r.right = true) (w : World) : Calls Try.prog 28 #[repV r] w (Ret (str r.bytes) w) := by
  obtain ⟨_, h2, h3, h4⟩ := RV.right_spec hr
  obtain ⟨k1, k2, k3, k4, k5⟩ := IDV.named_spec h4
  have ho : r.of.o < 18446744073709551616 := by
    cases hf : r.of.fr with
    | true => rw [hf] at k5; simp at k5; omega
    | false => rw [hf] at k5; simp at k5; omega
  obtain ⟨rn, hrn⟩ := Int.eq_ofNat_of_zero_le h2
  have hrn : r.reason = (rn : Int) := hrn
  have trs : IntKind.u64.wrap (rn : Int) = (rn : Int) := IntWalk.u64_in _ (by omega)
  have htn : r.reason.toNat = rn := by omega
  have HX : Hid (r.bytes = _) := hid (RV.bytes_eq r)
  rw [htn] at HX
  have ID := hid (fun W => r10Item_ok r.of.src k1 W)
  have YD := hid (fun B W hW => rBytesE r.of.src k1 B W hW)
  have lD := eidT_len k1
  have KHB := hid (fun W => r25bit_any r.here W)
  have KGB := hid (fun W => r25bit_any r.gone W)
  have lHB : ([if r.here then 1 else 0] : List UInt8).length = 1 := rfl
  have lGB : ([if r.gone then 1 else 0] : List UInt8).length = 1 := rfl
  have KN : Hid (∀ W, Calls Try.prog 55 #[.int .i64 0, .int .u64 (rn : Int)] W (Ret (str (headL 0 rn)) W)) := fun W => rHead_n 0 rn (by omega) (by omega) W
  have KT : Hid (∀ W, Calls Try.prog 55 #[.int .i64 0, .int .u64 (r.of.t : Int)] W (Ret (str (headL 0 r.of.t)) W)) := fun W => rHead_n 0 r.of.t (by omega) (by omega) W
  have KQ : Hid (∀ W, Calls Try.prog 55 #[.int .i64 0, .int .u64 (r.of.q : Int)] W (Ret (str (headL 0 r.of.q)) W)) := fun W => rHead_n 0 r.of.q (by omega) (by omega) W
  have KO : Hid (∀ W, Calls Try.prog 55 #[.int .i64 0, .int .u64 (r.of.o : Int)] W (Ret (str (headL 0 r.of.o)) W)) := fun W => rHead_n 0 r.of.o (by omega) (by omega) W
  have KM : Hid (∀ W, Calls Try.prog 55 #[.int .i64 0, .int .u64 (r.of.n : Int)] W (Ret (str (headL 0 r.of.n)) W)) := fun W => rHead_n 0 r.of.n (by omega) (by omega) W
  have lN := headL_le 0 rn
  generalize headL 0 rn = BN at *
  have lT := headL_le 0 r.of.t
  generalize headL 0 r.of.t = BT at *
  have lQ := headL_le 0 r.of.q
  generalize headL 0 r.of.q = BQ at *
  have lO := headL_le 0 r.of.o
  generalize headL 0 r.of.o = BO at *
  have lM := headL_le 0 r.of.n
  generalize headL 0 r.of.n = BM at *
  generalize ([if r.here then 1 else 0] : List UInt8) = BH at *
  generalize ([if r.gone then 1 else 0] : List UInt8) = BG at *
  generalize (eidT r.of.src).bytes = BD at *
  have HE := hid ((Mod.refl [] w).alloc (.cells (repC r) 57))
  have HB0 := hid (Blk.new w 57 (repC r))
  have HRN := hid hrn
  clear hr h2 h3 h4 k1 k2 k3 k4 k5 ho hrn htn
  go_enter Try.func28, Try.ntmps28
  go_upto_region 2 with fail
  generalize w.alloc (.cells (repC r) 57) = V at *
  have b0L : ∀ e : Later V, e.x.cell? ⟨w.heap.size, 0, none⟩ = some (.bool r.here) := HB0.out.cellL 0 rfl
  have b1L : ∀ e : Later V, e.x.cell? ⟨w.heap.size, 1, none⟩ = some (.bool r.gone) := HB0.out.cellL 1 rfl
  have b2L : ∀ e : Later V, e.x.cell? ⟨w.heap.size, 2, none⟩ = some (.int .i64 (rn : Int)) := fun e => by rw [← HRN.out]; exact HB0.out.cellL 2 rfl e
  have b7L : ∀ e : Later V, e.x.cell? ⟨w.heap.size, 7, none⟩ = some (.int .u64 (r.of.t : Int)) := HB0.out.cellL 7 rfl
  have b8L : ∀ e : Later V, e.x.cell? ⟨w.heap.size, 8, none⟩ = some (.int .u64 (r.of.q : Int)) := HB0.out.cellL 8 rfl
  have b9L : ∀ e : Later V, e.x.cell? ⟨w.heap.size, 9, none⟩ = some (.bool r.of.fr) := HB0.out.cellL 9 rfl
  have b10L : ∀ e : Later V, e.x.cell? ⟨w.heap.size, 10, none⟩ = some (.int .u64 (r.of.o : Int)) := HB0.out.cellL 10 rfl
  have b11L : ∀ e : Later V, e.x.cell? ⟨w.heap.size, 11, none⟩ = some (.int .u64 (r.of.n : Int)) := HB0.out.cellL 11 rfl
  have HRE : Hid (∀ e : Later V, e.x.rangeAt w.heap.size 3 [.int .i64 r.of.src.sch, str r.of.src.name, .int .u64 (r.of.src.node : Int), .int .u64 (r.of.src.svc : Int)]) := HB0.out.range 3 4 (by rfl)
  clear HB0
  obtain ⟨e, he⟩ := Later.self V
  rw [he]
  clear he
  cases hf : r.of.fr with
  | false =>
    have HFR := hid hf
    rw [hf] at b9L
    clear hf
    go_upto_region 5 with fail
    generalize hW : e.x = W9
    have HV9 : Hid (Ext V W9) := hid (hW ▸ e.h)
    clear hW e
    have b0 : ∀ W, Ext W9 W → W.cell? ⟨w.heap.size, 0, none⟩ = some (.bool r.here) := fun W hW => b0L ⟨W, HV9.out.trans hW⟩
    have b1 : ∀ W, Ext W9 W → W.cell? ⟨w.heap.size, 1, none⟩ = some (.bool r.gone) := fun W hW => b1L ⟨W, HV9.out.trans hW⟩
    have b2 : ∀ W, Ext W9 W → W.cell? ⟨w.heap.size, 2, none⟩ = some (.int .i64 (rn : Int)) := fun W hW => b2L ⟨W, HV9.out.trans hW⟩
    have HSE : Hid (∀ W, Ext W9 W → W.rangeAt w.heap.size 3 [.int .i64 r.of.src.sch, str r.of.src.name, .int .u64 (r.of.src.node : Int), .int .u64 (r.of.src.svc : Int)]) := hid (fun W hW => HRE.out ⟨W, HV9.out.trans hW⟩)
    clear b0L b1L b2L b9L b10L b11L HRE
    refine wp_region_held_drew (S := fun w' => Ext W9 w') (by kernel_rfl) (Mod.refl _ _).drew (fun hHeld => ?_)
    generalize W9.drew = v0 at *
    refine' wpAnyH_take (i := 0) (v := _) rfl (by kernel_rfl) (by kernel_rfl) (by kernel_rfl) (fun _ _ _ h => h) (Or.inl ⟨by rfl, ?hy1⟩) hHeld ?rest1
    case hy1 => (rintro W hM; go_simp; (try with_reducible rfl))
    case rest1 =>
    (try simp only [Act.put, List.getElem_toArray, List.getElem_cons_zero, List.getElem_cons_succ, List.setIfInBounds_toArray, List.set_cons_zero, List.set_cons_succ])
    refine' wpAnyH_take (i := 1) (v := _) rfl (by kernel_rfl) (by kernel_rfl) (by kernel_rfl) (fun _ _ _ h => h) (Or.inl ⟨by rfl, ?hy2⟩) hHeld ?rest2
    case hy2 => (rintro W hM; go_simp; (try with_reducible rfl))
    case rest2 =>
    (try simp only [Act.put, List.getElem_toArray, List.getElem_cons_zero, List.getElem_cons_succ, List.setIfInBounds_toArray, List.set_cons_zero, List.set_cons_succ])
    refine' wpAnyH_take (i := 2) (v := _) rfl (by kernel_rfl) (by kernel_rfl) (by kernel_rfl) (fun _ _ _ h => h) (Or.inl ⟨by rfl, ?hy3⟩) hHeld ?rest3
    case hy3 => (rintro W hM; have q := b0 W hM; go_simp; (try with_reducible rfl))
    case rest3 =>
    (try simp only [Act.put, List.getElem_toArray, List.getElem_cons_zero, List.getElem_cons_succ, List.setIfInBounds_toArray, List.set_cons_zero, List.set_cons_succ])
    refine' wpAnyH_take (i := 5) (v := _) rfl (by kernel_rfl) (by kernel_rfl) (by kernel_rfl) (fun _ _ _ h => h) (Or.inl ⟨by rfl, ?hy4⟩) hHeld ?rest4
    case hy4 => (rintro W hM; go_simp; (try with_reducible rfl))
    case rest4 =>
    (try simp only [Act.put, List.getElem_toArray, List.getElem_cons_zero, List.getElem_cons_succ, List.setIfInBounds_toArray, List.set_cons_zero, List.set_cons_succ])
    refine' wpAnyH_take (i := 6) (v := _) rfl (by kernel_rfl) (by kernel_rfl) (by kernel_rfl) (fun _ _ _ h => h) (Or.inl ⟨by rfl, ?hy5⟩) hHeld ?rest5
    case hy5 => (rintro W hM; have q := b1 W hM; go_simp; (try with_reducible rfl))
    case rest5 =>
    (try simp only [Act.put, List.getElem_toArray, List.getElem_cons_zero, List.getElem_cons_succ, List.setIfInBounds_toArray, List.set_cons_zero, List.set_cons_succ])
    refine' wpAnyH_take (i := 9) (v := _) rfl (by kernel_rfl) (by kernel_rfl) (by kernel_rfl) (fun _ _ _ h => h) (Or.inl ⟨by rfl, ?hy6⟩) hHeld ?rest6
    case hy6 => (rintro W hM; go_simp; (try with_reducible rfl))
    case rest6 =>
    (try simp only [Act.put, List.getElem_toArray, List.getElem_cons_zero, List.getElem_cons_succ, List.setIfInBounds_toArray, List.set_cons_zero, List.set_cons_succ])
    refine' wpAnyH_take (i := 10) (v := _) rfl (by kernel_rfl) (by kernel_rfl) (by kernel_rfl) (fun _ _ _ h => h) (Or.inl ⟨by rfl, ?hy7⟩) hHeld ?rest7
    case hy7 => (rintro W hM; have q := b2 W hM; go_simp; (try with_reducible rfl))
    case rest7 =>
    (try simp only [Act.put, List.getElem_toArray, List.getElem_cons_zero, List.getElem_cons_succ, List.setIfInBounds_toArray, List.set_cons_zero, List.set_cons_succ])
    refine' wpAnyH_take (i := 11) (v := _) rfl (by kernel_rfl) (by kernel_rfl) (by kernel_rfl) (fun _ _ _ h => h) (Or.inl ⟨by rfl, ?hy8⟩) hHeld ?rest8
    case hy8 => (rintro W hM; go_simp; (try with_reducible rfl))
    case rest8 =>
    (try simp only [Act.put, List.getElem_toArray, List.getElem_cons_zero, List.getElem_cons_succ, List.setIfInBounds_toArray, List.set_cons_zero, List.set_cons_succ])
    refine' wpAnyH_take (i := 14) (v := _) rfl (by kernel_rfl) (by kernel_rfl) (by kernel_rfl) (fun _ _ _ h => h) (Or.inl ⟨by rfl, ?hy9⟩) hHeld ?rest9
    case hy9 => (rintro W hM; go_simp; (try with_reducible rfl))
    case rest9 =>
    (try simp only [Act.put, List.getElem_toArray, List.getElem_cons_zero, List.getElem_cons_succ, List.setIfInBounds_toArray, List.set_cons_zero, List.set_cons_succ])
    refine' wpAnyH_take (i := 15) (v := _) rfl (by kernel_rfl) (by kernel_rfl) (by kernel_rfl) (fun _ _ _ h => h) (Or.inl ⟨by rfl, ?hy10⟩) hHeld ?rest10
    case hy10 => (rintro W hM; go_simp; (try with_reducible rfl))
    case rest10 =>
    (try simp only [Act.put, List.getElem_toArray, List.getElem_cons_zero, List.getElem_cons_succ, List.setIfInBounds_toArray, List.set_cons_zero, List.set_cons_succ])
    (try rw [trs])
    refine wpAnyH_take (i := 16) rfl (by kernel_rfl) (by kernel_rfl) (by kernel_rfl) (fun _ _ _ h => h) (yieldsIf_mid (by rfl) 26 _ rfl w.heap.size 3 rfl _ (fun W hM => HSE.out W hM) Try.underlying26 rfl (by kernel_rfl)) hHeld ?_
    (try simp only [Act.put, List.getElem_toArray, List.getElem_cons_zero, List.getElem_cons_succ, List.setIfInBounds_toArray, List.set_cons_zero, List.set_cons_succ])
    refine wpAnyH_ready (rs := [3]) (by kernel_rfl) (by simp) ?_
    refine AllReadyH.cons rfl (fun K hK => ?_) AllReadyH.nil
    go_simp
    go_at_call 56
    refine (KHB.out _).mono ?_
    rintro x v1 ⟨rfl, hb⟩
    refine hK.out _ _ (hHeld.trans hb) (fun hHeld => ?_)
    clear hK K
    (try simp only [Act.put, List.getElem_toArray, List.getElem_cons_zero, List.getElem_cons_succ, List.setIfInBounds_toArray, List.set_cons_zero, List.set_cons_succ])
    refine wpAnyH_take (i := 4) rfl (by kernel_rfl) (by kernel_rfl) (by kernel_rfl) (fun _ _ _ h => h) (yieldsIf_cat (by rfl) _ _ _ _ rfl _ _ rfl rfl (by (try simp only [List.length_append, List.length_cons, List.length_nil]); omega)) hHeld ?_
    (try simp only [Act.put, List.getElem_toArray, List.getElem_cons_zero, List.getElem_cons_succ, List.setIfInBounds_toArray, List.set_cons_zero, List.set_cons_succ])
    refine wpAnyH_ready (rs := [7]) (by kernel_rfl) (by simp) ?_
    refine AllReadyH.cons rfl (fun K hK => ?_) AllReadyH.nil
    go_simp
    go_at_call 56
    refine (KGB.out _).mono ?_
    rintro x v2 ⟨rfl, hb⟩
    refine hK.out _ _ (hHeld.trans hb) (fun hHeld => ?_)
    clear hK K
    (try simp only [Act.put, List.getElem_toArray, List.getElem_cons_zero, List.getElem_cons_succ, List.setIfInBounds_toArray, List.set_cons_zero, List.set_cons_succ])
    refine wpAnyH_take (i := 8) rfl (by kernel_rfl) (by kernel_rfl) (by kernel_rfl) (fun _ _ _ h => h) (yieldsIf_cat (by rfl) _ _ _ _ rfl _ _ rfl rfl (by (try simp only [List.length_append, List.length_cons, List.length_nil]); omega)) hHeld ?_
    (try simp only [Act.put, List.getElem_toArray, List.getElem_cons_zero, List.getElem_cons_succ, List.setIfInBounds_toArray, List.set_cons_zero, List.set_cons_succ])
    refine wpAnyH_ready (rs := [12]) (by kernel_rfl) (by simp) ?_
    refine AllReadyH.cons rfl (fun K hK => ?_) AllReadyH.nil
    go_simp
    go_at_call 55
    refine (KN.out _).mono ?_
    rintro x v3 ⟨rfl, hb⟩
    refine hK.out _ _ (hHeld.trans hb) (fun hHeld => ?_)
    clear hK K
    (try simp only [Act.put, List.getElem_toArray, List.getElem_cons_zero, List.getElem_cons_succ, List.setIfInBounds_toArray, List.set_cons_zero, List.set_cons_succ])
    refine wpAnyH_take (i := 13) rfl (by kernel_rfl) (by kernel_rfl) (by kernel_rfl) (fun _ _ _ h => h) (yieldsIf_cat (by rfl) _ _ _ _ rfl _ _ rfl rfl (by (try simp only [List.length_append, List.length_cons, List.length_nil]); omega)) hHeld ?_
    (try simp only [Act.put, List.getElem_toArray, List.getElem_cons_zero, List.getElem_cons_succ, List.setIfInBounds_toArray, List.set_cons_zero, List.set_cons_succ])
    refine wpAnyH_ready (rs := [17]) (by kernel_rfl) (by simp) ?_
    refine AllReadyH.cons rfl (fun K hK => ?_) AllReadyH.nil
    go_simp
    go_at_call 58
    refine (ID.out _).mono ?_
    rintro x v4 ⟨A1, rfl, hb, hi1⟩
    have HI1 := hid (IsL.weak (R := fun _ => True) (fun _ _ _ => trivial) _ hi1)
    refine hK.out _ _ (hHeld.trans hb) (fun hHeld => ?_)
    clear hK K
    (try simp only [Act.put, List.getElem_toArray, List.getElem_cons_zero, List.getElem_cons_succ, List.setIfInBounds_toArray, List.set_cons_zero, List.set_cons_succ])
    refine wpAnyH_ready (rs := [18]) (by kernel_rfl) (by simp) ?_
    refine AllReadyH.cons rfl (fun K hK => ?_) AllReadyH.nil
    go_simp
    go_at_call 57
    refine (YD.out _ _ HI1.out).mono ?_
    rintro x v5 ⟨rfl, hb⟩
    refine hK.out _ _ (hHeld.trans hb) (fun hHeld => ?_)
    clear hK K
    (try simp only [Act.put, List.getElem_toArray, List.getElem_cons_zero, List.getElem_cons_succ, List.setIfInBounds_toArray, List.set_cons_zero, List.set_cons_succ])
    refine wpAnyH_take (i := 19) rfl (by kernel_rfl) (by kernel_rfl) (by kernel_rfl) (fun _ _ _ h => h) (yieldsIf_cat (by rfl) _ _ _ _ rfl _ _ rfl rfl (by (try simp only [List.length_append, List.length_cons, List.length_nil]); omega)) hHeld ?_
    (try simp only [Act.put, List.getElem_toArray, List.getElem_cons_zero, List.getElem_cons_succ, List.setIfInBounds_toArray, List.set_cons_zero, List.set_cons_succ])
    refine' wpAnyH_take (i := 20) (v := _) rfl (by kernel_rfl) (by kernel_rfl) (by kernel_rfl) (fun _ _ _ h => h) (Or.inl ⟨by rfl, ?hy11⟩) hHeld ?rest11
    case hy11 => (rintro W hM; go_simp; (try with_reducible rfl))
    case rest11 =>
    (try simp only [Act.put, List.getElem_toArray, List.getElem_cons_zero, List.getElem_cons_succ, List.setIfInBounds_toArray, List.set_cons_zero, List.set_cons_succ])
    refine wpAnyH_done (by kernel_rfl) ?_ _
    have HE5 : Hid (Ext V v5) := hid (HV9.out.trans hHeld)
    clear hHeld
    have y7 : ∀ e : Later v5, e.x.cell? ⟨w.heap.size, 7, none⟩ = some (.int .u64 (r.of.t : Int)) := fun e => b7L ⟨e.x, HE5.out.trans e.h⟩
    have y8 : ∀ e : Later v5, e.x.cell? ⟨w.heap.size, 8, none⟩ = some (.int .u64 (r.of.q : Int)) := fun e => b8L ⟨e.x, HE5.out.trans e.h⟩
    clear b7L b8L
    obtain ⟨e, he⟩ := Later.self v5
    go_upto_region 6 with fail
    rw [he]
    clear he
    refine wp_region_later (by kernel_rfl) (by kernel_rfl) ?_
    repeat (first | (refine q_cat (by rfl) _ _ _ _ rfl _ _ rfl rfl (by (try simp only [List.length_append, List.length_cons, List.length_nil]); omega) ?_; (try simp only [Act.put, List.setIfInBounds_toArray, List.set_cons_zero, List.set_cons_succ])) | go_big_quiet_step ((first | (go_at_call 55; first | (with_reducible exact Ret.later (KN.out _)) | (with_reducible exact Ret.later (KT.out _)) | (with_reducible exact Ret.later (KQ.out _)) | (with_reducible exact Ret.later (KO.out _)) | (with_reducible exact Ret.later (KM.out _))))))
    refine wpQuiet_nil ?_
    rintro _ ⟨e, rfl⟩
    go_wp2_with fail
    go_ret
    exact Ret.mk (by rw [HX.out, HFR.out]; simp [List.append_assoc]) (HE.out.trans (HE5.out.trans e.h))
  | true =>
    have HFR := hid hf
    rw [hf] at b9L
    clear hf
    go_upto_region 4 with fail
    refine wp_region_later (by kernel_rfl) (by kernel_rfl) ?_
    repeat (first | (refine q_cat (by rfl) _ _ _ _ rfl _ _ rfl rfl (by (try simp only [List.length_append, List.length_cons, List.length_nil]); omega) ?_; (try simp only [Act.put, List.setIfInBounds_toArray, List.set_cons_zero, List.set_cons_succ])) | go_big_quiet_step ((first | (go_at_call 55; first | (with_reducible exact Ret.later (KN.out _)) | (with_reducible exact Ret.later (KT.out _)) | (with_reducible exact Ret.later (KQ.out _)) | (with_reducible exact Ret.later (KO.out _)) | (with_reducible exact Ret.later (KM.out _))))))
    refine wpQuiet_nil ?_
    rintro _ ⟨e, rfl⟩
    go_upto_region 5 with fail
    generalize hW : e.x = W9
    have HV9 : Hid (Ext V W9) := hid (hW ▸ e.h)
    clear hW e
    have b0 : ∀ W, Ext W9 W → W.cell? ⟨w.heap.size, 0, none⟩ = some (.bool r.here) := fun W hW => b0L ⟨W, HV9.out.trans hW⟩
    have b1 : ∀ W, Ext W9 W → W.cell? ⟨w.heap.size, 1, none⟩ = some (.bool r.gone) := fun W hW => b1L ⟨W, HV9.out.trans hW⟩
    have b2 : ∀ W, Ext W9 W → W.cell? ⟨w.heap.size, 2, none⟩ = some (.int .i64 (rn : Int)) := fun W hW => b2L ⟨W, HV9.out.trans hW⟩
    have HSE : Hid (∀ W, Ext W9 W → W.rangeAt w.heap.size 3 [.int .i64 r.of.src.sch, str r.of.src.name, .int .u64 (r.of.src.node : Int), .int .u64 (r.of.src.svc : Int)]) := hid (fun W hW => HRE.out ⟨W, HV9.out.trans hW⟩)
    clear b0L b1L b2L b9L b10L b11L HRE
    refine wp_region_held_drew (S := fun w' => Ext W9 w') (by kernel_rfl) (Mod.refl _ _).drew (fun hHeld => ?_)
    generalize W9.drew = v0 at *
    refine' wpAnyH_take (i := 0) (v := _) rfl (by kernel_rfl) (by kernel_rfl) (by kernel_rfl) (fun _ _ _ h => h) (Or.inl ⟨by rfl, ?hy12⟩) hHeld ?rest12
    case hy12 => (rintro W hM; go_simp; (try with_reducible rfl))
    case rest12 =>
    (try simp only [Act.put, List.getElem_toArray, List.getElem_cons_zero, List.getElem_cons_succ, List.setIfInBounds_toArray, List.set_cons_zero, List.set_cons_succ])
    refine' wpAnyH_take (i := 1) (v := _) rfl (by kernel_rfl) (by kernel_rfl) (by kernel_rfl) (fun _ _ _ h => h) (Or.inl ⟨by rfl, ?hy13⟩) hHeld ?rest13
    case hy13 => (rintro W hM; go_simp; (try with_reducible rfl))
    case rest13 =>
    (try simp only [Act.put, List.getElem_toArray, List.getElem_cons_zero, List.getElem_cons_succ, List.setIfInBounds_toArray, List.set_cons_zero, List.set_cons_succ])
    refine' wpAnyH_take (i := 2) (v := _) rfl (by kernel_rfl) (by kernel_rfl) (by kernel_rfl) (fun _ _ _ h => h) (Or.inl ⟨by rfl, ?hy14⟩) hHeld ?rest14
    case hy14 => (rintro W hM; have q := b0 W hM; go_simp; (try with_reducible rfl))
    case rest14 =>
    (try simp only [Act.put, List.getElem_toArray, List.getElem_cons_zero, List.getElem_cons_succ, List.setIfInBounds_toArray, List.set_cons_zero, List.set_cons_succ])
    refine' wpAnyH_take (i := 5) (v := _) rfl (by kernel_rfl) (by kernel_rfl) (by kernel_rfl) (fun _ _ _ h => h) (Or.inl ⟨by rfl, ?hy15⟩) hHeld ?rest15
    case hy15 => (rintro W hM; go_simp; (try with_reducible rfl))
    case rest15 =>
    (try simp only [Act.put, List.getElem_toArray, List.getElem_cons_zero, List.getElem_cons_succ, List.setIfInBounds_toArray, List.set_cons_zero, List.set_cons_succ])
    refine' wpAnyH_take (i := 6) (v := _) rfl (by kernel_rfl) (by kernel_rfl) (by kernel_rfl) (fun _ _ _ h => h) (Or.inl ⟨by rfl, ?hy16⟩) hHeld ?rest16
    case hy16 => (rintro W hM; have q := b1 W hM; go_simp; (try with_reducible rfl))
    case rest16 =>
    (try simp only [Act.put, List.getElem_toArray, List.getElem_cons_zero, List.getElem_cons_succ, List.setIfInBounds_toArray, List.set_cons_zero, List.set_cons_succ])
    refine' wpAnyH_take (i := 9) (v := _) rfl (by kernel_rfl) (by kernel_rfl) (by kernel_rfl) (fun _ _ _ h => h) (Or.inl ⟨by rfl, ?hy17⟩) hHeld ?rest17
    case hy17 => (rintro W hM; go_simp; (try with_reducible rfl))
    case rest17 =>
    (try simp only [Act.put, List.getElem_toArray, List.getElem_cons_zero, List.getElem_cons_succ, List.setIfInBounds_toArray, List.set_cons_zero, List.set_cons_succ])
    refine' wpAnyH_take (i := 10) (v := _) rfl (by kernel_rfl) (by kernel_rfl) (by kernel_rfl) (fun _ _ _ h => h) (Or.inl ⟨by rfl, ?hy18⟩) hHeld ?rest18
    case hy18 => (rintro W hM; have q := b2 W hM; go_simp; (try with_reducible rfl))
    case rest18 =>
    (try simp only [Act.put, List.getElem_toArray, List.getElem_cons_zero, List.getElem_cons_succ, List.setIfInBounds_toArray, List.set_cons_zero, List.set_cons_succ])
    refine' wpAnyH_take (i := 11) (v := _) rfl (by kernel_rfl) (by kernel_rfl) (by kernel_rfl) (fun _ _ _ h => h) (Or.inl ⟨by rfl, ?hy19⟩) hHeld ?rest19
    case hy19 => (rintro W hM; go_simp; (try with_reducible rfl))
    case rest19 =>
    (try simp only [Act.put, List.getElem_toArray, List.getElem_cons_zero, List.getElem_cons_succ, List.setIfInBounds_toArray, List.set_cons_zero, List.set_cons_succ])
    refine' wpAnyH_take (i := 14) (v := _) rfl (by kernel_rfl) (by kernel_rfl) (by kernel_rfl) (fun _ _ _ h => h) (Or.inl ⟨by rfl, ?hy20⟩) hHeld ?rest20
    case hy20 => (rintro W hM; go_simp; (try with_reducible rfl))
    case rest20 =>
    (try simp only [Act.put, List.getElem_toArray, List.getElem_cons_zero, List.getElem_cons_succ, List.setIfInBounds_toArray, List.set_cons_zero, List.set_cons_succ])
    refine' wpAnyH_take (i := 15) (v := _) rfl (by kernel_rfl) (by kernel_rfl) (by kernel_rfl) (fun _ _ _ h => h) (Or.inl ⟨by rfl, ?hy21⟩) hHeld ?rest21
    case hy21 => (rintro W hM; go_simp; (try with_reducible rfl))
    case rest21 =>
    (try simp only [Act.put, List.getElem_toArray, List.getElem_cons_zero, List.getElem_cons_succ, List.setIfInBounds_toArray, List.set_cons_zero, List.set_cons_succ])
    (try rw [trs])
    refine wpAnyH_take (i := 16) rfl (by kernel_rfl) (by kernel_rfl) (by kernel_rfl) (fun _ _ _ h => h) (yieldsIf_mid (by rfl) 26 _ rfl w.heap.size 3 rfl _ (fun W hM => HSE.out W hM) Try.underlying26 rfl (by kernel_rfl)) hHeld ?_
    (try simp only [Act.put, List.getElem_toArray, List.getElem_cons_zero, List.getElem_cons_succ, List.setIfInBounds_toArray, List.set_cons_zero, List.set_cons_succ])
    refine wpAnyH_ready (rs := [3]) (by kernel_rfl) (by simp) ?_
    refine AllReadyH.cons rfl (fun K hK => ?_) AllReadyH.nil
    go_simp
    go_at_call 56
    refine (KHB.out _).mono ?_
    rintro x v1 ⟨rfl, hb⟩
    refine hK.out _ _ (hHeld.trans hb) (fun hHeld => ?_)
    clear hK K
    (try simp only [Act.put, List.getElem_toArray, List.getElem_cons_zero, List.getElem_cons_succ, List.setIfInBounds_toArray, List.set_cons_zero, List.set_cons_succ])
    refine wpAnyH_take (i := 4) rfl (by kernel_rfl) (by kernel_rfl) (by kernel_rfl) (fun _ _ _ h => h) (yieldsIf_cat (by rfl) _ _ _ _ rfl _ _ rfl rfl (by (try simp only [List.length_append, List.length_cons, List.length_nil]); omega)) hHeld ?_
    (try simp only [Act.put, List.getElem_toArray, List.getElem_cons_zero, List.getElem_cons_succ, List.setIfInBounds_toArray, List.set_cons_zero, List.set_cons_succ])
    refine wpAnyH_ready (rs := [7]) (by kernel_rfl) (by simp) ?_
    refine AllReadyH.cons rfl (fun K hK => ?_) AllReadyH.nil
    go_simp
    go_at_call 56
    refine (KGB.out _).mono ?_
    rintro x v2 ⟨rfl, hb⟩
    refine hK.out _ _ (hHeld.trans hb) (fun hHeld => ?_)
    clear hK K
    (try simp only [Act.put, List.getElem_toArray, List.getElem_cons_zero, List.getElem_cons_succ, List.setIfInBounds_toArray, List.set_cons_zero, List.set_cons_succ])
    refine wpAnyH_take (i := 8) rfl (by kernel_rfl) (by kernel_rfl) (by kernel_rfl) (fun _ _ _ h => h) (yieldsIf_cat (by rfl) _ _ _ _ rfl _ _ rfl rfl (by (try simp only [List.length_append, List.length_cons, List.length_nil]); omega)) hHeld ?_
    (try simp only [Act.put, List.getElem_toArray, List.getElem_cons_zero, List.getElem_cons_succ, List.setIfInBounds_toArray, List.set_cons_zero, List.set_cons_succ])
    refine wpAnyH_ready (rs := [12]) (by kernel_rfl) (by simp) ?_
    refine AllReadyH.cons rfl (fun K hK => ?_) AllReadyH.nil
    go_simp
    go_at_call 55
    refine (KN.out _).mono ?_
    rintro x v3 ⟨rfl, hb⟩
    refine hK.out _ _ (hHeld.trans hb) (fun hHeld => ?_)
    clear hK K
    (try simp only [Act.put, List.getElem_toArray, List.getElem_cons_zero, List.getElem_cons_succ, List.setIfInBounds_toArray, List.set_cons_zero, List.set_cons_succ])
    refine wpAnyH_take (i := 13) rfl (by kernel_rfl) (by kernel_rfl) (by kernel_rfl) (fun _ _ _ h => h) (yieldsIf_cat (by rfl) _ _ _ _ rfl _ _ rfl rfl (by (try simp only [List.length_append, List.length_cons, List.length_nil]); omega)) hHeld ?_
    (try simp only [Act.put, List.getElem_toArray, List.getElem_cons_zero, List.getElem_cons_succ, List.setIfInBounds_toArray, List.set_cons_zero, List.set_cons_succ])
    refine wpAnyH_ready (rs := [17]) (by kernel_rfl) (by simp) ?_
    refine AllReadyH.cons rfl (fun K hK => ?_) AllReadyH.nil
    go_simp
    go_at_call 58
    refine (ID.out _).mono ?_
    rintro x v4 ⟨A1, rfl, hb, hi1⟩
    have HI1 := hid (IsL.weak (R := fun _ => True) (fun _ _ _ => trivial) _ hi1)
    refine hK.out _ _ (hHeld.trans hb) (fun hHeld => ?_)
    clear hK K
    (try simp only [Act.put, List.getElem_toArray, List.getElem_cons_zero, List.getElem_cons_succ, List.setIfInBounds_toArray, List.set_cons_zero, List.set_cons_succ])
    refine wpAnyH_ready (rs := [18]) (by kernel_rfl) (by simp) ?_
    refine AllReadyH.cons rfl (fun K hK => ?_) AllReadyH.nil
    go_simp
    go_at_call 57
    refine (YD.out _ _ HI1.out).mono ?_
    rintro x v5 ⟨rfl, hb⟩
    refine hK.out _ _ (hHeld.trans hb) (fun hHeld => ?_)
    clear hK K
    (try simp only [Act.put, List.getElem_toArray, List.getElem_cons_zero, List.getElem_cons_succ, List.setIfInBounds_toArray, List.set_cons_zero, List.set_cons_succ])
    refine wpAnyH_take (i := 19) rfl (by kernel_rfl) (by kernel_rfl) (by kernel_rfl) (fun _ _ _ h => h) (yieldsIf_cat (by rfl) _ _ _ _ rfl _ _ rfl rfl (by (try simp only [List.length_append, List.length_cons, List.length_nil]); omega)) hHeld ?_
    (try simp only [Act.put, List.getElem_toArray, List.getElem_cons_zero, List.getElem_cons_succ, List.setIfInBounds_toArray, List.set_cons_zero, List.set_cons_succ])
    refine' wpAnyH_take (i := 20) (v := _) rfl (by kernel_rfl) (by kernel_rfl) (by kernel_rfl) (fun _ _ _ h => h) (Or.inl ⟨by rfl, ?hy22⟩) hHeld ?rest22
    case hy22 => (rintro W hM; go_simp; (try with_reducible rfl))
    case rest22 =>
    (try simp only [Act.put, List.getElem_toArray, List.getElem_cons_zero, List.getElem_cons_succ, List.setIfInBounds_toArray, List.set_cons_zero, List.set_cons_succ])
    refine wpAnyH_done (by kernel_rfl) ?_ _
    have HE5 : Hid (Ext V v5) := hid (HV9.out.trans hHeld)
    clear hHeld
    have y7 : ∀ e : Later v5, e.x.cell? ⟨w.heap.size, 7, none⟩ = some (.int .u64 (r.of.t : Int)) := fun e => b7L ⟨e.x, HE5.out.trans e.h⟩
    have y8 : ∀ e : Later v5, e.x.cell? ⟨w.heap.size, 8, none⟩ = some (.int .u64 (r.of.q : Int)) := fun e => b8L ⟨e.x, HE5.out.trans e.h⟩
    clear b7L b8L
    obtain ⟨e, he⟩ := Later.self v5
    go_upto_region 6 with fail
    rw [he]
    clear he
    refine wp_region_later (by kernel_rfl) (by kernel_rfl) ?_
    repeat (first | (refine q_cat (by rfl) _ _ _ _ rfl _ _ rfl rfl (by (try simp only [List.length_append, List.length_cons, List.length_nil]); omega) ?_; (try simp only [Act.put, List.setIfInBounds_toArray, List.set_cons_zero, List.set_cons_succ])) | go_big_quiet_step ((first | (go_at_call 55; first | (with_reducible exact Ret.later (KN.out _)) | (with_reducible exact Ret.later (KT.out _)) | (with_reducible exact Ret.later (KQ.out _)) | (with_reducible exact Ret.later (KO.out _)) | (with_reducible exact Ret.later (KM.out _))))))
    refine wpQuiet_nil ?_
    rintro _ ⟨e, rfl⟩
    go_wp2_with fail
    go_ret
    exact Ret.mk (by rw [HX.out, HFR.out]; simp [List.append_assoc]) (HE.out.trans (HE5.out.trans e.h))
end Go.Proofs.Ytogjghmoankleaa


namespace Go.Proofs.Ytogjghmoankleaa
open Go.RowKit
set_option linter.unusedVariables false
set_option linter.unusedSimpArgs false

theorem At5.rng {w : World} {b o : Nat} {t : T} {A : Option Addr} {c : Nat} (h : At5 w b o t A c) : w.rangeAt b o [.int .i64 t.kind, .int .u64 (t.n : Int), str t.s, .slice A t.k c, .bool t.op] := fun j v hj => by
  obtain ⟨h0, h1, h2, h3, h4⟩ := h
  match j with
  | 0 => simp at hj; subst hj; exact h0
  | 1 => simp at hj; subst hj; exact h1
  | 2 => simp at hj; subst hj; exact h2
  | 3 => simp at hj; subst hj; exact h3
  | 4 => simp at hj; subst hj; exact h4
  | j + 5 => simp at hj
/-- A part of an item; a zero one, where there is none. -/
def partT : T → Nat → T
  | T.nil, _ => numT 0
  | T.mk _ _ _ _ k ch, i => if i < k then ch i else numT 0
theorem partT_ok {t : T} (h : t.ok) (i : Nat) : (partT t i).ok := by
  cases t with
  | nil => exact num_ok (by decide)
  | mk kd n s op k ch =>
    unfold T.ok at h
    show (if i < k then ch i else numT 0).ok
    by_cases hi : i < k
    · rw [if_pos hi]; exact h.2.2.2.2 i hi
    · rw [if_neg hi]; exact num_ok (by decide)
set_option maxRecDepth 20000 in
set_option maxHeartbeats 1600000 in
theorem part_any (t : T) (i : Nat) (hi : i < 1000) (hk : t.k < 4611686018427387904) (Q : Nat → Prop) (A : Option Addr) (c : Nat) (w : World) (h : IsL w Q t A) : Calls Try.prog 91 #[itemV t A c, .int .i64 (i : Int)] w (fun e w' => ∃ A' c', e = .returned (itemV (partT t i) A' c') ∧ Ext w w' ∧ IsL w' Q (partT t i) A') := by
  cases t with
  | nil => exact absurd h (by simp [IsL])
  | mk kd n s op k ch =>
  have hk : k < 4611686018427387904 := hk
  have h := IsL.weak (R := fun b => Q b ∧ b < w.heap.size) (fun b hb h => ⟨h, hb⟩) _ h
  have HE := hid (((Mod.refl [] w).alloc (.cells (itemC (T.mk kd n s op k ch) A c) 38)).alloc (.cells #[.int .i64 0, .int .u64 0, .string ⟨#[]⟩, .slice none 0 0, .bool false] 38))
  have HB0 := hid ((Blk.new w 38 (itemC (T.mk kd n s op k ch) A c)).alloc (.cells #[.int .i64 0, .int .u64 0, .string ⟨#[]⟩, .slice none 0 0, .bool false] 38))
  have HB1 : Hid (Blk ((w.alloc (.cells (itemC (T.mk kd n s op k ch) A c) 38)).alloc (.cells #[.int .i64 0, .int .u64 0, .string ⟨#[]⟩, .slice none 0 0, .bool false] 38)) (w.heap.size + 1) 38 (itemC (numT 0) none 0)) := Blk.newL _ _ _ (by simp)
  have HL := hid (h.ext HE.out)
  clear h
  go_enter Try.func91, Try.ntmps91
  go_upto_region 1 with fail
  show Code.wp _ _ _ _ ((w.alloc (.cells (itemC (T.mk kd n s op k ch) A c) 38)).alloc (.cells #[.int .i64 0, .int .u64 0, .string ⟨#[]⟩, .slice none 0 0, .bool false] 38))
  generalize (w.alloc (.cells (itemC (T.mk kd n s op k ch) A c) 38)).alloc (.cells #[.int .i64 0, .int .u64 0, .string ⟨#[]⟩, .slice none 0 0, .bool false] 38) = V at *
  have z3 : ∀ e : Later V, e.x.cell? ⟨w.heap.size, 3, none⟩ = some (.slice A k c) := HB0.out.cellL 3 rfl
  have HBL : Hid (∀ e : Later V, Blk e.x (w.heap.size + 1) 38 (itemC (numT 0) none 0)) := hid (fun e => HB1.out.later e)
  obtain ⟨e, he⟩ := Later.self V
  rw [he]
  clear he
  obtain ⟨c0, c1, c2, c3, c4⟩ := cells5 (HBL.out e)
  have f0 := (HBL.out e).frozen 0
  have f1 := (HBL.out e).frozen 1
  have f2 := (HBL.out e).frozen 2
  have f3 := (HBL.out e).frozen 3
  have f4 := (HBL.out e).frozen 4
  by_cases hlt : i < k
  case neg =>
    have HP : Hid (partT (T.mk kd n s op k ch) i = numT 0) := hid (if_neg hlt)
    have ta : decide ((k : Int) ≤ (i : Int)) = true := decide_eq_true (by omega)
    have tb : ((k : Int) ≤ (i : Int)) = True := eq_true (by omega)
    have tc : (k ≤ i) = True := eq_true (by omega)
    clear hlt
    go_wp2_with fail
    clear c0 c1 c2 c3 c4 f0 f1 f2 f3 f4
    show bodyPost _ _ _ _ _ (set5 e.x (w.heap.size + 1) (numT 0) none 0)
    have HBF := hid (set5_blk (t := numT 0) (A := none) (c := 0) (HBL.out e))
    refine bodyPost_ret (results_cell rfl _ (by rfl) HBF.out Try.underlying38 rfl (by kernel_rfl)) rfl ⟨none, 0, by rw [HP.out], set5_mod (HE.out.trans e.h) (by omega), by rw [HP.out]; exact num_IsL⟩
  case pos =>
    have HP : Hid (partT (T.mk kd n s op k ch) i = ch i) := hid (if_pos hlt)
    have HH := HL.out
    unfold IsL at HH
    obtain ⟨b, o, rfl, hb, hq, hh⟩ := HH (by omega)
    obtain ⟨Ai, ci, h5, hl⟩ := hh i hlt
    have ta : decide ((k : Int) ≤ (i : Int)) = false := decide_eq_false (by omega)
    have tb : ((k : Int) ≤ (i : Int)) = False := eq_false (by omega)
    have tc : (k ≤ i) = False := eq_false (by omega)
    have td : ((i : Int) < (k : Int)) = True := eq_true (by omega)
    have te : (0 ≤ (i : Int)) = True := eq_true (by omega)
    obtain ⟨d0, d1, d2, d3, d4⟩ := h5.mod e.h hb (by simp)
    have HLK : Hid (IsL e.x (fun b => Q b ∧ b < w.heap.size) (ch i) Ai) := hid (hl.ext e.h)
    have HV1 : Hid (b < V.heap.size) := hid hb
    have HBX := hid (HBL.out e)
    have HLT := hid hlt
    have hI : (i : Int).toNat = i := by omega
    clear hh hl h5 HH hq hlt hb
    go_wp2_with fail
    clear d0 d1 d2 d3 d4 c0 c1 c2 c3 c4 f0 f1 f2 f3 f4
    show bodyPost _ _ _ _ _ (set5 e.x (w.heap.size + 1) (ch i) Ai ci)
    have HBF := hid (set5_blk (t := ch i) (A := Ai) (c := ci) HBX.out)
    refine bodyPost_ret (results_cell rfl _ (by rfl) HBF.out Try.underlying38 rfl (by kernel_rfl)) rfl ⟨Ai, ci, by rw [HP.out], set5_mod (HE.out.trans e.h) (by omega), ?_⟩
    rw [HP.out]
    exact IsL.weak (fun _ _ h => h.1) _ (IsL.mod (S := [w.heap.size + 1]) set5_modb (fun k hk _ => by have := hk.2; simp; omega) _ HLK.out)
end Go.Proofs.Ytogjghmoankleaa


namespace Go.Proofs.Ytogjghmoankleaa
open Go.RowKit
set_option linter.unusedVariables false
set_option linter.unusedSimpArgs false

def zeroE : EV := ⟨0, [], 0, 0⟩
def noneE : EV := ⟨1, [110, 111, 110, 101], 0, 0⟩
def readE (t : T) : EV :=
  if t.kind ≠ 4 ∨ t.k ≠ 2 ∨ (t.ch 0).kind ≠ 0 then zeroE
  else if (t.ch 0).n = 2 ∧ (t.ch 1).k = 2 then ⟨2, [], ((t.ch 1).ch 0).n, ((t.ch 1).ch 1).n⟩
  else if (t.ch 0).n = 1 ∧ (t.ch 1).kind = 3 then ⟨1, (t.ch 1).s, 0, 0⟩
  else noneE

set_option maxRecDepth 20000 in
set_option maxHeartbeats 800000 in
theorem eread_1 (t : T) (A : Option Addr) (c : Nat) (h : t.kind ≠ 4) (w : World) : Calls Try.prog 132 #[.agg (itemC t A c)] w (Ret zeroE.v w) := by
  have HE := hid (((Mod.refl [] w).alloc (.cells (itemC t A c) 38)).alloc (.cells #[.int .i64 0, .string ⟨#[]⟩, .int .u64 0, .int .u64 0] 26))
  have n1 : (t.kind == 4) = false := by simpa using h
  have n2 : (t.kind = 4) = False := by simpa using h
  have n3 : (t.kind != 4) = true := by simpa using h
  clear h
  go_enter Try.func132, Try.ntmps132
  go_wp2_with fail
  refine bodyPost_ret (v := .agg #[.int .i64 0, str [], .int .u64 0, .int .u64 0]) (by simp [results, Try.results132, go_sem]) rfl (Ret.mk rfl (by first | exact (((Mod.refl _ _).alloc _).alloc _) | exact ((((Mod.refl _ _).alloc _).alloc _).alloc _)))
set_option maxRecDepth 20000 in
set_option maxHeartbeats 800000 in
theorem eread_2 (n : Nat) (s : List UInt8) (op : Bool) (k : Nat) (A : Option Addr) (c : Nat) (h : k ≠ 2) (w : World) : Calls Try.prog 132 #[.agg #[.int .i64 4, .int .u64 (n : Int), str s, .slice A k c, .bool op]] w (Ret zeroE.v w) := by
  have HE := hid (((Mod.refl [] w).alloc (.cells #[.int .i64 4, .int .u64 (n : Int), str s, .slice A k c, .bool op] 38)).alloc (.cells #[.int .i64 0, .string ⟨#[]⟩, .int .u64 0, .int .u64 0] 26))
  have n1 : ((k : Int) == 2) = false := by simp; omega
  have n2 : ((k : Int) = 2) = False := by simp; omega
  have n3 : ((k : Int) != 2) = true := by simp; omega
  clear h
  go_enter Try.func132, Try.ntmps132
  go_wp2_with fail
  refine bodyPost_ret (v := .agg #[.int .i64 0, str [], .int .u64 0, .int .u64 0]) (by simp [results, Try.results132, go_sem]) rfl (Ret.mk rfl (by first | exact (((Mod.refl _ _).alloc _).alloc _) | exact ((((Mod.refl _ _).alloc _).alloc _).alloc _)))
set_option maxRecDepth 20000 in
set_option maxHeartbeats 800000 in
theorem eread_3 (n : Nat) (s : List UInt8) (op : Bool) (ch : Nat → T) (b o c : Nat) (A0 A1 : Option Addr) (c0 c1 : Nat) (h : (ch 0).kind ≠ 0) (w : World) (hb : b < w.heap.size) (h0 : At5 w b o (ch 0) A0 c0) (h1 : At5 w b (o + 5) (ch 1) A1 c1) : Calls Try.prog 132 #[.agg #[.int .i64 4, .int .u64 (n : Int), str s, .slice (some ⟨b, o, none⟩) 2 c, .bool op]] w (Ret zeroE.v w) := by
  have HE := hid (((Mod.refl [] w).alloc (.cells #[.int .i64 4, .int .u64 (n : Int), str s, .slice (some ⟨b, o, none⟩) 2 c, .bool op] 38)).alloc (.cells #[.int .i64 0, .string ⟨#[]⟩, .int .u64 0, .int .u64 0] 26))
  obtain ⟨x0, x1, x2, x3, x4⟩ := h0.mod HE.out hb (by simp)
  obtain ⟨y0, y1, y2, y3, y4⟩ := h1.mod HE.out hb (by simp)
  have n1 : ((ch 0).kind == 0) = false := by simpa using h
  have n2 : ((ch 0).kind = 0) = False := by simpa using h
  have n3 : ((ch 0).kind != 0) = true := by simpa using h
  clear h h0 h1
  go_enter Try.func132, Try.ntmps132
  go_wp2_with fail
  refine bodyPost_ret (v := .agg #[.int .i64 0, str [], .int .u64 0, .int .u64 0]) (by simp [results, Try.results132, go_sem]) rfl (Ret.mk rfl (by first | exact (((Mod.refl _ _).alloc _).alloc _) | exact ((((Mod.refl _ _).alloc _).alloc _).alloc _)))
set_option maxRecDepth 20000 in
set_option maxHeartbeats 800000 in
theorem eread_4 (n : Nat) (s : List UInt8) (op : Bool) (ch : Nat → T) (b o c : Nat) (A0 A1 : Option Addr) (c0 c1 : Nat) (b1 o1 : Nat) (A2 A3 : Option Addr) (c2 c3 : Nat) (hk0 : (ch 0).kind = 0) (hn0 : (ch 0).n = 2) (hk1 : (ch 1).k = 2) (hA : A1 = some ⟨b1, o1, none⟩) (w : World) (hb : b < w.heap.size) (h0 : At5 w b o (ch 0) A0 c0) (h1 : At5 w b (o + 5) (ch 1) A1 c1) (hb1 : b1 < w.heap.size) (h2 : At5 w b1 o1 ((ch 1).ch 0) A2 c2) (h3 : At5 w b1 (o1 + 5) ((ch 1).ch 1) A3 c3) : Calls Try.prog 132 #[.agg #[.int .i64 4, .int .u64 (n : Int), str s, .slice (some ⟨b, o, none⟩) 2 c, .bool op]] w (Ret (EV.v ⟨2, [], ((ch 1).ch 0).n, ((ch 1).ch 1).n⟩) w) := by
  have HE := hid (((Mod.refl [] w).alloc (.cells #[.int .i64 4, .int .u64 (n : Int), str s, .slice (some ⟨b, o, none⟩) 2 c, .bool op] 38)).alloc (.cells #[.int .i64 0, .string ⟨#[]⟩, .int .u64 0, .int .u64 0] 26))
  obtain ⟨x0, x1, x2, x3, x4⟩ := h0.mod HE.out hb (by simp)
  obtain ⟨y0, y1, y2, y3, y4⟩ := h1.mod HE.out hb (by simp)
  obtain ⟨_, z1, _⟩ := h2.mod HE.out hb1 (by simp)
  obtain ⟨_, v1, _⟩ := h3.mod HE.out hb1 (by simp)
  rw [hk0] at x0
  rw [hn0] at x1
  subst hA
  rw [hk1] at y3
  have HE3 := hid (HE.out.alloc (.cells #[.int .i64 (ch 1).kind, .int .u64 ((ch 1).n : Int), str (ch 1).s, .slice (some ⟨b1, o1, none⟩) 2 c1, .bool (ch 1).op] 38))
  have gx1 : (((w.alloc (.cells #[.int .i64 4, .int .u64 (n : Int), str s, .slice (some ⟨b, o, none⟩) 2 c, .bool op] 38)).alloc (.cells #[.int .i64 0, .string ⟨#[]⟩, .int .u64 0, .int .u64 0] 26)).alloc (.cells #[.int .i64 (ch 1).kind, .int .u64 ((ch 1).n : Int), str (ch 1).s, .slice (some ⟨b1, o1, none⟩) 2 c1, .bool (ch 1).op] 38)).cell? ⟨b, o + 1, none⟩ = some (.int .u64 2) := by have := (h0.mod HE3.out hb (by simp)).2.1; rw [hn0] at this; exact this
  have gz : (((w.alloc (.cells #[.int .i64 4, .int .u64 (n : Int), str s, .slice (some ⟨b, o, none⟩) 2 c, .bool op] 38)).alloc (.cells #[.int .i64 0, .string ⟨#[]⟩, .int .u64 0, .int .u64 0] 26)).alloc (.cells #[.int .i64 (ch 1).kind, .int .u64 ((ch 1).n : Int), str (ch 1).s, .slice (some ⟨b1, o1, none⟩) 2 c1, .bool (ch 1).op] 38)).cell? ⟨b1, o1 + 1, none⟩ = some (.int .u64 (((ch 1).ch 0).n : Int)) := (h2.mod HE3.out hb1 (by simp)).2.1
  have gv : (((w.alloc (.cells #[.int .i64 4, .int .u64 (n : Int), str s, .slice (some ⟨b, o, none⟩) 2 c, .bool op] 38)).alloc (.cells #[.int .i64 0, .string ⟨#[]⟩, .int .u64 0, .int .u64 0] 26)).alloc (.cells #[.int .i64 (ch 1).kind, .int .u64 ((ch 1).n : Int), str (ch 1).s, .slice (some ⟨b1, o1, none⟩) 2 c1, .bool (ch 1).op] 38)).cell? ⟨b1, o1 + 5 + 1, none⟩ = some (.int .u64 (((ch 1).ch 1).n : Int)) := (h3.mod HE3.out hb1 (by simp)).2.1
  clear hk0 hn0 hk1 h0 h1 h2 h3
  go_enter Try.func132, Try.ntmps132
  go_wp2_with fail
  go_region
  all_goals go_wp2_with fail
  all_goals refine bodyPost_ret (v := EV.v ⟨2, [], ((ch 1).ch 0).n, ((ch 1).ch 1).n⟩) (by simp [results, Try.results132, go_sem]) rfl (Ret.mk rfl ((((Mod.refl _ _).alloc _).alloc _).alloc _).drew)
set_option maxRecDepth 20000 in
set_option maxHeartbeats 800000 in
theorem eread_5 (n : Nat) (s : List UInt8) (op : Bool) (ch : Nat → T) (b o c : Nat) (A0 A1 : Option Addr) (c0 c1 : Nat) (hk0 : (ch 0).kind = 0) (hn0 : (ch 0).n = 1) (hk1 : (ch 1).kind = 3) (w : World) (hb : b < w.heap.size) (h0 : At5 w b o (ch 0) A0 c0) (h1 : At5 w b (o + 5) (ch 1) A1 c1) : Calls Try.prog 132 #[.agg #[.int .i64 4, .int .u64 (n : Int), str s, .slice (some ⟨b, o, none⟩) 2 c, .bool op]] w (Ret (EV.v ⟨1, (ch 1).s, 0, 0⟩) w) := by
  have HE := hid (((Mod.refl [] w).alloc (.cells #[.int .i64 4, .int .u64 (n : Int), str s, .slice (some ⟨b, o, none⟩) 2 c, .bool op] 38)).alloc (.cells #[.int .i64 0, .string ⟨#[]⟩, .int .u64 0, .int .u64 0] 26))
  obtain ⟨x0, x1, x2, x3, x4⟩ := h0.mod HE.out hb (by simp)
  obtain ⟨y0, y1, y2, y3, y4⟩ := h1.mod HE.out hb (by simp)
  rw [hk0] at x0
  rw [hn0] at x1
  rw [hk1] at y0
  have HE3 := hid (HE.out.alloc (.cells #[.int .i64 3, .int .u64 ((ch 1).n : Int), str (ch 1).s, .slice A1 (ch 1).k c1, .bool (ch 1).op] 38))
  have gx1 : (((w.alloc (.cells #[.int .i64 4, .int .u64 (n : Int), str s, .slice (some ⟨b, o, none⟩) 2 c, .bool op] 38)).alloc (.cells #[.int .i64 0, .string ⟨#[]⟩, .int .u64 0, .int .u64 0] 26)).alloc (.cells #[.int .i64 3, .int .u64 ((ch 1).n : Int), str (ch 1).s, .slice A1 (ch 1).k c1, .bool (ch 1).op] 38)).cell? ⟨b, o + 1, none⟩ = some (.int .u64 1) := by have := (h0.mod HE3.out hb (by simp)).2.1; rw [hn0] at this; exact this
  clear hk0 hn0 hk1 h0 h1
  go_enter Try.func132, Try.ntmps132
  go_wp2_with fail
  refine bodyPost_ret (v := EV.v ⟨1, (ch 1).s, 0, 0⟩) (by simp [results, Try.results132, go_sem]) rfl (Ret.mk rfl (by first | exact (((Mod.refl _ _).alloc _).alloc _) | exact ((((Mod.refl _ _).alloc _).alloc _).alloc _)))
set_option maxRecDepth 20000 in
set_option maxHeartbeats 800000 in
theorem eread_6 (n : Nat) (s : List UInt8) (op : Bool) (ch : Nat → T) (b o c : Nat) (A0 A1 : Option Addr) (c0 c1 : Nat) (hk0 : (ch 0).kind = 0) (hn0 : (ch 0).n = 2) (hk1 : (ch 1).k ≠ 2) (w : World) (hb : b < w.heap.size) (h0 : At5 w b o (ch 0) A0 c0) (h1 : At5 w b (o + 5) (ch 1) A1 c1) : Calls Try.prog 132 #[.agg #[.int .i64 4, .int .u64 (n : Int), str s, .slice (some ⟨b, o, none⟩) 2 c, .bool op]] w (Ret noneE.v w) := by
  have HE := hid (((Mod.refl [] w).alloc (.cells #[.int .i64 4, .int .u64 (n : Int), str s, .slice (some ⟨b, o, none⟩) 2 c, .bool op] 38)).alloc (.cells #[.int .i64 0, .string ⟨#[]⟩, .int .u64 0, .int .u64 0] 26))
  obtain ⟨x0, x1, x2, x3, x4⟩ := h0.mod HE.out hb (by simp)
  obtain ⟨y0, y1, y2, y3, y4⟩ := h1.mod HE.out hb (by simp)
  rw [hk0] at x0
  rw [hn0] at x1
  have n1 : (((ch 1).k : Int) == 2) = false := by simp; omega
  have n2 : (((ch 1).k : Int) = 2) = False := by simp; omega
  have HE3 := hid (HE.out.alloc (.cells #[.int .i64 (ch 1).kind, .int .u64 ((ch 1).n : Int), str (ch 1).s, .slice A1 (ch 1).k c1, .bool (ch 1).op] 38))
  have gx1 : (((w.alloc (.cells #[.int .i64 4, .int .u64 (n : Int), str s, .slice (some ⟨b, o, none⟩) 2 c, .bool op] 38)).alloc (.cells #[.int .i64 0, .string ⟨#[]⟩, .int .u64 0, .int .u64 0] 26)).alloc (.cells #[.int .i64 (ch 1).kind, .int .u64 ((ch 1).n : Int), str (ch 1).s, .slice A1 (ch 1).k c1, .bool (ch 1).op] 38)).cell? ⟨b, o + 1, none⟩ = some (.int .u64 2) := by have := (h0.mod HE3.out hb (by simp)).2.1; rw [hn0] at this; exact this
  clear hk0 hn0 hk1 h0 h1
  have HQ := hid ((Blk.new' (w.alloc (.cells #[.int .i64 4, .int .u64 (n : Int), str s, .slice (some ⟨b, o, none⟩) 2 c, .bool op] 38)) 26 #[.int .i64 0, .string ⟨#[]⟩, .int .u64 0, .int .u64 0] (N := w.heap.size + 1) (by simp)).alloc (.cells #[.int .i64 (ch 1).kind, .int .u64 ((ch 1).n : Int), str (ch 1).s, .slice A1 (ch 1).k c1, .bool (ch 1).op] 38))
  go_enter Try.func132, Try.ntmps132
  go_wp2_with fail
  refine (eidNone_any _).mono ?_
  rintro e w1 ⟨rfl, hb1⟩
  have HE1 : Hid (Ext w w1) := HE3.out.trans hb1
  have HQ1 := hid (HQ.out.ext hb1)
  clear hb1
  obtain ⟨r0, r1, r2, r3⟩ : w1.cell? ⟨w.heap.size + 1, 0, none⟩ = some (.int .i64 0) ∧ w1.cell? ⟨w.heap.size + 1, 1, none⟩ = some (str []) ∧ w1.cell? ⟨w.heap.size + 1, 2, none⟩ = some (.int .u64 0) ∧ w1.cell? ⟨w.heap.size + 1, 3, none⟩ = some (.int .u64 0) := ⟨HQ1.out.cell 0, HQ1.out.cell 1, HQ1.out.cell 2, HQ1.out.cell 3⟩
  have f0 := Blk.frozen HQ1.out 0
  have f1 := Blk.frozen HQ1.out 1
  have f2 := Blk.frozen HQ1.out 2
  have f3 := Blk.frozen HQ1.out 3
  go_wp2_with fail
  have B4 := (((HQ1.out.set_ 0 (.int .i64 1)).set_ 1 (str [110, 111, 110, 101])).set_ 2 (.int .u64 0)).set_ 3 (.int .u64 0)
  obtain ⟨d0, d1, d2, d3⟩ := And.intro (B4.cell 0) (And.intro (B4.cell 1) (And.intro (B4.cell 2) (B4.cell 3)))
  simp only [List.setIfInBounds_toArray, List.set_cons_zero, List.set_cons_succ, List.getElem?_toArray, List.getElem?_cons_zero, List.getElem?_cons_succ] at d0 d1 d2 d3
  clear r0 r1 r2 r3 f0 f1 f2 f3
  refine bodyPost_ret (v := .agg #[.int .i64 1, str [110, 111, 110, 101], .int .u64 0, .int .u64 0]) (by simp [results, Try.results132, go_sem, d0, d1, d2, d3]) rfl (Ret.mk rfl ((((HE1.out.setCell (.inr (by show w.heap.size ≤ w.heap.size + 1; omega)) _).setCell (.inr (by show w.heap.size ≤ w.heap.size + 1; omega)) _).setCell (.inr (by show w.heap.size ≤ w.heap.size + 1; omega)) _).setCell (.inr (by show w.heap.size ≤ w.heap.size + 1; omega)) _))
set_option maxRecDepth 20000 in
set_option maxHeartbeats 800000 in
theorem eread_7 (n : Nat) (s : List UInt8) (op : Bool) (ch : Nat → T) (b o c : Nat) (A0 A1 : Option Addr) (c0 c1 : Nat) (hk0 : (ch 0).kind = 0) (hn0 : (ch 0).n = 1) (hk1 : (ch 1).kind ≠ 3) (w : World) (hb : b < w.heap.size) (h0 : At5 w b o (ch 0) A0 c0) (h1 : At5 w b (o + 5) (ch 1) A1 c1) : Calls Try.prog 132 #[.agg #[.int .i64 4, .int .u64 (n : Int), str s, .slice (some ⟨b, o, none⟩) 2 c, .bool op]] w (Ret noneE.v w) := by
  have HE := hid (((Mod.refl [] w).alloc (.cells #[.int .i64 4, .int .u64 (n : Int), str s, .slice (some ⟨b, o, none⟩) 2 c, .bool op] 38)).alloc (.cells #[.int .i64 0, .string ⟨#[]⟩, .int .u64 0, .int .u64 0] 26))
  obtain ⟨x0, x1, x2, x3, x4⟩ := h0.mod HE.out hb (by simp)
  obtain ⟨y0, y1, y2, y3, y4⟩ := h1.mod HE.out hb (by simp)
  rw [hk0] at x0
  rw [hn0] at x1
  have n1 : ((ch 1).kind == 3) = false := by simpa using hk1
  have n2 : ((ch 1).kind = 3) = False := by simpa using hk1
  have HE3 := hid (HE.out.alloc (.cells #[.int .i64 (ch 1).kind, .int .u64 ((ch 1).n : Int), str (ch 1).s, .slice A1 (ch 1).k c1, .bool (ch 1).op] 38))
  have gx1 : (((w.alloc (.cells #[.int .i64 4, .int .u64 (n : Int), str s, .slice (some ⟨b, o, none⟩) 2 c, .bool op] 38)).alloc (.cells #[.int .i64 0, .string ⟨#[]⟩, .int .u64 0, .int .u64 0] 26)).alloc (.cells #[.int .i64 (ch 1).kind, .int .u64 ((ch 1).n : Int), str (ch 1).s, .slice A1 (ch 1).k c1, .bool (ch 1).op] 38)).cell? ⟨b, o + 1, none⟩ = some (.int .u64 1) := by have := (h0.mod HE3.out hb (by simp)).2.1; rw [hn0] at this; exact this
  clear hk0 hn0 hk1 h0 h1
  have HQ := hid ((Blk.new' (w.alloc (.cells #[.int .i64 4, .int .u64 (n : Int), str s, .slice (some ⟨b, o, none⟩) 2 c, .bool op] 38)) 26 #[.int .i64 0, .string ⟨#[]⟩, .int .u64 0, .int .u64 0] (N := w.heap.size + 1) (by simp)).alloc (.cells #[.int .i64 (ch 1).kind, .int .u64 ((ch 1).n : Int), str (ch 1).s, .slice A1 (ch 1).k c1, .bool (ch 1).op] 38))
  go_enter Try.func132, Try.ntmps132
  go_wp2_with fail
  refine (eidNone_any _).mono ?_
  rintro e w1 ⟨rfl, hb1⟩
  have HE1 : Hid (Ext w w1) := HE3.out.trans hb1
  have HQ1 := hid (HQ.out.ext hb1)
  clear hb1
  obtain ⟨r0, r1, r2, r3⟩ : w1.cell? ⟨w.heap.size + 1, 0, none⟩ = some (.int .i64 0) ∧ w1.cell? ⟨w.heap.size + 1, 1, none⟩ = some (str []) ∧ w1.cell? ⟨w.heap.size + 1, 2, none⟩ = some (.int .u64 0) ∧ w1.cell? ⟨w.heap.size + 1, 3, none⟩ = some (.int .u64 0) := ⟨HQ1.out.cell 0, HQ1.out.cell 1, HQ1.out.cell 2, HQ1.out.cell 3⟩
  have f0 := Blk.frozen HQ1.out 0
  have f1 := Blk.frozen HQ1.out 1
  have f2 := Blk.frozen HQ1.out 2
  have f3 := Blk.frozen HQ1.out 3
  go_wp2_with fail
  have B4 := (((HQ1.out.set_ 0 (.int .i64 1)).set_ 1 (str [110, 111, 110, 101])).set_ 2 (.int .u64 0)).set_ 3 (.int .u64 0)
  obtain ⟨d0, d1, d2, d3⟩ := And.intro (B4.cell 0) (And.intro (B4.cell 1) (And.intro (B4.cell 2) (B4.cell 3)))
  simp only [List.setIfInBounds_toArray, List.set_cons_zero, List.set_cons_succ, List.getElem?_toArray, List.getElem?_cons_zero, List.getElem?_cons_succ] at d0 d1 d2 d3
  clear r0 r1 r2 r3 f0 f1 f2 f3
  refine bodyPost_ret (v := .agg #[.int .i64 1, str [110, 111, 110, 101], .int .u64 0, .int .u64 0]) (by simp [results, Try.results132, go_sem, d0, d1, d2, d3]) rfl (Ret.mk rfl ((((HE1.out.setCell (.inr (by show w.heap.size ≤ w.heap.size + 1; omega)) _).setCell (.inr (by show w.heap.size ≤ w.heap.size + 1; omega)) _).setCell (.inr (by show w.heap.size ≤ w.heap.size + 1; omega)) _).setCell (.inr (by show w.heap.size ≤ w.heap.size + 1; omega)) _))
set_option maxRecDepth 20000 in
set_option maxHeartbeats 800000 in
theorem eread_8 (n : Nat) (s : List UInt8) (op : Bool) (ch : Nat → T) (b o c : Nat) (A0 A1 : Option Addr) (c0 c1 : Nat) (hk0 : (ch 0).kind = 0) (hn0 : (ch 0).n ≠ 1) (hn2 : (ch 0).n ≠ 2) (w : World) (hb : b < w.heap.size) (h0 : At5 w b o (ch 0) A0 c0) (h1 : At5 w b (o + 5) (ch 1) A1 c1) : Calls Try.prog 132 #[.agg #[.int .i64 4, .int .u64 (n : Int), str s, .slice (some ⟨b, o, none⟩) 2 c, .bool op]] w (Ret noneE.v w) := by
  have HE := hid (((Mod.refl [] w).alloc (.cells #[.int .i64 4, .int .u64 (n : Int), str s, .slice (some ⟨b, o, none⟩) 2 c, .bool op] 38)).alloc (.cells #[.int .i64 0, .string ⟨#[]⟩, .int .u64 0, .int .u64 0] 26))
  obtain ⟨x0, x1, x2, x3, x4⟩ := h0.mod HE.out hb (by simp)
  obtain ⟨y0, y1, y2, y3, y4⟩ := h1.mod HE.out hb (by simp)
  rw [hk0] at x0
  have n1 : (((ch 0).n : Int) == 1) = false := by simp; omega
  have n2 : (((ch 0).n : Int) = 1) = False := by simp; omega
  have n3 : (((ch 0).n : Int) == 2) = false := by simp; omega
  have n4 : (((ch 0).n : Int) = 2) = False := by simp; omega
  have HE3 := hid (HE.out.alloc (.cells #[.int .i64 (ch 1).kind, .int .u64 ((ch 1).n : Int), str (ch 1).s, .slice A1 (ch 1).k c1, .bool (ch 1).op] 38))
  have gx1 : (((w.alloc (.cells #[.int .i64 4, .int .u64 (n : Int), str s, .slice (some ⟨b, o, none⟩) 2 c, .bool op] 38)).alloc (.cells #[.int .i64 0, .string ⟨#[]⟩, .int .u64 0, .int .u64 0] 26)).alloc (.cells #[.int .i64 (ch 1).kind, .int .u64 ((ch 1).n : Int), str (ch 1).s, .slice A1 (ch 1).k c1, .bool (ch 1).op] 38)).cell? ⟨b, o + 1, none⟩ = some (.int .u64 ((ch 0).n : Int)) := by have := (h0.mod HE3.out hb (by simp)).2.1; exact this
  clear hk0 hn0 hn2 h0 h1
  have HQ := hid ((Blk.new' (w.alloc (.cells #[.int .i64 4, .int .u64 (n : Int), str s, .slice (some ⟨b, o, none⟩) 2 c, .bool op] 38)) 26 #[.int .i64 0, .string ⟨#[]⟩, .int .u64 0, .int .u64 0] (N := w.heap.size + 1) (by simp)).alloc (.cells #[.int .i64 (ch 1).kind, .int .u64 ((ch 1).n : Int), str (ch 1).s, .slice A1 (ch 1).k c1, .bool (ch 1).op] 38))
  go_enter Try.func132, Try.ntmps132
  go_wp2_with fail
  refine (eidNone_any _).mono ?_
  rintro e w1 ⟨rfl, hb1⟩
  have HE1 : Hid (Ext w w1) := HE3.out.trans hb1
  have HQ1 := hid (HQ.out.ext hb1)
  clear hb1
  obtain ⟨r0, r1, r2, r3⟩ : w1.cell? ⟨w.heap.size + 1, 0, none⟩ = some (.int .i64 0) ∧ w1.cell? ⟨w.heap.size + 1, 1, none⟩ = some (str []) ∧ w1.cell? ⟨w.heap.size + 1, 2, none⟩ = some (.int .u64 0) ∧ w1.cell? ⟨w.heap.size + 1, 3, none⟩ = some (.int .u64 0) := ⟨HQ1.out.cell 0, HQ1.out.cell 1, HQ1.out.cell 2, HQ1.out.cell 3⟩
  have f0 := Blk.frozen HQ1.out 0
  have f1 := Blk.frozen HQ1.out 1
  have f2 := Blk.frozen HQ1.out 2
  have f3 := Blk.frozen HQ1.out 3
  go_wp2_with fail
  have B4 := (((HQ1.out.set_ 0 (.int .i64 1)).set_ 1 (str [110, 111, 110, 101])).set_ 2 (.int .u64 0)).set_ 3 (.int .u64 0)
  obtain ⟨d0, d1, d2, d3⟩ := And.intro (B4.cell 0) (And.intro (B4.cell 1) (And.intro (B4.cell 2) (B4.cell 3)))
  simp only [List.setIfInBounds_toArray, List.set_cons_zero, List.set_cons_succ, List.getElem?_toArray, List.getElem?_cons_zero, List.getElem?_cons_succ] at d0 d1 d2 d3
  clear r0 r1 r2 r3 f0 f1 f2 f3
  refine bodyPost_ret (v := .agg #[.int .i64 1, str [110, 111, 110, 101], .int .u64 0, .int .u64 0]) (by simp [results, Try.results132, go_sem, d0, d1, d2, d3]) rfl (Ret.mk rfl ((((HE1.out.setCell (.inr (by show w.heap.size ≤ w.heap.size + 1; omega)) _).setCell (.inr (by show w.heap.size ≤ w.heap.size + 1; omega)) _).setCell (.inr (by show w.heap.size ≤ w.heap.size + 1; omega)) _).setCell (.inr (by show w.heap.size ≤ w.heap.size + 1; omega)) _))
theorem eread_any (t : T) (ht : t ≠ T.nil) (A : Option Addr) (c : Nat) (w : World) (h : IsL w (fun _ => True) t A) : Calls Try.prog 132 #[itemV t A c] w (Ret (readE t).v w) := by
  by_cases h4 : t.kind = 4
  case neg =>
    have e : readE t = zeroE := by unfold readE; rw [if_pos (Or.inl h4)]
    rw [e]; exact eread_1 t A c h4 w
  obtain ⟨kind, n, s, op, k, ch, rfl⟩ : ∃ kind n s op k ch, t = T.mk kind n s op k ch := by cases t with | nil => exact absurd rfl ht | mk a b d e f g => exact ⟨a, b, d, e, f, g, rfl⟩
  have h4 : kind = 4 := h4
  subst h4
  by_cases hk : k = 2
  case neg =>
    have e : readE (T.mk 4 n s op k ch) = zeroE := by unfold readE; rw [if_pos (Or.inr (Or.inl (show (T.mk 4 n s op k ch).k ≠ 2 from hk)))]
    rw [e]; exact eread_2 n s op k A c hk w
  subst hk
  obtain ⟨b, o, ac, rfl, hb, _, hc⟩ := h.rows (by omega)
  obtain ⟨a0, i0⟩ := hc 0 (by omega)
  obtain ⟨a1, i1⟩ := hc 1 (by omega)
  have a0 : At5 w b o (ch 0) (ac 0).1 (ac 0).2 := by simpa using a0
  have a1 : At5 w b (o + 5) (ch 1) (ac 1).1 (ac 1).2 := by simpa using a1
  by_cases hk0 : (ch 0).kind = 0
  case neg =>
    have e : readE (T.mk 4 n s op 2 ch) = zeroE := by unfold readE; rw [if_pos (Or.inr (Or.inr (show ((T.mk 4 n s op 2 ch).ch 0).kind ≠ 0 from hk0)))]
    rw [e]; exact eread_3 n s op ch b o c _ _ _ _ hk0 w hb a0 a1
  have hz : ¬ ((T.mk 4 n s op 2 ch).kind ≠ 4 ∨ (T.mk 4 n s op 2 ch).k ≠ 2 ∨ ((T.mk 4 n s op 2 ch).ch 0).kind ≠ 0) := by
    rintro (h | h | h)
    · exact h rfl
    · exact h rfl
    · exact h hk0
  by_cases hn2 : (ch 0).n = 2
  · by_cases hk1 : (ch 1).k = 2
    · have e : readE (T.mk 4 n s op 2 ch) = ⟨2, [], ((ch 1).ch 0).n, ((ch 1).ch 1).n⟩ := by unfold readE; rw [if_neg hz, if_pos ⟨hn2, hk1⟩]; rfl
      rw [e]
      cases hc1 : ch 1 with
      | nil => rw [hc1] at hk1; cases hk1
      | mk k1 n1 s1 op1 kk ch1 =>
        rw [hc1] at i1 hk1
        have hkk : kk = 2 := hk1
        subst hkk
        obtain ⟨b1, o1, ac1, hA, hb1, _, hcc⟩ := i1.rows (by omega)
        obtain ⟨q0, _⟩ := hcc 0 (by omega)
        obtain ⟨q1, _⟩ := hcc 1 (by omega)
        have q0 : At5 w b1 o1 (ch1 0) (ac1 0).1 (ac1 0).2 := by simpa using q0
        have q1 : At5 w b1 (o1 + 5) (ch1 1) (ac1 1).1 (ac1 1).2 := by simpa using q1
        have h := eread_4 n s op ch b o c _ _ _ _ b1 o1 _ _ _ _ hk0 hn2 (by rw [hc1]; rfl) hA w hb a0 a1 hb1 (by rw [hc1]; exact q0) (by rw [hc1]; exact q1)
        rw [hc1] at h
        exact h
    · have e : readE (T.mk 4 n s op 2 ch) = noneE := by unfold readE; rw [if_neg hz, if_neg (fun h => hk1 h.2), if_neg (fun h => by have : (ch 0).n = 1 := h.1; omega)]
      rw [e]; exact eread_6 n s op ch b o c _ _ _ _ hk0 hn2 hk1 w hb a0 a1
  · by_cases hn1 : (ch 0).n = 1
    · by_cases hk1 : (ch 1).kind = 3
      · have e : readE (T.mk 4 n s op 2 ch) = ⟨1, (ch 1).s, 0, 0⟩ := by unfold readE; rw [if_neg hz, if_neg (fun h => hn2 h.1), if_pos ⟨hn1, hk1⟩]; rfl
        rw [e]; exact eread_5 n s op ch b o c _ _ _ _ hk0 hn1 hk1 w hb a0 a1
      · have e : readE (T.mk 4 n s op 2 ch) = noneE := by unfold readE; rw [if_neg hz, if_neg (fun h => hn2 h.1), if_neg (fun h => hk1 h.2)]
        rw [e]; exact eread_7 n s op ch b o c _ _ _ _ hk0 hn1 hk1 w hb a0 a1
    · have e : readE (T.mk 4 n s op 2 ch) = noneE := by unfold readE; rw [if_neg hz, if_neg (fun h => hn2 h.1), if_neg (fun h => hn1 h.1)]
      rw [e]; exact eread_8 n s op ch b o c _ _ _ _ hk0 hn1 hn2 w hb a0 a1
end Go.Proofs.Ytogjghmoankleaa


namespace Go.Proofs.Ytogjghmoankleaa
open Go.RowKit
set_option linter.unusedVariables false
set_option linter.unusedSimpArgs false

set_option maxRecDepth 20000 in
set_option maxHeartbeats 3200000 in
theorem same_any (a : T) : ∀ b : T, a.ok → b.ok → ∀ A c B d w, IsL w (fun _ => True) a A → IsL w (fun _ => True) b B →
    Calls Try.prog 116 #[itemV a A c, itemV b B d] w (Ret (.bool (a.same b)) w) := by
  induction a with
  | nil => intro b hok; cases hok
  | mk kind n s op k ch ih =>
    intro b
    rcases b with _ | ⟨kind', n', s', op', k', ch'⟩
    · intro _ hok; cases hok
    intro hok hok' A c B d w h h'
    have H := hid h; have HO := hid hok
    have H' := hid h'; have HO' := hid hok'
    have HI := hid ih
    have hk : Hid (k < 4611686018427387904) := by unfold T.ok at hok; exact hok.2.2.2.1
    have HR : Hid ((T.mk kind n s op k ch).same (T.mk kind' n' s' op' k' ch') = (kind == kind' && n == n' && s == s' && op == op' && k == k' && T.all (fun i => (ch i).same (ch' i)) k)) := rfl
    show Calls Try.prog 116 #[.agg #[.int .i64 kind, .int .u64 (n : Int), str s, .slice A k c, .bool op], .agg #[.int .i64 kind', .int .u64 (n' : Int), str s', .slice B k' d, .bool op']] w (Ret (.bool ((T.mk kind n s op k ch).same (T.mk kind' n' s' op' k' ch'))) w)
    rw [HR.out]
    have HBa : Hid (Blk ((w.alloc (.cells #[.int .i64 kind, .int .u64 (n : Int), str s, .slice A k c, .bool op] 38)).alloc (.cells #[.int .i64 kind', .int .u64 (n' : Int), str s', .slice B k' d, .bool op'] 38)) w.heap.size 38 #[.int .i64 kind, .int .u64 (n : Int), str s, .slice A k c, .bool op]) := (Blk.new _ _ _).alloc _
    have HBb : Hid (Blk ((w.alloc (.cells #[.int .i64 kind, .int .u64 (n : Int), str s, .slice A k c, .bool op] 38)).alloc (.cells #[.int .i64 kind', .int .u64 (n' : Int), str s', .slice B k' d, .bool op'] 38)) (w.heap.size + 1) 38 #[.int .i64 kind', .int .u64 (n' : Int), str s', .slice B k' d, .bool op']) := by
      exact Blk.new' _ _ _ (by simp)
    have HE0 := hid (((Mod.refl [] w).alloc (.cells #[.int .i64 kind, .int .u64 (n : Int), str s, .slice A k c, .bool op] 38)).alloc (.cells #[.int .i64 kind', .int .u64 (n' : Int), str s', .slice B k' d, .bool op'] 38))
    clear h hok h' hok' ih HR
    go_enter Try.func116, Try.ntmps116
    by_cases e1 : kind = kind'
    · subst e1
      by_cases e2 : n = n'
      · subst e2
        by_cases e3 : s = s'
        · subst e3
          by_cases e4 : op = op'
          · subst e4
            by_cases e5 : k = k'
            · subst e5
              have tk : ((k : Int) == (k : Int)) = true := by simp
              have HA := hid (fun (wr : World) (hX : Ext ((w.alloc (.cells #[.int .i64 kind, .int .u64 (n : Int), str s, .slice A k c, .bool op] 38)).alloc (.cells #[.int .i64 kind, .int .u64 (n : Int), str s, .slice B k d, .bool op] 38)) wr) => (show wr.cell? ⟨w.heap.size, 3, none⟩ = some (.slice A k c) ∧ wr.cell? ⟨w.heap.size + 1, 3, none⟩ = some (.slice B k d) from ⟨(HBa.out.ext hX).cell 3, (HBb.out.ext hX).cell 3⟩))
              have HEB := hid (Mod.refl [] ((w.alloc (.cells #[.int .i64 kind, .int .u64 (n : Int), str s, .slice A k c, .bool op] 38)).alloc (.cells #[.int .i64 kind, .int .u64 (n : Int), str s, .slice B k d, .bool op] 38)))
              go_wp2_with fail
              go_loopw [44] (fun s44 wr => ∃ i : Nat, i ≤ k ∧ s44 = .int .i64 (i : Int) ∧ Hid (Ext ((w.alloc (.cells #[.int .i64 kind, .int .u64 (n : Int), str s, .slice A k c, .bool op] 38)).alloc (.cells #[.int .i64 kind, .int .u64 (n : Int), str s, .slice B k d, .bool op] 38)) wr ∧ T.all (fun i => (ch i).same (ch' i)) i = true)) (fun i _ => k - (intOf i).toNat)
              case atStart => exact ⟨0, Nat.zero_le _, rfl, HEB.out, rfl⟩
              case round =>
                obtain ⟨i, hi, rfl, hX⟩ := hrel
                have HEW := hid (HE0.out.trans hX.out.1)
                have i0 : (0 : Int) ≤ (i : Int) := by omega
                by_cases hlt : i < k
                · obtain ⟨y0, y1⟩ := HA.out wr hX.out.1
                  obtain ⟨b, o, Ai, ci, rfl, hb, ⟨k0, k1, k2, k3, k4⟩, hL⟩ := H.out.cells HEW.out hlt
                  obtain ⟨b', o', Ai', ci', rfl, hb', ⟨l0, l1, l2, l3, l4⟩, hL'⟩ := H'.out.cells HEW.out hlt
                  have i1 : (i : Int) < (k : Int) := by omega
                  have ti : decide (i < k) = true := by simp [hlt]
                  have HL := hid hL; have HL' := hid hL'; have HLT := hid hlt
                  have HOi : Hid (ch i).ok := by have := HO.out; unfold T.ok at this; exact this.2.2.2.2 i hlt
                  have HOi' : Hid (ch' i).ok := by have := HO'.out; unfold T.ok at this; exact this.2.2.2.2 i hlt
                  have hb0 : b < wr.heap.size := Nat.lt_of_lt_of_le hb HEW.out.size
                  have hb0' : b' < wr.heap.size := Nat.lt_of_lt_of_le hb' HEW.out.size
                  have HL5 : Hid (∀ W, Ext wr W → W.cell? ⟨b, o + i * 5 + 3, none⟩ = some (.slice Ai (ch i).k ci)) := fun W hW => (hW.cell hb0 (by simp)).trans k3
                  have HL5' : Hid (∀ W, Ext wr W → W.cell? ⟨b', o' + i * 5 + 3, none⟩ = some (.slice Ai' (ch' i).k ci')) := fun W hW => (hW.cell hb0' (by simp)).trans l3
                  clear hb hb' hb0 hb0'
                  have HC := hid (fun W hW => HI.out i (ch' i) HOi.out HOi'.out Ai ci Ai' ci' W (HL.out.ext hW) (HL'.out.ext hW))
                  have HS : Hid (∀ W, Ext wr W → W.cell? ⟨w.heap.size, 3, none⟩ = some (.slice (some ⟨b, o, none⟩) k c) ∧ W.cell? ⟨w.heap.size + 1, 3, none⟩ = some (.slice (some ⟨b', o', none⟩) k d) ∧ W.cell? ⟨b, o + i * 5, none⟩ = some (.int .i64 (ch i).kind) ∧ W.cell? ⟨b, o + i * 5 + 1, none⟩ = some (.int .u64 ((ch i).n : Int)) ∧ W.cell? ⟨b, o + i * 5 + 2, none⟩ = some (str (ch i).s) ∧ W.cell? ⟨b, o + i * 5 + 3, none⟩ = some (.slice Ai (ch i).k ci) ∧ W.cell? ⟨b, o + i * 5 + 4, none⟩ = some (.bool (ch i).op) ∧ W.cell? ⟨b', o' + i * 5, none⟩ = some (.int .i64 (ch' i).kind) ∧ W.cell? ⟨b', o' + i * 5 + 1, none⟩ = some (.int .u64 ((ch' i).n : Int)) ∧ W.cell? ⟨b', o' + i * 5 + 2, none⟩ = some (str (ch' i).s) ∧ W.cell? ⟨b', o' + i * 5 + 3, none⟩ = some (.slice Ai' (ch' i).k ci') ∧ W.cell? ⟨b', o' + i * 5 + 4, none⟩ = some (.bool (ch' i).op)) := fun W hW => by
                    obtain ⟨z0, z1⟩ := HA.out W (hX.out.1.trans hW)
                    obtain ⟨e1, e2, Ai2, ci2, e3, _, ⟨p0, p1, p2, p3, p4⟩, _⟩ := H.out.cells (HEW.out.trans hW) hlt
                    obtain ⟨e1', e2', Ai2', ci2', e3', _, ⟨q0, q1, q2, q3, q4⟩, _⟩ := H'.out.cells (HEW.out.trans hW) hlt
                    simp only [Option.some.injEq, Addr.mk.injEq, and_true] at e3 e3'
                    obtain ⟨rfl, rfl⟩ := e3
                    obtain ⟨rfl, rfl⟩ := e3'
                    have g3 := HL5.out W hW; have g3' := HL5'.out W hW
                    rw [p3] at g3; rw [q3] at g3'
                    exact ⟨z0, z1, p0, p1, p2, p3.trans g3, p4, q0, q1, q2, q3.trans g3', q4⟩
                  clear hL hL' hlt
                  have hk2 : (k : Int) < 4611686018427387904 := by have := hk.out; omega
                  go_upto_region 6 with fail
                  go_region_held3 (fun w' => w'.cell? ⟨w.heap.size, 3, none⟩ = some (.slice (some ⟨b, o, none⟩) k c) ∧ w'.cell? ⟨w.heap.size + 1, 3, none⟩ = some (.slice (some ⟨b', o', none⟩) k d) ∧ w'.cell? ⟨b, o + i * 5, none⟩ = some (.int .i64 (ch i).kind) ∧ w'.cell? ⟨b, o + i * 5 + 1, none⟩ = some (.int .u64 ((ch i).n : Int)) ∧ w'.cell? ⟨b, o + i * 5 + 2, none⟩ = some (str (ch i).s) ∧ w'.cell? ⟨b, o + i * 5 + 3, none⟩ = some (.slice Ai (ch i).k ci) ∧ w'.cell? ⟨b, o + i * 5 + 4, none⟩ = some (.bool (ch i).op) ∧ w'.cell? ⟨b', o' + i * 5, none⟩ = some (.int .i64 (ch' i).kind) ∧ w'.cell? ⟨b', o' + i * 5 + 1, none⟩ = some (.int .u64 ((ch' i).n : Int)) ∧ w'.cell? ⟨b', o' + i * 5 + 2, none⟩ = some (str (ch' i).s) ∧ w'.cell? ⟨b', o' + i * 5 + 3, none⟩ = some (.slice Ai' (ch' i).k ci') ∧ w'.cell? ⟨b', o' + i * 5 + 4, none⟩ = some (.bool (ch' i).op)) (exact HS.out _ (by (repeat (first | with_reducible assumption | with_reducible exact Mod.refl _ _ | with_reducible refine Mod.drew ?_))))
                    ((go_at_call 116; refine (HC.out _ ?_).mono ?_; (repeat (first | with_reducible assumption | with_reducible exact Mod.refl _ _ | with_reducible refine Mod.drew ?_)); rintro e w3 ⟨rfl, hb3⟩; have hx3 : Ext wr w3 := (by with_reducible refine Mod.trans ?_ hb3; (repeat (first | with_reducible assumption | with_reducible exact Mod.refl _ _ | with_reducible refine Mod.drew ?_)))))
                  have HE3 := hid (hX.out.1.trans hx3)
                  have HE4 := hid (HEW.out.trans hx3)
                  have HW1 : Hid (wrap64 ((i : Int) + 1) = (i : Int) + 1) := IntWalk.wrap64_in _ (by omega)
                  clear hb3 hk2
                  cases hpl : (ch i).same (ch' i)
                  · have hno : T.all (fun i => (ch i).same (ch' i)) k = false := by
                      have hlt := HLT.out
                      cases hh : T.all (fun i => (ch i).same (ch' i)) k with
                      | false => rfl
                      | true => have := T.all_iff.1 hh i hlt; rw [hpl] at this; cases this
                    have HNO := hid hno
                    clear hno hpl
                    go_wp2_with fail
                    go_ret
                    exact Ret.mk (by rw [HNO.out]; simp) HE4.out
                  · have HPL := hid hpl
                    clear hpl
                    go_wp2_with fail
                    have hlt := HLT.out
                    have G1 : Value.int .i64 (wrap64 ((i : Int) + 1)) = .int .i64 ((i + 1 : Nat) : Int) := by rw [HW1.out]; simp
                    have G2 : T.all (fun i => (ch i).same (ch' i)) (i + 1) = true := by rw [T.all, hX.out.2, HPL.out]; rfl
                    have G3 : k - (intOf (Value.int .i64 (wrap64 ((i : Int) + 1)))).toNat < k - (intOf (.int .i64 (i : Int))).toNat := by rw [G1]; simp only [intOf]; omega
                    refine ⟨⟨i + 1, by omega, G1, (show Hid _ from ⟨HE3.out, G2⟩)⟩, G3⟩
                · obtain rfl : i = k := by omega
                  have ti : decide (i < i) = false := by simp
                  go_wp2_with fail
                  go_ret
                  exact Ret.mk (by rw [hX.out.2]; simp) HEW.out
            · have f5 : (k = k') = False := by simp [e5]
              have f5' : ((k : Int) == (k' : Int)) = false := by simp; omega
              cases op
              · go_wp2_with fail
                go_ret
                exact Ret.mk (by simp [e5]) HE0.out
              · go_wp2_with fail
                go_ret
                exact Ret.mk (by simp [e5]) HE0.out
          · have f4 : (op == op') = false := by simp [e4]
            have f4' : (op = op') = False := by simp [e4]
            go_wp2_with fail
            go_ret
            exact Ret.mk (by simp) HE0.out
        · have f3 : (s == s') = false := by simp [e3]
          have f3' : (s = s') = False := by simp [e3]
          go_wp2_with fail
          go_ret
          exact Ret.mk (by simp) HE0.out
      · have f2 : ((n : Int) == (n' : Int)) = false := by simp; omega
        have f2' : (n = n') = False := by simp [e2]
        go_wp2_with fail
        go_ret
        exact Ret.mk (by simp [e2]) HE0.out
    · have f1 : (kind == kind') = false := by simp [e1]
      have f1' : (kind = kind') = False := by simp [e1]
      go_wp2_with fail
      go_ret
      exact Ret.mk (by simp) HE0.out
end Go.Proofs.Ytogjghmoankleaa
