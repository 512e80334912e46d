/-
 The code's sums: divide, X25, Castagnoli, Size, Sum.
-/
import Derived.Test.YtmckfdmdkljomaaGreatDoorMMixLessCardad
import Derived.Test.YtmckfdmdkljomaaGreatDoorMMixLessCardae
import Derived.Test.YtmckfdmdkljomaaGreatDoorMMixLessCardaj
import Derived.Laws.BitsAllLaws
import Derived.Shelf.Strings.Repeat
import Derived.Laws.OwnMore
import Derived.OwnWalk
import Derived.OneCell
import Derived.Deep.AppendLies
import Derived.Deep.RegionLaw
namespace Go.Proofs.YtmckfdmdkljomaaGreatDoor
open Go.RowKit
set_option linter.unusedVariables false
set_option linter.unusedSimpArgs false
theorem cell_row8 (w : World) (l : List UInt8) (cap t : Nat) (fz : Nat × Nat) (j : Nat) (h : j < l.length) :
  (w.alloc (.cells (bytesRow ⟨l.toArray⟩ cap) t fz)).cell? ⟨w.heap.size, j, none⟩ = some (.int .u8 (l[j].toNat : Int)) := by
 rw [World.cell?_alloc_mark]
 simp only [bytesRow]
 rw [Array.getElem?_append_left (by simpa using h)]
 simp [h]
theorem Crc.stepC_lt {p s m : Nat} (hp : p < 2 ^ m) (hs : s < 2 ^ m) : Crc.stepC p s < 2 ^ m := by
 unfold Crc.stepC
 split
 . exact Nat.xor_lt_two_pow (by omega) hp
 . omega
theorem Crc.stepsC_lt {p m : Nat} (hp : p < 2 ^ m) : ∀ (k s : Nat), s < 2 ^ m -> Crc.stepsC p k s < 2 ^ m
 | 0, s, h => h
 | k + 1, s, h => Crc.stepsC_lt hp k _ (Crc.stepC_lt hp h)
theorem Crc.divC_lt {p m : Nat} (hp : p < 2 ^ m) : ∀ (l : List UInt8) (s : Nat), s < 2 ^ m -> 8 <= m -> Crc.divC p s l < 2 ^ m
 | [], s, h, _ => h
 | c :: l, s, h, h8 => by
  have hc : c.toNat < 2 ^ m := Nat.lt_of_lt_of_le c.toNat_lt (Nat.pow_le_pow_right (by omega) h8)
  have := Crc.divC_lt hp l (Crc.stepsC p 8 (s ^^^ c.toNat)) (Crc.stepsC_lt hp 8 _ (Nat.xor_lt_two_pow h hc)) h8
  exact this
theorem and1_16 {s : Nat} (hs : s < 65536) : bits .and .u16 (s : Int) 1 = ((s % 2 : Nat) : Int) := by
 have := u16_and_nat s 1 hs (by omega)
 rw [Nat.and_one_is_mod] at this
 exact this
theorem xor_16 {s c : Nat} (hs : s < 65536) (hc : c < 65536) : bits .xor .u16 (s : Int) (c : Int) = ((s ^^^ c : Nat) : Int) := u16_xor_nat s c hs hc
set_option maxHeartbeats 400000 in
theorem divide16 (p s : Nat) (hp : Hid (p < 65536)) (hs : Hid (s < 65536)) (l : List UInt8) (hl : Hid (l.length < 1000000)) (w : World) :
  Calls Tryz.prog 205 #[.int .u16 (s : Int), .int .u16 (p : Int), str l] w (Ret (.int .u16 (Crc.divC p s l : Nat)) w) := by
 have hconv := fun (w : World) (s : ByteArray) => run_bytes_of_string (P := Tryz.prog) w 9 123 5 s vqI vqD vqH
 obtain ⟨T, hT⟩ : ∃ T, T = Crc.divC p s l := ⟨_, rfl⟩
 rw [<- hT]
 have HT := hid hT; clear hT
 go_enter Tryz.func205, Tryz.ntmps205
 go_wp2
 have hext : Ext w (w.alloc (Obj.cells (bytesRow { data := l.toArray } (grownCap w l.length 0 5)) 5 ((bytesRow { data := l.toArray } (grownCap w l.length 0 5)).size, (bytesRow { data := l.toArray } (grownCap w l.length 0 5)).size + 1))).drew := ((Mod.refl _ _).alloc _).drew
 have hcell : ∀ j (h : j < l.length), (w.alloc (Obj.cells (bytesRow { data := l.toArray } (grownCap w l.length 0 5)) 5 ((bytesRow { data := l.toArray } (grownCap w l.length 0 5)).size, (bytesRow { data := l.toArray } (grownCap w l.length 0 5)).size + 1))).drew.cell? ⟨w.heap.size, j, none⟩ = some (.int .u8 (l[j].toNat : Int)) := fun j h => by rw [World.cell?_drew]; exact cell_row8 w l _ _ _ j h
 generalize hW : World.drew (World.alloc w _) = W at *
 have HW := hid hW; clear hW
 have HC := hid hcell; clear hcell
 have HL := hid hl.out
 go_loop [0, 12] (fun n i => ∃ j c : Nat, j <= l.length /\ c < 65536 /\ i = .int .i64 j /\ n = .int .u16 (c : Int) /\ Hid (T = Crc.divC p c (l.drop j))) (fun _ i => l.length - (intOf i).toNat)
 case atStart => exact ⟨0, s, Nat.zero_le _, hs.out, rfl, rfl, HT⟩
 case round =>
  obtain ⟨j, c, hj, hc, rfl, rfl, HR⟩ := hrel
  by_cases hlt : j < l.length
  .
   have hcc := HC.out j hlt
   generalize hx : l[j] = x at *
   have HX := hid hx; clear hx
   have hx8 := x.toNat_lt
   have tx : IntKind.u16.wrap (x.toNat : Int) = (x.toNat : Int) := IntWalk.u16_in _ (by omega)
   have t2 := xor_16 (s := c) (c := x.toNat) hc (by omega)
   have hcx : c ^^^ x.toNat < 65536 := Nat.xor_lt_two_pow (n := 16) hc (by omega)
   have HS : Hid (T = Crc.divC p (Crc.stepsC p 8 (c ^^^ x.toNat)) (l.drop (j + 1))) := by
    have h1 := HR.out
    rw [List.drop_eq_getElem_cons hlt, HX.out] at h1
    exact h1
   clear HR
   go_wp2
   generalize c ^^^ x.toNat = y at *
   go_loop [0, 20] (fun n i => ∃ k c : Nat, k <= 8 /\ c < 65536 /\ i = .int .i64 k /\ n = .int .u16 (c : Int) /\ Hid (Crc.stepsC p (8 - k) c = Crc.stepsC p 8 y)) (fun _ i => 8 - (intOf i).toNat)
   case atStart => exact ⟨0, y, by omega, hcx, rfl, rfl, rfl⟩
   case round =>
    obtain ⟨k, c, hk, hc, rfl, rfl, HR⟩ := hrel
    by_cases hlt : k < 8
    .
     have tA := and1_16 hc
     have HN : Hid (Crc.stepsC p (8 - (k + 1)) (Crc.stepC p c) = Crc.stepsC p 8 y) := by
      have h1 := HR.out
      rw [show 8 - k = (8 - (k + 1)) + 1 by omega] at h1
      exact h1
     have hL := Crc.stepC_lt (m := 16) hp.out hc
     clear HR
     rcases Nat.mod_two_eq_zero_or_one c with e | e
     .
      have hS : Crc.stepC p c = c / 2 := by unfold Crc.stepC; rw [if_neg (by omega)]
      rw [hS] at HN hL
      rw [e] at tA
      go_wp2
      go_round
      case rel => exact ⟨k + 1, c / 2, by omega, hL, by go_num, by simp, HN⟩
      case measure => simp [intOf]; omega
     .
      have hS : Crc.stepC p c = c / 2 ^^^ p := by unfold Crc.stepC; rw [if_pos e]
      have tX := xor_16 (s := c / 2) (c := p) (by omega) hp.out
      rw [hS] at HN hL
      rw [e] at tA
      go_wp2
      go_round
      case rel => exact ⟨k + 1, c / 2 ^^^ p, by omega, hL, by go_num, by rw [<- tX]; simp, HN⟩
      case measure => simp [intOf]; omega
    .
     obtain rfl : k = 8 := by omega
     have h1 : c = Crc.stepsC p 8 y := HR.out
     have hl2 : l.length < 1000000 := hl.out
     subst h1
     clear HR
     go_wp2
     go_round
     case rel => exact ⟨j + 1, _, by omega, hc, by go_num, rfl, HS⟩
     case measure => simp [intOf]; omega
  .
   obtain rfl : j = l.length := by omega
   have h1 := HR.out
   rw [List.drop_length] at h1
   have h2 : T = c := h1
   subst h2
   clear HR h1
   go_wp2
   go_ret
   exact ⟨rfl, hext⟩
theorem and1_32 {s : Nat} (hs : s < 4294967296) : bits .and .u32 (s : Int) 1 = ((s % 2 : Nat) : Int) := by
 have := u32_and_nat s 1 hs (by omega)
 rw [Nat.and_one_is_mod] at this
 exact this
theorem xor_32 {s c : Nat} (hs : s < 4294967296) (hc : c < 4294967296) : bits .xor .u32 (s : Int) (c : Int) = ((s ^^^ c : Nat) : Int) := u32_xor_nat s c hs hc
set_option maxHeartbeats 400000 in
theorem divide32 (p s : Nat) (hp : Hid (p < 4294967296)) (hs : Hid (s < 4294967296)) (l : List UInt8) (hl : Hid (l.length < 1000000)) (w : World) :
  Calls Tryz.prog 206 #[.int .u32 (s : Int), .int .u32 (p : Int), str l] w (Ret (.int .u32 (Crc.divC p s l : Nat)) w) := by
 have hconv := fun (w : World) (s : ByteArray) => run_bytes_of_string (P := Tryz.prog) w 9 123 5 s vqI vqD vqH
 obtain ⟨T, hT⟩ : ∃ T, T = Crc.divC p s l := ⟨_, rfl⟩
 rw [<- hT]
 have HT := hid hT; clear hT
 go_enter Tryz.func206, Tryz.ntmps206
 go_wp2
 have hext : Ext w (w.alloc (Obj.cells (bytesRow { data := l.toArray } (grownCap w l.length 0 5)) 5 ((bytesRow { data := l.toArray } (grownCap w l.length 0 5)).size, (bytesRow { data := l.toArray } (grownCap w l.length 0 5)).size + 1))).drew := ((Mod.refl _ _).alloc _).drew
 have hcell : ∀ j (h : j < l.length), (w.alloc (Obj.cells (bytesRow { data := l.toArray } (grownCap w l.length 0 5)) 5 ((bytesRow { data := l.toArray } (grownCap w l.length 0 5)).size, (bytesRow { data := l.toArray } (grownCap w l.length 0 5)).size + 1))).drew.cell? ⟨w.heap.size, j, none⟩ = some (.int .u8 (l[j].toNat : Int)) := fun j h => by rw [World.cell?_drew]; exact cell_row8 w l _ _ _ j h
 generalize hW : World.drew (World.alloc w _) = W at *
 have HW := hid hW; clear hW
 have HC := hid hcell; clear hcell
 have HL := hid hl.out
 go_loop [0, 12] (fun n i => ∃ j c : Nat, j <= l.length /\ c < 4294967296 /\ i = .int .i64 j /\ n = .int .u32 (c : Int) /\ Hid (T = Crc.divC p c (l.drop j))) (fun _ i => l.length - (intOf i).toNat)
 case atStart => exact ⟨0, s, Nat.zero_le _, hs.out, rfl, rfl, HT⟩
 case round =>
  obtain ⟨j, c, hj, hc, rfl, rfl, HR⟩ := hrel
  by_cases hlt : j < l.length
  .
   have hcc := HC.out j hlt
   generalize hx : l[j] = x at *
   have HX := hid hx; clear hx
   have hx8 := x.toNat_lt
   have tx : IntKind.u32.wrap (x.toNat : Int) = (x.toNat : Int) := IntWalk.u32_in _ (by omega)
   have t2 := xor_32 (s := c) (c := x.toNat) hc (by omega)
   have hcx : c ^^^ x.toNat < 4294967296 := Nat.xor_lt_two_pow (n := 32) hc (by omega)
   have HS : Hid (T = Crc.divC p (Crc.stepsC p 8 (c ^^^ x.toNat)) (l.drop (j + 1))) := by
    have h1 := HR.out
    rw [List.drop_eq_getElem_cons hlt, HX.out] at h1
    exact h1
   clear HR
   go_wp2
   generalize c ^^^ x.toNat = y at *
   go_loop [0, 20] (fun n i => ∃ k c : Nat, k <= 8 /\ c < 4294967296 /\ i = .int .i64 k /\ n = .int .u32 (c : Int) /\ Hid (Crc.stepsC p (8 - k) c = Crc.stepsC p 8 y)) (fun _ i => 8 - (intOf i).toNat)
   case atStart => exact ⟨0, y, by omega, hcx, rfl, rfl, rfl⟩
   case round =>
    obtain ⟨k, c, hk, hc, rfl, rfl, HR⟩ := hrel
    by_cases hlt : k < 8
    .
     have tA := and1_32 hc
     have HN : Hid (Crc.stepsC p (8 - (k + 1)) (Crc.stepC p c) = Crc.stepsC p 8 y) := by
      have h1 := HR.out
      rw [show 8 - k = (8 - (k + 1)) + 1 by omega] at h1
      exact h1
     have hL := Crc.stepC_lt (m := 32) hp.out hc
     clear HR
     rcases Nat.mod_two_eq_zero_or_one c with e | e
     .
      have hS : Crc.stepC p c = c / 2 := by unfold Crc.stepC; rw [if_neg (by omega)]
      rw [hS] at HN hL
      rw [e] at tA
      go_wp2
      go_round
      case rel => exact ⟨k + 1, c / 2, by omega, hL, by go_num, by simp, HN⟩
      case measure => simp [intOf]; omega
     .
      have hS : Crc.stepC p c = c / 2 ^^^ p := by unfold Crc.stepC; rw [if_pos e]
      have tX := xor_32 (s := c / 2) (c := p) (by omega) hp.out
      rw [hS] at HN hL
      rw [e] at tA
      go_wp2
      go_round
      case rel => exact ⟨k + 1, c / 2 ^^^ p, by omega, hL, by go_num, by rw [<- tX]; simp, HN⟩
      case measure => simp [intOf]; omega
    .
     obtain rfl : k = 8 := by omega
     have h1 : c = Crc.stepsC p 8 y := HR.out
     have hl2 : l.length < 1000000 := hl.out
     subst h1
     clear HR
     go_wp2
     go_round
     case rel => exact ⟨j + 1, _, by omega, hc, by go_num, rfl, HS⟩
     case measure => simp [intOf]; omega
  .
   obtain rfl : j = l.length := by omega
   have h1 := HR.out
   rw [List.drop_length] at h1
   have h2 : T = c := h1
   subst h2
   clear HR h1
   go_wp2
   go_ret
   exact ⟨rfl, hext⟩
def layRep_ren : Shelf.Ren where
 f := fun x => match x with
  | 105 => 163
  | 212 => 183
  | 99 => 184
  | 165 => 185
  | 166 => 186
  | 170 => 187
  | 169 => 188
  | 263 => 198
  | 264 => 199
  | 206 => 200
  | 240 => 201
  | 241 => 202
  | 276 => 207
  | 277 => 208
  | n => n
 t := fun x => match x with
  | 9 => 9
  | 3 => 3
  | 4 => 4
  | 20 => 20
  | 0 => 0
  | 46 => 46
  | 109 => 218
  | 5 => 5
  | 72 => 223
  | 76 => 156
  | 51 => 233
  | 146 => 236
  | 53 => 22
  | 148 => 238
  | 70 => 221
  | 37 => 123
  | 75 => 134
  | 127 => 240
  | 164 => 246
  | 80 => 226
  | n => n
 g := fun n => n
theorem layRep : Lays.n105 Tryz.prog layRep_ren where
 mixed := by kernel_rfl
 f105 := Tryz.func163.trans (by kernel_rfl)
 f212 := Tryz.func183.trans (by kernel_rfl)
 f99 := Tryz.func184.trans (by kernel_rfl)
 f165 := Tryz.func185.trans (by kernel_rfl)
 f166 := Tryz.func186.trans (by kernel_rfl)
 f170 := Tryz.func187.trans (by kernel_rfl)
 f169 := Tryz.func188.trans (by kernel_rfl)
 f263 := Tryz.func198.trans (by kernel_rfl)
 f264 := Tryz.func199.trans (by kernel_rfl)
 f206 := Tryz.func200.trans (by kernel_rfl)
 f240 := Tryz.func201.trans (by kernel_rfl)
 f241 := Tryz.func202.trans (by kernel_rfl)
 f276 := Tryz.func207.trans (by kernel_rfl)
 f277 := Tryz.func208.trans (by kernel_rfl)
 t9 := vqI
 a9 := Tryz.isAgg9
 z9 := Tryz.sizeOf9
 v9 := Tryz.zeroValue9
 t3 := vqK
 a3 := Tryz.isAgg3
 z3 := Tryz.sizeOf3
 v3 := Tryz.zeroValue3
 t4 := Tryz.underlying4
 a4 := Tryz.isAgg4
 z4 := Tryz.sizeOf4
 v4 := Tryz.zeroValue4
 t20 := Tryz.underlying20
 a20 := Tryz.isAgg20
 z20 := Tryz.sizeOf20
 v20 := Tryz.zeroValue20
 t0 := Tryz.underlying0
 a0 := Tryz.isAgg0
 z0 := Tryz.sizeOf0
 v0 := Tryz.zeroValue0
 t46 := Tryz.underlying46
 a46 := Tryz.isAgg46
 z46 := Tryz.sizeOf46
 v46 := Tryz.zeroValue46
 t109 := Tryz.underlying218
 a109 := Tryz.isAgg218
 z109 := Tryz.sizeOf218
 v109 := Tryz.zeroValue218
 t5 := vqH
 a5 := Tryz.isAgg5
 z5 := Tryz.sizeOf5
 v5 := Tryz.zeroValue5
 t72 := Tryz.underlying223
 a72 := Tryz.isAgg223
 z72 := Tryz.sizeOf223
 v72 := Tryz.zeroValue223
 t76 := Tryz.underlying156
 a76 := Tryz.isAgg156
 z76 := Tryz.sizeOf156
 v76 := Tryz.zeroValue156
 t51 := Tryz.underlying233
 a51 := Tryz.isAgg233
 z51 := Tryz.sizeOf233
 v51 := Tryz.zeroValue233
 t146 := Tryz.underlying236
 a146 := Tryz.isAgg236
 z146 := Tryz.sizeOf236
 v146 := Tryz.zeroValue236
 t53 := Tryz.underlying22
 a53 := Tryz.isAgg22
 z53 := Tryz.sizeOf22
 v53 := Tryz.zeroValue22
 t148 := Tryz.underlying238
 a148 := Tryz.isAgg238
 z148 := Tryz.sizeOf238
 v148 := Tryz.zeroValue238
 t70 := Tryz.underlying221
 a70 := Tryz.isAgg221
 z70 := Tryz.sizeOf221
 v70 := Tryz.zeroValue221
 t37 := vqD
 a37 := Tryz.isAgg123
 z37 := Tryz.sizeOf123
 v37 := Tryz.zeroValue123
 t75 := Tryz.underlying134
 a75 := Tryz.isAgg134
 z75 := Tryz.sizeOf134
 v75 := Tryz.zeroValue134
 t127 := Tryz.underlying240
 a127 := Tryz.isAgg240
 z127 := Tryz.sizeOf240
 v127 := Tryz.zeroValue240
 t164 := Tryz.underlying246
 a164 := Tryz.isAgg246
 z164 := Tryz.sizeOf246
 v164 := Tryz.zeroValue246
theorem layRepX : Builder.Extra Tryz.prog layRep_ren where
 sizeBuilder := by kernel_rfl
 liesBuilder := by kernel_rfl
 t5 := vqH
 a5 := Tryz.isAgg5
 z5 := Tryz.sizeOf5
 v5 := Tryz.zeroValue5
 infoByte := by kernel_rfl
 cellsByte := by kernel_rfl
 sizeByte := by kernel_rfl
 neB5 := by decide
theorem repeat0 (k : Nat) : Lib.repeatL [0] k = List.replicate k (0 : UInt8) := by
 induction k with
 | zero => rfl
 | succ k ih => rw [Lib.repeatL, ih, List.replicate_succ]; rfl
theorem Repeat_zero (k : Nat) (hk : k <= 1000) (w : World) : Calls Tryz.prog 163 #[.string ⟨#[0]⟩, .int .i64 (k : Int)] w (Ret (str (List.replicate k 0)) w) := by
 refine (Any.strings_Repeat layRep layRepX ⟨#[0]⟩ k w (by omega) (by show 1 * k <= _; omega)).mono fun e w' ⟨he, hb⟩ => ⟨?_, Mod.of_below hb⟩
 rw [he]
 show Ending.returned (.string ⟨(Lib.repeatL [0] k).toArray⟩) = _
 rw [repeat0]
def floop (f : List UInt8 -> Nat × Int) (l : List UInt8) (o : Bool) (n : Nat) : Nat -> Nat -> Nat × Int
 | 0, e => if o = false /\ n <= 1000 then (e, 0) else if o = true /\ l[e]? = some 255 then (e + 1, 0) else (e, 4)
 | j + 1, e => if o = false /\ n <= 1000 - (j + 1) then (e, 0) else if o = true /\ l[e]? = some 255 then (e + 1, 0) else
   if (f (l.drop e)).2 = 0 then floop f l o n j (e + (f (l.drop e)).1) else (e + (f (l.drop e)).1, (f (l.drop e)).2)
def noK (m : Nat) : Bool := m != 0 && m != 2 && m != 3 && m != 4
def flt : Nat -> List UInt8 -> Nat × Int
 | 0, l => match readH l with
  | none => (0, 2)
  | some (sz, m, n, o) => if noK m = true then (0, 2) else (0, 3)
 | d + 1, l => match readH l with
  | none => (0, 2)
  | some (sz, m, n, o) => if noK m = true then (0, 2) else if m = 0 then (sz, 0) else
    if m < 4 then (if o = true \/ l.length - sz < n then (0, 2) else (sz + n, 0)) else
    if o = false /\ 1000 < n then (0, 4) else floop (flt d) l o n 1000 sz
theorem floop_le {f : List UInt8 -> Nat × Int} (hf : ∀ l, (f l).1 <= l.length) (l : List UInt8) (o : Bool) (n : Nat) : ∀ j e, e <= l.length -> (floop f l o n j e).1 <= l.length := by
 intro j
 induction j with
 | zero =>
  intro e he
  unfold floop
  split
  . exact he
  .
   split
   . rename_i h; exact (List.getElem?_eq_some_iff.1 h.2).1
   . exact he
 | succ j ih =>
  intro e he
  have h1 := hf (l.drop e)
  rw [List.length_drop] at h1
  unfold floop
  split
  . exact he
  .
   split
   . rename_i h; exact (List.getElem?_eq_some_iff.1 h.2).1
   .
    split
    . exact ih _ (by omega)
    . show e + (f (l.drop e)).1 <= l.length; omega
theorem flt_le (d : Nat) : ∀ l, (flt d l).1 <= l.length := by
 induction d with
 | zero =>
  intro l
  unfold flt
  split
  . exact Nat.zero_le _
  . split <;> exact Nat.zero_le _
 | succ d ih =>
  intro l
  unfold flt
  split
  . exact Nat.zero_le _
  .
   rename_i sz m n o hr
   have h1 := (readH_some hr).le
   split
   . exact Nat.zero_le _
   .
    split
    . exact h1
    .
     split
     .
      split
      . exact Nat.zero_le _
      . show sz + n <= l.length; rename_i h; simp only [not_or, Nat.not_lt] at h; omega
     .
      split
      . exact Nat.zero_le _
      . exact floop_le ih l o n 1000 sz h1
theorem cat_split (f : Nat -> List UInt8) {i k : Nat} (h : i <= k) : ∃ r, T.cat f k = T.cat f i ++ r := by
 induction k with
 | zero =>
    obtain rfl : i = 0 := by omega
    exact ⟨[], by simp⟩
 | succ k ih =>
  by_cases e : i = k + 1
  . subst e; exact ⟨[], by simp⟩
  .
   obtain ⟨r, hr⟩ := ih (by omega)
   exact ⟨r ++ f k, by rw [T.cat, hr, List.append_assoc]⟩
theorem pre_split (kind : Int) (s : List UInt8) (op : Bool) (kk : Nat) (ch : Nat -> T) {i k : Nat} (h : i <= k) : ∃ r, pre kind s op kk ch k = pre kind s op kk ch i ++ r := by
 obtain ⟨r, hr⟩ := cat_split (fun i => (ch i).bytes) h
 exact ⟨r, by unfold pre; rw [hr, List.append_assoc]⟩
theorem get_255 {l : List UInt8} {e : Nat} : l[e]? = some 255 ↔ ∃ v, l.drop e = 255 :: v := by
 rw [<- List.head?_drop]
 cases l.drop e with
 | nil => simp
 | cons x v => simp
theorem readH_255 {t : List UInt8} {sz m n : Nat} {o : Bool} (h : readH t = some (sz, m, n, o)) : (m = 7 /\ o = true) ↔ ∃ v, t = 255 :: v := by
 constructor
 .
  rintro ⟨rfl, rfl⟩
  unfold readH at h
  match t, h with
  | c :: r, h =>
   have hc := c.toNat_lt
   dsimp only at h
   split at h
   . simp at h
   .
    split at h
    .
     rename_i h1
     simp only [Option.some.injEq, Prod.mk.injEq] at h
     have e : c.toNat = 255 := by omega
     refine ⟨r, ?_⟩
     rw [<- b8_toNat c, e]; rfl
    .
     split at h
     . cases h
     .
      split at h
      . cases h
      .
       split at h
       . simp at h
       . cases h
 .
  rintro ⟨v, rfl⟩
  rw [T.readH_break] at h
  simp only [Option.some.injEq, Prod.mk.injEq] at h
  exact ⟨h.2.1.symm, h.2.2.2.symm⟩
theorem flt_bytes (t : T) : ∀ d, t.right d = true -> t.ok -> ∀ x, flt d (t.bytes ++ x) = (t.bytes.length, 0) := by
 induction t with
 | nil => intro d h hok; cases hok
 | mk kind n s op k ch ih =>
  intro d h hok x
  have hp : (T.mk kind n s op k ch).plain = true := by rw [T.right_eq] at h; simp at h; exact h.2
  have hr := T.readH_bytes _ hp hok x
  cases d with
  | zero => unfold T.right at h; simp at h
  | succ d =>
   unfold T.right at h
   rw [if_neg (by omega), Bool.and_eq_true, T.all_iff] at h
   obtain ⟨h1, h2⟩ := h
   simp only [Nat.add_sub_cancel] at h2
   have hkd := T.node_kind h1
   unfold T.ok at hok
   unfold flt
   rw [hr]
   unfold T.plain at hp
   rw [Bool.and_eq_true, T.all_iff] at hp
   rcases hkd with rfl | rfl | rfl | rfl
   .
    simp only [T.hd, if_true]
    unfold T.node at h1
    simp at h1
    obtain ⟨⟨rfl, rfl⟩, rfl⟩ := h1
    simp [noK, T.bytes]
   .
    unfold T.node at h1
    simp at h1
    obtain ⟨⟨rfl, rfl⟩, rfl⟩ := h1
    simp [T.hd, noK, T.bytes]
   .
    unfold T.node at h1
    simp at h1
    obtain ⟨⟨rfl, rfl⟩, rfl⟩ := h1
    simp [T.hd, noK, T.bytes]
   .
    unfold T.node at h1
    simp at h1
    obtain ⟨⟨rfl, rfl⟩, hk⟩ := h1
    rw [pre_end]
    have key : ∀ m i, i + m = k -> floop (flt d) (pre 4 [] op k ch k ++ (if op then [255] else []) ++ x) op (if op then 0 else k) (1000 - i) (pre 4 [] op k ch i).length = ((pre 4 [] op k ch k ++ (if op then [255] else [])).length, 0) := by
     intro m
     induction m with
     | zero =>
      intro i hi
      obtain rfl : i = k := by omega
      cases op
      .
       simp only [Bool.false_eq_true, if_false, List.append_nil]
       cases hj : 1000 - i with
       | zero => unfold floop; rw [if_pos ⟨rfl, by omega⟩]
       | succ j => unfold floop; rw [if_pos ⟨rfl, by omega⟩]
      .
       simp only [if_true]
       have h255 : (pre 4 [] true i ch i ++ [255] ++ x)[(pre 4 [] true i ch i).length]? = some 255 := get_255.2 ⟨x, by rw [List.append_assoc, List.drop_left]; rfl⟩
       cases hj : 1000 - i with
       | zero => unfold floop; rw [if_neg (by simp), if_pos ⟨rfl, h255⟩, List.length_append]; rfl
       | succ j => unfold floop; rw [if_neg (by simp), if_pos ⟨rfl, h255⟩, List.length_append]; rfl
     | succ m ihm =>
      intro i hi
      have hik : i < k := by omega
      have e1 : 1000 - i = (1000 - (i + 1)) + 1 := by omega
      obtain ⟨r, hr⟩ := pre_split 4 [] op k ch (show i + 1 <= k by omega)
      have hd : (pre 4 [] op k ch k ++ (if op then [255] else []) ++ x).drop (pre 4 [] op k ch i).length = (ch i).bytes ++ (r ++ ((if op then [255] else []) ++ x)) := by
       rw [hr, pre_succ, List.append_assoc, List.append_assoc, List.append_assoc, List.drop_left]
      have hc := ih i d (h2 i hik) (hok.2.2.2.2 i hik) (r ++ ((if op then [255] else []) ++ x))
      rw [e1]
      unfold floop
      rw [if_neg (by intro h; obtain ⟨h3, h4⟩ := h; subst h3; simp at h4; omega), if_neg (by
       rintro ⟨_, h4⟩
       obtain ⟨v, hv⟩ := get_255.1 h4
       rw [hd] at hv
       exact T.bytes_not_break (ch i) (hp.2 i hik) (hok.2.2.2.2 i hik) _ _ hv), hd, hc, if_pos rfl]
      have := ihm (i + 1) (by omega)
      rw [pre_succ, List.length_append] at this
      exact this
    have h0 := key k 0 (by omega)
    cases op
    .
     have e : (pre 4 [] false k ch 0).length = (headL 4 k).length := by simp [pre, T.cat]
     rw [e] at h0
     have eh : (T.mk 4 0 [] false k ch).hd = ((headL 4 k).length, 4, k, false) := rfl
     rw [eh]
     dsimp only
     rw [if_neg (by decide), if_neg (by decide), if_neg (by decide), if_neg (by rintro ⟨_, h⟩; omega)]
     exact h0
    .
     have eh : (T.mk 4 0 [] true k ch).hd = (1, 4, 0, true) := rfl
     rw [eh]
     dsimp only
     rw [if_neg (by decide), if_neg (by decide), if_neg (by decide), if_neg (by rintro ⟨h, _⟩; cases h)]
     exact h0
section
def PAt (w : World) (g : Nat) (l : List UInt8) (p : Nat) (e : Int) : Prop := Blk w g 150 #[str l, .int .i64 (p : Int), .int .i64 e]
section
variable {w : World} {g : Nat} {l : List UInt8} {p : Nat} {x : Int}
theorem PAt.b (h : PAt w g l p x) : w.cell? ⟨g, 0, none⟩ = some (str l) := Blk.cell h 0
theorem PAt.at_ (h : PAt w g l p x) : w.cell? ⟨g, 1, none⟩ = some (.int .i64 (p : Int)) := Blk.cell h 1
theorem PAt.err (h : PAt w g l p x) : w.cell? ⟨g, 2, none⟩ = some (.int .i64 x) := Blk.cell h 2
theorem PAt.froz (h : PAt w g l p x) (i : Nat) : w.frozen? ⟨g, i, none⟩ = false := Blk.frozen h i
end
theorem head_255 {t : List UInt8} : t.head? = some 255 ↔ ∃ v, t = 255 :: v := by
 cases t with
 | nil => simp
 | cons x v => simp
theorem new_break (t : List UInt8) : (decide (((RS.new t).Head.2.1 : Int) = 7) && (RS.new t).Head.2.2.2) = decide (t.head? = some 255) := by
 cases hr : readH t with
 | none =>
  rw [RS.Head_none (r := RS.new t) rfl hr]
  have : ¬ t.head? = some 255 := fun h => by
   obtain ⟨v, rfl⟩ := head_255.1 h
   rw [T.readH_break] at hr; cases hr
  rw [decide_eq_false this]
  rfl
 | some x =>
  obtain ⟨sz, m, n, o⟩ := x
  rw [RS.Head_some (r := RS.new t) rfl hr]
  have h := readH_255 hr
  rw [Bool.eq_iff_iff, Bool.and_eq_true, decide_eq_true_iff, decide_eq_true_iff, head_255, <- h]
  constructor
  . rintro ⟨a, b⟩; exact ⟨by have : (m : Int) = 7 := a; omega, b⟩
  . rintro ⟨a, b⟩; subst a; exact ⟨rfl, b⟩
theorem new_break2 (l : List UInt8) (p : Nat) : (decide (((RS.new (l.drop p)).Head.2.1 : Int) = 7) && (RS.new (l.drop p)).Head.2.2.2) = decide (l[p]? = some 255) := by
 rw [new_break, Bool.eq_iff_iff, decide_eq_true_iff, decide_eq_true_iff, List.head?_drop]
def nulT : T := T.mk 0 0 [] false 0 fun _ => T.nil
set_option maxRecDepth 20000 in
set_option maxHeartbeats 400000 in
theorem pfail_any (g : Nat) (l : List UInt8) (p q : Nat) (e : Int) (w : World) (h : PAt w g l p 0) :
  Calls Tryz.prog 119 #[.pointer (some ⟨g, 0, none⟩), .int .i64 (q : Int), .int .i64 e] w (RetS [g] (itemV nulT none 0) (fun w' => PAt w' g l q e) w) := by
 have c1 := h.at_
 have c2 := h.err
 have f1 := h.froz 1
 have f2 := h.froz 2
 have hg : g < w.heap.size := Blk.lt h
 have H := hid h
 clear h
 go_enter Tryz.func119, Tryz.ntmps119
 go_wp2
 refine bodyPost_ret (v := itemV nulT none 0) (by simp [results, Tryz.results119, go_sem]; exact ⟨rfl, rfl, rfl, rfl, rfl⟩) rfl (RetS.mk rfl ?_ ?_)
 . exact ((((Mod.refl _ _).setCell (.inl (by simp)) _).setCell (.inl (by simp)) _).alloc _)
 . exact Blk.alloc (Blk.set_ (Blk.set_ H.out 1 (.int .i64 (q : Int))) 2 (.int .i64 e)) _
set_option maxRecDepth 20000 in
set_option maxHeartbeats 400000 in
theorem preader_any (g : Nat) (l : List UInt8) (p : Nat) (e : Int) (hp : Hid (p <= l.length /\ l.length <= 1073741824)) (w : World) (h : PAt w g l p e) :
  Calls Tryz.prog 138 #[.pointer (some ⟨g, 0, none⟩)] w fun x w' => x = .returned (.pointer (some ⟨w.heap.size, 0, none⟩)) /\ Ext w w' /\ RdAt w' w.heap.size (RS.new (l.drop p)) := by
 have c0 := h.b
 have c1 := h.at_
 have hp0 : (0 : Int) <= (p : Int) := by omega
 have hp1 : (p : Int) <= (l.length : Int) := by have := hp.out; omega
 have hl1 : (l.length : Int) <= 1073741824 := by have := hp.out; omega
 go_enter Tryz.func138, Tryz.ntmps138
 go_upto_region 1 with fail
 go_region_held3 (fun w' => w'.cell? ⟨g, 0, none⟩ = some (str l) /\ w'.cell? ⟨g, 1, none⟩ = some (.int .i64 (p : Int))) (go_keep)
  ((go_at_call 167; rw [extract_rest]; refine (newReader_any (l.drop p) _).mono ?_; rintro x w' ⟨rfl, rfl⟩))
 all_goals go_wp2_with fail
 all_goals go_ret
 all_goals exact ⟨rfl, by first | exact ((Mod.refl _ _).alloc _) | exact ((Mod.refl _ _).alloc _).drew | exact ((Mod.refl _ _).drew.alloc _).drew | exact ((Mod.refl _ _).drew.alloc _), Blk.new _ _ _⟩
set_option maxRecDepth 20000 in
set_option maxHeartbeats 400000 in
theorem broken_any (g : Nat) (l : List UInt8) (p : Nat) (e : Int) (hp : Hid (p <= l.length /\ l.length <= 1073741824)) (w : World) (h : PAt w g l p e) :
  Calls Tryz.prog 172 #[.pointer (some ⟨g, 0, none⟩)] w (Ret (.bool (decide (l[p]? = some 255))) w) := by
 have hr : Hid (RS.ok (RS.new (l.drop p))) := RS.new_ok (by have := hp.out; rw [List.length_drop]; omega)
 go_enter Tryz.func172, Tryz.ntmps172
 go_wp2_with fail
 refine (preader_any g l p e hp _ h).mono ?_
 rintro x w1 ⟨rfl, hb1, hr1⟩
 go_wp2_with fail
 refine (Head_any_r _ _ hr.out _ hr1).mono ?_
 rintro x w2 ⟨rfl, hm2, hr2⟩
 have HB := hid (new_break2 l p)
 generalize (RS.new (List.drop p l)).Head.2.2.2 = o at *
 generalize (RS.new (List.drop p l)).Head.2.1 = m at *
 have hz : Ext w w2 := Mod.new (S := [w.heap.size]) ((hb1.of_ext).trans hm2) (fun k hk => by rw [List.mem_singleton] at hk; subst hk; exact .inr (Nat.le_refl _))
 go_wp2_with fail
 .
  rename_i h7
  go_ret
  refine Ret.mk ?_ hz
  rw [<- HB.out]; simp [h7]
 .
  rename_i h7
  go_ret
  refine Ret.mk ?_ hz
  rw [<- HB.out]; simp [h7]
end
section
section
variable {P : Program} (w : World)
end
structure LOk (w : World) (g X N p : Nat) (l : List UInt8) (o : Bool) (n d sz : Nat) (F : Nat × Int) (wr : World) (i e : Nat) (A : Option Addr) (c : Nat) (ch : Nat -> T) (ac : Nat -> Option Addr × Nat) : Prop where
 i1000 : i <= 1000
 iN : o = false -> i <= n
 fl : floop (flt d) (l.drop p) o n (1000 - i) e = F
 le : p + e <= l.length
 cat : (l.drop p).drop sz = T.cat (fun j => (ch j).bytes) i ++ (l.drop p).drop e
 kids : ∀ j, j < i -> (ch j).right d = true /\ (ch j).ok
 mod : Mod [g] w wr
 nx : N <= wr.heap.size
 x : Blk wr X 68 #[.int .i64 4, .int .u64 0, str [], .slice A i c, .bool o]
 pa : PAt wr g l (p + e) 0
 own : wr.ownsRow N 68 5 (.slice A i c) i (flatC ch ac i)
 mem : ∀ j, j < i -> IsC wr (fun b => N <= b /\ A ≠ some ⟨b, 0, none⟩) (ch j) (ac j).1 (ac j).2
theorem cat_congr {f f' : Nat -> List UInt8} {i : Nat} (h : ∀ j, j < i -> f j = f' j) : T.cat f i = T.cat f' i := by
 induction i with
 | zero => rfl
 | succ i ih => rw [T.cat, T.cat, ih (fun j hj => h j (by omega)), h i (by omega)]
def put (ch : Nat -> T) (i : Nat) (t : T) (j : Nat) : T := if j = i then t else ch j
def putA (ac : Nat -> Option Addr × Nat) (i : Nat) (a : Option Addr × Nat) (j : Nat) : Option Addr × Nat := if j = i then a else ac j
theorem LOk.step {w : World} {g X N p : Nat} {l : List UInt8} {o : Bool} {n d sz : Nat} {F : Nat × Int} {wr : World} {i e : Nat} {A : Option Addr} {c : Nat} {ch : Nat -> T} {ac : Nat -> Option Addr × Nat}
  (h : LOk w g X N p l o n d sz F wr i e A c ch ac) (hg : g < w.heap.size) (hwX : w.heap.size <= X) (hXN : X < N) (hi : i < 1000) (hin : o = false -> i < n) (hnb : ¬ (o = true /\ l[p + e]? = some 255))
  {t : T} {At : Option Addr} {ct : Nat} {w2 w4 : World} {v' : Value} (hr0 : (flt d (l.drop (p + e))).2 = 0) (hm2 : Mod [g] wr w2) (hp2 : PAt w2 g l (p + e + (flt d (l.drop (p + e))).1) 0)
  (ht : t.right d = true /\ t.ok) (htb : t.bytes ++ l.drop (p + e + (flt d (l.drop (p + e))).1) = l.drop (p + e)) (hL : IsC w2 (fun b => wr.heap.size <= b) t At ct)
  (hown : w4.ownsRow N 68 5 v' (i + 1) (flatC ch ac i ++ [.int .i64 t.kind, .int .u64 (t.n : Int), str t.s, .slice At t.k ct, .bool t.op])) (hgr : (w2.alloc (.cells (itemC t At ct) 68)).grownBy w4 (Value.slice A i c).ownBlock)
  (hbl : v'.ownBlock = (Value.slice A i c).ownBlock \/ ∀ k, v'.ownBlock = some k -> w2.heap.size <= k) :
  ∃ A' c', v' = .slice A' (i + 1) c' /\ LOk w g X N p l o n d sz F (w4.setCell ⟨X, 3, none⟩ v') (i + 1) (e + (flt d (l.drop (p + e))).1) A' c' (put ch i t) (putA ac i (At, ct)) := by
 obtain ⟨h1, h2, h3, h4, h5, h6, h7, h8, h9, h10, h11, h12⟩ := h
 obtain ⟨g', c', rfl, hNg, hgl⟩ := own_form hown
 refine ⟨some ⟨g', 0, none⟩, c', rfl, ?_⟩
 have hlt := h11.lt
 have hXr : X < wr.heap.size := h9.lt
 have hgr2 : g < wr.heap.size := h10.lt
 have hs2 := hm2.size
 have hrow : ∀ k, (Value.slice A i c).ownBlock = some k -> N <= k /\ k < wr.heap.size := hlt
 obtain ⟨S, hS⟩ : ∃ S : List Nat, ∀ k, k ∈ S ↔ (Value.slice A i c).ownBlock = some k := by
  cases A with
  | none => exact ⟨[], fun k => by simp [Value.ownBlock]⟩
  | some a => exact ⟨[a.block], fun k => by simp [Value.ownBlock, eq_comm]⟩
 have hm4 : Mod S w2 w4 := ((Mod.refl S w2).alloc _).grown hgr (fun k hk => .inl ((hS k).2 hk))
 have hsz4 := hm4.size
 have hX4 : X ∉ S := fun hk => by have := hrow X ((hS X).1 hk); omega
 have hg4 : g ∉ S := fun hk => by have := hrow g ((hS g).1 hk); omega
 have hxg : X ≠ g := by omega
 have b4 : Blk w4 X 68 #[.int .i64 4, .int .u64 0, str [], .slice A i c, .bool o] := (h9.mod hm2 (by simpa using hxg)).mod hm4 hX4
 have p4 : PAt w4 g l (p + e + (flt d (l.drop (p + e))).1) 0 := Blk.mod hp2 hm4 hg4
 have hmW : Mod (X :: S) w2 (w4.setCell ⟨X, 3, none⟩ (.slice (some ⟨g', 0, none⟩) (i + 1) c')) := (hm4.mono (fun k hk => List.mem_cons_of_mem _ hk)).setCell (p := ⟨X, 3, none⟩) (.inl List.mem_cons_self) _
 have hA' : ∀ b, b < wr.heap.size -> N <= b -> A ≠ some ⟨b, 0, none⟩ -> (some ⟨g', 0, none⟩ : Option Addr) ≠ some ⟨b, 0, none⟩ := by
  intro b hb hN hne he
  simp only [Option.some.injEq, Addr.mk.injEq, and_true] at he
  subst he
  rcases hbl with hbl | hbl
  .
   cases A with
   | none => simp [Value.ownBlock] at hbl
   | some a =>
    have hs := h11.2
    simp [Value.ownBlock] at hbl
    rcases hs with ⟨hs, _⟩ | ⟨q, cap, cur, hs, _⟩
    . cases hs
    .
     simp only [Value.slice.injEq, Option.some.injEq] at hs
     obtain ⟨rfl, _⟩ := hs
     simp at hbl
     subst hbl
     exact hne rfl
  . have := hbl g' rfl; omega
 have hle := flt_le d (l.drop (p + e))
 rw [List.length_drop] at hle
 refine ⟨by omega, fun ho => hin ho, ?_, by omega, ?_, ?_, ?_, ?_, ?_, ?_, ?_, ?_⟩
 .
  rw [<- h3, show 1000 - i = (1000 - (i + 1)) + 1 by omega]
  conv => rhs; unfold floop
  rw [if_neg (by rintro ⟨ho, hn⟩; have := hin ho; omega), List.getElem?_drop, if_neg hnb, List.drop_drop, if_pos hr0]
 .
  rw [h5, T.cat, show put ch i t i = t from if_pos rfl, List.append_assoc]
  congr 1
  . exact cat_congr fun j hj => by rw [show put ch i t j = ch j from if_neg (by omega)]
  . rw [List.drop_drop, List.drop_drop, <- Nat.add_assoc]; exact htb.symm
 .
  intro j hj
  by_cases e : j = i
  . subst e; rw [show put ch j t j = t from if_pos rfl]; exact ht
  . rw [show put ch i t j = ch j from if_neg e]; exact h6 j (by omega)
 .
  refine Mod.new (S := g :: X :: S) (((h7.trans hm2).mono (fun k hk => by rw [List.mem_singleton] at hk; subst hk; exact List.mem_cons_self)).trans (hmW.mono (fun k hk => List.mem_cons_of_mem _ hk))) ?_
  intro k hk
  rcases List.mem_cons.1 hk with rfl | hk
  . exact .inl (List.mem_singleton.2 rfl)
  .
   rcases List.mem_cons.1 hk with rfl | hk
   . exact .inr hwX
   .
    have := hrow k ((hS k).1 hk)
    exact .inr (by omega)
 . have := hmW.size; omega
 .
  have := b4.set_ 3 (.slice (some ⟨g', 0, none⟩) (i + 1) c')
  simpa using this
 .
  rw [<- Nat.add_assoc]
  exact Blk.far p4 (by simpa using fun e => hxg e.symm) _
 .
  rw [flatC, flatC_congr (ch := put ch i t) (ac := putA ac i (At, ct)) (ch' := ch) (ac' := ac) (fun j hj => ⟨if_neg (by omega), if_neg (by omega)⟩), show put ch i t i = t from if_pos rfl, show putA ac i (At, ct) i = (At, ct) from if_pos rfl]
  exact ownsRow_setCell_other hown (by simp [Value.ownBlock]; omega) _
 .
  intro j hj
  by_cases e : j = i
  .
   subst e
   rw [show put ch j t j = t from if_pos rfl, show putA ac j (At, ct) j = (At, ct) from if_pos rfl]
   have hS2 : ∀ k, k ∈ X :: S -> k < wr.heap.size := fun k hk => by
    rcases List.mem_cons.1 hk with rfl | hk
    . exact hXr
    . exact (hrow k ((hS k).1 hk)).2
   have q1 : IsC w2 (fun b => wr.heap.size <= b /\ (some ⟨g', 0, none⟩ : Option Addr) ≠ some ⟨b, 0, none⟩) t At ct := IsC.weak (fun k hk hq => ⟨hq, fun he => by
    simp only [Option.some.injEq, Addr.mk.injEq, and_true] at he
    subst he
    rcases hbl with hbl | hbl
    . have := (hrow g' hbl.symm).2; omega
    . have := hbl g' rfl; omega⟩) t hL
   have q2 := IsC.mod hmW (fun k hq hk hm => by have := hS2 k hm; have := hq.1; omega) t q1
   exact IsC.weak (fun k hk hq => ⟨by have := hq.1; omega, hq.2⟩) t q2
  .
   rw [show put ch i t j = ch j from if_neg e, show putA ac i (At, ct) j = ac j from if_neg e]
   have q0 := IsC.weak (R := fun b => N <= b /\ A ≠ some ⟨b, 0, none⟩ /\ (some ⟨g', 0, none⟩ : Option Addr) ≠ some ⟨b, 0, none⟩) (fun k hk hq => ⟨hq.1, hq.2, hA' k hk hq.1 hq.2⟩) (ch j) (h12 j (by omega))
   have q1 := IsC.mod hm2 (fun k hq hk hm => by rw [List.mem_singleton] at hm; subst hm; have := hq.1; omega) (ch j) q0
   have q2 := IsC.mod hmW (fun k hq hk hm => by
    rcases List.mem_cons.1 hm with rfl | hm
    . have := hq.1; omega
    .
     have hk2 := (hS k).1 hm
     cases A with
     | none => simp [Value.ownBlock] at hk2
     | some a =>
      simp [Value.ownBlock] at hk2
      rcases h11.2 with ⟨hs, _⟩ | ⟨q, cap, cur, hs, _⟩
      . cases hs
      .
       simp only [Value.slice.injEq, Option.some.injEq] at hs
       obtain ⟨rfl, _⟩ := hs
       simp at hk2
       subst hk2
       exact hq.2.1 rfl) (ch j) q1
   exact IsC.weak (fun k hk hq => ⟨hq.1, hq.2.2⟩) (ch j) q2
end
def IPost (g : Nat) (l : List UInt8) (p : Nat) (R : Nat × Int) (d : Nat) (w : World) (x : Ending) (w' : World) : Prop :=
 ∃ t A c, x = .returned (itemV t A c) /\ Mod [g] w w' /\ PAt w' g l (p + R.1) R.2 /\ (R.2 = 0 -> (t.right d = true /\ t.ok) /\ t.bytes ++ l.drop (p + R.1) = l.drop p /\ IsC w' (fun b => w.heap.size <= b) t A c)
theorem newstr_bad {L : List UInt8} {sz k n : Nat} {o : Bool} (h : readH L = some (sz, k, n, o)) (hb : o = true \/ L.length - sz < n) : (RS.new L).str k 1073741824 = ((RS.new L).Head.1.fail 2, []) := by
 have e := RS.Head_some (r := RS.new L) rfl h
 unfold RS.str
 rw [e]
 dsimp only
 rw [if_pos rfl, if_pos (.inr (by simpa [RS.new] using hb))]
theorem newstr_good {L : List UInt8} {sz k n : Nat} {o : Bool} (h : readH L = some (sz, k, n, o)) (hL : L.length <= 1073741824) (hb : ¬ (o = true \/ L.length - sz < n)) : (RS.new L).str k 1073741824 = (⟨L, sz + n, -1, 0, 0⟩, (L.drop sz).take n) := by
 have e := RS.Head_some (r := RS.new L) rfl h
 unfold RS.str
 rw [e]
 dsimp only
 rw [if_pos rfl, if_neg (by rintro (h1 | h1); exact h1 rfl; exact hb (by simpa [RS.new] using h1)), if_neg (by simp only [not_or, Nat.not_lt] at hb ⊢; omega)]
 simp [RS.new]
theorem newfail_e (L : List UInt8) {sz k n : Nat} {o : Bool} (h : readH L = some (sz, k, n, o)) : ((RS.new L).Head.1.fail 2).e = 2 /\ ((RS.new L).Head.1.fail 2).bad = 0 := by
 rw [RS.Head_some (r := RS.new L) rfl h]
 unfold RS.fail
 rw [if_pos rfl]
 exact ⟨rfl, rfl⟩
def sT (k : Nat) (s : List UInt8) : T := T.mk k 0 s false 0 fun _ => T.nil
theorem sT_good {l : List UInt8} {p sz k n d : Nat} {o : Bool} (hk : k = 2 \/ k = 3) (h : readH (l.drop p) = some (sz, k, n, o)) (hL : l.length <= 1073741824) (hb : ¬ (o = true \/ (l.drop p).length - sz < n)) :
  ((sT k (((l.drop p).drop sz).take n)).right (d + 1) = true /\ (sT k (((l.drop p).drop sz).take n)).ok) /\ (sT k (((l.drop p).drop sz).take n)).bytes ++ l.drop (p + (sz + n)) = l.drop p := by
 simp only [not_or, Nat.not_lt, Bool.not_eq_true] at hb
 obtain ⟨rfl, hn⟩ := hb
 have hh := readH_some h
 have hlen : (((l.drop p).drop sz).take n).length = n := by rw [List.length_take, List.length_drop]; omega
 have h1 := hh.closed rfl
 have hle := hh.le
 rw [List.length_drop] at hn hle
 refine ⟨⟨?_, ?_⟩, ?_⟩
 .
  unfold sT T.right T.node
  rcases hk with rfl | rfl <;> simp [T.all]
 .
  unfold sT T.ok
  rw [hlen]
  exact ⟨by omega, by omega, by omega, by omega, fun i hi => by omega⟩
 .
  have e : (sT k (((l.drop p).drop sz).take n)).bytes = headL k n ++ ((l.drop p).drop sz).take n := by
   unfold sT T.bytes
   rw [if_neg (by omega), if_pos (by omega), hlen, Int.toNat_natCast]
  rw [e, <- h1.1, <- List.drop_drop, <- List.drop_drop, List.append_assoc, List.take_append_drop, List.take_append_drop]
def strR (o : Bool) (L : List UInt8) (sz n : Nat) : Nat × Int := if o = true \/ L.length - sz < n then (0, 2) else (sz + n, 0)
set_option maxRecDepth 20000 in
set_option maxHeartbeats 800000 in
theorem pstr_any (k : Nat) (hk : Hid (k = 2 \/ k = 3)) (g : Nat) (l : List UInt8) (p : Nat) (hp : Hid (p <= l.length /\ l.length <= 1073741824)) (d sz n : Nat) (o : Bool) (hr : Hid (readH (l.drop p) = some (sz, k, n, o)))
  (w : World) (h : PAt w g l p 0) :
  Calls Tryz.prog 143 #[.pointer (some ⟨g, 0, none⟩), .int .i64 (k : Int)] w (IPost g l p (strR o (l.drop p) sz n) (d + 1) w) := by
 have hrk : Hid (RS.ok (RS.new (l.drop p))) := RS.new_ok (by have := hp.out; rw [List.length_drop]; omega)
 have H0 := hid (Blk.alloc h (.cells (itemC nulT none 0) 68))
 have hg : Hid (g < w.heap.size) := Blk.lt h
 clear h
 go_enter Tryz.func143, Tryz.ntmps143
 go_wp2_with fail
 refine (preader_any g l p 0 hp _ H0.out).mono ?_
 rintro x w1 ⟨rfl, hb1, hr1⟩
 have P1 := hid (H0.out.ext hb1)
 have B1 := hid ((Blk.new w 68 (itemC nulT none 0)).ext hb1)
 have HE1 := hid (((Mod.refl [] w).alloc (.cells (itemC nulT none 0) 68)).trans hb1)
 have hw1 : Hid (w.heap.size + 1 <= w1.heap.size) := by have := hb1.size; simp at this; exact this
 have hR1 : RdAt w1 (w.heap.size + 1) (RS.new (l.drop p)) := by simpa using hr1
 have HR1 := hid hR1
 clear hr1 hR1 hb1
 go_upto_region 2 with fail
 go_cut [5, 6] (fun s5 s6 wx => ∃ R X, s5 = .pointer (some ⟨R, 0, none⟩) /\ s6 = .pointer (some ⟨X, 0, none⟩) /\ Hid (Ext w wx /\ PAt wx g l p 0 /\ Blk wx w.heap.size 68 (itemC nulT none 0) /\ RdAt wx R (RS.new (l.drop p)) /\ Blk wx X 68 (itemC (sT k []) none 0) /\ w.heap.size < R /\ R < X))
 case first =>
  go_wp2_with fail
  go_meet
  refine ⟨w.heap.size + 1, w1.heap.size, rfl, rfl, HE1.out.alloc _, P1.out.alloc _, B1.out.alloc _, Blk.alloc HR1.out _, Blk.new _ _ _, by omega, ?_⟩
  have := Blk.lt HR1.out; omega
 obtain ⟨R, X, rfl, rfl, hH⟩ := hcut
 clear P1 B1 HE1 HR1 hw1 H0
 have hgX : Hid (g ≠ X /\ g ≠ R /\ X ≠ R /\ w.heap.size ≠ g /\ w.heap.size ≠ R /\ w.heap.size ≠ X) := by have h1 := hg.out; have h2 := hH.out.2.2.2.2.2; unfold Hid; omega
 have BX := hid hH.out.2.2.2.2.1
 have HSX : Hid (∀ W, Mod [R] wc W -> W.cell? ⟨X, 2, none⟩ = some (str []) /\ W.frozen? ⟨X, 2, none⟩ = false) := fun W hW => ⟨(BX.out.mod hW (by simpa using hgX.out.2.2.1)).cell 2, (BX.out.mod hW (by simpa using hgX.out.2.2.1)).frozen 2⟩
 have HXS : Hid (∀ W s, Blk W X 68 (itemC (sT k []) none 0) -> Blk (W.setCell ⟨X, 2, none⟩ (str s)) X 68 (itemC (sT k s) none 0)) := fun W s h => by
  have := Blk.set_ h 2 (str s)
  simpa [itemC, sT, T.kind, T.n, T.s, T.k, T.op] using this
 have HJ : Hid (∀ w2 r s, Mod [R] wc w2 -> RdAt w2 R r -> (Ext w (w2.setCell ⟨X, 2, none⟩ (str s)) /\ PAt (w2.setCell ⟨X, 2, none⟩ (str s)) g l p 0 /\ Blk (w2.setCell ⟨X, 2, none⟩ (str s)) w.heap.size 68 (itemC nulT none 0) /\ RdAt (w2.setCell ⟨X, 2, none⟩ (str s)) R r /\ Blk (w2.setCell ⟨X, 2, none⟩ (str s)) X 68 (itemC (sT k s) none 0))) := by
  intro w2 r s hm hr
  obtain ⟨k1, k2, k3, k4, k5, k6⟩ := hH.out
  obtain ⟨n1, n2, n3, n4, n5, n6⟩ := hgX.out
  refine ⟨?_, ?_, ?_, ?_, HXS.out _ _ (k5.mod hm (by simpa using n3))⟩
  . exact Mod.new (S := [R, X]) ((k1.of_ext.trans (hm.mono (by simp))).setCell (.inl (by simp)) _) (fun k hk => .inr (by simp at hk; omega))
  . exact Blk.far (k2.mod hm (by simpa using n2)) (by simpa using n1) _
  . exact Blk.far (k3.mod hm (by simpa using n5)) (by simpa using n6) _
  . exact Blk.far hr (by simpa using fun e => n3 e.symm) _
 go_step
 go_step
 go_cut [] (fun wx => Hid (Ext w wx /\ PAt wx g l p 0 /\ Blk wx w.heap.size 68 (itemC nulT none 0) /\ RdAt wx R ((RS.new (l.drop p)).str k 1073741824).1 /\ Blk wx X 68 (itemC (sT k ((RS.new (l.drop p)).str k 1073741824).2) none 0)))
 case first =>
  rcases hk.out with rfl | rfl
  .
   go_wp2_with (go_at_call 169; refine (RBytes_any R _ hrk.out 1073741824 (by unfold Hid; omega) _ hH.out.2.2.2.1).mono ?_; rintro x w2 ⟨rfl, hm2, hr2⟩; obtain ⟨x2, f2⟩ := HSX.out w2 hm2)
   go_meet
   exact HJ.out _ _ _ hm2 hr2
  .
   go_wp2_with (go_at_call 170; refine (RText_any R _ hrk.out 1073741824 (by unfold Hid; omega) _ hH.out.2.2.2.1).mono ?_; rintro x w2 ⟨rfl, hm2, hr2⟩; obtain ⟨x2, f2⟩ := HSX.out w2 hm2)
   go_meet
   exact HJ.out _ _ _ hm2 hr2
 clear HJ HXS HSX BX
 by_cases hb : o = true \/ (l.drop p).length - sz < n
 .
  have HS := newstr_bad hr.out hb
  have HF := hid (newfail_e _ hr.out)
  have hR0 : strR o (l.drop p) sz n = (0, 2) := if_pos hb
  have HR0 := hid hR0
  rw [HS] at hcut
  clear hR0 HS hb
  go_wp2_with fail
  refine (Bad_any R _ _ hcut.out.2.2.2.1).mono ?_
  rintro x w3 ⟨rfl, hb3⟩
  rw [HF.out.1]
  have P3 := hid (hcut.out.2.1.ext hb3)
  have B3 := hid (hcut.out.2.2.1.ext hb3)
  have HE3 := hid (hcut.out.1.trans hb3)
  have q1 : w3.cell? ⟨g, 1, none⟩ = some (.int .i64 (p : Int)) := PAt.at_ P3.out
  clear hb3
  go_wp2_with fail
  refine (pfail_any g l p p 2 _ P3.out).mono ?_
  rintro x w4 ⟨rfl, hm4, hp4⟩
  have B4 := B3.out.mod hm4 (by simpa using hgX.out.2.2.2.1)
  have HP4 := hid hp4; have HM4 := hid hm4; have HB4 := hid B4
  obtain ⟨c0, c1, c2, c3, c4⟩ := cells5 B4
  have f0 := B4.frozen 0
  have f1 := B4.frozen 1
  have f2 := B4.frozen 2
  have f3 := B4.frozen 3
  have f4 := B4.frozen 4
  clear hm4 hp4 B4 q1
  go_wp2_with fail
  obtain ⟨d0, d1, d2, d3, d4⟩ := cells5 (set5_blk (t := nulT) (A := none) (c := 0) HB4.out)
  clear c0 c1 c2 c3 c4 f0 f1 f2 f3 f4
  show bodyPost _ _ _ _ _ (set5 w4 w.heap.size nulT none 0)
  refine bodyPost_ret (v := itemV nulT none 0) (by simp [results, Tryz.results143, go_sem, d0, d1, d2, d3, d4]) rfl ?_
  rw [HR0.out]
  refine ⟨nulT, none, 0, rfl, set5_mod (HE3.out.of_ext.trans HM4.out) (Nat.le_refl _), set5_far HP4.out (by simpa using fun e => hgX.out.2.2.2.1 e.symm), fun h => by cases h⟩
 .
  have HS := newstr_good hr.out (by rw [List.length_drop]; have := hp.out; omega) hb
  have hR0 : strR o (l.drop p) sz n = (sz + n, 0) := if_neg hb
  have HN : Hid (sz + n <= 1073741824) := by
   have h1 := (readH_some hr.out).le
   have h2 := hp.out
   simp only [not_or, Nat.not_lt] at hb
   have h3 := hb.2
   rw [List.length_drop] at h1 h3
   unfold Hid; omega
  have HG := hid (sT_good (d := d) hk.out hr.out hp.out.2 hb)
  have HR0 := hid hR0
  rw [HS] at hcut
  clear hR0 HS hb
  go_wp2_with fail
  refine (Bad_any R _ _ hcut.out.2.2.2.1).mono ?_
  rintro x w3 ⟨rfl, hb3⟩
  have P3 := hid (hcut.out.2.1.ext hb3)
  have B3 := hid (hcut.out.2.2.1.ext hb3)
  have R3 := hid (hcut.out.2.2.2.1.ext hb3)
  have X3 := hid (hcut.out.2.2.2.2.ext hb3)
  have HE3 := hid (hcut.out.1.trans hb3)
  clear hb3
  have q1 : w3.cell? ⟨g, 1, none⟩ = some (.int .i64 (p : Int)) := PAt.at_ P3.out
  have z1 : w3.frozen? ⟨g, 1, none⟩ = false := PAt.froz P3.out 1
  have hp1 : (p : Int) <= 1073741824 := by have := hp.out; omega
  have hp0 : (0 : Int) <= (p : Int) := by omega
  have hs1 : (sz : Int) + (n : Int) <= 1073741824 := by have := HN.out; omega
  have hs0 : (0 : Int) <= (sz : Int) + (n : Int) := by omega
  have tw : IntKind.i64.wrap ((p : Int) + ((sz : Int) + (n : Int))) = (p : Int) + ((sz : Int) + (n : Int)) := IntWalk.i64_in _ (by omega)
  have HP9 : Hid (Mod [g] w (w3.setCell ⟨g, 1, none⟩ (.int .i64 ((p : Int) + ((sz : Int) + (n : Int))))) /\ PAt (w3.setCell ⟨g, 1, none⟩ (.int .i64 ((p : Int) + ((sz : Int) + (n : Int))))) g l (p + (sz + n)) 0 /\
    Blk (w3.setCell ⟨g, 1, none⟩ (.int .i64 ((p : Int) + ((sz : Int) + (n : Int))))) w.heap.size 68 (itemC nulT none 0) /\ Blk (w3.setCell ⟨g, 1, none⟩ (.int .i64 ((p : Int) + ((sz : Int) + (n : Int))))) X 68 (itemC (sT k (((l.drop p).drop sz).take n)) none 0)) := by
   refine ⟨HE3.out.of_ext.setCell (.inl (by simp)) _, ?_, Blk.far B3.out (by simpa using hgX.out.2.2.2.1) _, Blk.far X3.out (by simpa using fun e => hgX.out.1 e.symm) _⟩
   have := Blk.set_ P3.out 1 (.int .i64 ((p + (sz + n) : Nat) : Int))
   simpa [PAt] using this
  go_upto_region 9 with fail
  go_cut [] (fun wx => Hid (Mod [g] w wx /\ PAt wx g l (p + (sz + n)) 0 /\ Blk wx w.heap.size 68 (itemC nulT none 0) /\ Blk wx X 68 (itemC (sT k (((l.drop p).drop sz).take n)) none 0)))
  case first =>
   go_region_with ((go_at_call 141; refine (At_any R ⟨l.drop p, sz + n, -1, 0, 0⟩ _ ?_).mono ?_; (first | exact R3.out | exact Blk.drew R3.out | exact Blk.drew (Blk.drew R3.out)); rintro x w' ⟨rfl, rfl⟩))
   all_goals go_wp2_with fail
   all_goals go_meet
   all_goals exact ⟨by first | exact HP9.out.1 | exact HP9.out.1.drew, HP9.out.2⟩
  clear q1 z1 hp1 hp0 hs1 hs0 tw HP9 X3
  have hc2 := hid hcut.out
  have hg2 := hid HG.out
  clear hcut HG
  have HLs : Hid (∀ W Q, IsC W Q (sT k (((l.drop p).drop sz).take n)) none 0) := fun W Q => IsC.leaf
  generalize sT k (((l.drop p).drop sz).take n) = t at *
  obtain ⟨x0, x1, x2, x3, x4⟩ := cells5 hc2.out.2.2.2
  have B4 := hc2.out.2.2.1
  obtain ⟨c0, c1, c2, c3, c4⟩ := cells5 B4
  have f0 := B4.frozen 0
  have f1 := B4.frozen 1
  have f2 := B4.frozen 2
  have f3 := B4.frozen 3
  have f4 := B4.frozen 4
  have HB4 := hid B4
  clear B4
  go_wp2_with fail
  obtain ⟨d0, d1, d2, d3, d4⟩ := cells5 (set5_blk (t := t) (A := none) (c := 0) HB4.out)
  clear c0 c1 c2 c3 c4 f0 f1 f2 f3 f4 x0 x1 x2 x3 x4
  show bodyPost _ _ _ _ _ (set5 wc w.heap.size t none 0)
  refine bodyPost_ret (v := itemV t none 0) (by simp [results, Tryz.results143, go_sem, d0, d1, d2, d3, d4]) rfl ?_
  rw [HR0.out]
  refine ⟨_, none, 0, rfl, set5_mod hc2.out.1 (Nat.le_refl _), set5_far hc2.out.2.1 (by simpa using fun e => hgX.out.2.2.2.1 e.symm), fun _ => ⟨hg2.out.1, hg2.out.2, HLs.out _ _⟩⟩
structure LErr (w : World) (g X : Nat) (l : List UInt8) (p : Nat) (F : Nat × Int) (wr : World) : Prop where
 ne : F.2 ≠ 0
 mod : Mod [g] w wr
 x : ∃ t A c, Blk wr X 68 (itemC t A c)
 pa : PAt wr g l (p + F.1) F.2
theorem LOk.next {w : World} {g X N p : Nat} {l : List UInt8} {o : Bool} {n d sz : Nat} {F : Nat × Int} {wr : World} {i e : Nat} {A : Option Addr} {c : Nat} {ch : Nat -> T} {ac : Nat -> Option Addr × Nat}
  (h : LOk w g X N p l o n d sz F wr i e A c ch ac) (hi : i < 1000) (hin : o = false -> i < n) (hnb : ¬ (o = true /\ l[p + e]? = some 255)) (hr : (flt d (l.drop (p + e))).2 ≠ 0) :
  F = (e + (flt d (l.drop (p + e))).1, (flt d (l.drop (p + e))).2) := by
 rw [<- h.fl, show 1000 - i = (1000 - (i + 1)) + 1 by omega]
 unfold floop
 rw [if_neg (by rintro ⟨ho, hn⟩; have := hin ho; omega), List.getElem?_drop, if_neg hnb, List.drop_drop, if_neg hr]
theorem LOk.stepErr {w : World} {g X N p : Nat} {l : List UInt8} {o : Bool} {n d sz : Nat} {F : Nat × Int} {wr : World} {i e : Nat} {A : Option Addr} {c : Nat} {ch : Nat -> T} {ac : Nat -> Option Addr × Nat}
  (h : LOk w g X N p l o n d sz F wr i e A c ch ac) (hg : g < w.heap.size) (hwX : w.heap.size <= X) (hXN : X < N) (hi : i < 1000) (hin : o = false -> i < n) (hnb : ¬ (o = true /\ l[p + e]? = some 255))
  {t : T} {At : Option Addr} {ct : Nat} {w2 w4 : World} {v' : Value} {xs : List Value} (hr : (flt d (l.drop (p + e))).2 ≠ 0) (hm2 : Mod [g] wr w2) (hp2 : PAt w2 g l (p + e + (flt d (l.drop (p + e))).1) (flt d (l.drop (p + e))).2)
  (hown : w4.ownsRow N 68 5 v' (i + 1) xs) (hgr : (w2.alloc (.cells (itemC t At ct) 68)).grownBy w4 (Value.slice A i c).ownBlock) :
  LErr w g X l p F (w4.setCell ⟨X, 3, none⟩ v') := by
 have hF := h.next hi hin hnb hr
 obtain ⟨h1, h2, h3, h4, h5, h6, h7, h8, h9, h10, h11, h12⟩ := h
 obtain ⟨g', c', rfl, hNg, hgl⟩ := own_form hown
 have hrow : ∀ k, (Value.slice A i c).ownBlock = some k -> N <= k /\ k < wr.heap.size := h11.lt
 obtain ⟨S, hS⟩ : ∃ S : List Nat, ∀ k, k ∈ S ↔ (Value.slice A i c).ownBlock = some k := by
  cases A with
  | none => exact ⟨[], fun k => by simp [Value.ownBlock]⟩
  | some a => exact ⟨[a.block], fun k => by simp [Value.ownBlock, eq_comm]⟩
 have hm4 : Mod S w2 w4 := ((Mod.refl S w2).alloc _).grown hgr (fun k hk => .inl ((hS k).2 hk))
 have hX4 : X ∉ S := fun hk => by have := hrow X ((hS X).1 hk); omega
 have hg4 : g ∉ S := fun hk => by have := hrow g ((hS g).1 hk); omega
 have hxg : X ≠ g := by omega
 have b4 : Blk w4 X 68 #[.int .i64 4, .int .u64 0, str [], .slice A i c, .bool o] := (h9.mod hm2 (by simpa using hxg)).mod hm4 hX4
 have p4 : PAt w4 g l (p + e + (flt d (l.drop (p + e))).1) (flt d (l.drop (p + e))).2 := Blk.mod hp2 hm4 hg4
 have hmW : Mod (X :: S) w2 (w4.setCell ⟨X, 3, none⟩ (.slice (some ⟨g', 0, none⟩) (i + 1) c')) := (hm4.mono (fun k hk => List.mem_cons_of_mem _ hk)).setCell (p := ⟨X, 3, none⟩) (.inl List.mem_cons_self) _
 refine ⟨by rw [hF]; exact hr, ?_, ⟨T.mk 4 0 [] o (i + 1) ch, some ⟨g', 0, none⟩, c', ?_⟩, ?_⟩
 .
  refine Mod.new (S := g :: X :: S) (((h7.trans hm2).mono (fun k hk => by rw [List.mem_singleton] at hk; subst hk; exact List.mem_cons_self)).trans (hmW.mono (fun k hk => List.mem_cons_of_mem _ hk))) ?_
  intro k hk
  rcases List.mem_cons.1 hk with rfl | hk
  . exact .inl (List.mem_singleton.2 rfl)
  .
   rcases List.mem_cons.1 hk with rfl | hk
   . exact .inr hwX
   .
    have := hrow k ((hS k).1 hk)
    exact .inr (by omega)
 .
  have := b4.set_ 3 (.slice (some ⟨g', 0, none⟩) (i + 1) c')
  simpa [itemC, T.kind, T.n, T.s, T.k, T.op] using this
 .
  rw [hF]
  dsimp only
  rw [<- Nat.add_assoc]
  exact Blk.far p4 (by simpa using fun e => hxg e.symm) _
theorem LOk.ends {w : World} {g X N p : Nat} {l : List UInt8} {o : Bool} {n d sz : Nat} {F : Nat × Int} {wr : World} {i e : Nat} {A : Option Addr} {c : Nat} {ch : Nat -> T} {ac : Nat -> Option Addr × Nat}
  (h : LOk w g X N p l o n d sz F wr i e A c ch ac) (hh : readH (l.drop p) = some (sz, 4, n, o)) (hn : o = false -> i = n) {e' : Nat} (he : l.drop (p + e) = (if o then [255] else []) ++ l.drop (p + e')) :
  ((T.mk 4 0 [] o i ch).right (d + 1) = true /\ (T.mk 4 0 [] o i ch).ok) /\ (T.mk 4 0 [] o i ch).bytes ++ l.drop (p + e') = l.drop p /\ IsC wr (fun b => N <= b) (T.mk 4 0 [] o i ch) A c := by
 obtain ⟨h1, h2, h3, h4, h5, h6, h7, h8, h9, h10, h11, h12⟩ := h
 have hs := readH_some hh
 refine ⟨⟨?_, ?_⟩, ?_, ?_⟩
 .
  unfold T.right T.node
  rw [if_neg (by omega), Bool.and_eq_true, T.all_iff]
  exact ⟨by simp [h1], fun j hj => (h6 j hj).1⟩
 .
  unfold T.ok
  exact ⟨by omega, by omega, by simp, by omega, fun j hj => (h6 j hj).2⟩
 .
  have e1 : (T.mk 4 0 [] o i ch).bytes = (if o then [159] else headL 4 i) ++ (T.cat (fun j => (ch j).bytes) i ++ (if o then [255] else [])) := rfl
  rw [List.drop_drop, List.drop_drop, he] at h5
  rw [e1, List.append_assoc, List.append_assoc, <- h5]
  cases o with
  | false =>
   obtain rfl := hn rfl
   simp only [Bool.false_eq_true, if_false]
   rw [<- (hs.closed rfl).1, <- List.drop_drop, List.take_append_drop]
  | true =>
   simp only [if_true]
   have h8 := hs.opened rfl
   obtain rfl := h8.1
   rw [show ([159] : List UInt8) = (l.drop p).take 1 from h8.2.2.2.symm, <- List.drop_drop, List.take_append_drop]
 .
  refine ⟨room_cap h11, fun h0 => ?_⟩
  obtain ⟨i', rfl⟩ : ∃ i', i = i' + 1 := ⟨i - 1, by omega⟩
  obtain ⟨g', c', hv, hNg, hgl⟩ := own_form h11
  simp only [Value.slice.injEq] at hv
  obtain ⟨rfl, _, rfl⟩ := hv
  refine ⟨g', 0, rfl, hgl, hNg, fun j hj => ⟨(ac j).1, (ac j).2, ?_, IsC.weak (fun k hk hq => hq.1) (ch j) (h12 j hj)⟩⟩
  obtain ⟨f0, f1, f2, f3, f4⟩ := flatC_get ch ac (i' + 1) j hj
  rw [Nat.zero_add]
  exact ⟨(h11.cellAt _ (by omega)).trans f0, (h11.cellAt _ (by omega)).trans f1, (h11.cellAt _ (by omega)).trans f2, (h11.cellAt _ (by omega)).trans f3, (h11.cellAt _ (by omega)).trans f4⟩
theorem LOk.F_closed {w : World} {g X N p : Nat} {l : List UInt8} {n d sz : Nat} {F : Nat × Int} {wr : World} {i e : Nat} {A : Option Addr} {c : Nat} {ch : Nat -> T} {ac : Nat -> Option Addr × Nat}
  (h : LOk w g X N p l false n d sz F wr i e A c ch ac) (hi : i = n) : F = (e, 0) := by
 have h1 := h.i1000
 rw [<- h.fl]
 cases hj : 1000 - i with
 | zero => unfold floop; rw [if_pos ⟨rfl, by omega⟩]
 | succ j => unfold floop; rw [if_pos ⟨rfl, by omega⟩]
theorem LOk.F_break {w : World} {g X N p : Nat} {l : List UInt8} {n d sz : Nat} {F : Nat × Int} {wr : World} {i e : Nat} {A : Option Addr} {c : Nat} {ch : Nat -> T} {ac : Nat -> Option Addr × Nat}
  (h : LOk w g X N p l true n d sz F wr i e A c ch ac) (hb : l[p + e]? = some 255) : F = (e + 1, 0) := by
 have h1 := h.i1000
 rw [<- h.fl]
 cases hj : 1000 - i with
 | zero => unfold floop; rw [if_neg (by simp), List.getElem?_drop, if_pos ⟨rfl, hb⟩]
 | succ j => unfold floop; rw [if_neg (by simp), List.getElem?_drop, if_pos ⟨rfl, hb⟩]
theorem LOk.F_long {w : World} {g X N p : Nat} {l : List UInt8} {n d sz : Nat} {F : Nat × Int} {wr : World} {i e : Nat} {A : Option Addr} {c : Nat} {ch : Nat -> T} {ac : Nat -> Option Addr × Nat}
  (h : LOk w g X N p l true n d sz F wr i e A c ch ac) (hi : i = 1000) (hb : ¬ l[p + e]? = some 255) : F = (e, 4) := by
 rw [<- h.fl, hi, show 1000 - 1000 = 0 from rfl]
 unfold floop
 rw [if_neg (by simp), List.getElem?_drop, if_neg (fun x => hb x.2)]
theorem LOk.own2 {w : World} {g X N p : Nat} {l : List UInt8} {o : Bool} {n d sz : Nat} {F : Nat × Int} {wr : World} {i e : Nat} {A : Option Addr} {c : Nat} {ch : Nat -> T} {ac : Nat -> Option Addr × Nat}
  (h : LOk w g X N p l o n d sz F wr i e A c ch ac) (hgN : g < N) {w2 : World} (hm2 : Mod [g] wr w2) (ob : Obj) : (w2.alloc ob).ownsRow N 68 5 (.slice A i c) i (flatC ch ac i) :=
 (ownsRow_mod h.own hm2 (fun k hk => by have := (h.own.lt k hk).1; simp; omega)).alloc ob
theorem LOk.ext {w : World} {g X N p : Nat} {l : List UInt8} {o : Bool} {n d sz : Nat} {F : Nat × Int} {wr w2 : World} {i e : Nat} {A : Option Addr} {c : Nat} {ch : Nat -> T} {ac : Nat -> Option Addr × Nat}
  (h : LOk w g X N p l o n d sz F wr i e A c ch ac) (hm : Ext wr w2) : LOk w g X N p l o n d sz F w2 i e A c ch ac := by
 obtain ⟨h1, h2, h3, h4, h5, h6, h7, h8, h9, h10, h11, h12⟩ := h
 exact ⟨h1, h2, h3, h4, h5, h6, h7.trans hm.of_ext, Nat.le_trans h8 hm.size, h9.ext hm, Blk.ext h10 hm, ownsRow_mod h11 hm (by simp), fun j hj => (h12 j hj).ext hm⟩
theorem LOk.keep {w : World} {g X N p : Nat} {l : List UInt8} {o : Bool} {n d sz : Nat} {F : Nat × Int} {wr : World} {i e : Nat} {A : Option Addr} {c : Nat} {ch : Nat -> T} {ac : Nat -> Option Addr × Nat}
  (h : LOk w g X N p l o n d sz F wr i e A c ch ac) {w2 w4 : World} (hm2 : Mod [g] wr w2) {ob : Obj} (hgr : (w2.alloc ob).grownBy w4 (Value.slice A i c).ownBlock)
  {b : Nat} {ty : TypeId} {cs : Array Value} (hB : Blk wr b ty cs) (hbg : b ≠ g) (hbN : b < N) : Blk w4 b ty cs := by
 have hrow : ∀ k, (Value.slice A i c).ownBlock = some k -> N <= k /\ k < wr.heap.size := h.own.lt
 obtain ⟨S, hS⟩ : ∃ S : List Nat, ∀ k, k ∈ S ↔ (Value.slice A i c).ownBlock = some k := by
  cases A with
  | none => exact ⟨[], fun k => by simp [Value.ownBlock]⟩
  | some a => exact ⟨[a.block], fun k => by simp [Value.ownBlock, eq_comm]⟩
 have hm4 : Mod S w2 w4 := ((Mod.refl S w2).alloc _).grown hgr (fun k hk => .inl ((hS k).2 hk))
 exact (hB.mod hm2 (by simpa using hbg)).mod hm4 (fun hk => by have := hrow b ((hS b).1 hk); omega)
theorem LOk.room {w : World} {g X N p : Nat} {l : List UInt8} {o : Bool} {n d sz : Nat} {F : Nat × Int} {wr : World} {i e : Nat} {A : Option Addr} {c : Nat} {ch : Nat -> T} {ac : Nat -> Option Addr × Nat}
  (h : LOk w g X N p l o n d sz F wr i e A c ch ac) {w2 : World} (hm2 : Mod [g] wr w2) : N <= w2.heap.size := Nat.le_trans h.nx hm2.size
theorem Blk.newAt (w : World) (t : TypeId) (cs : Array Value) {N : Nat} (h : w.heap.size = N) : Blk (w.alloc (.cells cs t)) N t cs := by subst h; exact Blk.new _ _ _
set_option maxRecDepth 20000 in
set_option maxHeartbeats 1600000 in
theorem plist_any (d : Nat) (hd : Hid (d <= 8)) (g : Nat) (l : List UInt8) (hl : Hid (l.length <= 1073741824))
  (IH : Hid (∀ (p : Nat), p <= l.length -> ∀ w, PAt w g l p 0 -> Calls Tryz.prog 118 #[.pointer (some ⟨g, 0, none⟩), .int .i64 (d : Int)] w (IPost g l p (flt d (l.drop p)) d w)))
  (p sz n : Nat) (o : Bool) (nI : Int) (hn : Hid ((o = true -> nI = -1) /\ (o = false -> nI = n))) (hr : Hid (readH (l.drop p) = some (sz, 4, n, o))) (hnn : Hid (o = false -> n <= 1000)) (hpl : Hid (p + sz <= l.length))
  (w : World) (h : PAt w g l (p + sz) 0) :
  Calls Tryz.prog 145 #[.pointer (some ⟨g, 0, none⟩), .int .i64 nI, .int .i64 ((d : Int) + 1)] w (IPost g l p (floop (flt d) (l.drop p) o n 1000 sz) (d + 1) w) := by
 have hg : Hid (g < w.heap.size) := Blk.lt h
 have t1 : decide (nI < 0) = o := by
  have := hn.out
  cases o with
  | true => rw [this.1 rfl]; rfl
  | false => rw [this.2 rfl]; simp
 obtain ⟨F, hF⟩ : ∃ F, F = floop (flt d) (l.drop p) o n 1000 sz := ⟨_, rfl⟩
 rw [<- hF]
 have HB0 := hid ((Blk.new w 68 (itemC nulT none 0)).alloc (.cells #[.int .i64 4, .int .u64 0, str [], .slice none 0 0, .bool o] 68))
 have HL0 : Hid (LOk w g (w.heap.size + 1) (w.heap.size + 2) p l o n d sz F ((w.alloc (.cells (itemC nulT none 0) 68)).alloc (.cells #[.int .i64 4, .int .u64 0, str [], .slice none 0 0, .bool o] 68)) 0 sz none 0 (fun _ => T.nil) (fun _ => (none, 0))) := by
  refine ⟨by omega, fun _ => Nat.zero_le _, hF.symm, hpl.out, by simp [T.cat], fun j hj => by omega, ((Mod.refl _ _).alloc _).alloc _, by simp, Blk.newAt _ _ _ (by simp), (Blk.alloc (Blk.alloc h _) _), World.ownsRow_nil _ _ _ _, fun j hj => by omega⟩
 have HF := hid hF
 clear hF h
 go_enter Tryz.func145, Tryz.ntmps145
 go_wp2_with fail
 go_loopg [] 1001 (fun gk wr => Hid (Blk wr w.heap.size 68 (itemC nulT none 0)) /\ ((∃ i e A c ch ac, gk = 1001 - i /\ Hid (LOk w g (w.heap.size + 1) (w.heap.size + 2) p l o n d sz F wr i e A c ch ac)) \/ (gk = 0 /\ Hid (LErr w g (w.heap.size + 1) l p F wr))))
 case atStart => exact ⟨HB0.out, .inl ⟨0, sz, none, 0, _, _, rfl, HL0.out⟩⟩
 case round =>
  clear HB0 HL0
  obtain ⟨hB, ⟨i, e, A, c, ch, ac, rfl, hK⟩ | ⟨rfl, hE⟩⟩ := hrel
  .
   obtain ⟨q, hq⟩ : ∃ q, q = p + e := ⟨_, rfl⟩
   have hpa : PAt wr g l q 0 := by rw [hq]; exact hK.out.pa
   have HPA := hid hpa
   have p1 : wr.cell? ⟨g, 1, none⟩ = some (.int .i64 (q : Int)) := PAt.at_ hpa
   have p2 : wr.cell? ⟨g, 2, none⟩ = some (.int .i64 0) := PAt.err hpa
   have hql : Hid (q <= l.length) := by rw [hq]; exact hK.out.le
   have HQ := hid hq
   clear hq hpa
   by_cases hend : o = false /\ i = n
   .
    obtain ⟨ho, hi⟩ := hend
    subst ho
    have hFe := hK.out.F_closed hi
    have HE := hid (hK.out.ends hr.out (fun _ => hi) (e' := e) rfl)
    obtain ⟨t, ht⟩ : ∃ t, t = T.mk 4 0 [] false i ch := ⟨_, rfl⟩
    have hx : Blk wr (w.heap.size + 1) 68 (itemC t A c) := by subst ht; exact hK.out.x
    have hk : t.k = i := by subst ht; rfl
    obtain ⟨x0, x1, x2, x3, x4⟩ := cells5 hx
    have t2 : ((t.k : Int) != nI) = false := by rw [hk, hn.out.2 rfl, hi]; simp
    have t3 : ((t.k : Int) = nI) = True := by rw [hk, hn.out.2 rfl, hi]; simp
    rw [<- ht] at HE
    have HFe := hid hFe
    clear hx ht hk hFe hi
    obtain ⟨c0, c1, c2, c3, c4⟩ := cells5 hB.out
    have f0 := hB.out.frozen 0
    have f1 := hB.out.frozen 1
    have f2 := hB.out.frozen 2
    have f3 := hB.out.frozen 3
    have f4 := hB.out.frozen 4
    go_wp2_with fail
    obtain ⟨d0, d1, d2, d3, d4⟩ := cells5 (set5_blk (t := t) (A := A) (c := c) hB.out)
    clear c0 c1 c2 c3 c4 f0 f1 f2 f3 f4 x0 x1 x2 x3 x4 p1 p2
    show bodyPost _ _ _ _ _ (set5 wr w.heap.size t A c)
    refine bodyPost_ret (v := itemV t A c) (by simp [results, Tryz.results145, go_sem, d0, d1, d2, d3, d4]) rfl ?_
    rw [HFe.out]
    refine ⟨t, A, c, rfl, set5_mod hK.out.mod (Nat.le_refl _), ?_, fun _ => ⟨HE.out.1, HE.out.2.1, ?_⟩⟩
    .
     have := HPA.out
     rw [HQ.out] at this
     exact set5_far this (by have := hg.out; omega)
    . exact IsC.weak (fun k hk hq => by omega) t (IsC.mod set5_modb (fun k hq hk hm => by rw [List.mem_singleton] at hm; omega) t HE.out.2.2)
   by_cases hbr : o = true /\ l[p + e]? = some 255
   .
    obtain ⟨ho, hb⟩ := hbr
    subst ho
    have hFe := hK.out.F_break hb
    have hb2 := get_255.1 hb
    have he : l.drop (p + e) = [255] ++ l.drop (p + (e + 1)) := by
     obtain ⟨v, hv⟩ := hb2
     have h1 : l.drop (p + e + 1) = v := by rw [<- List.drop_drop, hv]; rfl
     rw [hv, <- Nat.add_assoc, h1]; rfl
    have HE := hid (hK.out.ends hr.out (fun h => by cases h) (e' := e + 1) he)
    obtain ⟨t, ht⟩ : ∃ t, t = T.mk 4 0 [] true i ch := ⟨_, rfl⟩
    have hx : Blk wr (w.heap.size + 1) 68 (itemC t A c) := by subst ht; exact hK.out.x
    have hk : t.k = i := by subst ht; rfl
    obtain ⟨x0, x1, x2, x3, x4⟩ := cells5 hx
    have t2 : ((t.k : Int) != nI) = true := by rw [hk, hn.out.1 rfl]; simp
    have t3 : ((t.k : Int) = nI) = False := by rw [hk, hn.out.1 rfl]; simp
    have tb : decide (l[q]? = some 255) = true := by rw [HQ.out, hb]; simp
    rw [<- ht] at HE
    have HFe := hid hFe; have HX := hid hx
    have hlt : q < l.length := by rw [HQ.out]; exact (List.getElem?_eq_some_iff.1 hb).1
    have hq0 : (0 : Int) <= (q : Int) := by omega
    have hq1 : (q : Int) <= 1073741824 := by have := hl.out; omega
    have HLT := hid hlt
    clear hx ht hk hFe hb hb2 he hlt x0 x1 x2 x3 x4
    have x3 : wr.cell? ⟨w.heap.size + 1, 3, none⟩ = some (.slice A t.k c) := HX.out.cell 3
    go_wp2_with fail
    refine (broken_any g l q 0 (show Hid _ from ⟨hql.out, hl.out⟩) _ HPA.out).mono ?_
    rintro x w2 ⟨rfl, hb2⟩
    rw [tb]
    have HP2 := hid (HPA.out.ext hb2)
    have HX2 := hid (HX.out.ext hb2)
    have HB2 := hid (hB.out.ext hb2)
    have HM2 := hid (hK.out.mod.trans hb2.of_ext)
    clear p1 p2 x3
    have p1 : w2.cell? ⟨g, 1, none⟩ = some (.int .i64 (q : Int)) := PAt.at_ HP2.out
    have z1 : w2.frozen? ⟨g, 1, none⟩ = false := PAt.froz HP2.out 1
    obtain ⟨x0, x1, x2, x3, x4⟩ := cells5 HX2.out
    obtain ⟨c0, c1, c2, c3, c4⟩ := cells5 HB2.out
    have f0 := HB2.out.frozen 0
    have f1 := HB2.out.frozen 1
    have f2 := HB2.out.frozen 2
    have f3 := HB2.out.frozen 3
    have f4 := HB2.out.frozen 4
    have HEL := hid (IsC.mod hb2 (fun k hq hk => by simp) t HE.out.2.2)
    have hgX : g ≠ w.heap.size := by have := hg.out; omega
    have hgX1 : ¬ w.heap.size = g := by have := hg.out; omega
    have hgX2 : ¬ w.heap.size + 1 = g := by have := hg.out; omega
    have hgX3 : ¬ g = w.heap.size + 1 := by have := hg.out; omega
    clear hb2
    go_wp2_with fail
    have HB5 : Hid (Blk (w2.setCell ⟨g, 1, none⟩ (.int .i64 ((q : Int) + 1))) w.heap.size 68 (itemC nulT none 0)) := Blk.far HB2.out (by simpa using fun e => hgX e.symm) _
    obtain ⟨d0, d1, d2, d3, d4⟩ := cells5 (set5_blk (t := t) (A := A) (c := c) HB5.out)
    clear c0 c1 c2 c3 c4 f0 f1 f2 f3 f4 x0 x1 x2 x3 x4 p1 z1
    show bodyPost _ _ _ _ _ (set5 (w2.setCell ⟨g, 1, none⟩ (.int .i64 ((q : Int) + 1))) w.heap.size t A c)
    refine bodyPost_ret (v := itemV t A c) (by simp [results, Tryz.results145, go_sem, d0, d1, d2, d3, d4]) rfl ?_
    rw [HFe.out]
    refine ⟨t, A, c, rfl, set5_mod (HM2.out.setCell (.inl (by simp)) _) (Nat.le_refl _), ?_, fun _ => ⟨HE.out.1, HE.out.2.1, ?_⟩⟩
    .
     have h1 := Blk.set_ HP2.out 1 (.int .i64 ((q + 1 : Nat) : Int))
     have h2 : PAt (w2.setCell ⟨g, 1, none⟩ (.int .i64 ((q : Int) + 1))) g l (p + (e + 1)) 0 := by
      rw [<- Nat.add_assoc, <- HQ.out]
      simpa [PAt] using h1
     exact set5_far h2 hgX
    .
     have hm : Mod [g] w2 (w2.setCell ⟨g, 1, none⟩ (.int .i64 ((q : Int) + 1))) := (Mod.refl _ _).setCell (.inl (by simp)) _
     have e1 := IsC.mod hm (fun k hq hk hm => by rw [List.mem_singleton] at hm; have := hg.out; omega) t HEL.out
     exact IsC.weak (fun k hk hq => by omega) t (IsC.mod set5_modb (fun k hq hk hm => by rw [List.mem_singleton] at hm; omega) t e1)
   have hin : Hid (o = false -> i < n) := fun ho => by have h1 := hK.out.iN ho; have h2 : i ≠ n := fun h => hend ⟨ho, h⟩; omega
   have t2 : ((i : Int) != nI) = true := by
    have := hn.out
    cases o with
    | true => rw [this.1 rfl]; simp
    | false => rw [this.2 rfl]; have := hin.out rfl; simp; omega
   have t3 : ((i : Int) = nI) = False := by simpa using t2
   have x3 : wr.cell? ⟨w.heap.size + 1, 3, none⟩ = some (.slice A i c) := hK.out.x.cell 3
   have y3 : wr.frozen? ⟨w.heap.size + 1, 3, none⟩ = false := hK.out.x.frozen 3
   by_cases hlong : o = true /\ i = 1000
   .
    obtain ⟨ho, hi⟩ := hlong
    subst ho
    have hb : ¬ l[p + e]? = some 255 := fun h => hbr ⟨rfl, h⟩
    have HFe := hid (hK.out.F_long hi hb)
    have tb : decide (l[q]? = some 255) = false := by rw [HQ.out]; simpa using hb
    have ti : ((i : Int) == 1000) = true := by rw [hi]; rfl
    have ti2 : (i = 1000) = True := by simp [hi]
    have HX := hid hK.out.x
    clear hb hi hbr hend
    go_wp2_with fail
    refine (broken_any g l q 0 (show Hid _ from ⟨hql.out, hl.out⟩) _ HPA.out).mono ?_
    rintro x w2 ⟨rfl, hb2⟩
    rw [tb]
    have HP2 := hid (HPA.out.ext hb2)
    have HB2 := hid (hB.out.ext hb2)
    have HM2 := hid (hK.out.mod.trans hb2.of_ext)
    clear p1 p2 x3 y3
    have p1 : w2.cell? ⟨g, 1, none⟩ = some (.int .i64 (q : Int)) := PAt.at_ HP2.out
    have x3 : w2.cell? ⟨w.heap.size + 1, 3, none⟩ = some (.slice A i c) := (HX.out.ext hb2).cell 3
    have hgX : w.heap.size ≠ g := by have := hg.out; omega
    clear hb2
    go_wp2_with fail
    refine (pfail_any g l q q 4 _ HP2.out).mono ?_
    rintro x w3 ⟨rfl, hm3, hp3⟩
    have HB3 := hid (HB2.out.mod hm3 (by simpa using hgX))
    have HP3 := hid hp3; have HM3 := hid (HM2.out.trans hm3)
    clear hm3 hp3 p1 x3
    obtain ⟨c0, c1, c2, c3, c4⟩ := cells5 HB3.out
    have f0 := HB3.out.frozen 0
    have f1 := HB3.out.frozen 1
    have f2 := HB3.out.frozen 2
    have f3 := HB3.out.frozen 3
    have f4 := HB3.out.frozen 4
    go_wp2_with fail
    obtain ⟨d0, d1, d2, d3, d4⟩ := cells5 (set5_blk (t := nulT) (A := none) (c := 0) HB3.out)
    clear c0 c1 c2 c3 c4 f0 f1 f2 f3 f4
    show bodyPost _ _ _ _ _ (set5 w3 w.heap.size nulT none 0)
    refine bodyPost_ret (v := itemV nulT none 0) (by simp [results, Tryz.results145, go_sem, d0, d1, d2, d3, d4]) rfl ?_
    rw [HFe.out]
    refine ⟨nulT, none, 0, rfl, set5_mod HM3.out (Nat.le_refl _), ?_, fun h => by cases h⟩
    have h3 := HP3.out
    rw [HQ.out] at h3
    exact set5_far h3 (fun e => hgX e.symm)
   .
    have hi : i < 1000 := by
     have h1 := hK.out.i1000
     have h2 := hin.out
     have h3 := hnn.out
     cases o with
     | true => have h4 : i ≠ 1000 := fun h => hlong ⟨rfl, h⟩; omega
     | false => have := h2 rfl; have := h3 rfl; omega
    have HI := hid hi
    have HNB := hid hbr
    have ti : ((i : Int) == 1000) = false := by simp; omega
    have ti2 : (i = 1000) = False := by simp; omega
    have HX := hid hK.out.x
    have hd1 : Hid (d <= 8) := hd
    have td : (d : Int) + 1 - 1 = (d : Int) := by omega
    have tw : IntKind.i64.wrap (d : Int) = (d : Int) := IntWalk.i64_in _ (by have := hd.out; omega)
    have tw2 : IntKind.i64.wrap ((d : Int) + 1 - 1) = (d : Int) := by rw [td, tw]
    clear hi hbr hend hlong
    have HIH : Hid (∀ W, PAt W g l q 0 -> Calls Tryz.prog 118 #[.pointer (some ⟨g, 0, none⟩), .int .i64 (d : Int)] W (IPost g l q (flt d (l.drop q)) d W)) := fun W hW => IH.out q hql.out W hW
    cases o
    .
     have HIN := hid (hin.out rfl)
     obtain ⟨i0, hi0, hz0, hz1, hz2⟩ := info_parts infoItem
     have hgX : w.heap.size + 1 ≠ g := by have := hg.out; omega
     have hgB : w.heap.size ≠ g := by have := hg.out; omega
     have HgX := hid hgX; have HgB := hid hgB
     clear hgX hgB
     go_upto_region 8 with fail
     go_region_law (first
      | (refine step_append_lies _ rfl (.tmp 48) (.tmp 53) 66 rfl (w.heap.size + 2) 68 i0 _ 5 64 vqF hi0 hz0 hz1 hz2 rfl (by decide) (.slice A i c) i _ (by simp [Act.eval]) ho2 ⟨w2.heap.size, 0, none⟩ 1 1 [Value.int .i64 tc.kind, .int .u64 (tc.n : Int), str tc.s, .slice Ac tc.k cc, .bool tc.op] (by simp [Act.eval]) rfl (news5 w2 tc Ac cc) (one5 tc Ac cc) (by decide) (by have := HI.out; unfold maxLen; omega) (by have := HI.out; omega) (by have := hK.out.room hm; simp; omega) (w2.heap.size + 1) (by simp) ?_; intro g' c' w4 hown' hgr hbl hgl; have hx4 := hK.out.keep hm hgr hK.out.x HgX.out (by omega); have x4 : w4.cell? ⟨w.heap.size + 1, 3, none⟩ = some (.slice A i c) := hx4.cell 3; have xf : w4.frozen? ⟨w.heap.size + 1, 3, none⟩ = false := hx4.frozen 3)
      | (go_simp; go_at_call 118; (try rw [tw2]); refine (HIH.out _ ?_).mono ?_; (first | exact HPA.out | exact Blk.drew HPA.out); rintro x w2 ⟨tc, Ac, cc, rfl, hm2, hp2, hs2⟩; have hm : Mod [g] wr w2 := (by first | exact hm2 | exact (Mod.refl _ _).drew.trans hm2); have ho2 := hK.out.own2 (by have := hg.out; omega) hm (.cells (itemC tc Ac cc) 68); have z3 : w2.cell? ⟨w.heap.size + 1, 3, none⟩ = some (.slice A i c) := (hK.out.x.mod hm (by simpa using HgX.out)).cell 3; have zf : w2.frozen? ⟨w.heap.size + 1, 3, none⟩ = false := (hK.out.x.mod hm (by simpa using HgX.out)).frozen 3; have z4 : (w2.alloc (.cells #[Value.int .i64 tc.kind, .int .u64 (tc.n : Int), str tc.s, .slice Ac tc.k cc, .bool tc.op] 68)).cell? ⟨w.heap.size + 1, 3, none⟩ = some (.slice A i c) := ((hK.out.x.mod hm (by simpa using HgX.out)).alloc _).cell 3; have hne : ¬ w.heap.size + 1 = w2.heap.size := (by have := hK.out.room hm; omega)))
     all_goals go_wp2_with fail
     all_goals have hq := HQ.out
     all_goals have hblk : (Value.slice (some ⟨g', 0, none⟩) (i + 1) c').ownBlock = (Value.slice A i c).ownBlock \/ ∀ k, (Value.slice (some ⟨g', 0, none⟩) (i + 1) c').ownBlock = some k -> w2.heap.size <= k := hbl.elim (fun h => .inl h.symm) (fun h => .inr fun k hk => by simp [Value.ownBlock] at hk; omega)
     all_goals have hB5 : Blk (w4.setCell ⟨w.heap.size + 1, 3, none⟩ (.slice (some ⟨g', 0, none⟩) (i + 1) c')) w.heap.size 68 (itemC nulT none 0) := Blk.far (hK.out.keep hm hgr hB.out HgB.out (by omega)) (by simp) _
     all_goals subst hq
     all_goals
      by_cases her : (flt d (l.drop (p + e))).2 = 0
      .
       obtain ⟨A', c2, e1, hL⟩ := hK.out.step hg.out (by omega) (by omega) HI.out (fun _ => HIN.out) (fun h => by cases h.1) her hm (by rw [her] at hp2; exact hp2) (hs2 her).1 (hs2 her).2.1 (hs2 her).2.2 hown' hgr hblk
       simp only [Value.slice.injEq, true_and] at e1
       obtain ⟨rfl, rfl⟩ := e1
       go_roundg (1001 - (i + 1))
       case measure => have := HI.out; omega
       case rel => exact ⟨hB5, .inl ⟨_, _, _, _, _, _, rfl, hL⟩⟩
      .
       have hL := hK.out.stepErr hg.out (by omega) (by omega) HI.out (fun _ => HIN.out) (fun h => by cases h.1) her hm hp2 hown' hgr
       go_roundg 0
       case measure => have := HI.out; omega
       case rel => exact ⟨hB5, .inr ⟨rfl, hL⟩⟩
    .
     have HNB2 : Hid (¬ l[p + e]? = some 255) := fun h => HNB.out ⟨rfl, h⟩
     have tb : decide (l[q]? = some 255) = false := by rw [HQ.out]; have := HNB2.out; simpa using this
     go_wp2_with fail
     refine (broken_any g l q 0 (show Hid _ from ⟨hql.out, hl.out⟩) _ HPA.out).mono ?_
     rintro x w1 ⟨rfl, hb1⟩
     rw [tb]
     have HK1 := hid (hK.out.ext hb1)
     have HB1 := hid (hB.out.ext hb1)
     have HP1 := hid (HPA.out.ext hb1)
     clear p1 p2 x3 y3 hb1
     have p1 : w1.cell? ⟨g, 1, none⟩ = some (.int .i64 (q : Int)) := PAt.at_ HP1.out
     have p2 : w1.cell? ⟨g, 2, none⟩ = some (.int .i64 0) := PAt.err HP1.out
     have x3 : w1.cell? ⟨w.heap.size + 1, 3, none⟩ = some (.slice A i c) := HK1.out.x.cell 3
     have y3 : w1.frozen? ⟨w.heap.size + 1, 3, none⟩ = false := HK1.out.x.frozen 3
     obtain ⟨i0, hi0, hz0, hz1, hz2⟩ := info_parts infoItem
     have hgX : w.heap.size + 1 ≠ g := by have := hg.out; omega
     have hgB : w.heap.size ≠ g := by have := hg.out; omega
     have HgX := hid hgX; have HgB := hid hgB
     clear hgX hgB
     go_upto_region 8 with fail
     go_region_law (first
      | (refine step_append_lies _ rfl (.tmp 48) (.tmp 53) 66 rfl (w.heap.size + 2) 68 i0 _ 5 64 vqF hi0 hz0 hz1 hz2 rfl (by decide) (.slice A i c) i _ (by simp [Act.eval]) ho2 ⟨w2.heap.size, 0, none⟩ 1 1 [Value.int .i64 tc.kind, .int .u64 (tc.n : Int), str tc.s, .slice Ac tc.k cc, .bool tc.op] (by simp [Act.eval]) rfl (news5 w2 tc Ac cc) (one5 tc Ac cc) (by decide) (by have := HI.out; unfold maxLen; omega) (by have := HI.out; omega) (by have := HK1.out.room hm; simp; omega) (w2.heap.size + 1) (by simp) ?_; intro g' c' w4 hown' hgr hbl hgl; have hx4 := HK1.out.keep hm hgr HK1.out.x HgX.out (by omega); have x4 : w4.cell? ⟨w.heap.size + 1, 3, none⟩ = some (.slice A i c) := hx4.cell 3; have xf : w4.frozen? ⟨w.heap.size + 1, 3, none⟩ = false := hx4.frozen 3)
      | (go_simp; go_at_call 118; (try rw [tw2]); refine (HIH.out _ ?_).mono ?_; (first | exact HP1.out | exact Blk.drew HP1.out); rintro x w2 ⟨tc, Ac, cc, rfl, hm2, hp2, hs2⟩; have hm : Mod [g] w1 w2 := (by first | exact hm2 | exact (Mod.refl _ _).drew.trans hm2); have ho2 := HK1.out.own2 (by have := hg.out; omega) hm (.cells (itemC tc Ac cc) 68); have z3 : w2.cell? ⟨w.heap.size + 1, 3, none⟩ = some (.slice A i c) := (HK1.out.x.mod hm (by simpa using HgX.out)).cell 3; have zf : w2.frozen? ⟨w.heap.size + 1, 3, none⟩ = false := (HK1.out.x.mod hm (by simpa using HgX.out)).frozen 3; have z4 : (w2.alloc (.cells #[Value.int .i64 tc.kind, .int .u64 (tc.n : Int), str tc.s, .slice Ac tc.k cc, .bool tc.op] 68)).cell? ⟨w.heap.size + 1, 3, none⟩ = some (.slice A i c) := ((HK1.out.x.mod hm (by simpa using HgX.out)).alloc _).cell 3; have hne : ¬ w.heap.size + 1 = w2.heap.size := (by have := HK1.out.room hm; omega)))
     all_goals go_wp2_with fail
     all_goals have hq := HQ.out
     all_goals have hblk : (Value.slice (some ⟨g', 0, none⟩) (i + 1) c').ownBlock = (Value.slice A i c).ownBlock \/ ∀ k, (Value.slice (some ⟨g', 0, none⟩) (i + 1) c').ownBlock = some k -> w2.heap.size <= k := hbl.elim (fun h => .inl h.symm) (fun h => .inr fun k hk => by simp [Value.ownBlock] at hk; omega)
     all_goals have hB5 : Blk (w4.setCell ⟨w.heap.size + 1, 3, none⟩ (.slice (some ⟨g', 0, none⟩) (i + 1) c')) w.heap.size 68 (itemC nulT none 0) := Blk.far (HK1.out.keep hm hgr HB1.out HgB.out (by omega)) (by simp) _
     all_goals subst hq
     all_goals
      by_cases her : (flt d (l.drop (p + e))).2 = 0
      .
       obtain ⟨A', c2, e1, hL⟩ := HK1.out.step hg.out (by omega) (by omega) HI.out (fun h => by cases h) (fun h => HNB2.out h.2) her hm (by rw [her] at hp2; exact hp2) (hs2 her).1 (hs2 her).2.1 (hs2 her).2.2 hown' hgr hblk
       simp only [Value.slice.injEq, true_and] at e1
       obtain ⟨rfl, rfl⟩ := e1
       go_roundg (1001 - (i + 1))
       case measure => have := HI.out; omega
       case rel => exact ⟨hB5, .inl ⟨_, _, _, _, _, _, rfl, hL⟩⟩
      .
       have hL := HK1.out.stepErr hg.out (by omega) (by omega) HI.out (fun h => by cases h) (fun h => HNB2.out h.2) her hm hp2 hown' hgr
       go_roundg 0
       case measure => have := HI.out; omega
       case rel => exact ⟨hB5, .inr ⟨rfl, hL⟩⟩
  .
   obtain ⟨t, A, c, hx⟩ := hE.out.x
   have p2 : wr.cell? ⟨g, 2, none⟩ = some (.int .i64 F.2) := PAt.err hE.out.pa
   have te : (F.2 == 0) = false := by have := hE.out.ne; simp [this]
   have te2 : (F.2 = 0) = False := by have := hE.out.ne; simp [this]
   obtain ⟨x0, x1, x2, x3, x4⟩ := cells5 hx
   obtain ⟨c0, c1, c2, c3, c4⟩ := cells5 hB.out
   have f0 := hB.out.frozen 0
   have f1 := hB.out.frozen 1
   have f2 := hB.out.frozen 2
   have f3 := hB.out.frozen 3
   have f4 := hB.out.frozen 4
   clear hx
   go_wp2_with fail
   obtain ⟨d0, d1, d2, d3, d4⟩ := cells5 (set5_blk (t := t) (A := A) (c := c) hB.out)
   clear c0 c1 c2 c3 c4 f0 f1 f2 f3 f4 x0 x1 x2 x3 x4 p2
   show bodyPost _ _ _ _ _ (set5 wr w.heap.size t A c)
   refine bodyPost_ret (v := itemV t A c) (by simp [results, Tryz.results145, go_sem, d0, d1, d2, d3, d4]) rfl ?_
   exact ⟨t, A, c, rfl, set5_mod hE.out.mod (Nat.le_refl _), set5_far hE.out.pa (by have := hg.out; omega), fun h => absurd h hE.out.ne⟩
end Go.Proofs.YtmckfdmdkljomaaGreatDoor
