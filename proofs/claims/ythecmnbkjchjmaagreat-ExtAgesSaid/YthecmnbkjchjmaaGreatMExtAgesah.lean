/-
 Bundles in memory.
-/
import Derived.Test.YthecmnbkjchjmaaGreatMExtAgesad
import Derived.Test.YthecmnbkjchjmaaGreatMExtAgesag
import Derived.Laws.BitsAllLaws

namespace Go.Proofs.YthecmnbkjchjmaaGreat
open Go.RowKit
set_option linter.unusedVariables false
set_option linter.unusedSimpArgs false

def zeroB : BV := ⟨0, 0, 0, 0, []⟩
abbrev PV.c (p : PV) : Array Value := #[.int .u64 (p.fl : Int), .int .i64 p.crc, .int .i64 p.d.sch, str p.d.name, .int .u64 (p.d.node : Int), .int .u64 (p.d.svc : Int), .int .i64 p.s.sch, str p.s.name, .int .u64 (p.s.node : Int), .int .u64 (p.s.svc : Int), .int .i64 p.r.sch, str p.r.name, .int .u64 (p.r.node : Int), .int .u64 (p.r.svc : Int), .int .u64 (p.t : Int), .int .u64 (p.q : Int), .int .u64 (p.l : Int), .int .u64 (p.o : Int), .int .u64 (p.n : Int)]
abbrev PV.v (p : PV) : Value := .agg p.c
abbrev bunC (p : PV) (A : Option Addr) (k c : Nat) : Array Value := #[.int .u64 (p.fl : Int), .int .i64 p.crc, .int .i64 p.d.sch, str p.d.name, .int .u64 (p.d.node : Int), .int .u64 (p.d.svc : Int), .int .i64 p.s.sch, str p.s.name, .int .u64 (p.s.node : Int), .int .u64 (p.s.svc : Int), .int .i64 p.r.sch, str p.r.name, .int .u64 (p.r.node : Int), .int .u64 (p.r.svc : Int), .int .u64 (p.t : Int), .int .u64 (p.q : Int), .int .u64 (p.l : Int), .int .u64 (p.o : Int), .int .u64 (p.n : Int), .slice A k c]
abbrev bunV (p : PV) (A : Option Addr) (k c : Nat) : Value := .agg (bunC p A k c)
def BAt (w : World) (b o : Nat) (x : BV) : Prop :=
 w.cell? ⟨b, o, none⟩ = some (.int .i64 x.ty) /\ w.cell? ⟨b, o + 1, none⟩ = some (.int .i64 x.num) /\ w.cell? ⟨b, o + 2, none⟩ = some (.int .u64 (x.fl : Int)) /\ w.cell? ⟨b, o + 3, none⟩ = some (.int .i64 x.crc) /\ w.cell? ⟨b, o + 4, none⟩ = some (str x.data)
def BsL (w : World) (A : Option Addr) (k : Nat) (bs : Nat -> BV) : Prop := 0 < k -> ∃ b o, A = some ⟨b, o, none⟩ /\ b < w.heap.size /\ ∀ i, i < k -> BAt w b (o + i * 5) (bs i)
theorem BAt.mod {w w' : World} {S : List Nat} {b o : Nat} {x : BV} (h : BAt w b o x) (hm : Mod S w w') (hb : b < w.heap.size) (hs : b ∉ S) : BAt w' b o x := by
 obtain ⟨h0, h1, h2, h3, h4⟩ := h
 exact ⟨(hm.cell hb hs).trans h0, (hm.cell hb hs).trans h1, (hm.cell hb hs).trans h2, (hm.cell hb hs).trans h3, (hm.cell hb hs).trans h4⟩
theorem BsL.ext {w w' : World} {A : Option Addr} {k : Nat} {bs : Nat -> BV} (h : BsL w A k bs) (hm : Ext w w') : BsL w' A k bs := fun hk => by
 obtain ⟨b, o, hA, hb, hc⟩ := h hk
 exact ⟨b, o, hA, Nat.lt_of_lt_of_le hb hm.size, fun i hi => (hc i hi).mod hm hb (by simp)⟩
theorem BsL.cells {V : World} {A : Option Addr} {k : Nat} {bs : Nat -> BV} (h : BsL V A k bs) {i : Nat} (hi : i < k) : ∃ b o, A = some ⟨b, o, none⟩ /\ b < V.heap.size /\
  (∀ e : Later V, e.x.cell? ⟨b, o + i * 5, none⟩ = some (.int .i64 (bs i).ty)) /\ (∀ e : Later V, e.x.cell? ⟨b, o + i * 5 + 1, none⟩ = some (.int .i64 (bs i).num)) /\ (∀ e : Later V, e.x.cell? ⟨b, o + i * 5 + 2, none⟩ = some (.int .u64 ((bs i).fl : Int))) /\
  (∀ e : Later V, e.x.cell? ⟨b, o + i * 5 + 3, none⟩ = some (.int .i64 (bs i).crc)) /\ (∀ e : Later V, e.x.cell? ⟨b, o + i * 5 + 4, none⟩ = some (str (bs i).data)) := by
 obtain ⟨b, o, hA, hb, hc⟩ := h (by omega)
 obtain ⟨h0, h1, h2, h3, h4⟩ := hc i hi
 exact ⟨b, o, hA, hb, cellL h0, cellL h1, cellL h2, cellL h3, cellL h4⟩
end Go.Proofs.YthecmnbkjchjmaaGreat


namespace Go.Proofs.YthecmnbkjchjmaaGreat
open Go.RowKit
set_option linter.unusedVariables false
set_option linter.unusedSimpArgs false

def IsC (w : World) (Q : Nat -> Prop) : T -> Option Addr -> Nat -> Prop
 | T.nil, A, c => False
 | T.mk _ _ _ _ k ch, A, c => k <= c /\ (0 < k -> ∃ b o, A = some ⟨b, o, none⟩ /\ b < w.heap.size /\ Q b /\ ∀ i, i < k -> ∃ Ai ci, At5 w b (o + i * 5) (ch i) Ai ci /\ IsC w Q (ch i) Ai ci)
theorem IsC.mod {w w' : World} {Q : Nat -> Prop} {S : List Nat} (hm : Mod S w w') (hs : ∀ k, Q k -> k < w.heap.size -> k ∉ S) (t : T) : ∀ {A : Option Addr} {c : Nat}, IsC w Q t A c -> IsC w' Q t A c := by
 induction t with
 | nil => intro A c h; cases h
 | mk kind n s op k ch ih =>
  rintro A c ⟨hc0, h⟩
  refine ⟨hc0, fun h0 => ?_⟩
  obtain ⟨b, o, hA, hb, hq, hc⟩ := h h0
  refine ⟨b, o, hA, Nat.lt_of_lt_of_le hb hm.size, hq, fun i hi => ?_⟩
  obtain ⟨Ai, ci, h1, h2⟩ := hc i hi
  exact ⟨Ai, ci, h1.mod hm hb (hs b hq hb), ih i h2⟩
theorem IsC.ext {w w' : World} {Q : Nat -> Prop} {t : T} {A : Option Addr} {c : Nat} (h : IsC w Q t A c) (hm : Ext w w') : IsC w' Q t A c := IsC.mod hm (by simp) t h
theorem IsC.weak {w : World} {Q R : Nat -> Prop} (hq : ∀ k, k < w.heap.size -> Q k -> R k) (t : T) : ∀ {A : Option Addr} {c : Nat}, IsC w Q t A c -> IsC w R t A c := by
 induction t with
 | nil => intro A c h; cases h
 | mk kind n s op k ch ih =>
  rintro A c ⟨hc0, h⟩
  refine ⟨hc0, fun h0 => ?_⟩
  obtain ⟨b, o, hA, hb, hq', hc⟩ := h h0
  refine ⟨b, o, hA, hb, hq b hb hq', fun i hi => ?_⟩
  obtain ⟨Ai, ci, h1, h2⟩ := hc i hi
  exact ⟨Ai, ci, h1, ih i h2⟩
theorem IsC.leaf {w : World} {Q : Nat -> Prop} {kind : Int} {n : Nat} {s : List UInt8} {op : Bool} {ch : Nat -> T} {A : Option Addr} {c : Nat} : IsC w Q (.mk kind n s op 0 ch) A c := ⟨Nat.zero_le _, fun h => by omega⟩
theorem IsC.isL {w : World} {Q : Nat -> Prop} (t : T) : ∀ {A : Option Addr} {c : Nat}, IsC w Q t A c -> IsL w Q t A := by
 induction t with
 | nil => intro A c h; cases h
 | mk kind n s op k ch ih =>
  rintro A c ⟨hc0, h⟩ h0
  obtain ⟨b, o, hA, hb, hq, hc⟩ := h h0
  refine ⟨b, o, hA, hb, hq, fun i hi => ?_⟩
  obtain ⟨Ai, ci, h1, h2⟩ := hc i hi
  exact ⟨Ai, ci, h1, ih i h2⟩
theorem IsC.cap {w : World} {Q : Nat -> Prop} {t : T} {A : Option Addr} {c : Nat} (h : IsC w Q t A c) : t.k <= c := by
 cases t with
 | nil => exact absurd h id
 | mk kind n s op k ch => exact h.1
theorem room_cap {w : World} {base : Nat} {e : TypeId} {size : Nat} {A : Option Addr} {k c : Nat} {xs : List Value} (h : w.ownsRow base e size (.slice A k c) k xs) : k <= c := by
 rcases h.2 with ⟨_, h0⟩ | ⟨g, cap, cs, e1, _, _, h1, _⟩
 . omega
 .
  simp only [Value.slice.injEq] at e1
  omega
end Go.Proofs.YthecmnbkjchjmaaGreat


namespace Go.Proofs.YthecmnbkjchjmaaGreat
open Go.RowKit
set_option linter.unusedVariables false
set_option linter.unusedSimpArgs false

theorem cell_row8 (w : World) (l : List UInt8) (cap t : Nat) (fz : Nat × Nat) (j : Nat) (h : j < l.length) :
  (w.alloc (.cells (bytesRow ⟨l.toArray⟩ cap) t fz)).cell? ⟨w.heap.size, j, none⟩ = some (.int .u8 (l[j].toNat : Int)) := by
 rw [World.cell?_alloc_mark]
 simp only [bytesRow]
 rw [Array.getElem?_append_left (by simpa using h)]
 simp [h]
theorem Crc.stepC_lt {p s m : Nat} (hp : p < 2 ^ m) (hs : s < 2 ^ m) : Crc.stepC p s < 2 ^ m := by
 unfold Crc.stepC
 split
 . exact Nat.xor_lt_two_pow (by omega) hp
 . omega
theorem Crc.stepsC_lt {p m : Nat} (hp : p < 2 ^ m) : ∀ (k s : Nat), s < 2 ^ m -> Crc.stepsC p k s < 2 ^ m
 | 0, s, h => h
 | k + 1, s, h => Crc.stepsC_lt hp k _ (Crc.stepC_lt hp h)
theorem Crc.divC_lt {p m : Nat} (hp : p < 2 ^ m) : ∀ (l : List UInt8) (s : Nat), s < 2 ^ m -> 8 <= m -> Crc.divC p s l < 2 ^ m
 | [], s, h, _ => h
 | c :: l, s, h, h8 => by
  have hc : c.toNat < 2 ^ m := Nat.lt_of_lt_of_le c.toNat_lt (Nat.pow_le_pow_right (by omega) h8)
  have := Crc.divC_lt hp l (Crc.stepsC p 8 (s ^^^ c.toNat)) (Crc.stepsC_lt hp 8 _ (Nat.xor_lt_two_pow h hc)) h8
  exact this

theorem and1_16 {s : Nat} (hs : s < 65536) : bits .and .u16 (s : Int) 1 = ((s % 2 : Nat) : Int) := by
 have := u16_and_nat s 1 hs (by omega)
 rw [Nat.and_one_is_mod] at this
 exact this
theorem xor_16 {s c : Nat} (hs : s < 65536) (hc : c < 65536) : bits .xor .u16 (s : Int) (c : Int) = ((s ^^^ c : Nat) : Int) := u16_xor_nat s c hs hc

set_option maxHeartbeats 400000 in
theorem divide16 (p s : Nat) (hp : Hid (p < 65536)) (hs : Hid (s < 65536)) (l : List UInt8) (hl : Hid (l.length < 1000000)) (w : World) :
  Calls Tryz.prog 173 #[.int .u16 (s : Int), .int .u16 (p : Int), str l] w (Ret (.int .u16 (Crc.divC p s l : Nat)) w) := by
 have hconv := fun (w : World) (s : ByteArray) => run_bytes_of_string (P := Tryz.prog) w 9 100 5 s Tryz.underlying9 Tryz.underlying100 Tryz.underlying5
 obtain ⟨T, hT⟩ : ∃ T, T = Crc.divC p s l := ⟨_, rfl⟩
 rw [<- hT]
 have HT := hid hT; clear hT
 go_enter Tryz.func173, Tryz.ntmps173
 go_wp2
 have hext : Ext w (w.alloc (Obj.cells (bytesRow { data := l.toArray } (grownCap w l.length 0 5)) 5 ((bytesRow { data := l.toArray } (grownCap w l.length 0 5)).size, (bytesRow { data := l.toArray } (grownCap w l.length 0 5)).size + 1))).drew := ((Mod.refl _ _).alloc _).drew
 have hcell : ∀ j (h : j < l.length), (w.alloc (Obj.cells (bytesRow { data := l.toArray } (grownCap w l.length 0 5)) 5 ((bytesRow { data := l.toArray } (grownCap w l.length 0 5)).size, (bytesRow { data := l.toArray } (grownCap w l.length 0 5)).size + 1))).drew.cell? ⟨w.heap.size, j, none⟩ = some (.int .u8 (l[j].toNat : Int)) := fun j h => by rw [World.cell?_drew]; exact cell_row8 w l _ _ _ j h
 generalize hW : World.drew (World.alloc w _) = W at *
 have HW := hid hW; clear hW
 have HC := hid hcell; clear hcell
 have HL := hid hl.out
 go_loop [0, 12] (fun n i => ∃ j c : Nat, j <= l.length /\ c < 65536 /\ i = .int .i64 j /\ n = .int .u16 (c : Int) /\ Hid (T = Crc.divC p c (l.drop j))) (fun _ i => l.length - (intOf i).toNat)
 case atStart => exact ⟨0, s, Nat.zero_le _, hs.out, rfl, rfl, HT⟩
 case round =>
  obtain ⟨j, c, hj, hc, rfl, rfl, HR⟩ := hrel
  by_cases hlt : j < l.length
  .
   have hcc := HC.out j hlt
   generalize hx : l[j] = x at *
   have HX := hid hx; clear hx
   have hx8 := x.toNat_lt
   have tx : IntKind.u16.wrap (x.toNat : Int) = (x.toNat : Int) := IntWalk.u16_in _ (by omega)
   have t2 := xor_16 (s := c) (c := x.toNat) hc (by omega)
   have hcx : c ^^^ x.toNat < 65536 := Nat.xor_lt_two_pow (n := 16) hc (by omega)
   have HS : Hid (T = Crc.divC p (Crc.stepsC p 8 (c ^^^ x.toNat)) (l.drop (j + 1))) := by
    have h1 := HR.out
    rw [List.drop_eq_getElem_cons hlt, HX.out] at h1
    exact h1
   clear HR
   go_wp2
   generalize c ^^^ x.toNat = y at *
   go_loop [0, 20] (fun n i => ∃ k c : Nat, k <= 8 /\ c < 65536 /\ i = .int .i64 k /\ n = .int .u16 (c : Int) /\ Hid (Crc.stepsC p (8 - k) c = Crc.stepsC p 8 y)) (fun _ i => 8 - (intOf i).toNat)
   case atStart => exact ⟨0, y, by omega, hcx, rfl, rfl, rfl⟩
   case round =>
    obtain ⟨k, c, hk, hc, rfl, rfl, HR⟩ := hrel
    by_cases hlt : k < 8
    .
     have tA := and1_16 hc
     have HN : Hid (Crc.stepsC p (8 - (k + 1)) (Crc.stepC p c) = Crc.stepsC p 8 y) := by
      have h1 := HR.out
      rw [show 8 - k = (8 - (k + 1)) + 1 by omega] at h1
      exact h1
     have hL := Crc.stepC_lt (m := 16) hp.out hc
     clear HR
     rcases Nat.mod_two_eq_zero_or_one c with e | e
     .
      have hS : Crc.stepC p c = c / 2 := by unfold Crc.stepC; rw [if_neg (by omega)]
      rw [hS] at HN hL
      rw [e] at tA
      go_wp2
      go_round
      case rel => exact ⟨k + 1, c / 2, by omega, hL, by go_num, by simp, HN⟩
      case measure => simp [intOf]; omega
     .
      have hS : Crc.stepC p c = c / 2 ^^^ p := by unfold Crc.stepC; rw [if_pos e]
      have tX := xor_16 (s := c / 2) (c := p) (by omega) hp.out
      rw [hS] at HN hL
      rw [e] at tA
      go_wp2
      go_round
      case rel => exact ⟨k + 1, c / 2 ^^^ p, by omega, hL, by go_num, by rw [<- tX]; simp, HN⟩
      case measure => simp [intOf]; omega
    .
     obtain rfl : k = 8 := by omega
     have h1 : c = Crc.stepsC p 8 y := HR.out
     have hl2 : l.length < 1000000 := hl.out
     subst h1
     clear HR
     go_wp2
     go_round
     case rel => exact ⟨j + 1, _, by omega, hc, by go_num, rfl, HS⟩
     case measure => simp [intOf]; omega
  .
   obtain rfl : j = l.length := by omega
   have h1 := HR.out
   rw [List.drop_length] at h1
   have h2 : T = c := h1
   subst h2
   clear HR h1
   go_wp2
   go_ret
   exact ⟨rfl, hext⟩

theorem and1_32 {s : Nat} (hs : s < 4294967296) : bits .and .u32 (s : Int) 1 = ((s % 2 : Nat) : Int) := by
 have := u32_and_nat s 1 hs (by omega)
 rw [Nat.and_one_is_mod] at this
 exact this
theorem xor_32 {s c : Nat} (hs : s < 4294967296) (hc : c < 4294967296) : bits .xor .u32 (s : Int) (c : Int) = ((s ^^^ c : Nat) : Int) := u32_xor_nat s c hs hc

set_option maxHeartbeats 400000 in
theorem divide32 (p s : Nat) (hp : Hid (p < 4294967296)) (hs : Hid (s < 4294967296)) (l : List UInt8) (hl : Hid (l.length < 1000000)) (w : World) :
  Calls Tryz.prog 174 #[.int .u32 (s : Int), .int .u32 (p : Int), str l] w (Ret (.int .u32 (Crc.divC p s l : Nat)) w) := by
 have hconv := fun (w : World) (s : ByteArray) => run_bytes_of_string (P := Tryz.prog) w 9 100 5 s Tryz.underlying9 Tryz.underlying100 Tryz.underlying5
 obtain ⟨T, hT⟩ : ∃ T, T = Crc.divC p s l := ⟨_, rfl⟩
 rw [<- hT]
 have HT := hid hT; clear hT
 go_enter Tryz.func174, Tryz.ntmps174
 go_wp2
 have hext : Ext w (w.alloc (Obj.cells (bytesRow { data := l.toArray } (grownCap w l.length 0 5)) 5 ((bytesRow { data := l.toArray } (grownCap w l.length 0 5)).size, (bytesRow { data := l.toArray } (grownCap w l.length 0 5)).size + 1))).drew := ((Mod.refl _ _).alloc _).drew
 have hcell : ∀ j (h : j < l.length), (w.alloc (Obj.cells (bytesRow { data := l.toArray } (grownCap w l.length 0 5)) 5 ((bytesRow { data := l.toArray } (grownCap w l.length 0 5)).size, (bytesRow { data := l.toArray } (grownCap w l.length 0 5)).size + 1))).drew.cell? ⟨w.heap.size, j, none⟩ = some (.int .u8 (l[j].toNat : Int)) := fun j h => by rw [World.cell?_drew]; exact cell_row8 w l _ _ _ j h
 generalize hW : World.drew (World.alloc w _) = W at *
 have HW := hid hW; clear hW
 have HC := hid hcell; clear hcell
 have HL := hid hl.out
 go_loop [0, 12] (fun n i => ∃ j c : Nat, j <= l.length /\ c < 4294967296 /\ i = .int .i64 j /\ n = .int .u32 (c : Int) /\ Hid (T = Crc.divC p c (l.drop j))) (fun _ i => l.length - (intOf i).toNat)
 case atStart => exact ⟨0, s, Nat.zero_le _, hs.out, rfl, rfl, HT⟩
 case round =>
  obtain ⟨j, c, hj, hc, rfl, rfl, HR⟩ := hrel
  by_cases hlt : j < l.length
  .
   have hcc := HC.out j hlt
   generalize hx : l[j] = x at *
   have HX := hid hx; clear hx
   have hx8 := x.toNat_lt
   have tx : IntKind.u32.wrap (x.toNat : Int) = (x.toNat : Int) := IntWalk.u32_in _ (by omega)
   have t2 := xor_32 (s := c) (c := x.toNat) hc (by omega)
   have hcx : c ^^^ x.toNat < 4294967296 := Nat.xor_lt_two_pow (n := 32) hc (by omega)
   have HS : Hid (T = Crc.divC p (Crc.stepsC p 8 (c ^^^ x.toNat)) (l.drop (j + 1))) := by
    have h1 := HR.out
    rw [List.drop_eq_getElem_cons hlt, HX.out] at h1
    exact h1
   clear HR
   go_wp2
   generalize c ^^^ x.toNat = y at *
   go_loop [0, 20] (fun n i => ∃ k c : Nat, k <= 8 /\ c < 4294967296 /\ i = .int .i64 k /\ n = .int .u32 (c : Int) /\ Hid (Crc.stepsC p (8 - k) c = Crc.stepsC p 8 y)) (fun _ i => 8 - (intOf i).toNat)
   case atStart => exact ⟨0, y, by omega, hcx, rfl, rfl, rfl⟩
   case round =>
    obtain ⟨k, c, hk, hc, rfl, rfl, HR⟩ := hrel
    by_cases hlt : k < 8
    .
     have tA := and1_32 hc
     have HN : Hid (Crc.stepsC p (8 - (k + 1)) (Crc.stepC p c) = Crc.stepsC p 8 y) := by
      have h1 := HR.out
      rw [show 8 - k = (8 - (k + 1)) + 1 by omega] at h1
      exact h1
     have hL := Crc.stepC_lt (m := 32) hp.out hc
     clear HR
     rcases Nat.mod_two_eq_zero_or_one c with e | e
     .
      have hS : Crc.stepC p c = c / 2 := by unfold Crc.stepC; rw [if_neg (by omega)]
      rw [hS] at HN hL
      rw [e] at tA
      go_wp2
      go_round
      case rel => exact ⟨k + 1, c / 2, by omega, hL, by go_num, by simp, HN⟩
      case measure => simp [intOf]; omega
     .
      have hS : Crc.stepC p c = c / 2 ^^^ p := by unfold Crc.stepC; rw [if_pos e]
      have tX := xor_32 (s := c / 2) (c := p) (by omega) hp.out
      rw [hS] at HN hL
      rw [e] at tA
      go_wp2
      go_round
      case rel => exact ⟨k + 1, c / 2 ^^^ p, by omega, hL, by go_num, by rw [<- tX]; simp, HN⟩
      case measure => simp [intOf]; omega
    .
     obtain rfl : k = 8 := by omega
     have h1 : c = Crc.stepsC p 8 y := HR.out
     have hl2 : l.length < 1000000 := hl.out
     subst h1
     clear HR
     go_wp2
     go_round
     case rel => exact ⟨j + 1, _, by omega, hc, by go_num, rfl, HS⟩
     case measure => simp [intOf]; omega
  .
   obtain rfl : j = l.length := by omega
   have h1 := HR.out
   rw [List.drop_length] at h1
   have h2 : T = c := h1
   subst h2
   clear HR h1
   go_wp2
   go_ret
   exact ⟨rfl, hext⟩
end Go.Proofs.YthecmnbkjchjmaaGreat


namespace Go.Proofs.YthecmnbkjchjmaaGreat
open Go.RowKit
set_option linter.unusedVariables false
set_option linter.unusedSimpArgs false

def Crc.x25 (l : List UInt8) : Nat := 65535 - Crc.divC 33800 65535 l
def Crc.cast (l : List UInt8) : Nat := 4294967295 - Crc.divC 2197175160 4294967295 l
def Crc.sumL (kind : Nat) (l : List UInt8) : List UInt8 := if kind = 1 then be (Crc.x25 l) 2 else if kind = 2 then be (Crc.cast l) 4 else []

theorem Size_any (k : Nat) (hk : k <= 2) (w : World) : Calls Tryz.prog 151 #[.int .i64 (k : Int)] w (Ret (.int .i64 ((2 * k : Nat) : Int)) w) := by
 go_enter Tryz.func151, Tryz.ntmps151
 go_wp2
 go_ret
 exact Ret.mk (by simp) (Mod.refl _ _)

theorem X25_any (l : List UInt8) (hl : Hid (l.length < 1000000)) (w : World) : Calls Tryz.prog 167 #[str l] w (Ret (.int .u16 (Crc.x25 l : Nat)) w) := by
 have hd : Crc.divC 33800 65535 l < 65536 := Crc.divC_lt (m := 16) (by decide) l 65535 (by decide) (by decide)
 have tx : bits .xor .u16 IntKind.u16.max (Crc.divC 33800 65535 l : Int) = ((65535 - Crc.divC 33800 65535 l : Nat) : Int) := by
  rw [Crc.not_xor (n := 16) hd]
  exact u16_xor_nat 65535 _ (by decide) hd
 have K := hid (fun W => divide16 33800 65535 (by unfold Hid; decide) (by unfold Hid; decide) l hl W)
 unfold Crc.x25
 generalize Crc.divC 33800 65535 l = d at *
 go_enter Tryz.func167, Tryz.ntmps167
 go_wp2_with fail
 refine (K.out _).mono ?_
 rintro e w1 ⟨rfl, hb1⟩
 go_wp2_with fail
 go_ret
 exact Ret.mk (by simp) hb1
theorem Castagnoli_any (l : List UInt8) (hl : Hid (l.length < 1000000)) (w : World) : Calls Tryz.prog 168 #[str l] w (Ret (.int .u32 (Crc.cast l : Nat)) w) := by
 have hd : Crc.divC 2197175160 4294967295 l < 4294967296 := Crc.divC_lt (m := 32) (by decide) l 4294967295 (by decide) (by decide)
 have tx : bits .xor .u32 IntKind.u32.max (Crc.divC 2197175160 4294967295 l : Int) = ((4294967295 - Crc.divC 2197175160 4294967295 l : Nat) : Int) := by
  rw [Crc.not_xor (n := 32) hd]
  exact u32_xor_nat 4294967295 _ (by decide) hd
 have K := hid (fun W => divide32 2197175160 4294967295 (by unfold Hid; decide) (by unfold Hid; decide) l hl W)
 unfold Crc.cast
 generalize Crc.divC 2197175160 4294967295 l = d at *
 go_enter Tryz.func168, Tryz.ntmps168
 go_wp2_with fail
 refine (K.out _).mono ?_
 rintro e w1 ⟨rfl, hb1⟩
 go_wp2_with fail
 go_ret
 exact Ret.mk (by simp) hb1
theorem be2 {n : Nat} (h : n < 65536) : be n 2 = [b8 (n / 256), b8 (n % 256)] := by
 have e : n / 256 % 256 = n / 256 := by omega
 rw [be_succ, be_succ, be_zero]
 simp [e]
theorem be4 {n : Nat} (h : n < 4294967296) : be n 4 = [b8 (n / 16777216), b8 (n / 65536 % 256), b8 (n / 256 % 256), b8 (n % 256)] := by
 have e : n / 16777216 % 256 = n / 16777216 := by omega
 rw [be_succ, be_succ, be_succ, be_succ, be_zero]
 simp [e]
theorem b8_cast {n : Nat} (h : n < 256) : ((b8 n).toNat : Int) = (n : Int) := by
 simp [b8]
 omega
theorem conv_new (l : List UInt8) (c : Nat) (W : World) : (convert 100 9 (.slice (some ⟨W.heap.size, 0, none⟩) l.length c)).run Tryz.prog (W.alloc (.cells (l.map fun b => Value.int .u8 (b.toNat : Int)).toArray 5)) = .ok (str l) (W.alloc (.cells (l.map fun b => Value.int .u8 (b.toNat : Int)).toArray 5)) := by
 refine run_convert_bytes_back (P := Tryz.prog) _ 100 9 5 _ c l Tryz.underlying100 Tryz.underlying5 Tryz.underlying9 (fun j hj => ?_)
 rw [addr_add, Nat.zero_add, (Blk.new W 5 _).cell j]
 simp [hj]
theorem Sum_1 (l : List UInt8) (hl : Hid (l.length < 1000000)) (w : World) : Calls Tryz.prog 160 #[.int .i64 1, str l] w (Ret (str (be (Crc.x25 l) 2)) w) := by
 have hd : Crc.x25 l < 65536 := by unfold Crc.x25; omega
 have K := hid (fun W => X25_any l hl W)
 generalize Crc.x25 l = d at *
 have hcv : ∀ W : World, (convert 100 9 (.slice (some ⟨W.heap.size, 0, none⟩) 2 2)).run Tryz.prog (W.alloc (.cells #[.int .u8 ((d : Int) / 256), .int .u8 ((d : Int) % 256)] 5)) = .ok (str (be d 2)) (W.alloc (.cells #[.int .u8 ((d : Int) / 256), .int .u8 ((d : Int) % 256)] 5)) := fun W => by
  have := conv_new (be d 2) 2 W
  rw [be_length, be2 hd] at this
  simpa [b8_cast (show d / 256 < 256 by omega), b8_cast (show d % 256 < 256 by omega), be2 hd] using this
 go_enter Tryz.func160, Tryz.ntmps160
 go_wp2_with fail
 refine (K.out _).mono ?_
 rintro e w1 ⟨rfl, hb1⟩
 go_wp2_with fail
 go_ret
 exact Ret.mk rfl (hb1.alloc _)
theorem Sum_2 (l : List UInt8) (hl : Hid (l.length < 1000000)) (w : World) : Calls Tryz.prog 160 #[.int .i64 2, str l] w (Ret (str (be (Crc.cast l) 4)) w) := by
 have hd : Crc.cast l < 4294967296 := by unfold Crc.cast; omega
 have K := hid (fun W => Castagnoli_any l hl W)
 generalize Crc.cast l = d at *
 have hcv : ∀ W : World, (convert 100 9 (.slice (some ⟨W.heap.size, 0, none⟩) 4 4)).run Tryz.prog (W.alloc (.cells #[.int .u8 ((d : Int) / 16777216), .int .u8 ((d : Int) / 65536 % 256), .int .u8 ((d : Int) / 256 % 256), .int .u8 ((d : Int) % 256)] 5)) = .ok (str (be d 4)) (W.alloc (.cells #[.int .u8 ((d : Int) / 16777216), .int .u8 ((d : Int) / 65536 % 256), .int .u8 ((d : Int) / 256 % 256), .int .u8 ((d : Int) % 256)] 5)) := fun W => by
  have := conv_new (be d 4) 4 W
  rw [be_length, be4 hd] at this
  simpa [b8_cast (show d / 16777216 < 256 by omega), b8_cast (show d / 65536 % 256 < 256 by omega), b8_cast (show d / 256 % 256 < 256 by omega), b8_cast (show d % 256 < 256 by omega), be4 hd] using this
 go_enter Tryz.func160, Tryz.ntmps160
 go_wp2_with fail
 refine (K.out _).mono ?_
 rintro e w1 ⟨rfl, hb1⟩
 go_wp2_with fail
 go_ret
 exact Ret.mk rfl (hb1.alloc _)
theorem Sum_any (k : Nat) (h1 : 1 <= k) (h2 : k <= 2) (l : List UInt8) (hl : Hid (l.length < 1000000)) (w : World) : Calls Tryz.prog 160 #[.int .i64 (k : Int), str l] w (Ret (str (Crc.sumL k l)) w) := by
 have : k = 1 \/ k = 2 := by omega
 rcases this with rfl | rfl
 . exact Sum_1 l hl w
 . exact Sum_2 l hl w
theorem Crc.sumL_length {k : Nat} (h1 : 1 <= k) (h2 : k <= 2) (l : List UInt8) : (Crc.sumL k l).length = 2 * k := by
 have : k = 1 \/ k = 2 := by omega
 rcases this with rfl | rfl
 . exact be_length _ _
 . exact be_length _ _
end Go.Proofs.YthecmnbkjchjmaaGreat


namespace Go.Proofs.YthecmnbkjchjmaaGreat
set_option linter.unusedVariables false
set_option linter.unusedSimpArgs false

def floop (f : List UInt8 -> Nat × Int) (l : List UInt8) (o : Bool) (n : Nat) : Nat -> Nat -> Nat × Int
 | 0, e => if o = false /\ n <= 1000 then (e, 0) else if o = true /\ l[e]? = some 255 then (e + 1, 0) else (e, 4)
 | j + 1, e => if o = false /\ n <= 1000 - (j + 1) then (e, 0) else if o = true /\ l[e]? = some 255 then (e + 1, 0) else
   if (f (l.drop e)).2 = 0 then floop f l o n j (e + (f (l.drop e)).1) else (e + (f (l.drop e)).1, (f (l.drop e)).2)
def noK (m : Nat) : Bool := m != 0 && m != 2 && m != 3 && m != 4
def flt : Nat -> List UInt8 -> Nat × Int
 | 0, l => match readH l with
  | none => (0, 2)
  | some (sz, m, n, o) => if noK m = true then (0, 2) else (0, 3)
 | d + 1, l => match readH l with
  | none => (0, 2)
  | some (sz, m, n, o) => if noK m = true then (0, 2) else if m = 0 then (sz, 0) else
    if m < 4 then (if o = true \/ l.length - sz < n then (0, 2) else (sz + n, 0)) else
    if o = false /\ 1000 < n then (0, 4) else floop (flt d) l o n 1000 sz

theorem floop_le {f : List UInt8 -> Nat × Int} (hf : ∀ l, (f l).1 <= l.length) (l : List UInt8) (o : Bool) (n : Nat) : ∀ j e, e <= l.length -> (floop f l o n j e).1 <= l.length := by
 intro j
 induction j with
 | zero =>
  intro e he
  unfold floop
  split
  . exact he
  .
   split
   . rename_i h; exact (List.getElem?_eq_some_iff.1 h.2).1
   . exact he
 | succ j ih =>
  intro e he
  have h1 := hf (l.drop e)
  rw [List.length_drop] at h1
  unfold floop
  split
  . exact he
  .
   split
   . rename_i h; exact (List.getElem?_eq_some_iff.1 h.2).1
   .
    split
    . exact ih _ (by omega)
    . show e + (f (l.drop e)).1 <= l.length; omega
theorem flt_le (d : Nat) : ∀ l, (flt d l).1 <= l.length := by
 induction d with
 | zero =>
  intro l
  unfold flt
  split
  . exact Nat.zero_le _
  . split <;> exact Nat.zero_le _
 | succ d ih =>
  intro l
  unfold flt
  split
  . exact Nat.zero_le _
  .
   rename_i sz m n o hr
   have h1 := (readH_some hr).le
   split
   . exact Nat.zero_le _
   .
    split
    . exact h1
    .
     split
     .
      split
      . exact Nat.zero_le _
      . show sz + n <= l.length; rename_i h; simp only [not_or, Nat.not_lt] at h; omega
     .
      split
      . exact Nat.zero_le _
      . exact floop_le ih l o n 1000 sz h1

theorem cat_split (f : Nat -> List UInt8) {i k : Nat} (h : i <= k) : ∃ r, T.cat f k = T.cat f i ++ r := by
 induction k with
 | zero =>
    obtain rfl : i = 0 := by omega
    exact ⟨[], by simp⟩
 | succ k ih =>
  by_cases e : i = k + 1
  . subst e; exact ⟨[], by simp⟩
  .
   obtain ⟨r, hr⟩ := ih (by omega)
   exact ⟨r ++ f k, by rw [T.cat, hr, List.append_assoc]⟩
theorem pre_split (kind : Int) (s : List UInt8) (op : Bool) (kk : Nat) (ch : Nat -> T) {i k : Nat} (h : i <= k) : ∃ r, pre kind s op kk ch k = pre kind s op kk ch i ++ r := by
 obtain ⟨r, hr⟩ := cat_split (fun i => (ch i).bytes) h
 exact ⟨r, by unfold pre; rw [hr, List.append_assoc]⟩
theorem get_255 {l : List UInt8} {e : Nat} : l[e]? = some 255 ↔ ∃ v, l.drop e = 255 :: v := by
 rw [<- List.head?_drop]
 cases l.drop e with
 | nil => simp
 | cons x v => simp

theorem readH_255 {t : List UInt8} {sz m n : Nat} {o : Bool} (h : readH t = some (sz, m, n, o)) : (m = 7 /\ o = true) ↔ ∃ v, t = 255 :: v := by
 constructor
 .
  rintro ⟨rfl, rfl⟩
  unfold readH at h
  match t, h with
  | c :: r, h =>
   have hc := c.toNat_lt
   dsimp only at h
   split at h
   . simp at h
   .
    split at h
    .
     rename_i h1
     simp only [Option.some.injEq, Prod.mk.injEq] at h
     have e : c.toNat = 255 := by omega
     refine ⟨r, ?_⟩
     rw [<- b8_toNat c, e]; rfl
    .
     split at h
     . cases h
     .
      split at h
      . cases h
      .
       split at h
       . simp at h
       . cases h
 .
  rintro ⟨v, rfl⟩
  rw [T.readH_break] at h
  simp only [Option.some.injEq, Prod.mk.injEq] at h
  exact ⟨h.2.1.symm, h.2.2.2.symm⟩

theorem flt_bytes (t : T) : ∀ d, t.right d = true -> t.ok -> ∀ x, flt d (t.bytes ++ x) = (t.bytes.length, 0) := by
 induction t with
 | nil => intro d h hok; cases hok
 | mk kind n s op k ch ih =>
  intro d h hok x
  have hp : (T.mk kind n s op k ch).plain = true := by rw [T.right_eq] at h; simp at h; exact h.2
  have hr := T.readH_bytes _ hp hok x
  cases d with
  | zero => unfold T.right at h; simp at h
  | succ d =>
   unfold T.right at h
   rw [if_neg (by omega), Bool.and_eq_true, T.all_iff] at h
   obtain ⟨h1, h2⟩ := h
   simp only [Nat.add_sub_cancel] at h2
   have hkd := T.node_kind h1
   unfold T.ok at hok
   unfold flt
   rw [hr]
   unfold T.plain at hp
   rw [Bool.and_eq_true, T.all_iff] at hp
   rcases hkd with rfl | rfl | rfl | rfl
   .
    simp only [T.hd, if_true]
    unfold T.node at h1
    simp at h1
    obtain ⟨⟨rfl, rfl⟩, rfl⟩ := h1
    simp [noK, T.bytes]
   .
    unfold T.node at h1
    simp at h1
    obtain ⟨⟨rfl, rfl⟩, rfl⟩ := h1
    simp [T.hd, noK, T.bytes]
   .
    unfold T.node at h1
    simp at h1
    obtain ⟨⟨rfl, rfl⟩, rfl⟩ := h1
    simp [T.hd, noK, T.bytes]
   .
    unfold T.node at h1
    simp at h1
    obtain ⟨⟨rfl, rfl⟩, hk⟩ := h1
    rw [pre_end]
    have key : ∀ m i, i + m = k -> floop (flt d) (pre 4 [] op k ch k ++ (if op then [255] else []) ++ x) op (if op then 0 else k) (1000 - i) (pre 4 [] op k ch i).length = ((pre 4 [] op k ch k ++ (if op then [255] else [])).length, 0) := by
     intro m
     induction m with
     | zero =>
      intro i hi
      obtain rfl : i = k := by omega
      cases op
      .
       simp only [Bool.false_eq_true, if_false, List.append_nil]
       cases hj : 1000 - i with
       | zero => unfold floop; rw [if_pos ⟨rfl, by omega⟩]
       | succ j => unfold floop; rw [if_pos ⟨rfl, by omega⟩]
      .
       simp only [if_true]
       have h255 : (pre 4 [] true i ch i ++ [255] ++ x)[(pre 4 [] true i ch i).length]? = some 255 := get_255.2 ⟨x, by rw [List.append_assoc, List.drop_left]; rfl⟩
       cases hj : 1000 - i with
       | zero => unfold floop; rw [if_neg (by simp), if_pos ⟨rfl, h255⟩, List.length_append]; rfl
       | succ j => unfold floop; rw [if_neg (by simp), if_pos ⟨rfl, h255⟩, List.length_append]; rfl
     | succ m ihm =>
      intro i hi
      have hik : i < k := by omega
      have e1 : 1000 - i = (1000 - (i + 1)) + 1 := by omega
      obtain ⟨r, hr⟩ := pre_split 4 [] op k ch (show i + 1 <= k by omega)
      have hd : (pre 4 [] op k ch k ++ (if op then [255] else []) ++ x).drop (pre 4 [] op k ch i).length = (ch i).bytes ++ (r ++ ((if op then [255] else []) ++ x)) := by
       rw [hr, pre_succ, List.append_assoc, List.append_assoc, List.append_assoc, List.drop_left]
      have hc := ih i d (h2 i hik) (hok.2.2.2.2 i hik) (r ++ ((if op then [255] else []) ++ x))
      rw [e1]
      unfold floop
      rw [if_neg (by intro h; obtain ⟨h3, h4⟩ := h; subst h3; simp at h4; omega), if_neg (by
       rintro ⟨_, h4⟩
       obtain ⟨v, hv⟩ := get_255.1 h4
       rw [hd] at hv
       exact T.bytes_not_break (ch i) (hp.2 i hik) (hok.2.2.2.2 i hik) _ _ hv), hd, hc, if_pos rfl]
      have := ihm (i + 1) (by omega)
      rw [pre_succ, List.length_append] at this
      exact this
    have h0 := key k 0 (by omega)
    cases op
    .
     have e : (pre 4 [] false k ch 0).length = (headL 4 k).length := by simp [pre, T.cat]
     rw [e] at h0
     have eh : (T.mk 4 0 [] false k ch).hd = ((headL 4 k).length, 4, k, false) := rfl
     rw [eh]
     dsimp only
     rw [if_neg (by decide), if_neg (by decide), if_neg (by decide), if_neg (by rintro ⟨_, h⟩; omega)]
     exact h0
    .
     have eh : (T.mk 4 0 [] true k ch).hd = (1, 4, 0, true) := rfl
     rw [eh]
     dsimp only
     rw [if_neg (by decide), if_neg (by decide), if_neg (by decide), if_neg (by rintro ⟨h, _⟩; cases h)]
     exact h0
end Go.Proofs.YthecmnbkjchjmaaGreat
