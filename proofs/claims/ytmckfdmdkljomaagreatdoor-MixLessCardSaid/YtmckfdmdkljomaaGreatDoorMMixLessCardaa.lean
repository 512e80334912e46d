/-
 The plain laws of layer 1: a number's bytes, heads, and how a head is read. No program in sight.
-/
import Derived.Test.YtmckfdmdkljomaaGreatDoorRows
import Derived.WalkKit
import Derived.WalkSpells
import Derived.WalkLawsBesides
import Derived.BigQuiet
import Derived.Deep.QuietTactic
import Derived.Deep.RegionHeld3
import Derived.Deep.DeepCutAuto
import Derived.Deep.OwnRows
import Derived.Deep.LoopGhost
import Derived.Deep.DeepFit
import Derived.Deep.Draws
import Derived.StillTailTactics
import Derived.Lib.Hide
namespace Go.Proofs.YtmckfdmdkljomaaGreatDoor
open Go.RowKit
set_option linter.unusedVariables false
set_option linter.unusedSimpArgs false
abbrev vqA := Tryz.underlying29
abbrev vqB := Tryz.underlying65
abbrev vqC := Tryz.underlying68
abbrev vqD := Tryz.underlying123
abbrev vqE := Tryz.underlying24
abbrev vqF := Tryz.underlying66
abbrev vqG := Tryz.underlying45
abbrev vqH := Tryz.underlying5
abbrev vqI := Tryz.underlying9
abbrev vqJ := Tryz.underlying26
abbrev vqK := Tryz.underlying3
abbrev vqL := Tryz.underlying40
abbrev vqM := Tryz.underlying117
theorem gTl {α : Type _} {xs : List α} {i : Nat} (h : i < xs.toArray.size) : xs.toArray[i] = xs[i]'(by simpa using h) := rfl
theorem g0l {α : Type _} {a : α} {zs : List α} (h : 0 < (a :: zs).length) : (a :: zs)[0] = a := rfl
theorem gSl {α : Type _} {a : α} {zs : List α} {i : Nat} (h : i + 1 < (a :: zs).length) : (a :: zs)[i + 1] = zs[i]'(Nat.lt_of_succ_lt_succ h) := rfl
theorem sTl {α : Type _} {l : List α} {i : Nat} {a : α} : l.toArray.setIfInBounds i a = (l.set i a).toArray := List.setIfInBounds_toArray ..
theorem s0l {α : Type _} {x : α} {xs : List α} {a : α} : (x :: xs).set 0 a = a :: xs := rfl
theorem sSl {α : Type _} {x : α} {xs : List α} {i : Nat} {a : α} : (x :: xs).set (i + 1) a = x :: xs.set i a := rfl
def b8 (n : Nat) : UInt8 := UInt8.ofNat n
def b8i (n : Int) : UInt8 := UInt8.ofNat n.toNat
def beC (n k i : Nat) : Nat := n / 2 ^ (8 * (k - 1 - i)) % 256
def be (n k : Nat) : List UInt8 := (List.range k).map fun i => UInt8.ofNat (beC n k i)
theorem be_length (n k : Nat) : (be n k).length = k := by simp [be]
theorem be_succ (n j : Nat) : be n (j + 1) = b8 (n / 2 ^ (8 * j) % 256) :: be n j := by
 unfold be
 rw [List.range_succ_eq_map]
 simp only [List.map_cons, List.map_map]
 congr 1
 apply List.map_congr_left
 intro i hi
 simp only [Function.comp, beC]
 congr 5
 omega
theorem be_zero (n : Nat) : be n 0 = [] := rfl
def headL (m n : Nat) : List UInt8 :=
 if n < 24 then [b8 (32 * m + n)] else if n < 256 then b8 (32 * m + 24) :: be n 1 else if n < 65536 then b8 (32 * m + 25) :: be n 2
 else if n < 4294967296 then b8 (32 * m + 26) :: be n 4 else b8 (32 * m + 27) :: be n 8
def opensB (m : Int) : Bool := decide (2 <= m) && decide (m < 6) || decide (m = 7)
def openL (m : Int) : List UInt8 := if opensB m then [b8 (32 * m.toNat + 31)] else []
def fromBE (l : List UInt8) : Nat := l.foldl (fun n c => n * 256 + c.toNat) 0
theorem fromBE_acc (l : List UInt8) (a : Nat) : l.foldl (fun n c => n * 256 + c.toNat) a = a * 2 ^ (8 * l.length) + fromBE l := by
 unfold fromBE
 induction l generalizing a with
 | nil => simp
 | cons c l ih =>
  rw [List.foldl_cons, ih, List.foldl_cons, ih (0 * 256 + c.toNat), List.length_cons, Nat.mul_add, Nat.pow_add, Nat.zero_mul, Nat.zero_add, Nat.add_mul]
  rw [show (2 : Nat) ^ (8 * 1) = 256 from rfl, Nat.mul_assoc, Nat.mul_comm 256, Nat.add_assoc]
theorem fromBE_cons (c : UInt8) (l : List UInt8) : fromBE (c :: l) = c.toNat * 2 ^ (8 * l.length) + fromBE l := by
 unfold fromBE; rw [List.foldl_cons, fromBE_acc]; simp [fromBE]
theorem fromBE_snoc (l : List UInt8) (c : UInt8) : fromBE (l ++ [c]) = fromBE l * 256 + c.toNat := by
 unfold fromBE; rw [List.foldl_append]; rfl
theorem fromBE_lt (l : List UInt8) : fromBE l < 2 ^ (8 * l.length) := by
 induction l with
 | nil => simp [fromBE]
 | cons c l ih =>
  rw [fromBE_cons, List.length_cons, Nat.mul_add, Nat.pow_add]
  have := c.toNat_lt
  have h : c.toNat * 2 ^ (8 * l.length) + 2 ^ (8 * l.length) <= 256 * 2 ^ (8 * l.length) := by
   rw [<- Nat.succ_mul]; exact Nat.mul_le_mul_right _ (by omega)
  rw [show (2 : Nat) ^ (8 * 1) = 256 from rfl, Nat.mul_comm _ 256]
  omega
theorem be_add (k : Nat) : ∀ a x : Nat, be (a * 2 ^ (8 * k) + x) k = be x k := by
 induction k with
 | zero => intros; rfl
 | succ k ih =>
  intro a x
  rw [be_succ, be_succ]
  have e : a * 2 ^ (8 * (k + 1)) = (a * 256) * 2 ^ (8 * k) := by
   rw [Nat.mul_add, Nat.pow_add, show (2 : Nat) ^ (8 * 1) = 256 from rfl, Nat.mul_assoc, Nat.mul_comm 256]
  rw [e, ih]
  congr 2
  rw [Nat.mul_comm (a * 256), Nat.mul_add_div (Nat.two_pow_pos _)]
  omega
theorem b8_toNat (c : UInt8) : b8 c.toNat = c := by simp [b8]
theorem toNat_b8 {n : Nat} (h : n < 256) : (b8 n).toNat = n := by simp [b8]; omega
theorem be_fromBE (l : List UInt8) : be (fromBE l) l.length = l := by
 induction l with
 | nil => rfl
 | cons c l ih =>
  rw [List.length_cons, be_succ, fromBE_cons, be_add, ih]
  congr 1
  have h := fromBE_lt l
  rw [Nat.mul_comm, Nat.mul_add_div (Nat.two_pow_pos _), Nat.div_eq_of_lt h, Nat.add_zero, Nat.mod_eq_of_lt c.toNat_lt, b8_toNat]
theorem fromBE_be (k : Nat) : ∀ n : Nat, fromBE (be n k) = n % 2 ^ (8 * k) := by
 induction k with
 | zero => intro n; simp [be_zero, fromBE, Nat.mod_one]
 | succ k ih =>
  intro n
  rw [be_succ, fromBE_cons, ih, be_length, toNat_b8 (Nat.mod_lt _ (by omega)), Nat.mul_add, Nat.pow_add, show (2 : Nat) ^ (8 * 1) = 256 from rfl]
  rw [Nat.mod_mul, Nat.mul_comm, Nat.add_comm]
def readH (l : List UInt8) : Option (Nat × Nat × Nat × Bool) :=
 match l with
 | [] => none
 | c :: r =>
  if c.toNat % 32 < 24 then some (1, c.toNat / 32, c.toNat % 32, false)
  else if c.toNat % 32 = 31 /\ opensB ((c.toNat / 32 : Nat) : Int) = true then some (1, c.toNat / 32, 0, true)
  else if 28 <= c.toNat % 32 then none
  else if r.length < 2 ^ (c.toNat % 32 - 24) then none
  else if (headL (c.toNat / 32) (fromBE (r.take (2 ^ (c.toNat % 32 - 24))))).length = 1 + 2 ^ (c.toNat % 32 - 24) then
   some (1 + 2 ^ (c.toNat % 32 - 24), c.toNat / 32, fromBE (r.take (2 ^ (c.toNat % 32 - 24))), false)
  else none
theorem headL_pos (m n : Nat) : 0 < (headL m n).length := by
 unfold headL; repeat' split
 all_goals simp
theorem headL_le (m n : Nat) : (headL m n).length <= 9 := by
 unfold headL; repeat' split
 all_goals simp [be_length]
theorem headL_of_length {m n j : Nat} (hj : j < 4) (hn : n < 2 ^ (8 * 2 ^ j)) (h : (headL m n).length = 1 + 2 ^ j) : headL m n = b8 (32 * m + 24 + j) :: be n (2 ^ j) := by
 unfold headL at h ⊢
 match j, hj with
 | 0, _ =>
  by_cases a : n < 24
  . rw [if_pos a] at h; simp at h
  . rw [if_neg a, if_pos (by simpa using hn)]
 | 1, _ =>
  by_cases a : n < 24
  . rw [if_pos a] at h; simp at h
  by_cases b : n < 256
  . rw [if_neg a, if_pos b] at h; simp [be_length] at h
  rw [if_neg a, if_neg b, if_pos (by simpa using hn)]
 | 2, _ =>
  by_cases a : n < 24
  . rw [if_pos a] at h; simp at h
  by_cases b : n < 256
  . rw [if_neg a, if_pos b] at h; simp [be_length] at h
  by_cases c : n < 65536
  . rw [if_neg a, if_neg b, if_pos c] at h; simp [be_length] at h
  rw [if_neg a, if_neg b, if_neg c, if_pos (by simpa using hn)]
 | 3, _ =>
  by_cases a : n < 24
  . rw [if_pos a] at h; simp at h
  by_cases b : n < 256
  . rw [if_neg a, if_pos b] at h; simp [be_length] at h
  by_cases c : n < 65536
  . rw [if_neg a, if_neg b, if_pos c] at h; simp [be_length] at h
  by_cases d : n < 4294967296
  . rw [if_neg a, if_neg b, if_neg c, if_pos d] at h; simp [be_length] at h
  rw [if_neg a, if_neg b, if_neg c, if_neg d]
theorem u8_split (c : UInt8) : c = b8 (32 * (c.toNat / 32) + c.toNat % 32) := by
 rw [Nat.div_add_mod, b8_toNat]
structure Head1 (l : List UInt8) (sz m n : Nat) (o : Bool) : Prop where
 pos : 0 < sz
 le : sz <= l.length
 m7 : m <= 7
 n64 : n < 18446744073709551616
 closed : o = false -> l.take sz = headL m n /\ sz = (headL m n).length
 opened : o = true -> sz = 1 /\ n = 0 /\ opensB m = true /\ l.take 1 = [b8 (32 * m + 31)]
theorem readH_some {l : List UInt8} {sz m n : Nat} {o : Bool} (h : readH l = some (sz, m, n, o)) : Head1 l sz m n o := by
 unfold readH at h
 match l, h with
 | c :: r, h =>
  have hc := c.toNat_lt
  have hd : c.toNat / 32 <= 7 := by omega
  dsimp only at h
  by_cases h1 : c.toNat % 32 < 24
  .
   rw [if_pos h1] at h
   simp only [Option.some.injEq, Prod.mk.injEq] at h
   obtain ⟨rfl, rfl, rfl, rfl⟩ := h
   refine ⟨by omega, by simp, hd, by omega, fun _ => ?_, fun e => by cases e⟩
   unfold headL
   rw [if_pos h1]
   exact ⟨by rw [<- u8_split]; rfl, rfl⟩
  rw [if_neg h1] at h
  by_cases h2 : c.toNat % 32 = 31 /\ opensB ((c.toNat / 32 : Nat) : Int) = true
  .
   rw [if_pos h2] at h
   simp only [Option.some.injEq, Prod.mk.injEq] at h
   obtain ⟨rfl, rfl, rfl, rfl⟩ := h
   refine ⟨by omega, by simp, hd, by omega, (fun e => by cases e), fun _ => ⟨rfl, rfl, h2.2, ?_⟩⟩
   rw [<- h2.1, <- u8_split]; rfl
  rw [if_neg h2] at h
  by_cases h3 : 28 <= c.toNat % 32
  . rw [if_pos h3] at h; cases h
  rw [if_neg h3] at h
  obtain ⟨j, hj⟩ : ∃ j, j = c.toNat % 32 - 24 := ⟨_, rfl⟩
  have hj4 : j < 4 := by omega
  rw [<- hj] at h
  by_cases h4 : r.length < 2 ^ j
  . rw [if_pos h4] at h; cases h
  rw [if_neg h4] at h
  by_cases h5 : (headL (c.toNat / 32) (fromBE (r.take (2 ^ j)))).length = 1 + 2 ^ j
  .
   rw [if_pos h5] at h
   simp only [Option.some.injEq, Prod.mk.injEq] at h
   obtain ⟨rfl, rfl, rfl, rfl⟩ := h
   have hlen : (r.take (2 ^ j)).length = 2 ^ j := by rw [List.length_take]; omega
   have hlt := fromBE_lt (r.take (2 ^ j))
   rw [hlen] at hlt
   have hpow : 2 ^ (8 * 2 ^ j) <= 18446744073709551616 := by
    match j, hj4 with
    | 0, _ => decide
    | 1, _ => decide
    | 2, _ => decide
    | 3, _ => decide
   refine ⟨by omega, by simp; omega, hd, by omega, fun _ => ⟨?_, h5.symm⟩, fun e => by cases e⟩
   rw [headL_of_length hj4 hlt h5]
   have hb := be_fromBE (r.take (2 ^ j))
   rw [hlen] at hb
   rw [hb, Nat.add_comm 1, List.take_succ_cons]
   congr 1
   rw [show 32 * (c.toNat / 32) + 24 + j = c.toNat from by omega, b8_toNat]
  . rw [if_neg h5] at h; cases h
theorem readH_long {m n j : Nat} (hm : m <= 7) (hj : j < 4) (hn : n < 2 ^ (8 * 2 ^ j)) (h : headL m n = b8 (32 * m + 24 + j) :: be n (2 ^ j)) (t : List UInt8) :
  readH (headL m n ++ t) = some ((headL m n).length, m, n, false) := by
 have hl : (headL m n).length = 1 + 2 ^ j := by rw [h, List.length_cons, be_length, Nat.add_comm]
 have e1 : (b8 (32 * m + 24 + j)).toNat = 32 * m + 24 + j := toNat_b8 (by omega)
 have e2 : (32 * m + 24 + j) / 32 = m := by omega
 have e3 : (32 * m + 24 + j) % 32 = 24 + j := by omega
 have e4 : ((be n (2 ^ j) ++ t).take (2 ^ j)) = be n (2 ^ j) := by
  rw [List.take_append_of_le_length (by rw [be_length]; exact Nat.le_refl _), List.take_of_length_le (by rw [be_length]; exact Nat.le_refl _)]
 rw [hl]
 rw [h, List.cons_append]
 unfold readH
 dsimp only
 rw [e1, e2, e3, show 24 + j - 24 = j from by omega]
 rw [if_neg (by omega), if_neg (by omega), if_neg (by omega)]
 rw [e4, fromBE_be, Nat.mod_eq_of_lt hn, if_neg (by rw [List.length_append, be_length]; omega), if_pos hl]
theorem readH_head {m n : Nat} (hm : m <= 7) (hn : n < 18446744073709551616) (t : List UInt8) : readH (headL m n ++ t) = some ((headL m n).length, m, n, false) := by
 by_cases a : n < 24
 .
  have e1 : (b8 (32 * m + n)).toNat = 32 * m + n := toNat_b8 (by omega)
  unfold headL
  rw [if_pos a]
  unfold readH
  simp only [List.cons_append, List.nil_append, List.length_cons, List.length_nil]
  rw [e1, show (32 * m + n) % 32 = n from by omega, show (32 * m + n) / 32 = m from by omega, if_pos a]
 by_cases b : n < 256
 . exact readH_long hm (j := 0) (by omega) (by simpa using b) (by unfold headL; rw [if_neg a, if_pos b]) t
 by_cases c : n < 65536
 . exact readH_long hm (j := 1) (by omega) (by simpa using c) (by unfold headL; rw [if_neg a, if_neg b, if_pos c]) t
 by_cases d : n < 4294967296
 . exact readH_long hm (j := 2) (by omega) (by simpa using d) (by unfold headL; rw [if_neg a, if_neg b, if_neg c, if_pos d]) t
 . exact readH_long hm (j := 3) (by omega) (by simpa using hn) (by unfold headL; rw [if_neg a, if_neg b, if_neg c, if_neg d]) t
section
abbrev str (l : List UInt8) : Value := .string ⟨l.toArray⟩
theorem str_app (x y : List UInt8) : Value.string ((⟨x.toArray⟩ : ByteArray) ++ ⟨y.toArray⟩) = str (x ++ y) := by rw [ByteArray.mk_append_mk]
theorem hid {p : Prop} (h : p) : Hid p := h
structure Mod (S : List Nat) (w w' : World) : Prop where
 os : w'.os = w.os
 tape : w'.tape = w.tape
 output : w'.output = w.output
 size : w.heap.size <= w'.heap.size
 block : ∀ k, k < w.heap.size -> k ∉ S -> w'.heap[k]? = w.heap[k]?
abbrev Ext (w w' : World) : Prop := Mod [] w w'
section
variable {S T : List Nat} {a b c w w' : World}
theorem Mod.refl (S : List Nat) (w : World) : Mod S w w := ⟨rfl, rfl, rfl, Nat.le_refl _, fun _ _ _ => rfl⟩
theorem Mod.trans (h : Mod S a b) (k : Mod S b c) : Mod S a c :=
 ⟨k.os.trans h.os, k.tape.trans h.tape, k.output.trans h.output, Nat.le_trans h.size k.size, fun i hi hs => (k.block i (Nat.lt_of_lt_of_le hi h.size) hs).trans (h.block i hi hs)⟩
theorem Mod.mono (h : Mod S a b) (hs : ∀ k, k ∈ S -> k ∈ T) : Mod T a b := ⟨h.os, h.tape, h.output, h.size, fun i hi hn => h.block i hi (fun hm => hn (hs i hm))⟩
theorem Mod.of_ext (h : Ext a b) : Mod S a b := h.mono (fun k hk => by cases hk)
theorem Mod.new (h : Mod S a b) (hs : ∀ k, k ∈ S -> k ∈ T \/ a.heap.size <= k) : Mod T a b :=
 ⟨h.os, h.tape, h.output, h.size, fun i hi hn => h.block i hi (fun hm => (hs i hm).elim hn (fun hle => Nat.not_le_of_lt hi hle))⟩
theorem Mod.below (h : Ext a b) : Below a.heap.size a b := ⟨h.os, h.tape, h.output, h.size, fun k hk => h.block k hk (fun hm => by cases hm)⟩
theorem Mod.of_below (h : Below a.heap.size a b) : Ext a b := ⟨h.os, h.tape, h.output, h.size, fun k hk _ => h.block k hk⟩
theorem Mod.drew (h : Mod S a w) : Mod S a w.drew := ⟨h.os, h.tape, h.output, h.size, h.block⟩
theorem Mod.drewN (h : Mod S a w) (n : Nat) : Mod S a (w.drewN n) := ⟨h.os, h.tape, h.output, h.size, h.block⟩
theorem Mod.alloc (h : Mod S a w) (o : Obj) : Mod S a (w.alloc o) :=
 h.trans ⟨rfl, rfl, rfl, by simp, fun k hk _ => Below.heap_alloc _ _ _ hk⟩
theorem Mod.setCell (h : Mod S a w) {p : Addr} (hp : p.block ∈ S \/ a.heap.size <= p.block) (u : Value) : Mod S a (w.setCell p u) :=
 ⟨h.os, h.tape, h.output, by simpa [World.setCell] using h.size, fun k hk hs => (Below.heap_setCell _ _ _ _ (by
  rintro rfl
  rcases hp with hp | hp
  . exact hs hp
  . exact absurd hk (Nat.not_lt.2 hp))).trans (h.block k hk hs)⟩
theorem Mod.grown (h : Mod S a w) {row : Option Nat} (hg : w.grownBy w' row) (hr : ∀ k, row = some k -> k ∈ S \/ a.heap.size <= k) : Mod S a w' :=
 ⟨hg.os.trans h.os, hg.tape.trans h.tape, hg.output.trans h.output, Nat.le_trans h.size hg.size, fun k hk hs => (hg.block k (Nat.lt_of_lt_of_le hk h.size) (fun e => by
  rcases hr k e.symm with hp | hp
  . exact hs hp
  . exact absurd hk (Nat.not_lt.2 hp))).trans (h.block k hk hs)⟩
theorem Mod.cell (h : Mod S a b) {k o : Nat} (hk : k < a.heap.size) (hs : k ∉ S) : b.cell? ⟨k, o, none⟩ = a.cell? ⟨k, o, none⟩ := World.cell?_of_block (w := a) (h.block k hk hs)
theorem Mod.frozen (h : Mod S a b) {k o : Nat} (hk : k < a.heap.size) (hs : k ∉ S) : b.frozen? ⟨k, o, none⟩ = a.frozen? ⟨k, o, none⟩ := World.frozen?_of_block (w := a) (h.block k hk hs)
end
theorem ext_cells {W w1 : World} (hb : Ext W w1) : (∀ b o, b < W.heap.size -> w1.cell? ⟨b, o, none⟩ = W.cell? ⟨b, o, none⟩) /\ (∀ b o, b < W.heap.size -> w1.frozen? ⟨b, o, none⟩ = W.frozen? ⟨b, o, none⟩) :=
 ⟨fun b o h => hb.cell h (by simp), fun b o h => hb.frozen h (by simp)⟩
def Ret (v : Value) (w : World) (e : Ending) (w' : World) : Prop := e = .returned v /\ Ext w w'
theorem Ret.mk {v v' : Value} {w w' : World} (hv : v' = v) (h : Ext w w') : Ret v w (.returned v') w' := ⟨by rw [hv], h⟩
def RetS (S : List Nat) (v : Value) (R : World -> Prop) (w : World) (e : Ending) (w' : World) : Prop := e = .returned v /\ Mod S w w' /\ R w'
theorem RetS.mk {S : List Nat} {v v' : Value} {R : World -> Prop} {w w' : World} (hv : v' = v) (h : Mod S w w') (hr : R w') : RetS S v R w (.returned v') w' := ⟨by rw [hv], h, hr⟩
def Blk (w : World) (g : Nat) (t : TypeId) (cs : Array Value) : Prop := w.heap[g]? = some (.cells cs t (0, 0))
section
variable {w w' : World} {g : Nat} {t : TypeId} {cs : Array Value}
theorem Blk.lt (h : Blk w g t cs) : g < w.heap.size := by
 rcases Nat.lt_or_ge g w.heap.size with hlt | hge
 . exact hlt
 . unfold Blk at h; rw [Array.getElem?_eq_none hge] at h; cases h
theorem Blk.cell (h : Blk w g t cs) (i : Nat) : w.cell? ⟨g, i, none⟩ = cs[i]? := cell_of_row w g i cs t (0, 0) h
theorem Blk.frozen (h : Blk w g t cs) (i : Nat) : w.frozen? ⟨g, i, none⟩ = false := by
 unfold Blk at h
 simp [World.frozen?, h]
theorem Blk.new (w : World) (t : TypeId) (cs : Array Value) : Blk (w.alloc (.cells cs t)) w.heap.size t cs := heap_alloc_new w _
theorem Blk.drew (h : Blk w g t cs) : Blk w.drew g t cs := h
theorem Blk.drewN (h : Blk w g t cs) (n : Nat) : Blk (w.drewN n) g t cs := h
theorem Blk.alloc (h : Blk w g t cs) (o : Obj) : Blk (w.alloc o) g t cs := (Below.heap_alloc w o g h.lt).trans h
theorem Blk.set_ (h : Blk w g t cs) (i : Nat) (u : Value) : Blk (w.setCell ⟨g, i, none⟩ u) g t (cs.setIfInBounds i u) := by
 unfold Blk at h ⊢
 simp [World.setCell, Array.getElem?_modify, h]
theorem Blk.far (h : Blk w g t cs) {p : Addr} (hp : g ≠ p.block) (u : Value) : Blk (w.setCell p u) g t cs := (Below.heap_setCell w p u g hp).trans h
theorem Blk.mod {S : List Nat} (h : Blk w g t cs) (hm : Mod S w w') (hs : g ∉ S) : Blk w' g t cs := (hm.block g h.lt hs).trans h
theorem Blk.ext (h : Blk w g t cs) (hm : Ext w w') : Blk w' g t cs := h.mod hm (by simp)
end
theorem foldl_push (l : List Int) (s : ByteArray) : l.foldl (fun r n => r.push (UInt8.ofNat n.toNat)) s = ⟨(s.data.toList ++ l.map fun n => UInt8.ofNat n.toNat).toArray⟩ := by
 induction l generalizing s with
 | nil => simp
 | cons n l ih => rw [List.foldl_cons, ih]; simp [ByteArray.push]
theorem addr_add (b o j : Nat) : (⟨b, o, none⟩ : Addr).add j = ⟨b, o + j, none⟩ := by
 unfold Addr.add
 by_cases h : j = 0
 . subst h; simp
 . simp [h]
theorem run_row_string {P : Program} (w : World) (src dst e : TypeId) (hs : P.underlying src = some (.slice e)) (he : P.underlying e = some (.int .u8)) (hd : P.underlying dst = some .string)
  (b t n c : Nat) (g : Nat -> Nat) (h : w.rowIs b t n (fun i => .int .u8 ((g i : Nat) : Int))) :
  (convert src dst (.slice (some ⟨b, 0, none⟩) n c)).run P w = .ok (str ((List.range n).map fun i => UInt8.ofNat (g i))) w := by
 rw [run_convert_bytes_string w src dst e _ _ _ hs he hd]
 rw [run_bytesToString w _ _ _ ((List.range n).map fun i => ((g i : Nat) : Int))]
 . rw [foldl_push]; congr 4; simp
 .
  rw [run_loadCells w _ _ (fun i => .int .u8 ((g i : Nat) : Int))]
  . simp
  . intro j hj; have := h.cell hj; rw [addr_add]; simpa using this
theorem run_byte_string {P : Program} (src dst e : TypeId) (hs : P.underlying src = some (.slice e)) (he : P.underlying e = some (.int .u8)) (hd : P.underlying dst = some .string)
  (a : Addr) (c : Nat) (w : World) : (convert src dst (.slice (some a) 1 c)).run P w =
   match w.cell? a with
   | some (.int .u8 x) => .ok (str [b8i x]) w
   | _ => (Conv.bytesToString (.slice (some a) 1 c)).run P w := by
 rw [run_convert_bytes_string w src dst e _ _ _ hs he hd]
 split
 .
  rename_i x hx
  rw [run_bytesToString w _ _ _ [x]]
  . simp [b8i]; rfl
  .
   rw [show (1 : Nat) = [Value.int .u8 x].length from rfl, run_loadCells_list]
   . simp
   .
    intro j v hj
    match j, hj with
    | 0, hj => simp at hj; subst hj; simpa [Addr.add] using hx
 . rfl
end
end Go.Proofs.YtmckfdmdkljomaaGreatDoor
