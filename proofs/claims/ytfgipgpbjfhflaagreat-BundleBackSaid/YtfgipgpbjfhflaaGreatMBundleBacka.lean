/-
 The plain laws of layer 1: a number's bytes, heads, and how a head is read. No program in sight.
 Words and small laws that every text of this seat uses: strings out of byte rows; worlds of which only named blocks, and what is new, have turned.
 From a law's walk to the given statement: the arguments read behind the call as before, because nothing that was there has turned.
 Names of endpoints, plainly: which are right, as the code and as the reference tell it.
 Blocks, plainly: why one is not right; its header.
 Primaries and bundles, plainly; the first place of a kind.
 Regions that draw their order, whose operations read and whose callees turn nothing that was there: walked once, in the order of the text.
 Later worlds: nothing that was there has turned; drawn regions of quiet operations over them.
 Items, plainly: trees; what is right; their bytes, which have no other item's bytes as a beginning.
 Items, plainly: no item's bytes begin with another's.
 Items in memory; how deep they are.
 Bundles in memory.
 Why a block is not right, as the code and the reference tell it.
 Bundles: the first block of a type, as the code finds it.
 Items: a number, bytes, an array, made.
 An item's block: its five cells, stored anew.
 Names of the scheme 2: Right, Item; None.
 Names: the code's look at them.
 Names: which the code takes for right.
-/
import Derived.Test.YtfgipgpbjfhflaaGreatRows
import Derived.WalkKit
import Derived.WalkSpells
import Derived.WalkLawsBesides
import Derived.BigQuiet
import Derived.Deep.QuietTactic
import Derived.Deep.RegionHeld3
import Derived.Deep.DeepCutAuto
import Derived.Deep.OwnRows
import Derived.Deep.LoopGhost
import Derived.Deep.DeepFit
import Derived.Deep.Draws
import Derived.StillTailTactics
import Derived.Lib.Hide
import Derived.ProofKit
import Derived.OpenShut
import Derived.ShutString
import Derived.ChangeOld
import Derived.Laws.Rows
import Derived.Deep.Quiet
import Derived.Deep.MidRow
import Derived.Laws.RangeAny
import Derived.Lib.Strings

namespace Go.Proofs.YtfgipgpbjfhflaaGreat
theorem gTl {α : Type _} {xs : List α} {i : Nat} (h : i < xs.toArray.size) : xs.toArray[i] = xs[i]'(by simpa using h) := rfl
theorem g0l {α : Type _} {a : α} {zs : List α} (h : 0 < (a :: zs).length) : (a :: zs)[0] = a := rfl
theorem gSl {α : Type _} {a : α} {zs : List α} {i : Nat} (h : i + 1 < (a :: zs).length) : (a :: zs)[i + 1] = zs[i]'(Nat.lt_of_succ_lt_succ h) := rfl
theorem sTl {α : Type _} {l : List α} {i : Nat} {a : α} : l.toArray.setIfInBounds i a = (l.set i a).toArray := List.setIfInBounds_toArray ..
theorem s0l {α : Type _} {x : α} {xs : List α} {a : α} : (x :: xs).set 0 a = a :: xs := rfl
theorem sSl {α : Type _} {x : α} {xs : List α} {i : Nat} {a : α} : (x :: xs).set (i + 1) a = x :: xs.set i a := rfl

def b8 (n : Nat) : UInt8 := UInt8.ofNat n
def b8i (n : Int) : UInt8 := UInt8.ofNat n.toNat
/-- A number's bytes, the greatest first. -/
def beC (n k i : Nat) : Nat := n / 2 ^ (8 * (k - 1 - i)) % 256
def be (n k : Nat) : List UInt8 := (List.range k).map fun i => UInt8.ofNat (beC n k i)
theorem be_length (n k : Nat) : (be n k).length = k := by simp [be]
theorem be_succ (n j : Nat) : be n (j + 1) = b8 (n / 2 ^ (8 * j) % 256) :: be n j := by
 unfold be
 rw [List.range_succ_eq_map]
 simp only [List.map_cons, List.map_map]
 congr 1
 apply List.map_congr_left
 intro i hi
 simp only [Function.comp, beC]
 congr 5
 omega
theorem be_zero (n : Nat) : be n 0 = [] := rfl

/-- A head's bytes. -/
def headL (m n : Nat) : List UInt8 :=
 if n < 24 then [b8 (32 * m + n)] else if n < 256 then b8 (32 * m + 24) :: be n 1 else if n < 65536 then b8 (32 * m + 25) :: be n 2
 else if n < 4294967296 then b8 (32 * m + 26) :: be n 4 else b8 (32 * m + 27) :: be n 8
def opensB (m : Int) : Bool := decide (2 ≤ m) && decide (m < 6) || decide (m = 7)
def openL (m : Int) : List UInt8 := if opensB m then [b8 (32 * m.toNat + 31)] else []

/-- The number of bytes. -/
def fromBE (l : List UInt8) : Nat := l.foldl (fun n c => n * 256 + c.toNat) 0
theorem fromBE_acc (l : List UInt8) (a : Nat) : l.foldl (fun n c => n * 256 + c.toNat) a = a * 2 ^ (8 * l.length) + fromBE l := by
 unfold fromBE
 induction l generalizing a with
 | nil => simp
 | cons c l ih =>
  rw [List.foldl_cons, ih, List.foldl_cons, ih (0 * 256 + c.toNat), List.length_cons, Nat.mul_add, Nat.pow_add, Nat.zero_mul, Nat.zero_add, Nat.add_mul]
  rw [show (2 : Nat) ^ (8 * 1) = 256 from rfl, Nat.mul_assoc, Nat.mul_comm 256, Nat.add_assoc]
theorem fromBE_cons (c : UInt8) (l : List UInt8) : fromBE (c :: l) = c.toNat * 2 ^ (8 * l.length) + fromBE l := by
 unfold fromBE; rw [List.foldl_cons, fromBE_acc]; simp [fromBE]
theorem fromBE_snoc (l : List UInt8) (c : UInt8) : fromBE (l ++ [c]) = fromBE l * 256 + c.toNat := by
 unfold fromBE; rw [List.foldl_append]; rfl
theorem fromBE_lt (l : List UInt8) : fromBE l < 2 ^ (8 * l.length) := by
 induction l with
 | nil => simp [fromBE]
 | cons c l ih =>
  rw [fromBE_cons, List.length_cons, Nat.mul_add, Nat.pow_add]
  have := c.toNat_lt
  have h : c.toNat * 2 ^ (8 * l.length) + 2 ^ (8 * l.length) ≤ 256 * 2 ^ (8 * l.length) := by
   rw [← Nat.succ_mul]; exact Nat.mul_le_mul_right _ (by omega)
  rw [show (2 : Nat) ^ (8 * 1) = 256 from rfl, Nat.mul_comm _ 256]
  omega
theorem be_add (k : Nat) : ∀ a x : Nat, be (a * 2 ^ (8 * k) + x) k = be x k := by
 induction k with
 | zero => intros; rfl
 | succ k ih =>
  intro a x
  rw [be_succ, be_succ]
  have e : a * 2 ^ (8 * (k + 1)) = (a * 256) * 2 ^ (8 * k) := by
   rw [Nat.mul_add, Nat.pow_add, show (2 : Nat) ^ (8 * 1) = 256 from rfl, Nat.mul_assoc, Nat.mul_comm 256]
  rw [e, ih]
  congr 2
  rw [Nat.mul_comm (a * 256), Nat.mul_add_div (Nat.two_pow_pos _)]
  omega
theorem b8_toNat (c : UInt8) : b8 c.toNat = c := by simp [b8]
theorem toNat_b8 {n : Nat} (h : n < 256) : (b8 n).toNat = n := by simp [b8]; omega
theorem be_fromBE (l : List UInt8) : be (fromBE l) l.length = l := by
 induction l with
 | nil => rfl
 | cons c l ih =>
  rw [List.length_cons, be_succ, fromBE_cons, be_add, ih]
  congr 1
  have h := fromBE_lt l
  rw [Nat.mul_comm, Nat.mul_add_div (Nat.two_pow_pos _), Nat.div_eq_of_lt h, Nat.add_zero, Nat.mod_eq_of_lt c.toNat_lt, b8_toNat]
theorem fromBE_be (k : Nat) : ∀ n : Nat, fromBE (be n k) = n % 2 ^ (8 * k) := by
 induction k with
 | zero => intro n; simp [be_zero, fromBE, Nat.mod_one]
 | succ k ih =>
  intro n
  rw [be_succ, fromBE_cons, ih, be_length, toNat_b8 (Nat.mod_lt _ (by omega)), Nat.mul_add, Nat.pow_add, show (2 : Nat) ^ (8 * 1) = 256 from rfl]
  rw [Nat.mod_mul, Nat.mul_comm, Nat.add_comm]

/-- How a head is read: its size, its type, its number, whether it is open. -/
def readH (l : List UInt8) : Option (Nat × Nat × Nat × Bool) :=
 match l with
 | [] => none
 | c :: r =>
  if c.toNat % 32 < 24 then some (1, c.toNat / 32, c.toNat % 32, false)
  else if c.toNat % 32 = 31 ∧ opensB ((c.toNat / 32 : Nat) : Int) = true then some (1, c.toNat / 32, 0, true)
  else if 28 ≤ c.toNat % 32 then none
  else if r.length < 2 ^ (c.toNat % 32 - 24) then none
  else if (headL (c.toNat / 32) (fromBE (r.take (2 ^ (c.toNat % 32 - 24))))).length = 1 + 2 ^ (c.toNat % 32 - 24) then
   some (1 + 2 ^ (c.toNat % 32 - 24), c.toNat / 32, fromBE (r.take (2 ^ (c.toNat % 32 - 24))), false)
  else none

theorem headL_pos (m n : Nat) : 0 < (headL m n).length := by
 unfold headL; repeat' split
 all_goals simp
theorem headL_le (m n : Nat) : (headL m n).length ≤ 9 := by
 unfold headL; repeat' split
 all_goals simp [be_length]

/-- Of so many bytes behind the first there is one head: its number's bytes. -/
theorem headL_of_length {m n j : Nat} (hj : j < 4) (hn : n < 2 ^ (8 * 2 ^ j)) (h : (headL m n).length = 1 + 2 ^ j) : headL m n = b8 (32 * m + 24 + j) :: be n (2 ^ j) := by
 unfold headL at h ⊢
 match j, hj with
 | 0, _ =>
  by_cases a : n < 24
  · rw [if_pos a] at h; simp at h
  · rw [if_neg a, if_pos (by simpa using hn)]
 | 1, _ =>
  by_cases a : n < 24
  · rw [if_pos a] at h; simp at h
  by_cases b : n < 256
  · rw [if_neg a, if_pos b] at h; simp [be_length] at h
  rw [if_neg a, if_neg b, if_pos (by simpa using hn)]
 | 2, _ =>
  by_cases a : n < 24
  · rw [if_pos a] at h; simp at h
  by_cases b : n < 256
  · rw [if_neg a, if_pos b] at h; simp [be_length] at h
  by_cases c : n < 65536
  · rw [if_neg a, if_neg b, if_pos c] at h; simp [be_length] at h
  rw [if_neg a, if_neg b, if_neg c, if_pos (by simpa using hn)]
 | 3, _ =>
  by_cases a : n < 24
  · rw [if_pos a] at h; simp at h
  by_cases b : n < 256
  · rw [if_neg a, if_pos b] at h; simp [be_length] at h
  by_cases c : n < 65536
  · rw [if_neg a, if_neg b, if_pos c] at h; simp [be_length] at h
  by_cases d : n < 4294967296
  · rw [if_neg a, if_neg b, if_neg c, if_pos d] at h; simp [be_length] at h
  rw [if_neg a, if_neg b, if_neg c, if_neg d]

theorem u8_split (c : UInt8) : c = b8 (32 * (c.toNat / 32) + c.toNat % 32) := by
 rw [Nat.div_add_mod, b8_toNat]

structure Head1 (l : List UInt8) (sz m n : Nat) (o : Bool) : Prop where
 pos : 0 < sz
 le : sz ≤ l.length
 m7 : m ≤ 7
 n64 : n < 18446744073709551616
 closed : o = false → l.take sz = headL m n ∧ sz = (headL m n).length
 opened : o = true → sz = 1 ∧ n = 0 ∧ opensB m = true ∧ l.take 1 = [b8 (32 * m + 31)]

theorem readH_some {l : List UInt8} {sz m n : Nat} {o : Bool} (h : readH l = some (sz, m, n, o)) : Head1 l sz m n o := by
 unfold readH at h
 match l, h with
 | c :: r, h =>
  have hc := c.toNat_lt
  have hd : c.toNat / 32 ≤ 7 := by omega
  dsimp only at h
  by_cases h1 : c.toNat % 32 < 24
  ·
   rw [if_pos h1] at h
   simp only [Option.some.injEq, Prod.mk.injEq] at h
   obtain ⟨rfl, rfl, rfl, rfl⟩ := h
   refine ⟨by omega, by simp, hd, by omega, fun _ => ?_, fun e => by cases e⟩
   unfold headL
   rw [if_pos h1]
   exact ⟨by rw [← u8_split]; rfl, rfl⟩
  rw [if_neg h1] at h
  by_cases h2 : c.toNat % 32 = 31 ∧ opensB ((c.toNat / 32 : Nat) : Int) = true
  ·
   rw [if_pos h2] at h
   simp only [Option.some.injEq, Prod.mk.injEq] at h
   obtain ⟨rfl, rfl, rfl, rfl⟩ := h
   refine ⟨by omega, by simp, hd, by omega, (fun e => by cases e), fun _ => ⟨rfl, rfl, h2.2, ?_⟩⟩
   rw [← h2.1, ← u8_split]; rfl
  rw [if_neg h2] at h
  by_cases h3 : 28 ≤ c.toNat % 32
  · rw [if_pos h3] at h; cases h
  rw [if_neg h3] at h
  obtain ⟨j, hj⟩ : ∃ j, j = c.toNat % 32 - 24 := ⟨_, rfl⟩
  have hj4 : j < 4 := by omega
  rw [← hj] at h
  by_cases h4 : r.length < 2 ^ j
  · rw [if_pos h4] at h; cases h
  rw [if_neg h4] at h
  by_cases h5 : (headL (c.toNat / 32) (fromBE (r.take (2 ^ j)))).length = 1 + 2 ^ j
  ·
   rw [if_pos h5] at h
   simp only [Option.some.injEq, Prod.mk.injEq] at h
   obtain ⟨rfl, rfl, rfl, rfl⟩ := h
   have hlen : (r.take (2 ^ j)).length = 2 ^ j := by rw [List.length_take]; omega
   have hlt := fromBE_lt (r.take (2 ^ j))
   rw [hlen] at hlt
   have hpow : 2 ^ (8 * 2 ^ j) ≤ 18446744073709551616 := by
    match j, hj4 with
    | 0, _ => decide
    | 1, _ => decide
    | 2, _ => decide
    | 3, _ => decide
   refine ⟨by omega, by simp; omega, hd, by omega, fun _ => ⟨?_, h5.symm⟩, fun e => by cases e⟩
   rw [headL_of_length hj4 hlt h5]
   have hb := be_fromBE (r.take (2 ^ j))
   rw [hlen] at hb
   rw [hb, Nat.add_comm 1, List.take_succ_cons]
   congr 1
   rw [show 32 * (c.toNat / 32) + 24 + j = c.toNat from by omega, b8_toNat]
  · rw [if_neg h5] at h; cases h

theorem readH_long {m n j : Nat} (hm : m ≤ 7) (hj : j < 4) (hn : n < 2 ^ (8 * 2 ^ j)) (h : headL m n = b8 (32 * m + 24 + j) :: be n (2 ^ j)) (t : List UInt8) :
  readH (headL m n ++ t) = some ((headL m n).length, m, n, false) := by
 have hl : (headL m n).length = 1 + 2 ^ j := by rw [h, List.length_cons, be_length, Nat.add_comm]
 have e1 : (b8 (32 * m + 24 + j)).toNat = 32 * m + 24 + j := toNat_b8 (by omega)
 have e2 : (32 * m + 24 + j) / 32 = m := by omega
 have e3 : (32 * m + 24 + j) % 32 = 24 + j := by omega
 have e4 : ((be n (2 ^ j) ++ t).take (2 ^ j)) = be n (2 ^ j) := by
  rw [List.take_append_of_le_length (by rw [be_length]; exact Nat.le_refl _), List.take_of_length_le (by rw [be_length]; exact Nat.le_refl _)]
 rw [hl]
 rw [h, List.cons_append]
 unfold readH
 dsimp only
 rw [e1, e2, e3, show 24 + j - 24 = j from by omega]
 rw [if_neg (by omega), if_neg (by omega), if_neg (by omega)]
 rw [e4, fromBE_be, Nat.mod_eq_of_lt hn, if_neg (by rw [List.length_append, be_length]; omega), if_pos hl]

theorem readH_head {m n : Nat} (hm : m ≤ 7) (hn : n < 18446744073709551616) (t : List UInt8) : readH (headL m n ++ t) = some ((headL m n).length, m, n, false) := by
 by_cases a : n < 24
 ·
  have e1 : (b8 (32 * m + n)).toNat = 32 * m + n := toNat_b8 (by omega)
  unfold headL
  rw [if_pos a]
  unfold readH
  simp only [List.cons_append, List.nil_append, List.length_cons, List.length_nil]
  rw [e1, show (32 * m + n) % 32 = n from by omega, show (32 * m + n) / 32 = m from by omega, if_pos a]
 by_cases b : n < 256
 · exact readH_long hm (j := 0) (by omega) (by simpa using b) (by unfold headL; rw [if_neg a, if_pos b]) t
 by_cases c : n < 65536
 · exact readH_long hm (j := 1) (by omega) (by simpa using c) (by unfold headL; rw [if_neg a, if_neg b, if_pos c]) t
 by_cases d : n < 4294967296
 · exact readH_long hm (j := 2) (by omega) (by simpa using d) (by unfold headL; rw [if_neg a, if_neg b, if_neg c, if_pos d]) t
 · exact readH_long hm (j := 3) (by omega) (by simpa using hn) (by unfold headL; rw [if_neg a, if_neg b, if_neg c, if_neg d]) t
end Go.Proofs.YtfgipgpbjfhflaaGreat


namespace Go.Proofs.YtfgipgpbjfhflaaGreat
open Go.RowKit
set_option linter.unusedVariables false
set_option linter.unusedSimpArgs false

/-- A string's value by its letters. -/
abbrev str (l : List UInt8) : Value := .string ⟨l.toArray⟩
theorem str_app (x y : List UInt8) : Value.string ((⟨x.toArray⟩ : ByteArray) ++ ⟨y.toArray⟩) = str (x ++ y) := by rw [ByteArray.mk_append_mk]
theorem hid {p : Prop} (h : p) : Hid p := h

/-- Blocks outside S that were there are as they were; new blocks may have come. -/
structure Mod (S : List Nat) (w w' : World) : Prop where
 os : w'.os = w.os
 tape : w'.tape = w.tape
 output : w'.output = w.output
 size : w.heap.size ≤ w'.heap.size
 block : ∀ k, k < w.heap.size → k ∉ S → w'.heap[k]? = w.heap[k]?
abbrev Ext (w w' : World) : Prop := Mod [] w w'

section
variable {S T : List Nat} {a b c w w' : World}
theorem Mod.refl (S : List Nat) (w : World) : Mod S w w := ⟨rfl, rfl, rfl, Nat.le_refl _, fun _ _ _ => rfl⟩
theorem Mod.trans (h : Mod S a b) (k : Mod S b c) : Mod S a c :=
 ⟨k.os.trans h.os, k.tape.trans h.tape, k.output.trans h.output, Nat.le_trans h.size k.size, fun i hi hs => (k.block i (Nat.lt_of_lt_of_le hi h.size) hs).trans (h.block i hi hs)⟩
theorem Mod.mono (h : Mod S a b) (hs : ∀ k, k ∈ S → k ∈ T) : Mod T a b := ⟨h.os, h.tape, h.output, h.size, fun i hi hn => h.block i hi (fun hm => hn (hs i hm))⟩
theorem Mod.of_ext (h : Ext a b) : Mod S a b := h.mono (fun k hk => by cases hk)
/-- What was turned in S does not count where S lies in blocks that are new. -/
theorem Mod.new (h : Mod S a b) (hs : ∀ k, k ∈ S → k ∈ T ∨ a.heap.size ≤ k) : Mod T a b :=
 ⟨h.os, h.tape, h.output, h.size, fun i hi hn => h.block i hi (fun hm => (hs i hm).elim hn (fun hle => Nat.not_le_of_lt hi hle))⟩
theorem Mod.below (h : Ext a b) : Below a.heap.size a b := ⟨h.os, h.tape, h.output, h.size, fun k hk => h.block k hk (fun hm => by cases hm)⟩
theorem Mod.of_below (h : Below a.heap.size a b) : Ext a b := ⟨h.os, h.tape, h.output, h.size, fun k hk _ => h.block k hk⟩
theorem Mod.drew (h : Mod S a w) : Mod S a w.drew := ⟨h.os, h.tape, h.output, h.size, h.block⟩
theorem Mod.drewN (h : Mod S a w) (n : Nat) : Mod S a (w.drewN n) := ⟨h.os, h.tape, h.output, h.size, h.block⟩
theorem Mod.alloc (h : Mod S a w) (o : Obj) : Mod S a (w.alloc o) :=
 h.trans ⟨rfl, rfl, rfl, by simp, fun k hk _ => Below.heap_alloc _ _ _ hk⟩
theorem Mod.setCell (h : Mod S a w) {p : Addr} (hp : p.block ∈ S ∨ a.heap.size ≤ p.block) (u : Value) : Mod S a (w.setCell p u) :=
 ⟨h.os, h.tape, h.output, by simpa [World.setCell] using h.size, fun k hk hs => (Below.heap_setCell _ _ _ _ (by
  rintro rfl
  rcases hp with hp | hp
  · exact hs hp
  · exact absurd hk (Nat.not_lt.2 hp))).trans (h.block k hk hs)⟩
theorem Mod.grown (h : Mod S a w) {row : Option Nat} (hg : w.grownBy w' row) (hr : ∀ k, row = some k → k ∈ S ∨ a.heap.size ≤ k) : Mod S a w' :=
 ⟨hg.os.trans h.os, hg.tape.trans h.tape, hg.output.trans h.output, Nat.le_trans h.size hg.size, fun k hk hs => (hg.block k (Nat.lt_of_lt_of_le hk h.size) (fun e => by
  rcases hr k e.symm with hp | hp
  · exact hs hp
  · exact absurd hk (Nat.not_lt.2 hp))).trans (h.block k hk hs)⟩
theorem Mod.cell (h : Mod S a b) {k o : Nat} (hk : k < a.heap.size) (hs : k ∉ S) : b.cell? ⟨k, o, none⟩ = a.cell? ⟨k, o, none⟩ := World.cell?_of_block (w := a) (h.block k hk hs)
theorem Mod.frozen (h : Mod S a b) {k o : Nat} (hk : k < a.heap.size) (hs : k ∉ S) : b.frozen? ⟨k, o, none⟩ = a.frozen? ⟨k, o, none⟩ := World.frozen?_of_block (w := a) (h.block k hk hs)
end
theorem ext_cells {W w1 : World} (hb : Ext W w1) : (∀ b o, b < W.heap.size → w1.cell? ⟨b, o, none⟩ = W.cell? ⟨b, o, none⟩) ∧ (∀ b o, b < W.heap.size → w1.frozen? ⟨b, o, none⟩ = W.frozen? ⟨b, o, none⟩) :=
 ⟨fun b o h => hb.cell h (by simp), fun b o h => hb.frozen h (by simp)⟩
/-- The call returns v and turns nothing that was there. -/
def Ret (v : Value) (w : World) (e : Ending) (w' : World) : Prop := e = .returned v ∧ Ext w w'
theorem Ret.mk {v v' : Value} {w w' : World} (hv : v' = v) (h : Ext w w') : Ret v w (.returned v') w' := ⟨by rw [hv], h⟩
/-- The call returns v; of what was there only blocks of S have turned, and R holds then. -/
def RetS (S : List Nat) (v : Value) (R : World → Prop) (w : World) (e : Ending) (w' : World) : Prop := e = .returned v ∧ Mod S w w' ∧ R w'
theorem RetS.mk {S : List Nat} {v v' : Value} {R : World → Prop} {w w' : World} (hv : v' = v) (h : Mod S w w') (hr : R w') : RetS S v R w (.returned v') w' := ⟨by rw [hv], h, hr⟩

/-- A block that is known whole. -/
def Blk (w : World) (g : Nat) (t : TypeId) (cs : Array Value) : Prop := w.heap[g]? = some (.cells cs t (0, 0))
section
variable {w w' : World} {g : Nat} {t : TypeId} {cs : Array Value}
theorem Blk.lt (h : Blk w g t cs) : g < w.heap.size := by
 rcases Nat.lt_or_ge g w.heap.size with hlt | hge
 · exact hlt
 · unfold Blk at h; rw [Array.getElem?_eq_none hge] at h; cases h
theorem Blk.cell (h : Blk w g t cs) (i : Nat) : w.cell? ⟨g, i, none⟩ = cs[i]? := cell_of_row w g i cs t (0, 0) h
theorem Blk.frozen (h : Blk w g t cs) (i : Nat) : w.frozen? ⟨g, i, none⟩ = false := by
 unfold Blk at h
 simp [World.frozen?, h]
theorem Blk.new (w : World) (t : TypeId) (cs : Array Value) : Blk (w.alloc (.cells cs t)) w.heap.size t cs := heap_alloc_new w _
theorem Blk.drew (h : Blk w g t cs) : Blk w.drew g t cs := h
theorem Blk.drewN (h : Blk w g t cs) (n : Nat) : Blk (w.drewN n) g t cs := h
theorem Blk.alloc (h : Blk w g t cs) (o : Obj) : Blk (w.alloc o) g t cs := (Below.heap_alloc w o g h.lt).trans h
theorem Blk.set_ (h : Blk w g t cs) (i : Nat) (u : Value) : Blk (w.setCell ⟨g, i, none⟩ u) g t (cs.setIfInBounds i u) := by
 unfold Blk at h ⊢
 simp [World.setCell, Array.getElem?_modify, h]
theorem Blk.far (h : Blk w g t cs) {p : Addr} (hp : g ≠ p.block) (u : Value) : Blk (w.setCell p u) g t cs := (Below.heap_setCell w p u g hp).trans h
theorem Blk.mod {S : List Nat} (h : Blk w g t cs) (hm : Mod S w w') (hs : g ∉ S) : Blk w' g t cs := (hm.block g h.lt hs).trans h
theorem Blk.ext (h : Blk w g t cs) (hm : Ext w w') : Blk w' g t cs := h.mod hm (by simp)
end

theorem foldl_push (l : List Int) (s : ByteArray) : l.foldl (fun r n => r.push (UInt8.ofNat n.toNat)) s = ⟨(s.data.toList ++ l.map fun n => UInt8.ofNat n.toNat).toArray⟩ := by
 induction l generalizing s with
 | nil => simp
 | cons n l ih => rw [List.foldl_cons, ih]; simp [ByteArray.push]

theorem addr_add (b o j : Nat) : (⟨b, o, none⟩ : Addr).add j = ⟨b, o + j, none⟩ := by
 unfold Addr.add
 by_cases h : j = 0
 · subst h; simp
 · simp [h]

/-- A row of bytes, read as a string. -/
theorem run_row_string {P : Program} (w : World) (src dst e : TypeId) (hs : P.underlying src = some (.slice e)) (he : P.underlying e = some (.int .u8)) (hd : P.underlying dst = some .string)
  (b t n c : Nat) (g : Nat → Nat) (h : w.rowIs b t n (fun i => .int .u8 ((g i : Nat) : Int))) :
  (convert src dst (.slice (some ⟨b, 0, none⟩) n c)).run P w = .ok (str ((List.range n).map fun i => UInt8.ofNat (g i))) w := by
 rw [run_convert_bytes_string w src dst e _ _ _ hs he hd]
 rw [run_bytesToString w _ _ _ ((List.range n).map fun i => ((g i : Nat) : Int))]
 · rw [foldl_push]; congr 4; simp
 ·
  rw [run_loadCells w _ _ (fun i => .int .u8 ((g i : Nat) : Int))]
  · simp
  · intro j hj; have := h.cell hj; rw [addr_add]; simpa using this

/-- One byte, read as a string. -/
theorem run_byte_string {P : Program} (src dst e : TypeId) (hs : P.underlying src = some (.slice e)) (he : P.underlying e = some (.int .u8)) (hd : P.underlying dst = some .string)
  (a : Addr) (c : Nat) (w : World) : (convert src dst (.slice (some a) 1 c)).run P w =
   match w.cell? a with
   | some (.int .u8 x) => .ok (str [b8i x]) w
   | _ => (Conv.bytesToString (.slice (some a) 1 c)).run P w := by
 rw [run_convert_bytes_string w src dst e _ _ _ hs he hd]
 split
 ·
  rename_i x hx
  rw [run_bytesToString w _ _ _ [x]]
  · simp [b8i]; rfl
  ·
   rw [show (1 : Nat) = [Value.int .u8 x].length from rfl, run_loadCells_list]
   · simp
   ·
    intro j v hj
    match j, hj with
    | 0, hj => simp at hj; subst hj; simpa [Addr.add] using hx
 · rfl
end Go.Proofs.YtfgipgpbjfhflaaGreat


namespace Go.Proofs.YtfgipgpbjfhflaaGreat
open Go.ChangeShapes Go.WideShapes Go.ChangeAt Go.RowKit
set_option linter.unusedVariables false
set_option linter.unusedSimpArgs false

theorem own : ownKnob Tryz.prog.godebug = none := by kernel_rfl
theorem laidOut : laidOutB Tryz.prog = true := by kernel_rfl

theorem trodAll_below {H : Type} {enc : TypeId × Value → H} {W W' : World} (hb : Below W.heap.size W W') : ∀ (ts : List TypeId) (vs : List Value) (ds : List (DataW H)) (ps : List MemPlace),
  (∀ t ∈ ts, Tryz.prog.readableRec t = true ∧ t < Tryz.prog.types.size) → DataW.TrodAll enc Tryz.prog W 0 (fun _ => true) true ts vs ds ps → DataW.TrodAll enc Tryz.prog W' 0 (fun b => decide (b < W.heap.size)) true ts vs ds ps
 | [], vs, ds, ps, _, h => by obtain ⟨rfl, rfl, rfl⟩ := trodAll_nil h; exact trodAll_mk0
 | t :: ts, vs, ds, ps, hr, h => by
  obtain ⟨v, vs', d, ds', p, q, rfl, rfl, rfl, h1, h2⟩ := trodAll_cons h
  have hlt : ∀ x ∈ p, x.block < W.heap.size := by obtain ⟨m, hm⟩ := h1; exact DataW.trod_lt m _ _ _ hm
  have hr1 := hr t List.mem_cons_self
  exact trodAll_cons_mk (Below.trod laidOut hr1.1 hr1.2 h1 hb hlt) (trodAll_below hb ts vs' ds' q (fun t ht => hr t (List.mem_cons_of_mem _ ht)) h2)

theorem law_post {H : Type} {enc : TypeId × Value → H} {f : Func} {spec : ChangeSpec} {W W' : World} {args : Array Value} {ds gs : List (DataW H)} {before : List MemPlace} {tb : TypeId}
  (hvars : spec.vars = []) (hW : DataW.Whole enc Tryz.prog f.params.toList spec.vars false W args.toList ds gs before)
  (hfn : spec.fn H ds = { results := [.lit (.bool true)], args := ds }) (hres : f.resultTypes = #[tb]) (htb : Tryz.prog.underlying tb = some .bool)
  (hread : ∀ t ∈ f.params.toList, Tryz.prog.readableRec t = true ∧ t < Tryz.prog.types.size) (hb : Below W.heap.size W W') :
  spec.post enc Tryz.prog f false true false false W args (.bool true) W' := by
 have hW' := hW
 obtain ⟨p, q, hA, hV, rfl, hfz, hnd⟩ := hW
 rw [hvars] at hV
 obtain ⟨rfl, rfl⟩ := trodVars_none hV
 refine ⟨ds, [], p ++ [], [], p, [], hW', ?_, ?_, ?_, hb.frame _, fun h => by cases h⟩
 ·
  rw [List.append_nil, hfn, hres]
  exact trodAll_mk1 (shut_bool htb _)
 ·
  rw [List.append_nil, hfn]
  exact trodAll_below hb _ _ _ _ hread hA
 ·
  rw [List.append_nil, hfn, hvars]
  rfl
end Go.Proofs.YtfgipgpbjfhflaaGreat


namespace Go.Proofs.YtfgipgpbjfhflaaGreat
set_option linter.unusedVariables false
set_option linter.unusedSimpArgs false

/-- A name. -/
structure EV where
 sch : Int
 name : List UInt8
 node : Nat
 svc : Nat
def noneL : List UInt8 := [110, 111, 110, 101]
/-- May a byte stand in a node's name? -/
def lett (c : UInt8) : Bool := decide (97 ≤ c.toNat ∧ c.toNat ≤ 122) || decide (48 ≤ c.toNat ∧ c.toNat ≤ 57) || decide (c.toNat = 45) || decide (c.toNat = 46)
def prin (c : UInt8) : Bool := decide (33 ≤ c.toNat ∧ c.toNat ≤ 126)
/-- How many bytes are the node's, as the code counts them: behind the strokes, from byte i on. -/
def nodeA : List UInt8 → Nat → Nat
 | [], _ => 0
 | c :: l, i => if lett c then nodeA l (i + 1) else if c.toNat = 47 ∧ 0 < i then i + 3 else 0
def nodeN (s : List UInt8) : Nat := if s.take 2 = [47, 47] ∧ s.length ≤ 60 then nodeA (s.drop 2) 0 else 0
def namedL (s : List UInt8) : Bool := decide (s = noneL) || (decide (nodeN s ≠ 0) && (s.drop (nodeN s)).all prin)
def EV.ok (e : EV) : Bool :=
 if e.sch = 1 then decide (e.node = 0) && decide (e.svc = 0) && namedL e.name else if e.sch = 2 then decide (e.name = []) && decide (e.node ≤ 4294967295) && decide (e.svc ≤ 4294967295) else false

/-- Where the third stroke is, as the reference looks for it: from byte i on. -/
def slashA : List UInt8 → Nat → Nat
 | [], _ => 0
 | c :: l, i => if c.toNat = 47 then i else slashA l (i + 1)
def slash (s : List UInt8) : Nat := slashA (s.drop 2) 2
/-- The reference's look at each byte, from byte i on; k: the third stroke. -/
def goodA (k : Nat) : List UInt8 → Nat → Bool
 | [], _ => true
 | c :: l, i => !((decide (i < k) && !lett c) || (decide (k < i) && !prin c)) && goodA k l (i + 1)
def EV.okR (e : EV) : Bool :=
 if e.sch = 2 then decide (e.name = []) && decide (e.node ≤ 4294967295) && decide (e.svc ≤ 4294967295)
 else if e.sch ≠ 1 ∨ e.node ≠ 0 ∨ e.svc ≠ 0 ∨ 60 < e.name.length then false
 else if e.name = noneL then true
 else if slash e.name < 3 ∨ e.name.take 2 ≠ [47, 47] then false
 else goodA (slash e.name) (e.name.drop 2) 2

theorem lett_stroke {c : UInt8} (h : c.toNat = 47) : lett c = false := by simp [lett, h]
theorem goodA_far {k : Nat} : ∀ (l : List UInt8) (i : Nat), k < i → goodA k l i = l.all prin
 | [], _, _ => rfl
 | c :: l, i, h => by
  have h1 : ¬ i < k := by omega
  rw [goodA, goodA_far l (i + 1) (by omega), List.all_cons]
  simp [h1, h]
theorem nodeA_ge : ∀ (l : List UInt8) (j : Nat), nodeA l j = 0 ∨ j + 3 ≤ nodeA l j
 | [], _ => .inl rfl
 | c :: l, j => by
  have ih := nodeA_ge l (j + 1)
  rw [nodeA]
  split
  · omega
  ·
   split
   · exact .inr (Nat.le_refl _)
   · exact .inl rfl
theorem slashA_ge : ∀ (l : List UInt8) (j : Nat), slashA l j = 0 ∨ j ≤ slashA l j
 | [], _ => .inl rfl
 | c :: l, j => by
  have ih := slashA_ge l (j + 1)
  rw [slashA]
  split
  · exact .inr (Nat.le_refl _)
  · omega
/-- The two ways to look agree, from byte i on (none of the strokes before). -/
theorem node_slash : ∀ (l : List UInt8) (i : Nat),
  (decide (nodeA l i ≠ 0) && (l.drop (nodeA l i - 2 - i)).all prin) = (decide (¬ slashA l (i + 2) < 3) && goodA (slashA l (i + 2)) l (i + 2))
 | [], i => by simp [nodeA, slashA]
 | c :: l, i => by
  have ih := node_slash l (i + 1)
  by_cases h47 : c.toNat = 47
  ·
   have hl := lett_stroke h47
   rw [nodeA, slashA, if_pos h47, hl]
   by_cases hi : 0 < i
   ·
    have e1 : i + 3 - 2 - i = 1 := by omega
    have e2 : ¬ i + 2 < 3 := by omega
    have e3 : ¬ i + 2 < i + 2 := by omega
    simp only [Bool.false_eq_true, if_false, h47, hi, and_self, if_true, e1, e2, goodA, e3]
    rw [goodA_far l (i + 2 + 1) (by omega)]
    simp
   ·
    have e2 : i + 2 < 3 := by omega
    simp [hi, e2]
  ·
   have hs := slashA_ge l (i + 2 + 1)
   have hn := nodeA_ge l (i + 1)
   rw [slashA, if_neg h47, goodA]
   by_cases hl : lett c = true
   ·
    rw [nodeA, if_pos hl]
    have e1 : ((c :: l).drop (nodeA l (i + 1) - 2 - i)) = l.drop (nodeA l (i + 1) - 2 - (i + 1)) ∨ nodeA l (i + 1) = 0 := by
     rcases hn with h | h
     · exact .inr h
     ·
      left
      rw [show nodeA l (i + 1) - 2 - i = (nodeA l (i + 1) - 2 - (i + 1)) + 1 by omega, List.drop_succ_cons]
    have e2 : (decide (nodeA l (i + 1) ≠ 0) && ((c :: l).drop (nodeA l (i + 1) - 2 - i)).all prin) = (decide (nodeA l (i + 1) ≠ 0) && (l.drop (nodeA l (i + 1) - 2 - (i + 1))).all prin) := by
     rcases e1 with h | h
     · rw [h]
     · simp [h]
    rw [e2, ih]
    rw [show i + 1 + 2 = i + 2 + 1 by omega]
    rcases hs with h | h
    · simp [h]
    ·
     have h1 : ¬ slashA l (i + 2 + 1) < i + 2 := by omega
     simp [h1, hl]
   ·
    have hl' : lett c = false := by simpa using hl
    have hi : ¬ (c.toNat = 47 ∧ 0 < i) := fun h => h47 h.1
    rw [nodeA, hl', if_neg (by simp), if_neg hi]
    rcases hs with h | h
    · simp [h]
    ·
     have h1 : i + 2 < slashA l (i + 2 + 1) := by omega
     simp [h1]
theorem EV.ok_eq (e : EV) : e.okR = e.ok := by
 unfold EV.okR EV.ok
 by_cases h2 : e.sch = 2
 · rw [if_pos h2, if_neg (by omega), if_pos h2]
 rw [if_neg h2]
 by_cases h1 : e.sch = 1
 ·
  rw [if_pos h1]
  by_cases hn : e.node = 0
  ·
   by_cases hs : e.svc = 0
   ·
    by_cases h0 : e.name = noneL
    ·
     have hl : ¬ (e.sch ≠ 1 ∨ e.node ≠ 0 ∨ e.svc ≠ 0 ∨ 60 < e.name.length) := by
      have : e.name.length = 4 := by rw [h0]; rfl
      omega
     rw [if_neg hl, if_pos h0]
     simp [hn, hs, namedL, h0]
    ·
     by_cases hl60 : 60 < e.name.length
     ·
      have hN : nodeN e.name = 0 := by unfold nodeN; rw [if_neg (by omega)]
      rw [if_pos (by omega)]
      simp [namedL, h0, hN]
     ·
      rw [if_neg (by omega), if_neg h0]
      by_cases ht : e.name.take 2 = [47, 47]
      ·
       have hN : nodeN e.name = nodeA (e.name.drop 2) 0 := by unfold nodeN; rw [if_pos ⟨ht, by omega⟩]
       have hk := node_slash (e.name.drop 2) 0
       have hge := nodeA_ge (e.name.drop 2) 0
       simp only [namedL, h0, hN, hn, hs, decide_true, decide_false, Bool.true_and, Bool.false_or]
       have e3 : (decide (nodeA (e.name.drop 2) 0 ≠ 0) && (e.name.drop (nodeA (e.name.drop 2) 0)).all prin) = (decide (nodeA (e.name.drop 2) 0 ≠ 0) && ((e.name.drop 2).drop (nodeA (e.name.drop 2) 0 - 2 - 0)).all prin) := by
        rcases hge with h | h
        · simp [h]
        · rw [List.drop_drop, show 2 + (nodeA (e.name.drop 2) 0 - 2 - 0) = nodeA (e.name.drop 2) 0 by omega]
       rw [e3, hk]
       unfold slash
       by_cases hlt : slashA (e.name.drop 2) 2 < 3
       · simp [hlt]
       · simp [hlt, ht]
      ·
       have hN : nodeN e.name = 0 := by unfold nodeN; rw [if_neg (fun h => ht h.1)]
       rw [if_pos (Or.inr ht)]
       simp [namedL, h0, hN]
   · rw [if_pos (by omega)]; simp [hs]
  · rw [if_pos (by omega)]; simp [hn]
 · rw [if_pos (Or.inl h1), if_neg h1, if_neg h2]
end Go.Proofs.YtfgipgpbjfhflaaGreat


namespace Go.Proofs.YtfgipgpbjfhflaaGreat
set_option linter.unusedVariables false
set_option linter.unusedSimpArgs false

/-- A block: its type, number, flags, kind of sum, and data. -/
structure BV where
 ty : Int
 num : Int
 fl : Nat
 crc : Int
 data : List UInt8
/-- Why it is not right. -/
def BV.right (b : BV) : Int :=
 if b.ty < 1 ∨ 65535 < b.ty ∨ b.num < 1 ∨ 65535 < b.num ∨ 255 < b.fl ∨ b.crc < 0 ∨ 2 < b.crc then 1 else if 4000 < b.data.length then 4
 else if (b.ty = 1 ∧ b.num ≠ 1) ∨ (b.ty ≠ 1 ∧ b.num = 1) then 8 else 0
def BV.hdr (b : BV) : List UInt8 := headL 0 b.ty.toNat ++ headL 0 b.num.toNat ++ headL 0 b.fl

theorem BV.right_zero {b : BV} (h : b.right = 0) : 1 ≤ b.ty ∧ b.ty ≤ 65535 ∧ 1 ≤ b.num ∧ b.num ≤ 65535 ∧ b.fl ≤ 255 ∧ 0 ≤ b.crc ∧ b.crc ≤ 2 ∧ b.data.length ≤ 4000 ∧ (b.ty = 1 ↔ b.num = 1) := by
 unfold BV.right at h
 split at h
 · omega
 ·
  split at h
  · omega
  ·
   split at h
   · omega
   · omega
end Go.Proofs.YtfgipgpbjfhflaaGreat


namespace Go.Proofs.YtfgipgpbjfhflaaGreat
set_option linter.unusedVariables false
set_option linter.unusedSimpArgs false

/-- A primary. -/
structure PV where
 fl : Nat
 crc : Int
 d : EV
 s : EV
 r : EV
 t : Nat
 q : Nat
 l : Nat
 o : Nat
 n : Nat
/-- The first number below k of a kind. -/
def firstOf (p : Nat → Bool) : Nat → Option Nat
 | 0 => none
 | k + 1 => match firstOf p k with | some i => some i | none => if p k then some k else none
theorem firstOf_none {p : Nat → Bool} {k : Nat} (hj : ∀ j, j < k → p j = false) : firstOf p k = none := by
 induction k with
 | zero => rfl
 | succ k ih => rw [firstOf, ih (fun j h => hj j (by omega)), hj k (by omega)]; rfl
theorem firstOf_some {p : Nat → Bool} {k i : Nat} (hi : i < k) (h : p i = true) (hj : ∀ j, j < i → p j = false) : firstOf p k = some i := by
 induction k with
 | zero => omega
 | succ k ih =>
  rw [firstOf]
  by_cases e : i = k
  ·
   subst e
   rw [firstOf_none hj, h]; rfl
  · rw [ih (by omega)]
theorem firstOf_no {p : Nat → Bool} {k : Nat} (h : firstOf p k = none) : ∀ j, j < k → p j = false := by
 induction k with
 | zero => intro j hj; omega
 | succ k ih =>
  rw [firstOf] at h
  cases hf : firstOf p k with
  | some x => rw [hf] at h; cases h
  | none =>
   rw [hf] at h
   intro j hj
   by_cases e : j = k
   ·
    subst e
    cases hp : p j with
    | false => rfl
    | true => simp [hp] at h
   · exact ih hf j (by omega)
theorem firstOf_spec {p : Nat → Bool} {k i : Nat} (h : firstOf p k = some i) : i < k ∧ p i = true ∧ ∀ j, j < i → p j = false := by
 induction k with
 | zero => cases h
 | succ k ih =>
  rw [firstOf] at h
  cases hf : firstOf p k with
  | some x =>
   rw [hf] at h
   simp only [Option.some.injEq] at h
   subst h
   have := ih hf
   exact ⟨by omega, this.2.1, this.2.2⟩
  | none =>
   rw [hf] at h
   cases hk : p k with
   | true =>
    simp only [hk, if_true, Option.some.injEq] at h
    subst h
    exact ⟨by omega, hk, fun j hj => firstOf_no hf j hj⟩
   | false => simp [hk] at h
def firstI (p : Nat → Bool) (k : Nat) : Int := match firstOf p k with | some i => (i : Int) | none => -1
end Go.Proofs.YtfgipgpbjfhflaaGreat


namespace Go.Proofs.YtfgipgpbjfhflaaGreat
open Go.RowKit
set_option linter.unusedVariables false
set_option linter.unusedSimpArgs false

section
variable {P : Program} {ops : Array Oper} {C : World → Prop} {rest : List Oper} {o : Oper} {a : Act} {w : World}
/-- Two strings become one. -/
theorem q_cat {Q : Act → Prop} (hw : Region.wanted o (yielded ops a.tmps) = true) (ty t2 : TypeId) (x y : Operand) (ho : o.op = .binOp .add ty x y t2) (l1 l2 : List UInt8) (hx : a.eval x = str l1) (hy : a.eval y = str l2)
  (hl : l1.length + l2.length ≤ 9223372036854775807) (h : wpQuiet P ops C Q rest (a.put o.dst (str (l1 ++ l2)))) : wpQuiet P ops C Q (o :: rest) a :=
 wpQuiet_step fun K hK => by
  rw [if_pos hw]
  refine ⟨str (l1 ++ l2), fun w hw' => ?_, hK _ h⟩
  have hl' : ¬ 9223372036854775807 < l1.length + l2.length := by omega
  unfold Oper.quietAt execOp
  simp only [ho, hx, hy]
  simp [go_sem, hl']
  rw [ByteArray.mk_append_mk]
/-- A struct or array is loaded out of a block that is known whole, in a plain region. -/
theorem wpList_row {Q : Exit → Act → World → Prop} (hw : Region.wanted o (yielded ops a.tmps) = true) (ty : TypeId) (x : Operand) (ho : o.op = .load ty x)
  (g : Nat) (hx : a.eval x = .pointer (some ⟨g, 0, none⟩)) {t : TypeId} {cs : Array Value} {d : TypeDesc} (hg : Blk w g t cs)
  (hu : P.underlying ty = some d) (hd : (match d with | .struct _ | .array _ _ => true | _ => false) = true) (hi : (P.info? ty).map (·.size) = some cs.size)
  (h : wpList P ops Q rest (a.put o.dst (.agg cs)) w) : wpList P ops Q (o :: rest) a w :=
 wpList_step fun K hK => by rw [if_pos hw]; exact wp_load_row ty x ho g hx t cs (0, 0) d hg hu hd hi (hK _ _ h)
theorem Ret.ext {f : FuncId} {args : Array Value} {v : Value} {w W : World} (h : Calls P f args W (Ret v W)) (hW : Ext w W) : Calls P f args W (fun e w'' => e = .returned v ∧ Ext w w'') :=
 h.mono fun _ _ hh => ⟨hh.1, hW.trans hh.2⟩
end
end Go.Proofs.YtfgipgpbjfhflaaGreat


namespace Go.Proofs.YtfgipgpbjfhflaaGreat
open Go.RowKit
set_option linter.unusedVariables false
set_option linter.unusedSimpArgs false

/-- A later world. -/
structure Later (w : World) where
 x : World
 h : Ext w x
instance (w : World) : Nonempty (Later w) := ⟨⟨w, Mod.refl _ _⟩⟩
section
variable {P : Program} {w : World}
theorem Later.self (w : World) : ∃ e : Later w, w = e.x := ⟨⟨w, Mod.refl _ _⟩, rfl⟩
theorem Later.go (e : Later w) {y : World} (h : Ext e.x y) : ∃ e' : Later w, y = e'.x := ⟨⟨y, e.h.trans h⟩, rfl⟩
theorem Ret.later {e : Later w} {f : FuncId} {args : Array Value} {v : Value} (h : Calls P f args e.x (Ret v e.x)) : Calls P f args e.x (fun r w' => r = .returned v ∧ ∃ e' : Later w, w' = e'.x) :=
 h.mono fun _ _ hh => ⟨hh.1, e.go hh.2⟩
theorem Ret.laterW {W : World} (hW : Ext w W) {f : FuncId} {args : Array Value} {v : Value} (h : Calls P f args W (Ret v W)) : Calls P f args W (fun r w' => r = .returned v ∧ ∃ e' : Later w, w' = e'.x) :=
 h.mono fun _ _ hh => ⟨hh.1, ⟨_, hW.trans hh.2⟩, rfl⟩
theorem Blk.later {g : Nat} {t : TypeId} {cs : Array Value} (h : Blk w g t cs) (e : Later w) : Blk e.x g t cs := h.ext e.h
theorem Blk.cellL {g : Nat} {t : TypeId} {cs : Array Value} (h : Blk w g t cs) (i : Nat) {v : Value} (hv : cs[i]? = some v) (e : Later w) : e.x.cell? ⟨g, i, none⟩ = some v := ((h.later e).cell i).trans hv
theorem Blk.newL (w : World) (t : TypeId) (cs : Array Value) {N : Nat} (h : w.heap.size = N) : Blk (w.alloc (.cells cs t)) N t cs := h ▸ Blk.new w t cs
theorem cellL {b o : Nat} {v : Value} (h : w.cell? ⟨b, o, none⟩ = some v) (e : Later w) : e.x.cell? ⟨b, o, none⟩ = some v := by
 have hb : b < w.heap.size := by
  rcases Nat.lt_or_ge b w.heap.size with hlt | hge
  · exact hlt
  · simp [World.cell?, Array.getElem?_eq_none hge] at h
 exact (e.h.cell hb (by simp)).trans h
/-- A drawn region of quiet operations, at a later world: one walk. -/
theorem wp_region_later {e : Later w} {id : Nat} {Q : Exit → Act → World → Prop} {a : Act} {l : List Oper} (hm : P.follows .mixedOrders = true) (hB : Region.lexB .any l.toArray = true)
  (h : wpQuiet P l.toArray (fun w' => ∃ e : Later w, w' = e.x) (fun a' => ∀ w', (∃ e : Later w, w' = e.x) → Q .normal a' w') l a) : (Code.region id l.toArray true).wp P Q a e.x :=
 wp_region_quiet (C := fun w' => ∃ e : Later w, w' = e.x) hm hB ⟨⟨_, e.h.drew⟩, rfl⟩ (by simpa using h)
/-- A struct is loaded out of the midst of a block. -/
theorem wpList_mid {ops : Array Oper} {rest : List Oper} {op : Oper} {a : Act} {W : World} {Q : Exit → Act → World → Prop} (hw : Region.wanted op (yielded ops a.tmps) = true) (ty : TypeId) (x : Operand) (ho : op.op = .load ty x)
  (b o : Nat) (hx : a.eval x = .pointer (some ⟨b, o, none⟩)) (cs : List Value) (d : TypeDesc) (hc : W.rangeAt b o cs)
  (hu : P.underlying ty = some d) (hd : d.isRow = true) (hi : (P.info? ty).map (·.size) = some cs.length)
  (h : wpList P ops Q rest (a.put op.dst (.agg cs.toArray)) W) : wpList P ops Q (op :: rest) a W :=
 wpList_step fun K hK => by rw [if_pos hw]; exact wp_load_mid ty x ho b o hx cs d hc hu hd hi (hK _ _ h)
/-- Part of a block that is known whole. -/
theorem Blk.range {g : Nat} {t : TypeId} {cs : Array Value} (h : Blk w g t cs) (o n : Nat) {l : List Value} (hl : (cs.extract o (o + n)).toList = l) (e : Later w) : e.x.rangeAt g o l := hl ▸ World.rangeAt_of_block (h.later e) o n
theorem yieldsIf_row {ops : Array Oper} {S : World → Prop} {op : Oper} {a : Act} (hw : Region.wanted op (yielded ops a.tmps) = true) (ty : TypeId) (x : Operand) (ho : op.op = .load ty x) (g : Nat) (hx : a.eval x = .pointer (some ⟨g, 0, none⟩))
  {t : TypeId} {cs : Array Value} {d : TypeDesc} (hS : ∀ w, S w → Blk w g t cs) (hu : P.underlying ty = some d) (hd : (match d with | .struct _ | .array _ _ => true | _ => false) = true)
  (hi : (P.info? ty).map (·.size) = some cs.size) : YieldsIf P ops S op (.agg cs) a :=
 .inl ⟨hw, fun w hw' => by
  unfold execOp
  simp only [ho, hx, Instr.loadAt, Instr.sureAddr, Sem.run_bind, Sem.run_pure, Result.andThen_ok, run_loadVar_row w g t ty cs (0, 0) d (hS w hw') hu hd hi]⟩
theorem yieldsIf_cat {ops : Array Oper} {S : World → Prop} {o : Oper} {a : Act} (hw : Region.wanted o (yielded ops a.tmps) = true) (ty t2 : TypeId) (x y : Operand) (ho : o.op = .binOp .add ty x y t2) (l1 l2 : List UInt8) (hx : a.eval x = str l1) (hy : a.eval y = str l2)
  (hl : l1.length + l2.length ≤ 9223372036854775807) : YieldsIf P ops S o (str (l1 ++ l2)) a :=
 .inl ⟨hw, fun w hw' => by
  have hl' : ¬ 9223372036854775807 < l1.length + l2.length := by omega
  unfold execOp
  simp only [ho, hx, hy]
  simp [go_sem, hl']
  rw [ByteArray.mk_append_mk]⟩
end
end Go.Proofs.YtfgipgpbjfhflaaGreat


namespace Go.Proofs.YtfgipgpbjfhflaaGreat
set_option linter.unusedVariables false
set_option linter.unusedSimpArgs false

/-- An item: its kind, its number, its text, whether it is open, how many items it has, and which. -/
inductive T where
 | nil
 | mk (kind : Int) (n : Nat) (s : List UInt8) (op : Bool) (k : Nat) (ch : Nat → T)
namespace T
def kind : T → Int | nil => 0 | mk a _ _ _ _ _ => a
def n : T → Nat | nil => 0 | mk _ a _ _ _ _ => a
def s : T → List UInt8 | nil => [] | mk _ _ a _ _ _ => a
def op : T → Bool | nil => false | mk _ _ _ a _ _ => a
def k : T → Nat | nil => 0 | mk _ _ _ _ a _ => a
def ch : T → Nat → T | nil => fun _ => nil | mk _ _ _ _ _ a => a

def mx (f : Nat → Nat) : Nat → Nat
 | 0 => 0
 | j + 1 => max (mx f j) (f j)
def all (f : Nat → Bool) : Nat → Bool
 | 0 => true
 | j + 1 => all f j && f j
def cat (f : Nat → List UInt8) : Nat → List UInt8
 | 0 => []
 | j + 1 => cat f j ++ f j
def sum (f : Nat → Nat) : Nat → Nat
 | 0 => 0
 | j + 1 => sum f j + f j
/-- The count so far, of the first j: it stops beyond m. -/
def cl (f : Nat → Nat → Nat) (m n0 : Nat) : Nat → Nat
 | 0 => n0
 | j + 1 => if cl f m n0 j ≤ m then cl f m n0 j + f j (m - cl f m n0 j) else cl f m n0 j

theorem all_iff {f : Nat → Bool} {k : Nat} : all f k = true ↔ ∀ i, i < k → f i = true := by
 induction k with
 | zero => simp [all]
 | succ j ih =>
  rw [all, Bool.and_eq_true, ih]
  constructor
  ·
   rintro ⟨h1, h2⟩ i hi
   by_cases e : i = j
   · subst e; exact h2
   · exact h1 i (by omega)
  ·
   intro h
   exact ⟨fun i hi => h i (by omega), h j (by omega)⟩
theorem mx_le {f : Nat → Nat} {k d : Nat} : mx f k ≤ d ↔ ∀ i, i < k → f i ≤ d := by
 induction k with
 | zero => simp [mx]
 | succ j ih =>
  rw [mx, Nat.max_le, ih]
  constructor
  ·
   rintro ⟨h1, h2⟩ i hi
   by_cases e : i = j
   · subst e; exact h2
   · exact h1 i (by omega)
  ·
   intro h
   exact ⟨fun i hi => h i (by omega), h j (by omega)⟩

def deep : T → Nat → Nat
 | nil, _ => 1
 | mk _ _ _ _ k ch, m => if m < 1 then 1 else mx (fun i => (ch i).deep (m - 1)) k + 1
def node (kind : Int) (n : Nat) (s : List UInt8) (op : Bool) (k : Nat) : Bool :=
 if kind = 0 then s == [] && k == 0 && !op else if kind = 2 ∨ kind = 3 then n == 0 && k == 0 && !op else if kind = 4 then n == 0 && s == [] && decide (k ≤ 1000) else false
def plain : T → Bool
 | nil => false
 | mk kind n s op k ch => node kind n s op k && all (fun i => (ch i).plain) k
def right : T → Nat → Bool
 | nil, _ => false
 | mk kind n s op k ch, d => if d < 1 then false else node kind n s op k && all (fun i => (ch i).right (d - 1)) k
def bytes : T → List UInt8
 | nil => []
 | mk kind n s op k ch => if kind = 0 then headL 0 n else if kind < 4 then headL kind.toNat s.length ++ s else
   (if op then [159] else headL 4 k) ++ (cat (fun i => (ch i).bytes) k ++ (if op then [255] else []))
def size : T → Nat
 | nil => 0
 | mk _ _ s _ k ch => 1 + s.length + sum (fun i => (ch i).size) k
def count : T → Nat → Nat
 | nil, _ => 0
 | mk _ _ s _ k ch, m => cl (fun i => (ch i).count) m (1 + s.length) k
def same : T → T → Bool
 | nil, nil => true
 | nil, mk .. => false
 | mk kind n s op k ch, b => kind == b.kind && n == b.n && s == b.s && op == b.op && k == b.k && all (fun i => (ch i).same (b.ch i)) k
/-- Each number is one of a machine's. -/
def ok : T → Prop
 | nil => False
 | mk kind n s op k ch => (-9223372036854775808 ≤ kind ∧ kind ≤ 9223372036854775807) ∧ n < 18446744073709551616 ∧ s.length < 4611686018427387904 ∧ k < 4611686018427387904 ∧ ∀ i, i < k → (ch i).ok

theorem not_nil : ¬ ok nil := fun h => h
theorem deep_pos (t : T) : ∀ m, 1 ≤ t.deep m := by
 cases t with
 | nil => intro m; simp [deep]
 | mk kind n s op k ch =>
  intro m
  unfold deep
  split <;> omega

theorem right_eq (t : T) : ∀ d, t.right d = (decide (t.deep (d + 1) ≤ d) && t.plain) := by
 induction t with
 | nil => intro d; simp [right, plain]
 | mk kind n s op k ch ih =>
  intro d
  cases d with
  | zero =>
   have := deep_pos (mk kind n s op k ch) (0 + 1)
   rw [show right (mk kind n s op k ch) 0 = false from by unfold right; simp]
   have h : ¬ (mk kind n s op k ch).deep (0 + 1) ≤ 0 := by omega
   simp [h]
  | succ d =>
   rw [Bool.eq_iff_iff]
   unfold right deep plain
   rw [if_neg (by omega), if_neg (by omega), Bool.and_eq_true, Bool.and_eq_true, Bool.and_eq_true, all_iff, all_iff, decide_eq_true_iff]
   simp only [Nat.add_sub_cancel]
   have e : (mx (fun i => (ch i).deep (d + 1)) k + 1 ≤ d + 1) ↔ ∀ i, i < k → (ch i).deep (d + 1) ≤ d := by
    rw [← mx_le]; omega
   rw [e]
   constructor
   ·
    rintro ⟨h1, h2⟩
    refine ⟨fun i hi => ?_, h1, fun i hi => ?_⟩
    ·
     have := h2 i hi
     rw [ih i d] at this
     simp at this
     exact this.1
    ·
     have := h2 i hi
     rw [ih i d] at this
     simp at this
     exact this.2
   ·
    rintro ⟨h1, h2, h3⟩
    refine ⟨h2, fun i hi => ?_⟩
    rw [ih i d]
    simp [h1 i hi, h3 i hi]

/- The count. -/
/- How long the bytes are. -/
theorem cat_length {f : Nat → List UInt8} {g : Nat → Nat} {c k : Nat} (h : ∀ i, i < k → (f i).length ≤ c * g i) : (cat f k).length ≤ c * sum g k := by
 induction k with
 | zero => simp [cat]
 | succ j ih =>
  have := ih (fun i hi => h i (by omega))
  have h2 := h j (by omega)
  rw [cat, sum, List.length_append, Nat.mul_add]
  omega
theorem bytes_le (t : T) : t.bytes.length ≤ 10 * t.size := by
 induction t with
 | nil => simp [bytes, size]
 | mk kind n s op k ch ih =>
  unfold bytes size
  have := headL_le 0 n
  have := headL_le kind.toNat s.length
  have := headL_le 4 k
  have := cat_length (f := fun i => (ch i).bytes) (g := fun i => (ch i).size) (c := 10) (k := k) (fun i _ => ih i)
  split
  · omega
  ·
   split
   · rw [List.length_append]; omega
   ·
    rw [List.length_append, List.length_append]
    cases op
    · simp only [Bool.false_eq_true, if_false, List.length_nil]; omega
    · simp only [if_true, List.length_cons, List.length_nil]; omega
theorem sum_le_cat {f : Nat → List UInt8} {g : Nat → Nat} {k : Nat} (h : ∀ i, i < k → g i ≤ (f i).length) : sum g k ≤ (cat f k).length := by
 induction k with
 | zero => simp [sum]
 | succ j ih =>
  have := ih (fun i hi => h i (by omega))
  have h2 := h j (by omega)
  rw [cat, sum, List.length_append]
  omega
theorem size_le (t : T) (h : t.plain = true) : t.size ≤ t.bytes.length := by
 induction t with
 | nil => simp [plain] at h
 | mk kind n s op k ch ih =>
  unfold plain at h
  rw [Bool.and_eq_true, all_iff] at h
  obtain ⟨h1, h2⟩ := h
  unfold bytes size
  have p0 := headL_pos 0 n
  have p1 := headL_pos kind.toNat s.length
  have p2 := headL_pos 4 k
  have hs := sum_le_cat (f := fun i => (ch i).bytes) (g := fun i => (ch i).size) (k := k) (fun i hi => ih i (h2 i hi))
  unfold node at h1
  by_cases a : kind = 0
  ·
   rw [if_pos a] at h1 ⊢
   simp at h1
   obtain ⟨⟨rfl, rfl⟩, rfl⟩ := h1
   simp [sum]; omega
  ·
   rw [if_neg a] at h1 ⊢
   by_cases b : kind = 2 ∨ kind = 3
   ·
    rw [if_pos b] at h1
    simp at h1
    obtain ⟨⟨rfl, rfl⟩, rfl⟩ := h1
    rw [if_pos (by omega), List.length_append]
    simp [sum]; omega
   ·
    rw [if_neg b] at h1
    by_cases c : kind = 4
    ·
     rw [if_pos c] at h1
     simp at h1
     obtain ⟨⟨rfl, rfl⟩, h3⟩ := h1
     rw [if_neg (by omega), List.length_append, List.length_append]
     cases op
     · simp only [Bool.false_eq_true, if_false, List.length_nil]; omega
     · simp only [if_true, List.length_cons, List.length_nil]; omega
    · rw [if_neg c] at h1; cases h1
theorem size_ch {kind : Int} {n : Nat} {s : List UInt8} {op : Bool} {k : Nat} {ch : Nat → T} {i : Nat} (hi : i < k) : (ch i).size ≤ (mk kind n s op k ch).size := by
 show (ch i).size ≤ 1 + s.length + sum (fun i => (ch i).size) k
 have : ∀ j, i < j → (ch i).size ≤ sum (fun i => (ch i).size) j := by
  intro j hj
  induction j with
  | zero => omega
  | succ j ih =>
   rw [sum]
   by_cases e : i = j
   · subst e; omega
   · have := ih (by omega); omega
 have := this k hi
 omega
end T
end Go.Proofs.YtfgipgpbjfhflaaGreat


namespace Go.Proofs.YtfgipgpbjfhflaaGreat
set_option linter.unusedVariables false
set_option linter.unusedSimpArgs false
namespace T

def catR : (Nat → List UInt8) → Nat → List UInt8
 | _, 0 => []
 | f, k + 1 => f 0 ++ catR (fun i => f (i + 1)) k
theorem cat_eq (k : Nat) : ∀ f, cat f k = catR f k := by
 have h : ∀ k f, cat f (k + 1) = f 0 ++ cat (fun i => f (i + 1)) k := by
  intro k
  induction k with
  | zero => intro f; simp [cat]
  | succ k ih =>
   intro f
   rw [cat, ih]
   rw [cat]
   simp
 induction k with
 | zero => intro f; rfl
 | succ k ih => intro f; rw [h, catR, ih]

theorem catR_same {R : Nat → Prop} : ∀ (k : Nat) (f g : Nat → List UInt8) (x y : List UInt8) (R : Nat → Prop), (∀ i, i < k → ∀ u v, f i ++ u = g i ++ v → R i ∧ u = v) → catR f k ++ x = catR g k ++ y → (∀ i, i < k → R i) ∧ x = y := by
 intro k
 induction k with
 | zero => intro f g x y R h e; exact ⟨fun i hi => by omega, e⟩
 | succ k ih =>
  intro f g x y R h e
  rw [catR, catR, List.append_assoc, List.append_assoc] at e
  obtain ⟨h0, e1⟩ := h 0 (by omega) _ _ e
  obtain ⟨h1, e2⟩ := ih (fun i => f (i + 1)) (fun i => g (i + 1)) x y (fun i => R (i + 1)) (fun i hi => h (i + 1) (by omega)) e1
  refine ⟨fun i hi => ?_, e2⟩
  cases i with
  | zero => exact h0
  | succ i => exact h1 i (by omega)
theorem catR_end : ∀ (k j : Nat) (f g : Nat → List UInt8) (x y : List UInt8) (R : Nat → Prop), (∀ i, i < k → i < j → ∀ u v, f i ++ u = g i ++ v → R i ∧ u = v) → (∀ i, i < k → ∀ u v, f i ++ u ≠ 255 :: v) → (∀ i, i < j → ∀ u v, g i ++ u ≠ 255 :: v) →
  catR f k ++ 255 :: x = catR g j ++ 255 :: y → k = j ∧ (∀ i, i < k → R i) ∧ x = y := by
 intro k
 induction k with
 | zero =>
  intro j f g x y R h hf hg e
  cases j with
  | zero => simp [catR] at e; exact ⟨rfl, fun i hi => by omega, e⟩
  | succ j => rw [catR, catR, List.append_assoc, List.nil_append] at e; exact absurd e.symm (hg 0 (by omega) _ _)
 | succ k ih =>
  intro j f g x y R h hf hg e
  cases j with
  | zero => rw [catR, catR, List.append_assoc, List.nil_append] at e; exact absurd e (hf 0 (by omega) _ _)
  | succ j =>
   rw [catR, catR, List.append_assoc, List.append_assoc] at e
   obtain ⟨h0, e1⟩ := h 0 (by omega) (by omega) _ _ e
   obtain ⟨hkj, h1, e2⟩ := ih j (fun i => f (i + 1)) (fun i => g (i + 1)) x y (fun i => R (i + 1)) (fun i hi hj => h (i + 1) (by omega) (by omega)) (fun i hi => hf (i + 1) (by omega)) (fun i hi => hg (i + 1) (by omega)) e1
   refine ⟨by omega, fun i hi => ?_, e2⟩
   cases i with
   | zero => exact h0
   | succ i => exact h1 i (by omega)

theorem readH_open (t : List UInt8) : readH (159 :: t) = some (1, 4, 0, true) := by
 unfold readH
 have e : (159 : UInt8).toNat = 159 := rfl
 simp only [e]
 rfl
theorem readH_break (t : List UInt8) : readH (255 :: t) = some (1, 7, 0, true) := by
 unfold readH
 have e : (255 : UInt8).toNat = 255 := rfl
 simp only [e]
 rfl

/-- The head of an item. -/
def hd : T → Nat × Nat × Nat × Bool
 | nil => (0, 0, 0, false)
 | mk kind n s op k _ => if kind = 0 then ((headL 0 n).length, 0, n, false) else if kind < 4 then ((headL kind.toNat s.length).length, kind.toNat, s.length, false) else if op then (1, 4, 0, true) else ((headL 4 k).length, 4, k, false)
theorem node_kind {kind : Int} {n : Nat} {s : List UInt8} {op : Bool} {k : Nat} (h : node kind n s op k = true) : kind = 0 ∨ kind = 2 ∨ kind = 3 ∨ kind = 4 := by
 unfold node at h
 split at h
 · exact .inl ‹_›
 ·
  split at h
  ·
   rename_i h1; rcases h1 with h1 | h1
   · exact .inr (.inl h1)
   · exact .inr (.inr (.inl h1))
  ·
   split at h
   · exact .inr (.inr (.inr ‹_›))
   · cases h
theorem readH_bytes (t : T) (h : t.plain = true) (hok : t.ok) (x : List UInt8) : readH (t.bytes ++ x) = some t.hd := by
 cases t with
 | nil => cases h
 | mk kind n s op k ch =>
  unfold plain at h
  rw [Bool.and_eq_true] at h
  have hk := node_kind h.1
  unfold ok at hok
  unfold bytes; dsimp only [hd]
  by_cases a : kind = 0
  ·
   rw [if_pos a, if_pos a]
   exact readH_head (by omega) hok.2.1 x
  ·
   rw [if_neg a, if_neg a]
   by_cases b : kind < 4
   ·
    rw [if_pos b, if_pos b, List.append_assoc]
    exact readH_head (by omega) (by have := hok.2.2.1; omega) _
   ·
    rw [if_neg b, if_neg b, List.append_assoc]
    cases op
    ·
     simp only [Bool.false_eq_true, if_false]
     exact readH_head (by omega) (by have := hok.2.2.2.1; omega) _
    ·
     simp only [if_true]
     exact readH_open _
theorem bytes_not_break (t : T) (h : t.plain = true) (hok : t.ok) (u v : List UInt8) : t.bytes ++ u ≠ 255 :: v := by
 intro e
 have h1 := readH_bytes t h hok u
 rw [e, readH_break] at h1
 cases t with
 | nil => cases h
 | mk kind n s op k ch =>
  unfold plain at h
  rw [Bool.and_eq_true] at h
  have hk := node_kind h.1
  dsimp only [hd] at h1
  split at h1
  · simp at h1
  ·
   split at h1
   · simp at h1
   · split at h1 <;> simp at h1

theorem bytes_inj (a : T) : ∀ b, a.plain = true → b.plain = true → a.ok → b.ok → ∀ x y, a.bytes ++ x = b.bytes ++ y → a.same b = true ∧ x = y := by
 induction a with
 | nil => intro b h; cases h
 | mk kind n s op k ch ih =>
  intro b hpa hpb hoa hob x y e
  have r1 := readH_bytes _ hpa hoa x
  have r2 := readH_bytes b hpb hob y
  rw [e, r2] at r1
  have r3 : b.hd = (mk kind n s op k ch).hd := Option.some.inj r1
  clear r1 r2
  cases b with
  | nil => cases hpb
  | mk kind' n' s' op' k' ch' =>
   have qa := hpa; have qb := hpb
   unfold plain at qa qb
   rw [Bool.and_eq_true, all_iff] at qa qb
   have ka := node_kind qa.1; have kb := node_kind qb.1
   obtain ⟨na, pa⟩ := qa
   obtain ⟨nb, pb⟩ := qb
   unfold ok at hoa hob
   have sm : ∀ (h1 : kind = kind') (h2 : n = n') (h3 : s = s') (h4 : op = op') (h5 : k = k') (h6 : ∀ i, i < k → (ch i).same (ch' i) = true), (mk kind n s op k ch).same (mk kind' n' s' op' k' ch') = true := by
    intro h1 h2 h3 h4 h5 h6
    subst h1 h2 h3 h4 h5
    unfold same
    simp only [T.kind, T.n, T.s, T.op, T.k, T.ch, Bool.and_eq_true, beq_self_eq_true, true_and, all_iff]
    exact h6
   dsimp only [hd] at r3
   unfold node at na nb
   unfold bytes at e
   by_cases a0 : kind = 0
   ·
    rw [if_pos a0] at r3 na e
    by_cases b0 : kind' = 0
    ·
     rw [if_pos b0] at r3 nb e
     simp at r3 na nb
     obtain ⟨⟨rfl, rfl⟩, rfl⟩ := na
     obtain ⟨⟨rfl, rfl⟩, rfl⟩ := nb
     obtain ⟨_, rfl⟩ := r3
     exact ⟨sm (by omega) rfl rfl rfl rfl (fun i hi => by omega), List.append_cancel_left e⟩
    ·
     rw [if_neg b0] at r3
     split at r3
     · simp at r3; omega
     · split at r3 <;> simp at r3
   ·
    rw [if_neg a0] at r3 na e
    by_cases b0 : kind' = 0
    ·
     rw [if_pos b0] at r3
     split at r3
     · simp at r3; omega
     · split at r3 <;> simp at r3
    ·
     rw [if_neg b0] at r3 nb e
     by_cases a4 : kind < 4
     ·
      rw [if_pos a4] at r3 e
      rw [if_pos (by omega)] at na
      by_cases b4 : kind' < 4
      ·
       rw [if_pos b4] at r3 e
       rw [if_pos (by omega)] at nb
       simp at r3 na nb
       obtain ⟨⟨rfl, rfl⟩, rfl⟩ := na
       obtain ⟨⟨rfl, rfl⟩, rfl⟩ := nb
       obtain ⟨_, hkk, hss⟩ := r3
       obtain rfl : kind = kind' := by omega
       rw [hss, List.append_assoc, List.append_assoc] at e
       have e2 := List.append_cancel_left e
       obtain ⟨rfl, e3⟩ := List.append_inj e2 hss.symm
       exact ⟨sm rfl rfl rfl rfl rfl (fun i hi => by omega), e3⟩
      ·
       rw [if_neg b4] at r3
       split at r3
       · simp at r3
       · simp at r3; omega
     ·
      rw [if_neg a4] at r3 e
      obtain rfl : kind = 4 := by omega
      by_cases b4 : kind' < 4
      ·
       rw [if_pos b4] at r3
       split at r3
       · simp at r3
       · simp at r3; omega
      ·
       rw [if_neg b4] at r3 e
       obtain rfl : kind' = 4 := by omega
       rw [if_neg (by omega), if_pos rfl] at na nb
       simp at na nb
       obtain ⟨⟨rfl, rfl⟩, _⟩ := na
       obtain ⟨⟨rfl, rfl⟩, _⟩ := nb
       cases op with
       | false =>
        cases op' with
        | true => simp at r3
        | false =>
         simp only [Bool.false_eq_true, if_false, Prod.mk.injEq, true_and, and_true] at r3
         obtain ⟨_, rfl⟩ := r3
         simp only [Bool.false_eq_true, if_false, List.append_nil, List.append_assoc] at e
         have e2 := List.append_cancel_left e
         rw [cat_eq, cat_eq] at e2
         obtain ⟨h1, h2⟩ := catR_same (R := fun _ => True) k' (fun i => (ch i).bytes) (fun i => (ch' i).bytes) x y (fun i => (ch i).same (ch' i) = true) (fun i hi u v h => ih i (ch' i) (pa i hi) (pb i hi) (hoa.2.2.2.2 i hi) (hob.2.2.2.2 i hi) u v h) e2
         exact ⟨sm rfl rfl rfl rfl rfl h1, h2⟩
       | true =>
        cases op' with
        | false => simp at r3
        | true =>
         simp only [if_true, List.append_assoc, List.cons_append, List.nil_append, List.cons.injEq, true_and] at e
         rw [cat_eq, cat_eq] at e
         obtain ⟨rfl, h1, h2⟩ := catR_end k k' (fun i => (ch i).bytes) (fun i => (ch' i).bytes) x y (fun i => (ch i).same (ch' i) = true) (fun i hi hj u v h => ih i (ch' i) (pa i hi) (pb i hj) (hoa.2.2.2.2 i hi) (hob.2.2.2.2 i hj) u v h)
          (fun i hi => bytes_not_break (ch i) (pa i hi) (hoa.2.2.2.2 i hi)) (fun i hi => bytes_not_break (ch' i) (pb i hi) (hob.2.2.2.2 i hi)) e
         exact ⟨sm rfl rfl rfl rfl rfl h1, h2⟩

theorem same_bytes (a : T) : ∀ b, b.ok → a.same b = true → a.bytes = b.bytes := by
 induction a with
 | nil =>
  intro b hb h
  cases b with
  | nil => rfl
  | mk => cases h
 | mk kind n s op k ch ih =>
  intro b hb h
  cases b with
  | nil => cases hb
  | mk kind' n' s' op' k' ch' =>
   unfold same at h
   unfold ok at hb
   simp only [T.kind, T.n, T.s, T.op, T.k, T.ch, Bool.and_eq_true, beq_iff_eq, all_iff] at h
   obtain ⟨⟨⟨⟨⟨rfl, rfl⟩, rfl⟩, rfl⟩, rfl⟩, h6⟩ := h
   have : ∀ j, j ≤ k → cat (fun i => (ch i).bytes) j = cat (fun i => (ch' i).bytes) j := by
    intro j hj
    induction j with
    | zero => rfl
    | succ j ih2 => rw [cat, cat, ih2 (by omega), ih j (ch' j) (hb.2.2.2.2 j (by omega)) (h6 j (by omega))]
   unfold bytes
   rw [this k (Nat.le_refl _)]

theorem same_refl (a : T) : a.same a = true := by
 induction a with
 | nil => rfl
 | mk kind n s op k ch ih =>
  unfold same
  simp only [T.kind, T.n, T.s, T.op, T.k, T.ch, Bool.and_eq_true, beq_self_eq_true, true_and, all_iff]
  exact fun i _ => ih i
end T
end Go.Proofs.YtfgipgpbjfhflaaGreat


namespace Go.Proofs.YtfgipgpbjfhflaaGreat
open Go.RowKit
set_option linter.unusedVariables false
set_option linter.unusedSimpArgs false

/-- An item's value: A, c: where its items lie, and for how many there is room. -/
abbrev itemV (t : T) (A : Option Addr) (c : Nat) : Value := .agg #[.int .i64 t.kind, .int .u64 (t.n : Int), str t.s, .slice A t.k c, .bool t.op]
/-- An item's five cells. -/
def At5 (w : World) (b o : Nat) (t : T) (A : Option Addr) (c : Nat) : Prop :=
 w.cell? ⟨b, o, none⟩ = some (.int .i64 t.kind) ∧ w.cell? ⟨b, o + 1, none⟩ = some (.int .u64 (t.n : Int)) ∧ w.cell? ⟨b, o + 2, none⟩ = some (str t.s) ∧ w.cell? ⟨b, o + 3, none⟩ = some (.slice A t.k c) ∧ w.cell? ⟨b, o + 4, none⟩ = some (.bool t.op)
/-- An item's items lie in memory, in blocks of Q alone. -/
def IsL (w : World) (Q : Nat → Prop) : T → Option Addr → Prop
 | T.nil, A => False
 | T.mk _ _ _ _ k ch, A => 0 < k → ∃ b o, A = some ⟨b, o, none⟩ ∧ b < w.heap.size ∧ Q b ∧ ∀ i, i < k → ∃ Ai ci, At5 w b (o + i * 5) (ch i) Ai ci ∧ IsL w Q (ch i) Ai

theorem At5.mod {w w' : World} {b o : Nat} {t : T} {A : Option Addr} {c : Nat} {S : List Nat} (h : At5 w b o t A c) (hm : Mod S w w') (hb : b < w.heap.size) (hs : b ∉ S) : At5 w' b o t A c := by
 obtain ⟨h0, h1, h2, h3, h4⟩ := h
 exact ⟨(hm.cell hb hs).trans h0, (hm.cell hb hs).trans h1, (hm.cell hb hs).trans h2, (hm.cell hb hs).trans h3, (hm.cell hb hs).trans h4⟩
theorem IsL.mod {w w' : World} {Q : Nat → Prop} {S : List Nat} (hm : Mod S w w') (hs : ∀ k, Q k → k < w.heap.size → k ∉ S) (t : T) : ∀ {A : Option Addr}, IsL w Q t A → IsL w' Q t A := by
 induction t with
 | nil => intro A h; cases h
 | mk kind n s op k ch ih =>
  intro A h h0
  obtain ⟨b, o, hA, hb, hq, hc⟩ := h h0
  refine ⟨b, o, hA, Nat.lt_of_lt_of_le hb hm.size, hq, fun i hi => ?_⟩
  obtain ⟨Ai, ci, h1, h2⟩ := hc i hi
  exact ⟨Ai, ci, h1.mod hm hb (hs b hq hb), ih i h2⟩
theorem IsL.ext {w w' : World} {Q : Nat → Prop} {t : T} {A : Option Addr} (h : IsL w Q t A) (hm : Ext w w') : IsL w' Q t A := IsL.mod hm (by simp) t h
theorem IsL.weak {w : World} {Q R : Nat → Prop} (hq : ∀ k, k < w.heap.size → Q k → R k) (t : T) : ∀ {A : Option Addr}, IsL w Q t A → IsL w R t A := by
 induction t with
 | nil => intro A h; cases h
 | mk kind n s op k ch ih =>
  intro A h h0
  obtain ⟨b, o, hA, hb, hq', hc⟩ := h h0
  refine ⟨b, o, hA, hb, hq b hb hq', fun i hi => ?_⟩
  obtain ⟨Ai, ci, h1, h2⟩ := hc i hi
  exact ⟨Ai, ci, h1, ih i h2⟩
theorem IsL.cells {w W : World} {Q : Nat → Prop} {kind : Int} {n : Nat} {s : List UInt8} {op : Bool} {k : Nat} {ch : Nat → T} {A : Option Addr} (h : IsL w Q (.mk kind n s op k ch) A) (hW : Ext w W) {i : Nat} (hi : i < k) :
  ∃ b o Ai ci, A = some ⟨b, o, none⟩ ∧ b < w.heap.size ∧ At5 W b (o + i * 5) (ch i) Ai ci ∧ IsL W Q (ch i) Ai := by
 obtain ⟨b, o, hA, hb, hq, hc⟩ := h (by omega)
 obtain ⟨Ai, ci, h1, h2⟩ := hc i hi
 exact ⟨b, o, Ai, ci, hA, hb, h1.mod hW hb (by simp), h2.ext hW⟩
theorem IsL.leaf {w : World} {Q : Nat → Prop} {kind : Int} {n : Nat} {s : List UInt8} {op : Bool} {ch : Nat → T} {A : Option Addr} : IsL w Q (.mk kind n s op 0 ch) A := fun h => by omega

/-- An item's own five cells, in a block. -/
abbrev itemC (t : T) (A : Option Addr) (c : Nat) : Array Value := #[.int .i64 t.kind, .int .u64 (t.n : Int), str t.s, .slice A t.k c, .bool t.op]

end Go.Proofs.YtfgipgpbjfhflaaGreat


namespace Go.Proofs.YtfgipgpbjfhflaaGreat
open Go.RowKit
set_option linter.unusedVariables false
set_option linter.unusedSimpArgs false

def zeroB : BV := ⟨0, 0, 0, 0, []⟩
abbrev PV.c (p : PV) : Array Value := #[.int .u64 (p.fl : Int), .int .i64 p.crc, .int .i64 p.d.sch, str p.d.name, .int .u64 (p.d.node : Int), .int .u64 (p.d.svc : Int), .int .i64 p.s.sch, str p.s.name, .int .u64 (p.s.node : Int), .int .u64 (p.s.svc : Int), .int .i64 p.r.sch, str p.r.name, .int .u64 (p.r.node : Int), .int .u64 (p.r.svc : Int), .int .u64 (p.t : Int), .int .u64 (p.q : Int), .int .u64 (p.l : Int), .int .u64 (p.o : Int), .int .u64 (p.n : Int)]
abbrev PV.v (p : PV) : Value := .agg p.c
abbrev bunC (p : PV) (A : Option Addr) (k c : Nat) : Array Value := #[.int .u64 (p.fl : Int), .int .i64 p.crc, .int .i64 p.d.sch, str p.d.name, .int .u64 (p.d.node : Int), .int .u64 (p.d.svc : Int), .int .i64 p.s.sch, str p.s.name, .int .u64 (p.s.node : Int), .int .u64 (p.s.svc : Int), .int .i64 p.r.sch, str p.r.name, .int .u64 (p.r.node : Int), .int .u64 (p.r.svc : Int), .int .u64 (p.t : Int), .int .u64 (p.q : Int), .int .u64 (p.l : Int), .int .u64 (p.o : Int), .int .u64 (p.n : Int), .slice A k c]
abbrev bunV (p : PV) (A : Option Addr) (k c : Nat) : Value := .agg (bunC p A k c)
/-- A block's five cells in the midst of a memory block. -/
def BAt (w : World) (b o : Nat) (x : BV) : Prop :=
 w.cell? ⟨b, o, none⟩ = some (.int .i64 x.ty) ∧ w.cell? ⟨b, o + 1, none⟩ = some (.int .i64 x.num) ∧ w.cell? ⟨b, o + 2, none⟩ = some (.int .u64 (x.fl : Int)) ∧ w.cell? ⟨b, o + 3, none⟩ = some (.int .i64 x.crc) ∧ w.cell? ⟨b, o + 4, none⟩ = some (str x.data)
/-- k blocks lie in memory. -/
def BsL (w : World) (A : Option Addr) (k : Nat) (bs : Nat → BV) : Prop := 0 < k → ∃ b o, A = some ⟨b, o, none⟩ ∧ b < w.heap.size ∧ ∀ i, i < k → BAt w b (o + i * 5) (bs i)
theorem BAt.mod {w w' : World} {S : List Nat} {b o : Nat} {x : BV} (h : BAt w b o x) (hm : Mod S w w') (hb : b < w.heap.size) (hs : b ∉ S) : BAt w' b o x := by
 obtain ⟨h0, h1, h2, h3, h4⟩ := h
 exact ⟨(hm.cell hb hs).trans h0, (hm.cell hb hs).trans h1, (hm.cell hb hs).trans h2, (hm.cell hb hs).trans h3, (hm.cell hb hs).trans h4⟩
theorem BsL.ext {w w' : World} {A : Option Addr} {k : Nat} {bs : Nat → BV} (h : BsL w A k bs) (hm : Ext w w') : BsL w' A k bs := fun hk => by
 obtain ⟨b, o, hA, hb, hc⟩ := h hk
 exact ⟨b, o, hA, Nat.lt_of_lt_of_le hb hm.size, fun i hi => (hc i hi).mod hm hb (by simp)⟩
/-- A block's cells, whatever later world. -/
theorem BsL.cells {V : World} {A : Option Addr} {k : Nat} {bs : Nat → BV} (h : BsL V A k bs) {i : Nat} (hi : i < k) : ∃ b o, A = some ⟨b, o, none⟩ ∧ b < V.heap.size ∧
  (∀ e : Later V, e.x.cell? ⟨b, o + i * 5, none⟩ = some (.int .i64 (bs i).ty)) ∧ (∀ e : Later V, e.x.cell? ⟨b, o + i * 5 + 1, none⟩ = some (.int .i64 (bs i).num)) ∧ (∀ e : Later V, e.x.cell? ⟨b, o + i * 5 + 2, none⟩ = some (.int .u64 ((bs i).fl : Int))) ∧
  (∀ e : Later V, e.x.cell? ⟨b, o + i * 5 + 3, none⟩ = some (.int .i64 (bs i).crc)) ∧ (∀ e : Later V, e.x.cell? ⟨b, o + i * 5 + 4, none⟩ = some (str (bs i).data)) := by
 obtain ⟨b, o, hA, hb, hc⟩ := h (by omega)
 obtain ⟨h0, h1, h2, h3, h4⟩ := hc i hi
 exact ⟨b, o, hA, hb, cellL h0, cellL h1, cellL h2, cellL h3, cellL h4⟩
end Go.Proofs.YtfgipgpbjfhflaaGreat


namespace Go.Proofs.YtfgipgpbjfhflaaGreat
open Go.RowKit
set_option linter.unusedVariables false
set_option linter.unusedSimpArgs false

abbrev BV.c (b : BV) : Array Value := #[.int .i64 b.ty, .int .i64 b.num, .int .u64 (b.fl : Int), .int .i64 b.crc, str b.data]
abbrev BV.v (b : BV) : Value := .agg b.c
set_option maxRecDepth 20000 in
theorem cRight_0 (ty : Int) (num : Int) (fl : Nat) (crc : Int) (data : List UInt8) (h : ty < 1) (w : World) : Calls Tryz.prog 45 #[BV.v ⟨ty, num, fl, crc, data⟩] w (Ret (.int .i64 1) w) := by
 have t0 : decide (ty < 1) = true := by simp; omega
 have t1 : decide (1 ≤ ty) = false := by simp; omega
 clear h
 go_enter Tryz.func45, Tryz.ntmps45
 go_wp2
 go_ret
 exact Ret.mk rfl ((Mod.refl _ _).alloc _)
set_option maxRecDepth 20000 in
theorem cRight_1 (ty : Int) (num : Int) (fl : Nat) (crc : Int) (data : List UInt8) (a1 : 1 ≤ ty) (h : 65535 < ty) (w : World) : Calls Tryz.prog 45 #[BV.v ⟨ty, num, fl, crc, data⟩] w (Ret (.int .i64 1) w) := by
 have t0 : decide (ty < 1) = false := by simp; omega
 have t1 : decide (1 ≤ ty) = true := by simp; omega
 have t2 : decide (65535 < ty) = true := by simp; omega
 have t3 : decide (ty ≤ 65535) = false := by simp; omega
 clear a1 h
 go_enter Tryz.func45, Tryz.ntmps45
 go_wp2
 go_ret
 exact Ret.mk rfl ((Mod.refl _ _).alloc _)
set_option maxRecDepth 20000 in
theorem cRight_2 (ty : Int) (num : Int) (fl : Nat) (crc : Int) (data : List UInt8) (a1 : 1 ≤ ty) (a2 : ty ≤ 65535) (h : num < 1) (w : World) : Calls Tryz.prog 45 #[BV.v ⟨ty, num, fl, crc, data⟩] w (Ret (.int .i64 1) w) := by
 have t0 : decide (ty < 1) = false := by simp; omega
 have t1 : decide (1 ≤ ty) = true := by simp; omega
 have t2 : decide (65535 < ty) = false := by simp; omega
 have t3 : decide (ty ≤ 65535) = true := by simp; omega
 have t4 : decide (num < 1) = true := by simp; omega
 have t5 : decide (1 ≤ num) = false := by simp; omega
 clear a1 a2 h
 go_enter Tryz.func45, Tryz.ntmps45
 go_wp2
 go_ret
 exact Ret.mk rfl ((Mod.refl _ _).alloc _)
set_option maxRecDepth 20000 in
theorem cRight_3 (ty : Int) (num : Int) (fl : Nat) (crc : Int) (data : List UInt8) (a1 : 1 ≤ ty) (a2 : ty ≤ 65535) (a3 : 1 ≤ num) (h : 65535 < num) (w : World) : Calls Tryz.prog 45 #[BV.v ⟨ty, num, fl, crc, data⟩] w (Ret (.int .i64 1) w) := by
 have t0 : decide (ty < 1) = false := by simp; omega
 have t1 : decide (1 ≤ ty) = true := by simp; omega
 have t2 : decide (65535 < ty) = false := by simp; omega
 have t3 : decide (ty ≤ 65535) = true := by simp; omega
 have t4 : decide (num < 1) = false := by simp; omega
 have t5 : decide (1 ≤ num) = true := by simp; omega
 have t6 : decide (65535 < num) = true := by simp; omega
 have t7 : decide (num ≤ 65535) = false := by simp; omega
 clear a1 a2 a3 h
 go_enter Tryz.func45, Tryz.ntmps45
 go_wp2
 go_ret
 exact Ret.mk rfl ((Mod.refl _ _).alloc _)
set_option maxRecDepth 20000 in
theorem cRight_4 (ty : Int) (num : Int) (fl : Nat) (crc : Int) (data : List UInt8) (a1 : 1 ≤ ty) (a2 : ty ≤ 65535) (a3 : 1 ≤ num) (a4 : num ≤ 65535) (h : 255 < fl) (w : World) : Calls Tryz.prog 45 #[BV.v ⟨ty, num, fl, crc, data⟩] w (Ret (.int .i64 1) w) := by
 have t0 : decide (ty < 1) = false := by simp; omega
 have t1 : decide (1 ≤ ty) = true := by simp; omega
 have t2 : decide (65535 < ty) = false := by simp; omega
 have t3 : decide (ty ≤ 65535) = true := by simp; omega
 have t4 : decide (num < 1) = false := by simp; omega
 have t5 : decide (1 ≤ num) = true := by simp; omega
 have t6 : decide (65535 < num) = false := by simp; omega
 have t7 : decide (num ≤ 65535) = true := by simp; omega
 have t8 : decide (255 < (fl : Int)) = true := by simp; omega
 have t9 : decide ((fl : Int) ≤ 255) = false := by simp; omega
 clear a1 a2 a3 a4 h
 go_enter Tryz.func45, Tryz.ntmps45
 go_wp2
 go_ret
 exact Ret.mk rfl ((Mod.refl _ _).alloc _)
set_option maxRecDepth 20000 in
theorem cRight_5 (ty : Int) (num : Int) (fl : Nat) (crc : Int) (data : List UInt8) (a1 : 1 ≤ ty) (a2 : ty ≤ 65535) (a3 : 1 ≤ num) (a4 : num ≤ 65535) (a5 : fl ≤ 255) (h : crc < 0) (w : World) : Calls Tryz.prog 45 #[BV.v ⟨ty, num, fl, crc, data⟩] w (Ret (.int .i64 1) w) := by
 have t0 : decide (ty < 1) = false := by simp; omega
 have t1 : decide (1 ≤ ty) = true := by simp; omega
 have t2 : decide (65535 < ty) = false := by simp; omega
 have t3 : decide (ty ≤ 65535) = true := by simp; omega
 have t4 : decide (num < 1) = false := by simp; omega
 have t5 : decide (1 ≤ num) = true := by simp; omega
 have t6 : decide (65535 < num) = false := by simp; omega
 have t7 : decide (num ≤ 65535) = true := by simp; omega
 have t8 : decide (255 < (fl : Int)) = false := by simp; omega
 have t9 : decide ((fl : Int) ≤ 255) = true := by simp; omega
 have t10 : decide (crc < 0) = true := by simp; omega
 have t11 : decide (0 ≤ crc) = false := by simp; omega
 clear a1 a2 a3 a4 a5 h
 go_enter Tryz.func45, Tryz.ntmps45
 go_wp2
 go_ret
 exact Ret.mk rfl ((Mod.refl _ _).alloc _)
set_option maxRecDepth 20000 in
theorem cRight_6 (ty : Int) (num : Int) (fl : Nat) (crc : Int) (data : List UInt8) (a1 : 1 ≤ ty) (a2 : ty ≤ 65535) (a3 : 1 ≤ num) (a4 : num ≤ 65535) (a5 : fl ≤ 255) (a6 : 0 ≤ crc) (h : 2 < crc) (w : World) : Calls Tryz.prog 45 #[BV.v ⟨ty, num, fl, crc, data⟩] w (Ret (.int .i64 1) w) := by
 have t0 : decide (ty < 1) = false := by simp; omega
 have t1 : decide (1 ≤ ty) = true := by simp; omega
 have t2 : decide (65535 < ty) = false := by simp; omega
 have t3 : decide (ty ≤ 65535) = true := by simp; omega
 have t4 : decide (num < 1) = false := by simp; omega
 have t5 : decide (1 ≤ num) = true := by simp; omega
 have t6 : decide (65535 < num) = false := by simp; omega
 have t7 : decide (num ≤ 65535) = true := by simp; omega
 have t8 : decide (255 < (fl : Int)) = false := by simp; omega
 have t9 : decide ((fl : Int) ≤ 255) = true := by simp; omega
 have t10 : decide (crc < 0) = false := by simp; omega
 have t11 : decide (0 ≤ crc) = true := by simp; omega
 have t12 : decide (2 < crc) = true := by simp; omega
 have t13 : decide (crc ≤ 2) = false := by simp; omega
 clear a1 a2 a3 a4 a5 a6 h
 go_enter Tryz.func45, Tryz.ntmps45
 go_wp2
 go_ret
 exact Ret.mk rfl ((Mod.refl _ _).alloc _)
set_option maxRecDepth 20000 in
theorem cRight_7 (ty : Int) (num : Int) (fl : Nat) (crc : Int) (data : List UInt8) (a1 : 1 ≤ ty) (a2 : ty ≤ 65535) (a3 : 1 ≤ num) (a4 : num ≤ 65535) (a5 : fl ≤ 255) (a6 : 0 ≤ crc) (a7 : crc ≤ 2) (h : 4000 < data.length) (w : World) : Calls Tryz.prog 45 #[BV.v ⟨ty, num, fl, crc, data⟩] w (Ret (.int .i64 4) w) := by
 have t0 : decide (ty < 1) = false := by simp; omega
 have t1 : decide (1 ≤ ty) = true := by simp; omega
 have t2 : decide (65535 < ty) = false := by simp; omega
 have t3 : decide (ty ≤ 65535) = true := by simp; omega
 have t4 : decide (num < 1) = false := by simp; omega
 have t5 : decide (1 ≤ num) = true := by simp; omega
 have t6 : decide (65535 < num) = false := by simp; omega
 have t7 : decide (num ≤ 65535) = true := by simp; omega
 have t8 : decide (255 < (fl : Int)) = false := by simp; omega
 have t9 : decide ((fl : Int) ≤ 255) = true := by simp; omega
 have t10 : decide (crc < 0) = false := by simp; omega
 have t11 : decide (0 ≤ crc) = true := by simp; omega
 have t12 : decide (2 < crc) = false := by simp; omega
 have t13 : decide (crc ≤ 2) = true := by simp; omega
 have t14 : decide (4000 < (data.length : Int)) = true := by simp; omega
 have t15 : decide ((data.length : Int) ≤ 4000) = false := by simp; omega
 clear a1 a2 a3 a4 a5 a6 a7 h
 go_enter Tryz.func45, Tryz.ntmps45
 go_wp2
 go_ret
 exact Ret.mk rfl ((Mod.refl _ _).alloc _)
set_option maxRecDepth 20000 in
theorem cRight_8 (num : Int) (fl : Nat) (crc : Int) (data : List UInt8) (a3 : 1 ≤ num) (a4 : num ≤ 65535) (a5 : fl ≤ 255) (a6 : 0 ≤ crc) (a7 : crc ≤ 2) (a8 : data.length ≤ 4000) (b2 : num ≠ 1) (w : World) : Calls Tryz.prog 45 #[BV.v ⟨1, num, fl, crc, data⟩] w (Ret (.int .i64 8) w) := by
 have t0 : decide (num < 1) = false := by simp; omega
 have t1 : decide (1 ≤ num) = true := by simp; omega
 have t2 : decide (65535 < num) = false := by simp; omega
 have t3 : decide (num ≤ 65535) = true := by simp; omega
 have t4 : decide (255 < (fl : Int)) = false := by simp; omega
 have t5 : decide ((fl : Int) ≤ 255) = true := by simp; omega
 have t6 : decide (crc < 0) = false := by simp; omega
 have t7 : decide (0 ≤ crc) = true := by simp; omega
 have t8 : decide (2 < crc) = false := by simp; omega
 have t9 : decide (crc ≤ 2) = true := by simp; omega
 have t10 : decide (4000 < (data.length : Int)) = false := by simp; omega
 have t11 : decide ((data.length : Int) ≤ 4000) = true := by simp; omega
 have e3 : (num = 1) = False := by simp [b2]
 have e4 : (num == 1) = false := by simp [b2]
 clear a3 a4 a5 a6 a7 a8 b2
 go_enter Tryz.func45, Tryz.ntmps45
 go_wp2
 go_ret
 exact Ret.mk rfl ((Mod.refl _ _).alloc _)
set_option maxRecDepth 20000 in
theorem cRight_9 (ty : Int) (fl : Nat) (crc : Int) (data : List UInt8) (a1 : 1 ≤ ty) (a2 : ty ≤ 65535) (a5 : fl ≤ 255) (a6 : 0 ≤ crc) (a7 : crc ≤ 2) (a8 : data.length ≤ 4000) (b1 : ty ≠ 1) (w : World) : Calls Tryz.prog 45 #[BV.v ⟨ty, 1, fl, crc, data⟩] w (Ret (.int .i64 8) w) := by
 have t0 : decide (ty < 1) = false := by simp; omega
 have t1 : decide (1 ≤ ty) = true := by simp; omega
 have t2 : decide (65535 < ty) = false := by simp; omega
 have t3 : decide (ty ≤ 65535) = true := by simp; omega
 have t4 : decide (255 < (fl : Int)) = false := by simp; omega
 have t5 : decide ((fl : Int) ≤ 255) = true := by simp; omega
 have t6 : decide (crc < 0) = false := by simp; omega
 have t7 : decide (0 ≤ crc) = true := by simp; omega
 have t8 : decide (2 < crc) = false := by simp; omega
 have t9 : decide (crc ≤ 2) = true := by simp; omega
 have t10 : decide (4000 < (data.length : Int)) = false := by simp; omega
 have t11 : decide ((data.length : Int) ≤ 4000) = true := by simp; omega
 have e1 : (ty = 1) = False := by simp [b1]
 have e2 : (ty == 1) = false := by simp [b1]
 clear a1 a2 a5 a6 a7 a8 b1
 go_enter Tryz.func45, Tryz.ntmps45
 go_wp2
 go_ret
 exact Ret.mk rfl ((Mod.refl _ _).alloc _)
set_option maxRecDepth 20000 in
theorem cRight_10  (fl : Nat) (crc : Int) (data : List UInt8) (a5 : fl ≤ 255) (a6 : 0 ≤ crc) (a7 : crc ≤ 2) (a8 : data.length ≤ 4000) (w : World) : Calls Tryz.prog 45 #[BV.v ⟨1, 1, fl, crc, data⟩] w (Ret (.int .i64 0) w) := by
 have t0 : decide (255 < (fl : Int)) = false := by simp; omega
 have t1 : decide ((fl : Int) ≤ 255) = true := by simp; omega
 have t2 : decide (crc < 0) = false := by simp; omega
 have t3 : decide (0 ≤ crc) = true := by simp; omega
 have t4 : decide (2 < crc) = false := by simp; omega
 have t5 : decide (crc ≤ 2) = true := by simp; omega
 have t6 : decide (4000 < (data.length : Int)) = false := by simp; omega
 have t7 : decide ((data.length : Int) ≤ 4000) = true := by simp; omega
 clear a5 a6 a7 a8
 go_enter Tryz.func45, Tryz.ntmps45
 go_wp2
 go_ret
 exact Ret.mk rfl ((Mod.refl _ _).alloc _)
set_option maxRecDepth 20000 in
theorem cRight_11 (ty : Int) (num : Int) (fl : Nat) (crc : Int) (data : List UInt8) (a1 : 1 ≤ ty) (a2 : ty ≤ 65535) (a3 : 1 ≤ num) (a4 : num ≤ 65535) (a5 : fl ≤ 255) (a6 : 0 ≤ crc) (a7 : crc ≤ 2) (a8 : data.length ≤ 4000) (b1 : ty ≠ 1) (b2 : num ≠ 1) (w : World) : Calls Tryz.prog 45 #[BV.v ⟨ty, num, fl, crc, data⟩] w (Ret (.int .i64 0) w) := by
 have t0 : decide (ty < 1) = false := by simp; omega
 have t1 : decide (1 ≤ ty) = true := by simp; omega
 have t2 : decide (65535 < ty) = false := by simp; omega
 have t3 : decide (ty ≤ 65535) = true := by simp; omega
 have t4 : decide (num < 1) = false := by simp; omega
 have t5 : decide (1 ≤ num) = true := by simp; omega
 have t6 : decide (65535 < num) = false := by simp; omega
 have t7 : decide (num ≤ 65535) = true := by simp; omega
 have t8 : decide (255 < (fl : Int)) = false := by simp; omega
 have t9 : decide ((fl : Int) ≤ 255) = true := by simp; omega
 have t10 : decide (crc < 0) = false := by simp; omega
 have t11 : decide (0 ≤ crc) = true := by simp; omega
 have t12 : decide (2 < crc) = false := by simp; omega
 have t13 : decide (crc ≤ 2) = true := by simp; omega
 have t14 : decide (4000 < (data.length : Int)) = false := by simp; omega
 have t15 : decide ((data.length : Int) ≤ 4000) = true := by simp; omega
 have e1 : (ty = 1) = False := by simp [b1]
 have e2 : (ty == 1) = false := by simp [b1]
 have e3 : (num = 1) = False := by simp [b2]
 have e4 : (num == 1) = false := by simp [b2]
 clear a1 a2 a3 a4 a5 a6 a7 a8 b1 b2
 go_enter Tryz.func45, Tryz.ntmps45
 go_wp2
 go_ret
 exact Ret.mk rfl ((Mod.refl _ _).alloc _)
set_option maxRecDepth 20000 in
theorem rRight_0 (ty : Int) (num : Int) (fl : Nat) (crc : Int) (data : List UInt8) (h : ty < 1) (w : World) : Calls Tryz.prog 14 #[BV.v ⟨ty, num, fl, crc, data⟩] w (Ret (.int .i64 1) w) := by
 have t0 : decide (ty < 1) = true := by simp; omega
 have t1 : decide (1 ≤ ty) = false := by simp; omega
 clear h
 go_enter Tryz.func14, Tryz.ntmps14
 go_wp2
 go_ret
 exact Ret.mk rfl ((Mod.refl _ _).alloc _)
set_option maxRecDepth 20000 in
theorem rRight_1 (ty : Int) (num : Int) (fl : Nat) (crc : Int) (data : List UInt8) (a1 : 1 ≤ ty) (h : 65535 < ty) (w : World) : Calls Tryz.prog 14 #[BV.v ⟨ty, num, fl, crc, data⟩] w (Ret (.int .i64 1) w) := by
 have t0 : decide (ty < 1) = false := by simp; omega
 have t1 : decide (1 ≤ ty) = true := by simp; omega
 have t2 : decide (65535 < ty) = true := by simp; omega
 have t3 : decide (ty ≤ 65535) = false := by simp; omega
 clear a1 h
 go_enter Tryz.func14, Tryz.ntmps14
 go_wp2
 go_ret
 exact Ret.mk rfl ((Mod.refl _ _).alloc _)
set_option maxRecDepth 20000 in
theorem rRight_2 (ty : Int) (num : Int) (fl : Nat) (crc : Int) (data : List UInt8) (a1 : 1 ≤ ty) (a2 : ty ≤ 65535) (h : num < 1) (w : World) : Calls Tryz.prog 14 #[BV.v ⟨ty, num, fl, crc, data⟩] w (Ret (.int .i64 1) w) := by
 have t0 : decide (ty < 1) = false := by simp; omega
 have t1 : decide (1 ≤ ty) = true := by simp; omega
 have t2 : decide (65535 < ty) = false := by simp; omega
 have t3 : decide (ty ≤ 65535) = true := by simp; omega
 have t4 : decide (num < 1) = true := by simp; omega
 have t5 : decide (1 ≤ num) = false := by simp; omega
 clear a1 a2 h
 go_enter Tryz.func14, Tryz.ntmps14
 go_wp2
 go_ret
 exact Ret.mk rfl ((Mod.refl _ _).alloc _)
set_option maxRecDepth 20000 in
theorem rRight_3 (ty : Int) (num : Int) (fl : Nat) (crc : Int) (data : List UInt8) (a1 : 1 ≤ ty) (a2 : ty ≤ 65535) (a3 : 1 ≤ num) (h : 65535 < num) (w : World) : Calls Tryz.prog 14 #[BV.v ⟨ty, num, fl, crc, data⟩] w (Ret (.int .i64 1) w) := by
 have t0 : decide (ty < 1) = false := by simp; omega
 have t1 : decide (1 ≤ ty) = true := by simp; omega
 have t2 : decide (65535 < ty) = false := by simp; omega
 have t3 : decide (ty ≤ 65535) = true := by simp; omega
 have t4 : decide (num < 1) = false := by simp; omega
 have t5 : decide (1 ≤ num) = true := by simp; omega
 have t6 : decide (65535 < num) = true := by simp; omega
 have t7 : decide (num ≤ 65535) = false := by simp; omega
 clear a1 a2 a3 h
 go_enter Tryz.func14, Tryz.ntmps14
 go_wp2
 go_ret
 exact Ret.mk rfl ((Mod.refl _ _).alloc _)
set_option maxRecDepth 20000 in
theorem rRight_4 (ty : Int) (num : Int) (fl : Nat) (crc : Int) (data : List UInt8) (a1 : 1 ≤ ty) (a2 : ty ≤ 65535) (a3 : 1 ≤ num) (a4 : num ≤ 65535) (h : 255 < fl) (w : World) : Calls Tryz.prog 14 #[BV.v ⟨ty, num, fl, crc, data⟩] w (Ret (.int .i64 1) w) := by
 have t0 : decide (ty < 1) = false := by simp; omega
 have t1 : decide (1 ≤ ty) = true := by simp; omega
 have t2 : decide (65535 < ty) = false := by simp; omega
 have t3 : decide (ty ≤ 65535) = true := by simp; omega
 have t4 : decide (num < 1) = false := by simp; omega
 have t5 : decide (1 ≤ num) = true := by simp; omega
 have t6 : decide (65535 < num) = false := by simp; omega
 have t7 : decide (num ≤ 65535) = true := by simp; omega
 have t8 : decide (255 < (fl : Int)) = true := by simp; omega
 have t9 : decide ((fl : Int) ≤ 255) = false := by simp; omega
 clear a1 a2 a3 a4 h
 go_enter Tryz.func14, Tryz.ntmps14
 go_wp2
 go_ret
 exact Ret.mk rfl ((Mod.refl _ _).alloc _)
set_option maxRecDepth 20000 in
theorem rRight_5 (ty : Int) (num : Int) (fl : Nat) (crc : Int) (data : List UInt8) (a1 : 1 ≤ ty) (a2 : ty ≤ 65535) (a3 : 1 ≤ num) (a4 : num ≤ 65535) (a5 : fl ≤ 255) (h : crc < 0) (w : World) : Calls Tryz.prog 14 #[BV.v ⟨ty, num, fl, crc, data⟩] w (Ret (.int .i64 1) w) := by
 have t0 : decide (ty < 1) = false := by simp; omega
 have t1 : decide (1 ≤ ty) = true := by simp; omega
 have t2 : decide (65535 < ty) = false := by simp; omega
 have t3 : decide (ty ≤ 65535) = true := by simp; omega
 have t4 : decide (num < 1) = false := by simp; omega
 have t5 : decide (1 ≤ num) = true := by simp; omega
 have t6 : decide (65535 < num) = false := by simp; omega
 have t7 : decide (num ≤ 65535) = true := by simp; omega
 have t8 : decide (255 < (fl : Int)) = false := by simp; omega
 have t9 : decide ((fl : Int) ≤ 255) = true := by simp; omega
 have t10 : decide (crc < 0) = true := by simp; omega
 have t11 : decide (0 ≤ crc) = false := by simp; omega
 clear a1 a2 a3 a4 a5 h
 go_enter Tryz.func14, Tryz.ntmps14
 go_wp2
 go_ret
 exact Ret.mk rfl ((Mod.refl _ _).alloc _)
set_option maxRecDepth 20000 in
theorem rRight_6 (ty : Int) (num : Int) (fl : Nat) (crc : Int) (data : List UInt8) (a1 : 1 ≤ ty) (a2 : ty ≤ 65535) (a3 : 1 ≤ num) (a4 : num ≤ 65535) (a5 : fl ≤ 255) (a6 : 0 ≤ crc) (h : 2 < crc) (w : World) : Calls Tryz.prog 14 #[BV.v ⟨ty, num, fl, crc, data⟩] w (Ret (.int .i64 1) w) := by
 have t0 : decide (ty < 1) = false := by simp; omega
 have t1 : decide (1 ≤ ty) = true := by simp; omega
 have t2 : decide (65535 < ty) = false := by simp; omega
 have t3 : decide (ty ≤ 65535) = true := by simp; omega
 have t4 : decide (num < 1) = false := by simp; omega
 have t5 : decide (1 ≤ num) = true := by simp; omega
 have t6 : decide (65535 < num) = false := by simp; omega
 have t7 : decide (num ≤ 65535) = true := by simp; omega
 have t8 : decide (255 < (fl : Int)) = false := by simp; omega
 have t9 : decide ((fl : Int) ≤ 255) = true := by simp; omega
 have t10 : decide (crc < 0) = false := by simp; omega
 have t11 : decide (0 ≤ crc) = true := by simp; omega
 have t12 : decide (2 < crc) = true := by simp; omega
 have t13 : decide (crc ≤ 2) = false := by simp; omega
 clear a1 a2 a3 a4 a5 a6 h
 go_enter Tryz.func14, Tryz.ntmps14
 go_wp2
 go_ret
 exact Ret.mk rfl ((Mod.refl _ _).alloc _)
set_option maxRecDepth 20000 in
theorem rRight_7 (ty : Int) (num : Int) (fl : Nat) (crc : Int) (data : List UInt8) (a1 : 1 ≤ ty) (a2 : ty ≤ 65535) (a3 : 1 ≤ num) (a4 : num ≤ 65535) (a5 : fl ≤ 255) (a6 : 0 ≤ crc) (a7 : crc ≤ 2) (h : 4000 < data.length) (w : World) : Calls Tryz.prog 14 #[BV.v ⟨ty, num, fl, crc, data⟩] w (Ret (.int .i64 4) w) := by
 have t0 : decide (ty < 1) = false := by simp; omega
 have t1 : decide (1 ≤ ty) = true := by simp; omega
 have t2 : decide (65535 < ty) = false := by simp; omega
 have t3 : decide (ty ≤ 65535) = true := by simp; omega
 have t4 : decide (num < 1) = false := by simp; omega
 have t5 : decide (1 ≤ num) = true := by simp; omega
 have t6 : decide (65535 < num) = false := by simp; omega
 have t7 : decide (num ≤ 65535) = true := by simp; omega
 have t8 : decide (255 < (fl : Int)) = false := by simp; omega
 have t9 : decide ((fl : Int) ≤ 255) = true := by simp; omega
 have t10 : decide (crc < 0) = false := by simp; omega
 have t11 : decide (0 ≤ crc) = true := by simp; omega
 have t12 : decide (2 < crc) = false := by simp; omega
 have t13 : decide (crc ≤ 2) = true := by simp; omega
 have t14 : decide (4000 < (data.length : Int)) = true := by simp; omega
 have t15 : decide ((data.length : Int) ≤ 4000) = false := by simp; omega
 clear a1 a2 a3 a4 a5 a6 a7 h
 go_enter Tryz.func14, Tryz.ntmps14
 go_wp2
 go_ret
 exact Ret.mk rfl ((Mod.refl _ _).alloc _)
set_option maxRecDepth 20000 in
theorem rRight_8 (num : Int) (fl : Nat) (crc : Int) (data : List UInt8) (a3 : 1 ≤ num) (a4 : num ≤ 65535) (a5 : fl ≤ 255) (a6 : 0 ≤ crc) (a7 : crc ≤ 2) (a8 : data.length ≤ 4000) (b2 : num ≠ 1) (w : World) : Calls Tryz.prog 14 #[BV.v ⟨1, num, fl, crc, data⟩] w (Ret (.int .i64 8) w) := by
 have t0 : decide (num < 1) = false := by simp; omega
 have t1 : decide (1 ≤ num) = true := by simp; omega
 have t2 : decide (65535 < num) = false := by simp; omega
 have t3 : decide (num ≤ 65535) = true := by simp; omega
 have t4 : decide (255 < (fl : Int)) = false := by simp; omega
 have t5 : decide ((fl : Int) ≤ 255) = true := by simp; omega
 have t6 : decide (crc < 0) = false := by simp; omega
 have t7 : decide (0 ≤ crc) = true := by simp; omega
 have t8 : decide (2 < crc) = false := by simp; omega
 have t9 : decide (crc ≤ 2) = true := by simp; omega
 have t10 : decide (4000 < (data.length : Int)) = false := by simp; omega
 have t11 : decide ((data.length : Int) ≤ 4000) = true := by simp; omega
 have e3 : (num = 1) = False := by simp [b2]
 have e4 : (num == 1) = false := by simp [b2]
 clear a3 a4 a5 a6 a7 a8 b2
 go_enter Tryz.func14, Tryz.ntmps14
 go_wp2
 go_ret
 exact Ret.mk rfl ((Mod.refl _ _).alloc _)
set_option maxRecDepth 20000 in
theorem rRight_9 (ty : Int) (fl : Nat) (crc : Int) (data : List UInt8) (a1 : 1 ≤ ty) (a2 : ty ≤ 65535) (a5 : fl ≤ 255) (a6 : 0 ≤ crc) (a7 : crc ≤ 2) (a8 : data.length ≤ 4000) (b1 : ty ≠ 1) (w : World) : Calls Tryz.prog 14 #[BV.v ⟨ty, 1, fl, crc, data⟩] w (Ret (.int .i64 8) w) := by
 have t0 : decide (ty < 1) = false := by simp; omega
 have t1 : decide (1 ≤ ty) = true := by simp; omega
 have t2 : decide (65535 < ty) = false := by simp; omega
 have t3 : decide (ty ≤ 65535) = true := by simp; omega
 have t4 : decide (255 < (fl : Int)) = false := by simp; omega
 have t5 : decide ((fl : Int) ≤ 255) = true := by simp; omega
 have t6 : decide (crc < 0) = false := by simp; omega
 have t7 : decide (0 ≤ crc) = true := by simp; omega
 have t8 : decide (2 < crc) = false := by simp; omega
 have t9 : decide (crc ≤ 2) = true := by simp; omega
 have t10 : decide (4000 < (data.length : Int)) = false := by simp; omega
 have t11 : decide ((data.length : Int) ≤ 4000) = true := by simp; omega
 have e1 : (ty = 1) = False := by simp [b1]
 have e2 : (ty == 1) = false := by simp [b1]
 clear a1 a2 a5 a6 a7 a8 b1
 go_enter Tryz.func14, Tryz.ntmps14
 go_wp2
 go_ret
 exact Ret.mk rfl ((Mod.refl _ _).alloc _)
set_option maxRecDepth 20000 in
theorem rRight_10  (fl : Nat) (crc : Int) (data : List UInt8) (a5 : fl ≤ 255) (a6 : 0 ≤ crc) (a7 : crc ≤ 2) (a8 : data.length ≤ 4000) (w : World) : Calls Tryz.prog 14 #[BV.v ⟨1, 1, fl, crc, data⟩] w (Ret (.int .i64 0) w) := by
 have t0 : decide (255 < (fl : Int)) = false := by simp; omega
 have t1 : decide ((fl : Int) ≤ 255) = true := by simp; omega
 have t2 : decide (crc < 0) = false := by simp; omega
 have t3 : decide (0 ≤ crc) = true := by simp; omega
 have t4 : decide (2 < crc) = false := by simp; omega
 have t5 : decide (crc ≤ 2) = true := by simp; omega
 have t6 : decide (4000 < (data.length : Int)) = false := by simp; omega
 have t7 : decide ((data.length : Int) ≤ 4000) = true := by simp; omega
 clear a5 a6 a7 a8
 go_enter Tryz.func14, Tryz.ntmps14
 go_wp2
 go_ret
 exact Ret.mk rfl ((Mod.refl _ _).alloc _)
set_option maxRecDepth 20000 in
theorem rRight_11 (ty : Int) (num : Int) (fl : Nat) (crc : Int) (data : List UInt8) (a1 : 1 ≤ ty) (a2 : ty ≤ 65535) (a3 : 1 ≤ num) (a4 : num ≤ 65535) (a5 : fl ≤ 255) (a6 : 0 ≤ crc) (a7 : crc ≤ 2) (a8 : data.length ≤ 4000) (b1 : ty ≠ 1) (b2 : num ≠ 1) (w : World) : Calls Tryz.prog 14 #[BV.v ⟨ty, num, fl, crc, data⟩] w (Ret (.int .i64 0) w) := by
 have t0 : decide (ty < 1) = false := by simp; omega
 have t1 : decide (1 ≤ ty) = true := by simp; omega
 have t2 : decide (65535 < ty) = false := by simp; omega
 have t3 : decide (ty ≤ 65535) = true := by simp; omega
 have t4 : decide (num < 1) = false := by simp; omega
 have t5 : decide (1 ≤ num) = true := by simp; omega
 have t6 : decide (65535 < num) = false := by simp; omega
 have t7 : decide (num ≤ 65535) = true := by simp; omega
 have t8 : decide (255 < (fl : Int)) = false := by simp; omega
 have t9 : decide ((fl : Int) ≤ 255) = true := by simp; omega
 have t10 : decide (crc < 0) = false := by simp; omega
 have t11 : decide (0 ≤ crc) = true := by simp; omega
 have t12 : decide (2 < crc) = false := by simp; omega
 have t13 : decide (crc ≤ 2) = true := by simp; omega
 have t14 : decide (4000 < (data.length : Int)) = false := by simp; omega
 have t15 : decide ((data.length : Int) ≤ 4000) = true := by simp; omega
 have e1 : (ty = 1) = False := by simp [b1]
 have e2 : (ty == 1) = false := by simp [b1]
 have e3 : (num = 1) = False := by simp [b2]
 have e4 : (num == 1) = false := by simp [b2]
 clear a1 a2 a3 a4 a5 a6 a7 a8 b1 b2
 go_enter Tryz.func14, Tryz.ntmps14
 go_wp2
 go_ret
 exact Ret.mk rfl ((Mod.refl _ _).alloc _)
theorem cbRight_any (b : BV) (w : World) : Calls Tryz.prog 45 #[b.v] w (Ret (.int .i64 b.right) w) := by
 obtain ⟨ty, num, fl, crc, data⟩ := b
 have go : ∀ (k : Int), Calls Tryz.prog 45 #[BV.v ⟨ty, num, fl, crc, data⟩] w (Ret (.int .i64 k) w) → BV.right ⟨ty, num, fl, crc, data⟩ = k → Calls Tryz.prog 45 #[BV.v ⟨ty, num, fl, crc, data⟩] w (Ret (.int .i64 (BV.right ⟨ty, num, fl, crc, data⟩)) w) := fun k h e => by rw [e]; exact h
 by_cases h0 : ty < 1
 · exact go _ (cRight_0 ty num fl crc data (by omega) w) (by unfold BV.right; simp only []; rw [if_pos (by omega)])
 by_cases h1 : 65535 < ty
 · exact go _ (cRight_1 ty num fl crc data (by omega) (by omega) w) (by unfold BV.right; simp only []; rw [if_pos (by omega)])
 by_cases h2 : num < 1
 · exact go _ (cRight_2 ty num fl crc data (by omega) (by omega) (by omega) w) (by unfold BV.right; simp only []; rw [if_pos (by omega)])
 by_cases h3 : 65535 < num
 · exact go _ (cRight_3 ty num fl crc data (by omega) (by omega) (by omega) (by omega) w) (by unfold BV.right; simp only []; rw [if_pos (by omega)])
 by_cases h4 : 255 < fl
 · exact go _ (cRight_4 ty num fl crc data (by omega) (by omega) (by omega) (by omega) (by omega) w) (by unfold BV.right; simp only []; rw [if_pos (by omega)])
 by_cases h5 : crc < 0
 · exact go _ (cRight_5 ty num fl crc data (by omega) (by omega) (by omega) (by omega) (by omega) (by omega) w) (by unfold BV.right; simp only []; rw [if_pos (by omega)])
 by_cases h6 : 2 < crc
 · exact go _ (cRight_6 ty num fl crc data (by omega) (by omega) (by omega) (by omega) (by omega) (by omega) (by omega) w) (by unfold BV.right; simp only []; rw [if_pos (by omega)])
 by_cases h7 : 4000 < data.length
 · exact go _ (cRight_7 ty num fl crc data (by omega) (by omega) (by omega) (by omega) (by omega) (by omega) (by omega) (by omega) w) (by unfold BV.right; simp only []; rw [if_neg (by omega), if_pos (by omega)])
 by_cases k1 : ty = 1
 ·
  subst k1
  by_cases k2 : num = 1
  ·
   subst k2
   exact go _ (cRight_10 fl crc data (by omega) (by omega) (by omega) (by omega) w) (by unfold BV.right; simp only []; rw [if_neg (by omega), if_neg (by omega), if_neg (by omega)])
  · exact go _ (cRight_8 num fl crc data (by omega) (by omega) (by omega) (by omega) (by omega) (by omega) k2 w) (by unfold BV.right; simp only []; rw [if_neg (by omega), if_neg (by omega), if_pos (by simp [k2])])
 ·
  by_cases k2 : num = 1
  ·
   subst k2
   exact go _ (cRight_9 ty fl crc data (by omega) (by omega) (by omega) (by omega) (by omega) (by omega) k1 w) (by unfold BV.right; simp only []; rw [if_neg (by omega), if_neg (by omega), if_pos (by simp [k1])])
  · exact go _ (cRight_11 ty num fl crc data (by omega) (by omega) (by omega) (by omega) (by omega) (by omega) (by omega) (by omega) k1 k2 w) (by unfold BV.right; simp only []; rw [if_neg (by omega), if_neg (by omega), if_neg (by omega)])
theorem rbRight_any (b : BV) (w : World) : Calls Tryz.prog 14 #[b.v] w (Ret (.int .i64 b.right) w) := by
 obtain ⟨ty, num, fl, crc, data⟩ := b
 have go : ∀ (k : Int), Calls Tryz.prog 14 #[BV.v ⟨ty, num, fl, crc, data⟩] w (Ret (.int .i64 k) w) → BV.right ⟨ty, num, fl, crc, data⟩ = k → Calls Tryz.prog 14 #[BV.v ⟨ty, num, fl, crc, data⟩] w (Ret (.int .i64 (BV.right ⟨ty, num, fl, crc, data⟩)) w) := fun k h e => by rw [e]; exact h
 by_cases h0 : ty < 1
 · exact go _ (rRight_0 ty num fl crc data (by omega) w) (by unfold BV.right; simp only []; rw [if_pos (by omega)])
 by_cases h1 : 65535 < ty
 · exact go _ (rRight_1 ty num fl crc data (by omega) (by omega) w) (by unfold BV.right; simp only []; rw [if_pos (by omega)])
 by_cases h2 : num < 1
 · exact go _ (rRight_2 ty num fl crc data (by omega) (by omega) (by omega) w) (by unfold BV.right; simp only []; rw [if_pos (by omega)])
 by_cases h3 : 65535 < num
 · exact go _ (rRight_3 ty num fl crc data (by omega) (by omega) (by omega) (by omega) w) (by unfold BV.right; simp only []; rw [if_pos (by omega)])
 by_cases h4 : 255 < fl
 · exact go _ (rRight_4 ty num fl crc data (by omega) (by omega) (by omega) (by omega) (by omega) w) (by unfold BV.right; simp only []; rw [if_pos (by omega)])
 by_cases h5 : crc < 0
 · exact go _ (rRight_5 ty num fl crc data (by omega) (by omega) (by omega) (by omega) (by omega) (by omega) w) (by unfold BV.right; simp only []; rw [if_pos (by omega)])
 by_cases h6 : 2 < crc
 · exact go _ (rRight_6 ty num fl crc data (by omega) (by omega) (by omega) (by omega) (by omega) (by omega) (by omega) w) (by unfold BV.right; simp only []; rw [if_pos (by omega)])
 by_cases h7 : 4000 < data.length
 · exact go _ (rRight_7 ty num fl crc data (by omega) (by omega) (by omega) (by omega) (by omega) (by omega) (by omega) (by omega) w) (by unfold BV.right; simp only []; rw [if_neg (by omega), if_pos (by omega)])
 by_cases k1 : ty = 1
 ·
  subst k1
  by_cases k2 : num = 1
  ·
   subst k2
   exact go _ (rRight_10 fl crc data (by omega) (by omega) (by omega) (by omega) w) (by unfold BV.right; simp only []; rw [if_neg (by omega), if_neg (by omega), if_neg (by omega)])
  · exact go _ (rRight_8 num fl crc data (by omega) (by omega) (by omega) (by omega) (by omega) (by omega) k2 w) (by unfold BV.right; simp only []; rw [if_neg (by omega), if_neg (by omega), if_pos (by simp [k2])])
 ·
  by_cases k2 : num = 1
  ·
   subst k2
   exact go _ (rRight_9 ty fl crc data (by omega) (by omega) (by omega) (by omega) (by omega) (by omega) k1 w) (by unfold BV.right; simp only []; rw [if_neg (by omega), if_neg (by omega), if_pos (by simp [k1])])
  · exact go _ (rRight_11 ty num fl crc data (by omega) (by omega) (by omega) (by omega) (by omega) (by omega) (by omega) (by omega) k1 k2 w) (by unfold BV.right; simp only []; rw [if_neg (by omega), if_neg (by omega), if_neg (by omega)])
end Go.Proofs.YtfgipgpbjfhflaaGreat


namespace Go.Proofs.YtfgipgpbjfhflaaGreat
open Go.RowKit
set_option linter.unusedVariables false
set_option linter.unusedSimpArgs false

def tyB (bs : Nat → BV) (typ : Int) (i : Nat) : Bool := decide ((bs i).ty = typ)
theorem tyB_no {bs : Nat → BV} {typ : Int} {i : Nat} (h : (bs i).ty ≠ typ) : tyB bs typ i = false := by unfold tyB; simp [h]
theorem tyB_yes {bs : Nat → BV} {typ : Int} {i : Nat} (h : (bs i).ty = typ) : tyB bs typ i = true := by unfold tyB; simp [h]
/-- A block's five cells, stored anew. -/
def setB (W : World) (g : Nat) (b : BV) : World := ((((W.setCell ⟨g, 0, none⟩ (.int .i64 b.ty)).setCell ⟨g, 1, none⟩ (.int .i64 b.num)).setCell ⟨g, 2, none⟩ (.int .u64 (b.fl : Int))).setCell ⟨g, 3, none⟩ (.int .i64 b.crc)).setCell ⟨g, 4, none⟩ (str b.data)
section
variable {W : World} {g : Nat} {b0 b : BV}
theorem setB_blk (h : Blk W g 42 b0.c) : Blk (setB W g b) g 42 b.c := by
 have := ((((h.set_ 0 (.int .i64 b.ty)).set_ 1 (.int .i64 b.num)).set_ 2 (.int .u64 (b.fl : Int))).set_ 3 (.int .i64 b.crc)).set_ 4 (str b.data)
 unfold setB
 simpa using this
theorem setB_mod {w : World} {S : List Nat} (h : Mod S w W) (hb : w.heap.size ≤ g) : Mod S w (setB W g b) :=
 ((((h.setCell (.inr hb) _).setCell (.inr hb) _).setCell (.inr hb) _).setCell (.inr hb) _).setCell (.inr hb) _
theorem cellsB (h : Blk W g 42 b.c) : W.cell? ⟨g, 0, none⟩ = some (.int .i64 b.ty) ∧ W.cell? ⟨g, 1, none⟩ = some (.int .i64 b.num) ∧ W.cell? ⟨g, 2, none⟩ = some (.int .u64 (b.fl : Int)) ∧
  W.cell? ⟨g, 3, none⟩ = some (.int .i64 b.crc) ∧ W.cell? ⟨g, 4, none⟩ = some (str b.data) := ⟨h.cell 0, h.cell 1, h.cell 2, h.cell 3, h.cell 4⟩
end
/-- What Find hands back. -/
def findV (bs : Nat → BV) (typ : Int) (k : Nat) : Value := match firstOf (tyB bs typ) k with | some i => .tuple #[(bs i).v, .bool true] | none => .tuple #[zeroB.v, .bool false]
set_option maxRecDepth 20000 in
set_option maxHeartbeats 800000 in
theorem Find_any (p : PV) (bs : Nat → BV) (k c : Nat) (A : Option Addr) (typ : Int) (hk : k < 4611686018427387904) (w : World) (h : BsL w A k bs) : Calls Tryz.prog 46 #[bunV p A k c, .int .i64 typ] w (Ret (findV bs typ k) w) := by
 have HE := hid (((Mod.refl [] w).alloc (.cells (bunC p A k c) 29)).alloc (.cells #[.int .i64 0, .int .i64 0, .int .u64 0, .int .i64 0, .string ⟨#[]⟩] 42))
 have HB := hid ((Blk.new w 29 (bunC p A k c)).alloc (.cells #[.int .i64 0, .int .i64 0, .int .u64 0, .int .i64 0, .string ⟨#[]⟩] 42))
 have HR : Hid (Blk ((w.alloc (.cells (bunC p A k c) 29)).alloc (.cells #[.int .i64 0, .int .i64 0, .int .u64 0, .int .i64 0, .string ⟨#[]⟩] 42)) (w.heap.size + 1) 42 zeroB.c) := Blk.newL _ _ _ (by simp)
 have HL := hid (BsL.ext h HE.out)
 have k1 : (k : Int) < 4611686018427387904 := by omega
 have HK := hid hk
 clear h hk
 go_enter Tryz.func46, Tryz.ntmps46
 go_upto_region 1 with fail
 generalize (w.alloc (.cells (bunC p A k c) 29)).alloc (.cells #[.int .i64 0, .int .i64 0, .int .u64 0, .int .i64 0, .string ⟨#[]⟩] 42) = V at *
 have b19 : ∀ e : Later V, e.x.cell? ⟨w.heap.size, 19, none⟩ = some (.slice A k c) := HB.out.cellL 19 rfl
 have b19v : V.cell? ⟨w.heap.size, 19, none⟩ = some (.slice A k c) := HB.out.cell 19
 go_wp2_with fail
 clear b19v
 obtain ⟨e0, he0⟩ := Later.self V
 go_loopw [11] (fun s11 wr => ∃ i : Nat, s11 = .int .i64 (i : Int) ∧ Hid (i ≤ k ∧ ∀ j, j < i → tyB bs typ j = false) ∧ ∃ e : Later V, wr = e.x) (fun s11 _ => k - (intOf s11).toNat)
 case atStart => exact ⟨0, rfl, (show Hid _ from ⟨by omega, fun j hj => by omega⟩), e0, he0⟩
 case round =>
  clear he0 e0
  obtain ⟨i, rfl, hi, e, rfl⟩ := hrel
  have i0 : (0 : Int) ≤ (i : Int) := by omega
  by_cases hlt : i < k
  ·
   obtain ⟨b, o, rfl, hb, q0, q1, q2, q3, q4⟩ := HL.out.cells hlt
   have tc : decide (i < k) = true := by simp [hlt]
   have i1 : (i : Int) < (k : Int) := by omega
   have HLT := hid hlt
   have HRA := hid ((HR.out.later e).alloc (.cells (BV.c (bs i)) 42))
   have HEA := hid (HE.out.trans ((Later.h e).alloc (.cells (BV.c (bs i)) 42)))
   clear hlt
   by_cases ht : (bs i).ty = typ
   ·
    have HF : Hid (findV bs typ k = .tuple #[(bs i).v, .bool true]) := by unfold Hid findV; rw [firstOf_some HLT.out (tyB_yes ht) hi.out.2]
    have t1 : ((bs i).ty == typ) = true := by simpa using ht
    have t2 : ((bs i).ty = typ) = True := by simpa using ht
    clear ht
    obtain ⟨c0, c1, c2, c3, c4⟩ := cellsB (b := zeroB) HRA.out
    have f0 := HRA.out.frozen 0
    have f1 := HRA.out.frozen 1
    have f2 := HRA.out.frozen 2
    have f3 := HRA.out.frozen 3
    have f4 := HRA.out.frozen 4
    go_wp2_with fail
    obtain ⟨d0, d1, d2, d3, d4⟩ := cellsB (setB_blk (b := bs i) HRA.out)
    clear c0 c1 c2 c3 c4 f0 f1 f2 f3 f4
    show bodyPost _ _ _ _ _ (setB (e.x.alloc (.cells (BV.c (bs i)) 42)) (w.heap.size + 1) (bs i))
    refine bodyPost_ret (v := .tuple #[(bs i).v, .bool true]) (by simp [results, Tryz.results46, go_sem, d0, d1, d2, d3, d4]) rfl (Ret.mk HF.out.symm (setB_mod HEA.out (by omega)))
   ·
    have HN := hid (tyB_no ht)
    have t1 : ((bs i).ty == typ) = false := by simpa using ht
    have t2 : ((bs i).ty = typ) = False := by simpa using ht
    clear ht
    go_wp2_with fail
    go_roundw
    case rel => exact ⟨i + 1, by go_num, (show Hid _ from ⟨HLT.out, fun j hj => by
     by_cases hji : j = i
     · subst hji; exact HN.out
     · exact hi.out.2 j (by omega)⟩), Later.go e ((Mod.refl [] _).alloc _)⟩
    case measure => have := HLT.out; simp [intOf]; omega
  ·
   obtain rfl : i = k := by have := hi.out.1; omega
   have tc : decide (i < i) = false := by simp
   have HF : Hid (findV bs typ i = .tuple #[zeroB.v, .bool false]) := by unfold Hid findV; rw [firstOf_none hi.out.2]
   have HRA := hid (HR.out.later e)
   obtain ⟨c0, c1, c2, c3, c4⟩ := cellsB (b := zeroB) HRA.out
   have f0 := HRA.out.frozen 0
   have f1 := HRA.out.frozen 1
   have f2 := HRA.out.frozen 2
   have f3 := HRA.out.frozen 3
   have f4 := HRA.out.frozen 4
   go_wp2_with fail
   obtain ⟨d0, d1, d2, d3, d4⟩ := cellsB (setB_blk (b := zeroB) HRA.out)
   clear c0 c1 c2 c3 c4 f0 f1 f2 f3 f4
   show bodyPost _ _ _ _ _ (setB e.x (w.heap.size + 1) zeroB)
   refine bodyPost_ret (v := .tuple #[zeroB.v, .bool false]) (by simp [results, Tryz.results46, go_sem, d0, d1, d2, d3, d4]) rfl (Ret.mk HF.out.symm (setB_mod (HE.out.trans e.h) (by omega)))
end Go.Proofs.YtfgipgpbjfhflaaGreat


namespace Go.Proofs.YtfgipgpbjfhflaaGreat
open Go.RowKit
set_option linter.unusedVariables false
set_option linter.unusedSimpArgs false

/-- A number; bytes. -/
def numT (n : Nat) : T := T.mk 0 n [] false 0 fun _ => T.nil
def strT (s : List UInt8) : T := T.mk 2 0 s false 0 fun _ => T.nil

theorem Num_any (n : Nat) (w : World) : Calls Tryz.prog 57 #[.int .u64 (n : Int)] w (Ret (itemV (numT n) none 0) w) := by
 go_enter Tryz.func57, Tryz.ntmps57
 go_wp2
 refine bodyPost_ret (v := itemV (numT n) none 0) ?_ rfl (Ret.mk rfl ((Mod.refl _ _).alloc _))
 simp [results, Tryz.results57, go_sem]
 exact ⟨rfl, rfl, rfl, rfl, rfl⟩
theorem Str_any (s : List UInt8) (w : World) : Calls Tryz.prog 63 #[str s] w (Ret (itemV (strT s) none 0) w) := by
 go_enter Tryz.func63, Tryz.ntmps63
 go_wp2
 refine bodyPost_ret (v := itemV (strT s) none 0) ?_ rfl (Ret.mk rfl ((Mod.refl _ _).alloc _))
 simp [results, Tryz.results63, go_sem]
 exact ⟨rfl, rfl, rfl, rfl, rfl⟩
theorem List_any (ch : Nat → T) (k : Nat) (A : Option Addr) (c : Nat) (w : World) : Calls Tryz.prog 67 #[.slice A k c] w (Ret (itemV (T.mk 4 0 [] false k ch) A c) w) := by
 go_enter Tryz.func67, Tryz.ntmps67
 go_wp2
 refine bodyPost_ret (v := itemV (T.mk 4 0 [] false k ch) A c) ?_ rfl (Ret.mk rfl ((Mod.refl _ _).alloc _))
 simp [results, Tryz.results67, go_sem]
 exact ⟨rfl, rfl, rfl, rfl, rfl⟩
theorem NumI_any (n : Int) (w : World) : Calls Tryz.prog 57 #[.int .u64 n] w (Ret (.agg #[.int .i64 0, .int .u64 n, str [], .slice none 0 0, .bool false]) w) := by
 go_enter Tryz.func57, Tryz.ntmps57
 go_wp2
 refine bodyPost_ret (v := .agg #[.int .i64 0, .int .u64 n, str [], .slice none 0 0, .bool false]) ?_ rfl (Ret.mk rfl ((Mod.refl _ _).alloc _))
 simp [results, Tryz.results57, go_sem]
/-- A list's value, whatever its items. -/
theorem ListV_any (k : Nat) (A : Option Addr) (c : Nat) (w : World) : Calls Tryz.prog 67 #[.slice A k c] w (Ret (.agg #[.int .i64 4, .int .u64 0, str [], .slice A k c, .bool false]) w) := List_any (fun _ => T.nil) k A c w
/-- Bytes' value. -/
theorem StrV_any (s : List UInt8) (w : World) : Calls Tryz.prog 63 #[str s] w (Ret (.agg #[.int .i64 2, .int .u64 0, str s, .slice none 0 0, .bool false]) w) := Str_any s w
theorem num_ok {n : Nat} (h : n < 18446744073709551616) : (numT n).ok := by unfold numT T.ok; exact ⟨by omega, h, by simp, by omega, fun i hi => by omega⟩
theorem str_ok {s : List UInt8} (h : s.length < 4611686018427387904) : (strT s).ok := by unfold strT T.ok; exact ⟨by omega, by omega, h, by omega, fun i hi => by omega⟩
end Go.Proofs.YtfgipgpbjfhflaaGreat


namespace Go.Proofs.YtfgipgpbjfhflaaGreat
open Go.RowKit
set_option linter.unusedVariables false
set_option linter.unusedSimpArgs false

/-- A block's five cells, stored anew. -/
def set5 (W : World) (b : Nat) (t : T) (A : Option Addr) (c : Nat) : World := ((((W.setCell ⟨b, 0, none⟩ (.int .i64 t.kind)).setCell ⟨b, 1, none⟩ (.int .u64 (t.n : Int))).setCell ⟨b, 2, none⟩ (str t.s)).setCell ⟨b, 3, none⟩ (.slice A t.k c)).setCell ⟨b, 4, none⟩ (.bool t.op)
section
variable {W : World} {b : Nat} {t0 t : T} {A0 A : Option Addr} {c0 c : Nat}
theorem set5_blk (h : Blk W b 52 (itemC t0 A0 c0)) : Blk (set5 W b t A c) b 52 (itemC t A c) := by
 have := ((((h.set_ 0 (.int .i64 t.kind)).set_ 1 (.int .u64 (t.n : Int))).set_ 2 (str t.s)).set_ 3 (.slice A t.k c)).set_ 4 (.bool t.op)
 unfold set5
 simpa [itemC] using this
theorem set5_mod {w : World} {S : List Nat} (h : Mod S w W) (hb : w.heap.size ≤ b) : Mod S w (set5 W b t A c) :=
 ((((h.setCell (.inr hb) _).setCell (.inr hb) _).setCell (.inr hb) _).setCell (.inr hb) _).setCell (.inr hb) _
theorem set5_modR {w : World} (h : Mod [b] w W) : Mod [b] w (set5 W b t A c) :=
 ((((h.setCell (.inl (by simp)) _).setCell (.inl (by simp)) _).setCell (.inl (by simp)) _).setCell (.inl (by simp)) _).setCell (.inl (by simp)) _
theorem set5_modb : Mod [b] W (set5 W b t A c) :=
 (((((Mod.refl _ _).setCell (.inl (by simp)) _).setCell (.inl (by simp)) _).setCell (.inl (by simp)) _).setCell (.inl (by simp)) _).setCell (.inl (by simp)) _
theorem set5_far {g : Nat} {ty : TypeId} {cs : Array Value} (h : Blk W g ty cs) (hg : g ≠ b) : Blk (set5 W b t A c) g ty cs := h.mod set5_modb (by simpa using hg)
end
/-- The cells of an item's block. -/
theorem cells5 {W : World} {b : Nat} {t : T} {A : Option Addr} {c : Nat} (h : Blk W b 52 (itemC t A c)) : W.cell? ⟨b, 0, none⟩ = some (.int .i64 t.kind) ∧ W.cell? ⟨b, 1, none⟩ = some (.int .u64 (t.n : Int)) ∧ W.cell? ⟨b, 2, none⟩ = some (str t.s) ∧
  W.cell? ⟨b, 3, none⟩ = some (.slice A t.k c) ∧ W.cell? ⟨b, 4, none⟩ = some (.bool t.op) := ⟨h.cell 0, h.cell 1, h.cell 2, h.cell 3, h.cell 4⟩
end Go.Proofs.YtfgipgpbjfhflaaGreat


namespace Go.Proofs.YtfgipgpbjfhflaaGreat
open Go.RowKit
set_option linter.unusedVariables false
set_option linter.unusedSimpArgs false

/-- A name's value, its cells. -/
abbrev eidC (sch : Int) (name : List UInt8) (node svc : Nat) : Array Value := #[.int .i64 sch, str name, .int .u64 (node : Int), .int .u64 (svc : Int)]
abbrev eidV (sch : Int) (name : List UInt8) (node svc : Nat) : Value := .agg (eidC sch name node svc)

theorem eidNone_any (w : World) : Calls Tryz.prog 79 #[] w (Ret (eidV 1 [110, 111, 110, 101] 0 0) w) := by
 go_enter Tryz.func79, Tryz.ntmps79
 go_wp2
 refine bodyPost_ret (v := eidV 1 [110, 111, 110, 101] 0 0) ?_ rfl (Ret.mk rfl ((Mod.refl _ _).alloc _))
 simp [results, Tryz.results79, go_sem]

theorem eidRight_ipn (node svc : Nat) (hn : node ≤ 4294967295) (hs : svc ≤ 4294967295) (w : World) : Calls Tryz.prog 114 #[eidV 2 [] node svc] w (Ret (.bool true) w) := by
 have t1 : decide ((node : Int) ≤ 4294967295) = true := by simp; omega
 have t2 : decide ((svc : Int) ≤ 4294967295) = true := by simp; omega
 clear hn hs
 go_enter Tryz.func114, Tryz.ntmps114
 go_wp2
 go_ret
 exact Ret.mk rfl ((Mod.refl _ _).alloc _)

/-- Such a name's item. -/
def ipnT (node svc : Nat) : T := T.mk 4 0 [] false 2 fun i => if i = 0 then numT 2 else T.mk 4 0 [] false 2 fun j => if j = 0 then numT node else numT svc
set_option maxRecDepth 20000 in
set_option maxHeartbeats 1600000 in
theorem eidItem_ipn (node svc : Nat) (hn : Hid (node ≤ 4294967295)) (hs : Hid (svc ≤ 4294967295)) (w : World) : Calls Tryz.prog 132 #[eidV 2 [] node svc] w (fun e w' => ∃ A, e = .returned (.tuple #[itemV (ipnT node svc) A 2, .int .i64 0]) ∧ Ext w w' ∧ IsL w' (fun b => w.heap.size ≤ b) (ipnT node svc) A) := by
 have HB := hid ((Blk.new w 24 (eidC 2 [] node svc)).alloc (.cells #[.int .i64 0, .int .u64 0, str [], .slice none 0 0, .bool false] 52))
 have HR : Hid (Blk ((w.alloc (.cells (eidC 2 [] node svc) 24)).alloc (.cells #[.int .i64 0, .int .u64 0, str [], .slice none 0 0, .bool false] 52)) (w.heap.size + 1) 52 #[.int .i64 0, .int .u64 0, str [], .slice none 0 0, .bool false]) := by
  have := Blk.new (w.alloc (.cells (eidC 2 [] node svc) 24)) 52 #[.int .i64 0, .int .u64 0, str [], .slice none 0 0, .bool false]
  unfold Hid
  simpa using this
 have HE := hid (((Mod.refl [] w).alloc (.cells (eidC 2 [] node svc) 24)).alloc (.cells #[.int .i64 0, .int .u64 0, str [], .slice none 0 0, .bool false] 52))
 go_enter Tryz.func132, Tryz.ntmps132
 go_wp2_with fail
 refine (eidRight_ipn node svc hn.out hs.out _).mono ?_
 rintro e w1 ⟨rfl, hb1⟩
 have HB1 := hid (HB.out.ext hb1)
 have HR1 := hid (HR.out.ext hb1)
 have HE1 := hid (HE.out.trans hb1)
 have x0 : w1.cell? ⟨w.heap.size, 0, none⟩ = some (.int .i64 2) := HB1.out.cell 0
 clear hb1 HB HR HE
 have HS : Hid (∀ W, Ext w1 W → W.cell? ⟨w.heap.size, 2, none⟩ = some (.int .u64 (node : Int)) ∧ W.cell? ⟨w.heap.size, 3, none⟩ = some (.int .u64 (svc : Int))) := fun W hW => ⟨(HB1.out.ext hW).cell 2, (HB1.out.ext hW).cell 3⟩
 have y2 := (HS.out w1 (Mod.refl _ _)).1
 have y3 := (HS.out w1 (Mod.refl _ _)).2
 go_upto_region 4 with fail
 go_region_held3 (fun w' => w'.cell? ⟨w.heap.size, 2, none⟩ = some (.int .u64 (node : Int)) ∧ w'.cell? ⟨w.heap.size, 3, none⟩ = some (.int .u64 (svc : Int))) (go_keep)
  (first
   | (go_at_call 57; refine (NumI_any _ _).mono ?_; rintro x w3 ⟨rfl, hb3⟩; have hx : Ext w1 w3 := (by (with_reducible refine Mod.trans ?_ hb3); (repeat (first | with_reducible assumption | with_reducible exact Mod.refl _ _ | with_reducible refine Mod.drew ?_ | with_reducible refine Mod.alloc ?_ _))); have z := HS.out w3 hx)
   | (go_at_call 67; have hI := hIn; refine (ListV_any 2 _ 2 _).mono ?_; rintro x w5 ⟨rfl, hb5⟩; have hx : Ext w1 w5 := (by (with_reducible refine Mod.trans ?_ hb5); (repeat (first | with_reducible assumption | with_reducible exact Mod.refl _ _ | with_reducible refine Mod.drew ?_ | with_reducible refine Mod.alloc ?_ _))); have z := HS.out w5 hx; have hOut := (Blk.new _ _ _).ext hb5; have hIn2 := (Blk.alloc hIn _).ext hb5; have r0 : w5.cell? ⟨w.heap.size + 1, 0, none⟩ = some (.int .i64 0) := (HR1.out.ext hx).cell 0; have g0 : w5.frozen? ⟨w.heap.size + 1, 0, none⟩ = false := (HR1.out.ext hx).frozen 0; have r1 : w5.cell? ⟨w.heap.size + 1, 1, none⟩ = some (.int .u64 0) := (HR1.out.ext hx).cell 1; have g1 : w5.frozen? ⟨w.heap.size + 1, 1, none⟩ = false := (HR1.out.ext hx).frozen 1; have r2 : w5.cell? ⟨w.heap.size + 1, 2, none⟩ = some (str []) := (HR1.out.ext hx).cell 2; have g2 : w5.frozen? ⟨w.heap.size + 1, 2, none⟩ = false := (HR1.out.ext hx).frozen 2; have r3 : w5.cell? ⟨w.heap.size + 1, 3, none⟩ = some (.slice none 0 0) := (HR1.out.ext hx).cell 3; have g3 : w5.frozen? ⟨w.heap.size + 1, 3, none⟩ = false := (HR1.out.ext hx).frozen 3; have r4 : w5.cell? ⟨w.heap.size + 1, 4, none⟩ = some (.bool false) := (HR1.out.ext hx).cell 4; have g4 : w5.frozen? ⟨w.heap.size + 1, 4, none⟩ = false := (HR1.out.ext hx).frozen 4)
   | (go_at_call 67; refine (ListV_any 2 _ 2 _).mono ?_; rintro x w4 ⟨rfl, hb4⟩; have hx : Ext w1 w4 := (by (with_reducible refine Mod.trans ?_ hb4); (repeat (first | with_reducible assumption | with_reducible exact Mod.refl _ _ | with_reducible refine Mod.drew ?_ | with_reducible refine Mod.alloc ?_ _))); have z := HS.out w4 hx; have hIn := (Blk.new _ _ _).ext hb4))
 have h3 : Ext w1 w3 := by assumption
 have h4 : Ext w1 w4 := by assumption
 have hl : w.heap.size + 1 < w1.heap.size := HR1.out.lt
 have hs3 := h3.size
 have hs4 := h4.size
 have HR5 := hid (HR1.out.ext hx)
 have HFin : Hid (Ext w (set5 w5 (w.heap.size + 1) (ipnT node svc) (some ⟨w4.heap.size, 0, none⟩) 2) ∧ Blk (set5 w5 (w.heap.size + 1) (ipnT node svc) (some ⟨w4.heap.size, 0, none⟩) 2) (w.heap.size + 1) 52 (itemC (ipnT node svc) (some ⟨w4.heap.size, 0, none⟩) 2) ∧
   IsL (set5 w5 (w.heap.size + 1) (ipnT node svc) (some ⟨w4.heap.size, 0, none⟩) 2) (fun b => w.heap.size ≤ b) (ipnT node svc) (some ⟨w4.heap.size, 0, none⟩)) := by
  have hm : Mod [w.heap.size + 1] w5 (set5 w5 (w.heap.size + 1) (ipnT node svc) (some ⟨w4.heap.size, 0, none⟩) 2) := set5_modb
  have b1 := hOut.mod hm (by simp; omega)
  have b2 := hIn2.mod hm (by simp; omega)
  refine ⟨set5_mod (HE1.out.trans hx) (by omega), set5_blk (t0 := T.mk 0 0 [] false 0 fun _ => T.nil) (A0 := none) (c0 := 0) HR5.out, fun _ => ⟨w4.heap.size, 0, rfl, b1.lt, (show w.heap.size ≤ w4.heap.size by omega), fun i hi => ?_⟩⟩
  have hi2 : i = 0 ∨ i = 1 := by omega
  rcases hi2 with rfl | rfl
  · exact ⟨none, 0, ⟨b1.cell 0, b1.cell 1, b1.cell 2, b1.cell 3, b1.cell 4⟩, fun h => absurd h (by decide)⟩
  ·
   refine ⟨some ⟨w3.heap.size, 0, none⟩, 2, ⟨b1.cell 5, b1.cell 6, b1.cell 7, b1.cell 8, b1.cell 9⟩, fun _ => ⟨w3.heap.size, 0, rfl, b2.lt, (show w.heap.size ≤ w3.heap.size by omega), fun j hj => ?_⟩⟩
   have hj2 : j = 0 ∨ j = 1 := by omega
   rcases hj2 with rfl | rfl
   · exact ⟨none, 0, ⟨b2.cell 0, b2.cell 1, b2.cell 2, b2.cell 3, b2.cell 4⟩, fun h => absurd h (by decide)⟩
   · exact ⟨none, 0, ⟨b2.cell 5, b2.cell 6, b2.cell 7, b2.cell 8, b2.cell 9⟩, fun h => absurd h (by decide)⟩
 obtain ⟨d0, d1, d2, d3, d4⟩ := cells5 HFin.out.2.1
 clear hOut hIn2 hIn h3 h4 hl hs3 hs4
 go_wp2_with fail
 show bodyPost _ _ _ _ _ (set5 w5 (w.heap.size + 1) (ipnT node svc) (some ⟨w4.heap.size, 0, none⟩) 2)
 refine bodyPost_ret (v := .tuple #[itemV (ipnT node svc) (some ⟨w4.heap.size, 0, none⟩) 2, .int .i64 0]) (by simp [results, Tryz.results132, go_sem, d0, d1, d2, d3, d4]) rfl ?_
 exact ⟨_, rfl, HFin.out.1, HFin.out.2.2⟩
end Go.Proofs.YtfgipgpbjfhflaaGreat


namespace Go.Proofs.YtfgipgpbjfhflaaGreat
open Go.RowKit
set_option linter.unusedVariables false
set_option linter.unusedSimpArgs false

abbrev EV.c (e : EV) : Array Value := #[.int .i64 e.sch, str e.name, .int .u64 (e.node : Int), .int .u64 (e.svc : Int)]
abbrev EV.v (e : EV) : Value := .agg e.c
def lettN (n : Nat) : Bool := decide (97 ≤ n ∧ n ≤ 122) || decide (48 ≤ n ∧ n ≤ 57) || decide (n = 45) || decide (n = 46)
set_option maxHeartbeats 800000 in
theorem nodeByte_any (n : Nat) (h : n ≤ 2147483647) (w : World) : Calls Tryz.prog 140 #[.int .i32 (n : Int)] w (fun e w' => e = .returned (.bool (lettN n)) ∧ w' = w) := by
 go_enter Tryz.func140, Tryz.ntmps140
 go_wp2
 all_goals go_ret
 all_goals refine ⟨?_, rfl⟩
 all_goals (refine congrArg Ending.returned (congrArg Value.bool ?_))
 all_goals unfold lettN
 all_goals rw [Bool.eq_iff_iff]
 all_goals simp
 all_goals omega
theorem ext0 (s : List UInt8) (a b : Nat) : ((⟨s.toArray⟩ : ByteArray).extract a b) = ⟨((s.drop a).take (b - a)).toArray⟩ := by
 rw [Go.Lib.extract_eq]
set_option maxHeartbeats 800000 in
theorem CutPrefix_yes (s : List UInt8) (hs : Hid (s.length < 4611686018427387904)) (h : Hid (s.take 2 = [47, 47])) (w : World) : Calls Tryz.prog 139 #[str s, .string ⟨#[47, 47]⟩] w (fun e w' => e = .returned (.tuple #[str (s.drop 2), .bool true]) ∧ w' = w) := by
 have hl : 2 ≤ s.length := by
  have := congrArg List.length h.out
  rw [List.length_take] at this
  simp at this
  omega
 have hx : ((⟨s.toArray⟩ : ByteArray).extract 0 2) = ⟨([47, 47] : List UInt8).toArray⟩ := by rw [ext0, List.drop_zero, h.out]
 have hd : ((⟨s.toArray⟩ : ByteArray).extract 2 s.length) = ⟨(s.drop 2).toArray⟩ := by rw [ext0, List.take_of_length_le (by simp)]
 go_enter Tryz.func139, Tryz.ntmps139
 go_wp2
 refine bodyPost_ret (v := .tuple #[str (s.drop 2), .bool true]) (by simp [results, Tryz.results139, go_sem]) rfl ⟨rfl, rfl⟩
set_option maxHeartbeats 800000 in
theorem CutPrefix_no (s : List UInt8) (hs : Hid (s.length < 4611686018427387904)) (h : Hid (s.take 2 ≠ [47, 47])) (w : World) : Calls Tryz.prog 139 #[str s, .string ⟨#[47, 47]⟩] w (fun e w' => e = .returned (.tuple #[str s, .bool false]) ∧ w' = w) := by
 by_cases hl : 2 ≤ s.length
 ·
  have hx : ((⟨s.toArray⟩ : ByteArray).extract 0 2) = ⟨(s.take 2).toArray⟩ := by rw [ext0, List.drop_zero]
  have h1 : (s.take 2 == [47, 47]) = false := by simpa using h.out
  have h2 : (s.take 2 = [47, 47]) = False := by simpa using h.out
  generalize s.take 2 = t at *
  go_enter Tryz.func139, Tryz.ntmps139
  go_wp2
  refine bodyPost_ret (v := .tuple #[str s, .bool false]) (by simp [results, Tryz.results139, go_sem]) rfl ⟨rfl, rfl⟩
 ·
  have hl2 : decide ((2 : Int) ≤ (s.length : Int)) = false := by simp; omega
  clear hl
  go_enter Tryz.func139, Tryz.ntmps139
  go_wp2
  refine bodyPost_ret (v := .tuple #[str s, .bool false]) (by simp [results, Tryz.results139, go_sem]) rfl ⟨rfl, rfl⟩

set_option maxHeartbeats 1600000 in
theorem node_any (s : List UInt8) (hs : Hid (s.length < 4611686018427387904)) (w : World) : Calls Tryz.prog 138 #[str s] w (Ret (.int .i64 (nodeN s : Nat)) w) := by
 by_cases ht : s.take 2 = [47, 47]
 ·
  have K := hid (fun W => CutPrefix_yes s hs ht W)
  by_cases hl : 60 < s.length
  ·
   have hN : nodeN s = 0 := by unfold nodeN; rw [if_neg (by omega)]
   rw [hN]
   have t1 : decide (60 < (s.length : Int)) = true := by simp; omega
   go_enter Tryz.func138, Tryz.ntmps138
   go_wp2_with fail
   refine (K.out _).mono ?_
   rintro e w1 ⟨rfl, rfl⟩
   go_wp2_with fail
   go_ret
   exact Ret.mk rfl (Mod.refl _ _)
  ·
   have hN : nodeN s = nodeA (s.drop 2) 0 := by unfold nodeN; rw [if_pos ⟨ht, by omega⟩]
   have t1 : decide (60 < (s.length : Int)) = false := by simp; omega
   have hr : Hid ((s.drop 2).length ≤ 60) := by unfold Hid; simp; omega
   rw [hN]
   clear hN
   go_enter Tryz.func138, Tryz.ntmps138
   go_wp2_with fail
   refine (K.out _).mono ?_
   rintro e w1 ⟨rfl, hw1⟩
   rw [hw1]
   clear hw1 w1 K ht hl
   generalize s.drop 2 = r at *
   generalize hNN : nodeA r 0 = N at *
   have HN : Hid (nodeA (r.drop 0) 0 = N) := hNN
   clear hNN
   go_wp2_with fail
   go_loopw [5, 6] (fun i c wr => ∃ pos : Nat, pos ≤ r.length ∧ wr = w.iter ⟨r.toArray⟩ pos ∧ Hid (nodeA (r.drop pos) pos = N)) (fun _ _ wr => r.length - wr.iterPos w.heap.size)
   case atStart => exact ⟨0, Nat.zero_le _, rfl, HN⟩
   case round =>
    obtain ⟨pos, hp, rfl, HP⟩ := hrel
    have hr60 := hr.out
    have hE : Ext w (w.iter ⟨r.toArray⟩ pos) := (Mod.refl _ _).alloc _
    by_cases hlt : pos < r.length
    ·
     have hd : r.drop pos = r[pos] :: r.drop (pos + 1) := List.drop_eq_getElem_cons hlt
     rw [hd, nodeA] at HP
     clear hd
     by_cases h128 : (r[pos]).toNat < 128
     ·
      have hnx : ∀ ty, (Instr.next (.pointer (some ⟨w.heap.size, 0, none⟩)) true ty).run Tryz.prog (w.iter ⟨r.toArray⟩ pos) = .ok (.tuple #[.bool true, .int .i64 pos, .int .i32 (r[pos]).toNat]) (w.iter ⟨r.toArray⟩ (pos + 1)) := fun ty => run_next_ascii w ⟨r.toArray⟩ pos ty hlt h128
      have KB := hid (fun W => nodeByte_any (r[pos]).toNat (by omega) W)
      have hL : lettN (r[pos]).toNat = lett r[pos] := rfl
      rw [hL] at KB
      generalize r[pos] = x at *
      go_wp2_with fail
      refine (KB.out _).mono ?_
      rintro e w1 ⟨rfl, hw1⟩
      rw [hw1]
      clear hw1 w1 KB hL
      by_cases hl : lett x = true
      ·
       rw [hl]
       have HP2 : Hid (nodeA (r.drop (pos + 1)) (pos + 1) = N) := by have := HP.out; rw [if_pos hl] at this; exact this
       clear HP
       go_wp2_with fail
       go_roundw
       case rel => exact ⟨pos + 1, by omega, rfl, HP2⟩
       case measure => simp; omega
      ·
       have hl2 : lett x = false := by simpa using hl
       rw [hl2]
       have HP2 : Hid ((if x.toNat = 47 ∧ 0 < pos then pos + 3 else 0) = N) := by have := HP.out; rw [if_neg (by simp [hl2])] at this; exact this
       clear HP
       by_cases h47 : x.toNat = 47
       ·
        by_cases h0 : 0 < pos
        ·
         have e3 : pos + 3 = N := by have := HP2.out; rw [if_pos ⟨h47, h0⟩] at this; exact this
         rw [h47]
         have t2 : decide (0 < (pos : Int)) = true := by simp; omega
         go_wp2_with fail
         go_ret
         exact ⟨by rw [← e3]; go_num, (Mod.refl _ _).alloc _⟩
        ·
         have e3 : 0 = N := by have := HP2.out; rw [if_neg (fun h => h0 h.2)] at this; exact this
         rw [h47]
         have t2 : decide (0 < (pos : Int)) = false := by simp; omega
         go_wp2_with fail
         go_ret
         exact ⟨by rw [← e3]; rfl, (Mod.refl _ _).alloc _⟩
       ·
        have e3 : 0 = N := by have := HP2.out; rw [if_neg (fun h => h47 h.1)] at this; exact this
        have t3 : ((x.toNat : Int) == 47) = false := by simp; omega
        have t4 : ((x.toNat : Int) = 47) = False := by simp; omega
        go_wp2_with fail
        go_ret
        exact ⟨by rw [← e3]; rfl, (Mod.refl _ _).alloc _⟩
     ·
      have hdc := decode_high ⟨r.toArray⟩ pos hlt (by show 128 ≤ (r[pos]).toNat; omega)
      have hdl := decode_le ⟨r.toArray⟩ pos
      have hnx : ∀ ty, (Instr.next (.pointer (some ⟨w.heap.size, 0, none⟩)) true ty).run Tryz.prog (w.iter ⟨r.toArray⟩ pos) = _ := fun ty => run_next_any w ⟨r.toArray⟩ pos ty hlt
      have KB := hid (fun W => nodeByte_any (Utf8.decode ⟨r.toArray⟩ pos).1 hdl W)
      have hL : lettN (Utf8.decode ⟨r.toArray⟩ pos).1 = false := by simp [lettN]; omega
      rw [hL] at KB
      have hl2 : lett r[pos] = false := by
       show lettN (r[pos]).toNat = false
       simp [lettN]; omega
      have e3 : Hid (0 = N) := by have := HP.out; rw [if_neg (by simp [hl2]), if_neg (by omega)] at this; exact this
      clear HP hl2 hL
      have t3 : (((Utf8.decode ⟨r.toArray⟩ pos).1 : Int) == 47) = false := by simp; omega
      have t4 : (((Utf8.decode ⟨r.toArray⟩ pos).1 : Int) = 47) = False := by simp; omega
      have hE2 : Ext w (w.iter ⟨r.toArray⟩ (pos + (Utf8.decode ⟨r.toArray⟩ pos).2)) := (Mod.refl _ _).alloc _
      generalize (Utf8.decode ⟨r.toArray⟩ pos).1 = R at *
      generalize pos + (Utf8.decode ⟨r.toArray⟩ pos).2 = pos2 at *
      go_wp2_with fail
      refine (KB.out _).mono ?_
      rintro e w1 ⟨rfl, hw1⟩
      rw [hw1]
      clear hw1 w1 KB
      go_wp2_with fail
      go_ret
      exact ⟨by rw [← e3.out]; rfl, hE2⟩
    ·
     obtain rfl : pos = r.length := by omega
     have e3 : Hid (0 = N) := by have := HP.out; rw [List.drop_length] at this; exact this
     have hnx : ∀ ty, (Instr.next (.pointer (some ⟨w.heap.size, 0, none⟩)) true ty).run Tryz.prog (w.iter ⟨r.toArray⟩ r.length) = _ := fun ty => run_next_end w ⟨r.toArray⟩ r.length ty (by show ¬ r.length < r.length; omega)
     go_wp2_with fail
     go_ret
     exact ⟨by rw [← e3.out]; rfl, hE⟩
 ·
  have K := hid (fun W => CutPrefix_no s hs ht W)
  have hN : nodeN s = 0 := by unfold nodeN; rw [if_neg (fun h => ht h.1)]
  rw [hN]
  go_enter Tryz.func138, Tryz.ntmps138
  go_wp2_with fail
  refine (K.out _).mono ?_
  rintro e w1 ⟨rfl, rfl⟩
  go_wp2_with fail
  go_ret
  exact Ret.mk rfl (Mod.refl _ _)
end Go.Proofs.YtfgipgpbjfhflaaGreat


namespace Go.Proofs.YtfgipgpbjfhflaaGreat
open Go.RowKit
set_option linter.unusedVariables false
set_option linter.unusedSimpArgs false

theorem nodeA_le : ∀ (l : List UInt8) (j : Nat), nodeA l j ≤ j + l.length + 2
 | [], _ => by simp [nodeA]
 | c :: l, j => by
  have ih := nodeA_le l (j + 1)
  rw [nodeA, List.length_cons]
  split
  · omega
  · split <;> omega
theorem nodeN_le (s : List UInt8) : nodeN s ≤ s.length := by
 unfold nodeN
 split
 ·
  rename_i h
  have := nodeA_le (s.drop 2) 0
  have hl := congrArg List.length h.1
  rw [List.length_take] at hl
  rw [List.length_drop] at this
  simp at hl
  omega
 · omega
theorem cell_row8e (w : World) (l : List UInt8) (cap t : Nat) (fz : Nat × Nat) (j : Nat) (h : j < l.length) :
  (w.alloc (.cells (bytesRow ⟨l.toArray⟩ cap) t fz)).cell? ⟨w.heap.size, j, none⟩ = some (.int .u8 (l[j].toNat : Int)) := by
 rw [World.cell?_alloc_mark]
 simp only [bytesRow]
 rw [Array.getElem?_append_left (by simpa using h)]
 simp [h]
theorem named_none (w : World) : Calls Tryz.prog 131 #[str [110, 111, 110, 101]] w (Ret (.bool true) w) := by
 go_enter Tryz.func131, Tryz.ntmps131
 go_wp2_with fail
 go_ret
 exact Ret.mk rfl (Mod.refl _ _)
set_option maxHeartbeats 800000 in
theorem named_any (s : List UInt8) (hs : Hid (s.length < 4611686018427387904)) (w : World) : Calls Tryz.prog 131 #[str s] w (Ret (.bool (namedL s)) w) := by
 by_cases h0 : s = noneL
 · subst h0; exact named_none w
 have hm : namedL s = (decide (nodeN s ≠ 0) && (s.drop (nodeN s)).all prin) := by simp [namedL, h0]
 rw [hm]
 have n1 : (s == [110, 111, 110, 101]) = false := by simpa [noneL] using h0
 have n2 : (s = [110, 111, 110, 101]) = False := by simpa [noneL] using h0
 have K := hid (fun W => node_any s hs W)
 have hle := nodeN_le s
 clear hm h0
 by_cases hn0 : nodeN s = 0
 ·
  rw [hn0] at K
  rw [hn0]
  clear hle hn0
  go_enter Tryz.func131, Tryz.ntmps131
  go_wp2_with fail
  refine (K.out _).mono ?_
  rintro e w1 ⟨rfl, hb1⟩
  go_wp2_with fail
  go_ret
  exact Ret.mk (by simp) hb1
 ·
  have hd : ((⟨s.toArray⟩ : ByteArray).extract (nodeN s) s.length) = ⟨(s.drop (nodeN s)).toArray⟩ := by rw [ext0, List.take_of_length_le (by simp)]
  have z1 : ((nodeN s : Int) == 0) = false := by simp; omega
  have z2 : ((nodeN s : Int) = 0) = False := by simp; omega
  have hconv := fun (w : World) (s : ByteArray) => run_bytes_of_string (P := Tryz.prog) w 9 77 5 s Tryz.underlying9 Tryz.underlying77 Tryz.underlying5
  have hB : (decide (nodeN s ≠ 0) && (s.drop (nodeN s)).all prin) = (s.drop (nodeN s)).all prin := by simp [hn0]
  rw [hB]
  have hlen : (s.drop (nodeN s)).length < 4611686018427387904 := by have := hs.out; rw [List.length_drop]; omega
  clear hB hn0
  generalize nodeN s = n at *
  generalize s.drop n = t at *
  generalize hT : t.all prin = B at *
  have HT : Hid ((t.drop 0).all prin = B) := hT
  clear hT
  go_enter Tryz.func131, Tryz.ntmps131
  go_wp2_with fail
  refine (K.out _).mono ?_
  rintro e w1 ⟨rfl, hb1⟩
  clear K
  have HB1 := hid hb1
  clear hb1
  go_wp2_with fail
  have hext := (HB1.out.alloc (Obj.cells (bytesRow { data := t.toArray } (grownCap w1 t.length 0 5)) 5 ((bytesRow { data := t.toArray } (grownCap w1 t.length 0 5)).size, (bytesRow { data := t.toArray } (grownCap w1 t.length 0 5)).size + 1)))
  have hcell : ∀ j (h : j < t.length), (w1.alloc (Obj.cells (bytesRow { data := t.toArray } (grownCap w1 t.length 0 5)) 5 ((bytesRow { data := t.toArray } (grownCap w1 t.length 0 5)).size, (bytesRow { data := t.toArray } (grownCap w1 t.length 0 5)).size + 1))).cell? ⟨w1.heap.size, j, none⟩ = some (.int .u8 (t[j].toNat : Int)) := fun j h => cell_row8e w1 t _ _ _ j h
  generalize hW : World.alloc w1 _ = W at *
  have HX := hid hext; clear hext hW
  have HC := hid hcell; clear hcell
  go_loop [5, 17] (fun c i => ∃ j : Nat, j ≤ t.length ∧ i = .int .i64 j ∧ Hid ((t.drop j).all prin = B)) (fun _ i => t.length - (intOf i).toNat)
  case atStart => exact ⟨0, Nat.zero_le _, rfl, HT⟩
  case round =>
   obtain ⟨j, hj, rfl, HP⟩ := hrel
   by_cases hlt : j < t.length
   ·
    have hcc := HC.out j hlt
    have hdr : t.drop j = t[j] :: t.drop (j + 1) := List.drop_eq_getElem_cons hlt
    rw [hdr, List.all_cons] at HP
    clear hdr
    generalize t[j] = x at *
    have hx := x.toNat_lt
    by_cases h1 : x.toNat < 33
    ·
     have hp : prin x = false := by simp [prin]; omega
     have HB2 : Hid (false = B) := by have := HP.out; rw [hp] at this; exact this
     have t1 : decide ((x.toNat : Int) < 33) = true := by simp; omega
     clear HP hp h1
     go_wp2_with fail
     go_ret
     exact Ret.mk (by rw [← HB2.out]; rfl) HX.out.drew
    ·
     by_cases h2 : 126 < x.toNat
     ·
      have hp : prin x = false := by simp [prin]; omega
      have HB2 : Hid (false = B) := by have := HP.out; rw [hp] at this; exact this
      have t1 : decide ((x.toNat : Int) < 33) = false := by simp; omega
      have t2 : decide (126 < (x.toNat : Int)) = true := by simp; omega
      clear HP hp h1 h2
      go_wp2_with fail
      go_ret
      exact Ret.mk (by rw [← HB2.out]; rfl) HX.out.drew
     ·
      have hp : prin x = true := by simp [prin]; omega
      have HP2 : Hid ((t.drop (j + 1)).all prin = B) := by have := HP.out; rw [hp] at this; exact this
      have t1 : decide ((x.toNat : Int) < 33) = false := by simp; omega
      have t2 : decide (126 < (x.toNat : Int)) = false := by simp; omega
      clear HP hp h1 h2
      go_wp2_with fail
      go_round
      case rel => exact ⟨j + 1, by omega, by go_num, HP2⟩
      case measure => simp [intOf]; omega
   ·
    obtain rfl : j = t.length := by omega
    have HB2 : Hid (true = B) := by have := HP.out; rw [List.drop_length] at this; exact this
    clear HP
    go_wp2_with fail
    go_ret
    exact Ret.mk (by rw [← HB2.out]; rfl) HX.out.drew

set_option maxRecDepth 20000 in
theorem eidRight_any (e : EV) (hs : Hid (e.name.length < 4611686018427387904)) (w : World) : Calls Tryz.prog 114 #[e.v] w (Ret (.bool e.ok) w) := by
 obtain ⟨sch, name, node, svc⟩ := e
 by_cases h1 : sch = 1
 ·
  subst h1
  have e1 : EV.ok ⟨1, name, node, svc⟩ = (decide (node = 0) && decide (svc = 0) && namedL name) := rfl
  rw [e1]
  clear e1
  by_cases hn : node = 0
  ·
   subst hn
   by_cases hv : svc = 0
   ·
    subst hv
    have K := hid (fun W => named_any name hs W)
    generalize namedL name = b at *
    have HE := hid ((Mod.refl [] w).alloc (.cells (EV.c ⟨1, name, 0, 0⟩) 24))
    go_enter Tryz.func114, Tryz.ntmps114
    go_wp2_with fail
    refine (K.out _).mono ?_
    rintro e w1 ⟨rfl, hb1⟩
    go_wp2_with fail
    go_ret
    exact Ret.mk (by simp) (HE.out.trans hb1)
   ·
    have z1 : ((svc : Int) == 0) = false := by simp; omega
    have z2 : ((svc : Int) = 0) = False := by simp; omega
    have hb : (decide ((0 : Nat) = 0) && decide (svc = 0) && namedL name) = false := by simp [hv]
    rw [hb]
    clear hb hv
    go_enter Tryz.func114, Tryz.ntmps114
    go_wp2_with fail
    go_ret
    exact Ret.mk rfl ((Mod.refl _ _).alloc _)
  ·
   have z1 : ((node : Int) == 0) = false := by simp; omega
   have z2 : ((node : Int) = 0) = False := by simp; omega
   have hb : (decide (node = 0) && decide (svc = 0) && namedL name) = false := by simp [hn]
   rw [hb]
   clear hb hn
   go_enter Tryz.func114, Tryz.ntmps114
   go_wp2_with fail
   go_ret
   exact Ret.mk rfl ((Mod.refl _ _).alloc _)
 ·
  by_cases h2 : sch = 2
  ·
   subst h2
   have e1 : EV.ok ⟨2, name, node, svc⟩ = (decide (name = []) && decide (node ≤ 4294967295) && decide (svc ≤ 4294967295)) := rfl
   rw [e1]
   clear e1 h1
   by_cases hn : name = []
   ·
    subst hn
    by_cases ha : node ≤ 4294967295
    ·
     have t1 : decide ((node : Int) ≤ 4294967295) = true := by simp; omega
     by_cases hb : svc ≤ 4294967295
     ·
      have t2 : decide ((svc : Int) ≤ 4294967295) = true := by simp; omega
      have hr : (decide (([] : List UInt8) = []) && decide (node ≤ 4294967295) && decide (svc ≤ 4294967295)) = true := by simp [ha, hb]
      rw [hr]
      clear hr ha hb
      go_enter Tryz.func114, Tryz.ntmps114
      go_wp2_with fail
      go_ret
      exact Ret.mk rfl ((Mod.refl _ _).alloc _)
     ·
      have t2 : decide ((svc : Int) ≤ 4294967295) = false := by simp; omega
      have hr : (decide (([] : List UInt8) = []) && decide (node ≤ 4294967295) && decide (svc ≤ 4294967295)) = false := by simp [hb]
      rw [hr]
      clear hr ha hb
      go_enter Tryz.func114, Tryz.ntmps114
      go_wp2_with fail
      go_ret
      exact Ret.mk rfl ((Mod.refl _ _).alloc _)
    ·
     have t1 : decide ((node : Int) ≤ 4294967295) = false := by simp; omega
     have hr : (decide (([] : List UInt8) = []) && decide (node ≤ 4294967295) && decide (svc ≤ 4294967295)) = false := by simp [ha]
     rw [hr]
     clear hr ha
     go_enter Tryz.func114, Tryz.ntmps114
     go_wp2_with fail
     go_ret
     exact Ret.mk rfl ((Mod.refl _ _).alloc _)
   ·
    have n1 : (name == []) = false := by simpa using hn
    have n2 : (name = []) = False := by simpa using hn
    have n3 : name.isEmpty = false := by simpa using hn
    have hr : (decide (name = []) && decide (node ≤ 4294967295) && decide (svc ≤ 4294967295)) = false := by simp [hn]
    rw [hr]
    clear hr hn
    go_enter Tryz.func114, Tryz.ntmps114
    go_wp2_with fail
    go_ret
    exact Ret.mk rfl ((Mod.refl _ _).alloc _)
  ·
   have e1 : EV.ok ⟨sch, name, node, svc⟩ = false := by simp [EV.ok, h1, h2]
   rw [e1]
   have s1 : (sch = 1) = False := by simp [h1]
   have s2 : (sch == 1) = false := by simp [h1]
   have s3 : (sch = 2) = False := by simp [h2]
   have s4 : (sch == 2) = false := by simp [h2]
   clear e1 h1 h2
   go_enter Tryz.func114, Tryz.ntmps114
   go_wp2_with fail
   go_ret
   exact Ret.mk rfl ((Mod.refl _ _).alloc _)
end Go.Proofs.YtfgipgpbjfhflaaGreat
