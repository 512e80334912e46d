/-
  Words and small laws that every text of this seat uses: strings out of byte rows; worlds of which only named blocks, and what is new, have turned.
-/
import Derived.Test.YtagjhkknefiieaaRows
import Derived.Test.YtagjhkknefiieaaPlain01
import Derived.WalkKit
import Derived.WalkSpells
import Derived.WalkLawsBesides
import Derived.BigQuiet
import Derived.Deep.QuietTactic
import Derived.Deep.RegionHeld3
import Derived.Deep.DeepCutAuto
import Derived.Deep.OwnRows
import Derived.Deep.LoopGhost
import Derived.Deep.DeepFit
import Derived.Deep.Draws
import Derived.StillTailTactics
import Derived.Lib.Hide
namespace Go.Proofs.Ytagjhkknefiieaa
open Go.RowKit
set_option linter.unusedVariables false

/-- A string's value by its letters. -/
abbrev str (l : List UInt8) : Value := .string ⟨l.toArray⟩
theorem str_app (x y : List UInt8) : Value.string ((⟨x.toArray⟩ : ByteArray) ++ ⟨y.toArray⟩) = str (x ++ y) := by rw [ByteArray.mk_append_mk]
theorem hid {p : Prop} (h : p) : Hid p := h

/-- Blocks outside S that were there are as they were; new blocks may have come. -/
structure Mod (S : List Nat) (w w' : World) : Prop where
  os : w'.os = w.os
  tape : w'.tape = w.tape
  output : w'.output = w.output
  size : w.heap.size ≤ w'.heap.size
  block : ∀ k, k < w.heap.size → k ∉ S → w'.heap[k]? = w.heap[k]?
abbrev Ext (w w' : World) : Prop := Mod [] w w'

section
variable {S T : List Nat} {a b c w w' : World}
theorem Mod.refl (S : List Nat) (w : World) : Mod S w w := ⟨rfl, rfl, rfl, Nat.le_refl _, fun _ _ _ => rfl⟩
theorem Mod.trans (h : Mod S a b) (k : Mod S b c) : Mod S a c :=
  ⟨k.os.trans h.os, k.tape.trans h.tape, k.output.trans h.output, Nat.le_trans h.size k.size, fun i hi hs => (k.block i (Nat.lt_of_lt_of_le hi h.size) hs).trans (h.block i hi hs)⟩
theorem Mod.mono (h : Mod S a b) (hs : ∀ k, k ∈ S → k ∈ T) : Mod T a b := ⟨h.os, h.tape, h.output, h.size, fun i hi hn => h.block i hi (fun hm => hn (hs i hm))⟩
theorem Mod.of_ext (h : Ext a b) : Mod S a b := h.mono (fun k hk => by cases hk)
/-- What was turned in S does not count where S lies in blocks that are new. -/
theorem Mod.new (h : Mod S a b) (hs : ∀ k, k ∈ S → k ∈ T ∨ a.heap.size ≤ k) : Mod T a b :=
  ⟨h.os, h.tape, h.output, h.size, fun i hi hn => h.block i hi (fun hm => (hs i hm).elim hn (fun hle => Nat.not_le_of_lt hi hle))⟩
theorem Mod.below (h : Ext a b) : Below a.heap.size a b := ⟨h.os, h.tape, h.output, h.size, fun k hk => h.block k hk (fun hm => by cases hm)⟩
theorem Mod.of_below (h : Below a.heap.size a b) : Ext a b := ⟨h.os, h.tape, h.output, h.size, fun k hk _ => h.block k hk⟩
theorem Mod.drew (h : Mod S a w) : Mod S a w.drew := ⟨h.os, h.tape, h.output, h.size, h.block⟩
theorem Mod.drewN (h : Mod S a w) (n : Nat) : Mod S a (w.drewN n) := ⟨h.os, h.tape, h.output, h.size, h.block⟩
theorem Mod.alloc (h : Mod S a w) (o : Obj) : Mod S a (w.alloc o) :=
  h.trans ⟨rfl, rfl, rfl, by simp, fun k hk _ => Below.heap_alloc _ _ _ hk⟩
theorem Mod.setCell (h : Mod S a w) {p : Addr} (hp : p.block ∈ S ∨ a.heap.size ≤ p.block) (u : Value) : Mod S a (w.setCell p u) :=
  ⟨h.os, h.tape, h.output, by simpa [World.setCell] using h.size, fun k hk hs => (Below.heap_setCell _ _ _ _ (by
    rintro rfl
    rcases hp with hp | hp
    · exact hs hp
    · exact absurd hk (Nat.not_lt.2 hp))).trans (h.block k hk hs)⟩
theorem Mod.grown (h : Mod S a w) {row : Option Nat} (hg : w.grownBy w' row) (hr : ∀ k, row = some k → k ∈ S ∨ a.heap.size ≤ k) : Mod S a w' :=
  ⟨hg.os.trans h.os, hg.tape.trans h.tape, hg.output.trans h.output, Nat.le_trans h.size hg.size, fun k hk hs => (hg.block k (Nat.lt_of_lt_of_le hk h.size) (fun e => by
    rcases hr k e.symm with hp | hp
    · exact hs hp
    · exact absurd hk (Nat.not_lt.2 hp))).trans (h.block k hk hs)⟩
theorem Mod.cell (h : Mod S a b) {k o : Nat} (hk : k < a.heap.size) (hs : k ∉ S) : b.cell? ⟨k, o, none⟩ = a.cell? ⟨k, o, none⟩ := World.cell?_of_block (w := a) (h.block k hk hs)
theorem Mod.frozen (h : Mod S a b) {k o : Nat} (hk : k < a.heap.size) (hs : k ∉ S) : b.frozen? ⟨k, o, none⟩ = a.frozen? ⟨k, o, none⟩ := World.frozen?_of_block (w := a) (h.block k hk hs)
end
theorem ext_cells {W w1 : World} (hb : Ext W w1) : (∀ b o, b < W.heap.size → w1.cell? ⟨b, o, none⟩ = W.cell? ⟨b, o, none⟩) ∧ (∀ b o, b < W.heap.size → w1.frozen? ⟨b, o, none⟩ = W.frozen? ⟨b, o, none⟩) :=
  ⟨fun b o h => hb.cell h (by simp), fun b o h => hb.frozen h (by simp)⟩
theorem bcell {W w1 : World} (hb : Below W.heap.size W w1) : (∀ b o, b < W.heap.size → w1.cell? ⟨b, o, none⟩ = W.cell? ⟨b, o, none⟩) ∧ (∀ b o, b < W.heap.size → w1.frozen? ⟨b, o, none⟩ = W.frozen? ⟨b, o, none⟩) :=
  ⟨fun b o h => hb.cell (p := ⟨b, o, none⟩) h, fun b o h => hb.frozen (p := ⟨b, o, none⟩) h⟩

/-- The call returns v and turns nothing that was there. -/
def Ret (v : Value) (w : World) (e : Ending) (w' : World) : Prop := e = .returned v ∧ Ext w w'
theorem Ret.mk {v v' : Value} {w w' : World} (hv : v' = v) (h : Ext w w') : Ret v w (.returned v') w' := ⟨by rw [hv], h⟩
/-- The call returns v; of what was there only blocks of S have turned, and R holds then. -/
def RetS (S : List Nat) (v : Value) (R : World → Prop) (w : World) (e : Ending) (w' : World) : Prop := e = .returned v ∧ Mod S w w' ∧ R w'
theorem RetS.mk {S : List Nat} {v v' : Value} {R : World → Prop} {w w' : World} (hv : v' = v) (h : Mod S w w') (hr : R w') : RetS S v R w (.returned v') w' := ⟨by rw [hv], h, hr⟩

/-- A block that is known whole. -/
def Blk (w : World) (g : Nat) (t : TypeId) (cs : Array Value) : Prop := w.heap[g]? = some (.cells cs t (0, 0))
section
variable {w w' : World} {g : Nat} {t : TypeId} {cs : Array Value}
theorem Blk.lt (h : Blk w g t cs) : g < w.heap.size := by
  rcases Nat.lt_or_ge g w.heap.size with hlt | hge
  · exact hlt
  · unfold Blk at h; rw [Array.getElem?_eq_none hge] at h; cases h
theorem Blk.cell (h : Blk w g t cs) (i : Nat) : w.cell? ⟨g, i, none⟩ = cs[i]? := cell_of_row w g i cs t (0, 0) h
theorem Blk.frozen (h : Blk w g t cs) (i : Nat) : w.frozen? ⟨g, i, none⟩ = false := by
  unfold Blk at h
  simp [World.frozen?, h]
theorem Blk.new (w : World) (t : TypeId) (cs : Array Value) : Blk (w.alloc (.cells cs t)) w.heap.size t cs := heap_alloc_new w _
theorem Blk.drew (h : Blk w g t cs) : Blk w.drew g t cs := h
theorem Blk.drewN (h : Blk w g t cs) (n : Nat) : Blk (w.drewN n) g t cs := h
theorem Blk.alloc (h : Blk w g t cs) (o : Obj) : Blk (w.alloc o) g t cs := (Below.heap_alloc w o g h.lt).trans h
theorem Blk.set_ (h : Blk w g t cs) (i : Nat) (u : Value) : Blk (w.setCell ⟨g, i, none⟩ u) g t (cs.setIfInBounds i u) := by
  unfold Blk at h ⊢
  simp [World.setCell, Array.getElem?_modify, h]
theorem Blk.far (h : Blk w g t cs) {p : Addr} (hp : g ≠ p.block) (u : Value) : Blk (w.setCell p u) g t cs := (Below.heap_setCell w p u g hp).trans h
theorem Blk.mod {S : List Nat} (h : Blk w g t cs) (hm : Mod S w w') (hs : g ∉ S) : Blk w' g t cs := (hm.block g h.lt hs).trans h
theorem Blk.ext (h : Blk w g t cs) (hm : Ext w w') : Blk w' g t cs := h.mod hm (by simp)
end

theorem foldl_push (l : List Int) (s : ByteArray) : l.foldl (fun r n => r.push (UInt8.ofNat n.toNat)) s = ⟨(s.data.toList ++ l.map fun n => UInt8.ofNat n.toNat).toArray⟩ := by
  induction l generalizing s with
  | nil => simp
  | cons n l ih => rw [List.foldl_cons, ih]; simp [ByteArray.push]

theorem addr_add (b o j : Nat) : (⟨b, o, none⟩ : Addr).add j = ⟨b, o + j, none⟩ := by
  unfold Addr.add
  by_cases h : j = 0
  · subst h; simp
  · simp [h]

/-- A row of bytes, read as a string. -/
theorem run_row_string {P : Program} (w : World) (src dst e : TypeId) (hs : P.underlying src = some (.slice e)) (he : P.underlying e = some (.int .u8)) (hd : P.underlying dst = some .string)
    (b t n c : Nat) (g : Nat → Nat) (h : w.rowIs b t n (fun i => .int .u8 ((g i : Nat) : Int))) :
    (convert src dst (.slice (some ⟨b, 0, none⟩) n c)).run P w = .ok (str ((List.range n).map fun i => UInt8.ofNat (g i))) w := by
  rw [run_convert_bytes_string w src dst e _ _ _ hs he hd]
  rw [run_bytesToString w _ _ _ ((List.range n).map fun i => ((g i : Nat) : Int))]
  · rw [foldl_push]; congr 4; simp
  · rw [run_loadCells w _ _ (fun i => .int .u8 ((g i : Nat) : Int))]
    · simp
    · intro j hj; have := h.cell hj; rw [addr_add]; simpa using this

/-- One byte, read as a string. -/
theorem run_byte_string {P : Program} (src dst e : TypeId) (hs : P.underlying src = some (.slice e)) (he : P.underlying e = some (.int .u8)) (hd : P.underlying dst = some .string)
    (a : Addr) (c : Nat) (w : World) : (convert src dst (.slice (some a) 1 c)).run P w =
      match w.cell? a with
      | some (.int .u8 x) => .ok (str [b8i x]) w
      | _ => (Conv.bytesToString (.slice (some a) 1 c)).run P w := by
  rw [run_convert_bytes_string w src dst e _ _ _ hs he hd]
  split
  · rename_i x hx
    rw [run_bytesToString w _ _ _ [x]]
    · simp [b8i]; rfl
    · rw [show (1 : Nat) = [Value.int .u8 x].length from rfl, run_loadCells_list]
      · simp
      · intro j v hj
        match j, hj with
        | 0, hj => simp at hj; subst hj; simpa [Addr.add] using hx
  · rfl
end Go.Proofs.Ytagjhkknefiieaa
