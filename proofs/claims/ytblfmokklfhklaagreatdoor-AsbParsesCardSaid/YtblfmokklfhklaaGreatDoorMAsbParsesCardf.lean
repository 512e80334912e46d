/-
  A block's item, without a sum.
  A block without a sum: its item, its bytes; the block that the laws wake the program by.
  A block's bytes; the block that the laws wake the program by.
  strings.Repeat: the library's contract, at this program.
  An item with the right sum as its last part.
  A block's item and bytes, whatever its sum.
  The reference's blocks: bytes, header.
  Security texts: the reference's bytes; Right.
  Security texts: what the reference calls right.
  Data of blocks: a name, a number, hops; made by the code.
  What the laws of the layer wake the program by.
  The plain law of a reader: its state, and what each call makes of it. No program in sight.
  The walks of package cbor's reading functions: join, fail.
  The walks of (*Reader).head, a case at a time.
  The walks of the reader's calls: each returns what the plain reader returns, and leaves the reader as the plain one.
  How an item is parsed, plainly: how far it goes, or where it is wrong, and why.
  The parser of items: its small methods.
  An array's items, gathered: the row grows in place or anew; what a round of the parser's loop keeps.
-/
import Derived.Test.YtblfmokklfhklaaGreatDoorMAsbParsesCarde
import Derived.Shelf.Strings.Repeat
import Derived.Lib.Strings
import Derived.Laws.OwnMore
import Derived.OwnWalk
import Derived.OneCell

namespace Go.Proofs.YtblfmokklfhklaaGreatDoor
open Go.RowKit
set_option linter.unusedVariables false
set_option linter.unusedSimpArgs false

/-- Its item: five parts, or six. -/
def blkT (ty num fl crc : Nat) (data sum : List UInt8) : T := T.mk 4 0 [] false (if crc = 0 then 5 else 6) fun i => if i = 0 then numT ty else if i = 1 then numT num else if i = 2 then numT fl else if i = 3 then numT crc else if i = 4 then strT data else if i = 5 then strT sum else T.nil

/-- The cells of its first five parts. -/
abbrev blk5 (ty num fl crc : Nat) (data : List UInt8) : Array Value := #[.int .i64 0, .int .u64 (ty : Int), str [], .slice none 0 0, .bool false, .int .i64 0, .int .u64 (num : Int), str [], .slice none 0 0, .bool false, .int .i64 0, .int .u64 (fl : Int), str [], .slice none 0 0, .bool false, .int .i64 0, .int .u64 (crc : Int), str [], .slice none 0 0, .bool false, .int .i64 2, .int .u64 0, str data, .slice none 0 0, .bool false]

theorem blk5_IsL {W : World} {Q : Nat → Prop} {g : Nat} {ty num fl : Nat} {data sum : List UInt8} (q : Q g) (h : Blk W g 47 (blk5 ty num fl 0 data)) : IsL W Q (blkT ty num fl 0 data sum) (some ⟨g, 0, none⟩) := fun _ => ⟨g, 0, rfl, h.lt, q, fun j hj => by
  have hj2 : j = 0 ∨ j = 1 ∨ j = 2 ∨ j = 3 ∨ j = 4 := by simp at hj; omega
  rcases hj2 with rfl | rfl | rfl | rfl | rfl
  · exact ⟨none, 0, ⟨h.cell 0, h.cell 1, h.cell 2, h.cell 3, h.cell 4⟩, fun h => absurd h (by decide)⟩
  · exact ⟨none, 0, ⟨h.cell 5, h.cell 6, h.cell 7, h.cell 8, h.cell 9⟩, fun h => absurd h (by decide)⟩
  · exact ⟨none, 0, ⟨h.cell 10, h.cell 11, h.cell 12, h.cell 13, h.cell 14⟩, fun h => absurd h (by decide)⟩
  · exact ⟨none, 0, ⟨h.cell 15, h.cell 16, h.cell 17, h.cell 18, h.cell 19⟩, fun h => absurd h (by decide)⟩
  · exact ⟨none, 0, ⟨h.cell 20, h.cell 21, h.cell 22, h.cell 23, h.cell 24⟩, fun h => absurd h (by decide)⟩⟩
theorem blk6_IsL {W : World} {Q : Nat → Prop} {base g c : Nat} {ty num fl crc : Nat} {data sum : List UInt8} (hc : ¬ crc = 0) (q : Q g) (hlt : g < W.heap.size) (h : W.ownsRow base 47 5 (.slice (some ⟨g, 0, none⟩) (5 + 1) c) (5 + 1) ((blk5 ty num fl crc data).toList ++ [Value.int .i64 (strT sum).kind, .int .u64 ((strT sum).n : Int), str (strT sum).s, .slice none (strT sum).k 0, .bool (strT sum).op])) : IsL W Q (blkT ty num fl crc data sum) (some ⟨g, 0, none⟩) := by
  unfold blkT
  rw [if_neg hc]
  refine fun _ => ⟨g, 0, rfl, hlt, q, fun j hj => ?_⟩
  have hj2 : j = 0 ∨ j = 1 ∨ j = 2 ∨ j = 3 ∨ j = 4 ∨ j = 5 := by omega
  rcases hj2 with rfl | rfl | rfl | rfl | rfl | rfl
  · exact ⟨none, 0, ⟨own_cells (j := 0) h rfl, own_cells (j := 1) h rfl, own_cells (j := 2) h rfl, own_cells (j := 3) h rfl, own_cells (j := 4) h rfl⟩, fun h => absurd h (by decide)⟩
  · exact ⟨none, 0, ⟨own_cells (j := 5) h rfl, own_cells (j := 6) h rfl, own_cells (j := 7) h rfl, own_cells (j := 8) h rfl, own_cells (j := 9) h rfl⟩, fun h => absurd h (by decide)⟩
  · exact ⟨none, 0, ⟨own_cells (j := 10) h rfl, own_cells (j := 11) h rfl, own_cells (j := 12) h rfl, own_cells (j := 13) h rfl, own_cells (j := 14) h rfl⟩, fun h => absurd h (by decide)⟩
  · exact ⟨none, 0, ⟨own_cells (j := 15) h rfl, own_cells (j := 16) h rfl, own_cells (j := 17) h rfl, own_cells (j := 18) h rfl, own_cells (j := 19) h rfl⟩, fun h => absurd h (by decide)⟩
  · exact ⟨none, 0, ⟨own_cells (j := 20) h rfl, own_cells (j := 21) h rfl, own_cells (j := 22) h rfl, own_cells (j := 23) h rfl, own_cells (j := 24) h rfl⟩, fun h => absurd h (by decide)⟩
  · exact ⟨none, 0, ⟨own_cells (j := 25) h rfl, own_cells (j := 26) h rfl, own_cells (j := 27) h rfl, own_cells (j := 28) h rfl, own_cells (j := 29) h rfl⟩, fun h => absurd h (by decide)⟩
end Go.Proofs.YtblfmokklfhklaaGreatDoor


namespace Go.Proofs.YtblfmokklfhklaaGreatDoor
open Go.RowKit
set_option linter.unusedVariables false
set_option linter.unusedSimpArgs false

theorem blkT_ok {ty num fl crc : Nat} {data sum : List UInt8} (h1 : ty ≤ 65535) (h2 : num ≤ 65535) (h3 : fl ≤ 255) (h4 : crc ≤ 2) (h5 : data.length ≤ 4000) (h6 : sum.length ≤ 4000) : (blkT ty num fl crc data sum).ok := by
  unfold blkT T.ok
  refine ⟨by omega, by omega, by simp, by split <;> omega, fun i hi => ?_⟩
  dsimp only
  split
  · exact num_ok (by omega)
  · split
    · exact num_ok (by omega)
    · split
      · exact num_ok (by omega)
      · split
        · exact num_ok (by omega)
        · split
          · exact str_ok (by omega)
          · split
            · exact str_ok (by omega)
            · have : i < 6 := by split at hi <;> omega
              omega

end Go.Proofs.YtblfmokklfhklaaGreatDoor


namespace Go.Proofs.YtblfmokklfhklaaGreatDoor
open Go.RowKit
set_option linter.unusedVariables false
set_option linter.unusedSimpArgs false

end Go.Proofs.YtblfmokklfhklaaGreatDoor


namespace Go.Proofs.YtblfmokklfhklaaGreatDoor
open Go.RowKit
set_option linter.unusedVariables false
set_option linter.unusedSimpArgs false

theorem repeat0 (k : Nat) : Lib.repeatL [0] k = List.replicate k (0 : UInt8) := by
  induction k with
  | zero => rfl
  | succ k ih => rw [Lib.repeatL, ih, List.replicate_succ]; rfl
end Go.Proofs.YtblfmokklfhklaaGreatDoor


namespace Go.Proofs.YtblfmokklfhklaaGreatDoor
open Go.RowKit
set_option linter.unusedVariables false
set_option linter.unusedSimpArgs false

/-- An array of six, with another last part. -/
def lastT (ch : Nat → T) (s : List UInt8) : T := T.mk 4 0 [] false 6 fun i => if i = 5 then strT s else ch i
/-- Its bytes, as they are built. -/
def bldL (t : T) : List UInt8 := if t.right 8 then t.bytes else []
theorem buildV_bld (t : T) : ∃ E, buildV t = .tuple #[str (bldL t), .int .i64 E] := by
  unfold buildV bldL
  split
  · exact ⟨_, rfl⟩
  · exact ⟨_, rfl⟩
theorem lastK {W W' : World} {g : Nat} {Q : Nat → Prop} {ch : Nat → T} {ac : Nat → Option Addr × Nat} (hm : Mod [g] W W') (hq : ∀ b, Q b → b ≠ g) (h : ∀ i, i < 6 → IsL W Q (ch i) (ac i).1) (s : List UInt8) :
    ∀ i, i < 6 → IsL W' Q ((fun i => if i = 5 then strT s else ch i) i) ((fun i => if i = 5 then ((none : Option Addr), 0) else ac i) i).1 := by
  intro i hi
  by_cases e : i = 5
  · subst e; simp only [if_true]; exact fun h => absurd h (by decide)
  · simp only [if_neg e]
    exact IsL.mod hm (fun k hk _ hm => by rw [List.mem_singleton] at hm; exact hq k hk hm) _ (h i hi)

end Go.Proofs.YtblfmokklfhklaaGreatDoor


namespace Go.Proofs.YtblfmokklfhklaaGreatDoor
open Go.RowKit
set_option linter.unusedVariables false
set_option linter.unusedSimpArgs false

theorem blkT_last {ty num fl crc : Nat} {data s t : List UInt8} (hc : ¬ crc = 0) (ch : Nat → T) (hch : blkT ty num fl crc data s = T.mk 4 0 [] false 6 ch) : lastT ch t = blkT ty num fl crc data t := by
  unfold blkT at hch ⊢
  rw [if_neg hc] at hch ⊢
  have h := (T.mk.inj hch).2.2.2.2.2
  subst h
  unfold lastT
  congr 1
  funext i
  by_cases e : i = 5
  · subst e; simp
  · simp [e]
theorem blkT_right {ty num fl crc : Nat} {data s : List UInt8} (d : Nat) (hd : 2 ≤ d) : (blkT ty num fl crc data s).right d = true := by
  unfold blkT T.right
  rw [if_neg (by omega)]
  simp only [Bool.and_eq_true]
  constructor
  · split <;> rfl
  · rw [T.all_iff]
    intro i hi
    have hi6 : i < 6 := by split at hi <;> omega
    have hd1 : ¬ d - 1 < 1 := by omega
    have h6 : i = 0 ∨ i = 1 ∨ i = 2 ∨ i = 3 ∨ i = 4 ∨ i = 5 := by omega
    rcases h6 with rfl | rfl | rfl | rfl | rfl | rfl <;> simp [numT, strT, T.right, hd1, T.node, T.all]
theorem blkT_plain {ty num fl crc : Nat} {data s : List UInt8} : (blkT ty num fl crc data s).plain = true := by
  unfold blkT T.plain
  simp only [Bool.and_eq_true]
  constructor
  · split <;> rfl
  · rw [T.all_iff]
    intro i hi
    have hi6 : i < 6 := by split at hi <;> omega
    have h6 : i = 0 ∨ i = 1 ∨ i = 2 ∨ i = 3 ∨ i = 4 ∨ i = 5 := by omega
    rcases h6 with rfl | rfl | rfl | rfl | rfl | rfl <;> simp [numT, strT, T.plain, T.node, T.all]
theorem sum_le {f : Nat → Nat} {B : Nat} (h : ∀ i, f i ≤ B) : ∀ k, T.sum f k ≤ k * B
  | 0 => by simp [T.sum]
  | k + 1 => by have := sum_le h k; have := h k; rw [T.sum, Nat.succ_mul]; omega
theorem blkT_size {ty num fl crc : Nat} {data s : List UInt8} (h5 : data.length ≤ 4000) (h6 : s.length ≤ 4000) : (blkT ty num fl crc data s).size ≤ 100000 := by
  have hs : ∀ k, k ≤ 6 → ∀ f : Nat → Nat, (∀ i, f i ≤ 4001) → 1 + ([] : List UInt8).length + T.sum f k ≤ 100000 := fun k hk f hf => by
    have := sum_le hf k
    have : k * 4001 ≤ 6 * 4001 := Nat.mul_le_mul_right _ hk
    simp
    omega
  unfold blkT T.size
  refine hs _ (by split <;> omega) _ (fun i => ?_)
  dsimp only
  split
  · simp [numT, T.size, T.sum]
  · split
    · simp [numT, T.size, T.sum]
    · split
      · simp [numT, T.size, T.sum]
      · split
        · simp [numT, T.size, T.sum]
        · split
          · simp [strT, T.size, T.sum]; omega
          · split
            · simp [strT, T.size, T.sum]; omega
            · simp [T.size]

/-- A block's item's bytes. -/
def blkB (ty num fl crc : Nat) (data sum : List UInt8) : List UInt8 :=
  headL 4 (if crc = 0 then 5 else 6) ++ headL 0 ty ++ headL 0 num ++ headL 0 fl ++ headL 0 crc ++ (headL 2 data.length ++ data) ++ (if crc = 0 then [] else headL 2 sum.length ++ sum)
theorem blkT_bytes (ty num fl crc : Nat) (data sum : List UInt8) : (blkT ty num fl crc data sum).bytes = blkB ty num fl crc data sum := by
  unfold blkT blkB
  by_cases hc : crc = 0
  · subst hc
    simp [T.bytes, T.cat, numT, strT]
  · simp [hc, T.bytes, T.cat, numT, strT]
theorem blkB_length {ty num fl crc : Nat} {data sum : List UInt8} (h5 : data.length ≤ 4000) (h6 : sum.length ≤ 4000) : (blkB ty num fl crc data sum).length < 1000000 := by
  have a1 := headL_le 4 5
  have a0 := headL_le 4 6
  have a2 := headL_le 0 ty
  have a3 := headL_le 0 num
  have a4 := headL_le 0 fl
  have a5 := headL_le 0 crc
  have a6 := headL_le 2 data.length
  have a7 := headL_le 2 sum.length
  unfold blkB
  simp only [List.length_append]
  split <;> simp <;> omega
/-- The right sum of a block. -/
def sumB (ty num fl crc : Nat) (data : List UInt8) : List UInt8 := if crc = 0 then [] else Crc.sumL crc (blkB ty num fl crc data (List.replicate (2 * crc) 0))
def finT (ty num fl crc : Nat) (data : List UInt8) : T := blkT ty num fl crc data (sumB ty num fl crc data)
theorem sumB_length {ty num fl crc : Nat} {data : List UInt8} (hc : crc ≤ 2) : (sumB ty num fl crc data).length = 2 * crc := by
  unfold sumB
  split
  · subst crc; rfl
  · exact Crc.sumL_length (by omega) hc _
theorem finV {ty num fl crc : Nat} {data : List UInt8} : buildV (finT ty num fl crc data) = .tuple #[str (blkB ty num fl crc data (sumB ty num fl crc data)), .int .i64 0] := by
  unfold buildV finT
  rw [blkT_right 8 (by omega), if_pos rfl, blkT_bytes]
end Go.Proofs.YtblfmokklfhklaaGreatDoor


namespace Go.Proofs.YtblfmokklfhklaaGreatDoor
open Go.RowKit
set_option linter.unusedVariables false
set_option linter.unusedSimpArgs false

abbrev numsV (ty num fl crc : Nat) : Value := .agg #[.int .u64 (ty : Int), .int .u64 (num : Int), .int .u64 (fl : Int), .int .u64 (crc : Int)]
def num4 (ty num fl crc i : Nat) : Nat := if i = 0 then ty else if i = 1 then num else if i = 2 then fl else crc
def cat4 (ty num fl crc : Nat) (j : Nat) : List UInt8 := T.cat (fun i => headL 0 (num4 ty num fl crc i)) j
theorem cat4_le (ty num fl crc : Nat) : ∀ j, (cat4 ty num fl crc j).length ≤ 9 * j
  | 0 => by simp [cat4, T.cat]
  | j + 1 => by
    have h := cat4_le ty num fl crc j
    have := headL_le 0 (num4 ty num fl crc j)
    unfold cat4 at h ⊢
    rw [T.cat, List.length_append]
    omega
theorem rHead_n (m n : Nat) (hm : m ≤ 7) (hn : n < 18446744073709551616) (w : World) : Calls Tryz.prog 24 #[.int .i64 (m : Int), .int .u64 (n : Int)] w (Ret (str (headL m n)) w) := by
  simpa using rhead_in (m : Int) (n : Int) (by omega) (by omega) (by omega) (by omega) w

end Go.Proofs.YtblfmokklfhklaaGreatDoor


namespace Go.Proofs.YtblfmokklfhklaaGreatDoor
open Go.RowKit
set_option linter.unusedVariables false
set_option linter.unusedSimpArgs false

theorem right_plain {t : T} {d : Nat} (h : t.right d = true) : t.plain = true := by
  rw [T.right_eq, Bool.and_eq_true] at h
  exact h.2
/-- The bytes of the first i pairs. -/
def catP (p : PL) (i : Nat) : List UInt8 := headL 4 p.k ++ T.cat (fun i => (pairT (p.a i)).bytes) i
theorem pair_bytes {p : PR} : (pairT p).bytes = [130] ++ headL 0 p.id.toNat ++ p.t.bytes := by
  unfold pairT
  rw [listT_bytes]
  simp [numT, T.bytes, headL]
  decide
theorem pl_bytes {p : PL} : (plT p).bytes = catP p p.k := by
  show T.bytes (T.mk 4 0 [] false p.k fun i => pairT (p.a i)) = _
  rw [T.bytes, if_neg (by decide), if_neg (by decide)]
  simp [catP]
theorem cat_lt {f : Nat → List UInt8} {B k : Nat} (h : ∀ i, i < k → (f i).length ≤ B) : ∀ i, i ≤ k → (T.cat f i).length ≤ i * B := by
  intro i
  induction i with
  | zero => intro _; simp [T.cat]
  | succ i ih =>
    intro hi
    have := ih (by omega)
    have := h i (by omega)
    rw [T.cat, List.length_append, Nat.succ_mul]; omega
theorem pair_size {p : PR} : (pairT p).size = 2 + p.t.size := by
  simp [pairT, listT, T.size, T.sum, numT]
  omega
set_option maxRecDepth 20000 in
set_option maxHeartbeats 4000000 in
theorem r15list_any (p : PL) (hk : p.k ≤ 1000) (hw : p.wf) (hp : pairsB p = true) (hz : ∀ i, i < p.k → (p.a i).t.size ≤ 100000) (A : Option Addr) (c : Nat) (w : World) (h : PsL w anyQ A p) : Calls Tryz.prog 27 #[.slice A p.k c] w (Ret (str (plT p).bytes) w) := by
  rw [pl_bytes]
  obtain ⟨hv, hu⟩ := pairsB_iff.1 hp
  have HL := hid h
  have HW := hid hw
  have HV := hid hv
  have HU := hid (unlikeB_coded hu)
  have HZ := hid hz
  have k0 : (p.k : Int) ≤ 1000 := by omega
  have t1 : IntKind.u64.wrap (p.k : Int) = (p.k : Int) := IntWalk.u64_in _ (by omega)
  have KH := hid (fun W => rHead_n 4 p.k (by decide) (by omega) W)
  have HLN : Hid (∀ i, i ≤ p.k → (catP p i).length ≤ 2000000000) := hid (fun i hi => by
    have h1 := cat_lt (f := fun i => (pairT (p.a i)).bytes) (B := 1000100) (k := p.k) (fun j hj => by have := T.bytes_le (pairT (p.a j)); have := pair_size (p := p.a j); have := hz j hj; show (pairT (p.a j)).bytes.length ≤ _; omega) i hi
    have h2 := headL_le 4 p.k
    unfold catP
    rw [List.length_append]
    have h3 : i * 1000100 ≤ 1000 * 1000100 := Nat.mul_le_mul_right _ (by omega)
    omega)
  have HC0 : Hid (catP p 0 = headL 4 p.k) := hid (by simp [catP, T.cat])
  clear h hw hp hv hu hz hk
  go_enter Tryz.func27, Tryz.ntmps27
  go_upto_region 3 with (go_at_call 24; (try rw [t1]); refine (Ret.laterW (Mod.refl [] w) (KH.out _)).mono ?_; rintro x _ ⟨rfl, e, rfl⟩)
  go_loopw [3, 4] (fun s3 s4 wr => ∃ i : Nat, s4 = .int .i64 (i : Int) ∧ s3 = str (catP p i) ∧ Hid (i ≤ p.k) ∧ ∃ e : Later w, wr = e.x) (fun _ s4 _ => p.k - (intOf s4).toNat)
  case atStart => exact ⟨0, rfl, by rw [HC0.out], (show Hid _ from Nat.zero_le _), e, rfl⟩
  case round =>
    clear e
    obtain ⟨i, rfl, rfl, hi, e, rfl⟩ := hrel
    have i0 : (0 : Int) ≤ (i : Int) := by omega
    by_cases hlt : i < p.k
    · obtain ⟨b, o, Ai, ci, rfl, hb, hat, hI⟩ := HL.out.at (Mod.refl [] w) hlt
      have RI : Hid (∀ e : Later w, e.x.rangeAt b (o + i * 6 + 1) _) := hid (fun e => (hat.mod e.h hb (by simp)).five.range)
      have tc : decide (i < p.k) = true := by simp [hlt]
      have i1 : (i : Int) < (p.k : Int) := by omega
      have hidn := HU.out i hlt
      obtain ⟨nid, hnid⟩ := Int.eq_ofNat_of_zero_le hidn.1
      have hnid : (p.a i).id = (nid : Int) := hnid
      have qi : ∀ e : Later w, e.x.cell? ⟨b, o + i * 6, none⟩ = some (.int .i64 (nid : Int)) := fun e => by rw [← hnid]; exact cellL hat.1 e
      have t2 : IntKind.u64.wrap (nid : Int) = (nid : Int) := IntWalk.u64_in _ (by omega)
      have KI := hid (fun W => rHead_n 0 nid (by decide) (by omega) W)
      have KB := hid (fun e : Later w => rBytesI_any (p.a i).t ((HW.out.2 i hlt).1) (right_plain (valB_right (HV.out i hlt))) (HZ.out i hlt) Ai ci e.x (hI.ext e.h))
      have lX := HLN.out i (by omega)
      have lH := headL_le 0 nid
      have lB : (p.a i).t.bytes.length ≤ 1000000 := by have := T.bytes_le (p.a i).t; have := HZ.out i hlt; omega
      have HC : Hid (catP p (i + 1) = catP p i ++ (([130] ++ headL 0 nid) ++ (p.a i).t.bytes)) := hid (by unfold catP; rw [T.cat, ← List.append_assoc]; rw [pair_bytes, hnid]; rfl)
      have HLT := hid hlt
      have HT2 := hid t2
      clear hlt hat hI hb hidn t2 hnid
      generalize catP p i = X at *
      generalize headL 0 nid = HH at *
      generalize (p.a i).t.bytes = BB at *
      go_upto_region 5 with fail
      have t2 := HT2.out
      refine wp_region_later (by kernel_rfl) (by kernel_rfl) ?_
      repeat (first | (refine later_mid (by rfl) 47 _ rfl _ _ rfl _ _ RI.out Tryz.underlying47 rfl (by kernel_rfl) ?_; simp only [Act.put, List.setIfInBounds_toArray, List.set_cons_zero, List.set_cons_succ]) | (refine q_cat (by rfl) _ _ _ _ rfl _ _ rfl rfl (by (try simp only [List.length_append, List.length_cons, List.length_nil]); omega) ?_; (try simp only [Act.put, List.setIfInBounds_toArray, List.set_cons_zero, List.set_cons_succ])) | go_big_quiet_step ((first | (go_at_call 24; (try rw [t2]); exact Ret.later (KI.out _)) | (go_at_call 25; exact Ret.later (KB.out _)))))
      refine wpQuiet_nil ?_
      rintro _ ⟨e, rfl⟩
      go_wp2_with fail
      go_roundw
      case rel => exact ⟨i + 1, by go_num, (by (rw [HC.out]) <;> (first | rfl | simp)), (show Hid _ from HLT.out), e, rfl⟩
      case measure => have := HLT.out; simp [intOf]; omega
    · have hik : i = p.k := by have := hi.out; omega
      subst hik
      have tc : decide (p.k < p.k) = false := by simp
      generalize catP p p.k = X at *
      go_wp2_with fail
      go_ret
      exact Ret.mk rfl e.h
def catT (a : AV) (i : Nat) : List UInt8 := headL 4 a.tk ++ T.cat (fun i => headL 0 (a.tg i).toNat) i
def midB (a : AV) : List UInt8 := if a.ps.k = 0 then [0] ++ (eidT a.src).bytes else ([1] ++ (eidT a.src).bytes) ++ (plT a.ps).bytes
def preR (a : AV) : List UInt8 := ((catT a a.tk ++ headL 0 a.ctx.toNat) ++ midB a) ++ headL 4 a.tk
def catR15 (a : AV) (i : Nat) : List UInt8 := preR a ++ T.cat (fun i => (plT (a.rs i)).bytes) i
theorem av_bytes {a : AV} (h : a.rk = a.tk) : a.bytes = catR15 a a.rk := by
  have e1 : (tgT a.tk a.tg).bytes = catT a a.tk := by
    show T.bytes (T.mk 4 0 [] false a.tk fun i => numT (a.tg i).toNat) = _
    rw [T.bytes, if_neg (by decide), if_neg (by decide)]
    simp [catT, numT, T.bytes]
  have e2 : (rsT a.rk a.rs).bytes = headL 4 a.tk ++ T.cat (fun i => (plT (a.rs i)).bytes) a.rk := by
    show T.bytes (T.mk 4 0 [] false a.rk fun i => plT (a.rs i)) = _
    rw [T.bytes, if_neg (by decide), if_neg (by decide), ← h]
    simp
  have n0 : ∀ n, (numT n).bytes = headL 0 n := fun n => rfl
  have h0 : headL 0 0 = [0] := by decide
  have h1 : headL 0 1 = [1] := by decide
  unfold AV.bytes AV.items catR15 preR midB
  split
  · simp [e1, e2, n0, h0]
  · simp [e1, e2, n0, h1]
theorem pl_size_mem {p : PL} {i : Nat} (hi : i < p.k) : (p.a i).t.size ≤ (plT p).size := by
  have h1 : (pairT (p.a i)).size ≤ (plT p).size := T.size_ch (ch := fun i => pairT (p.a i)) hi
  rw [pair_size] at h1
  omega
theorem rs_size_mem {k : Nat} {f : Nat → PL} {i : Nat} (hi : i < k) : (plT (f i)).size ≤ (rsT k f).size := T.size_ch (ch := fun i => plT (f i)) hi
set_option maxRecDepth 20000 in
set_option maxHeartbeats 8000000 in
theorem r15Bytes_any (a : AV) (hw : a.wf) (hsm : a.small) (hs : a.shaped = true) (m : AA) (w : World) (h : AsL w anyQ a m) : Calls Tryz.prog 11 #[asbV a m] w (Ret (str a.bytes) w) := by
  obtain ⟨mt, mtc, mp, mpc, mr, mrc⟩ := m
  obtain ⟨⟨h1, h2⟩, h3, h4, h5, h6, h7, h8, h9⟩ := AV.shaped_iff.1 hs
  rw [av_bytes h8]
  have HE := hid ((Mod.refl [] w).alloc (.cells (asbC a ⟨mt, mtc, mp, mpc, mr, mrc⟩) 29))
  have HB0 := hid (Blk.new w 29 (asbC a ⟨mt, mtc, mp, mpc, mr, mrc⟩))
  have HL := hid (h.ext HE.out)
  have HTG := hid (unlikeB_coded h3)
  have HRC := hid (T.all_iff.1 h9)
  have HRK := hid h8
  have HWR := hid hw.2.2.2.2.2
  have HSR := hid hsm.2
  have k16 : (a.tk : Int) ≤ 16 := by omega
  have r16 : (a.rk : Int) ≤ 16 := by omega
  have hcc := codedB_iff.1 h4
  obtain ⟨cn, hcn⟩ := Int.eq_ofNat_of_zero_le hcc.1
  have hcn : a.ctx = (cn : Int) := hcn
  have tcx : IntKind.u64.wrap (cn : Int) = (cn : Int) := IntWalk.u64_in _ (by omega)
  have ttk : IntKind.u64.wrap (a.tk : Int) = (a.tk : Int) := IntWalk.u64_in _ (by omega)
  have KT := hid (fun W => rHead_n 4 a.tk (by decide) (by omega) W)
  have KX := hid (fun W => rHead_n 0 cn (by decide) (by omega) W)
  have KE := hid (fun W => r10Item_ok a.src h5 W)
  have KB := hid (fun A W (hl : IsL W anyQ (eidT a.src) A) => rBytesI_any (eidT a.src) (eidT_ok h5).1 (eidT_ok h5).2.2.1 (eidT_ok h5).2.2.2 A 2 W hl)
  have lE : (eidT a.src).bytes.length ≤ 1000000 := by have := T.bytes_le (eidT a.src); have := (eidT_ok h5).2.2.2; omega
  have lP : (plT a.ps).bytes.length ≤ 1000000 := by have := T.bytes_le (plT a.ps); have := hsm.1; omega
  have lT := headL_le 4 a.tk
  have lC := headL_le 0 cn
  have HCT : Hid (∀ i, i ≤ a.tk → (catT a i).length ≤ 100000) := hid (fun i hi => by
    have h1 := cat_lt (f := fun i => headL 0 (a.tg i).toNat) (B := 1000) (k := a.tk) (fun j hj => by have := headL_le 0 (a.tg j).toNat; show (headL 0 (a.tg j).toNat).length ≤ _; omega) i hi
    unfold catT
    rw [List.length_append]
    omega)
  have lM : (midB a).length ≤ 3000000 := by
    unfold midB
    split <;> simp only [List.length_append, List.length_cons, List.length_nil] <;> omega
  have lPre : (preR a).length ≤ 4000000 := by
    have := HCT.out a.tk (Nat.le_refl _)
    have hcx : (headL 0 a.ctx.toNat).length ≤ 1000 := by have := headL_le 0 a.ctx.toNat; omega
    unfold preR
    simp only [List.length_append]
    omega
  have HCR : Hid (∀ i, i ≤ a.rk → (catR15 a i).length ≤ 200000000) := hid (fun i hi => by
    have h1 := cat_lt (f := fun i => (plT (a.rs i)).bytes) (B := 1000000) (k := a.rk) (fun j hj => by have := T.bytes_le (plT (a.rs j)); have := rs_size_mem (f := a.rs) hj; have := hsm.2; show (plT (a.rs j)).bytes.length ≤ _; omega) i hi
    unfold catR15
    rw [List.length_append]
    have h3 : i * 1000000 ≤ 16 * 1000000 := Nat.mul_le_mul_right _ (by omega)
    omega)
  have KP : Hid (∀ W, Ext (w.alloc (.cells (asbC a ⟨mt, mtc, mp, mpc, mr, mrc⟩) 29)) W → Calls Tryz.prog 27 #[.slice mp a.ps.k mpc] W (Ret (str (plT a.ps).bytes) W)) := hid (fun W hW => r15list_any a.ps (by omega) hw.2.2.2.1 h7 (fun i hi => by have := pl_size_mem hi; have := hsm.1; omega) mp mpc W (HL.out.p.ext hW))
  have HM0 : Hid (a.ps.k = 0 → midB a = [0] ++ (eidT a.src).bytes) := hid (fun h => by unfold midB; rw [if_pos h])
  have HM1 : Hid (a.ps.k ≠ 0 → midB a = ([1] ++ (eidT a.src).bytes) ++ (plT a.ps).bytes) := hid (fun h => by unfold midB; rw [if_neg h])
  have HPR : Hid (preR a = ((catT a a.tk ++ headL 0 cn) ++ midB a) ++ headL 4 a.tk) := hid (by unfold preR; rw [hcn]; rfl)
  have HC00 : Hid (catT a 0 = headL 4 a.tk) := hid (by simp [catT, T.cat])
  have HR00 : Hid (catR15 a 0 = preR a) := hid (by simp [catR15, T.cat])
  have pk0 : (a.ps.k : Int) ≤ 8 := by omega
  have HCN := hid hcn
  clear hw hsm hs h h1 h2 h3 h4 h5 h6 h7 h8 h9 hcc hcn
  go_enter Tryz.func11, Tryz.ntmps11
  go_upto_region 1 with fail
  generalize w.alloc (.cells (asbC a ⟨mt, mtc, mp, mpc, mr, mrc⟩) 29) = V at *
  have b0 : ∀ e : Later V, e.x.cell? ⟨w.heap.size, 0, none⟩ = some (.slice mt a.tk mtc) := HB0.out.cellL 0 rfl
  have b1 : ∀ e : Later V, e.x.cell? ⟨w.heap.size, 1, none⟩ = some (.int .i64 (cn : Int)) := HB0.out.cellL 1 (by rw [← HCN.out]; rfl)
  have b6 : ∀ e : Later V, e.x.cell? ⟨w.heap.size, 6, none⟩ = some (.slice mp a.ps.k mpc) := HB0.out.cellL 6 rfl
  have b7 : ∀ e : Later V, e.x.cell? ⟨w.heap.size, 7, none⟩ = some (.slice mr a.rk mrc) := HB0.out.cellL 7 rfl
  have HRE : Hid (∀ e : Later V, e.x.rangeAt w.heap.size 2 [.int .i64 a.src.sch, str a.src.name, .int .u64 (a.src.node : Int), .int .u64 (a.src.svc : Int)]) := HB0.out.range 2 4 (by rfl)
  obtain ⟨e, he⟩ := Later.self V
  rw [he]
  clear he
  go_upto_region 4 with (go_at_call 24; (try rw [ttk]); refine (Ret.later (KT.out _)).mono ?_; rintro x _ ⟨rfl, e, rfl⟩)
  go_loopw [4, 5] (fun s4 s5 wr => ∃ i : Nat, s5 = .int .i64 (i : Int) ∧ s4 = str (catT a i) ∧ Hid (i ≤ a.tk) ∧ ∃ e : Later V, wr = e.x) (fun _ s5 _ => a.tk - (intOf s5).toNat)
  case atStart => exact ⟨0, rfl, by rw [HC00.out], (show Hid _ from Nat.zero_le _), e, rfl⟩
  case round =>
    clear e
    obtain ⟨i, rfl, rfl, hi, e, rfl⟩ := hrel
    have i0 : (0 : Int) ≤ (i : Int) := by omega
    by_cases hlt : i < a.tk
    · obtain ⟨bA, oA, hA, hbA, hcA⟩ := HL.out.t (by omega)
      have hA : mt = some ⟨bA, oA, none⟩ := hA
      subst hA
      have hidn := HTG.out i hlt
      obtain ⟨nid, hnid⟩ := Int.eq_ofNat_of_zero_le hidn.1
      have hnid : a.tg i = (nid : Int) := hnid
      have cA : ∀ e : Later V, e.x.cell? ⟨bA, oA + i, none⟩ = some (.int .i64 (nid : Int)) := fun e => by rw [← hnid]; exact (e.h.cell hbA (by simp)).trans (hcA i hlt)
      have t2 : IntKind.u64.wrap (nid : Int) = (nid : Int) := IntWalk.u64_in _ (by omega)
      have KI := hid (fun W => rHead_n 0 nid (by decide) (by omega) W)
      have tc : decide (i < a.tk) = true := by simp [hlt]
      have i1 : (i : Int) < (a.tk : Int) := by omega
      have lX := HCT.out i (by omega)
      have lH := headL_le 0 nid
      have HC : Hid (catT a (i + 1) = catT a i ++ headL 0 nid) := hid (by unfold catT; rw [T.cat, ← List.append_assoc, hnid]; rfl)
      have HLT := hid hlt
      clear hlt hcA hbA hidn hnid HPR HR00 HC00
      generalize catT a i = X at *
      generalize headL 0 nid = HH at *
      go_wp2_with (first | (go_at_call 24; (try rw [t2]); refine (Ret.later (KI.out _)).mono ?_; rintro x _ ⟨rfl, e, rfl⟩) | (refine wpList_cat (by rfl) _ _ _ _ rfl _ _ rfl rfl (by (try simp only [List.length_append, List.length_cons, List.length_nil]); omega) ?_))
      go_roundw
      case rel => exact ⟨i + 1, by go_num, (by (rw [HC.out]) <;> (first | exact str_app _ _ | rfl | simp)), (show Hid _ from HLT.out), e, rfl⟩
      case measure => have := HLT.out; simp [intOf]; omega
    · have hik : i = a.tk := by have := hi.out; omega
      subst hik
      have tc : decide (a.tk < a.tk) = false := by simp
      have lX := HCT.out a.tk (Nat.le_refl _)
      generalize catT a a.tk = X at *
      generalize (eidT a.src).bytes = EB at *
      generalize (plT a.ps).bytes = PB at *
      generalize headL 0 cn = CH at *
      go_upto_region 9 with (first | (go_at_call 24; (try rw [tcx]); refine (Ret.later (KX.out _)).mono ?_; rintro x _ ⟨rfl, e, rfl⟩) | (refine wpList_cat (by rfl) _ _ _ _ rfl _ _ rfl rfl (by (try simp only [List.length_append, List.length_cons, List.length_nil]); omega) ?_) | (refine wpList_mid (by rfl) 25 _ rfl _ 2 rfl _ _ (HRE.out _) Tryz.underlying25 rfl (by kernel_rfl) ?_) | (go_at_call 26; refine (KE.out _).mono ?_; rintro x w6 ⟨As, rfl, hb6, hl6⟩; have H6 := hid (e.h.trans hb6); have HI6 := hid (IsL.weak (R := anyQ) (fun _ _ _ => trivial) _ hl6); clear hb6 hl6) | (go_at_call 25; refine (KB.out As w6 HI6.out).mono ?_; rintro x w7 ⟨rfl, hb7⟩; obtain ⟨e, rfl⟩ : ∃ e : Later V, w7 = e.x := ⟨⟨w7, H6.out.trans hb7⟩, rfl⟩; clear hb7))
      obtain ⟨M, hMM⟩ : ∃ M, midB a = M := ⟨_, rfl⟩
      rw [hMM] at HPR HM0 HM1 lM
      clear hMM
      have HFINAL : Hid (∀ (e : Later V), True) := hid (fun _ => trivial)
      by_cases hp : a.ps.k = 0
      case pos =>
        have HMX := hid (HM0.out hp)
        have paa : decide ((0 : Int) < (a.ps.k : Int)) = false := decide_eq_false (by omega)
        have pab : ((0 : Int) < (a.ps.k : Int)) = False := eq_false (by omega)
        have pba : decide (0 < a.ps.k) = false := decide_eq_false (by omega)
        have pbb : (0 < a.ps.k) = False := eq_false (by omega)
        clear hp HM0 HM1
        go_upto_region 14 with (first | (go_at_call 24; refine (Ret.later (KT.out _)).mono ?_; rintro x _ ⟨rfl, e, rfl⟩) | (refine wpList_cat (by rfl) _ _ _ _ rfl _ _ rfl rfl (by (try simp only [List.length_append, List.length_cons, List.length_nil]); omega) ?_))
        have HPRX : Hid (preR a = X ++ CH ++ (0 :: EB) ++ headL 4 a.tk) := hid (by rw [HPR.out, HMX.out]; simp)
        go_loopw [4, 7] (fun s4 s7 wr => ∃ i : Nat, s7 = .int .i64 (i : Int) ∧ s4 = str (catR15 a i) ∧ Hid (i ≤ a.rk) ∧ ∃ e : Later V, wr = e.x) (fun _ s7 _ => a.rk - (intOf s7).toNat)
        case atStart => exact ⟨0, rfl, (by (rw [HR00.out, HPRX.out]) <;> (first | rfl | simp)), (show Hid _ from Nat.zero_le _), e, rfl⟩
        case round =>
          clear e
          obtain ⟨i, rfl, rfl, hi, e, rfl⟩ := hrel
          have i0 : (0 : Int) ≤ (i : Int) := by omega
          by_cases hlt : i < a.rk
          · obtain ⟨bR, oR, Ai, ci, hR, hbR, qR, hkR, hPRR⟩ := HL.out.r.at (Mod.refl _ V) hlt
            have hR : mr = some ⟨bR, oR, none⟩ := hR
            subst hR
            have cR : ∀ e : Later V, e.x.cell? ⟨bR, oR + i, none⟩ = some (.slice Ai (a.rs i).k ci) := fun e => cellL qR e
            have KQ := hid (fun e : Later V => r15list_any (a.rs i) (by have := (resB_iff.1 (HRC.out i hlt)).1; omega) (HWR.out i hlt) (resB_iff.1 (HRC.out i hlt)).2 (fun j hj => by have := pl_size_mem hj; have := rs_size_mem (f := a.rs) hlt; have := HSR.out; omega) Ai ci e.x (hPRR.ext e.h))
            have tc : decide (i < a.rk) = true := by simp [hlt]
            have i1 : (i : Int) < (a.rk : Int) := by omega
            have lX := HCR.out i (by omega)
            have lB : (plT (a.rs i)).bytes.length ≤ 1000000 := by have := T.bytes_le (plT (a.rs i)); have := rs_size_mem (f := a.rs) hlt; have := HSR.out; omega
            have HC : Hid (catR15 a (i + 1) = catR15 a i ++ (plT (a.rs i)).bytes) := hid (by unfold catR15; rw [T.cat, ← List.append_assoc])
            have HLT := hid hlt
            clear hlt hPRR hkR hbR qR HPRX HPR HR00
            generalize catR15 a i = Y at *
            generalize (plT (a.rs i)).bytes = BB at *
            go_wp2_with (first | (go_at_call 27; refine (Ret.later (KQ.out _)).mono ?_; rintro x _ ⟨rfl, e, rfl⟩) | (refine wpList_cat (by rfl) _ _ _ _ rfl _ _ rfl rfl (by (try simp only [List.length_append, List.length_cons, List.length_nil]); omega) ?_))
            go_roundw
            case rel => exact ⟨i + 1, by go_num, (by (rw [HC.out]) <;> (first | exact str_app _ _ | rfl | simp)), (show Hid _ from HLT.out), e, rfl⟩
            case measure => have := HLT.out; simp [intOf]; omega
          · have hik : i = a.rk := by have := hi.out; omega
            subst hik
            have tc : decide (a.rk < a.rk) = false := by simp
            generalize catR15 a a.rk = Y at *
            go_wp2_with fail
            go_ret
            exact Ret.mk rfl (HE.out.trans e.h)
      have HMX := hid (HM1.out hp)
      have KP2 := hid (fun e : Later V => KP.out e.x e.h)
      have paa : decide ((0 : Int) < (a.ps.k : Int)) = true := decide_eq_true (by omega)
      have pab : ((0 : Int) < (a.ps.k : Int)) = True := eq_true (by omega)
      have pba : decide (0 < a.ps.k) = true := decide_eq_true (by omega)
      have pbb : (0 < a.ps.k) = True := eq_true (by omega)
      clear hp HM0 HM1
      go_upto_region 14 with (first | (go_at_call 27; refine (Ret.later (KP2.out _)).mono ?_; rintro x _ ⟨rfl, e, rfl⟩) | (go_at_call 24; refine (Ret.later (KT.out _)).mono ?_; rintro x _ ⟨rfl, e, rfl⟩) | (refine wpList_cat (by rfl) _ _ _ _ rfl _ _ rfl rfl (by (try simp only [List.length_append, List.length_cons, List.length_nil]); omega) ?_))
      have HPRX : Hid (preR a = X ++ CH ++ (1 :: EB ++ PB) ++ headL 4 a.tk) := hid (by rw [HPR.out, HMX.out]; simp)
      go_loopw [4, 7] (fun s4 s7 wr => ∃ i : Nat, s7 = .int .i64 (i : Int) ∧ s4 = str (catR15 a i) ∧ Hid (i ≤ a.rk) ∧ ∃ e : Later V, wr = e.x) (fun _ s7 _ => a.rk - (intOf s7).toNat)
      case atStart => exact ⟨0, rfl, (by (rw [HR00.out, HPRX.out]) <;> (first | rfl | simp)), (show Hid _ from Nat.zero_le _), e, rfl⟩
      case round =>
        clear e
        obtain ⟨i, rfl, rfl, hi, e, rfl⟩ := hrel
        have i0 : (0 : Int) ≤ (i : Int) := by omega
        by_cases hlt : i < a.rk
        · obtain ⟨bR, oR, Ai, ci, hR, hbR, qR, hkR, hPRR⟩ := HL.out.r.at (Mod.refl _ V) hlt
          have hR : mr = some ⟨bR, oR, none⟩ := hR
          subst hR
          have cR : ∀ e : Later V, e.x.cell? ⟨bR, oR + i, none⟩ = some (.slice Ai (a.rs i).k ci) := fun e => cellL qR e
          have KQ := hid (fun e : Later V => r15list_any (a.rs i) (by have := (resB_iff.1 (HRC.out i hlt)).1; omega) (HWR.out i hlt) (resB_iff.1 (HRC.out i hlt)).2 (fun j hj => by have := pl_size_mem hj; have := rs_size_mem (f := a.rs) hlt; have := HSR.out; omega) Ai ci e.x (hPRR.ext e.h))
          have tc : decide (i < a.rk) = true := by simp [hlt]
          have i1 : (i : Int) < (a.rk : Int) := by omega
          have lX := HCR.out i (by omega)
          have lB : (plT (a.rs i)).bytes.length ≤ 1000000 := by have := T.bytes_le (plT (a.rs i)); have := rs_size_mem (f := a.rs) hlt; have := HSR.out; omega
          have HC : Hid (catR15 a (i + 1) = catR15 a i ++ (plT (a.rs i)).bytes) := hid (by unfold catR15; rw [T.cat, ← List.append_assoc])
          have HLT := hid hlt
          clear hlt hPRR hkR hbR qR HPRX HPR HR00
          generalize catR15 a i = Y at *
          generalize (plT (a.rs i)).bytes = BB at *
          go_wp2_with (first | (go_at_call 27; refine (Ret.later (KQ.out _)).mono ?_; rintro x _ ⟨rfl, e, rfl⟩) | (refine wpList_cat (by rfl) _ _ _ _ rfl _ _ rfl rfl (by (try simp only [List.length_append, List.length_cons, List.length_nil]); omega) ?_))
          go_roundw
          case rel => exact ⟨i + 1, by go_num, (by (rw [HC.out]) <;> (first | exact str_app _ _ | rfl | simp)), (show Hid _ from HLT.out), e, rfl⟩
          case measure => have := HLT.out; simp [intOf]; omega
        · have hik : i = a.rk := by have := hi.out; omega
          subst hik
          have tc : decide (a.rk < a.rk) = false := by simp
          generalize catR15 a a.rk = Y at *
          go_wp2_with fail
          go_ret
          exact Ret.mk rfl (HE.out.trans e.h)
end Go.Proofs.YtblfmokklfhklaaGreatDoor


namespace Go.Proofs.YtblfmokklfhklaaGreatDoor
open Go.RowKit
set_option linter.unusedVariables false
set_option linter.unusedSimpArgs false

theorem av_length {a : AV} (hw : a.wf) (hsm : a.small) (hs : a.shaped = true) : a.bytes.length ≤ 6000000 := by
  have h1 := catL_le (L := a.items) (B := 1000000) (fun t ht => by have := T.bytes_le t; have := (AV.items_all hw hsm hs t ht).2.2; omega) a.items.length (Nat.le_refl _)
  have h2 : a.bytes = catL a.items a.items.length := by unfold AV.bytes catL; rw [List.take_length]
  have h3 := AV.items_length a
  rw [h2]; omega
set_option maxRecDepth 20000 in
set_option maxHeartbeats 4000000 in
theorem r15Right_any (a : AV) (hw : a.wf) (hsm : a.shaped = true → a.small) (m : AA) (w : World) (h : AsL w anyQ a m) : Calls Tryz.prog 7 #[asbV a m] w (Ret (.bool a.right) w) := by
  have HE := hid ((Mod.refl [] w).alloc (.cells (asbC a m) 29))
  have HB0 := hid (Blk.new w 29 (asbC a m))
  have HL := hid (h.ext HE.out)
  have HWF := hid hw
  have KS : Hid (∀ W, Ext (w.alloc (.cells (asbC a m) 29)) W → Calls Tryz.prog 17 #[asbV a m] W (Ret (.bool a.shaped) W)) := hid (fun W hW => r15Shaped_any a HWF.out m W (HL.out.ext hW))
  have KB : Hid (a.shaped = true → ∀ W, Ext (w.alloc (.cells (asbC a m) 29)) W → Calls Tryz.prog 11 #[asbV a m] W (Ret (str a.bytes) W)) := hid (fun hs W hW => r15Bytes_any a HWF.out (hsm hs) hs m W (HL.out.ext hW))
  have HR : Hid (a.right = (a.shaped && decide (a.bytes.length ≤ 4000))) := rfl
  have HBL : Hid (a.shaped = true → a.bytes.length ≤ 6000000) := hid (fun hs => av_length HWF.out (hsm hs) hs)
  clear hw hsm h
  cases hs : a.shaped with
  | false =>
    rw [hs] at KS
    have HX : Hid (a.right = false) := hid (by rw [HR.out, hs]; rfl)
    clear hs KB HBL
    go_enter Tryz.func7, Tryz.ntmps7
    go_upto_region 1 with fail
    generalize w.alloc (.cells (asbC a m) 29) = V at *
    obtain ⟨e, he⟩ := Later.self V
    rw [he]
    clear he
    have tk1 : True := trivial
    have tk2 : True := trivial
    go_wp2_with (first | (clear tk1; refine wpList_row (by rfl) 29 _ rfl _ rfl (HB0.out.later _) Tryz.underlying29 rfl (by kernel_rfl) ?_) | (go_at_call 17; refine (Ret.later (KS.out _ (Later.h _))).mono ?_; rintro x _ ⟨rfl, e, rfl⟩))
    go_ret
    exact Ret.mk (by rw [HX.out]; rfl) (HE.out.trans e.h)
  | true =>
    rw [hs] at KS
    have KB := hid (KB.out hs)
    have hbl := HBL.out hs
    have HX : Hid (a.right = decide (a.bytes.length ≤ 4000)) := hid (by rw [HR.out, hs]; rfl)
    clear hs HBL HR
    generalize a.bytes = BB at *
    go_enter Tryz.func7, Tryz.ntmps7
    go_upto_region 1 with fail
    generalize w.alloc (.cells (asbC a m) 29) = V at *
    obtain ⟨e, he⟩ := Later.self V
    rw [he]
    clear he
    have tk1 : True := trivial
    have tk2 : True := trivial
    go_wp2_with (first | (clear tk1; refine wpList_row (by rfl) 29 _ rfl _ rfl (HB0.out.later _) Tryz.underlying29 rfl (by kernel_rfl) ?_) | (go_at_call 17; refine (Ret.later (KS.out _ (Later.h _))).mono ?_; rintro x _ ⟨rfl, e, rfl⟩) | (clear tk2; refine wpList_row (by rfl) 29 _ rfl _ rfl (HB0.out.later _) Tryz.underlying29 rfl (by kernel_rfl) ?_) | (go_at_call 11; refine (Ret.later (KB.out _ (Later.h _))).mono ?_; rintro x _ ⟨rfl, e, rfl⟩))
    go_ret
    refine Ret.mk ?_ (HE.out.trans e.h)
    rw [HX.out]
    simp
    try omega
end Go.Proofs.YtblfmokklfhklaaGreatDoor


namespace Go.Proofs.YtblfmokklfhklaaGreatDoor
open Go.RowKit
set_option linter.unusedVariables false
set_option linter.unusedSimpArgs false

theorem numT_facts (n : Nat) : (numT n).size ≤ 100000 ∧ (numT n).right 8 = true ∧ (numT n).bytes = headL 0 n := by
  refine ⟨by simp [numT, T.size, T.sum], by simp [numT, T.right, T.node, T.all], by simp [numT, T.bytes]⟩
def mayB (l c : Int) : Bool := decide (1 ≤ l) && decide (l ≤ 255) && decide (0 ≤ c) && decide (c ≤ 255)
def pairT2 (a b : Nat) : T := T.mk 4 0 [] false 2 fun i => if i = 0 then numT a else numT b
theorem pairT2_facts (a b : Nat) (ha : a < 18446744073709551616) (hb : b < 18446744073709551616) : (pairT2 a b).ok ∧ (pairT2 a b).size ≤ 100000 ∧ (pairT2 a b).right 8 = true ∧ (pairT2 a b).bytes = 130 :: (headL 0 a ++ headL 0 b) := by
  refine ⟨?_, by simp [pairT2, numT, T.size, T.sum], by simp [pairT2, numT, T.right, T.node, T.all], ?_⟩
  · unfold pairT2 T.ok
    exact ⟨by omega, by omega, by simp, by omega, fun i hi => by dsimp only; split; exact num_ok ha; exact num_ok hb⟩
  · have : headL 4 2 = [130] := by decide
    simp [pairT2, numT, T.bytes, T.cat, this]
end Go.Proofs.YtblfmokklfhklaaGreatDoor


namespace Go.Proofs.YtblfmokklfhklaaGreatDoor
open Go.RowKit
set_option linter.unusedVariables false
set_option linter.unusedSimpArgs false

end Go.Proofs.YtblfmokklfhklaaGreatDoor


namespace Go.Proofs.YtblfmokklfhklaaGreatDoor

/-- A reader's state: its bytes, its place, where what failed began, why, where what is read now began. -/
structure RS where
  s : List UInt8
  at_ : Nat
  bad : Int
  e : Int
  fr : Nat

namespace RS
def ok (r : RS) : Prop := r.at_ ≤ r.s.length ∧ r.fr ≤ r.s.length ∧ r.s.length < 4611686018427387904
def fail (r : RS) (e : Int) : RS := if r.e = 0 then { r with at_ := r.fr, bad := r.fr, e := e } else r
def Fail (r : RS) (e : Int) : RS := if r.e = 0 then { r with bad := r.at_, e := e } else r
def head (r : RS) : RS × Nat × Nat × Bool :=
  if r.e = 0 then
    match readH (r.s.drop r.at_) with
    | none => (r.fail 2, 0, 0, false)
    | some (sz, m, n, o) => ({ r with at_ := r.at_ + sz }, m, n, o)
  else (r, 0, 0, false)
def Head (r : RS) : RS × Nat × Nat × Bool := head { r with fr := r.at_ }
def Uint (r : RS) : RS × Nat := if r.Head.1.e = 0 ∧ r.Head.2.1 ≠ 0 then (r.Head.1.fail 2, 0) else (r.Head.1, r.Head.2.2.1)
def str (r : RS) (want : Nat) (most : Int) : RS × List UInt8 :=
  if r.Head.1.e = 0 then
    if r.Head.2.1 ≠ want ∨ r.Head.2.2.2 = true ∨ r.Head.1.s.length - r.Head.1.at_ < r.Head.2.2.1 then (r.Head.1.fail 2, [])
    else if most < 0 ∨ most < r.Head.2.2.1 then (r.Head.1.fail 4, [])
    else ({ r.Head.1 with at_ := r.Head.1.at_ + r.Head.2.2.1 }, (r.Head.1.s.drop r.Head.1.at_).take r.Head.2.2.1)
  else (r.Head.1, [])
def Array (r : RS) : RS × Int :=
  if r.Head.1.e = 0 then
    if r.Head.2.1 ≠ 4 then (r.Head.1.fail 2, 0)
    else if r.Head.2.2.2 = true then (r.Head.1, -1)
    else if 1000 < r.Head.2.2.1 then (r.Head.1.fail 4, 0)
    else (r.Head.1, r.Head.2.2.1)
  else (r.Head.1, 0)
def done (r : RS) : Bool := decide (r.e = 0) && decide (r.at_ = r.s.length)
def new (s : List UInt8) : RS := ⟨s, 0, -1, 0, 0⟩

theorem fail_s (r : RS) (e : Int) : (r.fail e).s = r.s := by unfold fail; split <;> rfl
theorem head_s (r : RS) : r.head.1.s = r.s := by
  unfold head
  split
  · cases readH (r.s.drop r.at_) with
    | none => exact fail_s _ _
    | some x => rfl
  · rfl
theorem Head_s (r : RS) : r.Head.1.s = r.s := by unfold Head; rw [head_s]
theorem fail_ok {r : RS} (h : r.ok) (e : Int) : (r.fail e).ok := by
  unfold fail
  split
  · exact ⟨h.2.1, h.2.1, h.2.2⟩
  · exact h
theorem head_ok {r : RS} (h : r.ok) : r.head.1.ok := by
  unfold head
  split
  · cases hr : readH (r.s.drop r.at_) with
    | none => exact fail_ok h _
    | some x =>
      obtain ⟨sz, m, n, o⟩ := x
      have := (readH_some hr).le
      rw [List.length_drop] at this
      obtain ⟨a, b, c⟩ := h
      exact ⟨by show r.at_ + sz ≤ r.s.length; omega, b, c⟩
  · exact h
theorem Head_ok {r : RS} (h : r.ok) : r.Head.1.ok := head_ok ⟨h.1, h.1, h.2.2⟩
theorem Head_n {r : RS} : r.Head.2.2.1 < 18446744073709551616 ∧ r.Head.2.1 ≤ 7 := by
  unfold Head head
  split
  · cases hr : readH _ with
    | none => exact ⟨(by show (0 : Nat) < 18446744073709551616; decide), Nat.zero_le _⟩
    | some x =>
      obtain ⟨sz, m, n, o⟩ := x
      exact ⟨(readH_some hr).n64, (readH_some hr).m7⟩
  · exact ⟨(by show (0 : Nat) < 18446744073709551616; decide), Nat.zero_le _⟩
theorem Uint_ok {r : RS} (h : r.ok) : r.Uint.1.ok := by
  unfold Uint; split
  · exact fail_ok (Head_ok h) _
  · exact Head_ok h
theorem str_ok {r : RS} (h : r.ok) (want : Nat) (most : Int) : (r.str want most).1.ok := by
  have h1 := Head_ok h
  unfold str; split
  · split
    · exact fail_ok h1 _
    · split
      · exact fail_ok h1 _
      · rename_i h2 h3
        obtain ⟨a, b, c⟩ := h1
        refine ⟨?_, b, c⟩
        show r.Head.1.at_ + r.Head.2.2.1 ≤ r.Head.1.s.length
        simp only [not_or, Nat.not_lt] at h2
        omega
  · exact h1
theorem Array_ok {r : RS} (h : r.ok) : r.Array.1.ok := by
  have h1 := Head_ok h
  unfold Array; split
  · split
    · exact fail_ok h1 _
    · split
      · exact h1
      · split
        · exact fail_ok h1 _
        · exact h1
  · exact h1
theorem Fail_ok {r : RS} (h : r.ok) (e : Int) : (r.Fail e).ok := by
  unfold Fail; split
  · exact ⟨h.1, h.2.1, h.2.2⟩
  · exact h
theorem new_ok {s : List UInt8} (h : s.length < 4611686018427387904) : (new s).ok := ⟨Nat.zero_le _, Nat.zero_le _, h⟩
/-- The reference's fail, and its calls. -/
def rf (r : RS) (e : Int) : RS := { r with bad := (r.at_ : Int), e := e }
abbrev Told : Type := Nat × Nat × Bool × List UInt8 × Int
def zero : Told := (0, 0, false, [], 0)
def nx (r : RS) (sz : Nat) : RS := { r with at_ := r.at_ + sz, bad := -1, e := 0 }
def rdo (r : RS) (k : Nat) (N : Int) : RS × Told :=
  if r.e = 0 then
    if k = 5 then (r.rf 9, zero)
    else match readH (r.s.drop r.at_) with
    | none => (r.rf 2, zero)
    | some (sz, m, n, o) =>
      if k = 0 then (r.nx sz, (m, n, o, [], 0))
      else if k = 1 then (if m = 0 then (r.nx sz, (0, n, false, [], 0)) else (r.rf 2, zero))
      else if k = 4 then
        if m = 4 then (if o = true then (r.nx sz, (0, 0, false, [], -1)) else if 1000 < n then (r.rf 4, zero) else (r.nx sz, (0, 0, false, [], (n : Int)))) else (r.rf 2, zero)
      else if m ≠ k ∨ o = true ∨ r.s.length - (r.at_ + sz) < n then (r.rf 2, zero)
      else if N < 0 ∨ N < n then (r.rf 4, zero)
      else (r.nx (sz + n), (0, 0, false, (r.s.drop (r.at_ + sz)).take n, 0))
  else (r, zero)
def call (r : RS) (k : Nat) (N : Int) : RS × Told :=
  if k = 0 then (r.Head.1, (r.Head.2.1, r.Head.2.2.1, r.Head.2.2.2, [], 0))
  else if k = 1 then (r.Uint.1, (0, r.Uint.2, false, [], 0))
  else if k = 2 then ((r.str 2 N).1, (0, 0, false, (r.str 2 N).2, 0))
  else if k = 3 then ((r.str 3 N).1, (0, 0, false, (r.str 3 N).2, 0))
  else if k = 4 then (r.Array.1, (0, 0, false, [], r.Array.2))
  else (r.Fail 9, zero)
/-- Two readers that are alike but for where what is read now began. -/
def sim (a b : RS) : Prop := a.s = b.s ∧ a.at_ = b.at_ ∧ a.bad = b.bad ∧ a.e = b.e
def fresh (r : RS) : Prop := r.e = 0 → r.bad = -1

theorem Head_off {r : RS} (h : r.e ≠ 0) : r.Head = ({ r with fr := r.at_ }, 0, 0, false) := by
  unfold Head head; rw [if_neg (by simpa using h)]
theorem Head_none {r : RS} (h : r.e = 0) (hr : readH (r.s.drop r.at_) = none) : r.Head = (⟨r.s, r.at_, (r.at_ : Int), 2, r.at_⟩, 0, 0, false) := by
  unfold Head head; dsimp only; rw [if_pos h, hr]; unfold fail; dsimp only; rw [if_pos h]
theorem Head_some {r : RS} (h : r.e = 0) {sz m n : Nat} {o : Bool} (hr : readH (r.s.drop r.at_) = some (sz, m, n, o)) : r.Head = (⟨r.s, r.at_ + sz, r.bad, 0, r.at_⟩, m, n, o) := by
  unfold Head head; dsimp only; rw [if_pos h, hr]; rw [h]
theorem call_sim {r : RS} (hf : r.fresh) {k : Nat} (hk : k < 6) (N : Int) : (r.rdo k N).2 = (r.call k N).2 ∧ sim (r.rdo k N).1 (r.call k N).1 := by
  by_cases h : r.e = 0
  case neg =>
    have e := Head_off h
    have e1 : r.rdo k N = (r, zero) := by unfold rdo; rw [if_neg h]
    rw [e1]
    have : k = 0 ∨ k = 1 ∨ k = 2 ∨ k = 3 ∨ k = 4 ∨ k = 5 := by omega
    rcases this with rfl | rfl | rfl | rfl | rfl | rfl <;> simp [call, Uint, str, Array, Fail, e, h, sim, zero]
  have hb := hf h
  have h5 : k = 0 ∨ k = 1 ∨ k = 2 ∨ k = 3 ∨ k = 4 ∨ k = 5 := by omega
  cases hr : readH (r.s.drop r.at_) with
  | none =>
    have e := Head_none h hr
    rcases h5 with rfl | rfl | rfl | rfl | rfl | rfl <;> simp [rdo, call, Uint, str, Array, Fail, e, h, hr, sim, rf, zero]
  | some x =>
    obtain ⟨sz, m, n, o⟩ := x
    have e := Head_some h hr
    rcases h5 with rfl | rfl | rfl | rfl | rfl | rfl
    · simp [rdo, call, e, h, hr, sim, nx, hb]
    · by_cases hm : m = 0 <;> simp [rdo, call, Uint, e, h, hr, sim, nx, hb, hm, rf, fail, zero]
    · by_cases c1 : m ≠ 2 ∨ o = true ∨ r.s.length - (r.at_ + sz) < n
      · simp only [rdo, call, str, e, h, hr, if_true, c1]; simp [sim, rf, fail, zero]
      · by_cases c2 : N < 0 ∨ N < (n : Int)
        · simp only [rdo, call, str, e, h, hr, if_true, c1, c2, if_false]; simp [sim, rf, fail, zero]
        · simp only [rdo, call, str, e, h, hr, if_true, c1, c2, if_false]; simp [sim, nx, hb, Nat.add_assoc]
    · by_cases c1 : m ≠ 3 ∨ o = true ∨ r.s.length - (r.at_ + sz) < n
      · simp only [rdo, call, str, e, h, hr, if_true, c1]; simp [sim, rf, fail, zero]
      · by_cases c2 : N < 0 ∨ N < (n : Int)
        · simp only [rdo, call, str, e, h, hr, if_true, c1, c2, if_false]; simp [sim, rf, fail, zero]
        · simp only [rdo, call, str, e, h, hr, if_true, c1, c2, if_false]; simp [sim, nx, hb, Nat.add_assoc]
    · by_cases hm : m = 4
      · cases o
        · by_cases hn : 1000 < n <;> simp [rdo, call, Array, e, h, hr, sim, nx, hb, hm, rf, fail, zero, hn]
        · simp [rdo, call, Array, e, h, hr, sim, nx, hb, hm]
      · simp [rdo, call, Array, e, h, hr, sim, hm, rf, fail, zero]
    · simp [rdo, call, Fail, h, sim, rf, zero]
end RS
end Go.Proofs.YtblfmokklfhklaaGreatDoor


namespace Go.Proofs.YtblfmokklfhklaaGreatDoor
open Go.RowKit
set_option linter.unusedVariables false
set_option linter.unusedSimpArgs false

def RS.cells (r : RS) : _root_.Array Value := rdr r.s r.at_ r.bad r.e r.fr
/-- The reader behind a pointer. -/
def RdAt (w : World) (b : Nat) (r : RS) : Prop := Blk w b 128 r.cells
section
variable {w : World} {b : Nat} {r : RS}
theorem RdAt.s (h : RdAt w b r) : w.cell? ⟨b, 0, none⟩ = some (str r.s) := Blk.cell h 0
theorem RdAt.at_ (h : RdAt w b r) : w.cell? ⟨b, 1, none⟩ = some (.int .i64 r.at_) := Blk.cell h 1
theorem RdAt.bad (h : RdAt w b r) : w.cell? ⟨b, 2, none⟩ = some (.int .i64 r.bad) := Blk.cell h 2
theorem RdAt.e (h : RdAt w b r) : w.cell? ⟨b, 3, none⟩ = some (.int .i64 r.e) := Blk.cell h 3
theorem RdAt.fr (h : RdAt w b r) : w.cell? ⟨b, 4, none⟩ = some (.int .i64 r.fr) := Blk.cell h 4
end

theorem beq0_false {x : Int} (h : x ≠ 0) : (x == 0) = false := by simp [h]
set_option maxHeartbeats 400000 in
theorem fail_bad (b : Nat) (r : RS) (e : Int) (h0 : Hid (r.e ≠ 0)) (w : World) (h : RdAt w b r) : Calls Tryz.prog 93 #[.pointer (some ⟨b, 0, none⟩), .int .i64 e] w fun x w' => x = .returned (.tuple #[]) ∧ w = w' := by
  have c3 := h.e
  have t := beq0_false h0.out
  go_enter Tryz.func93, Tryz.ntmps93
  go_wp2
  go_end0
  exact ⟨rfl, rfl⟩
set_option maxHeartbeats 400000 in
theorem fail_good (b : Nat) (r : RS) (e : Int) (h0 : Hid (r.e = 0)) (w : World) (h : RdAt w b r) : Calls Tryz.prog 93 #[.pointer (some ⟨b, 0, none⟩), .int .i64 e] w
    fun x w' => x = .returned (.tuple #[]) ∧ w' = ((w.setCell ⟨b, 1, none⟩ (.int .i64 r.fr)).setCell ⟨b, 2, none⟩ (.int .i64 r.fr)).setCell ⟨b, 3, none⟩ (.int .i64 e) := by
  have c1 := h.at_
  have c2 := h.bad
  have c3 : w.cell? ⟨b, 3, none⟩ = some (.int .i64 0) := by have := h.e; rw [h0.out] at this; exact this
  have c4 := h.fr
  have f1 := Blk.frozen h 1
  have f2 := Blk.frozen h 2
  have f3 := Blk.frozen h 3
  go_enter Tryz.func93, Tryz.ntmps93
  go_wp2
  go_end0
  exact ⟨rfl, rfl⟩
theorem fail_any (b : Nat) (r : RS) (e : Int) (w : World) (h : RdAt w b r) : Calls Tryz.prog 93 #[.pointer (some ⟨b, 0, none⟩), .int .i64 e] w (RetS [b] (.tuple #[]) (fun w' => RdAt w' b (r.fail e)) w) := by
  by_cases h0 : r.e = 0
  · refine (fail_good b r e h0 w h).mono ?_
    rintro x w' ⟨rfl, rfl⟩
    refine RetS.mk rfl ((((Mod.refl _ _).setCell (.inl (by simp)) _).setCell (.inl (by simp)) _).setCell (.inl (by simp)) _) ?_
    unfold RS.fail
    rw [if_pos h0]
    exact ((Blk.set_ h 1 _).set_ 2 _).set_ 3 _
  · refine (fail_bad b r e h0 w h).mono ?_
    rintro x w' ⟨rfl, rfl⟩
    refine RetS.mk rfl (Mod.refl _ _) ?_
    unfold RS.fail
    rw [if_neg h0]
    exact h

/-! The number of bytes. -/
theorem or_byte_small (n c : Nat) (hc : c < 256) : (n * 256) ||| c = n * 256 + c := by
  rw [show n * 256 = n <<< 8 from by simp [Nat.shiftLeft_eq], ← Nat.shiftLeft_add_eq_or_of_lt (by simpa using hc)]
theorem join_val {n : Nat} (c : UInt8) (h : n < 72057594037927936) : Value.int .u64 (bits .or .u64 (IntKind.u64.wrap ((n : Int) * 256)) (IntKind.u64.wrap (c.toNat : Int))) = .int .u64 ((n * 256 + c.toNat : Nat) : Int) := by
  have hc := c.toNat_lt
  rw [IntWalk.u64_in _ (by omega), IntWalk.u64_in _ (by omega)]
  have := u64_or_nat (n * 256) c.toNat (by omega) (by omega)
  rw [or_byte_small _ _ (by omega)] at this
  rw [← this]; simp
theorem join_step {l : List UInt8} {j q : Nat} {x : UInt8} (hj : j < l.length) (hl : l.length ≤ 8) (hx : l[j] = x) (hq : fromBE (l.take j) = q) :
    Value.int .u64 (bits .or .u64 (IntKind.u64.wrap ((q : Int) * 256)) (IntKind.u64.wrap (x.toNat : Int))) = .int .u64 ((fromBE (l.take (j + 1)) : Nat) : Int) := by
  have hlt := fromBE_lt (l.take j)
  have hle : (l.take j).length ≤ 7 := by rw [List.length_take]; omega
  have hp : 2 ^ (8 * (l.take j).length) ≤ 2 ^ (8 * 7) := Nat.pow_le_pow_right (by omega) (by omega)
  rw [join_val x (by rw [← hq]; exact Nat.lt_of_lt_of_le hlt (by simpa using hp)), List.take_succ_eq_append_getElem hj, fromBE_snoc, hq, hx]
theorem cell_bytesRow (w : World) (l : List UInt8) (cap t : Nat) (fz : Nat × Nat) (j : Nat) (h : j < l.length) :
    (w.alloc (.cells (bytesRow ⟨l.toArray⟩ cap) t fz)).cell? ⟨w.heap.size, j, none⟩ = some (.int .u8 (l[j].toNat : Int)) := by
  rw [World.cell?_alloc_mark]
  simp only [bytesRow]
  rw [Array.getElem?_append_left (by simpa using h)]
  simp [h]
set_option maxHeartbeats 400000 in
theorem join_n (l : List UInt8) (hl : l.length ≤ 8) (w : World) : Calls Tryz.prog 103 #[str l] w (Ret (.int .u64 (fromBE l)) w) := by
  have hconv := fun (w : World) (s : ByteArray) => run_bytes_of_string (P := Tryz.prog) w 9 82 5 s Tryz.underlying9 Tryz.underlying82 Tryz.underlying5
  go_enter Tryz.func103, Tryz.ntmps103
  go_wp2
  have hext : Ext w ((w.alloc (Obj.cells (bytesRow { data := l.toArray } (grownCap w l.length 0 5)) 5 ((bytesRow { data := l.toArray } (grownCap w l.length 0 5)).size, (bytesRow { data := l.toArray } (grownCap w l.length 0 5)).size + 1))).drew) :=
    ((Mod.refl _ _).alloc _).drew
  have hcell : ∀ j (h : j < l.length), ((w.alloc (Obj.cells (bytesRow { data := l.toArray } (grownCap w l.length 0 5)) 5 ((bytesRow { data := l.toArray } (grownCap w l.length 0 5)).size, (bytesRow { data := l.toArray } (grownCap w l.length 0 5)).size + 1))).drew).cell? ⟨w.heap.size, j, none⟩ = some (.int .u8 (l[j].toNat : Int)) := by
    intro j h
    rw [World.cell?_drew]
    exact cell_bytesRow w l _ _ _ j h
  generalize hW : World.drew (World.alloc w _) = W at *
  have HW := hid hW; clear hW
  have HC := hid hcell; clear hcell
  go_loop [3, 9] (fun n i => ∃ j : Nat, j ≤ l.length ∧ i = .int .i64 j ∧ n = .int .u64 ((fromBE (l.take j) : Nat) : Int)) (fun _ i => l.length - (intOf i).toNat)
  case atStart => exact ⟨0, Nat.zero_le _, rfl, rfl⟩
  case round =>
    obtain ⟨j, hj, rfl, rfl⟩ := hrel
    by_cases hlt : j < l.length
    · have hc := HC.out j hlt
      generalize hx : l[j] = x at *
      generalize hq : fromBE (l.take j) = q at *
      have HX := hid hx; clear hx
      have HQ := hid hq; clear hq
      go_wp2
      go_round
      case rel => exact ⟨j + 1, by omega, by go_num, join_step hlt hl HX.out HQ.out⟩
      case measure => simp [intOf]; omega
    · obtain rfl : j = l.length := by omega
      have ht : l.take l.length = l := List.take_length
      rw [ht]
      go_wp2
      go_ret
      exact ⟨rfl, hext⟩
theorem RdAt.froz {w : World} {b : Nat} {r : RS} (h : RdAt w b r) (i : Nat) : w.frozen? ⟨b, i, none⟩ = false := Blk.frozen h i
theorem extract_str (l : List UInt8) (a b : Nat) : Value.string ((⟨l.toArray⟩ : ByteArray).extract a b) = str ((l.drop a).take (b - a)) := by
  rw [Go.Lib.extract_eq]
theorem extract_rest (l : List UInt8) (a : Nat) : Value.string ((⟨l.toArray⟩ : ByteArray).extract a l.length) = str (l.drop a) := by
  rw [extract_str, List.take_of_length_le]; simp

set_option maxHeartbeats 400000 in
theorem head_off (b : Nat) (r : RS) (h0 : Hid (r.e ≠ 0)) (w : World) (h : RdAt w b r) : Calls Tryz.prog 90 #[.pointer (some ⟨b, 0, none⟩)] w
    (RetS [b] (.tuple #[.int .i64 0, .int .u64 0, .bool false]) (fun w' => RdAt w' b r) w) := by
  have c3 := h.e
  have t : (r.e != 0) = true := by simp [h0.out]
  go_enter Tryz.func90, Tryz.ntmps90
  go_wp2
  go_ret3
  exact RetS.mk rfl (Mod.refl _ _) h
set_option maxHeartbeats 400000 in
theorem head_end (b : Nat) (r : RS) (hok : r.ok) (h0 : Hid (r.e = 0)) (hend : Hid (r.s.drop r.at_ = [])) (w : World) (h : RdAt w b r) : Calls Tryz.prog 90 #[.pointer (some ⟨b, 0, none⟩)] w
    (RetS [b] (.tuple #[.int .i64 0, .int .u64 0, .bool false]) (fun w' => RdAt w' b (r.fail 2)) w) := by
  have c0 := h.s
  have c1 := h.at_
  have c3 : w.cell? ⟨b, 3, none⟩ = some (.int .i64 0) := by have := h.e; rw [h0.out] at this; exact this
  have b1 := hok.1
  have hx := extract_rest r.s r.at_
  have hx2 := hend.out
  go_enter Tryz.func90, Tryz.ntmps90
  go_upto_region 3 with fail
  go_quiet (fail)
  go_wp2_with (go_at_call 93; refine (fail_any b r 2 _ (Blk.drewN h nq)).mono ?_; rintro x w' ⟨rfl, hm, hr⟩)
  go_ret3
  exact RetS.mk rfl (((Mod.refl _ _).drewN nq).trans hm) hr
end Go.Proofs.YtblfmokklfhklaaGreatDoor


namespace Go.Proofs.YtblfmokklfhklaaGreatDoor
open Go.RowKit
set_option linter.unusedVariables false
set_option linter.unusedSimpArgs false
theorem and_small : ∀ c : Fin 256, bits .and .u8 (c.val : Int) 31 = ((c.val % 32 : Nat) : Int) := by decide +kernel
theorem and31 (c : UInt8) : bits .and .u8 (c.toNat : Int) 31 = ((c.toNat % 32 : Nat) : Int) := and_small ⟨c.toNat, c.toNat_lt⟩
theorem first_div (c : UInt8) (l : List UInt8) {m : Nat} (h : 0 < (⟨(c :: l).toArray⟩ : ByteArray).size) (hm : Hid (c.toNat / 32 = m)) : Value.int .i64 (wrap64 (((⟨(c :: l).toArray⟩ : ByteArray)[0].toNat : Int) / 32)) = .int .i64 (m : Int) := by
  rw [← hm.out]
  show Value.int .i64 (wrap64 ((c.toNat : Int) / 32)) = _
  rw [IntWalk.wrap64_in _ (by have := c.toNat_lt; omega)]; rfl
theorem first_mod (c : UInt8) (l : List UInt8) {k : Nat} (h : 0 < (⟨(c :: l).toArray⟩ : ByteArray).size) (hk : Hid (c.toNat % 32 = k)) : Value.int .i64 (wrap64 (bits .and .u8 ((⟨(c :: l).toArray⟩ : ByteArray)[0].toNat : Int) 31)) = .int .i64 (k : Int) := by
  rw [← hk.out]
  show Value.int .i64 (wrap64 (bits .and .u8 (c.toNat : Int) 31)) = _
  rw [and31, IntWalk.wrap64_in _ (by omega)]
theorem extract_one (c : UInt8) (l : List UInt8) (S : Nat) : Value.string ((⟨(c :: l).toArray⟩ : ByteArray).extract 1 (1 + S)) = str (l.take S) := by
  rw [extract_str, List.drop_succ_cons, List.drop_zero, Nat.add_sub_cancel_left]
set_option maxRecDepth 20000 in
set_option maxHeartbeats 400000 in
theorem head_small (b : Nat) (r : RS) (hok : r.ok) (h0 : Hid (r.e = 0)) (c : UInt8) (l : List UInt8) (hd : Hid (r.s.drop r.at_ = c :: l)) (m k : Nat) (hmm : Hid (c.toNat / 32 = m)) (hkk : Hid (c.toNat % 32 = k)) (hk : Hid (k < 24)) (w : World) (h : RdAt w b r) : Calls Tryz.prog 90 #[.pointer (some ⟨b, 0, none⟩)] w
    (RetS [b] (.tuple #[.int .i64 (m : Int), .int .u64 (k : Int), .bool false]) (fun w' => RdAt w' b { r with at_ := r.at_ + 1 }) w) := by
  have c0 := h.s
  have c1 := h.at_
  have c3 : w.cell? ⟨b, 3, none⟩ = some (.int .i64 0) := by have := h.e; rw [h0.out] at this; exact this
  have f1 := h.froz 1
  have b1 := hok.1
  have hx := extract_rest r.s r.at_
  have hx2 := hd.out
  go_enter Tryz.func90, Tryz.ntmps90
  go_upto_region 3 with fail
  go_quiet (fail)
  go_upto_region 7 with fail
  go_cut [6, 7] (fun s6 s7 wx => s6 = .int .i64 (m : Int) ∧ s7 = .int .i64 (k : Int) ∧ ∃ n, wx = w.drewN n)
  case first =>
    have hlen : (0 : Int) < (l.length : Int) + 1 := by omega
    go_quiet (fail)
    go_wp2_with fail
    go_meet
    exact ⟨first_div c l _ hmm, first_mod c l _ hkk, _, World.drewN_drewN _ _ _⟩
  obtain ⟨rfl, rfl, nw, rfl⟩ := hcut
  clear hx hx2
  have hcn := Blk.drewN h nw
  have hk32 : Hid (k ≤ 31) := by have := hkk.out; unfold Hid; omega
  have hlr : Hid (r.at_ + (l.length + 1) = r.s.length) := by
    have h1 := congrArg List.length hd.out
    rw [List.length_drop, List.length_cons] at h1
    have h2 := hok.1
    unfold Hid; omega
  have hbig := hid hok.2.2
  have t1 : decide ((k : Int) < 24) = true := by have h1 := hk.out; have h2 := hk32.out; simp; omega
  have hw1 : IntKind.u64.wrap (k : Int) = k := IntWalk.u64_in _ (by have := hk32.out; omega)
  have hw2 : wrap64 ((r.at_ : Int) + 1) = ((r.at_ + 1 : Nat) : Int) := IntWalk.wrap64_in _ (by have := hlr.out; have := hbig.out; omega)
  go_wp2
  go_ret3
  exact RetS.mk rfl (((Mod.refl _ _).drewN _).setCell (.inl (by simp)) _) (Blk.set_ hcn 1 _)

set_option maxRecDepth 20000 in
set_option maxHeartbeats 400000 in
theorem head_open (b : Nat) (r : RS) (hok : r.ok) (h0 : Hid (r.e = 0)) (c : UInt8) (l : List UInt8) (hd : Hid (r.s.drop r.at_ = c :: l)) (m k : Nat) (hmm : Hid (c.toNat / 32 = m)) (hkk : Hid (c.toNat % 32 = k)) (hk : Hid (k = 31)) (ho : opensB (m : Int) = true) (w : World) (h : RdAt w b r) : Calls Tryz.prog 90 #[.pointer (some ⟨b, 0, none⟩)] w
    (RetS [b] (.tuple #[.int .i64 (m : Int), .int .u64 0, .bool true]) (fun w' => RdAt w' b { r with at_ := r.at_ + 1 }) w) := by
  have c0 := h.s
  have c1 := h.at_
  have c3 : w.cell? ⟨b, 3, none⟩ = some (.int .i64 0) := by have := h.e; rw [h0.out] at this; exact this
  have f1 := h.froz 1
  have b1 := hok.1
  have hx := extract_rest r.s r.at_
  have hx2 := hd.out
  go_enter Tryz.func90, Tryz.ntmps90
  go_upto_region 3 with fail
  go_quiet (fail)
  go_upto_region 7 with fail
  go_cut [6, 7] (fun s6 s7 wx => s6 = .int .i64 (m : Int) ∧ s7 = .int .i64 (k : Int) ∧ ∃ n, wx = w.drewN n)
  case first =>
    have hlen : (0 : Int) < (l.length : Int) + 1 := by omega
    go_quiet (fail)
    go_wp2_with fail
    go_meet
    exact ⟨first_div c l _ hmm, first_mod c l _ hkk, _, World.drewN_drewN _ _ _⟩
  obtain ⟨rfl, rfl, nw, rfl⟩ := hcut
  clear hx hx2
  have hcn := Blk.drewN h nw
  have hk32 : Hid (k ≤ 31) := by have := hkk.out; unfold Hid; omega
  have hlr : Hid (r.at_ + (l.length + 1) = r.s.length) := by
    have h1 := congrArg List.length hd.out
    rw [List.length_drop, List.length_cons] at h1
    have h2 := hok.1
    unfold Hid; omega
  have hbig := hid hok.2.2
  have t1 : decide ((k : Int) < 24) = false := by have h1 := hk.out; have h2 := hk32.out; simp; omega
  have t2 : ((k : Int) == 31) = true := by have h1 := hk.out; have h2 := hk32.out; simp; omega
  have hw2 : wrap64 ((r.at_ : Int) + 1) = ((r.at_ + 1 : Nat) : Int) := IntWalk.wrap64_in _ (by have := hlr.out; have := hbig.out; omega)
  go_wp2_with (go_at_call 46; refine (opens_any _ _).mono ?_; rintro x w2 ⟨rfl, rfl⟩)
  go_ret3
  exact RetS.mk rfl (((Mod.refl _ _).drewN _).setCell (.inl (by simp)) _) (Blk.set_ hcn 1 _)

set_option maxRecDepth 20000 in
set_option maxHeartbeats 400000 in
theorem head_shut (b : Nat) (r : RS) (hok : r.ok) (h0 : Hid (r.e = 0)) (c : UInt8) (l : List UInt8) (hd : Hid (r.s.drop r.at_ = c :: l)) (m k : Nat) (hmm : Hid (c.toNat / 32 = m)) (hkk : Hid (c.toNat % 32 = k)) (hk : Hid (k = 31)) (ho : opensB (m : Int) = false) (w : World) (h : RdAt w b r) : Calls Tryz.prog 90 #[.pointer (some ⟨b, 0, none⟩)] w
    (RetS [b] (.tuple #[.int .i64 0, .int .u64 0, .bool false]) (fun w' => RdAt w' b (r.fail 2)) w) := by
  have c0 := h.s
  have c1 := h.at_
  have c3 : w.cell? ⟨b, 3, none⟩ = some (.int .i64 0) := by have := h.e; rw [h0.out] at this; exact this
  have f1 := h.froz 1
  have b1 := hok.1
  have hx := extract_rest r.s r.at_
  have hx2 := hd.out
  go_enter Tryz.func90, Tryz.ntmps90
  go_upto_region 3 with fail
  go_quiet (fail)
  go_upto_region 7 with fail
  go_cut [6, 7] (fun s6 s7 wx => s6 = .int .i64 (m : Int) ∧ s7 = .int .i64 (k : Int) ∧ ∃ n, wx = w.drewN n)
  case first =>
    have hlen : (0 : Int) < (l.length : Int) + 1 := by omega
    go_quiet (fail)
    go_wp2_with fail
    go_meet
    exact ⟨first_div c l _ hmm, first_mod c l _ hkk, _, World.drewN_drewN _ _ _⟩
  obtain ⟨rfl, rfl, nw, rfl⟩ := hcut
  clear hx hx2
  have hcn := Blk.drewN h nw
  have hk32 : Hid (k ≤ 31) := by have := hkk.out; unfold Hid; omega
  have hlr : Hid (r.at_ + (l.length + 1) = r.s.length) := by
    have h1 := congrArg List.length hd.out
    rw [List.length_drop, List.length_cons] at h1
    have h2 := hok.1
    unfold Hid; omega
  have hbig := hid hok.2.2
  have t1 : decide ((k : Int) < 24) = false := by have h1 := hk.out; have h2 := hk32.out; simp; omega
  have t2 : ((k : Int) == 31) = true := by have h1 := hk.out; have h2 := hk32.out; simp; omega
  have t3 : decide (28 ≤ (k : Int)) = true := by have h1 := hk.out; have h2 := hk32.out; simp; omega
  go_wp2_with (first | (go_at_call 46; refine (opens_any _ _).mono ?_; rintro x w2 ⟨rfl, rfl⟩) | (go_at_call 93; refine (fail_any b r 2 _ (by exact hcn)).mono ?_; rintro x w1 ⟨rfl, hmf, hrf⟩))
  go_ret3
  exact RetS.mk rfl (((Mod.refl _ _).drewN _).trans hmf) hrf

set_option maxRecDepth 20000 in
set_option maxHeartbeats 400000 in
theorem head_big (b : Nat) (r : RS) (hok : r.ok) (h0 : Hid (r.e = 0)) (c : UInt8) (l : List UInt8) (hd : Hid (r.s.drop r.at_ = c :: l)) (m k : Nat) (hmm : Hid (c.toNat / 32 = m)) (hkk : Hid (c.toNat % 32 = k)) (hk : Hid (28 ≤ k ∧ k ≠ 31)) (w : World) (h : RdAt w b r) : Calls Tryz.prog 90 #[.pointer (some ⟨b, 0, none⟩)] w
    (RetS [b] (.tuple #[.int .i64 0, .int .u64 0, .bool false]) (fun w' => RdAt w' b (r.fail 2)) w) := by
  have c0 := h.s
  have c1 := h.at_
  have c3 : w.cell? ⟨b, 3, none⟩ = some (.int .i64 0) := by have := h.e; rw [h0.out] at this; exact this
  have f1 := h.froz 1
  have b1 := hok.1
  have hx := extract_rest r.s r.at_
  have hx2 := hd.out
  go_enter Tryz.func90, Tryz.ntmps90
  go_upto_region 3 with fail
  go_quiet (fail)
  go_upto_region 7 with fail
  go_cut [6, 7] (fun s6 s7 wx => s6 = .int .i64 (m : Int) ∧ s7 = .int .i64 (k : Int) ∧ ∃ n, wx = w.drewN n)
  case first =>
    have hlen : (0 : Int) < (l.length : Int) + 1 := by omega
    go_quiet (fail)
    go_wp2_with fail
    go_meet
    exact ⟨first_div c l _ hmm, first_mod c l _ hkk, _, World.drewN_drewN _ _ _⟩
  obtain ⟨rfl, rfl, nw, rfl⟩ := hcut
  clear hx hx2
  have hcn := Blk.drewN h nw
  have hk32 : Hid (k ≤ 31) := by have := hkk.out; unfold Hid; omega
  have hlr : Hid (r.at_ + (l.length + 1) = r.s.length) := by
    have h1 := congrArg List.length hd.out
    rw [List.length_drop, List.length_cons] at h1
    have h2 := hok.1
    unfold Hid; omega
  have hbig := hid hok.2.2
  have t1 : decide ((k : Int) < 24) = false := by have h1 := hk.out; have h2 := hk32.out; simp; omega
  have t2 : ((k : Int) == 31) = false := by have h1 := hk.out; have h2 := hk32.out; simp; omega
  have t3 : decide (28 ≤ (k : Int)) = true := by have h1 := hk.out; have h2 := hk32.out; simp; omega
  go_wp2_with (go_at_call 93; refine (fail_any b r 2 _ (by exact hcn)).mono ?_; rintro x w1 ⟨rfl, hmf, hrf⟩)
  go_ret3
  exact RetS.mk rfl (((Mod.refl _ _).drewN _).trans hmf) hrf

set_option maxRecDepth 20000 in
set_option maxHeartbeats 400000 in
theorem head_short (b : Nat) (r : RS) (hok : r.ok) (h0 : Hid (r.e = 0)) (c : UInt8) (l : List UInt8) (hd : Hid (r.s.drop r.at_ = c :: l)) (m k : Nat) (hmm : Hid (c.toNat / 32 = m)) (hkk : Hid (c.toNat % 32 = k)) (S : Nat) (hS : Hid (2 ^ (k - 24) = S)) (hk : Hid (24 ≤ k ∧ k < 28)) (hs : Hid (l.length < S)) (w : World) (h : RdAt w b r) : Calls Tryz.prog 90 #[.pointer (some ⟨b, 0, none⟩)] w
    (RetS [b] (.tuple #[.int .i64 0, .int .u64 0, .bool false]) (fun w' => RdAt w' b (r.fail 2)) w) := by
  have c0 := h.s
  have c1 := h.at_
  have c3 : w.cell? ⟨b, 3, none⟩ = some (.int .i64 0) := by have := h.e; rw [h0.out] at this; exact this
  have f1 := h.froz 1
  have b1 := hok.1
  have hx := extract_rest r.s r.at_
  have hx2 := hd.out
  go_enter Tryz.func90, Tryz.ntmps90
  go_upto_region 3 with fail
  go_quiet (fail)
  go_upto_region 7 with fail
  go_cut [6, 7] (fun s6 s7 wx => s6 = .int .i64 (m : Int) ∧ s7 = .int .i64 (k : Int) ∧ ∃ n, wx = w.drewN n)
  case first =>
    have hlen : (0 : Int) < (l.length : Int) + 1 := by omega
    go_quiet (fail)
    go_wp2_with fail
    go_meet
    exact ⟨first_div c l _ hmm, first_mod c l _ hkk, _, World.drewN_drewN _ _ _⟩
  obtain ⟨rfl, rfl, nw, rfl⟩ := hcut
  clear hx hx2
  have hcn := Blk.drewN h nw
  have hk32 : Hid (k ≤ 31) := by have := hkk.out; unfold Hid; omega
  have hlr : Hid (r.at_ + (l.length + 1) = r.s.length) := by
    have h1 := congrArg List.length hd.out
    rw [List.length_drop, List.length_cons] at h1
    have h2 := hok.1
    unfold Hid; omega
  have hbig := hid hok.2.2
  have t1 : decide ((k : Int) < 24) = false := by have h1 := hk.out; have h2 := hk32.out; simp; omega
  have t2 : ((k : Int) == 31) = false := by have h1 := hk.out; have h2 := hk32.out; simp; omega
  have t3 : decide (28 ≤ (k : Int)) = false := by have h1 := hk.out; have h2 := hk32.out; simp; omega
  go_upto_region 17 with fail
  go_cut [8] (fun s wx => s = .int .i64 (S : Int) ∧ wx = w.drewN nw)
  case first =>
    have hk4 : k = 24 ∨ k = 25 ∨ k = 26 ∨ k = 27 := by have := hk.out; omega
    rcases hk4 with rfl | rfl | rfl | rfl
    all_goals go_wp2
    all_goals go_meet
    all_goals exact ⟨by rw [← hS.out]; rfl, rfl⟩
  obtain ⟨rfl, rfl⟩ := hcut
  have hw3 : wrap64 (1 + (S : Int)) = 1 + (S : Int) := IntWalk.wrap64_in _ (by have := hS.out; have h2 : S ≤ 8 := by { have h1 := hk.out; rw [← hS.out]; exact Nat.le_trans (Nat.pow_le_pow_right (by omega) (show k - 24 ≤ 3 by omega)) (by decide) }; omega)
  have hS8 : Hid (S ≤ 8) := by
    have h1 := hk.out
    unfold Hid
    rw [← hS.out]
    exact Nat.le_trans (Nat.pow_le_pow_right (by omega) (show k - 24 ≤ 3 by omega)) (by decide)
  have t4 : decide ((l.length : Int) + 1 < 1 + (S : Int)) = true := by have := hs.out; simp; omega
  go_wp2_with (go_at_call 93; refine (fail_any b r 2 _ (by exact hcn)).mono ?_; rintro x w1 ⟨rfl, hmf, hrf⟩)
  go_ret3
  exact RetS.mk rfl (((Mod.refl _ _).drewN _).trans hmf) hrf

set_option maxRecDepth 20000 in
set_option maxHeartbeats 400000 in
theorem head_long (b : Nat) (r : RS) (hok : r.ok) (h0 : Hid (r.e = 0)) (c : UInt8) (l : List UInt8) (hd : Hid (r.s.drop r.at_ = c :: l)) (m k : Nat) (hmm : Hid (c.toNat / 32 = m)) (hkk : Hid (c.toNat % 32 = k)) (S : Nat) (hS : Hid (2 ^ (k - 24) = S)) (hk : Hid (24 ≤ k ∧ k < 28)) (n : Nat) (hn : Hid (fromBE (l.take S) = n)) (hs : Hid (S ≤ l.length)) (hc : Hid ((headL m n).length ≠ 1 + S)) (w : World) (h : RdAt w b r) : Calls Tryz.prog 90 #[.pointer (some ⟨b, 0, none⟩)] w
    (RetS [b] (.tuple #[.int .i64 0, .int .u64 0, .bool false]) (fun w' => RdAt w' b (r.fail 2)) w) := by
  have c0 := h.s
  have c1 := h.at_
  have c3 : w.cell? ⟨b, 3, none⟩ = some (.int .i64 0) := by have := h.e; rw [h0.out] at this; exact this
  have f1 := h.froz 1
  have b1 := hok.1
  have hx := extract_rest r.s r.at_
  have hx2 := hd.out
  go_enter Tryz.func90, Tryz.ntmps90
  go_upto_region 3 with fail
  go_quiet (fail)
  go_upto_region 7 with fail
  go_cut [6, 7] (fun s6 s7 wx => s6 = .int .i64 (m : Int) ∧ s7 = .int .i64 (k : Int) ∧ ∃ n, wx = w.drewN n)
  case first =>
    have hlen : (0 : Int) < (l.length : Int) + 1 := by omega
    go_quiet (fail)
    go_wp2_with fail
    go_meet
    exact ⟨first_div c l _ hmm, first_mod c l _ hkk, _, World.drewN_drewN _ _ _⟩
  obtain ⟨rfl, rfl, nw, rfl⟩ := hcut
  clear hx hx2
  have hcn := Blk.drewN h nw
  have hk32 : Hid (k ≤ 31) := by have := hkk.out; unfold Hid; omega
  have hlr : Hid (r.at_ + (l.length + 1) = r.s.length) := by
    have h1 := congrArg List.length hd.out
    rw [List.length_drop, List.length_cons] at h1
    have h2 := hok.1
    unfold Hid; omega
  have hbig := hid hok.2.2
  have t1 : decide ((k : Int) < 24) = false := by have h1 := hk.out; have h2 := hk32.out; simp; omega
  have t2 : ((k : Int) == 31) = false := by have h1 := hk.out; have h2 := hk32.out; simp; omega
  have t3 : decide (28 ≤ (k : Int)) = false := by have h1 := hk.out; have h2 := hk32.out; simp; omega
  go_upto_region 17 with fail
  go_cut [8] (fun s wx => s = .int .i64 (S : Int) ∧ wx = w.drewN nw)
  case first =>
    have hk4 : k = 24 ∨ k = 25 ∨ k = 26 ∨ k = 27 := by have := hk.out; omega
    rcases hk4 with rfl | rfl | rfl | rfl
    all_goals go_wp2
    all_goals go_meet
    all_goals exact ⟨by rw [← hS.out]; rfl, rfl⟩
  obtain ⟨rfl, rfl⟩ := hcut
  have hw3 : wrap64 (1 + (S : Int)) = 1 + (S : Int) := IntWalk.wrap64_in _ (by have := hS.out; have h2 : S ≤ 8 := by { have h1 := hk.out; rw [← hS.out]; exact Nat.le_trans (Nat.pow_le_pow_right (by omega) (show k - 24 ≤ 3 by omega)) (by decide) }; omega)
  have hS8 : Hid (S ≤ 8) := by
    have h1 := hk.out
    unfold Hid
    rw [← hS.out]
    exact Nat.le_trans (Nat.pow_le_pow_right (by omega) (show k - 24 ≤ 3 by omega)) (by decide)
  have t4 : decide ((l.length : Int) + 1 < 1 + (S : Int)) = false := by have := hs.out; simp; omega
  have t5 : (S : Int) ≤ (l.length : Int) := by have := hs.out; omega
  have t6 : (((headL m n).length : Int) == 1 + (S : Int)) = false := by have := hc.out; simp; omega
  have t7 : (((headL m n).length : Int) != 1 + (S : Int)) = true := by have := hc.out; simp; omega
  have hn64 : Hid (n < 18446744073709551616 ∧ m ≤ 7) := by
    have h1 := fromBE_lt (l.take S)
    have h2 : (l.take S).length ≤ 8 := by have := hS8.out; rw [List.length_take]; omega
    have h3 : 2 ^ (8 * (l.take S).length) ≤ 2 ^ (8 * 8) := Nat.pow_le_pow_right (by omega) (by omega)
    rw [hn.out] at h1
    have := c.toNat_lt
    have := hmm.out
    exact ⟨Nat.lt_of_lt_of_le h1 h3, by omega⟩
  have hl8 : Hid ((l.take S).length ≤ 8) := by have := hS8.out; unfold Hid; rw [List.length_take]; omega
  go_wp2_with (first | (go_at_call 103; rw [extract_one]; refine (join_n (l.take S) hl8.out _).mono ?_; rintro x w2 ⟨rfl, hb2⟩; rw [hn.out]) | (go_at_call 84; refine (head_in m n (by omega) (by have := hn64.out; omega) (by omega) (by have := hn64.out; omega) _).mono ?_; rintro x w3 ⟨rfl, hb3⟩; simp only [Int.toNat_natCast]; have hr3 : RdAt w3 b r := (Blk.ext hcn hb2).ext hb3; have c1' := hr3.at_; have f1' := hr3.froz 1) | (go_at_call 93; refine (fail_any b r 2 _ hr3).mono ?_; rintro x w1 ⟨rfl, hmf, hrf⟩))
  go_ret3
  exact RetS.mk rfl ((((((Mod.refl _ _).drewN _).trans hb2.of_ext).trans hb3.of_ext)).trans hmf) hrf

set_option maxRecDepth 20000 in
set_option maxHeartbeats 400000 in
theorem head_good (b : Nat) (r : RS) (hok : r.ok) (h0 : Hid (r.e = 0)) (c : UInt8) (l : List UInt8) (hd : Hid (r.s.drop r.at_ = c :: l)) (m k : Nat) (hmm : Hid (c.toNat / 32 = m)) (hkk : Hid (c.toNat % 32 = k)) (S : Nat) (hS : Hid (2 ^ (k - 24) = S)) (hk : Hid (24 ≤ k ∧ k < 28)) (n : Nat) (hn : Hid (fromBE (l.take S) = n)) (hs : Hid (S ≤ l.length)) (hc : Hid ((headL m n).length = 1 + S)) (w : World) (h : RdAt w b r) : Calls Tryz.prog 90 #[.pointer (some ⟨b, 0, none⟩)] w
    (RetS [b] (.tuple #[.int .i64 (m : Int), .int .u64 (n : Int), .bool false]) (fun w' => RdAt w' b { r with at_ := r.at_ + (1 + S) }) w) := by
  have c0 := h.s
  have c1 := h.at_
  have c3 : w.cell? ⟨b, 3, none⟩ = some (.int .i64 0) := by have := h.e; rw [h0.out] at this; exact this
  have f1 := h.froz 1
  have b1 := hok.1
  have hx := extract_rest r.s r.at_
  have hx2 := hd.out
  go_enter Tryz.func90, Tryz.ntmps90
  go_upto_region 3 with fail
  go_quiet (fail)
  go_upto_region 7 with fail
  go_cut [6, 7] (fun s6 s7 wx => s6 = .int .i64 (m : Int) ∧ s7 = .int .i64 (k : Int) ∧ ∃ n, wx = w.drewN n)
  case first =>
    have hlen : (0 : Int) < (l.length : Int) + 1 := by omega
    go_quiet (fail)
    go_wp2_with fail
    go_meet
    exact ⟨first_div c l _ hmm, first_mod c l _ hkk, _, World.drewN_drewN _ _ _⟩
  obtain ⟨rfl, rfl, nw, rfl⟩ := hcut
  clear hx hx2
  have hcn := Blk.drewN h nw
  have hk32 : Hid (k ≤ 31) := by have := hkk.out; unfold Hid; omega
  have hlr : Hid (r.at_ + (l.length + 1) = r.s.length) := by
    have h1 := congrArg List.length hd.out
    rw [List.length_drop, List.length_cons] at h1
    have h2 := hok.1
    unfold Hid; omega
  have hbig := hid hok.2.2
  have t1 : decide ((k : Int) < 24) = false := by have h1 := hk.out; have h2 := hk32.out; simp; omega
  have t2 : ((k : Int) == 31) = false := by have h1 := hk.out; have h2 := hk32.out; simp; omega
  have t3 : decide (28 ≤ (k : Int)) = false := by have h1 := hk.out; have h2 := hk32.out; simp; omega
  go_upto_region 17 with fail
  go_cut [8] (fun s wx => s = .int .i64 (S : Int) ∧ wx = w.drewN nw)
  case first =>
    have hk4 : k = 24 ∨ k = 25 ∨ k = 26 ∨ k = 27 := by have := hk.out; omega
    rcases hk4 with rfl | rfl | rfl | rfl
    all_goals go_wp2
    all_goals go_meet
    all_goals exact ⟨by rw [← hS.out]; rfl, rfl⟩
  obtain ⟨rfl, rfl⟩ := hcut
  have hw3 : wrap64 (1 + (S : Int)) = 1 + (S : Int) := IntWalk.wrap64_in _ (by have := hS.out; have h2 : S ≤ 8 := by { have h1 := hk.out; rw [← hS.out]; exact Nat.le_trans (Nat.pow_le_pow_right (by omega) (show k - 24 ≤ 3 by omega)) (by decide) }; omega)
  have hS8 : Hid (S ≤ 8) := by
    have h1 := hk.out
    unfold Hid
    rw [← hS.out]
    exact Nat.le_trans (Nat.pow_le_pow_right (by omega) (show k - 24 ≤ 3 by omega)) (by decide)
  have t4 : decide ((l.length : Int) + 1 < 1 + (S : Int)) = false := by have := hs.out; simp; omega
  have t5 : (S : Int) ≤ (l.length : Int) := by have := hs.out; omega
  have t6 : (((headL m n).length : Int) == 1 + (S : Int)) = true := by have := hc.out; simp; omega
  have t7 : (((headL m n).length : Int) != 1 + (S : Int)) = false := by have := hc.out; simp; omega
  have hw4 : wrap64 ((r.at_ : Int) + (1 + (S : Int))) = ((r.at_ + (1 + S) : Nat) : Int) := IntWalk.wrap64_in _ (by have := hlr.out; have := hbig.out; have := hS8.out; omega)
  have hn64 : Hid (n < 18446744073709551616 ∧ m ≤ 7) := by
    have h1 := fromBE_lt (l.take S)
    have h2 : (l.take S).length ≤ 8 := by have := hS8.out; rw [List.length_take]; omega
    have h3 : 2 ^ (8 * (l.take S).length) ≤ 2 ^ (8 * 8) := Nat.pow_le_pow_right (by omega) (by omega)
    rw [hn.out] at h1
    have := c.toNat_lt
    have := hmm.out
    exact ⟨Nat.lt_of_lt_of_le h1 h3, by omega⟩
  have hl8 : Hid ((l.take S).length ≤ 8) := by have := hS8.out; unfold Hid; rw [List.length_take]; omega
  go_wp2_with (first | (go_at_call 103; rw [extract_one]; refine (join_n (l.take S) hl8.out _).mono ?_; rintro x w2 ⟨rfl, hb2⟩; rw [hn.out]) | (go_at_call 84; refine (head_in m n (by omega) (by have := hn64.out; omega) (by omega) (by have := hn64.out; omega) _).mono ?_; rintro x w3 ⟨rfl, hb3⟩; simp only [Int.toNat_natCast]; have hr3 : RdAt w3 b r := (Blk.ext hcn hb2).ext hb3; have c1' := hr3.at_; have f1' := hr3.froz 1) | (go_at_call 93; refine (fail_any b r 2 _ hr3).mono ?_; rintro x w1 ⟨rfl, hmf, hrf⟩))
  go_ret3
  exact RetS.mk rfl (((((Mod.refl _ _).drewN _).trans hb2.of_ext).trans hb3.of_ext).setCell (.inl (by simp)) _) (Blk.set_ hr3 1 _)

end Go.Proofs.YtblfmokklfhklaaGreatDoor


namespace Go.Proofs.YtblfmokklfhklaaGreatDoor
open Go.RowKit
set_option linter.unusedVariables false
set_option linter.unusedSimpArgs false

theorem head_of {b : Nat} {w : World} {r r' : RS} {m n : Nat} {o : Bool} (hm : r.head = (r', m, n, o))
    (h : Calls Tryz.prog 90 #[.pointer (some ⟨b, 0, none⟩)] w (RetS [b] (.tuple #[.int .i64 (m : Int), .int .u64 (n : Int), .bool o]) (fun w' => RdAt w' b r') w)) :
    Calls Tryz.prog 90 #[.pointer (some ⟨b, 0, none⟩)] w
      (RetS [b] (.tuple #[.int .i64 (r.head.2.1 : Int), .int .u64 (r.head.2.2.1 : Int), .bool r.head.2.2.2]) (fun w' => RdAt w' b r.head.1) w) := by
  rw [hm]; exact h
theorem head_any_r (b : Nat) (r : RS) (hok : r.ok) (w : World) (h : RdAt w b r) : Calls Tryz.prog 90 #[.pointer (some ⟨b, 0, none⟩)] w
    (RetS [b] (.tuple #[.int .i64 (r.head.2.1 : Int), .int .u64 (r.head.2.2.1 : Int), .bool r.head.2.2.2]) (fun w' => RdAt w' b r.head.1) w) := by
  by_cases h0 : r.e = 0
  case neg => exact head_of (by unfold RS.head; rw [if_neg h0]) (head_off b r h0 w h)
  cases hd : r.s.drop r.at_ with
  | nil => exact head_of (by unfold RS.head; rw [if_pos h0, hd]; rfl) (head_end b r hok h0 hd w h)
  | cons c l =>
    have hc := c.toNat_lt
    by_cases h1 : c.toNat % 32 < 24
    · exact head_of (by unfold RS.head; rw [if_pos h0, hd]; unfold readH; dsimp only; rw [if_pos h1]) (head_small b r hok h0 c l hd _ _ rfl rfl h1 w h)
    by_cases h2 : c.toNat % 32 = 31
    · cases ho : opensB ((c.toNat / 32 : Nat) : Int)
      · exact head_of (by unfold RS.head; rw [if_pos h0, hd]; unfold readH; dsimp only; rw [if_neg h1, if_neg (by rw [ho]; simp), if_pos (by omega)]) (head_shut b r hok h0 c l hd _ _ rfl rfl h2 ho w h)
      · exact head_of (by unfold RS.head; rw [if_pos h0, hd]; unfold readH; dsimp only; rw [if_neg h1, if_pos ⟨h2, ho⟩]) (head_open b r hok h0 c l hd _ _ rfl rfl h2 ho w h)
    by_cases h3 : 28 ≤ c.toNat % 32
    · exact head_of (by unfold RS.head; rw [if_pos h0, hd]; unfold readH; dsimp only; rw [if_neg h1, if_neg (fun x => h2 x.1), if_pos h3]) (head_big b r hok h0 c l hd _ _ rfl rfl ⟨h3, h2⟩ w h)
    by_cases h4 : l.length < 2 ^ (c.toNat % 32 - 24)
    · exact head_of (by unfold RS.head; rw [if_pos h0, hd]; unfold readH; dsimp only; rw [if_neg h1, if_neg (fun x => h2 x.1), if_neg h3, if_pos h4]) (head_short b r hok h0 c l hd _ _ rfl rfl _ rfl ⟨by omega, by omega⟩ h4 w h)
    by_cases h5 : (headL (c.toNat / 32) (fromBE (l.take (2 ^ (c.toNat % 32 - 24))))).length = 1 + 2 ^ (c.toNat % 32 - 24)
    · exact head_of (by unfold RS.head; rw [if_pos h0, hd]; unfold readH; dsimp only; rw [if_neg h1, if_neg (fun x => h2 x.1), if_neg h3, if_neg h4, if_pos h5]) (head_good b r hok h0 c l hd _ _ rfl rfl _ rfl ⟨by omega, by omega⟩ _ rfl (Nat.le_of_not_lt h4) h5 w h)
    · exact head_of (by unfold RS.head; rw [if_pos h0, hd]; unfold readH; dsimp only; rw [if_neg h1, if_neg (fun x => h2 x.1), if_neg h3, if_neg h4, if_neg h5]) (head_long b r hok h0 c l hd _ _ rfl rfl _ rfl ⟨by omega, by omega⟩ _ rfl (Nat.le_of_not_lt h4) h5 w h)

set_option maxRecDepth 20000 in
set_option maxHeartbeats 400000 in
theorem Head_any_r (b : Nat) (r : RS) (hok : r.ok) (w : World) (h : RdAt w b r) : Calls Tryz.prog 72 #[.pointer (some ⟨b, 0, none⟩)] w
    (RetS [b] (.tuple #[.int .i64 (r.Head.2.1 : Int), .int .u64 (r.Head.2.2.1 : Int), .bool r.Head.2.2.2]) (fun w' => RdAt w' b r.Head.1) w) := by
  have c1 := h.at_
  have c4 := h.fr
  have f4 := h.froz 4
  have hs : RdAt (w.setCell ⟨b, 4, none⟩ (.int .i64 (r.at_ : Int))) b { r with fr := r.at_ } := Blk.set_ h 4 _
  have hok2 : RS.ok { r with fr := r.at_ } := ⟨hok.1, hok.1, hok.2.2⟩
  go_enter Tryz.func72, Tryz.ntmps72
  go_wp2_with (go_at_call 90; refine (head_any_r b _ hok2 _ hs).mono ?_; rintro x w1 ⟨rfl, hm, hr⟩)
  go_ret3
  exact RetS.mk rfl (((Mod.refl _ _).setCell (.inl (by simp)) _).trans hm) hr

set_option maxRecDepth 20000 in
set_option maxHeartbeats 400000 in
theorem At_any (b : Nat) (r : RS) (w : World) (h : RdAt w b r) : Calls Tryz.prog 74 #[.pointer (some ⟨b, 0, none⟩)] w fun e w' => e = .returned (.int .i64 r.at_) ∧ w = w' := by
  have c1 := h.at_
  go_enter Tryz.func74, Tryz.ntmps74
  go_wp2
  go_ret
  exact ⟨rfl, rfl⟩
set_option maxRecDepth 20000 in
set_option maxHeartbeats 400000 in
theorem Array_e (b : Nat) (r : RS) (hok : r.ok) (he : Hid (r.Head.1.e ≠ 0)) (w : World) (h : RdAt w b r) : Calls Tryz.prog 76 #[.pointer (some ⟨b, 0, none⟩)] w (RetS [b] (.int .i64 0) (fun w' => RdAt w' b r.Head.1) w) := by
  have te : (r.Head.1.e != 0) = true := by have := he.out; simp [this]
  go_enter Tryz.func76, Tryz.ntmps76
  go_wp2_with (go_at_call 72; refine (Head_any_r b r hok _ h).mono ?_; rintro x w1 ⟨rfl, hm1, hr1⟩; have c0 := hr1.s; have c1 := hr1.at_; have c3 := hr1.e; have f1 := hr1.froz 1)
  go_ret
  exact RetS.mk rfl hm1 hr1

set_option maxRecDepth 20000 in
set_option maxHeartbeats 400000 in
theorem Array_m (b : Nat) (r : RS) (hok : r.ok) (he : Hid (r.Head.1.e = 0)) (hm : Hid (r.Head.2.1 ≠ 4)) (w : World) (h : RdAt w b r) : Calls Tryz.prog 76 #[.pointer (some ⟨b, 0, none⟩)] w (RetS [b] (.int .i64 0) (fun w' => RdAt w' b (r.Head.1.fail 2)) w) := by
  have te : (r.Head.1.e != 0) = false := by have := he.out; simp [this]
  have tm : ((r.Head.2.1 : Int) != 4) = true := by have := hm.out; simp; omega
  go_enter Tryz.func76, Tryz.ntmps76
  go_wp2_with (first | (go_at_call 72; refine (Head_any_r b r hok _ h).mono ?_; rintro x w1 ⟨rfl, hm1, hr1⟩; have c0 := hr1.s; have c1 := hr1.at_; have c3 := hr1.e; have f1 := hr1.froz 1) | (go_at_call 93; refine (fail_any b r.Head.1 2 _ (by first | exact hr1 | exact Blk.drewN hr1 _)).mono ?_; rintro x w2 ⟨rfl, hm2, hr2⟩))
  go_ret
  exact RetS.mk rfl (hm1.trans hm2) hr2

set_option maxRecDepth 20000 in
set_option maxHeartbeats 400000 in
theorem Array_o (b : Nat) (r : RS) (hok : r.ok) (he : Hid (r.Head.1.e = 0)) (hm : Hid (r.Head.2.1 = 4)) (ho : r.Head.2.2.2 = true) (w : World) (h : RdAt w b r) : Calls Tryz.prog 76 #[.pointer (some ⟨b, 0, none⟩)] w (RetS [b] (.int .i64 (-1)) (fun w' => RdAt w' b r.Head.1) w) := by
  have te : (r.Head.1.e != 0) = false := by have := he.out; simp [this]
  have tm : ((r.Head.2.1 : Int) != 4) = false := by have := hm.out; simp; omega
  go_enter Tryz.func76, Tryz.ntmps76
  go_wp2_with (go_at_call 72; refine (Head_any_r b r hok _ h).mono ?_; rintro x w1 ⟨rfl, hm1, hr1⟩; have c0 := hr1.s; have c1 := hr1.at_; have c3 := hr1.e; have f1 := hr1.froz 1)
  go_ret
  exact RetS.mk rfl hm1 hr1

set_option maxRecDepth 20000 in
set_option maxHeartbeats 400000 in
theorem Array_l (b : Nat) (r : RS) (hok : r.ok) (he : Hid (r.Head.1.e = 0)) (hm : Hid (r.Head.2.1 = 4)) (ho : r.Head.2.2.2 = false) (hn : Hid (1000 < r.Head.2.2.1)) (w : World) (h : RdAt w b r) : Calls Tryz.prog 76 #[.pointer (some ⟨b, 0, none⟩)] w (RetS [b] (.int .i64 0) (fun w' => RdAt w' b (r.Head.1.fail 4)) w) := by
  have te : (r.Head.1.e != 0) = false := by have := he.out; simp [this]
  have tm : ((r.Head.2.1 : Int) != 4) = false := by have := hm.out; simp; omega
  have tn : decide (1000 < (r.Head.2.2.1 : Int)) = true := by have := hn.out; simp; omega
  go_enter Tryz.func76, Tryz.ntmps76
  go_wp2_with (first | (go_at_call 72; refine (Head_any_r b r hok _ h).mono ?_; rintro x w1 ⟨rfl, hm1, hr1⟩; have c0 := hr1.s; have c1 := hr1.at_; have c3 := hr1.e; have f1 := hr1.froz 1) | (go_at_call 93; refine (fail_any b r.Head.1 4 _ (by first | exact hr1 | exact Blk.drewN hr1 _)).mono ?_; rintro x w2 ⟨rfl, hm2, hr2⟩))
  go_ret
  exact RetS.mk rfl (hm1.trans hm2) hr2

set_option maxRecDepth 20000 in
set_option maxHeartbeats 400000 in
theorem Array_g (b : Nat) (r : RS) (hok : r.ok) (he : Hid (r.Head.1.e = 0)) (hm : Hid (r.Head.2.1 = 4)) (ho : r.Head.2.2.2 = false) (hn : Hid (¬ 1000 < r.Head.2.2.1)) (w : World) (h : RdAt w b r) : Calls Tryz.prog 76 #[.pointer (some ⟨b, 0, none⟩)] w (RetS [b] (.int .i64 (r.Head.2.2.1 : Int)) (fun w' => RdAt w' b r.Head.1) w) := by
  have te : (r.Head.1.e != 0) = false := by have := he.out; simp [this]
  have tm : ((r.Head.2.1 : Int) != 4) = false := by have := hm.out; simp; omega
  have tn : decide (1000 < (r.Head.2.2.1 : Int)) = false := by have := hn.out; simp; omega
  have hw : Hid (wrap64 (r.Head.2.2.1 : Int) = (r.Head.2.2.1 : Int)) := IntWalk.wrap64_in _ (by have := hn.out; omega)
  go_enter Tryz.func76, Tryz.ntmps76
  go_wp2_with (go_at_call 72; refine (Head_any_r b r hok _ h).mono ?_; rintro x w1 ⟨rfl, hm1, hr1⟩; have c0 := hr1.s; have c1 := hr1.at_; have c3 := hr1.e; have f1 := hr1.froz 1)
  go_ret
  exact RetS.mk (congrArg (Value.int .i64) hw.out) hm1 hr1

theorem Array_any (b : Nat) (r : RS) (hok : r.ok) (w : World) (h : RdAt w b r) : Calls Tryz.prog 76 #[.pointer (some ⟨b, 0, none⟩)] w (RetS [b] (.int .i64 r.Array.2) (fun w' => RdAt w' b r.Array.1) w) := by
  by_cases he : r.Head.1.e = 0
  · by_cases hm : r.Head.2.1 = 4
    · cases ho : r.Head.2.2.2
      · by_cases hn : 1000 < r.Head.2.2.1
        · have e : r.Array = (r.Head.1.fail 4, 0) := by unfold RS.Array; rw [if_pos he, if_neg (fun x => x hm), if_neg (by simp [ho]), if_pos hn]
          rw [e]; exact Array_l b r hok he hm ho hn w h
        · have e : r.Array = (r.Head.1, (r.Head.2.2.1 : Int)) := by unfold RS.Array; rw [if_pos he, if_neg (fun x => x hm), if_neg (by simp [ho]), if_neg hn]
          rw [e]; exact Array_g b r hok he hm ho hn w h
      · have e : r.Array = (r.Head.1, -1) := by unfold RS.Array; rw [if_pos he, if_neg (fun x => x hm), if_pos ho]
        rw [e]; exact Array_o b r hok he hm ho w h
    · have e : r.Array = (r.Head.1.fail 2, 0) := by unfold RS.Array; rw [if_pos he, if_pos hm]
      rw [e]; exact Array_m b r hok he hm w h
  · have e : r.Array = (r.Head.1, 0) := by unfold RS.Array; rw [if_neg he]
    rw [e]; exact Array_e b r hok he w h

set_option maxRecDepth 20000 in
set_option maxHeartbeats 400000 in
theorem str_e (b : Nat) (r : RS) (hok : r.ok) (want : Nat) (most : Int) (he : Hid (r.Head.1.e ≠ 0)) (w : World) (h : RdAt w b r) : Calls Tryz.prog 104 #[.pointer (some ⟨b, 0, none⟩), .int .i64 (want : Int), .int .i64 most] w (RetS [b] (str []) (fun w' => RdAt w' b r.Head.1) w) := by
  have te : (r.Head.1.e != 0) = true := by have := he.out; simp [this]
  go_enter Tryz.func104, Tryz.ntmps104
  go_wp2_with (go_at_call 72; refine (Head_any_r b r hok _ h).mono ?_; rintro x w1 ⟨rfl, hm1, hr1⟩; have c0 := hr1.s; have c1 := hr1.at_; have c3 := hr1.e; have f1 := hr1.froz 1)
  go_ret
  exact RetS.mk rfl hm1 hr1

set_option maxRecDepth 20000 in
set_option maxHeartbeats 400000 in
theorem str_m (b : Nat) (r : RS) (hok : r.ok) (want : Nat) (most : Int) (he : Hid (r.Head.1.e = 0)) (hm : Hid (r.Head.2.1 ≠ want)) (w : World) (h : RdAt w b r) : Calls Tryz.prog 104 #[.pointer (some ⟨b, 0, none⟩), .int .i64 (want : Int), .int .i64 most] w (RetS [b] (str []) (fun w' => RdAt w' b (r.Head.1.fail 2)) w) := by
  have te : (r.Head.1.e != 0) = false := by have := he.out; simp [this]
  have tm : ((r.Head.2.1 : Int) != (want : Int)) = true := by have := hm.out; simp; omega
  go_enter Tryz.func104, Tryz.ntmps104
  go_upto_region 4 with (go_at_call 72; refine (Head_any_r b r hok _ h).mono ?_; rintro x w1 ⟨rfl, hm1, hr1⟩; have c0 := hr1.s; have c1 := hr1.at_; have c3 := hr1.e; have f1 := hr1.froz 1)
  go_quiet (fail)
  go_wp2_with (go_at_call 93; refine (fail_any b r.Head.1 2 _ (by first | exact hr1 | exact Blk.drewN hr1 _)).mono ?_; rintro x w2 ⟨rfl, hm2, hr2⟩)
  go_ret
  exact RetS.mk rfl ((hm1.drewN _).trans hm2) hr2

set_option maxRecDepth 20000 in
set_option maxHeartbeats 400000 in
theorem str_o (b : Nat) (r : RS) (hok : r.ok) (want : Nat) (most : Int) (he : Hid (r.Head.1.e = 0)) (hm : Hid (r.Head.2.1 = want)) (ho : r.Head.2.2.2 = true) (w : World) (h : RdAt w b r) : Calls Tryz.prog 104 #[.pointer (some ⟨b, 0, none⟩), .int .i64 (want : Int), .int .i64 most] w (RetS [b] (str []) (fun w' => RdAt w' b (r.Head.1.fail 2)) w) := by
  have te : (r.Head.1.e != 0) = false := by have := he.out; simp [this]
  have tm : ((r.Head.2.1 : Int) != (want : Int)) = false := by have := hm.out; simp; omega
  go_enter Tryz.func104, Tryz.ntmps104
  go_upto_region 4 with (go_at_call 72; refine (Head_any_r b r hok _ h).mono ?_; rintro x w1 ⟨rfl, hm1, hr1⟩; have c0 := hr1.s; have c1 := hr1.at_; have c3 := hr1.e; have f1 := hr1.froz 1)
  go_quiet (fail)
  go_wp2_with (go_at_call 93; refine (fail_any b r.Head.1 2 _ (by first | exact hr1 | exact Blk.drewN hr1 _)).mono ?_; rintro x w2 ⟨rfl, hm2, hr2⟩)
  go_ret
  exact RetS.mk rfl ((hm1.drewN _).trans hm2) hr2

set_option maxRecDepth 20000 in
set_option maxHeartbeats 400000 in
theorem str_s (b : Nat) (r : RS) (hok : r.ok) (want : Nat) (most : Int) (he : Hid (r.Head.1.e = 0)) (hm : Hid (r.Head.2.1 = want)) (ho : r.Head.2.2.2 = false) (hn : Hid (r.Head.1.s.length - r.Head.1.at_ < r.Head.2.2.1)) (w : World) (h : RdAt w b r) : Calls Tryz.prog 104 #[.pointer (some ⟨b, 0, none⟩), .int .i64 (want : Int), .int .i64 most] w (RetS [b] (str []) (fun w' => RdAt w' b (r.Head.1.fail 2)) w) := by
  have te : (r.Head.1.e != 0) = false := by have := he.out; simp [this]
  have tm : ((r.Head.2.1 : Int) != (want : Int)) = false := by have := hm.out; simp; omega
  have hok1 := RS.Head_ok hok
  have hle := hid hok1.1
  have hbig := hid hok1.2.2
  have hw : IntKind.u64.wrap (wrap64 ((r.Head.1.s.length : Int) - (r.Head.1.at_ : Int))) = (r.Head.1.s.length : Int) - (r.Head.1.at_ : Int) := by
    have h1 := hle.out; have h2 := hbig.out
    rw [IntWalk.wrap64_in _ (by omega), IntWalk.u64_in _ (by omega)]
  have tn : decide ((r.Head.1.s.length : Int) - (r.Head.1.at_ : Int) < (r.Head.2.2.1 : Int)) = true := by have h1 := hn.out; have h2 := hle.out; simp; omega
  go_enter Tryz.func104, Tryz.ntmps104
  go_upto_region 4 with (go_at_call 72; refine (Head_any_r b r hok _ h).mono ?_; rintro x w1 ⟨rfl, hm1, hr1⟩; have c0 := hr1.s; have c1 := hr1.at_; have c3 := hr1.e; have f1 := hr1.froz 1)
  go_quiet (fail)
  go_wp2_with (go_at_call 93; refine (fail_any b r.Head.1 2 _ (by first | exact hr1 | exact Blk.drewN hr1 _)).mono ?_; rintro x w2 ⟨rfl, hm2, hr2⟩)
  go_ret
  exact RetS.mk rfl ((hm1.drewN _).trans hm2) hr2

set_option maxRecDepth 20000 in
set_option maxHeartbeats 400000 in
theorem str_l1 (b : Nat) (r : RS) (hok : r.ok) (want : Nat) (most : Int) (he : Hid (r.Head.1.e = 0)) (hm : Hid (r.Head.2.1 = want)) (ho : r.Head.2.2.2 = false) (hn : Hid (¬ r.Head.1.s.length - r.Head.1.at_ < r.Head.2.2.1)) (hl : Hid (most < 0)) (w : World) (h : RdAt w b r) : Calls Tryz.prog 104 #[.pointer (some ⟨b, 0, none⟩), .int .i64 (want : Int), .int .i64 most] w (RetS [b] (str []) (fun w' => RdAt w' b (r.Head.1.fail 4)) w) := by
  have te : (r.Head.1.e != 0) = false := by have := he.out; simp [this]
  have tm : ((r.Head.2.1 : Int) != (want : Int)) = false := by have := hm.out; simp; omega
  have hok1 := RS.Head_ok hok
  have hle := hid hok1.1
  have hbig := hid hok1.2.2
  have hw : IntKind.u64.wrap (wrap64 ((r.Head.1.s.length : Int) - (r.Head.1.at_ : Int))) = (r.Head.1.s.length : Int) - (r.Head.1.at_ : Int) := by
    have h1 := hle.out; have h2 := hbig.out
    rw [IntWalk.wrap64_in _ (by omega), IntWalk.u64_in _ (by omega)]
  have tn : decide ((r.Head.1.s.length : Int) - (r.Head.1.at_ : Int) < (r.Head.2.2.1 : Int)) = false := by have h1 := hn.out; have h2 := hle.out; simp; omega
  have t1 : decide (most < 0) = true := by have := hl.out; simp; omega
  go_enter Tryz.func104, Tryz.ntmps104
  go_upto_region 4 with (go_at_call 72; refine (Head_any_r b r hok _ h).mono ?_; rintro x w1 ⟨rfl, hm1, hr1⟩; have c0 := hr1.s; have c1 := hr1.at_; have c3 := hr1.e; have f1 := hr1.froz 1)
  go_quiet (fail)
  go_wp2_with (go_at_call 93; refine (fail_any b r.Head.1 4 _ (by first | exact hr1 | exact Blk.drewN hr1 _)).mono ?_; rintro x w2 ⟨rfl, hm2, hr2⟩)
  go_ret
  exact RetS.mk rfl ((hm1.drewN _).trans hm2) hr2

set_option maxRecDepth 20000 in
set_option maxHeartbeats 400000 in
theorem str_l2 (b : Nat) (r : RS) (hok : r.ok) (want : Nat) (most : Int) (hmb : Hid (most < 9223372036854775808)) (he : Hid (r.Head.1.e = 0)) (hm : Hid (r.Head.2.1 = want)) (ho : r.Head.2.2.2 = false) (hn : Hid (¬ r.Head.1.s.length - r.Head.1.at_ < r.Head.2.2.1)) (hl : Hid (0 ≤ most ∧ most < (r.Head.2.2.1 : Int))) (w : World) (h : RdAt w b r) : Calls Tryz.prog 104 #[.pointer (some ⟨b, 0, none⟩), .int .i64 (want : Int), .int .i64 most] w (RetS [b] (str []) (fun w' => RdAt w' b (r.Head.1.fail 4)) w) := by
  have te : (r.Head.1.e != 0) = false := by have := he.out; simp [this]
  have tm : ((r.Head.2.1 : Int) != (want : Int)) = false := by have := hm.out; simp; omega
  have hok1 := RS.Head_ok hok
  have hle := hid hok1.1
  have hbig := hid hok1.2.2
  have hw : IntKind.u64.wrap (wrap64 ((r.Head.1.s.length : Int) - (r.Head.1.at_ : Int))) = (r.Head.1.s.length : Int) - (r.Head.1.at_ : Int) := by
    have h1 := hle.out; have h2 := hbig.out
    rw [IntWalk.wrap64_in _ (by omega), IntWalk.u64_in _ (by omega)]
  have tn : decide ((r.Head.1.s.length : Int) - (r.Head.1.at_ : Int) < (r.Head.2.2.1 : Int)) = false := by have h1 := hn.out; have h2 := hle.out; simp; omega
  have t1 : decide (most < 0) = false := by have := hl.out; simp; omega
  have hwm : IntKind.u64.wrap most = most := IntWalk.u64_in _ (by have h1 := hl.out; have h2 := hmb.out; omega)
  have t2 : decide (most < (r.Head.2.2.1 : Int)) = true := by have := hl.out; simp; omega
  go_enter Tryz.func104, Tryz.ntmps104
  go_upto_region 4 with (go_at_call 72; refine (Head_any_r b r hok _ h).mono ?_; rintro x w1 ⟨rfl, hm1, hr1⟩; have c0 := hr1.s; have c1 := hr1.at_; have c3 := hr1.e; have f1 := hr1.froz 1)
  go_quiet (fail)
  go_wp2_with (go_at_call 93; refine (fail_any b r.Head.1 4 _ (by first | exact hr1 | exact Blk.drewN hr1 _)).mono ?_; rintro x w2 ⟨rfl, hm2, hr2⟩)
  go_ret
  exact RetS.mk rfl ((hm1.drewN _).trans hm2) hr2

set_option maxRecDepth 20000 in
set_option maxHeartbeats 400000 in
theorem str_g (b : Nat) (r : RS) (hok : r.ok) (want : Nat) (most : Int) (hmb : Hid (most < 9223372036854775808)) (he : Hid (r.Head.1.e = 0)) (hm : Hid (r.Head.2.1 = want)) (ho : r.Head.2.2.2 = false) (hn : Hid (¬ r.Head.1.s.length - r.Head.1.at_ < r.Head.2.2.1)) (hl : Hid (0 ≤ most ∧ (r.Head.2.2.1 : Int) ≤ most)) (w : World) (h : RdAt w b r) : Calls Tryz.prog 104 #[.pointer (some ⟨b, 0, none⟩), .int .i64 (want : Int), .int .i64 most] w (RetS [b] (str ((r.Head.1.s.drop r.Head.1.at_).take r.Head.2.2.1)) (fun w' => RdAt w' b { r.Head.1 with at_ := r.Head.1.at_ + r.Head.2.2.1 }) w) := by
  have te : (r.Head.1.e != 0) = false := by have := he.out; simp [this]
  have tm : ((r.Head.2.1 : Int) != (want : Int)) = false := by have := hm.out; simp; omega
  have hok1 := RS.Head_ok hok
  have hle := hid hok1.1
  have hbig := hid hok1.2.2
  have hw : IntKind.u64.wrap (wrap64 ((r.Head.1.s.length : Int) - (r.Head.1.at_ : Int))) = (r.Head.1.s.length : Int) - (r.Head.1.at_ : Int) := by
    have h1 := hle.out; have h2 := hbig.out
    rw [IntWalk.wrap64_in _ (by omega), IntWalk.u64_in _ (by omega)]
  have tn : decide ((r.Head.1.s.length : Int) - (r.Head.1.at_ : Int) < (r.Head.2.2.1 : Int)) = false := by have h1 := hn.out; have h2 := hle.out; simp; omega
  have t1 : decide (most < 0) = false := by have := hl.out; simp; omega
  have hwm : IntKind.u64.wrap most = most := IntWalk.u64_in _ (by have h1 := hl.out; have h2 := hmb.out; omega)
  have t2 : decide (most < (r.Head.2.2.1 : Int)) = false := by have := hl.out; simp; omega
  have hw1 : wrap64 (r.Head.2.2.1 : Int) = (r.Head.2.2.1 : Int) := IntWalk.wrap64_in _ (by have h1 := hn.out; have h2 := hbig.out; omega)
  have hw2 : wrap64 ((r.Head.1.at_ : Int) + (r.Head.2.2.1 : Int)) = ((r.Head.1.at_ + r.Head.2.2.1 : Nat) : Int) := IntWalk.wrap64_in _ (by have h1 := hn.out; have h2 := hbig.out; have h3 := hle.out; omega)
  have hsl : (r.Head.1.at_ : Int) + (r.Head.2.2.1 : Int) ≤ (r.Head.1.s.length : Int) := by have h1 := hn.out; have h3 := hle.out; omega
  have hex : Hid (_ = _) := (extract_str r.Head.1.s r.Head.1.at_ (r.Head.1.at_ + r.Head.2.2.1)).trans (by rw [Nat.add_sub_cancel_left])
  go_enter Tryz.func104, Tryz.ntmps104
  go_upto_region 4 with (go_at_call 72; refine (Head_any_r b r hok _ h).mono ?_; rintro x w1 ⟨rfl, hm1, hr1⟩; have c0 := hr1.s; have c1 := hr1.at_; have c3 := hr1.e; have f1 := hr1.froz 1)
  go_quiet (fail)
  go_upto_region 10 with fail
  go_quiet (fail)
  go_wp2
  go_ret
  exact RetS.mk hex.out ((hm1.drewN _).setCell (.inl (List.mem_singleton.2 rfl)) _) (Blk.set_ (Blk.drewN hr1 _) 1 _)

theorem str_any (b : Nat) (r : RS) (hok : r.ok) (want : Nat) (most : Int) (hmb : most < 9223372036854775808) (w : World) (h : RdAt w b r) : Calls Tryz.prog 104 #[.pointer (some ⟨b, 0, none⟩), .int .i64 (want : Int), .int .i64 most] w (RetS [b] (str (r.str want most).2) (fun w' => RdAt w' b (r.str want most).1) w) := by
  by_cases he : r.Head.1.e = 0
  · by_cases hm : r.Head.2.1 = want
    · cases ho : r.Head.2.2.2
      · by_cases hn : r.Head.1.s.length - r.Head.1.at_ < r.Head.2.2.1
        · have e : r.str want most = (r.Head.1.fail 2, []) := by unfold RS.str; rw [if_pos he, if_pos (.inr (.inr hn))]
          rw [e]; exact str_s b r hok want most he hm ho hn w h
        · have hno : ¬ (r.Head.2.1 ≠ want ∨ r.Head.2.2.2 = true ∨ r.Head.1.s.length - r.Head.1.at_ < r.Head.2.2.1) := by rw [ho]; simp [hm, hn]
          by_cases h1 : most < 0
          · have e : r.str want most = (r.Head.1.fail 4, []) := by unfold RS.str; rw [if_pos he, if_neg hno, if_pos (.inl h1)]
            rw [e]; exact str_l1 b r hok want most he hm ho hn h1 w h
          · by_cases h2 : most < (r.Head.2.2.1 : Int)
            · have e : r.str want most = (r.Head.1.fail 4, []) := by unfold RS.str; rw [if_pos he, if_neg hno, if_pos (.inr h2)]
              rw [e]; exact str_l2 b r hok want most hmb he hm ho hn ⟨by omega, h2⟩ w h
            · have e : r.str want most = ({ r.Head.1 with at_ := r.Head.1.at_ + r.Head.2.2.1 }, (r.Head.1.s.drop r.Head.1.at_).take r.Head.2.2.1) := by
                unfold RS.str; rw [if_pos he, if_neg hno, if_neg (by rintro (x | x); exact h1 x; exact h2 x)]
              rw [e]; exact str_g b r hok want most hmb he hm ho hn ⟨by omega, by omega⟩ w h
      · have e : r.str want most = (r.Head.1.fail 2, []) := by unfold RS.str; rw [if_pos he, if_pos (.inr (.inl ho))]
        rw [e]; exact str_o b r hok want most he hm ho w h
    · have e : r.str want most = (r.Head.1.fail 2, []) := by unfold RS.str; rw [if_pos he, if_pos (.inl hm)]
      rw [e]; exact str_m b r hok want most he hm w h
  · have e : r.str want most = (r.Head.1, []) := by unfold RS.str; rw [if_neg he]
    rw [e]; exact str_e b r hok want most he w h

set_option maxRecDepth 20000 in
set_option maxHeartbeats 400000 in
theorem RBytes_any (b : Nat) (r : RS) (hok : r.ok) (most : Int) (hmb : Hid (most < 9223372036854775808)) (w : World) (h : RdAt w b r) : Calls Tryz.prog 91 #[.pointer (some ⟨b, 0, none⟩), .int .i64 most] w (RetS [b] (str (r.str 2 most).2) (fun w' => RdAt w' b (r.str 2 most).1) w) := by
  go_enter Tryz.func91, Tryz.ntmps91
  go_wp2_with (go_at_call 104; refine (str_any b r hok 2 most hmb.out _ h).mono ?_; rintro x w1 ⟨rfl, hm, hr⟩)
  go_ret
  exact RetS.mk rfl hm hr

set_option maxRecDepth 20000 in
set_option maxHeartbeats 400000 in
theorem RText_any (b : Nat) (r : RS) (hok : r.ok) (most : Int) (hmb : Hid (most < 9223372036854775808)) (w : World) (h : RdAt w b r) : Calls Tryz.prog 92 #[.pointer (some ⟨b, 0, none⟩), .int .i64 most] w (RetS [b] (str (r.str 3 most).2) (fun w' => RdAt w' b (r.str 3 most).1) w) := by
  go_enter Tryz.func92, Tryz.ntmps92
  go_wp2_with (go_at_call 104; refine (str_any b r hok 3 most hmb.out _ h).mono ?_; rintro x w1 ⟨rfl, hm, hr⟩)
  go_ret
  exact RetS.mk rfl hm hr

set_option maxRecDepth 20000 in
set_option maxHeartbeats 400000 in
theorem Bad_any (b : Nat) (r : RS) (w : World) (h : RdAt w b r) : Calls Tryz.prog 73 #[.pointer (some ⟨b, 0, none⟩)] w (Ret (.tuple #[.int .i64 r.bad, .int .i64 r.e]) w) := by
  have c2 := h.bad
  have c3 := h.e
  go_enter Tryz.func73, Tryz.ntmps73
  go_upto_region 1 with fail
  go_quiet (fail)
  go_wp2
  go_ret2
  exact Ret.mk rfl ((Mod.refl _ _).drewN _)
end Go.Proofs.YtblfmokklfhklaaGreatDoor


namespace Go.Proofs.YtblfmokklfhklaaGreatDoor
set_option linter.unusedVariables false
set_option linter.unusedSimpArgs false

/-- An array's items from e on, the number of those that may still come being j of a thousand. -/
def floop (f : List UInt8 → Nat × Int) (l : List UInt8) (o : Bool) (n : Nat) : Nat → Nat → Nat × Int
  | 0, e => if o = false ∧ n ≤ 1000 then (e, 0) else if o = true ∧ l[e]? = some 255 then (e + 1, 0) else (e, 4)
  | j + 1, e => if o = false ∧ n ≤ 1000 - (j + 1) then (e, 0) else if o = true ∧ l[e]? = some 255 then (e + 1, 0) else
      if (f (l.drop e)).2 = 0 then floop f l o n j (e + (f (l.drop e)).1) else (e + (f (l.drop e)).1, (f (l.drop e)).2)
/-- No item's kind. -/
def noK (m : Nat) : Bool := m != 0 && m != 2 && m != 3 && m != 4
/-- Place and error. -/
def flt : Nat → List UInt8 → Nat × Int
  | 0, l => match readH l with
    | none => (0, 2)
    | some (sz, m, n, o) => if noK m = true then (0, 2) else (0, 3)
  | d + 1, l => match readH l with
    | none => (0, 2)
    | some (sz, m, n, o) => if noK m = true then (0, 2) else if m = 0 then (sz, 0) else
        if m < 4 then (if o = true ∨ l.length - sz < n then (0, 2) else (sz + n, 0)) else
        if o = false ∧ 1000 < n then (0, 4) else floop (flt d) l o n 1000 sz

theorem floop_le {f : List UInt8 → Nat × Int} (hf : ∀ l, (f l).1 ≤ l.length) (l : List UInt8) (o : Bool) (n : Nat) : ∀ j e, e ≤ l.length → (floop f l o n j e).1 ≤ l.length := by
  intro j
  induction j with
  | zero =>
    intro e he
    unfold floop
    split
    · exact he
    · split
      · rename_i h; exact (List.getElem?_eq_some_iff.1 h.2).1
      · exact he
  | succ j ih =>
    intro e he
    have h1 := hf (l.drop e)
    rw [List.length_drop] at h1
    unfold floop
    split
    · exact he
    · split
      · rename_i h; exact (List.getElem?_eq_some_iff.1 h.2).1
      · split
        · exact ih _ (by omega)
        · show e + (f (l.drop e)).1 ≤ l.length; omega
theorem flt_le (d : Nat) : ∀ l, (flt d l).1 ≤ l.length := by
  induction d with
  | zero =>
    intro l
    unfold flt
    split
    · exact Nat.zero_le _
    · split <;> exact Nat.zero_le _
  | succ d ih =>
    intro l
    unfold flt
    split
    · exact Nat.zero_le _
    · rename_i sz m n o hr
      have h1 := (readH_some hr).le
      split
      · exact Nat.zero_le _
      · split
        · exact h1
        · split
          · split
            · exact Nat.zero_le _
            · show sz + n ≤ l.length; rename_i h; simp only [not_or, Nat.not_lt] at h; omega
          · split
            · exact Nat.zero_le _
            · exact floop_le ih l o n 1000 sz h1

theorem cat_split (f : Nat → List UInt8) {i k : Nat} (h : i ≤ k) : ∃ r, T.cat f k = T.cat f i ++ r := by
  induction k with
  | zero => obtain rfl : i = 0 := by omega
            exact ⟨[], by simp⟩
  | succ k ih =>
    by_cases e : i = k + 1
    · subst e; exact ⟨[], by simp⟩
    · obtain ⟨r, hr⟩ := ih (by omega)
      exact ⟨r ++ f k, by rw [T.cat, hr, List.append_assoc]⟩
theorem pre_split (kind : Int) (s : List UInt8) (op : Bool) (kk : Nat) (ch : Nat → T) {i k : Nat} (h : i ≤ k) : ∃ r, pre kind s op kk ch k = pre kind s op kk ch i ++ r := by
  obtain ⟨r, hr⟩ := cat_split (fun i => (ch i).bytes) h
  exact ⟨r, by unfold pre; rw [hr, List.append_assoc]⟩
theorem get_255 {l : List UInt8} {e : Nat} : l[e]? = some 255 ↔ ∃ v, l.drop e = 255 :: v := by
  rw [← List.head?_drop]
  cases l.drop e with
  | nil => simp
  | cons x v => simp

theorem readH_255 {t : List UInt8} {sz m n : Nat} {o : Bool} (h : readH t = some (sz, m, n, o)) : (m = 7 ∧ o = true) ↔ ∃ v, t = 255 :: v := by
  constructor
  · rintro ⟨rfl, rfl⟩
    unfold readH at h
    match t, h with
    | c :: r, h =>
      have hc := c.toNat_lt
      dsimp only at h
      split at h
      · simp at h
      · split at h
        · rename_i h1
          simp only [Option.some.injEq, Prod.mk.injEq] at h
          have e : c.toNat = 255 := by omega
          refine ⟨r, ?_⟩
          rw [← b8_toNat c, e]; rfl
        · split at h
          · cases h
          · split at h
            · cases h
            · split at h
              · simp at h
              · cases h
  · rintro ⟨v, rfl⟩
    rw [T.readH_break] at h
    simp only [Option.some.injEq, Prod.mk.injEq] at h
    exact ⟨h.2.1.symm, h.2.2.2.symm⟩

theorem flt_bytes (t : T) : ∀ d, t.right d = true → t.ok → ∀ x, flt d (t.bytes ++ x) = (t.bytes.length, 0) := by
  induction t with
  | nil => intro d h hok; cases hok
  | mk kind n s op k ch ih =>
    intro d h hok x
    have hp : (T.mk kind n s op k ch).plain = true := by rw [T.right_eq] at h; simp at h; exact h.2
    have hr := T.readH_bytes _ hp hok x
    cases d with
    | zero => unfold T.right at h; simp at h
    | succ d =>
      unfold T.right at h
      rw [if_neg (by omega), Bool.and_eq_true, T.all_iff] at h
      obtain ⟨h1, h2⟩ := h
      simp only [Nat.add_sub_cancel] at h2
      have hkd := T.node_kind h1
      unfold T.ok at hok
      unfold flt
      rw [hr]
      unfold T.plain at hp
      rw [Bool.and_eq_true, T.all_iff] at hp
      rcases hkd with rfl | rfl | rfl | rfl
      · simp only [T.hd, if_true]
        unfold T.node at h1
        simp at h1
        obtain ⟨⟨rfl, rfl⟩, rfl⟩ := h1
        simp [noK, T.bytes]
      · unfold T.node at h1
        simp at h1
        obtain ⟨⟨rfl, rfl⟩, rfl⟩ := h1
        simp [T.hd, noK, T.bytes]
      · unfold T.node at h1
        simp at h1
        obtain ⟨⟨rfl, rfl⟩, rfl⟩ := h1
        simp [T.hd, noK, T.bytes]
      · unfold T.node at h1
        simp at h1
        obtain ⟨⟨rfl, rfl⟩, hk⟩ := h1
        rw [pre_end]
        have key : ∀ m i, i + m = k → floop (flt d) (pre 4 [] op k ch k ++ (if op then [255] else []) ++ x) op (if op then 0 else k) (1000 - i) (pre 4 [] op k ch i).length = ((pre 4 [] op k ch k ++ (if op then [255] else [])).length, 0) := by
          intro m
          induction m with
          | zero =>
            intro i hi
            obtain rfl : i = k := by omega
            cases op
            · simp only [Bool.false_eq_true, if_false, List.append_nil]
              cases hj : 1000 - i with
              | zero => unfold floop; rw [if_pos ⟨rfl, by omega⟩]
              | succ j => unfold floop; rw [if_pos ⟨rfl, by omega⟩]
            · simp only [if_true]
              have h255 : (pre 4 [] true i ch i ++ [255] ++ x)[(pre 4 [] true i ch i).length]? = some 255 := get_255.2 ⟨x, by rw [List.append_assoc, List.drop_left]; rfl⟩
              cases hj : 1000 - i with
              | zero => unfold floop; rw [if_neg (by simp), if_pos ⟨rfl, h255⟩, List.length_append]; rfl
              | succ j => unfold floop; rw [if_neg (by simp), if_pos ⟨rfl, h255⟩, List.length_append]; rfl
          | succ m ihm =>
            intro i hi
            have hik : i < k := by omega
            have e1 : 1000 - i = (1000 - (i + 1)) + 1 := by omega
            obtain ⟨r, hr⟩ := pre_split 4 [] op k ch (show i + 1 ≤ k by omega)
            have hd : (pre 4 [] op k ch k ++ (if op then [255] else []) ++ x).drop (pre 4 [] op k ch i).length = (ch i).bytes ++ (r ++ ((if op then [255] else []) ++ x)) := by
              rw [hr, pre_succ, List.append_assoc, List.append_assoc, List.append_assoc, List.drop_left]
            have hc := ih i d (h2 i hik) (hok.2.2.2.2 i hik) (r ++ ((if op then [255] else []) ++ x))
            rw [e1]
            unfold floop
            rw [if_neg (by intro h; obtain ⟨h3, h4⟩ := h; subst h3; simp at h4; omega), if_neg (by
              rintro ⟨_, h4⟩
              obtain ⟨v, hv⟩ := get_255.1 h4
              rw [hd] at hv
              exact T.bytes_not_break (ch i) (hp.2 i hik) (hok.2.2.2.2 i hik) _ _ hv), hd, hc, if_pos rfl]
            have := ihm (i + 1) (by omega)
            rw [pre_succ, List.length_append] at this
            exact this
        have h0 := key k 0 (by omega)
        cases op
        · have e : (pre 4 [] false k ch 0).length = (headL 4 k).length := by simp [pre, T.cat]
          rw [e] at h0
          have eh : (T.mk 4 0 [] false k ch).hd = ((headL 4 k).length, 4, k, false) := rfl
          rw [eh]
          dsimp only
          rw [if_neg (by decide), if_neg (by decide), if_neg (by decide), if_neg (by rintro ⟨_, h⟩; omega)]
          exact h0
        · have eh : (T.mk 4 0 [] true k ch).hd = (1, 4, 0, true) := rfl
          rw [eh]
          dsimp only
          rw [if_neg (by decide), if_neg (by decide), if_neg (by decide), if_neg (by rintro ⟨h, _⟩; cases h)]
          exact h0
end Go.Proofs.YtblfmokklfhklaaGreatDoor


namespace Go.Proofs.YtblfmokklfhklaaGreatDoor
open Go.RowKit
set_option linter.unusedVariables false
set_option linter.unusedSimpArgs false

/-- A parser behind a pointer: its bytes, its place, its error. -/
def PAt (w : World) (g : Nat) (l : List UInt8) (p : Nat) (e : Int) : Prop := Blk w g 78 #[str l, .int .i64 (p : Int), .int .i64 e]
section
variable {w : World} {g : Nat} {l : List UInt8} {p : Nat} {x : Int}
theorem PAt.b (h : PAt w g l p x) : w.cell? ⟨g, 0, none⟩ = some (str l) := Blk.cell h 0
theorem PAt.at_ (h : PAt w g l p x) : w.cell? ⟨g, 1, none⟩ = some (.int .i64 (p : Int)) := Blk.cell h 1
theorem PAt.err (h : PAt w g l p x) : w.cell? ⟨g, 2, none⟩ = some (.int .i64 x) := Blk.cell h 2
theorem PAt.froz (h : PAt w g l p x) (i : Nat) : w.frozen? ⟨g, i, none⟩ = false := Blk.frozen h i
end

theorem head_255 {t : List UInt8} : t.head? = some 255 ↔ ∃ v, t = 255 :: v := by
  cases t with
  | nil => simp
  | cons x v => simp
theorem new_break (t : List UInt8) : (decide (((RS.new t).Head.2.1 : Int) = 7) && (RS.new t).Head.2.2.2) = decide (t.head? = some 255) := by
  cases hr : readH t with
  | none =>
    rw [RS.Head_none (r := RS.new t) rfl hr]
    have : ¬ t.head? = some 255 := fun h => by
      obtain ⟨v, rfl⟩ := head_255.1 h
      rw [T.readH_break] at hr; cases hr
    rw [decide_eq_false this]
    rfl
  | some x =>
    obtain ⟨sz, m, n, o⟩ := x
    rw [RS.Head_some (r := RS.new t) rfl hr]
    have h := readH_255 hr
    rw [Bool.eq_iff_iff, Bool.and_eq_true, decide_eq_true_iff, decide_eq_true_iff, head_255, ← h]
    constructor
    · rintro ⟨a, b⟩; exact ⟨by have : (m : Int) = 7 := a; omega, b⟩
    · rintro ⟨a, b⟩; subst a; exact ⟨rfl, b⟩
theorem new_break2 (l : List UInt8) (p : Nat) : (decide (((RS.new (l.drop p)).Head.2.1 : Int) = 7) && (RS.new (l.drop p)).Head.2.2.2) = decide (l[p]? = some 255) := by
  rw [new_break, Bool.eq_iff_iff, decide_eq_true_iff, decide_eq_true_iff, List.head?_drop]

/-- No item. -/
def nulT : T := T.mk 0 0 [] false 0 fun _ => T.nil

set_option maxRecDepth 20000 in
set_option maxHeartbeats 400000 in
theorem pfail_any (g : Nat) (l : List UInt8) (p q : Nat) (e : Int) (w : World) (h : PAt w g l p 0) :
    Calls Tryz.prog 45 #[.pointer (some ⟨g, 0, none⟩), .int .i64 (q : Int), .int .i64 e] w (RetS [g] (itemV nulT none 0) (fun w' => PAt w' g l q e) w) := by
  have c1 := h.at_
  have c2 := h.err
  have f1 := h.froz 1
  have f2 := h.froz 2
  have hg : g < w.heap.size := Blk.lt h
  have H := hid h
  clear h
  go_enter Tryz.func45, Tryz.ntmps45
  go_wp2
  refine bodyPost_ret (v := itemV nulT none 0) (by simp [results, Tryz.results45, go_sem]; exact ⟨rfl, rfl, rfl, rfl, rfl⟩) rfl (RetS.mk rfl ?_ ?_)
  · exact ((((Mod.refl _ _).setCell (.inl (by simp)) _).setCell (.inl (by simp)) _).alloc _)
  · exact Blk.alloc (Blk.set_ (Blk.set_ H.out 1 (.int .i64 (q : Int))) 2 (.int .i64 e)) _

set_option maxRecDepth 20000 in
set_option maxHeartbeats 400000 in
theorem preader_any (g : Nat) (l : List UInt8) (p : Nat) (e : Int) (hp : Hid (p ≤ l.length ∧ l.length ≤ 1073741824)) (w : World) (h : PAt w g l p e) :
    Calls Tryz.prog 71 #[.pointer (some ⟨g, 0, none⟩)] w fun x w' => x = .returned (.pointer (some ⟨w.heap.size, 0, none⟩)) ∧ Ext w w' ∧ RdAt w' w.heap.size (RS.new (l.drop p)) := by
  have c0 := h.b
  have c1 := h.at_
  have hp0 : (0 : Int) ≤ (p : Int) := by omega
  have hp1 : (p : Int) ≤ (l.length : Int) := by have := hp.out; omega
  have hl1 : (l.length : Int) ≤ 1073741824 := by have := hp.out; omega
  go_enter Tryz.func71, Tryz.ntmps71
  go_upto_region 1 with fail
  go_region_held3 (fun w' => w'.cell? ⟨g, 0, none⟩ = some (str l) ∧ w'.cell? ⟨g, 1, none⟩ = some (.int .i64 (p : Int))) (go_keep)
    ((go_at_call 89; rw [extract_rest]; refine (newReader_any (l.drop p) _).mono ?_; rintro x w' ⟨rfl, rfl⟩))
  all_goals go_wp2_with fail
  all_goals go_ret
  all_goals exact ⟨rfl, by first | exact ((Mod.refl _ _).alloc _) | exact ((Mod.refl _ _).alloc _).drew | exact ((Mod.refl _ _).drew.alloc _).drew | exact ((Mod.refl _ _).drew.alloc _), Blk.new _ _ _⟩

set_option maxRecDepth 20000 in
set_option maxHeartbeats 400000 in
theorem broken_any (g : Nat) (l : List UInt8) (p : Nat) (e : Int) (hp : Hid (p ≤ l.length ∧ l.length ≤ 1073741824)) (w : World) (h : PAt w g l p e) :
    Calls Tryz.prog 94 #[.pointer (some ⟨g, 0, none⟩)] w (Ret (.bool (decide (l[p]? = some 255))) w) := by
  have hr : Hid (RS.ok (RS.new (l.drop p))) := RS.new_ok (by have := hp.out; rw [List.length_drop]; omega)
  go_enter Tryz.func94, Tryz.ntmps94
  go_wp2_with fail
  refine (preader_any g l p e hp _ h).mono ?_
  rintro x w1 ⟨rfl, hb1, hr1⟩
  go_wp2_with fail
  refine (Head_any_r _ _ hr.out _ hr1).mono ?_
  rintro x w2 ⟨rfl, hm2, hr2⟩
  have HB := hid (new_break2 l p)
  generalize (RS.new (List.drop p l)).Head.2.2.2 = o at *
  generalize (RS.new (List.drop p l)).Head.2.1 = m at *
  have hz : Ext w w2 := Mod.new (S := [w.heap.size]) ((hb1.of_ext).trans hm2) (fun k hk => by rw [List.mem_singleton] at hk; subst hk; exact .inr (Nat.le_refl _))
  go_wp2_with fail
  · rename_i h7
    go_ret
    refine Ret.mk ?_ hz
    rw [← HB.out]; simp [h7]
  · rename_i h7
    go_ret
    refine Ret.mk ?_ hz
    rw [← HB.out]; simp [h7]
end Go.Proofs.YtblfmokklfhklaaGreatDoor


namespace Go.Proofs.YtblfmokklfhklaaGreatDoor
open Go.RowKit
set_option linter.unusedVariables false
set_option linter.unusedSimpArgs false

section
variable {P : Program} (w : World)
/-- append to a row of the call's own: the row's block is the same, or new. -/
theorem run_append_own2 (base : Nat) (t ty e : TypeId) (i : TypeInfo) (z : Value) (size bytes : Nat) (ht : P.underlying t = some (.slice e)) (hi : P.info? e = some i) (hz : i.zero = some z)
    (hsize : i.size = size) (hby : i.bytes = bytes) (hzs : z.cells.size = size) (hsz : 0 < size)
    (v : Value) (n : Nat) (xs : List Value) (hown : w.ownsRow base e size v n xs)
    (a : Addr) (m c : Nat) (news : List Value) (hl : news.length = m * size) (hnews : ∀ j u, news[j]? = some u → w.cell? (a.add j) = some u) (h1 : ∀ u ∈ news, u.oneCell' = true)
    (h63 : n + m ≤ maxLen) (hbytes : (n + m) * bytes ≤ 140737488355328) (hbase : base ≤ w.heap.size) :
    ∃ v' w', (Builtin.append_ #[t, t] ty #[v, .slice (some a) m c]).run P w = .ok v' w' ∧ w'.ownsRow base e size v' (n + m) (xs ++ news) ∧ w.grownBy w' v.ownBlock ∧
      (v'.ownBlock = v.ownBlock ∨ ∀ k, v'.ownBlock = some k → w.heap.size ≤ k) := by
  obtain ⟨v', w', hr, h2, h3, h4⟩ := run_append_own (P := P) w base t ty e i z size bytes ht hi hz hsize hby hzs hsz v n xs hown a m c news hl hnews h1 h63 hbytes hbase
  refine ⟨v', w', hr, h2, h3, ?_⟩
  have hown0 := hown
  rcases hown.2 with ⟨rfl, rfl⟩ | ⟨g, cap, cur, rfl, hbg, hg, hnc, hcm, hcs, htake⟩
  · have hx : xs = [] := List.eq_nil_of_length_eq_zero (by simpa using hown.1)
    subst hx
    obtain ⟨v2, w2, hr2, g2, _, _⟩ := run_append_own (P := P) w w.heap.size t ty e i z size bytes ht hi hz hsize hby hzs hsz _ _ _ (World.ownsRow_nil w w.heap.size e size) a m c news hl hnews h1 h63 hbytes (Nat.le_refl _)
    rw [hr] at hr2
    simp only [Result.ok.injEq] at hr2
    obtain ⟨rfl, rfl⟩ := hr2
    exact .inr fun k hk => (g2.lt k hk).1
  · subst hsize
    subst hby
    have hsmall : n + m ≤ 9223372036854775807 := by simp only [maxLen] at h63; omega
    by_cases hroom : n + m ≤ cap
    · have hfit : n * i.size + news.length ≤ cur.size := by rw [hl, hcs, ← Nat.add_mul]; exact Nat.mul_le_mul_right _ hroom
      have hr2 := run_append_room (P := P) w t ty e i ht hi g n cap cur hg a m c news hl hnews h1 hroom hfit
      rw [hr] at hr2
      simp only [Result.ok.injEq] at hr2
      obtain ⟨rfl, rfl⟩ := hr2
      exact .inl rfl
    · have holds : ∀ j u, xs[j]? = some u → w.cell? ((⟨g, 0, none⟩ : Addr).add j) = some u := hown.cells (g := g) rfl
      have hr2 := run_append_grow (P := P) w t ty e i z ht hi hz ⟨g, 0, none⟩ n cap xs hown.1 holds a m c news hl hnews (by omega) (by omega) (growslice_fits (by omega) hbytes)
      rw [hr] at hr2
      simp only [Result.ok.injEq] at hr2
      obtain ⟨rfl, rfl⟩ := hr2
      exact .inr fun k hk => by simp [Value.ownBlock] at hk; omega
theorem wpList_append_own2 {ops : Array Oper} {rest : List Oper} {o : Oper} {a : Act} {Q : Exit → Act → World → Prop} (hgd : o.guard = none) (s x : Operand) (t : TypeId)
    (ho : o.op = .call { callee := .builtin .append, args := #[s, x], argTypes := #[t, t] })
    (base : Nat) (e : TypeId) (i : TypeInfo) (z : Value) (size bytes : Nat) (ht : P.underlying t = some (.slice e)) (hi : P.info? e = some i) (hz : i.zero = some z)
    (hsize : i.size = size) (hby : i.bytes = bytes) (hzs : z.cells.size = size) (hsz : 0 < size)
    (v : Value) (n : Nat) (xs : List Value) (hs : a.eval s = v) (hown : w.ownsRow base e size v n xs)
    (ad : Addr) (m c : Nat) (news : List Value) (hx : a.eval x = .slice (some ad) m c) (hl : news.length = m * size) (hnews : ∀ j u, news[j]? = some u → w.cell? (ad.add j) = some u) (h1 : ∀ u ∈ news, u.oneCell' = true)
    (h63 : n + m ≤ maxLen) (hbytes : (n + m) * bytes ≤ 140737488355328) (hbase : base ≤ w.heap.size)
    (h : ∀ v' w', w'.ownsRow base e size v' (n + m) (xs ++ news) → w.grownBy w' v.ownBlock → (v'.ownBlock = v.ownBlock ∨ ∀ k, v'.ownBlock = some k → w.heap.size ≤ k) → wpList P ops Q rest (a.put o.dst v') w') : wpList P ops Q (o :: rest) a w :=
  wpList_plain hgd fun K hK => by
    obtain ⟨v', w', hr, h2, h3, h4⟩ := run_append_own2 (P := P) w base t o.type e i z size bytes ht hi hz hsize hby hzs hsz v n xs hown ad m c news hl hnews h1 h63 hbytes hbase
    unfold Oper.wp execOp
    simp only [ho, resolve, invoke, builtin, Sem.run_bind, Sem.run_pure, Result.andThen_ok, List.map_toArray, List.map_cons, List.map_nil, hs, hx, hr]
    exact hK _ _ (h v' w' h2 h3 h4)
end

/-- What a round keeps: i items have come, as far as e. -/
structure LOk (w : World) (g X N p : Nat) (l : List UInt8) (o : Bool) (n d sz : Nat) (F : Nat × Int) (wr : World) (i e : Nat) (A : Option Addr) (c : Nat) (ch : Nat → T) (ac : Nat → Option Addr × Nat) : Prop where
  i1000 : i ≤ 1000
  iN : o = false → i ≤ n
  fl : floop (flt d) (l.drop p) o n (1000 - i) e = F
  le : p + e ≤ l.length
  cat : (l.drop p).drop sz = T.cat (fun j => (ch j).bytes) i ++ (l.drop p).drop e
  kids : ∀ j, j < i → (ch j).right d = true ∧ (ch j).ok
  mod : Mod [g] w wr
  nx : N ≤ wr.heap.size
  x : Blk wr X 47 #[.int .i64 4, .int .u64 0, str [], .slice A i c, .bool o]
  pa : PAt wr g l (p + e) 0
  own : wr.ownsRow N 47 5 (.slice A i c) i (flatC ch ac i)
  mem : ∀ j, j < i → IsC wr (fun b => N ≤ b ∧ A ≠ some ⟨b, 0, none⟩) (ch j) (ac j).1 (ac j).2

theorem cat_congr {f f' : Nat → List UInt8} {i : Nat} (h : ∀ j, j < i → f j = f' j) : T.cat f i = T.cat f' i := by
  induction i with
  | zero => rfl
  | succ i ih => rw [T.cat, T.cat, ih (fun j hj => h j (by omega)), h i (by omega)]

/-- One more. -/
def put (ch : Nat → T) (i : Nat) (t : T) (j : Nat) : T := if j = i then t else ch j
def putA (ac : Nat → Option Addr × Nat) (i : Nat) (a : Option Addr × Nat) (j : Nat) : Option Addr × Nat := if j = i then a else ac j

theorem LOk.step {w : World} {g X N p : Nat} {l : List UInt8} {o : Bool} {n d sz : Nat} {F : Nat × Int} {wr : World} {i e : Nat} {A : Option Addr} {c : Nat} {ch : Nat → T} {ac : Nat → Option Addr × Nat}
    (h : LOk w g X N p l o n d sz F wr i e A c ch ac) (hg : g < w.heap.size) (hwX : w.heap.size ≤ X) (hXN : X < N) (hi : i < 1000) (hin : o = false → i < n) (hnb : ¬ (o = true ∧ l[p + e]? = some 255))
    {t : T} {At : Option Addr} {ct : Nat} {w2 w4 : World} {v' : Value} (hr0 : (flt d (l.drop (p + e))).2 = 0) (hm2 : Mod [g] wr w2) (hp2 : PAt w2 g l (p + e + (flt d (l.drop (p + e))).1) 0)
    (ht : t.right d = true ∧ t.ok) (htb : t.bytes ++ l.drop (p + e + (flt d (l.drop (p + e))).1) = l.drop (p + e)) (hL : IsC w2 (fun b => wr.heap.size ≤ b) t At ct)
    (hown : w4.ownsRow N 47 5 v' (i + 1) (flatC ch ac i ++ [.int .i64 t.kind, .int .u64 (t.n : Int), str t.s, .slice At t.k ct, .bool t.op])) (hgr : (w2.alloc (.cells (itemC t At ct) 47)).grownBy w4 (Value.slice A i c).ownBlock)
    (hbl : v'.ownBlock = (Value.slice A i c).ownBlock ∨ ∀ k, v'.ownBlock = some k → w2.heap.size ≤ k) :
    ∃ A' c', v' = .slice A' (i + 1) c' ∧ LOk w g X N p l o n d sz F (w4.setCell ⟨X, 3, none⟩ v') (i + 1) (e + (flt d (l.drop (p + e))).1) A' c' (put ch i t) (putA ac i (At, ct)) := by
  obtain ⟨h1, h2, h3, h4, h5, h6, h7, h8, h9, h10, h11, h12⟩ := h
  obtain ⟨g', c', rfl, hNg, hgl⟩ := own_form hown
  refine ⟨some ⟨g', 0, none⟩, c', rfl, ?_⟩
  have hlt := h11.lt
  have hXr : X < wr.heap.size := h9.lt
  have hgr2 : g < wr.heap.size := h10.lt
  have hs2 := hm2.size
  have hrow : ∀ k, (Value.slice A i c).ownBlock = some k → N ≤ k ∧ k < wr.heap.size := hlt
  obtain ⟨S, hS⟩ : ∃ S : List Nat, ∀ k, k ∈ S ↔ (Value.slice A i c).ownBlock = some k := by
    cases A with
    | none => exact ⟨[], fun k => by simp [Value.ownBlock]⟩
    | some a => exact ⟨[a.block], fun k => by simp [Value.ownBlock, eq_comm]⟩
  have hm4 : Mod S w2 w4 := ((Mod.refl S w2).alloc _).grown hgr (fun k hk => .inl ((hS k).2 hk))
  have hsz4 := hm4.size
  have hX4 : X ∉ S := fun hk => by have := hrow X ((hS X).1 hk); omega
  have hg4 : g ∉ S := fun hk => by have := hrow g ((hS g).1 hk); omega
  have hxg : X ≠ g := by omega
  have b4 : Blk w4 X 47 #[.int .i64 4, .int .u64 0, str [], .slice A i c, .bool o] := (h9.mod hm2 (by simpa using hxg)).mod hm4 hX4
  have p4 : PAt w4 g l (p + e + (flt d (l.drop (p + e))).1) 0 := Blk.mod hp2 hm4 hg4
  have hmW : Mod (X :: S) w2 (w4.setCell ⟨X, 3, none⟩ (.slice (some ⟨g', 0, none⟩) (i + 1) c')) := (hm4.mono (fun k hk => List.mem_cons_of_mem _ hk)).setCell (p := ⟨X, 3, none⟩) (.inl List.mem_cons_self) _
  have hA' : ∀ b, b < wr.heap.size → N ≤ b → A ≠ some ⟨b, 0, none⟩ → (some ⟨g', 0, none⟩ : Option Addr) ≠ some ⟨b, 0, none⟩ := by
    intro b hb hN hne he
    simp only [Option.some.injEq, Addr.mk.injEq, and_true] at he
    subst he
    rcases hbl with hbl | hbl
    · cases A with
      | none => simp [Value.ownBlock] at hbl
      | some a =>
        have hs := h11.2
        simp [Value.ownBlock] at hbl
        rcases hs with ⟨hs, _⟩ | ⟨q, cap, cur, hs, _⟩
        · cases hs
        · simp only [Value.slice.injEq, Option.some.injEq] at hs
          obtain ⟨rfl, _⟩ := hs
          simp at hbl
          subst hbl
          exact hne rfl
    · have := hbl g' rfl; omega
  have hle := flt_le d (l.drop (p + e))
  rw [List.length_drop] at hle
  refine ⟨by omega, fun ho => hin ho, ?_, by omega, ?_, ?_, ?_, ?_, ?_, ?_, ?_, ?_⟩
  · rw [← h3, show 1000 - i = (1000 - (i + 1)) + 1 by omega]
    conv => rhs; unfold floop
    rw [if_neg (by rintro ⟨ho, hn⟩; have := hin ho; omega), List.getElem?_drop, if_neg hnb, List.drop_drop, if_pos hr0]
  · rw [h5, T.cat, show put ch i t i = t from if_pos rfl, List.append_assoc]
    congr 1
    · exact cat_congr fun j hj => by rw [show put ch i t j = ch j from if_neg (by omega)]
    · rw [List.drop_drop, List.drop_drop, ← Nat.add_assoc]; exact htb.symm
  · intro j hj
    by_cases e : j = i
    · subst e; rw [show put ch j t j = t from if_pos rfl]; exact ht
    · rw [show put ch i t j = ch j from if_neg e]; exact h6 j (by omega)
  · refine Mod.new (S := g :: X :: S) (((h7.trans hm2).mono (fun k hk => by rw [List.mem_singleton] at hk; subst hk; exact List.mem_cons_self)).trans (hmW.mono (fun k hk => List.mem_cons_of_mem _ hk))) ?_
    intro k hk
    rcases List.mem_cons.1 hk with rfl | hk
    · exact .inl (List.mem_singleton.2 rfl)
    · rcases List.mem_cons.1 hk with rfl | hk
      · exact .inr hwX
      · have := hrow k ((hS k).1 hk)
        exact .inr (by omega)
  · have := hmW.size; omega
  · have := b4.set_ 3 (.slice (some ⟨g', 0, none⟩) (i + 1) c')
    simpa using this
  · rw [← Nat.add_assoc]
    exact Blk.far p4 (by simpa using fun e => hxg e.symm) _
  · rw [flatC, flatC_congr (ch := put ch i t) (ac := putA ac i (At, ct)) (ch' := ch) (ac' := ac) (fun j hj => ⟨if_neg (by omega), if_neg (by omega)⟩), show put ch i t i = t from if_pos rfl, show putA ac i (At, ct) i = (At, ct) from if_pos rfl]
    exact ownsRow_setCell_other hown (by simp [Value.ownBlock]; omega) _
  · intro j hj
    by_cases e : j = i
    · subst e
      rw [show put ch j t j = t from if_pos rfl, show putA ac j (At, ct) j = (At, ct) from if_pos rfl]
      have hS2 : ∀ k, k ∈ X :: S → k < wr.heap.size := fun k hk => by
        rcases List.mem_cons.1 hk with rfl | hk
        · exact hXr
        · exact (hrow k ((hS k).1 hk)).2
      have q1 : IsC w2 (fun b => wr.heap.size ≤ b ∧ (some ⟨g', 0, none⟩ : Option Addr) ≠ some ⟨b, 0, none⟩) t At ct := IsC.weak (fun k hk hq => ⟨hq, fun he => by
        simp only [Option.some.injEq, Addr.mk.injEq, and_true] at he
        subst he
        rcases hbl with hbl | hbl
        · have := (hrow g' hbl.symm).2; omega
        · have := hbl g' rfl; omega⟩) t hL
      have q2 := IsC.mod hmW (fun k hq hk hm => by have := hS2 k hm; have := hq.1; omega) t q1
      exact IsC.weak (fun k hk hq => ⟨by have := hq.1; omega, hq.2⟩) t q2
    · rw [show put ch i t j = ch j from if_neg e, show putA ac i (At, ct) j = ac j from if_neg e]
      have q0 := IsC.weak (R := fun b => N ≤ b ∧ A ≠ some ⟨b, 0, none⟩ ∧ (some ⟨g', 0, none⟩ : Option Addr) ≠ some ⟨b, 0, none⟩) (fun k hk hq => ⟨hq.1, hq.2, hA' k hk hq.1 hq.2⟩) (ch j) (h12 j (by omega))
      have q1 := IsC.mod hm2 (fun k hq hk hm => by rw [List.mem_singleton] at hm; subst hm; have := hq.1; omega) (ch j) q0
      have q2 := IsC.mod hmW (fun k hq hk hm => by
        rcases List.mem_cons.1 hm with rfl | hm
        · have := hq.1; omega
        · have hk2 := (hS k).1 hm
          cases A with
          | none => simp [Value.ownBlock] at hk2
          | some a =>
            simp [Value.ownBlock] at hk2
            rcases h11.2 with ⟨hs, _⟩ | ⟨q, cap, cur, hs, _⟩
            · cases hs
            · simp only [Value.slice.injEq, Option.some.injEq] at hs
              obtain ⟨rfl, _⟩ := hs
              simp at hk2
              subst hk2
              exact hq.2.1 rfl) (ch j) q1
      exact IsC.weak (fun k hk hq => ⟨hq.1, hq.2.2⟩) (ch j) q2
end Go.Proofs.YtblfmokklfhklaaGreatDoor
