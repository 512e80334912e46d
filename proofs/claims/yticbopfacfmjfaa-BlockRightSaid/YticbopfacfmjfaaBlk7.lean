/-
  A block's item and bytes, whatever its sum.
-/
import Derived.Test.YticbopfacfmjfaaBlk6
namespace Go.Proofs.Yticbopfacfmjfaa
open Go.RowKit
set_option linter.unusedVariables false

theorem blkT_last {ty num fl crc : Nat} {data s t : List UInt8} (hc : ¬ crc = 0) (ch : Nat → T) (hch : blkT ty num fl crc data s = T.mk 4 0 [] false 6 ch) : lastT ch t = blkT ty num fl crc data t := by
  unfold blkT at hch ⊢
  rw [if_neg hc] at hch ⊢
  have h := (T.mk.inj hch).2.2.2.2.2
  subst h
  unfold lastT
  congr 1
  funext i
  by_cases e : i = 5
  · subst e; simp
  · simp [e]
theorem blkT_right {ty num fl crc : Nat} {data s : List UInt8} (d : Nat) (hd : 2 ≤ d) : (blkT ty num fl crc data s).right d = true := by
  unfold blkT T.right
  rw [if_neg (by omega)]
  simp only [Bool.and_eq_true]
  constructor
  · split <;> rfl
  · rw [T.all_iff]
    intro i hi
    have hi6 : i < 6 := by split at hi <;> omega
    have hd1 : ¬ d - 1 < 1 := by omega
    have h6 : i = 0 ∨ i = 1 ∨ i = 2 ∨ i = 3 ∨ i = 4 ∨ i = 5 := by omega
    rcases h6 with rfl | rfl | rfl | rfl | rfl | rfl <;> simp [numT, strT, T.right, hd1, T.node, T.all]
theorem blkT_plain {ty num fl crc : Nat} {data s : List UInt8} : (blkT ty num fl crc data s).plain = true := by
  unfold blkT T.plain
  simp only [Bool.and_eq_true]
  constructor
  · split <;> rfl
  · rw [T.all_iff]
    intro i hi
    have hi6 : i < 6 := by split at hi <;> omega
    have h6 : i = 0 ∨ i = 1 ∨ i = 2 ∨ i = 3 ∨ i = 4 ∨ i = 5 := by omega
    rcases h6 with rfl | rfl | rfl | rfl | rfl | rfl <;> simp [numT, strT, T.plain, T.node, T.all]
theorem sum_le {f : Nat → Nat} {B : Nat} (h : ∀ i, f i ≤ B) : ∀ k, T.sum f k ≤ k * B
  | 0 => by simp [T.sum]
  | k + 1 => by have := sum_le h k; have := h k; rw [T.sum, Nat.succ_mul]; omega
theorem blkT_size {ty num fl crc : Nat} {data s : List UInt8} (h5 : data.length ≤ 4000) (h6 : s.length ≤ 4000) : (blkT ty num fl crc data s).size ≤ 100000 := by
  have hs : ∀ k, k ≤ 6 → ∀ f : Nat → Nat, (∀ i, f i ≤ 4001) → 1 + ([] : List UInt8).length + T.sum f k ≤ 100000 := fun k hk f hf => by
    have := sum_le hf k
    have : k * 4001 ≤ 6 * 4001 := Nat.mul_le_mul_right _ hk
    simp
    omega
  unfold blkT T.size
  refine hs _ (by split <;> omega) _ (fun i => ?_)
  dsimp only
  split
  · simp [numT, T.size, T.sum]
  · split
    · simp [numT, T.size, T.sum]
    · split
      · simp [numT, T.size, T.sum]
      · split
        · simp [numT, T.size, T.sum]
        · split
          · simp [strT, T.size, T.sum]; omega
          · split
            · simp [strT, T.size, T.sum]; omega
            · simp [T.size]

/-- A block's item's bytes. -/
def blkB (ty num fl crc : Nat) (data sum : List UInt8) : List UInt8 :=
  headL 4 (if crc = 0 then 5 else 6) ++ headL 0 ty ++ headL 0 num ++ headL 0 fl ++ headL 0 crc ++ (headL 2 data.length ++ data) ++ (if crc = 0 then [] else headL 2 sum.length ++ sum)
theorem blkT_bytes (ty num fl crc : Nat) (data sum : List UInt8) : (blkT ty num fl crc data sum).bytes = blkB ty num fl crc data sum := by
  unfold blkT blkB
  by_cases hc : crc = 0
  · subst hc
    simp [T.bytes, T.cat, numT, strT]
  · simp [hc, T.bytes, T.cat, numT, strT]
theorem blkB_length {ty num fl crc : Nat} {data sum : List UInt8} (h5 : data.length ≤ 4000) (h6 : sum.length ≤ 4000) : (blkB ty num fl crc data sum).length < 1000000 := by
  have a1 := headL_le 4 5
  have a0 := headL_le 4 6
  have a2 := headL_le 0 ty
  have a3 := headL_le 0 num
  have a4 := headL_le 0 fl
  have a5 := headL_le 0 crc
  have a6 := headL_le 2 data.length
  have a7 := headL_le 2 sum.length
  unfold blkB
  simp only [List.length_append]
  split <;> simp <;> omega
/-- The right sum of a block. -/
def sumB (ty num fl crc : Nat) (data : List UInt8) : List UInt8 := if crc = 0 then [] else Crc.sumL crc (blkB ty num fl crc data (List.replicate (2 * crc) 0))
def finT (ty num fl crc : Nat) (data : List UInt8) : T := blkT ty num fl crc data (sumB ty num fl crc data)
theorem sumB_length {ty num fl crc : Nat} {data : List UInt8} (hc : crc ≤ 2) : (sumB ty num fl crc data).length = 2 * crc := by
  unfold sumB
  split
  · subst crc; rfl
  · exact Crc.sumL_length (by omega) hc _
theorem sumOf {ty num fl crc : Nat} {data : List UInt8} (h1 : ty ≤ 65535) (h2 : num ≤ 65535) (h3 : fl ≤ 255) (h4 : crc ≤ 2) (h5 : data.length ≤ 4000) :
    Hid (∀ N A c W, N ≤ W.heap.size → IsL W (fun b => N ≤ b) (blkT ty num fl crc data []) A → Calls Try.prog 16 #[.int .i64 (crc : Int), itemV (blkT ty num fl crc data []) A c] W (fun e w' => ∃ A c, e = .returned (itemV (finT ty num fl crc data) A c) ∧ Ext W w' ∧ IsL w' (fun b => N ≤ b) (finT ty num fl crc data) A)) := by
  intro N A c W hN hI
  by_cases hc : crc = 0
  · subst hc
    exact (summed_0 _ A c W).mono fun e w' ⟨he, hb⟩ => ⟨A, c, he, hb, hI.ext hb⟩
  · obtain ⟨ch, hch⟩ : ∃ ch, blkT ty num fl crc data [] = T.mk 4 0 [] false 6 ch := ⟨_, by unfold blkT; rw [if_neg hc]⟩
    have hl : ∀ t, lastT ch t = blkT ty num fl crc data t := fun t => blkT_last hc ch hch
    have hZ : (List.replicate (2 * crc) (0 : UInt8)).length ≤ 4000 := by simp; omega
    have hB : bldL (lastT ch (List.replicate (2 * crc) 0)) = blkB ty num fl crc data (List.replicate (2 * crc) 0) := by
      rw [hl, bldL, blkT_right 8 (by omega), if_pos rfl, blkT_bytes]
    have h := summed_any ch crc (by unfold Hid; omega) h4 (by rw [hl]; exact ⟨blkT_ok h1 h2 h3 h4 h5 hZ, blkT_size h5 hZ⟩) (by rw [hB]; exact blkB_length h5 hZ) N A c W hN (by rw [hch] at hI; exact hI)
    rw [hB, hl] at h
    have he : finT ty num fl crc data = blkT ty num fl crc data (Crc.sumL crc (blkB ty num fl crc data (List.replicate (2 * crc) 0))) := by unfold finT sumB; rw [if_neg hc]
    rw [← he] at h
    rw [hch]
    exact h
theorem finV {ty num fl crc : Nat} {data : List UInt8} : buildV (finT ty num fl crc data) = .tuple #[str (blkB ty num fl crc data (sumB ty num fl crc data)), .int .i64 0] := by
  unfold buildV finT
  rw [blkT_right 8 (by omega), if_pos rfl, blkT_bytes]
theorem Build_any (ty num fl crc : Nat) (data : List UInt8) (hb : BV.right ⟨ty, num, fl, crc, data⟩ = 0) (w : World) : Calls Try.prog 8 #[BV.v ⟨ty, num, fl, crc, data⟩] w (Ret (.tuple #[str (blkB ty num fl crc data (sumB ty num fl crc data)), .int .i64 0]) w) := by
  have h := BV.right_zero hb
  simp only [] at h
  have hs := sumB_length (ty := ty) (num := num) (fl := fl) (data := data) (show crc ≤ 2 by omega)
  rw [← finV]
  exact Build_ok ty num fl crc data hb (finT ty num fl crc data) (blkT_ok (by omega) (by omega) (by omega) (by omega) (by omega) (by omega)) (blkT_size (by omega) (by omega)) (sumOf (by omega) (by omega) (by omega) (by omega) (by omega)) w
theorem Item_any (ty num fl crc : Nat) (data : List UInt8) (hb : BV.right ⟨ty, num, fl, crc, data⟩ = 0) (w : World) : Calls Try.prog 7 #[BV.v ⟨ty, num, fl, crc, data⟩] w (fun e w' => ∃ A c, e = .returned (.tuple #[itemV (finT ty num fl crc data) A c, .int .i64 0]) ∧ Ext w w' ∧ IsL w' (fun b => w.heap.size ≤ b) (finT ty num fl crc data) A) := by
  have h := BV.right_zero hb
  simp only [] at h
  exact Item_ok ty num fl crc data hb _ (sumOf (by omega) (by omega) (by omega) (by omega) (by omega)) w
end Go.Proofs.Yticbopfacfmjfaa
