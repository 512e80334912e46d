/-
  Arrays in arrays: right up to eight levels; where the ninth is refused.
-/
import Derived.Test.YtmekhofncflhaaaBuilds
namespace Go.Proofs.Ytmekhofncflhaaa
open Go.RowKit
set_option linter.unusedVariables false

def nestT (o : Bool) : Nat → T
  | 0 => numT 7
  | i + 1 => T.mk 4 0 [] o 1 fun _ => nestT o i
theorem nest_ok (o : Bool) (i : Nat) : (nestT o i).ok := by
  induction i with
  | zero => unfold nestT numT T.ok; exact ⟨by omega, by omega, by simp, by omega, fun i hi => by omega⟩
  | succ i ih => unfold nestT T.ok; exact ⟨by omega, by omega, by simp, by omega, fun _ _ => ih⟩
theorem nest_size (o : Bool) (i : Nat) : (nestT o i).size = i + 1 := by
  induction i with
  | zero => rfl
  | succ i ih => unfold nestT T.size; simp [T.sum, ih]; omega
theorem nest_right (o : Bool) (i : Nat) : ∀ d, (nestT o i).right d = decide (i < d) := by
  induction i with
  | zero =>
    intro d
    unfold nestT numT T.right T.node
    cases d <;> simp [T.all]
  | succ i ih =>
    intro d
    unfold nestT T.right T.node
    cases d with
    | zero => simp
    | succ d => simp [T.all, ih]
theorem nest_plain (o : Bool) (i : Nat) : (nestT o i).plain = true := by
  have h := nest_right o i (i + 1)
  rw [T.right_eq] at h
  simp at h
  exact h.2
theorem nest_bytes (o : Bool) (i : Nat) : (nestT o (i + 1)).bytes = (if o then [159] else [129]) ++ ((nestT o i).bytes ++ (if o then [255] else [])) := by
  have e : (nestT o (i + 1)).bytes = (if o then [159] else headL 4 1) ++ (T.cat (fun _ => (nestT o i).bytes) 1 ++ (if o then [255] else [])) := rfl
  rw [e, show headL 4 1 = [129] from by decide]
  simp [T.cat]
theorem nest_len (o : Bool) (i : Nat) : (nestT o i).bytes.length ≤ 2 * i + 1 := by
  induction i with
  | zero => exact Nat.le_of_eq rfl
  | succ i ih =>
    rw [nest_bytes, List.length_append, List.length_append]
    cases o <;> simp <;> omega
theorem nest_flt (o : Bool) (d : Nat) : ∀ i x, d ≤ i → flt d ((nestT o i).bytes ++ x) = (d, 3) := by
  induction d with
  | zero =>
    intro i x _
    have h := T.readH_bytes _ (nest_plain o i) (nest_ok o i) x
    cases i with
    | zero => exact flt_deep (sz := 1) (m := 0) (n := 7) (o := false) h rfl
    | succ i =>
      have hhd : (nestT o (i + 1)).hd = (1, 4, if o then 0 else 1, o) := by cases o <;> rfl
      rw [hhd] at h
      exact flt_deep h rfl
  | succ d ih =>
    intro i x hi
    obtain ⟨j, rfl⟩ : ∃ j, i = j + 1 := ⟨i - 1, by omega⟩
    have h := T.readH_bytes _ (nest_plain o (j + 1)) (nest_ok o (j + 1)) x
    have hi2 := ih j ((if o then [255] else []) ++ x) (by omega)
    have hd1 : ((nestT o (j + 1)).bytes ++ x).drop 1 = (nestT o j).bytes ++ ((if o then [255] else []) ++ x) := by
      rw [nest_bytes]; cases o <;> simp
    have hhd : (nestT o (j + 1)).hd = (1, 4, if o then 0 else 1, o) := by cases o <;> rfl
    rw [hhd] at h
    rw [flt_arr h (by cases o <;> simp)]
    rw [show (1000 : Nat) = 999 + 1 from rfl]
    unfold floop
    rw [if_neg (by cases o <;> simp), hd1, hi2, if_neg, if_neg (by simp)]
    · simp; omega
    · rintro ⟨_, h255⟩
      obtain ⟨v, hv⟩ := get_255.1 h255
      rw [hd1] at hv
      exact T.bytes_not_break _ (nest_plain o j) (nest_ok o j) _ _ hv
theorem nest_parse (o : Bool) (k : Nat) (hk : 8 ≤ k) : parseR (nestT o k).bytes = (8, 3) := by
  have h := nest_flt o 8 k [] hk
  rw [List.append_nil] at h
  unfold parseR
  rw [h]
  rfl
end Go.Proofs.Ytmekhofncflhaaa
