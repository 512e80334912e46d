/-
  Tables (string by bool): the keys alone.
-/
import Derived.Test.YtmcehdinkghlfaaTab5sb
import Derived.Test.YtmcehdinkghlfaaTabPlain
namespace Go.Proofs.Ytmcehdinkghlfaa.Tsb
open Go.RowKit Go.Shelf
set_option linter.unusedVariables false

def keys (es : List Ent) : List (List UInt8) := es.map (·.1)
theorem keys_length (es : List Ent) : (keys es).length = es.length := by simp [keys]
theorem find_keys (es : List Ent) (k : List UInt8) : (keys es).findIdx (fun x => x == k) = es.findIdx (isK k) := findIdx_map' _ _ _
theorem put_keys (most : Nat) (es : List Ent) (k : List UInt8) (v : Bool) : keys (putR most es k v).1 = (putK most (keys es) k).1 ∧ (putR most es k v).2 = (putK most (keys es) k).2 := by
  unfold putR putK
  rw [find_keys, keys_length]
  by_cases h : es.findIdx (isK k) < es.length
  · rw [dif_pos h, if_pos h]
    refine ⟨?_, rfl⟩
    unfold keys
    rw [List.map_set]
    apply List.ext_getElem
    · simp
    · intro i h1 h2
      rw [List.getElem_set]
      split
      · rename_i e; simp only [← e, List.getElem_map]
      · rfl
  · rw [dif_neg h, if_neg h]
    split
    · exact ⟨rfl, rfl⟩
    · exact ⟨by simp [keys], rfl⟩
theorem drop_keys (es : List Ent) (k : List UInt8) : keys (dropR es k).1 = (dropK (keys es) k).1 ∧ (dropR es k).2 = (dropK (keys es) k).2 := by
  unfold dropR dropK
  rw [find_keys, keys_length]
  split
  · exact ⟨(eraseIdx_map' _ _ _).symm, rfl⟩
  · exact ⟨rfl, rfl⟩
theorem push_keys (most : Nat) (es : List Ent) (k : List UInt8) (v : Bool) : keys (pushR most es k v).1 = (pushK most (keys es) k).1 ∧ (pushR most es k v).2 = (pushK most (keys es) k).2 := by
  unfold pushR pushK
  rw [(put_keys most es k v).2]
  split
  · exact ⟨(put_keys most es k v).1, rfl⟩
  · cases es with
    | nil => exact ⟨rfl, rfl⟩
    | cons e r =>
      have h := put_keys most (dropR (e :: r) e.1).1 k v
      rw [(drop_keys (e :: r) e.1).1] at h
      exact ⟨h.1, rfl⟩
end Go.Proofs.Ytmcehdinkghlfaa.Tsb
