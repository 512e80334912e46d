/-
  Tables (int by int): Push and Keys.
-/
import Derived.Test.YtmcehdinkghlfaaTab3ii
namespace Go.Proofs.Ytmcehdinkghlfaa.Tii
open Go.RowKit Go.Shelf
set_option linter.unusedVariables false

theorem Mod.join {S T : List Nat} {a b c : World} (h1 : Mod S a b) (h2 : Mod T b c) (hT : ∀ k, k ∈ T → k ∈ S ∨ a.heap.size ≤ k) : Mod S a c :=
  ⟨h2.os.trans h1.os, h2.tape.trans h1.tape, h2.output.trans h1.output, Nat.le_trans h1.size h2.size, fun i hi hs => (h2.block i (Nat.lt_of_lt_of_le hi h1.size) (fun hm => (hT i hm).elim hs (fun hle => Nat.not_le_of_lt hi hle))).trans (h1.block i hi hs)⟩

/-- The table after Push; the key that went, and whether one went. -/
def pushR (most : Nat) (es : List Ent) (k : Int) (v : Int) : List Ent × Option (Int) :=
  if (putR most es k v).2 = 0 ∨ most = 0 then ((putR most es k v).1, none)
  else match es with
    | [] => (es, none)
    | e :: r => ((putR most (dropR (e :: r) e.1).1 k v).1, some e.1)
def goneV : Option (Int) → Value
  | none => .tuple #[.int .i64 0, .bool false]
  | some k => .tuple #[.int .i64 k, .bool true]
def Push_post (t : Nat) (most : Nat) (A : Option Addr) (es : List Ent) (k : Int) (v : Int) (w : World) (e : Ending) (w' : World) : Prop :=
  ∃ A' cap', e = .returned (goneV (pushR most es k v).2) ∧ Mod (t :: blksT A) w w' ∧ Tab w' t most A' cap' (pushR most es k v).1 ∧ ∀ k, k ∈ blksT A' → k ∈ blksT A ∨ w.heap.size ≤ k

theorem putR_e (most : Nat) (es : List Ent) (k : Int) (v : Int) : (putR most es k v).2 = 0 ∨ ((putR most es k v).2 = 9 ∧ (putR most es k v).1 = es ∧ most ≤ es.length) := by
  unfold putR
  split
  · exact .inl rfl
  · split
    · rename_i h; exact .inr ⟨rfl, rfl, h⟩
    · exact .inl rfl

set_option maxRecDepth 20000 in
set_option maxHeartbeats 800000 in
theorem Push_in (t most : Nat) (A : Option Addr) (cap : Nat) (es : List Ent) (k : Int) (v : Int) (hp : Hid ((putR most es k v).2 = 0 ∨ most = 0)) (hl : Hid (es.length < 100000)) (w : World) (h : Hid (Tab w t most A cap es)) :
    Calls Try.prog 23 #[.pointer (some ⟨t, 0, none⟩), .int .i64 k, .int .i64 v] w (Push_post t most A es k v w) := by
  have hr : Hid (pushR most es k v = ((putR most es k v).1, none)) := by unfold pushR Hid; rw [if_pos hp.out]
  rcases putR_e most es k v with e0 | ⟨e9, _⟩
  · have E0 := hid e0
    clear e0
    go_enter Try.func23, Try.ntmps23
    go_wp2_with fail
    refine (Put_any t most A cap es k v hl.out _ h.out).mono ?_; rintro e w1 ⟨A', cap', rfl, hm1, hT1, hb1⟩
    rw [E0.out]
    go_wp2_with fail
    go_ret2
    rw [Push_post, hr.out]
    exact ⟨A', cap', rfl, hm1, hT1, hb1⟩
  · have hm0 : most = 0 := by
      rcases hp.out with h | h
      · rw [e9] at h; exact absurd h (by decide)
      · exact h
    subst hm0
    have E9 := hid e9
    clear e9
    go_enter Try.func23, Try.ntmps23
    go_wp2_with fail
    refine (Put_any t 0 A cap es k v hl.out _ h.out).mono ?_; rintro e w1 ⟨A', cap', rfl, hm1, hT1, hb1⟩
    have d0 : w1.cell? ⟨t, 0, none⟩ = some (.int .i64 0) := hT1.1.cell 0
    rw [E9.out]
    go_wp2_with fail
    go_ret2
    rw [Push_post, hr.out]
    exact ⟨A', cap', rfl, hm1, hT1, hb1⟩

set_option maxRecDepth 20000 in
set_option maxHeartbeats 1600000 in
theorem Push_out (t most : Nat) (A : Option Addr) (cap : Nat) (es : List Ent) (k : Int) (v : Int) (hp : Hid (¬ ((putR most es k v).2 = 0 ∨ most = 0))) (hl : Hid (es.length < 100000)) (hmo : Hid (most < 100000)) (w : World) (h : Hid (Tab w t most A cap es)) :
    Calls Try.prog 23 #[.pointer (some ⟨t, 0, none⟩), .int .i64 k, .int .i64 v] w (Push_post t most A es k v w) := by
  have hm0 : most ≠ 0 := fun h => hp.out (.inr h)
  obtain ⟨e9, e10, hle⟩ : (putR most es k v).2 = 9 ∧ (putR most es k v).1 = es ∧ most ≤ es.length := by
    rcases putR_e most es k v with e0 | e9
    · exact absurd (.inl e0) hp.out
    · exact e9
  have tm : ((most : Int) == 0) = false := by simp; omega
  have tm2 : (most = 0) = False := by simp [hm0]
  cases es with
  | nil => simp at hle; omega
  | cons e0 r0 =>
    obtain ⟨y0, y1⟩ := e0
    have hr : Hid (pushR most ((y0, y1) :: r0) k v = ((putR most (dropR ((y0, y1) :: r0) y0).1 k v).1, some y0)) := by unfold pushR Hid; rw [if_neg hp.out]
    have E9 := hid e9; have E10 := hid e10
    have hl1 : (0 : Int) < (((y0, y1) :: r0 : List Ent).length : Int) := by first | (simp; done) | (simp; omega)
    have hdl : Hid ((dropR ((y0, y1) :: r0) y0).1.length < 100000) := by
      have := hl.out
      unfold dropR Hid
      split
      · rw [List.length_eraseIdx]; split <;> omega
      · exact this
    clear e9 e10 hle hm0
    go_enter Try.func23, Try.ntmps23
    go_wp2_with fail
    refine (Put_any t most A cap _ k v hl.out _ h.out).mono ?_; rintro e w1 ⟨A1, cap1, rfl, hm1, hT1, hb1⟩
    rw [E10.out] at hT1
    obtain ⟨g, rfl, hgl, c0, c1, z0⟩ := hT1.2.1.cells (j := 0) (by simp)
    have d0 : w1.cell? ⟨t, 0, none⟩ = some (.int .i64 (most : Int)) := hT1.1.cell 0
    have d1 : w1.cell? ⟨t, 1, none⟩ = some (.slice (some ⟨g, 0, none⟩) ((y0, y1) :: r0 : List Ent).length cap1) := hT1.1.cell 1
    have HT1 := hid hT1; have HM1 := hid hm1; have HB1 := hid hb1
    clear hT1 hm1 hb1
    rw [E9.out]
    simp only [List.getElem_cons_zero, Nat.zero_mul, Nat.zero_add] at c0 c1
    go_wp2_with fail
    refine (Drop_any t most _ cap1 _ y0 hl.out _ HT1.out).mono ?_; rintro e w2 ⟨rfl, hm2, hT2⟩
    have HT2 := hid hT2; have HM2 := hid hm2
    clear hT2 hm2
    go_wp2_with fail
    refine (Put_any t most _ cap1 _ k v hdl.out _ HT2.out).mono ?_; rintro e w3 ⟨A3, cap3, rfl, hm3, hT3, hb3⟩
    go_wp2_with fail
    go_ret2
    rw [Push_post, hr.out]
    have hg1 : ∀ q, q ∈ t :: blksT (some ⟨g, 0, none⟩) → q ∈ t :: blksT A ∨ w.heap.size ≤ q := fun q hq => by
      simp only [List.mem_cons] at hq
      rcases hq with rfl | hq
      · exact .inl (by simp)
      · rcases HB1.out q hq with h | h
        · exact .inl (List.mem_cons_of_mem _ h)
        · exact .inr h
    have hs1 := HM1.out.size
    have hs2 := HM2.out.size
    have hm23 : Mod (t :: blksT A) w w3 := Mod.join HM1.out (HM2.out.trans hm3) hg1
    refine ⟨A3, cap3, rfl, hm23, hT3, fun q hq => ?_⟩
    rcases hb3 q hq with h | h
    · exact HB1.out q h
    · exact .inr (by omega)

theorem Push_any (t most : Nat) (A : Option Addr) (cap : Nat) (es : List Ent) (k : Int) (v : Int) (hl : es.length < 100000) (hmo : most < 100000) (w : World) (h : Tab w t most A cap es) :
    Calls Try.prog 23 #[.pointer (some ⟨t, 0, none⟩), .int .i64 k, .int .i64 v] w (Push_post t most A es k v w) := by
  by_cases hp : (putR most es k v).2 = 0 ∨ most = 0
  · exact Push_in t most A cap es k v hp hl w h
  · exact Push_out t most A cap es k v hp hl hmo w h
end Go.Proofs.Ytmcehdinkghlfaa.Tii
