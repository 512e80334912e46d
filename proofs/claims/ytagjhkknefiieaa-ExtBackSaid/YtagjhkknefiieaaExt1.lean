/-
  A right name's item, by the code and by the reference.
-/
import Derived.Test.YtagjhkknefiieaaEid4
import Derived.Test.YtagjhkknefiieaaRef10b
import Derived.Test.YtagjhkknefiieaaItCode
import Derived.Test.YtagjhkknefiieaaItRef2
namespace Go.Proofs.Ytagjhkknefiieaa
open Go.RowKit
set_option linter.unusedVariables false

theorem EV.ok_cases {e : EV} (h : e.ok = true) : (e = ⟨1, [110, 111, 110, 101], 0, 0⟩) ∨ (∃ name, e = ⟨1, name, 0, 0⟩ ∧ name ≠ [110, 111, 110, 101] ∧ name.length ≤ 60) ∨ (∃ node svc, e = ⟨2, [], node, svc⟩ ∧ node ≤ 4294967295 ∧ svc ≤ 4294967295) := by
  obtain ⟨sch, name, node, svc⟩ := e
  unfold EV.ok at h
  simp only [] at h
  by_cases h1 : sch = 1
  · rw [if_pos h1] at h
    simp only [Bool.and_eq_true, decide_eq_true_eq] at h
    obtain ⟨⟨rfl, rfl⟩, hn⟩ := h
    subst h1
    by_cases h0 : name = [110, 111, 110, 101]
    · subst h0; exact .inl rfl
    · refine .inr (.inl ⟨name, rfl, h0, ?_⟩)
      have h00 : ¬ name = noneL := h0
      simp only [namedL, h00, decide_false, Bool.false_or, Bool.and_eq_true, decide_eq_true_eq] at hn
      by_cases hl : name.length ≤ 60
      · exact hl
      · exfalso
        apply hn.1
        unfold nodeN
        rw [if_neg (fun h => hl h.2)]
  · rw [if_neg h1] at h
    by_cases h2 : sch = 2
    · rw [if_pos h2] at h
      simp only [Bool.and_eq_true, decide_eq_true_eq] at h
      obtain ⟨⟨rfl, ha⟩, hb⟩ := h
      subst h2
      exact .inr (.inr ⟨node, svc, rfl, ha, hb⟩)
    · rw [if_neg h2] at h
      cases h
theorem eidItem_ok (e : EV) (ho : e.ok = true) (w : World) : Calls Try.prog 28 #[e.v] w (fun r w' => ∃ A, r = .returned (.tuple #[itemV (eidT e) A 2, .int .i64 0]) ∧ Ext w w' ∧ IsL w' (fun b => w.heap.size ≤ b) (eidT e) A) := by
  rcases EV.ok_cases ho with rfl | ⟨name, rfl, hn, hl⟩ | ⟨node, svc, rfl, ha, hb⟩
  · exact eidItem_none w
  · exact eidItem_dtn name (by unfold Hid; omega) hn ho w
  · have e1 : eidT ⟨2, [], node, svc⟩ = ipnT node svc := rfl
    rw [e1]
    exact eidItem_ipn node svc ha hb w
theorem text_ok {s : List UInt8} (h : s.length < 4611686018427387904) : (textT s).ok := by unfold textT T.ok; exact ⟨by omega, by omega, h, by omega, fun i hi => by omega⟩
theorem eidT_ok {e : EV} (ho : e.ok = true) : (eidT e).ok ∧ (∀ d, 3 ≤ d → (eidT e).right d = true) ∧ (eidT e).plain = true ∧ (eidT e).size ≤ 100000 := by
  rcases EV.ok_cases ho with rfl | ⟨name, rfl, hn, hl⟩ | ⟨node, svc, rfl, ha, hb⟩
  · refine ⟨?_, fun d hd => ?_, by decide, by decide⟩
    · unfold eidT T.ok
      exact ⟨by omega, by omega, by simp, by omega, fun i hi => by dsimp only; split; exact num_ok (by decide); exact num_ok (by decide)⟩
    · have h1 : ¬ d < 1 := by omega
      have h2 : ¬ d - 1 < 1 := by omega
      simp [eidT, twoT, noneL, T.right, h1, h2, T.node, T.all, numT]
  · have h0 : ¬ name = noneL := hn
    have e1 : twoT ⟨1, name, 0, 0⟩ = textT name := by simp [twoT, h0]
    refine ⟨?_, fun d hd => ?_, ?_, ?_⟩
    · unfold eidT T.ok
      exact ⟨by omega, by omega, by simp, by omega, fun i hi => by dsimp only; split; exact num_ok (by decide); rw [e1]; exact text_ok (by omega)⟩
    · have h1 : ¬ d < 1 := by omega
      have h2 : ¬ d - 1 < 1 := by omega
      simp [eidT, e1, T.right, h1, h2, T.node, T.all, numT, textT]
    · simp [eidT, e1, T.plain, T.node, T.all, numT, textT]
    · simp [eidT, e1, T.size, T.sum, numT, textT]; omega
  · refine ⟨?_, fun d hd => ?_, ?_, ?_⟩
    · unfold eidT T.ok
      refine ⟨by omega, by omega, by simp, by omega, fun i hi => ?_⟩
      dsimp only
      split
      · exact num_ok (by decide)
      · show (T.mk 4 0 [] false 2 (fun j => if j = 0 then numT node else numT svc)).ok
        unfold T.ok
        exact ⟨by omega, by omega, by simp, by omega, fun i hi => by dsimp only; split; exact num_ok (by omega); exact num_ok (by omega)⟩
    · have h1 : ¬ d < 1 := by omega
      have h2 : ¬ d - 1 < 1 := by omega
      have h3 : ¬ d - 1 - 1 < 1 := by omega
      simp [eidT, twoT, T.right, h1, h2, h3, T.node, T.all, numT]
    · simp [eidT, twoT, T.plain, T.node, T.all, numT]
    · simp [eidT, twoT, T.size, T.sum, numT]

theorem two_IsL {W : World} {Q : Nat → Prop} {g : Nat} (t0 t1 : T) (A0 A1 : Option Addr) (c0 c1 : Nat) (q : Q g)
    (h : Blk W g 63 #[.int .i64 t0.kind, .int .u64 (t0.n : Int), str t0.s, .slice A0 t0.k c0, .bool t0.op, .int .i64 t1.kind, .int .u64 (t1.n : Int), str t1.s, .slice A1 t1.k c1, .bool t1.op]) (h0 : IsL W Q t0 A0) (h1 : IsL W Q t1 A1) : IsL W Q (T.mk 4 0 [] false 2 fun i => if i = 0 then t0 else t1) (some ⟨g, 0, none⟩) := fun _ => ⟨g, 0, rfl, h.lt, q, fun i hi => by
  have hi2 : i = 0 ∨ i = 1 := by omega
  rcases hi2 with rfl | rfl
  · exact ⟨A0, c0, ⟨h.cell 0, h.cell 1, h.cell 2, h.cell 3, h.cell 4⟩, h0⟩
  · exact ⟨A1, c1, ⟨h.cell 5, h.cell 6, h.cell 7, h.cell 8, h.cell 9⟩, h1⟩⟩
theorem leaf_IsL {W : World} {Q : Nat → Prop} {t : T} {A : Option Addr} (h : t.k = 0) (hn : t ≠ T.nil) : IsL W Q t A := by
  cases t with
  | nil => exact absurd rfl hn
  | mk kind n s op k ch => intro h0; have : k = 0 := h; omega

set_option maxRecDepth 20000 in
set_option maxHeartbeats 1600000 in
theorem r10Item_none (w : World) : Calls Try.prog 33 #[EV.v ⟨1, [110, 111, 110, 101], 0, 0⟩] w (fun r w' => ∃ A, r = .returned (itemV (eidT ⟨1, [110, 111, 110, 101], 0, 0⟩) A 2) ∧ Ext w w' ∧ IsL w' (fun b => w.heap.size ≤ b) (eidT ⟨1, [110, 111, 110, 101], 0, 0⟩) A) := by
  go_enter Try.func33, Try.ntmps33
  go_wp2_with fail
  refine bodyPost_ret (v := itemV (eidT ⟨1, [110, 111, 110, 101], 0, 0⟩) (some ⟨w.heap.size + 1 + 1 + 1, 0, none⟩) 2) (by simp [results, Try.results33, go_sem]; exact ⟨rfl, rfl, rfl, rfl, rfl⟩) rfl ?_
  refine ⟨_, rfl, ((((Mod.refl _ _).alloc _).alloc _).alloc _).alloc _, ?_⟩
  exact two_IsL (numT 1) (numT 0) none none 0 0 (show w.heap.size ≤ w.heap.size + 1 + 1 + 1 by omega) (Blk.new' _ _ _ (by simp)) (leaf_IsL rfl (by simp [numT])) (leaf_IsL rfl (by simp [numT]))
set_option maxRecDepth 20000 in
set_option maxHeartbeats 1600000 in
theorem r10Item_dtn (name : List UInt8) (hn : name ≠ [110, 111, 110, 101]) (w : World) : Calls Try.prog 33 #[EV.v ⟨1, name, 0, 0⟩] w (fun r w' => ∃ A, r = .returned (itemV (eidT ⟨1, name, 0, 0⟩) A 2) ∧ Ext w w' ∧ IsL w' (fun b => w.heap.size ≤ b) (eidT ⟨1, name, 0, 0⟩) A) := by
  have h0 : ¬ name = noneL := hn
  have e1 : eidT ⟨1, name, 0, 0⟩ = T.mk 4 0 [] false 2 fun i => if i = 0 then numT 1 else textT name := by simp [eidT, twoT, h0]
  rw [e1]
  have n1 : (name == [110, 111, 110, 101]) = false := by simpa using hn
  have n2 : (name = [110, 111, 110, 101]) = False := by simpa using hn
  have n3 : (name != [110, 111, 110, 101]) = true := by simpa using hn
  clear e1 h0 hn
  go_enter Try.func33, Try.ntmps33
  go_wp2_with fail
  refine bodyPost_ret (v := itemV (T.mk 4 0 [] false 2 fun i => if i = 0 then numT 1 else textT name) (some ⟨w.heap.size + 1 + 1 + 1, 0, none⟩) 2) (by simp [results, Try.results33, go_sem]; exact ⟨rfl, rfl, rfl, rfl, rfl⟩) rfl ?_
  refine ⟨_, rfl, ((((Mod.refl _ _).alloc _).alloc _).alloc _).alloc _, ?_⟩
  exact two_IsL (numT 1) (textT name) none none 0 0 (show w.heap.size ≤ w.heap.size + 1 + 1 + 1 by omega) (Blk.new' _ _ _ (by simp)) (leaf_IsL rfl (by simp [numT])) (leaf_IsL rfl (by simp [textT]))
set_option maxRecDepth 20000 in
set_option maxHeartbeats 1600000 in
theorem r10Item_ipn (node svc : Nat) (w : World) : Calls Try.prog 33 #[EV.v ⟨2, [], node, svc⟩] w (fun r w' => ∃ A, r = .returned (itemV (eidT ⟨2, [], node, svc⟩) A 2) ∧ Ext w w' ∧ IsL w' (fun b => w.heap.size ≤ b) (eidT ⟨2, [], node, svc⟩) A) := by
  go_enter Try.func33, Try.ntmps33
  go_wp2_with fail
  refine bodyPost_ret (v := itemV (eidT ⟨2, [], node, svc⟩) (some ⟨w.heap.size + 1 + 1 + 1 + 1, 0, none⟩) 2) (by simp [results, Try.results33, go_sem]; exact ⟨rfl, rfl, rfl, rfl, rfl⟩) rfl ?_
  refine ⟨_, rfl, (((((Mod.refl _ _).alloc _).alloc _).alloc _).alloc _).alloc _, ?_⟩
  refine two_IsL (numT 2) (T.mk 4 0 [] false 2 (fun j => if j = 0 then numT node else numT svc)) none (some ⟨w.heap.size + 1 + 1 + 1, 0, none⟩) 0 2 (show w.heap.size ≤ w.heap.size + 1 + 1 + 1 + 1 by omega) (Blk.new' _ _ _ (by simp)) (leaf_IsL rfl (by simp [numT])) ?_
  exact two_IsL (numT node) (numT svc) none none 0 0 (show w.heap.size ≤ w.heap.size + 1 + 1 + 1 by omega) ((Blk.new' _ _ _ (by simp)).alloc _) (leaf_IsL rfl (by simp [numT])) (leaf_IsL rfl (by simp [numT]))
theorem r10Item_ok (e : EV) (ho : e.ok = true) (w : World) : Calls Try.prog 33 #[e.v] w (fun r w' => ∃ A, r = .returned (itemV (eidT e) A 2) ∧ Ext w w' ∧ IsL w' (fun b => w.heap.size ≤ b) (eidT e) A) := by
  rcases EV.ok_cases ho with rfl | ⟨name, rfl, hn, hl⟩ | ⟨node, svc, rfl, ha, hb⟩
  · exact r10Item_none w
  · exact r10Item_dtn name hn w
  · exact r10Item_ipn node svc w
end Go.Proofs.Ytagjhkknefiieaa
