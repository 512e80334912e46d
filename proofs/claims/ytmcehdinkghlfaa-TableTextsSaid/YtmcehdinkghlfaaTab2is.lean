/-
  Tables (int by string): New and Put.
-/
import Derived.Test.YtmcehdinkghlfaaTab1is
namespace Go.Proofs.Ytmcehdinkghlfaa.Tis
open Go.RowKit Go.Shelf
set_option linter.unusedVariables false

theorem infoEnt : (Try.prog.info? 99).map (fun i => (i.zero, i.size, i.bytes)) = some (some (.agg #[.int .i64 0, .string ⟨#[]⟩]), 2, 24) := by kernel_rfl

theorem flat_set (es : List Ent) (j : Nat) (v : List UInt8) (h : j < es.length) : (flat es).set (j * 2 + 1) (str v) = flat (es.set j (es[j].1, v)) := by
  induction es generalizing j with
  | nil => exact absurd h (Nat.not_lt_zero _)
  | cons e es ih =>
    match j with
    | 0 => rfl
    | j + 1 =>
      have := ih j (by simpa using h)
      rw [flat_cons, show (j + 1) * 2 + 1 = (j * 2 + 1) + 1 + 1 from by omega, List.set_cons_succ, List.set_cons_succ, this]
      rfl
theorem Row.setV {w : World} {g cap : Nat} {es : List Ent} (h : Row w (some ⟨g, 0, none⟩) cap es) {j : Nat} (hj : j < es.length) (v : List UInt8) :
    Row (w.setCell ⟨g, j * 2 + 1, none⟩ (str v)) (some ⟨g, 0, none⟩) cap (es.set j (es[j].1, v)) := by
  rcases h.form with ⟨h0, _⟩ | ⟨g', cur, hg, h1, h2, h3, h4, h5⟩
  · cases h0
  · obtain rfl : g = g' := by simpa using hg
    refine ⟨flat_length _, .inr ⟨g, cap, cur.setIfInBounds (j * 2 + 1) (str v), by simp, Nat.zero_le _, Blk.set_ h1 _ _, by simpa using h2, h3, by simpa using h4, ?_⟩⟩
    rw [← flat_set es j v hj, ← h5, Array.toList_setIfInBounds, List.length_set, List.take_set]

/-- The table after Put, and the answer. -/
def putR (most : Nat) (es : List Ent) (k : Int) (v : List UInt8) : List Ent × Int :=
  if h : es.findIdx (isK k) < es.length then (es.set (es.findIdx (isK k)) (es[es.findIdx (isK k)].1, v), 0)
  else if most ≤ es.length then (es, 9) else (es ++ [(k, v)], 0)
def Put_post (t : Nat) (most : Nat) (A : Option Addr) (es : List Ent) (k : Int) (v : List UInt8) (w : World) (e : Ending) (w' : World) : Prop :=
  ∃ A' cap', e = .returned (.int .i64 (putR most es k v).2) ∧ Mod (t :: blksT A) w w' ∧ Tab w' t most A' cap' (putR most es k v).1 ∧ ∀ k, k ∈ blksT A' → k ∈ blksT A ∨ w.heap.size ≤ k

set_option maxHeartbeats 800000 in
theorem New_any (most : Nat) (hm : Hid (most < 100000)) (w : World) : Calls Try.prog 34 #[.int .i64 (most : Int)] w fun e w' => ∃ t, e = .returned (.pointer (some ⟨t, 0, none⟩)) ∧ w.heap.size ≤ t ∧ Ext w w' ∧ Tab w' t most none 0 [] := by
  have h0 : (0 : Int) ≤ (most : Int) := by omega
  have h1 : ((most : Int) < 0) = False := by simp
  go_enter Try.func34, Try.ntmps34
  go_wp2
  all_goals go_ret
  all_goals exact ⟨w.heap.size, rfl, Nat.le_refl _, (Mod.refl _ _).alloc _, Blk.new _ _ _, World.ownsRow_nil _ _ _ _, by simp [blksT]⟩

set_option maxHeartbeats 800000 in
theorem Put_hit (t most : Nat) (A : Option Addr) (cap : Nat) (es : List Ent) (k : Int) (v : List UInt8) (hx : Hid (es.findIdx (isK k) < es.length)) (hn : Hid (es.length < 4611686018427387904)) (w : World) (h : Hid (Tab w t most A cap es)) :
    Calls Try.prog 35 #[.pointer (some ⟨t, 0, none⟩), .int .i64 k, str v] w (Put_post t most A es k v w) := by
  obtain ⟨j, hj⟩ : ∃ j, j = es.findIdx (isK k) := ⟨_, rfl⟩
  have hjl : j < es.length := by rw [hj]; exact hx.out
  have hr : Hid (putR most es k v = (es.set j (es[j].1, v), 0)) := by subst hj; unfold putR Hid; rw [dif_pos hx.out]
  have hix : Hid (ix (isK k) es = (j : Int)) := by subst hj; unfold ix Hid; rw [if_pos hx.out]
  have HJ := hid hjl
  have j0 : (0 : Int) ≤ (j : Int) := by omega
  have j1 : (j : Int) < (es.length : Int) := by omega
  clear hj hx
  go_enter Try.func35, Try.ntmps35
  go_wp2_with fail
  refine (at_any t most A cap es k hn _ h).mono ?_; rintro e w1 ⟨rfl, hb1⟩
  rw [hix.out]
  have hT := h.out.ext hb1
  obtain ⟨g, hA, hgl, c0, c1, z0⟩ := hT.2.1.cells HJ.out
  have d1 : w1.cell? ⟨t, 1, none⟩ = some (.slice A es.length cap) := hT.1.cell 1
  subst hA
  have HT := hid hT
  have htg : t ≠ g := by have := hT.2.2; simpa [blksT] using this
  clear hT
  go_wp2_with fail
  go_ret
  rw [Put_post, hr.out]
  have hmm : Mod (t :: blksT (some ⟨g, 0, none⟩)) w (w1.setCell ⟨g, j * 2 + 1, none⟩ (str v)) := (Mod.of_ext hb1).setCell (.inl (by simp [blksT])) _
  refine ⟨_, cap, rfl, hmm, ⟨?_, HT.out.2.1.setV HJ.out v, HT.out.2.2⟩, fun k hk => .inl hk⟩
  rw [List.length_set]
  exact HT.out.1.far htg _

set_option maxHeartbeats 800000 in
theorem Put_full (t most : Nat) (A : Option Addr) (cap : Nat) (es : List Ent) (k : Int) (v : List UInt8) (hx : Hid (¬ es.findIdx (isK k) < es.length)) (hf : Hid (most ≤ es.length)) (hn : Hid (es.length < 4611686018427387904)) (w : World) (h : Hid (Tab w t most A cap es)) :
    Calls Try.prog 35 #[.pointer (some ⟨t, 0, none⟩), .int .i64 k, str v] w (Put_post t most A es k v w) := by
  have hr : Hid (putR most es k v = (es, 9)) := by unfold putR Hid; rw [dif_neg hx.out, if_pos hf.out]
  have hix : Hid (ix (isK k) es = -1) := by unfold ix Hid; rw [if_neg hx.out]
  have tf : decide ((most : Int) ≤ (es.length : Int)) = true := by have := hf.out; simp; omega
  have tf2 : decide (most ≤ es.length) = true := by have := hf.out; simp; omega
  go_enter Try.func35, Try.ntmps35
  go_upto_region 2 with (go_at_call 43; refine (at_any t most A cap es k hn _ h).mono ?_; rintro e w1 ⟨rfl, hb1⟩; rw [hix.out])
  have hT := h.out.ext hb1
  have d0 : w1.cell? ⟨t, 0, none⟩ = some (.int .i64 (most : Int)) := hT.1.cell 0
  have d1 : w1.cell? ⟨t, 1, none⟩ = some (.slice A es.length cap) := hT.1.cell 1
  have HT := hid hT
  clear hT
  go_upto_region 5 with fail
  go_quiet (fail)
  go_wp2_with fail
  go_ret
  rw [Put_post, hr.out]
  exact ⟨A, cap, rfl, Mod.of_ext (hb1.drewN _), HT.out.ext ((Mod.refl _ _).drewN _), fun k hk => .inl hk⟩

theorem own_blks {A : Option Addr} {n c k : Nat} (h : (Value.slice A n c).ownBlock = some k) : k ∈ blksT A := by
  cases A with
  | none => simp [Value.ownBlock] at h
  | some a => simp [Value.ownBlock] at h; simp [blksT, h]
theorem two_new (w : World) (a b : Value) (t : TypeId) {n : Nat} (h : w.heap.size = n) : ∀ j u, [a, b][j]? = some u → (w.alloc (.cells #[a, b] t)).cell? ((⟨n, 0, none⟩ : Addr).add j) = some u := by
  subst h
  intro j u hj
  match j, hj with
  | 0, hj => simp at hj; subst hj; simp [addr_add]
  | 1, hj => simp at hj; subst hj; simp [addr_add]
  | j + 2, hj => simp at hj

set_option maxHeartbeats 800000 in
theorem Put_new (t most : Nat) (A : Option Addr) (cap : Nat) (es : List Ent) (k : Int) (v : List UInt8) (hx : Hid (¬ es.findIdx (isK k) < es.length)) (hf : Hid (¬ most ≤ es.length)) (hl : Hid (es.length < 100000)) (w : World) (h : Hid (Tab w t most A cap es)) :
    Calls Try.prog 35 #[.pointer (some ⟨t, 0, none⟩), .int .i64 k, str v] w (Put_post t most A es k v w) := by
  have hn : Hid (es.length < 4611686018427387904) := by have := hl.out; unfold Hid; omega
  have hr : Hid (putR most es k v = (es ++ [(k, v)], 0)) := by unfold putR Hid; rw [dif_neg hx.out, if_neg hf.out]
  have hix : Hid (ix (isK k) es = -1) := by unfold ix Hid; rw [if_neg hx.out]
  have tf : decide ((most : Int) ≤ (es.length : Int)) = false := by have := hf.out; simp; omega
  have tf2 : decide (most ≤ es.length) = false := by have := hf.out; simp; omega
  obtain ⟨i0, hi, hz0, hz1, hz2⟩ := info_parts infoEnt
  go_enter Try.func35, Try.ntmps35
  go_upto_region 2 with (go_at_call 43; refine (at_any t most A cap es k hn _ h).mono ?_; rintro e w1 ⟨rfl, hb1⟩; rw [hix.out])
  have hT := h.out.ext hb1
  have d0 : w1.cell? ⟨t, 0, none⟩ = some (.int .i64 (most : Int)) := hT.1.cell 0
  have d1 : w1.cell? ⟨t, 1, none⟩ = some (.slice A es.length cap) := hT.1.cell 1
  have HT := hid hT
  have HB := hid hb1
  clear hT hb1
  go_upto_region 5 with fail
  go_quiet (fail)
  have hTD : Tab (w1.drewN nq) t most A cap es := HT.out.ext ((Mod.refl _ _).drewN _)
  have htl : t < w1.heap.size := Blk.lt HT.out.1
  have htn : t ≠ w1.heap.size := by omega
  have hrow := hid (((hTD.2.1).mod ((Mod.refl [] _).alloc (.cells #[.int .i64 k, str v] 99)) (by simp)))
  have HTD := hid (hTD.ext ((Mod.refl [] _).alloc (.cells #[.int .i64 k, str v] 99)))
  have hne : Hid (∀ k, k ∈ blksT A → k ≠ t) := fun k hk e => by subst e; exact hTD.2.2 hk
  clear hTD
  go_wp2_with (at_builtin; refine wpList_append_own_at _ rfl _ _ 95 rfl 0 99 i0 _ 2 24 Try.underlying95 hi hz0 hz1 hz2 rfl (by decide) _ _ _ rfl hrow.out ⟨w1.heap.size, 0, none⟩ 1 1 [.int .i64 k, str v] rfl rfl (two_new _ _ _ _ (by simp)) (by simp [Value.oneCell']) (by have := hl.out; unfold maxLen; omega) (by have := hl.out; omega) (Nat.zero_le _) ?_; intro v2 w4 hown2 hgrow2 hnil2 hloc; obtain ⟨g, gc, rfl, hgb, hgl⟩ := hown2.form (by omega); have hm4 := (Mod.refl (blksT A) _).grown hgrow2 (fun k hk => .inl (own_blks hk)); have BT4 := HTD.out.1.mod hm4 HTD.out.2.2; have q1 := BT4.cell 1; have z1 := BT4.frozen)
  go_ret
  rw [Put_post, hr.out]
  have hbase : Mod (t :: blksT A) w ((w1.drewN nq).alloc (.cells #[.int .i64 k, str v] 99)) := Mod.of_ext ((HB.out.drewN _).alloc _)
  have hmm : Mod (t :: blksT A) w (w4.setCell ⟨t, 1, none⟩ (.slice (some ⟨g, 0, none⟩) (es.length + 1) gc)) := (hbase.trans (hm4.mono (fun k hk => by simp [hk]))).setCell (.inl (by simp)) _
  have hg : g ∈ blksT A ∨ g = w1.heap.size + 1 := by
    rcases hloc with e | e
    · exact .inl (own_blks (A := A) (n := es.length) (c := cap) (k := g) e.symm)
    · exact .inr (by simpa [Value.ownBlock] using e)
  have hgt : g ≠ t := by
    rcases hg with h | h
    · exact hne.out g h
    · omega
  refine ⟨some ⟨g, 0, none⟩, gc, rfl, hmm, ⟨?_, ?_, ?_⟩, fun k hk => ?_⟩
  · have := BT4.set_ 1 (.slice (some ⟨g, 0, none⟩) (es.length + 1) gc)
    simpa using this
  · have h2 : Row w4 (some ⟨g, 0, none⟩) gc (es ++ [(k, v)]) := by unfold Row; rw [flat_append]; simpa [flat] using hown2
    exact h2.mod (S := [t]) ((Mod.refl _ _).setCell (.inl (by simp)) _) (fun k hk => by simp [blksT] at hk; subst hk; simpa using hgt)
  · simp [blksT]; exact fun e => hgt e.symm
  · simp [blksT] at hk
    subst hk
    rcases hg with h | h
    · exact .inl h
    · have := HB.out.size; exact .inr (by omega)

theorem Put_any (t most : Nat) (A : Option Addr) (cap : Nat) (es : List Ent) (k : Int) (v : List UInt8) (hl : es.length < 100000) (w : World) (h : Tab w t most A cap es) :
    Calls Try.prog 35 #[.pointer (some ⟨t, 0, none⟩), .int .i64 k, str v] w (Put_post t most A es k v w) := by
  by_cases hx : es.findIdx (isK k) < es.length
  · exact Put_hit t most A cap es k v hx (by unfold Hid; omega) w h
  · by_cases hf : most ≤ es.length
    · exact Put_full t most A cap es k v hx hf (by unfold Hid; omega) w h
    · exact Put_new t most A cap es k v hx hf hl w h
end Go.Proofs.Ytmcehdinkghlfaa.Tis
