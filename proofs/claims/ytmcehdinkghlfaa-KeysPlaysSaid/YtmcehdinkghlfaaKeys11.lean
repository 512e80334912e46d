/-
  The reference's Next.
-/
import Derived.Test.YtmcehdinkghlfaaKeys10
import Derived.Deep.AppendLies
namespace Go.Proofs.Ytmcehdinkghlfaa
open Go.RowKit Go.Shelf Go.Maps
set_option linter.unusedVariables false

theorem cell_one_new' (w : World) (v : Value) (t : TypeId) {n : Nat} (h : w.heap.size = n) : ∀ j u, [v][j]? = some u → (w.alloc (.cells #[v] t)).cell? ((⟨n, 0, none⟩ : Addr).add j) = some u := by subst h; exact cell_one_new _ _ _
theorem infoInt : (Try.prog.info? 3).map (fun i => (i.zero, i.size, i.bytes)) = some (some (.int .i64 0), 1, 8) := by kernel_rfl

/-- For which IDs nonces were given, after a call. -/
def nextX (zs : List Key) (xs : List Int) (id : Int) : List Int :=
  if (getR zs id).2 ≠ 0 then xs else if 1000 ≤ cnt xs id then xs else xs ++ [id]
theorem cnt_add (xs : List Int) (id : Int) : cnt (xs ++ [id]) = upd (cnt xs) id := by
  funext x
  unfold cnt upd
  rw [List.countP_append]
  by_cases h : x = id
  · subst h; simp
  · simp [h]; intro e; exact absurd e.symm h
theorem next_F (zs : List Key) (xs : List Int) (id : Int) : nonceF zs (cnt xs) id = cnt (nextX zs xs id) := by
  unfold nonceF nextX
  split
  · rfl
  · split
    · rfl
    · rw [cnt_add]

def storeV (node : Nat) (A : Option Addr) (n cap : Nat) (gA : Option Addr) (gn gc : Nat) : Value := .agg #[.int .u64 (node : Int), .slice A n cap, .slice gA gn gc]

def NextPost (node : Nat) (A : Option Addr) (zs : List Key) (cap : Nat) (xs : List Int) (id : Int) (w : World) (e : Ending) (w' : World) : Prop :=
  ∃ gA gc, e = .returned (.tuple #[storeV node A zs.length cap gA (nextX zs xs id).length gc, str (nonceR node zs (cnt xs) id).1, .int .i64 (nonceR node zs (cnt xs) id).2]) ∧
    IsInts w' gA (nextX zs xs id) ∧ (gA = none → nextX zs xs id = [] ∧ gc = 0) ∧ Ext w w'

set_option maxRecDepth 20000 in
set_option maxHeartbeats 1600000 in
theorem Next_none (node : Nat) (A : Option Addr) (zs : List Key) (cap : Nat) (gA : Option Addr) (xs : List Int) (gc : Nat) (id : Int) (hg : Hid ((getR zs id).2 ≠ 0)) (hG : Hid (gA = none → xs = [] ∧ gc = 0)) (hn : Hid (zs.length < 4611686018427387904)) (w : World) (hk : Hid (IsKeys w A zs)) (hx : Hid (IsInts w gA xs)) :
    Calls Try.prog 16 #[storeV node A zs.length cap gA xs.length gc, .int .i64 id] w (NextPost node A zs cap xs id w) := by
  have t6 : Hid ((getR zs id).2 = 6) := by have := hg.out; have h2 := getR_e zs id; unfold Hid; omega
  have hr : Hid (nonceR node zs (cnt xs) id = ([], 6)) := by have := t6.out; simp [nonceR, this, Hid]
  have hX : Hid (nextX zs xs id = xs) := by have := t6.out; simp [nextX, this, Hid]
  go_enter Try.func16, Try.ntmps16
  unfold storeV
  go_wp2_with fail
  have hE0 := hid (((Mod.refl [] w).alloc (.cells #[.int .u64 (node : Int), .slice A zs.length cap, .slice gA xs.length gc] 43)).alloc (.cells #[.int .u64 0, .slice none 0 0, .slice none 0 0] 43))
  have BP : Hid (Blk ((w.alloc (.cells #[.int .u64 (node : Int), .slice A zs.length cap, .slice gA xs.length gc] 43)).alloc (.cells #[.int .u64 0, .slice none 0 0, .slice none 0 0] 43)) w.heap.size 43 #[.int .u64 (node : Int), .slice A zs.length cap, .slice gA xs.length gc]) := (Blk.new _ _ _).alloc _
  have BT : Hid (Blk ((w.alloc (.cells #[.int .u64 (node : Int), .slice A zs.length cap, .slice gA xs.length gc] 43)).alloc (.cells #[.int .u64 0, .slice none 0 0, .slice none 0 0] 43)) (w.heap.size + 1) 43 #[.int .u64 0, .slice none 0 0, .slice none 0 0]) := blk_new_at (by simp)
  refine (RGet_any node A zs cap gA xs.length gc id hn _ (hk.out.ext hE0.out)).mono ?_; rintro e w1 ⟨rfl, hb1⟩
  have hE1 := hid (hE0.out.trans hb1)
  have BP1 := hid (BP.out.ext hb1)
  have BT1 := hid (BT.out.ext hb1)
  have hne : w.heap.size ≠ w.heap.size + 1 := by omega
  have hne2 : w.heap.size + 1 ≠ w.heap.size := by omega
  clear hb1 hE0 BP BT
  rw [t6.out]
  have p0 : w1.cell? ⟨w.heap.size, 0, none⟩ = some (.int .u64 (node : Int)) := BP1.out.cell 0
  have p1 : w1.cell? ⟨w.heap.size, 1, none⟩ = some (.slice A zs.length cap) := BP1.out.cell 1
  have p2 : w1.cell? ⟨w.heap.size, 2, none⟩ = some (.slice gA xs.length gc) := BP1.out.cell 2
  have hpl : w.heap.size < w1.heap.size := Blk.lt BP1.out
  have htl : w.heap.size + 1 < w1.heap.size := Blk.lt BT1.out
  have z0 := BT1.out.frozen
  have q0 : w1.cell? ⟨w.heap.size + 1, 0, none⟩ = some (.int .u64 0) := BT1.out.cell 0
  have q1 : w1.cell? ⟨w.heap.size + 1, 1, none⟩ = some (.slice none 0 0) := BT1.out.cell 1
  have q2 : w1.cell? ⟨w.heap.size + 1, 2, none⟩ = some (.slice none 0 0) := BT1.out.cell 2
  go_wp2_with fail
  refine bodyPost_ret (v := .tuple #[storeV node A zs.length cap gA xs.length gc, str [], .int .i64 6]) (by simp [results, Try.results16, go_sem, storeV, q0, q1, q2]) rfl ?_
  have hEE : Ext w (((w1.setCell ⟨w.heap.size + 1, 0, none⟩ (.int .u64 (node : Int))).setCell ⟨w.heap.size + 1, 1, none⟩ (.slice A zs.length cap)).setCell ⟨w.heap.size + 1, 2, none⟩ (.slice gA xs.length gc)) :=
    ((hE1.out.setCell (.inr (by simp)) _).setCell (.inr (by simp)) _).setCell (.inr (by simp)) _
  rw [NextPost, hr.out, hX.out]
  exact ⟨gA, gc, rfl, hx.out.ext hEE, hG.out, hEE⟩
set_option maxRecDepth 20000 in
set_option maxHeartbeats 1600000 in
theorem Next_spent (node : Nat) (A : Option Addr) (zs : List Key) (cap : Nat) (gA : Option Addr) (xs : List Int) (gc : Nat) (id : Int) (t6 : Hid ((getR zs id).2 = 0)) (hc : Hid (1000 ≤ cnt xs id)) (hxn : Hid (xs.length < 4611686018427387904)) (hG : Hid (gA = none → xs = [] ∧ gc = 0)) (hn : Hid (zs.length < 4611686018427387904)) (w : World) (hk : Hid (IsKeys w A zs)) (hx : Hid (IsInts w gA xs)) :
    Calls Try.prog 16 #[storeV node A zs.length cap gA xs.length gc, .int .i64 id] w (NextPost node A zs cap xs id w) := by
  have tc : decide ((1000 : Int) ≤ (cnt xs id : Int)) = true := by have := hc.out; simp; omega
  have hr : Hid (nonceR node zs (cnt xs) id = ([], 13)) := by have := t6.out; have h2 := hc.out; simp [nonceR, this, h2, Hid]
  have hX : Hid (nextX zs xs id = xs) := by have := t6.out; have h2 := hc.out; simp [nextX, this, h2, Hid]
  go_enter Try.func16, Try.ntmps16
  unfold storeV
  go_wp2_with fail
  have hE0 := hid (((Mod.refl [] w).alloc (.cells #[.int .u64 (node : Int), .slice A zs.length cap, .slice gA xs.length gc] 43)).alloc (.cells #[.int .u64 0, .slice none 0 0, .slice none 0 0] 43))
  have BP : Hid (Blk ((w.alloc (.cells #[.int .u64 (node : Int), .slice A zs.length cap, .slice gA xs.length gc] 43)).alloc (.cells #[.int .u64 0, .slice none 0 0, .slice none 0 0] 43)) w.heap.size 43 #[.int .u64 (node : Int), .slice A zs.length cap, .slice gA xs.length gc]) := (Blk.new _ _ _).alloc _
  have BT : Hid (Blk ((w.alloc (.cells #[.int .u64 (node : Int), .slice A zs.length cap, .slice gA xs.length gc] 43)).alloc (.cells #[.int .u64 0, .slice none 0 0, .slice none 0 0] 43)) (w.heap.size + 1) 43 #[.int .u64 0, .slice none 0 0, .slice none 0 0]) := blk_new_at (by simp)
  refine (RGet_any node A zs cap gA xs.length gc id hn _ (hk.out.ext hE0.out)).mono ?_; rintro e w1 ⟨rfl, hb1⟩
  have hE1 := hid (hE0.out.trans hb1)
  have BP1 := hid (BP.out.ext hb1)
  have BT1 := hid (BT.out.ext hb1)
  have hne : w.heap.size ≠ w.heap.size + 1 := by omega
  have hne2 : w.heap.size + 1 ≠ w.heap.size := by omega
  clear hb1 hE0 BP BT
  rw [t6.out]
  have p0 : w1.cell? ⟨w.heap.size, 0, none⟩ = some (.int .u64 (node : Int)) := BP1.out.cell 0
  have p1 : w1.cell? ⟨w.heap.size, 1, none⟩ = some (.slice A zs.length cap) := BP1.out.cell 1
  have p2 : w1.cell? ⟨w.heap.size, 2, none⟩ = some (.slice gA xs.length gc) := BP1.out.cell 2
  have hpl : w.heap.size < w1.heap.size := Blk.lt BP1.out
  have htl : w.heap.size + 1 < w1.heap.size := Blk.lt BT1.out
  go_wp2_with fail
  refine (RUsed_any node A zs.length cap gA xs gc id hxn _ (hx.out.ext hE1.out)).mono ?_; rintro e w2 ⟨rfl, hb2⟩
  have hE2 := hid (hE1.out.trans hb2)
  have BP2 := hid (BP1.out.ext hb2)
  have BT2 := hid (BT1.out.ext hb2)
  clear hb2 p0 p1 p2 hpl htl hE1 BP1 BT1
  have p0 : w2.cell? ⟨w.heap.size, 0, none⟩ = some (.int .u64 (node : Int)) := BP2.out.cell 0
  have p1 : w2.cell? ⟨w.heap.size, 1, none⟩ = some (.slice A zs.length cap) := BP2.out.cell 1
  have p2 : w2.cell? ⟨w.heap.size, 2, none⟩ = some (.slice gA xs.length gc) := BP2.out.cell 2
  have hpl : w.heap.size < w2.heap.size := Blk.lt BP2.out
  have htl : w.heap.size + 1 < w2.heap.size := Blk.lt BT2.out
  have z0 := BT2.out.frozen
  have q0 : w2.cell? ⟨w.heap.size + 1, 0, none⟩ = some (.int .u64 0) := BT2.out.cell 0
  have q1 : w2.cell? ⟨w.heap.size + 1, 1, none⟩ = some (.slice none 0 0) := BT2.out.cell 1
  have q2 : w2.cell? ⟨w.heap.size + 1, 2, none⟩ = some (.slice none 0 0) := BT2.out.cell 2
  go_wp2_with fail
  refine bodyPost_ret (v := .tuple #[storeV node A zs.length cap gA xs.length gc, str [], .int .i64 13]) (by simp [results, Try.results16, go_sem, storeV, q0, q1, q2]) rfl ?_
  have hEE : Ext w (((w2.setCell ⟨w.heap.size + 1, 0, none⟩ (.int .u64 (node : Int))).setCell ⟨w.heap.size + 1, 1, none⟩ (.slice A zs.length cap)).setCell ⟨w.heap.size + 1, 2, none⟩ (.slice gA xs.length gc)) :=
    ((hE2.out.setCell (.inr (by simp)) _).setCell (.inr (by simp)) _).setCell (.inr (by simp)) _
  rw [NextPost, hr.out, hX.out]
  exact ⟨gA, gc, rfl, hx.out.ext hEE, hG.out, hEE⟩
set_option maxRecDepth 20000 in
set_option maxHeartbeats 1600000 in
theorem Next_give (node : Nat) (A : Option Addr) (zs : List Key) (cap : Nat) (gA : Option Addr) (xs : List Int) (gc : Nat) (id : Int) (t6 : Hid ((getR zs id).2 = 0)) (hc : Hid (¬ 1000 ≤ cnt xs id)) (hxl : Hid (xs.length < 100000)) (hnode : Hid (node ≤ 4294967295)) (hG : Hid (gA = none → xs = [] ∧ gc = 0)) (hn : Hid (zs.length < 4611686018427387904)) (w : World) (hk : Hid (IsKeys w A zs)) (hx : Hid (IsInts w gA xs)) :
    Calls Try.prog 16 #[storeV node A zs.length cap gA xs.length gc, .int .i64 id] w (NextPost node A zs cap xs id w) := by
  have tc : decide ((1000 : Int) ≤ (cnt xs id : Int)) = false := by have := hc.out; simp; omega
  have hr : Hid (nonceR node zs (cnt xs) id = (be node 4 ++ be (cnt xs id + 1) 8, 0)) := by have := t6.out; have h2 := hc.out; unfold nonceR Hid; rw [if_neg (by simp [this]), if_neg h2]
  have hX : Hid (nextX zs xs id = xs ++ [id]) := by have := t6.out; have h2 := hc.out; unfold nextX Hid; rw [if_neg (by simp [this]), if_neg h2]
  have hxn : Hid (xs.length < 4611686018427387904) := by have := hxl.out; unfold Hid; omega
  go_enter Try.func16, Try.ntmps16
  unfold storeV
  go_wp2_with fail
  have hE0 := hid (((Mod.refl [] w).alloc (.cells #[.int .u64 (node : Int), .slice A zs.length cap, .slice gA xs.length gc] 43)).alloc (.cells #[.int .u64 0, .slice none 0 0, .slice none 0 0] 43))
  have BP : Hid (Blk ((w.alloc (.cells #[.int .u64 (node : Int), .slice A zs.length cap, .slice gA xs.length gc] 43)).alloc (.cells #[.int .u64 0, .slice none 0 0, .slice none 0 0] 43)) w.heap.size 43 #[.int .u64 (node : Int), .slice A zs.length cap, .slice gA xs.length gc]) := (Blk.new _ _ _).alloc _
  have BT : Hid (Blk ((w.alloc (.cells #[.int .u64 (node : Int), .slice A zs.length cap, .slice gA xs.length gc] 43)).alloc (.cells #[.int .u64 0, .slice none 0 0, .slice none 0 0] 43)) (w.heap.size + 1) 43 #[.int .u64 0, .slice none 0 0, .slice none 0 0]) := blk_new_at (by simp)
  refine (RGet_any node A zs cap gA xs.length gc id hn _ (hk.out.ext hE0.out)).mono ?_; rintro e w1 ⟨rfl, hb1⟩
  have hE1 := hid (hE0.out.trans hb1)
  have BP1 := hid (BP.out.ext hb1)
  have BT1 := hid (BT.out.ext hb1)
  have hne : w.heap.size ≠ w.heap.size + 1 := by omega
  have hne2 : w.heap.size + 1 ≠ w.heap.size := by omega
  clear hb1 hE0 BP BT
  rw [t6.out]
  have p0 : w1.cell? ⟨w.heap.size, 0, none⟩ = some (.int .u64 (node : Int)) := BP1.out.cell 0
  have p1 : w1.cell? ⟨w.heap.size, 1, none⟩ = some (.slice A zs.length cap) := BP1.out.cell 1
  have p2 : w1.cell? ⟨w.heap.size, 2, none⟩ = some (.slice gA xs.length gc) := BP1.out.cell 2
  have hpl : w.heap.size < w1.heap.size := Blk.lt BP1.out
  have htl : w.heap.size + 1 < w1.heap.size := Blk.lt BT1.out
  go_wp2_with fail
  refine (RUsed_any node A zs.length cap gA xs gc id hxn _ (hx.out.ext hE1.out)).mono ?_; rintro e w2 ⟨rfl, hb2⟩
  have hE2 := hid (hE1.out.trans hb2)
  have BP2 := hid (BP1.out.ext hb2)
  have BT2 := hid (BT1.out.ext hb2)
  clear hb2 p0 p1 p2 hpl htl hE1 BP1 BT1
  have p0 : w2.cell? ⟨w.heap.size, 0, none⟩ = some (.int .u64 (node : Int)) := BP2.out.cell 0
  have p1 : w2.cell? ⟨w.heap.size, 1, none⟩ = some (.slice A zs.length cap) := BP2.out.cell 1
  have p2 : w2.cell? ⟨w.heap.size, 2, none⟩ = some (.slice gA xs.length gc) := BP2.out.cell 2
  have hpl : w.heap.size < w2.heap.size := Blk.lt BP2.out
  have htl : w.heap.size + 1 < w2.heap.size := Blk.lt BT2.out
  have hx2 := hid (hx.out.ext hE2.out)
  obtain ⟨i0, hi, hz0, hz1, hz2⟩ := info_parts infoInt
  have hl := World.ownsRow_lit (base := w2.heap.size) (e := 3) (size := 1) w2 #[] 0 (Nat.le_refl _) (Nat.zero_le _) rfl
  have u0 : (0 : Int) ≤ (cnt xs id : Int) := by omega
  have u1 : (cnt xs id : Int) < 1000 := by have := hc.out; omega
  go_upto_region 7 with fail
  go_cut [9] (fun s9 wx => s9 = .int .i64 (cnt xs id : Int) ∧ ∃ g gc2, Ext w wx ∧ Blk wx w.heap.size 43 #[.int .u64 (node : Int), .slice A zs.length cap, .slice (some ⟨g, 0, none⟩) (xs ++ [id]).length gc2] ∧ Blk wx (w.heap.size + 1) 43 #[.int .u64 0, .slice none 0 0, .slice none 0 0] ∧ IsInts wx (some ⟨g, 0, none⟩) (xs ++ [id]))
  case first =>
    have hfin : ∀ (w4 : World) (v2 : Value), Ext w2 w4 → w4.ownsRow w2.heap.size 3 1 v2 (xs.length + 1) (xs.map (Value.int .i64) ++ [.int .i64 id]) → ∃ g gc2, v2 = .slice (some ⟨g, 0, none⟩) (xs ++ [id]).length gc2 ∧ Ext w (w4.setCell ⟨w.heap.size, 2, none⟩ v2) ∧
        Blk (w4.setCell ⟨w.heap.size, 2, none⟩ v2) w.heap.size 43 #[.int .u64 (node : Int), .slice A zs.length cap, .slice (some ⟨g, 0, none⟩) (xs ++ [id]).length gc2] ∧ Blk (w4.setCell ⟨w.heap.size, 2, none⟩ v2) (w.heap.size + 1) 43 #[.int .u64 0, .slice none 0 0, .slice none 0 0] ∧ IsInts (w4.setCell ⟨w.heap.size, 2, none⟩ v2) (some ⟨g, 0, none⟩) (xs ++ [id]) := by
      intro w4 v2 hm hown
      obtain ⟨g, gc2, rfl, hgb, hgl⟩ := hown.form (by omega)
      refine ⟨g, gc2, by simp, (hE2.out.trans hm).setCell (.inr (by simp)) _, ?_, (BT2.out.ext hm).far (by simp) _, fun h0 => ⟨g, 0, rfl, by simpa [World.setCell] using hgl, fun i hi => ?_⟩⟩
      · have := (BP2.out.ext hm).set_ 2 (.slice (some ⟨g, 0, none⟩) (xs.length + 1) gc2)
        simpa using this
      · have hc1 := hown.cells (g := g) rfl i (.int .i64 (xs ++ [id])[i]) (by
          rw [show xs.map (Value.int .i64) ++ [.int .i64 id] = (xs ++ [id]).map (Value.int .i64) from by simp, List.getElem?_map, List.getElem?_eq_getElem hi]
          rfl)
        rw [addr_add] at hc1
        rw [World.cell?_setCell_far _ _ _ _ (by simp; omega)]
        exact hc1
    have HF := hid hfin
    clear hfin
    cases gA with
    | none =>
      obtain ⟨hx0, hg0⟩ := hG.out rfl
      subst hx0 hg0
      have hap := run_append_owned_none (P := Try.prog) (w2.alloc (.cells #[] 3)) w2.heap.size 41 41 3 i0 1 Try.underlying41 hi _ 0 [] hl
      simp only [List.length_nil] at p2
      have hown1 := hl.alloc (.cells #[.int .i64 id] 3)
      simp only [List.length_nil]
      go_wp2_with (at_builtin; refine wpList_append_own _ rfl _ _ 41 rfl w2.heap.size 3 i0 _ 1 8 Try.underlying41 hi hz0 hz1 hz2 rfl (by decide) _ _ _ rfl hown1 ⟨w2.heap.size + 1, 0, none⟩ 1 1 [.int .i64 id] rfl rfl (cell_one_new' _ _ _ (by simp)) (by simp [Value.oneCell']) (by unfold maxLen; omega) (by omega) (by simp; omega) ?_; intro v2 w4 hown2 hgrow2 hnil2; have hm4 : Ext w2 w4 := (((Mod.refl [] w2).alloc (.cells #[] 3)).alloc (.cells #[.int .i64 id] 3)).grown hgrow2 (fun k hk => .inr (hown1.lt k hk).1); obtain ⟨g, gc2, rfl, hgb, hgl⟩ := hown2.form (by omega); have BPx := BP2.out.ext hm4; have r0 : w4.cell? ⟨w.heap.size, 0, none⟩ = some (.int .u64 (node : Int)) := BPx.cell 0; have r1 : w4.cell? ⟨w.heap.size, 1, none⟩ = some (.slice A zs.length cap) := BPx.cell 1; have r2 := BPx.cell 2; have r3 := BPx.frozen 2)
      go_meet
      obtain ⟨g', gc', e1, e2, e3, e4, e5⟩ := HF.out w4 _ hm4 (by simpa using hown2)
      simp at e1
      obtain ⟨rfl, rfl⟩ := e1
      exact ⟨rfl, g, gc2, e2, e3, e4, e5⟩
    | some a =>
      have hnews : Hid (∀ j u, (xs.map (Value.int .i64))[j]? = some u → (w2.alloc (.cells #[] 3)).cell? (a.add j) = some u) := (hx2.out.ext ((Mod.refl [] w2).alloc _)).news
      have hone : Hid (∀ u ∈ xs.map (Value.int .i64), u.oneCell' = true) := fun u hu => by simp at hu; obtain ⟨x, _, rfl⟩ := hu; rfl
      go_wp2_with (first
        | (at_builtin; refine wpList_append_own _ rfl _ _ 41 rfl w2.heap.size 3 i0 _ 1 8 Try.underlying41 hi hz0 hz1 hz2 rfl (by decide) _ _ _ rfl hown1 ⟨w3.heap.size, 0, none⟩ 1 1 [.int .i64 id] rfl rfl (cell_one_new _ _ _) (by simp [Value.oneCell']) (by have := hxl.out; unfold maxLen; omega) (by have := hxl.out; omega) (by simp; omega) ?_; intro v2 w4 hown2 hgrow2 hnil2; have hm4 : Ext w2 w4 := (hm3.alloc (.cells #[.int .i64 id] 3)).grown hgrow2 (fun k hk => .inr (hown1.lt k hk).1); obtain ⟨g, gc2, rfl, hgb, hgl⟩ := hown2.form (by omega); have BPx := BP2.out.ext hm4; have r0 : w4.cell? ⟨w.heap.size, 0, none⟩ = some (.int .u64 (node : Int)) := BPx.cell 0; have r1 : w4.cell? ⟨w.heap.size, 1, none⟩ = some (.slice A zs.length cap) := BPx.cell 1; have r2 := BPx.cell 2; have r3 := BPx.frozen 2)
        | (at_builtin; refine wpList_append_own _ rfl _ _ 41 rfl w2.heap.size 3 i0 _ 1 8 Try.underlying41 hi hz0 hz1 hz2 rfl (by decide) _ _ _ rfl hl a xs.length gc (xs.map (Value.int .i64)) rfl (by simp) hnews.out hone.out (by have := hxl.out; unfold maxLen; omega) (by have := hxl.out; omega) (by simp) ?_; intro v1 w3 hown0 hgrow1 hnil1; have hown1 := hown0.alloc (.cells #[.int .i64 id] 3); have hm3 : Ext w2 w3 := ((Mod.refl [] w2).alloc (.cells #[] 3)).grown hgrow1 (fun k hk => .inr (hl.lt k hk).1); have hz3 := hm3.size))
      go_meet
      obtain ⟨g', gc', e1, e2, e3, e4, e5⟩ := HF.out w4 _ hm4 (by simpa using hown2)
      simp at e1
      obtain ⟨rfl, rfl⟩ := e1
      exact ⟨rfl, g, gc2, e2, e3, e4, e5⟩
  clear p0 p1 p2 hpl htl BP2 BT2 hx2 hl hi hz0 hz1 hz2
  obtain ⟨rfl, g, gc2, hE3, BP3, BT3, hx3⟩ := hcut
  have p0 : wc.cell? ⟨w.heap.size, 0, none⟩ = some (.int .u64 (node : Int)) := BP3.cell 0
  have p1 : wc.cell? ⟨w.heap.size, 1, none⟩ = some (.slice A zs.length cap) := BP3.cell 1
  have p2 : wc.cell? ⟨w.heap.size, 2, none⟩ = some (.slice (some ⟨g, 0, none⟩) (xs ++ [id]).length gc2) := BP3.cell 2
  have q0 : wc.cell? ⟨w.heap.size + 1, 0, none⟩ = some (.int .u64 0) := BT3.cell 0
  have q1 : wc.cell? ⟨w.heap.size + 1, 1, none⟩ = some (.slice none 0 0) := BT3.cell 1
  have q2 : wc.cell? ⟨w.heap.size + 1, 2, none⟩ = some (.slice none 0 0) := BT3.cell 2
  have z0 := BT3.frozen
  have hpl : w.heap.size < wc.heap.size := Blk.lt BP3
  have htl : w.heap.size + 1 < wc.heap.size := Blk.lt BT3
  obtain ⟨B, hB⟩ : ∃ B, B = be node 4 ++ be (cnt xs id + 1) 8 := ⟨_, rfl⟩
  have s4 : ∀ W, Calls Try.prog 33 #[.int .u64 (node : Int), .int .i64 ((cnt xs id : Int) + 1)] W (Ret (str B) W) := fun W => by rw [hB]; exact RNonce_any node (cnt xs id + 1) (by have := hnode.out; unfold Hid; omega) (by have := hc.out; unfold Hid; omega) W
  have S4 := hid s4
  have HB := hid hB
  generalize hN : (xs ++ [id]).length = N at *
  have HN := hid hN
  clear s4 hB hN BP3
  have HE3 := hid hE3; have HX3 := hid hx3; have HBT3 := hid BT3
  clear hE3 hx3 BT3
  have tw : IntKind.i64.wrap ((cnt xs id : Int) + 1) = (cnt xs id : Int) + 1 := IntWalk.i64_in _ (by omega)
  generalize hT : w.heap.size + 1 = T at *
  generalize hP : w.heap.size = P at *
  have hTw : Hid (w.heap.size ≤ T) := by unfold Hid; omega
  clear hT hP
  have hgT : Hid (g ≠ T) := fun e => by
    obtain ⟨b, o, hA, _, hc⟩ := HX3.out (by simp)
    have := hc 0 (by simp)
    obtain ⟨rfl, rfl⟩ : g = b ∧ 0 = o := by simpa using hA
    subst e
    rw [show 0 + 0 = 0 from rfl, q0] at this
    simp at this
  have hend : Hid (∀ wx : World, Mod [T] wc wx → (wx.cell? ⟨T, 0, none⟩ = some (.int .u64 (node : Int)) ∧ wx.cell? ⟨T, 1, none⟩ = some (.slice A zs.length cap) ∧ wx.cell? ⟨T, 2, none⟩ = some (.slice (some ⟨g, 0, none⟩) N gc2)) →
      (Ext w wx ∧ IsInts wx (some ⟨g, 0, none⟩) (xs ++ [id]) ∧ wx.cell? ⟨T, 0, none⟩ = some (.int .u64 (node : Int)) ∧ wx.cell? ⟨T, 1, none⟩ = some (.slice A zs.length cap) ∧ wx.cell? ⟨T, 2, none⟩ = some (.slice (some ⟨g, 0, none⟩) N gc2))) := fun wx hm hx => by
    refine ⟨((Mod.of_ext HE3.out).trans hm).new (fun k hk => .inr (by simp at hk; subst hk; exact hTw.out)), fun h0 => ?_, hx⟩
    obtain ⟨b, o, hA, hb, hc⟩ := HX3.out h0
    obtain ⟨rfl, rfl⟩ : g = b ∧ 0 = o := by simpa using hA
    exact ⟨g, 0, rfl, Nat.lt_of_lt_of_le hb hm.size, fun i hi => by rw [hm.cell hb (by simp; exact hgT.out)]; exact hc i hi⟩
  go_upto_region 8 with fail
  go_cut [5, 6] (fun s5 s6 wx => s5 = str B ∧ s6 = .int .i64 0 ∧ Ext w wx ∧ IsInts wx (some ⟨g, 0, none⟩) (xs ++ [id]) ∧ wx.cell? ⟨T, 0, none⟩ = some (.int .u64 (node : Int)) ∧ wx.cell? ⟨T, 1, none⟩ = some (.slice A zs.length cap) ∧ wx.cell? ⟨T, 2, none⟩ = some (.slice (some ⟨g, 0, none⟩) N gc2))
  case first =>
    go_region_held3 (fun w' => w'.cell? ⟨P, 0, none⟩ = some (.int .u64 (node : Int)) ∧ w'.cell? ⟨P, 1, none⟩ = some (.slice A zs.length cap) ∧ w'.cell? ⟨P, 2, none⟩ = some (.slice (some ⟨g, 0, none⟩) N gc2))
      (go_keep)
      ((go_at_call 33; refine (S4.out _).mono ?_; rintro e w3 ⟨rfl, hb3⟩; have y0 : w3.cell? ⟨P, 0, none⟩ = some (.int .u64 (node : Int)) := (hb3.cell (k := P) (o := 0) (by simpa using hpl) (by simp)).trans (by go_simp); have y1 : w3.cell? ⟨P, 1, none⟩ = some (.slice A zs.length cap) := (hb3.cell (k := P) (o := 1) (by simpa using hpl) (by simp)).trans (by go_simp); have y2 : w3.cell? ⟨P, 2, none⟩ = some (.slice (some ⟨g, 0, none⟩) N gc2) := (hb3.cell (k := P) (o := 2) (by simpa using hpl) (by simp)).trans (by go_simp); have x0 := hb3.cell (k := T) (o := 0) (by simpa using htl) (by simp); have x1 := hb3.cell (k := T) (o := 1) (by simpa using htl) (by simp); have x2 := hb3.cell (k := T) (o := 2) (by simpa using htl) (by simp); simp [go_sem, q0, q1, q2] at x0 x1 x2; have zf : ∀ i, w3.frozen? ⟨T, i, none⟩ = false := fun i => (hb3.frozen (k := T) (o := i) (by simpa using htl) (by simp)).trans (by first | exact z0 i | (simp; exact z0 i) | (go_simp; done))))
    all_goals go_wp2_with fail
    all_goals go_meet
    all_goals refine ⟨rfl, rfl, hend.out _ ?_ ?_⟩
    all_goals first | (refine ⟨?_, ?_, ?_⟩ <;> (go_simp; done)) | skip
    all_goals repeat (first | with_reducible refine Mod.drew ?_ | with_reducible refine Mod.setCell ?_ (.inl ?_) _ | (with_reducible refine Mod.trans ?_ hb3.of_ext; clear hb3) | with_reducible exact Mod.refl _ _)
    all_goals simp
  clear p0 p1 p2 q0 q1 q2
  obtain ⟨rfl, rfl, hE4, hx4, x0, x1, x2⟩ := hcut
  go_wp2_with fail
  refine bodyPost_ret (v := .tuple #[storeV node A zs.length cap (some ⟨g, 0, none⟩) N gc2, str B, .int .i64 0]) (by simp [results, Try.results16, go_sem, storeV, x0, x1, x2]) rfl ?_
  rw [NextPost, hr.out, hX.out]
  exact ⟨_, gc2, by rw [HN.out, HB.out], hx4, fun h => (by cases h), hE4⟩

theorem Next_any (node : Nat) (A : Option Addr) (zs : List Key) (cap : Nat) (gA : Option Addr) (xs : List Int) (gc : Nat) (id : Int) (hnode : node ≤ 4294967295) (hxl : xs.length < 100000) (hG : gA = none → xs = [] ∧ gc = 0) (hn : zs.length < 4611686018427387904) (w : World) (hk : IsKeys w A zs) (hx : IsInts w gA xs) :
    Calls Try.prog 16 #[storeV node A zs.length cap gA xs.length gc, .int .i64 id] w (NextPost node A zs cap xs id w) := by
  by_cases hg : (getR zs id).2 = 0
  · by_cases hc : 1000 ≤ cnt xs id
    · exact Next_spent node A zs cap gA xs gc id hg hc (by unfold Hid; omega) hG hn w hk hx
    · exact Next_give node A zs cap gA xs gc id hg hc hxl hnode hG hn w hk hx
  · exact Next_none node A zs cap gA xs gc id hg hG hn w hk hx
end Go.Proofs.Ytmcehdinkghlfaa
