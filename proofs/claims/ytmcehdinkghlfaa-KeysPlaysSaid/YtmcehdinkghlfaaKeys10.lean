/-
  The reference's Nonce and Used.
-/
import Derived.Test.YtmcehdinkghlfaaKeys9
namespace Go.Proofs.Ytmcehdinkghlfaa
open Go.RowKit Go.Shelf Go.Maps
set_option linter.unusedVariables false

def g1 (node k a : Nat) : Nat := if k ≤ a ∧ a < 4 then beC node 4 a else 0
def g2 (node n k a : Nat) : Nat := if a < 4 then beC node 4 a else if k ≤ a then beC n 8 (a - 4) else 0
theorem row_set {wr : World} {b t n : Nat} {f g : Nat → Nat} (h : wr.rowIs b t n (fun a => .int .u8 ((f a : Nat) : Int))) (j : Nat) (hg : ∀ a, a < n → g a = if a = j then g j else f a) :
    (wr.setCell ⟨b, j, none⟩ (.int .u8 ((g j : Nat) : Int))).rowIs b t n (fun a => .int .u8 ((g a : Nat) : Int)) := by
  refine (h.set j _).congr ?_
  intro i hi
  have := hg i hi
  by_cases e : i = j
  · subst e; simp
  · rw [if_neg e] at this
    simp [e, this]
theorem g1_step (node k : Nat) : ∀ a, a < 12 → g1 node k a = if a = k then g1 node k k else g1 node (k + 1) a := by
  intro a _
  by_cases e : a = k
  · subst e; simp
  · rw [if_neg e]; unfold g1
    by_cases h : k ≤ a ∧ a < 4
    · rw [if_pos h, if_pos (by omega)]
    · rw [if_neg h, if_neg (by omega)]
theorem g2_step (node n k : Nat) : ∀ a, a < 12 → g2 node n k a = if a = k then g2 node n k k else g2 node n (k + 1) a := by
  intro a _
  by_cases e : a = k
  · subst e; simp
  · rw [if_neg e]; unfold g2
    by_cases h4 : a < 4
    · rw [if_pos h4, if_pos h4]
    · rw [if_neg h4, if_neg h4]
      by_cases h : k ≤ a
      · rw [if_pos h, if_pos (by omega)]
      · rw [if_neg h, if_neg (by omega)]
theorem g12 (node n a : Nat) (h : a < 12) : g2 node n 12 a = g1 node 0 a := by
  unfold g1 g2
  by_cases h4 : a < 4
  · rw [if_pos h4, if_pos (by omega)]
  · rw [if_neg h4, if_neg (by omega), if_neg (by omega)]
theorem g2_end (node n : Nat) : ((List.range 12).map fun i => UInt8.ofNat (g2 node n 4 i)) = be node 4 ++ be n 8 := by
  unfold be
  rw [show (12 : Nat) = 4 + 8 from rfl, List.range_add, List.map_append, List.map_map]
  refine congr (congrArg _ ?_) ?_
  · apply List.map_congr_left
    intro i hi
    rw [List.mem_range] at hi
    unfold g2
    rw [if_pos hi]
  · apply List.map_congr_left
    intro i hi
    simp only [Function.comp]
    unfold g2
    rw [if_neg (by omega), if_pos (by omega), show 4 + i - 4 = i from by omega]
theorem g1_at (node k : Nat) (h : k < 4) : node / 2 ^ (8 * (4 - (k + 1))) % 256 = g1 node k k := by
  unfold g1 beC
  rw [if_pos (by omega), show 4 - 1 - k = 4 - (k + 1) from by omega]
theorem g2_at (node n k : Nat) (h : 4 ≤ k) (h2 : k < 12) : n / 2 ^ (8 * (12 - (k + 1))) % 256 = g2 node n k k := by
  unfold g2 beC
  rw [if_neg (by omega), if_pos (by omega), show 8 - 1 - (k - 4) = 12 - (k + 1) from by omega]
theorem div_next (x e : Nat) : x / 2 ^ (8 * e) / 256 = x / 2 ^ (8 * (e + 1)) := by
  rw [Nat.div_div_eq_div_mul, show (256 : Nat) = 2 ^ 8 from rfl, ← Nat.pow_add, show 8 * e + 8 = 8 * (e + 1) from by omega]

set_option maxRecDepth 20000 in
set_option maxHeartbeats 1600000 in
theorem RNonce_any (node n : Nat) (hnode : Hid (node < 18446744073709551616)) (hn : Hid (n < 9223372036854775808)) (w : World) :
    Calls Try.prog 33 #[.int .u64 (node : Int), .int .i64 (n : Int)] w (Ret (str (be node 4 ++ be n 8)) w) := by
  have hmk : ∀ W : World, (Instr.makeSlice 94 (.int .i64 12) (.int .i64 12)).run Try.prog W = .ok (.slice (some ⟨W.heap.size, 0, none⟩) 12 12) (W.alloc (.cells (madeCells #[.int .u8 0] 12) 5)) := by
    intro W
    have := run_make_row' (P := Try.prog) 94 5 (.int .u8 0) 1 Try.underlying94 infoByte rfl .i64 .i64 12 (by omega) (by omega) W
    simpa using this
  go_enter Try.func33, Try.ntmps33
  go_wp2
  go_loopw [0, 6] (fun s0 s6 wr => ∃ (x k : Nat) (v : Int), s0 = .int .u64 (x : Int) ∧ s6 = .int .i64 v ∧ k ≤ 4 ∧ Hid (v = (k : Int) - 1 ∧ x = node / 2 ^ (8 * (4 - k))) ∧ Ext w wr ∧ wr.rowIs w.heap.size 5 12 (fun a => .int .u8 ((g1 node k a : Nat) : Int))) (fun _ i _ => (intOf i + 1).toNat)
  case atStart => exact ⟨node, 4, 3, rfl, rfl, Nat.le_refl _, ⟨rfl, by simp⟩, (Mod.refl _ _).alloc _, (World.rowIs_made w _ 12 5).congr (by intro i hi; rw [show g1 node 4 i = 0 from by unfold g1; rw [if_neg (by omega)]]; simp)⟩
  case round =>
    obtain ⟨x, k, v, rfl, rfl, hk, hv, hE, hrow⟩ := hrel
    cases k with
    | zero =>
      obtain rfl : v = -1 := by have := hv.out.1; omega
      have hrow2 : wr.rowIs w.heap.size 5 12 (fun a => .int .u8 ((g2 node n 12 a : Nat) : Int)) := hrow.congr (fun a ha => by rw [g12 _ _ _ ha])
      have HR := hid hrow2
      clear hrow hrow2 hv
      go_wp2
      go_loopw [1, 7] (fun s1 s7 wr => ∃ (y k : Nat) (v : Int), s1 = .int .i64 (y : Int) ∧ s7 = .int .i64 v ∧ 4 ≤ k ∧ k ≤ 12 ∧ Hid (v = (k : Int) - 1 ∧ y = n / 2 ^ (8 * (12 - k))) ∧ Ext w wr ∧ wr.rowIs w.heap.size 5 12 (fun a => .int .u8 ((g2 node n k a : Nat) : Int))) (fun _ i _ => (intOf i).toNat)
      case atStart => exact ⟨n, 12, 11, rfl, rfl, by omega, by omega, ⟨rfl, by simp⟩, hE, HR.out⟩
      case round =>
        obtain ⟨y, k, v, rfl, rfl, hk4, hk12, hv, hE, hrow⟩ := hrel
        by_cases h4 : k = 4
        · subst h4
          obtain rfl : v = 3 := by have := hv.out.1; omega
          have hconv := run_row_string (P := Try.prog) wr 94 9 5 Try.underlying94 Try.underlying5 Try.underlying9 _ _ 12 12 _ hrow
          rw [g2_end] at hconv
          clear hrow hv
          go_wp2
          go_ret
          exact Ret.mk rfl hE
        · obtain ⟨k, rfl⟩ : ∃ k', k = k' + 1 := ⟨k - 1, by omega⟩
          obtain rfl : v = (k : Int) := by have := hv.out.1; omega
          have hx : Hid (y = n / 2 ^ (8 * (12 - (k + 1)))) := hv.out.2
          clear hv
          obtain ⟨r, hr, hr2⟩ : ∃ r : Nat, (y : Int).tmod 256 = (r : Int) ∧ r = y % 256 := ⟨y % 256, by rw [Int.ofNat_tmod]; rfl, rfl⟩
          obtain ⟨d, hd, hd2⟩ : ∃ d : Nat, (y : Int).tdiv 256 = (d : Int) ∧ d = y / 256 := ⟨y / 256, by rw [Int.ofNat_tdiv]; rfl, rfl⟩
          have hcell : wr.cell? ⟨w.heap.size, k, none⟩ = some (.int .u8 ((g2 node n (k + 1) k : Nat) : Int)) := by simpa using hrow.cell (by omega : k < 12)
          have hfr := hrow.frozen k
          have HRW := hid hrow
          have hr3 : (r : Int) < 256 := by omega
          have hr4 : (0 : Int) ≤ (r : Int) := by omega
          have hk1 : (0 : Int) ≤ (k : Int) := by omega
          have hk2 : (k : Int) < 12 := by omega
          have hk3 : (4 : Int) ≤ (k : Int) := by omega
          have HR2 := hid hr2; have HD2 := hid hd2
          have hdx : Hid (d ≤ y ∧ y < 9223372036854775808) := by
            have h2 := hx.out; have h3 := hn.out
            have h4 : n / 2 ^ (8 * (12 - (k + 1))) ≤ n := Nat.div_le_self _ _
            have h5 : y / 256 ≤ y := Nat.div_le_self _ _
            exact ⟨by omega, by omega⟩
          have hd3 : (d : Int) < 9223372036854775808 := by have := hdx.out; omega
          have hd4 : (0 : Int) ≤ (d : Int) := by omega
          clear hrow hr2 hd2
          go_wp2
          have er : r = g2 node n k k := by rw [HR2.out, hx.out, g2_at node n k (by omega) (by omega)]
          refine ⟨⟨d, k, _, ?_, rfl, by omega, by omega, ⟨rfl, ?_⟩, hE.setCell (.inr (Nat.le_refl _)) _, ?_⟩, ?_⟩
          · first | rfl | (simp; done) | (rw [IntWalk.i64_in _ (by omega)])
          · rw [HD2.out, hx.out, div_next, show 12 - (k + 1) + 1 = 12 - k from by omega]
          · rw [er]; exact row_set HRW.out k (g2_step node n k)
          · simp only [intOf]; omega
    | succ k =>
      obtain rfl : v = (k : Int) := by have := hv.out.1; omega
      have hx : Hid (x = node / 2 ^ (8 * (4 - (k + 1)))) := hv.out.2
      clear hv
      obtain ⟨r, hr, hr2⟩ : ∃ r : Nat, (x : Int).tmod 256 = (r : Int) ∧ r = x % 256 := ⟨x % 256, by rw [Int.ofNat_tmod]; rfl, rfl⟩
      obtain ⟨d, hd, hd2⟩ : ∃ d : Nat, (x : Int).tdiv 256 = (d : Int) ∧ d = x / 256 := ⟨x / 256, by rw [Int.ofNat_tdiv]; rfl, rfl⟩
      have hcell : wr.cell? ⟨w.heap.size, k, none⟩ = some (.int .u8 ((g1 node (k + 1) k : Nat) : Int)) := by simpa using hrow.cell (by omega : k < 12)
      have hfr := hrow.frozen k
      have HRW := hid hrow
      have hr3 : (r : Int) < 256 := by omega
      have hr4 : (0 : Int) ≤ (r : Int) := by omega
      have hk1 : (0 : Int) ≤ (k : Int) := by omega
      have hk2 : (k : Int) < 12 := by omega
      have hge : decide ((0 : Int) ≤ (k : Int)) = true := by simp
      have HR2 := hid hr2; have HD2 := hid hd2
      clear hrow hr2 hd2
      have hdx : Hid (d ≤ x ∧ x < 18446744073709551616) := by
        have h1 := HD2.out; have h2 := hx.out; have h3 := hnode.out
        have h4 : node / 2 ^ (8 * (4 - (k + 1))) ≤ node := Nat.div_le_self _ _
        have h5 : x / 256 ≤ x := Nat.div_le_self _ _
        exact ⟨by omega, by omega⟩
      go_wp2
      have er : r = g1 node k k := by rw [HR2.out, hx.out, g1_at node k (by omega)]
      refine ⟨⟨d, k, _, ?_, rfl, by omega, ⟨rfl, ?_⟩, hE.setCell (.inr (Nat.le_refl _)) _, ?_⟩, ?_⟩
      · rw [IntWalk.u64_in _ (by have := hdx.out; omega)]
      · rw [HD2.out, hx.out, div_next, show 4 - (k + 1) + 1 = 4 - k from by omega]
      · rw [er]; exact row_set HRW.out k (g1_step node k)
      · simp only [intOf]; omega

/-- A slice of integers that lies in memory. -/
def IsInts (w : World) (A : Option Addr) (xs : List Int) : Prop :=
  0 < xs.length → ∃ b o, A = some ⟨b, o, none⟩ ∧ b < w.heap.size ∧ ∀ i (h : i < xs.length), w.cell? ⟨b, o + i, none⟩ = some (.int .i64 xs[i])
theorem IsInts.cells {w : World} {A : Option Addr} {xs : List Int} (h : IsInts w A xs) {S : List Nat} {W : World} (hW : Mod S w W) (hS : ∀ k, k ∈ S → w.heap.size ≤ k) {j : Nat} (hj : j < xs.length) :
    ∃ b o, A = some ⟨b, o, none⟩ ∧ W.cell? ⟨b, o + j, none⟩ = some (.int .i64 xs[j]) := by
  obtain ⟨b, o, hA, hb, hc⟩ := h (by omega)
  have hn : b ∉ S := fun hm => by have := hS b hm; omega
  exact ⟨b, o, hA, by rw [hW.cell hb hn]; exact hc j hj⟩
theorem IsInts.ext {w w' : World} {A : Option Addr} {xs : List Int} (h : IsInts w A xs) (hm : Ext w w') : IsInts w' A xs := fun h0 => by
  obtain ⟨b, o, hA, hb, hc⟩ := h h0
  exact ⟨b, o, hA, Nat.lt_of_lt_of_le hb hm.size, fun i hi => by rw [hm.cell hb (by simp)]; exact hc i hi⟩

theorem IsInts.news {w : World} {a : Addr} {xs : List Int} (h : IsInts w (some a) xs) : ∀ j u, (xs.map (Value.int .i64))[j]? = some u → w.cell? (a.add j) = some u := by
  intro j u hu
  rw [List.getElem?_map] at hu
  obtain ⟨x, hx, rfl⟩ := Option.map_eq_some_iff.1 hu
  obtain ⟨hj, rfl⟩ := List.getElem?_eq_some_iff.1 hx
  obtain ⟨b, o, hA, hb, hc⟩ := h (by omega)
  obtain rfl : a = ⟨b, o, none⟩ := by simpa using hA
  rw [addr_add]
  exact hc j hj

def cnt (xs : List Int) (id : Int) : Nat := xs.countP (fun x => x == id)
theorem cnt_take (xs : List Int) (id : Int) (j : Nat) (h : j < xs.length) : cnt (xs.take (j + 1)) id = cnt (xs.take j) id + (if xs[j] == id then 1 else 0) := by
  unfold cnt
  rw [List.take_succ_eq_append_getElem h, List.countP_append]
  simp [List.countP_cons]

set_option maxRecDepth 20000 in
set_option maxHeartbeats 800000 in
theorem RUsed_any (node : Nat) (lA : Option Addr) (ln lc : Nat) (gA : Option Addr) (xs : List Int) (gc : Nat) (id : Int) (hn : Hid (xs.length < 4611686018427387904)) (w : World) (hk : Hid (IsInts w gA xs)) :
    Calls Try.prog 17 #[.agg #[.int .u64 (node : Int), .slice lA ln lc, .slice gA xs.length gc], .int .i64 id] w (Ret (.int .i64 (cnt xs id : Int)) w) := by
  have H0 : ∀ W, Ext (w.alloc (.cells #[.int .u64 (node : Int), .slice lA ln lc, .slice gA xs.length gc] 43)) W → W.cell? ⟨w.heap.size, 2, none⟩ = some (.slice gA xs.length gc) := fun W hW => (hW.cell (by simp) (by simp)).trans (by simp [go_sem])
  have HH := hid H0; clear H0
  go_enter Try.func17, Try.ntmps17
  go_wp2
  go_loopw [5, 6] (fun s5 s6 wr => ∃ j c : Nat, j ≤ xs.length ∧ s6 = .int .i64 (j : Int) ∧ s5 = .int .i64 (c : Int) ∧ c ≤ j ∧ Hid (c = cnt (xs.take j) id) ∧ Ext (w.alloc (.cells #[.int .u64 (node : Int), .slice lA ln lc, .slice gA xs.length gc] 43)) wr) (fun _ i _ => xs.length - (intOf i).toNat)
  case atStart => exact ⟨0, 0, Nat.zero_le _, rfl, rfl, Nat.le_refl _, rfl, Mod.refl _ _⟩
  case round =>
    obtain ⟨j, c, hj, rfl, rfl, hcj, hc, hE⟩ := hrel
    have e1 := HH.out wr hE
    have hE0 : Ext w wr := ((Mod.refl [] w).alloc _).trans hE
    by_cases hlt : j < xs.length
    · obtain ⟨b, o, rfl, c0⟩ := hk.out.cells (W := wr) (S := []) hE0 (by simp) hlt
      have hct := hid (cnt_take xs id j hlt)
      generalize xs[j] = y at c0 hct
      have hj1 : (0 : Int) ≤ (j : Int) := by omega
      have hj2 : (j : Int) < (xs.length : Int) := by omega
      have hj3 : (xs.length : Int) < 4611686018427387904 := by have := hn.out; omega
      have hc1 : (0 : Int) ≤ (c : Int) := by omega
      have hc2 : (c : Int) ≤ (j : Int) := by omega
      have tj : decide (j < xs.length) = true := by simp [hlt]
      have HE := hid hE; clear hE
      cases e0 : (y == id)
      · have E0 := hid e0
        go_wp2
        refine ⟨⟨j + 1, c, by omega, by simp, rfl, by omega, (show Hid _ from by unfold Hid; rw [hct.out, E0.out, hc.out]; rfl), HE.out⟩, ?_⟩
        simp only [intOf]
        omega
      · have E0 := hid e0
        go_wp2
        refine ⟨⟨j + 1, c + 1, by omega, by simp, by simp, by omega, (show Hid _ from by unfold Hid; rw [hct.out, E0.out, hc.out]; rfl), HE.out⟩, ?_⟩
        simp only [intOf]
        omega
    · obtain rfl : j = xs.length := by omega
      have tj : decide (xs.length < xs.length) = false := by simp
      have hr : Hid (c = cnt xs id) := by have := hc.out; rwa [List.take_length] at this
      go_wp2
      go_ret
      rw [← hr.out]
      exact Ret.mk rfl hE0
end Go.Proofs.Ytmcehdinkghlfaa
