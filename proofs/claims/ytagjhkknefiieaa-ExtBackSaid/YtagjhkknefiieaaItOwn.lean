/-
  A row of items of the call's own: its form, in a later world; what is appended to it.
-/
import Derived.Test.YtagjhkknefiieaaItMem
import Derived.Laws.OwnMore
import Derived.OwnWalk
import Derived.OneCell
namespace Go.Proofs.Ytagjhkknefiieaa
open Go.RowKit
set_option linter.unusedVariables false

theorem infoItem : (Try.prog.info? 63).map (fun i => (i.zero, i.size, i.bytes)) = some (some (.agg #[.int .i64 0, .int .u64 0, .string ⟨#[]⟩, .slice none 0 0, .bool false]), 5, 64) := by kernel_rfl

theorem ownsRow_mod {w w' : World} {S : List Nat} {base : Nat} {e : TypeId} {size : Nat} {v : Value} {n : Nat} {xs : List Value} (h : w.ownsRow base e size v n xs) (hm : Mod S w w') (hs : ∀ k, v.ownBlock = some k → k ∉ S) : w'.ownsRow base e size v n xs := by
  refine ⟨h.1, ?_⟩
  have hlt := h.lt
  rcases h.2 with h0 | ⟨g, cap, cur, rfl, hbg, hg, hnc, hcm, hcs, htake⟩
  · exact .inl h0
  · exact .inr ⟨g, cap, cur, rfl, hbg, (hm.block g (hlt g rfl).2 (hs g rfl)).trans hg, hnc, hcm, hcs, htake⟩

theorem own_form {w : World} {base : Nat} {e : TypeId} {size : Nat} {v : Value} {n : Nat} {xs : List Value} (h : w.ownsRow base e size v (n + 1) xs) : ∃ g c, v = .slice (some ⟨g, 0, none⟩) (n + 1) c ∧ base ≤ g ∧ g < w.heap.size := by
  have hlt := h.lt
  rcases h.2 with ⟨_, h0⟩ | ⟨g, cap, cur, rfl, hbg, hg, _⟩
  · cases h0
  · exact ⟨g, cap, rfl, hbg, (hlt g rfl).2⟩
theorem news5 (W : World) (t : T) (A : Option Addr) (c : Nat) : ∀ j u, [Value.int .i64 t.kind, .int .u64 (t.n : Int), str t.s, .slice A t.k c, .bool t.op][j]? = some u →
    (W.alloc (.cells (itemC t A c) 63)).cell? ((⟨W.heap.size, 0, none⟩ : Addr).add j) = some u := by
  intro j u hj
  rw [addr_add, Nat.zero_add]
  rw [(Blk.new W 63 (itemC t A c)).cell j]
  simpa using hj
theorem one5 (t : T) (A : Option Addr) (c : Nat) : ∀ u ∈ [Value.int .i64 t.kind, .int .u64 (t.n : Int), str t.s, .slice A t.k c, .bool t.op], u.oneCell' = true := by
  intro u hu
  simp at hu
  rcases hu with rfl | rfl | rfl | rfl | rfl <;> rfl

theorem own_of_blk {w : World} {g base n size : Nat} {e : TypeId} {cs : Array Value} (h : Blk w g e cs) (hb : base ≤ g) (hn : n ≤ maxLen) (hs : cs.size = n * size) : w.ownsRow base e size (.slice (some ⟨g, 0, none⟩) n n) n cs.toList :=
  ⟨by simpa using hs, .inr ⟨g, n, cs, rfl, hb, h, Nat.le_refl _, hn, hs, by rw [← hs]; exact List.take_of_length_le (by simp)⟩⟩
theorem own_cells {w : World} {g base n c size : Nat} {e : TypeId} {xs : List Value} (h : w.ownsRow base e size (.slice (some ⟨g, 0, none⟩) n c) n xs) {j : Nat} {u : Value} (hj : xs[j]? = some u) : w.cell? ⟨g, j, none⟩ = some u := by
  have := h.cells (g := g) rfl j u hj
  rw [addr_add, Nat.zero_add] at this
  exact this
/-- The row's cells: the first i items'. -/
def flatC (ch : Nat → T) (ac : Nat → Option Addr × Nat) : Nat → List Value
  | 0 => []
  | i + 1 => flatC ch ac i ++ [.int .i64 (ch i).kind, .int .u64 ((ch i).n : Int), str (ch i).s, .slice (ac i).1 (ch i).k (ac i).2, .bool (ch i).op]
theorem flatC_length (ch : Nat → T) (ac : Nat → Option Addr × Nat) (i : Nat) : (flatC ch ac i).length = i * 5 := by
  induction i with
  | zero => rfl
  | succ i ih => rw [flatC, List.length_append, ih]; simp; omega
theorem flatC_congr {ch ch' : Nat → T} {ac ac' : Nat → Option Addr × Nat} {i : Nat} (h : ∀ j, j < i → ch j = ch' j ∧ ac j = ac' j) : flatC ch ac i = flatC ch' ac' i := by
  induction i with
  | zero => rfl
  | succ i ih => rw [flatC, flatC, ih (fun j hj => h j (by omega)), (h i (by omega)).1, (h i (by omega)).2]
theorem flatC_get (ch : Nat → T) (ac : Nat → Option Addr × Nat) (i : Nat) : ∀ j, j < i → (flatC ch ac i)[j * 5]? = some (.int .i64 (ch j).kind) ∧ (flatC ch ac i)[j * 5 + 1]? = some (.int .u64 ((ch j).n : Int)) ∧ (flatC ch ac i)[j * 5 + 2]? = some (str (ch j).s) ∧
    (flatC ch ac i)[j * 5 + 3]? = some (.slice (ac j).1 (ch j).k (ac j).2) ∧ (flatC ch ac i)[j * 5 + 4]? = some (.bool (ch j).op) := by
  induction i with
  | zero => intro j hj; omega
  | succ i ih =>
    intro j hj
    have hl := flatC_length ch ac i
    rw [flatC]
    by_cases e : j = i
    · subst e
      refine ⟨?_, ?_, ?_, ?_, ?_⟩ <;> (rw [List.getElem?_append_right (by omega), hl]; simp)
    · have := ih j (by omega)
      refine ⟨?_, ?_, ?_, ?_, ?_⟩ <;> rw [List.getElem?_append_left (by omega)]
      · exact this.1
      · exact this.2.1
      · exact this.2.2.1
      · exact this.2.2.2.1
      · exact this.2.2.2.2

theorem flatC_idx (ch : Nat → T) (ac : Nat → Option Addr × Nat) (k : Nat) {j : Nat} {u : Value} (h : (flatC ch ac k)[j]? = some u) : ∃ i r, i < k ∧ r < 5 ∧ j = i * 5 + r := by
  have := (List.getElem?_eq_some_iff.1 h).1
  rw [flatC_length] at this
  exact ⟨j / 5, j % 5, by omega, by omega, by omega⟩
theorem flatC_news {W : World} {b o : Nat} {ch : Nat → T} {ac : Nat → Option Addr × Nat} {k : Nat} (h : ∀ i, i < k → At5 W b (o + i * 5) (ch i) (ac i).1 (ac i).2) : ∀ j u, (flatC ch ac k)[j]? = some u → W.cell? ((⟨b, o, none⟩ : Addr).add j) = some u := by
  intro j u hj
  obtain ⟨i, r, hi, hr, rfl⟩ := flatC_idx ch ac k hj
  obtain ⟨g0, g1, g2, g3, g4⟩ := flatC_get ch ac k i hi
  obtain ⟨a0, a1, a2, a3, a4⟩ := h i hi
  rw [addr_add, ← Nat.add_assoc]
  have h5 : r = 0 ∨ r = 1 ∨ r = 2 ∨ r = 3 ∨ r = 4 := by omega
  rcases h5 with rfl | rfl | rfl | rfl | rfl
  · rw [← hj, Nat.add_zero, Nat.add_zero, g0]; exact a0
  · rw [← hj, g1]; exact a1
  · rw [← hj, g2]; exact a2
  · rw [← hj, g3]; exact a3
  · rw [← hj, g4]; exact a4
theorem flatC_one (ch : Nat → T) (ac : Nat → Option Addr × Nat) (k : Nat) : ∀ u ∈ flatC ch ac k, u.oneCell' = true := by
  intro u hu
  obtain ⟨j, hj⟩ := List.getElem?_of_mem hu
  obtain ⟨i, r, hi, hr, rfl⟩ := flatC_idx ch ac k hj
  obtain ⟨g0, g1, g2, g3, g4⟩ := flatC_get ch ac k i hi
  have h5 : r = 0 ∨ r = 1 ∨ r = 2 ∨ r = 3 ∨ r = 4 := by omega
  rcases h5 with rfl | rfl | rfl | rfl | rfl
  · rw [Nat.add_zero, g0] at hj; cases hj; rfl
  · rw [g1] at hj; cases hj; rfl
  · rw [g2] at hj; cases hj; rfl
  · rw [g3] at hj; cases hj; rfl
  · rw [g4] at hj; cases hj; rfl
theorem IsL.rows {W : World} {Q : Nat → Prop} {kind : Int} {n : Nat} {s : List UInt8} {op : Bool} {k : Nat} {ch : Nat → T} {A : Option Addr} (h : IsL W Q (T.mk kind n s op k ch) A) (hk : 0 < k) :
    ∃ (b o : Nat) (ac : Nat → Option Addr × Nat), A = some ⟨b, o, none⟩ ∧ b < W.heap.size ∧ Q b ∧ ∀ i, i < k → At5 W b (o + i * 5) (ch i) (ac i).1 (ac i).2 ∧ IsL W Q (ch i) (ac i).1 := by
  obtain ⟨b, o, hA, hb, hq, hc⟩ := h hk
  have hex : ∀ i, ∃ p : Option Addr × Nat, i < k → At5 W b (o + i * 5) (ch i) p.1 p.2 ∧ IsL W Q (ch i) p.1 := fun i => by
    by_cases hi : i < k
    · obtain ⟨Ai, ci, h1, h2⟩ := hc i hi
      exact ⟨(Ai, ci), fun _ => ⟨h1, h2⟩⟩
    · exact ⟨(none, 0), fun h => absurd h hi⟩
  exact ⟨b, o, fun i => (hex i).choose, hA, hb, hq, fun i hi => (hex i).choose_spec hi⟩
theorem own_IsL {W : World} {Q : Nat → Prop} {base g c k : Nat} {ch : Nat → T} {ac : Nat → Option Addr × Nat} (hlt : g < W.heap.size) (q : Q g) (h : W.ownsRow base 63 5 (.slice (some ⟨g, 0, none⟩) k c) k (flatC ch ac k)) (hI : ∀ i, i < k → IsL W Q (ch i) (ac i).1) : IsL W Q (T.mk 4 0 [] false k ch) (some ⟨g, 0, none⟩) := fun _ => ⟨g, 0, rfl, hlt, q, fun i hi => by
  obtain ⟨g0, g1, g2, g3, g4⟩ := flatC_get ch ac k i hi
  refine ⟨(ac i).1, (ac i).2, ⟨?_, ?_, ?_, ?_, ?_⟩, hI i hi⟩
  · rw [Nat.zero_add]; exact own_cells h g0
  · rw [Nat.zero_add]; exact own_cells h g1
  · rw [Nat.zero_add]; exact own_cells h g2
  · rw [Nat.zero_add]; exact own_cells h g3
  · rw [Nat.zero_add]; exact own_cells h g4⟩
/-- The last item's five cells, stored anew. -/
theorem own_last {W : World} {base g c n : Nat} {ch : Nat → T} {ac : Nat → Option Addr × Nat} (t : T) (A : Option Addr) (ca : Nat) (h : W.ownsRow base 63 5 (.slice (some ⟨g, 0, none⟩) (n + 1) c) (n + 1) (flatC ch ac (n + 1))) :
    (((((W.setCell ⟨g, n * 5, none⟩ (.int .i64 t.kind)).setCell ⟨g, n * 5 + 1, none⟩ (.int .u64 (t.n : Int))).setCell ⟨g, n * 5 + 2, none⟩ (str t.s)).setCell ⟨g, n * 5 + 3, none⟩ (.slice A t.k ca)).setCell ⟨g, n * 5 + 4, none⟩ (.bool t.op)).ownsRow base 63 5 (.slice (some ⟨g, 0, none⟩) (n + 1) c) (n + 1)
      (flatC (fun i => if i = n then t else ch i) (fun i => if i = n then (A, ca) else ac i) (n + 1)) := by
  have h5 := ((((h.stored (n * 5) (.int .i64 t.kind)).1.stored (n * 5 + 1) (.int .u64 (t.n : Int))).1.stored (n * 5 + 2) (str t.s)).1.stored (n * 5 + 3) (.slice A t.k ca)).1.stored (n * 5 + 4) (.bool t.op)
  have hl := flatC_length ch ac n
  have e : (((((flatC ch ac (n + 1)).set (n * 5) (.int .i64 t.kind)).set (n * 5 + 1) (.int .u64 (t.n : Int))).set (n * 5 + 2) (str t.s)).set (n * 5 + 3) (.slice A t.k ca)).set (n * 5 + 4) (.bool t.op) = flatC (fun i => if i = n then t else ch i) (fun i => if i = n then (A, ca) else ac i) (n + 1) := by
    have hc : flatC (fun i => if i = n then t else ch i) (fun i => if i = n then (A, ca) else ac i) n = flatC ch ac n := flatC_congr fun j hj => by
      have : ¬ j = n := by omega
      simp [this]
    rw [flatC, flatC, hc, ← hl]
    simp
  rw [e] at h5
  exact h5.1
end Go.Proofs.Ytagjhkknefiieaa
