/-
  A row of items of the call's own: its form, in a later world; what is appended to it.
  slices.Clone of items.
  The code's sums: divide, X25, Castagnoli, Size, Sum.
  The code's sums' bytes.
  strings.Repeat: the library's contract, at this program.
  Names of the scheme 2: Right, Item; None.
  Names: the code's look at them.
  Names: which the code takes for right.
  The item of a name.
  The reference's look at names.
  The reference's right names.
  An argument item.Item, opened: it is a tree whose items lie in memory.
  An argument api.EID, opened; two numbers in a row.
  A right name's item, by the code and by the reference.
  Lists of items, plainly; a primary's items and bytes; why it is not right.
  Bundles in memory.
  Why a block is not right, as the code and the reference tell it.
  A block's header.
  A block's item, without a sum.
-/
import Derived.Test.YtcajjhmldghakaaMBundleFindsa
import Derived.Laws.OwnMore
import Derived.OwnWalk
import Derived.OneCell
import Derived.Lib.SliceRun
import Derived.Laws.BitsAllLaws
import Derived.Shelf.Strings.Repeat
import Derived.Laws.RangeAny
import Derived.Lib.Strings
import Derived.Deep.Slices
import Derived.Deep.Fields
import Derived.ChangeSame
import Derived.SizedLaws
import Derived.OpenShut

namespace Go.Proofs.Ytcajjhmldghakaa
open Go.RowKit
set_option linter.unusedVariables false
set_option linter.unusedSimpArgs false

theorem infoItem : (Try.prog.info? 60).map (fun i => (i.zero, i.size, i.bytes)) = some (some (.agg #[.int .i64 0, .int .u64 0, .string ⟨#[]⟩, .slice none 0 0, .bool false]), 5, 64) := by kernel_rfl

theorem ownsRow_mod {w w' : World} {S : List Nat} {base : Nat} {e : TypeId} {size : Nat} {v : Value} {n : Nat} {xs : List Value} (h : w.ownsRow base e size v n xs) (hm : Mod S w w') (hs : ∀ k, v.ownBlock = some k → k ∉ S) : w'.ownsRow base e size v n xs := by
  refine ⟨h.1, ?_⟩
  have hlt := h.lt
  rcases h.2 with h0 | ⟨g, cap, cur, rfl, hbg, hg, hnc, hcm, hcs, htake⟩
  · exact .inl h0
  · exact .inr ⟨g, cap, cur, rfl, hbg, (hm.block g (hlt g rfl).2 (hs g rfl)).trans hg, hnc, hcm, hcs, htake⟩

theorem own_form {w : World} {base : Nat} {e : TypeId} {size : Nat} {v : Value} {n : Nat} {xs : List Value} (h : w.ownsRow base e size v (n + 1) xs) : ∃ g c, v = .slice (some ⟨g, 0, none⟩) (n + 1) c ∧ base ≤ g ∧ g < w.heap.size := by
  have hlt := h.lt
  rcases h.2 with ⟨_, h0⟩ | ⟨g, cap, cur, rfl, hbg, hg, _⟩
  · cases h0
  · exact ⟨g, cap, rfl, hbg, (hlt g rfl).2⟩
theorem news5 (W : World) (t : T) (A : Option Addr) (c : Nat) : ∀ j u, [Value.int .i64 t.kind, .int .u64 (t.n : Int), str t.s, .slice A t.k c, .bool t.op][j]? = some u →
    (W.alloc (.cells (itemC t A c) 60)).cell? ((⟨W.heap.size, 0, none⟩ : Addr).add j) = some u := by
  intro j u hj
  rw [addr_add, Nat.zero_add]
  rw [(Blk.new W 60 (itemC t A c)).cell j]
  simpa using hj
theorem one5 (t : T) (A : Option Addr) (c : Nat) : ∀ u ∈ [Value.int .i64 t.kind, .int .u64 (t.n : Int), str t.s, .slice A t.k c, .bool t.op], u.oneCell' = true := by
  intro u hu
  simp at hu
  rcases hu with rfl | rfl | rfl | rfl | rfl <;> rfl

theorem own_of_blk {w : World} {g base n size : Nat} {e : TypeId} {cs : Array Value} (h : Blk w g e cs) (hb : base ≤ g) (hn : n ≤ maxLen) (hs : cs.size = n * size) : w.ownsRow base e size (.slice (some ⟨g, 0, none⟩) n n) n cs.toList :=
  ⟨by simpa using hs, .inr ⟨g, n, cs, rfl, hb, h, Nat.le_refl _, hn, hs, by rw [← hs]; exact List.take_of_length_le (by simp)⟩⟩
theorem own_cells {w : World} {g base n c size : Nat} {e : TypeId} {xs : List Value} (h : w.ownsRow base e size (.slice (some ⟨g, 0, none⟩) n c) n xs) {j : Nat} {u : Value} (hj : xs[j]? = some u) : w.cell? ⟨g, j, none⟩ = some u := by
  have := h.cells (g := g) rfl j u hj
  rw [addr_add, Nat.zero_add] at this
  exact this
/-- The row's cells: the first i items'. -/
def flatC (ch : Nat → T) (ac : Nat → Option Addr × Nat) : Nat → List Value
  | 0 => []
  | i + 1 => flatC ch ac i ++ [.int .i64 (ch i).kind, .int .u64 ((ch i).n : Int), str (ch i).s, .slice (ac i).1 (ch i).k (ac i).2, .bool (ch i).op]
theorem flatC_length (ch : Nat → T) (ac : Nat → Option Addr × Nat) (i : Nat) : (flatC ch ac i).length = i * 5 := by
  induction i with
  | zero => rfl
  | succ i ih => rw [flatC, List.length_append, ih]; simp; omega
theorem flatC_congr {ch ch' : Nat → T} {ac ac' : Nat → Option Addr × Nat} {i : Nat} (h : ∀ j, j < i → ch j = ch' j ∧ ac j = ac' j) : flatC ch ac i = flatC ch' ac' i := by
  induction i with
  | zero => rfl
  | succ i ih => rw [flatC, flatC, ih (fun j hj => h j (by omega)), (h i (by omega)).1, (h i (by omega)).2]
theorem flatC_get (ch : Nat → T) (ac : Nat → Option Addr × Nat) (i : Nat) : ∀ j, j < i → (flatC ch ac i)[j * 5]? = some (.int .i64 (ch j).kind) ∧ (flatC ch ac i)[j * 5 + 1]? = some (.int .u64 ((ch j).n : Int)) ∧ (flatC ch ac i)[j * 5 + 2]? = some (str (ch j).s) ∧
    (flatC ch ac i)[j * 5 + 3]? = some (.slice (ac j).1 (ch j).k (ac j).2) ∧ (flatC ch ac i)[j * 5 + 4]? = some (.bool (ch j).op) := by
  induction i with
  | zero => intro j hj; omega
  | succ i ih =>
    intro j hj
    have hl := flatC_length ch ac i
    rw [flatC]
    by_cases e : j = i
    · subst e
      refine ⟨?_, ?_, ?_, ?_, ?_⟩ <;> (rw [List.getElem?_append_right (by omega), hl]; simp)
    · have := ih j (by omega)
      refine ⟨?_, ?_, ?_, ?_, ?_⟩ <;> rw [List.getElem?_append_left (by omega)]
      · exact this.1
      · exact this.2.1
      · exact this.2.2.1
      · exact this.2.2.2.1
      · exact this.2.2.2.2

theorem flatC_idx (ch : Nat → T) (ac : Nat → Option Addr × Nat) (k : Nat) {j : Nat} {u : Value} (h : (flatC ch ac k)[j]? = some u) : ∃ i r, i < k ∧ r < 5 ∧ j = i * 5 + r := by
  have := (List.getElem?_eq_some_iff.1 h).1
  rw [flatC_length] at this
  exact ⟨j / 5, j % 5, by omega, by omega, by omega⟩
theorem flatC_news {W : World} {b o : Nat} {ch : Nat → T} {ac : Nat → Option Addr × Nat} {k : Nat} (h : ∀ i, i < k → At5 W b (o + i * 5) (ch i) (ac i).1 (ac i).2) : ∀ j u, (flatC ch ac k)[j]? = some u → W.cell? ((⟨b, o, none⟩ : Addr).add j) = some u := by
  intro j u hj
  obtain ⟨i, r, hi, hr, rfl⟩ := flatC_idx ch ac k hj
  obtain ⟨g0, g1, g2, g3, g4⟩ := flatC_get ch ac k i hi
  obtain ⟨a0, a1, a2, a3, a4⟩ := h i hi
  rw [addr_add, ← Nat.add_assoc]
  have h5 : r = 0 ∨ r = 1 ∨ r = 2 ∨ r = 3 ∨ r = 4 := by omega
  rcases h5 with rfl | rfl | rfl | rfl | rfl
  · rw [← hj, Nat.add_zero, Nat.add_zero, g0]; exact a0
  · rw [← hj, g1]; exact a1
  · rw [← hj, g2]; exact a2
  · rw [← hj, g3]; exact a3
  · rw [← hj, g4]; exact a4
theorem flatC_one (ch : Nat → T) (ac : Nat → Option Addr × Nat) (k : Nat) : ∀ u ∈ flatC ch ac k, u.oneCell' = true := by
  intro u hu
  obtain ⟨j, hj⟩ := List.getElem?_of_mem hu
  obtain ⟨i, r, hi, hr, rfl⟩ := flatC_idx ch ac k hj
  obtain ⟨g0, g1, g2, g3, g4⟩ := flatC_get ch ac k i hi
  have h5 : r = 0 ∨ r = 1 ∨ r = 2 ∨ r = 3 ∨ r = 4 := by omega
  rcases h5 with rfl | rfl | rfl | rfl | rfl
  · rw [Nat.add_zero, g0] at hj; cases hj; rfl
  · rw [g1] at hj; cases hj; rfl
  · rw [g2] at hj; cases hj; rfl
  · rw [g3] at hj; cases hj; rfl
  · rw [g4] at hj; cases hj; rfl
theorem IsL.rows {W : World} {Q : Nat → Prop} {kind : Int} {n : Nat} {s : List UInt8} {op : Bool} {k : Nat} {ch : Nat → T} {A : Option Addr} (h : IsL W Q (T.mk kind n s op k ch) A) (hk : 0 < k) :
    ∃ (b o : Nat) (ac : Nat → Option Addr × Nat), A = some ⟨b, o, none⟩ ∧ b < W.heap.size ∧ Q b ∧ ∀ i, i < k → At5 W b (o + i * 5) (ch i) (ac i).1 (ac i).2 ∧ IsL W Q (ch i) (ac i).1 := by
  obtain ⟨b, o, hA, hb, hq, hc⟩ := h hk
  have hex : ∀ i, ∃ p : Option Addr × Nat, i < k → At5 W b (o + i * 5) (ch i) p.1 p.2 ∧ IsL W Q (ch i) p.1 := fun i => by
    by_cases hi : i < k
    · obtain ⟨Ai, ci, h1, h2⟩ := hc i hi
      exact ⟨(Ai, ci), fun _ => ⟨h1, h2⟩⟩
    · exact ⟨(none, 0), fun h => absurd h hi⟩
  exact ⟨b, o, fun i => (hex i).choose, hA, hb, hq, fun i hi => (hex i).choose_spec hi⟩
theorem own_IsL {W : World} {Q : Nat → Prop} {base g c k : Nat} {ch : Nat → T} {ac : Nat → Option Addr × Nat} (hlt : g < W.heap.size) (q : Q g) (h : W.ownsRow base 60 5 (.slice (some ⟨g, 0, none⟩) k c) k (flatC ch ac k)) (hI : ∀ i, i < k → IsL W Q (ch i) (ac i).1) : IsL W Q (T.mk 4 0 [] false k ch) (some ⟨g, 0, none⟩) := fun _ => ⟨g, 0, rfl, hlt, q, fun i hi => by
  obtain ⟨g0, g1, g2, g3, g4⟩ := flatC_get ch ac k i hi
  refine ⟨(ac i).1, (ac i).2, ⟨?_, ?_, ?_, ?_, ?_⟩, hI i hi⟩
  · rw [Nat.zero_add]; exact own_cells h g0
  · rw [Nat.zero_add]; exact own_cells h g1
  · rw [Nat.zero_add]; exact own_cells h g2
  · rw [Nat.zero_add]; exact own_cells h g3
  · rw [Nat.zero_add]; exact own_cells h g4⟩
/-- The last item's five cells, stored anew. -/
theorem own_last {W : World} {base g c n : Nat} {ch : Nat → T} {ac : Nat → Option Addr × Nat} (t : T) (A : Option Addr) (ca : Nat) (h : W.ownsRow base 60 5 (.slice (some ⟨g, 0, none⟩) (n + 1) c) (n + 1) (flatC ch ac (n + 1))) :
    (((((W.setCell ⟨g, n * 5, none⟩ (.int .i64 t.kind)).setCell ⟨g, n * 5 + 1, none⟩ (.int .u64 (t.n : Int))).setCell ⟨g, n * 5 + 2, none⟩ (str t.s)).setCell ⟨g, n * 5 + 3, none⟩ (.slice A t.k ca)).setCell ⟨g, n * 5 + 4, none⟩ (.bool t.op)).ownsRow base 60 5 (.slice (some ⟨g, 0, none⟩) (n + 1) c) (n + 1)
      (flatC (fun i => if i = n then t else ch i) (fun i => if i = n then (A, ca) else ac i) (n + 1)) := by
  have h5 := ((((h.stored (n * 5) (.int .i64 t.kind)).1.stored (n * 5 + 1) (.int .u64 (t.n : Int))).1.stored (n * 5 + 2) (str t.s)).1.stored (n * 5 + 3) (.slice A t.k ca)).1.stored (n * 5 + 4) (.bool t.op)
  have hl := flatC_length ch ac n
  have e : (((((flatC ch ac (n + 1)).set (n * 5) (.int .i64 t.kind)).set (n * 5 + 1) (.int .u64 (t.n : Int))).set (n * 5 + 2) (str t.s)).set (n * 5 + 3) (.slice A t.k ca)).set (n * 5 + 4) (.bool t.op) = flatC (fun i => if i = n then t else ch i) (fun i => if i = n then (A, ca) else ac i) (n + 1) := by
    have hc : flatC (fun i => if i = n then t else ch i) (fun i => if i = n then (A, ca) else ac i) n = flatC ch ac n := flatC_congr fun j hj => by
      have : ¬ j = n := by omega
      simp [this]
    rw [flatC, flatC, hc, ← hl]
    simp
  rw [e] at h5
  exact h5.1
end Go.Proofs.Ytcajjhmldghakaa


namespace Go.Proofs.Ytcajjhmldghakaa
open Go.RowKit
set_option linter.unusedVariables false
set_option linter.unusedSimpArgs false

set_option maxHeartbeats 800000 in
theorem CloneI_any {Q : Nat → Prop} {kind : Int} {n : Nat} {s : List UInt8} {op : Bool} (ch : Nat → T) (k : Nat) (hk : Hid (0 < k ∧ k ≤ 1000)) (A : Option Addr) (c : Nat) (w : World) (h : IsL w Q (T.mk kind n s op k ch) A) :
    Calls Try.prog 47 #[.slice A k c] w (fun e w' => ∃ (g c' : Nat) (ac : Nat → Option Addr × Nat), e = .returned (.slice (some ⟨g, 0, none⟩) k c') ∧ Ext w w' ∧ w.heap.size ≤ g ∧ g < w'.heap.size ∧ w'.ownsRow w.heap.size 60 5 (.slice (some ⟨g, 0, none⟩) k c') k (flatC ch ac k) ∧ ∀ i, i < k → IsL w' Q (ch i) (ac i).1) := by
  have he := Lib.run_eql_slice_nil (P := Try.prog)
  obtain ⟨i0, hi, hz0, hz1, hz2⟩ := info_parts infoItem
  obtain ⟨b, o, ac, rfl, hb, hq, hc⟩ := h.rows hk.out.1
  have hl := World.ownsRow_lit (base := w.heap.size) (e := 60) (size := 5) w #[] 0 (Nat.le_refl _) (Nat.zero_le _) rfl
  have hnews : Hid (∀ j u, (flatC ch ac k)[j]? = some u → (w.alloc (.cells #[] 60)).cell? ((⟨b, o, none⟩ : Addr).add j) = some u) := flatC_news fun i hi => (hc i hi).1.mod (S := []) ((Mod.refl _ _).alloc _) hb (by simp)
  have hfl := hid (flatC_length ch ac k)
  have hfc := hid (flatC_one ch ac k)
  have HC := hid hc
  clear hc h
  go_enter Try.func47, Try.ntmps47
  go_wp2_with (at_builtin; refine wpList_append_own _ rfl _ _ 58 rfl w.heap.size 60 i0 _ 5 64 Try.underlying58 hi hz0 hz1 hz2 rfl (by decide) _ _ _ rfl hl ⟨b, o, none⟩ k c (flatC ch ac k) rfl hfl.out hnews.out hfc.out (by have := hk.out; unfold maxLen; omega) (by have := hk.out; omega) (by simp) ?_; intro v' w1 hown' hgrow hnil)
  have hg2 : (w.alloc (.cells #[] 60)).grownBy w1 (some w.heap.size) := hgrow
  have hm : Ext w w1 := ((Mod.refl [] w).alloc (.cells #[] 60)).grown hg2 (fun k hk => .inr (by cases hk; exact Nat.le_refl _))
  have hown2 : w1.ownsRow w.heap.size 60 5 v' k (flatC ch ac k) := by simpa using hown'
  obtain ⟨m, rfl⟩ : ∃ m, k = m + 1 := ⟨k - 1, by have := hk.out.1; omega⟩
  obtain ⟨g, c', rfl, hg, hlt⟩ := own_form hown2
  go_wp2
  go_ret
  exact ⟨g, c', rfl, hm, hg, hlt, ac, hown2, fun i hi => (HC.out i hi).2.ext hm⟩

end Go.Proofs.Ytcajjhmldghakaa


namespace Go.Proofs.Ytcajjhmldghakaa
open Go.RowKit
set_option linter.unusedVariables false
set_option linter.unusedSimpArgs false

theorem cell_row8 (w : World) (l : List UInt8) (cap t : Nat) (fz : Nat × Nat) (j : Nat) (h : j < l.length) :
    (w.alloc (.cells (bytesRow ⟨l.toArray⟩ cap) t fz)).cell? ⟨w.heap.size, j, none⟩ = some (.int .u8 (l[j].toNat : Int)) := by
  rw [World.cell?_alloc_mark]
  simp only [bytesRow]
  rw [Array.getElem?_append_left (by simpa using h)]
  simp [h]
theorem Crc.stepC_lt {p s m : Nat} (hp : p < 2 ^ m) (hs : s < 2 ^ m) : Crc.stepC p s < 2 ^ m := by
  unfold Crc.stepC
  split
  · exact Nat.xor_lt_two_pow (by omega) hp
  · omega
theorem Crc.stepsC_lt {p m : Nat} (hp : p < 2 ^ m) : ∀ (k s : Nat), s < 2 ^ m → Crc.stepsC p k s < 2 ^ m
  | 0, s, h => h
  | k + 1, s, h => Crc.stepsC_lt hp k _ (Crc.stepC_lt hp h)
theorem Crc.divC_lt {p m : Nat} (hp : p < 2 ^ m) : ∀ (l : List UInt8) (s : Nat), s < 2 ^ m → 8 ≤ m → Crc.divC p s l < 2 ^ m
  | [], s, h, _ => h
  | c :: l, s, h, h8 => by
    have hc : c.toNat < 2 ^ m := Nat.lt_of_lt_of_le c.toNat_lt (Nat.pow_le_pow_right (by omega) h8)
    have := Crc.divC_lt hp l (Crc.stepsC p 8 (s ^^^ c.toNat)) (Crc.stepsC_lt hp 8 _ (Nat.xor_lt_two_pow h hc)) h8
    exact this

theorem and1_16 {s : Nat} (hs : s < 65536) : bits .and .u16 (s : Int) 1 = ((s % 2 : Nat) : Int) := by
  have := u16_and_nat s 1 hs (by omega)
  rw [Nat.and_one_is_mod] at this
  exact this
theorem xor_16 {s c : Nat} (hs : s < 65536) (hc : c < 65536) : bits .xor .u16 (s : Int) (c : Int) = ((s ^^^ c : Nat) : Int) := u16_xor_nat s c hs hc

set_option maxHeartbeats 400000 in
theorem divide16 (p s : Nat) (hp : Hid (p < 65536)) (hs : Hid (s < 65536)) (l : List UInt8) (hl : Hid (l.length < 1000000)) (w : World) :
    Calls Try.prog 77 #[.int .u16 (s : Int), .int .u16 (p : Int), str l] w (Ret (.int .u16 (Crc.divC p s l : Nat)) w) := by
  have hconv := fun (w : World) (s : ByteArray) => run_bytes_of_string (P := Try.prog) w 9 65 5 s Try.underlying9 Try.underlying65 Try.underlying5
  obtain ⟨T, hT⟩ : ∃ T, T = Crc.divC p s l := ⟨_, rfl⟩
  rw [← hT]
  have HT := hid hT; clear hT
  go_enter Try.func77, Try.ntmps77
  go_wp2
  have hext : Ext w (w.alloc (Obj.cells (bytesRow { data := l.toArray } (grownCap w l.length 0 5)) 5 ((bytesRow { data := l.toArray } (grownCap w l.length 0 5)).size, (bytesRow { data := l.toArray } (grownCap w l.length 0 5)).size + 1))).drew := ((Mod.refl _ _).alloc _).drew
  have hcell : ∀ j (h : j < l.length), (w.alloc (Obj.cells (bytesRow { data := l.toArray } (grownCap w l.length 0 5)) 5 ((bytesRow { data := l.toArray } (grownCap w l.length 0 5)).size, (bytesRow { data := l.toArray } (grownCap w l.length 0 5)).size + 1))).drew.cell? ⟨w.heap.size, j, none⟩ = some (.int .u8 (l[j].toNat : Int)) := fun j h => by rw [World.cell?_drew]; exact cell_row8 w l _ _ _ j h
  generalize hW : World.drew (World.alloc w _) = W at *
  have HW := hid hW; clear hW
  have HC := hid hcell; clear hcell
  have HL := hid hl.out
  go_loop [0, 12] (fun n i => ∃ j c : Nat, j ≤ l.length ∧ c < 65536 ∧ i = .int .i64 j ∧ n = .int .u16 (c : Int) ∧ Hid (T = Crc.divC p c (l.drop j))) (fun _ i => l.length - (intOf i).toNat)
  case atStart => exact ⟨0, s, Nat.zero_le _, hs.out, rfl, rfl, HT⟩
  case round =>
    obtain ⟨j, c, hj, hc, rfl, rfl, HR⟩ := hrel
    by_cases hlt : j < l.length
    · have hcc := HC.out j hlt
      generalize hx : l[j] = x at *
      have HX := hid hx; clear hx
      have hx8 := x.toNat_lt
      have tx : IntKind.u16.wrap (x.toNat : Int) = (x.toNat : Int) := IntWalk.u16_in _ (by omega)
      have t2 := xor_16 (s := c) (c := x.toNat) hc (by omega)
      have hcx : c ^^^ x.toNat < 65536 := Nat.xor_lt_two_pow (n := 16) hc (by omega)
      have HS : Hid (T = Crc.divC p (Crc.stepsC p 8 (c ^^^ x.toNat)) (l.drop (j + 1))) := by
        have h1 := HR.out
        rw [List.drop_eq_getElem_cons hlt, HX.out] at h1
        exact h1
      clear HR
      go_wp2
      generalize c ^^^ x.toNat = y at *
      go_loop [0, 20] (fun n i => ∃ k c : Nat, k ≤ 8 ∧ c < 65536 ∧ i = .int .i64 k ∧ n = .int .u16 (c : Int) ∧ Hid (Crc.stepsC p (8 - k) c = Crc.stepsC p 8 y)) (fun _ i => 8 - (intOf i).toNat)
      case atStart => exact ⟨0, y, by omega, hcx, rfl, rfl, rfl⟩
      case round =>
        obtain ⟨k, c, hk, hc, rfl, rfl, HR⟩ := hrel
        by_cases hlt : k < 8
        · have tA := and1_16 hc
          have HN : Hid (Crc.stepsC p (8 - (k + 1)) (Crc.stepC p c) = Crc.stepsC p 8 y) := by
            have h1 := HR.out
            rw [show 8 - k = (8 - (k + 1)) + 1 by omega] at h1
            exact h1
          have hL := Crc.stepC_lt (m := 16) hp.out hc
          clear HR
          rcases Nat.mod_two_eq_zero_or_one c with e | e
          · have hS : Crc.stepC p c = c / 2 := by unfold Crc.stepC; rw [if_neg (by omega)]
            rw [hS] at HN hL
            rw [e] at tA
            go_wp2
            go_round
            case rel => exact ⟨k + 1, c / 2, by omega, hL, by go_num, by simp, HN⟩
            case measure => simp [intOf]; omega
          · have hS : Crc.stepC p c = c / 2 ^^^ p := by unfold Crc.stepC; rw [if_pos e]
            have tX := xor_16 (s := c / 2) (c := p) (by omega) hp.out
            rw [hS] at HN hL
            rw [e] at tA
            go_wp2
            go_round
            case rel => exact ⟨k + 1, c / 2 ^^^ p, by omega, hL, by go_num, by rw [← tX]; simp, HN⟩
            case measure => simp [intOf]; omega
        · obtain rfl : k = 8 := by omega
          have h1 : c = Crc.stepsC p 8 y := HR.out
          have hl2 : l.length < 1000000 := hl.out
          subst h1
          clear HR
          go_wp2
          go_round
          case rel => exact ⟨j + 1, _, by omega, hc, by go_num, rfl, HS⟩
          case measure => simp [intOf]; omega
    · obtain rfl : j = l.length := by omega
      have h1 := HR.out
      rw [List.drop_length] at h1
      have h2 : T = c := h1
      subst h2
      clear HR h1
      go_wp2
      go_ret
      exact ⟨rfl, hext⟩

theorem and1_32 {s : Nat} (hs : s < 4294967296) : bits .and .u32 (s : Int) 1 = ((s % 2 : Nat) : Int) := by
  have := u32_and_nat s 1 hs (by omega)
  rw [Nat.and_one_is_mod] at this
  exact this
theorem xor_32 {s c : Nat} (hs : s < 4294967296) (hc : c < 4294967296) : bits .xor .u32 (s : Int) (c : Int) = ((s ^^^ c : Nat) : Int) := u32_xor_nat s c hs hc

set_option maxHeartbeats 400000 in
theorem divide32 (p s : Nat) (hp : Hid (p < 4294967296)) (hs : Hid (s < 4294967296)) (l : List UInt8) (hl : Hid (l.length < 1000000)) (w : World) :
    Calls Try.prog 78 #[.int .u32 (s : Int), .int .u32 (p : Int), str l] w (Ret (.int .u32 (Crc.divC p s l : Nat)) w) := by
  have hconv := fun (w : World) (s : ByteArray) => run_bytes_of_string (P := Try.prog) w 9 65 5 s Try.underlying9 Try.underlying65 Try.underlying5
  obtain ⟨T, hT⟩ : ∃ T, T = Crc.divC p s l := ⟨_, rfl⟩
  rw [← hT]
  have HT := hid hT; clear hT
  go_enter Try.func78, Try.ntmps78
  go_wp2
  have hext : Ext w (w.alloc (Obj.cells (bytesRow { data := l.toArray } (grownCap w l.length 0 5)) 5 ((bytesRow { data := l.toArray } (grownCap w l.length 0 5)).size, (bytesRow { data := l.toArray } (grownCap w l.length 0 5)).size + 1))).drew := ((Mod.refl _ _).alloc _).drew
  have hcell : ∀ j (h : j < l.length), (w.alloc (Obj.cells (bytesRow { data := l.toArray } (grownCap w l.length 0 5)) 5 ((bytesRow { data := l.toArray } (grownCap w l.length 0 5)).size, (bytesRow { data := l.toArray } (grownCap w l.length 0 5)).size + 1))).drew.cell? ⟨w.heap.size, j, none⟩ = some (.int .u8 (l[j].toNat : Int)) := fun j h => by rw [World.cell?_drew]; exact cell_row8 w l _ _ _ j h
  generalize hW : World.drew (World.alloc w _) = W at *
  have HW := hid hW; clear hW
  have HC := hid hcell; clear hcell
  have HL := hid hl.out
  go_loop [0, 12] (fun n i => ∃ j c : Nat, j ≤ l.length ∧ c < 4294967296 ∧ i = .int .i64 j ∧ n = .int .u32 (c : Int) ∧ Hid (T = Crc.divC p c (l.drop j))) (fun _ i => l.length - (intOf i).toNat)
  case atStart => exact ⟨0, s, Nat.zero_le _, hs.out, rfl, rfl, HT⟩
  case round =>
    obtain ⟨j, c, hj, hc, rfl, rfl, HR⟩ := hrel
    by_cases hlt : j < l.length
    · have hcc := HC.out j hlt
      generalize hx : l[j] = x at *
      have HX := hid hx; clear hx
      have hx8 := x.toNat_lt
      have tx : IntKind.u32.wrap (x.toNat : Int) = (x.toNat : Int) := IntWalk.u32_in _ (by omega)
      have t2 := xor_32 (s := c) (c := x.toNat) hc (by omega)
      have hcx : c ^^^ x.toNat < 4294967296 := Nat.xor_lt_two_pow (n := 32) hc (by omega)
      have HS : Hid (T = Crc.divC p (Crc.stepsC p 8 (c ^^^ x.toNat)) (l.drop (j + 1))) := by
        have h1 := HR.out
        rw [List.drop_eq_getElem_cons hlt, HX.out] at h1
        exact h1
      clear HR
      go_wp2
      generalize c ^^^ x.toNat = y at *
      go_loop [0, 20] (fun n i => ∃ k c : Nat, k ≤ 8 ∧ c < 4294967296 ∧ i = .int .i64 k ∧ n = .int .u32 (c : Int) ∧ Hid (Crc.stepsC p (8 - k) c = Crc.stepsC p 8 y)) (fun _ i => 8 - (intOf i).toNat)
      case atStart => exact ⟨0, y, by omega, hcx, rfl, rfl, rfl⟩
      case round =>
        obtain ⟨k, c, hk, hc, rfl, rfl, HR⟩ := hrel
        by_cases hlt : k < 8
        · have tA := and1_32 hc
          have HN : Hid (Crc.stepsC p (8 - (k + 1)) (Crc.stepC p c) = Crc.stepsC p 8 y) := by
            have h1 := HR.out
            rw [show 8 - k = (8 - (k + 1)) + 1 by omega] at h1
            exact h1
          have hL := Crc.stepC_lt (m := 32) hp.out hc
          clear HR
          rcases Nat.mod_two_eq_zero_or_one c with e | e
          · have hS : Crc.stepC p c = c / 2 := by unfold Crc.stepC; rw [if_neg (by omega)]
            rw [hS] at HN hL
            rw [e] at tA
            go_wp2
            go_round
            case rel => exact ⟨k + 1, c / 2, by omega, hL, by go_num, by simp, HN⟩
            case measure => simp [intOf]; omega
          · have hS : Crc.stepC p c = c / 2 ^^^ p := by unfold Crc.stepC; rw [if_pos e]
            have tX := xor_32 (s := c / 2) (c := p) (by omega) hp.out
            rw [hS] at HN hL
            rw [e] at tA
            go_wp2
            go_round
            case rel => exact ⟨k + 1, c / 2 ^^^ p, by omega, hL, by go_num, by rw [← tX]; simp, HN⟩
            case measure => simp [intOf]; omega
        · obtain rfl : k = 8 := by omega
          have h1 : c = Crc.stepsC p 8 y := HR.out
          have hl2 : l.length < 1000000 := hl.out
          subst h1
          clear HR
          go_wp2
          go_round
          case rel => exact ⟨j + 1, _, by omega, hc, by go_num, rfl, HS⟩
          case measure => simp [intOf]; omega
    · obtain rfl : j = l.length := by omega
      have h1 := HR.out
      rw [List.drop_length] at h1
      have h2 : T = c := h1
      subst h2
      clear HR h1
      go_wp2
      go_ret
      exact ⟨rfl, hext⟩
end Go.Proofs.Ytcajjhmldghakaa


namespace Go.Proofs.Ytcajjhmldghakaa
open Go.RowKit
set_option linter.unusedVariables false
set_option linter.unusedSimpArgs false

def Crc.x25 (l : List UInt8) : Nat := 65535 - Crc.divC 33800 65535 l
def Crc.cast (l : List UInt8) : Nat := 4294967295 - Crc.divC 2197175160 4294967295 l
def Crc.sumL (kind : Nat) (l : List UInt8) : List UInt8 := if kind = 1 then be (Crc.x25 l) 2 else if kind = 2 then be (Crc.cast l) 4 else []

theorem Size_any (k : Nat) (hk : k ≤ 2) (w : World) : Calls Try.prog 41 #[.int .i64 (k : Int)] w (Ret (.int .i64 ((2 * k : Nat) : Int)) w) := by
  go_enter Try.func41, Try.ntmps41
  go_wp2
  go_ret
  exact Ret.mk (by simp) (Mod.refl _ _)

theorem X25_any (l : List UInt8) (hl : Hid (l.length < 1000000)) (w : World) : Calls Try.prog 64 #[str l] w (Ret (.int .u16 (Crc.x25 l : Nat)) w) := by
  have hd : Crc.divC 33800 65535 l < 65536 := Crc.divC_lt (m := 16) (by decide) l 65535 (by decide) (by decide)
  have tx : bits .xor .u16 IntKind.u16.max (Crc.divC 33800 65535 l : Int) = ((65535 - Crc.divC 33800 65535 l : Nat) : Int) := by
    rw [Crc.not_xor (n := 16) hd]
    exact u16_xor_nat 65535 _ (by decide) hd
  have K := hid (fun W => divide16 33800 65535 (by unfold Hid; decide) (by unfold Hid; decide) l hl W)
  unfold Crc.x25
  generalize Crc.divC 33800 65535 l = d at *
  go_enter Try.func64, Try.ntmps64
  go_wp2_with fail
  refine (K.out _).mono ?_
  rintro e w1 ⟨rfl, hb1⟩
  go_wp2_with fail
  go_ret
  exact Ret.mk (by simp) hb1
theorem Castagnoli_any (l : List UInt8) (hl : Hid (l.length < 1000000)) (w : World) : Calls Try.prog 65 #[str l] w (Ret (.int .u32 (Crc.cast l : Nat)) w) := by
  have hd : Crc.divC 2197175160 4294967295 l < 4294967296 := Crc.divC_lt (m := 32) (by decide) l 4294967295 (by decide) (by decide)
  have tx : bits .xor .u32 IntKind.u32.max (Crc.divC 2197175160 4294967295 l : Int) = ((4294967295 - Crc.divC 2197175160 4294967295 l : Nat) : Int) := by
    rw [Crc.not_xor (n := 32) hd]
    exact u32_xor_nat 4294967295 _ (by decide) hd
  have K := hid (fun W => divide32 2197175160 4294967295 (by unfold Hid; decide) (by unfold Hid; decide) l hl W)
  unfold Crc.cast
  generalize Crc.divC 2197175160 4294967295 l = d at *
  go_enter Try.func65, Try.ntmps65
  go_wp2_with fail
  refine (K.out _).mono ?_
  rintro e w1 ⟨rfl, hb1⟩
  go_wp2_with fail
  go_ret
  exact Ret.mk (by simp) hb1
theorem be2 {n : Nat} (h : n < 65536) : be n 2 = [b8 (n / 256), b8 (n % 256)] := by
  have e : n / 256 % 256 = n / 256 := by omega
  rw [be_succ, be_succ, be_zero]
  simp [e]
theorem be4 {n : Nat} (h : n < 4294967296) : be n 4 = [b8 (n / 16777216), b8 (n / 65536 % 256), b8 (n / 256 % 256), b8 (n % 256)] := by
  have e : n / 16777216 % 256 = n / 16777216 := by omega
  rw [be_succ, be_succ, be_succ, be_succ, be_zero]
  simp [e]
theorem b8_cast {n : Nat} (h : n < 256) : ((b8 n).toNat : Int) = (n : Int) := by
  simp [b8]
  omega
/-- Bytes laid in a new block, as a string. -/
theorem conv_new (l : List UInt8) (c : Nat) (W : World) : (convert 65 9 (.slice (some ⟨W.heap.size, 0, none⟩) l.length c)).run Try.prog (W.alloc (.cells (l.map fun b => Value.int .u8 (b.toNat : Int)).toArray 5)) = .ok (str l) (W.alloc (.cells (l.map fun b => Value.int .u8 (b.toNat : Int)).toArray 5)) := by
  refine run_convert_bytes_back (P := Try.prog) _ 65 9 5 _ c l Try.underlying65 Try.underlying5 Try.underlying9 (fun j hj => ?_)
  rw [addr_add, Nat.zero_add, (Blk.new W 5 _).cell j]
  simp [hj]
theorem Sum_1 (l : List UInt8) (hl : Hid (l.length < 1000000)) (w : World) : Calls Try.prog 49 #[.int .i64 1, str l] w (Ret (str (be (Crc.x25 l) 2)) w) := by
  have hd : Crc.x25 l < 65536 := by unfold Crc.x25; omega
  have K := hid (fun W => X25_any l hl W)
  generalize Crc.x25 l = d at *
  have hcv : ∀ W : World, (convert 65 9 (.slice (some ⟨W.heap.size, 0, none⟩) 2 2)).run Try.prog (W.alloc (.cells #[.int .u8 ((d : Int) / 256), .int .u8 ((d : Int) % 256)] 5)) = .ok (str (be d 2)) (W.alloc (.cells #[.int .u8 ((d : Int) / 256), .int .u8 ((d : Int) % 256)] 5)) := fun W => by
    have := conv_new (be d 2) 2 W
    rw [be_length, be2 hd] at this
    simpa [b8_cast (show d / 256 < 256 by omega), b8_cast (show d % 256 < 256 by omega), be2 hd] using this
  go_enter Try.func49, Try.ntmps49
  go_wp2_with fail
  refine (K.out _).mono ?_
  rintro e w1 ⟨rfl, hb1⟩
  go_wp2_with fail
  go_ret
  exact Ret.mk rfl (hb1.alloc _)
theorem Sum_2 (l : List UInt8) (hl : Hid (l.length < 1000000)) (w : World) : Calls Try.prog 49 #[.int .i64 2, str l] w (Ret (str (be (Crc.cast l) 4)) w) := by
  have hd : Crc.cast l < 4294967296 := by unfold Crc.cast; omega
  have K := hid (fun W => Castagnoli_any l hl W)
  generalize Crc.cast l = d at *
  have hcv : ∀ W : World, (convert 65 9 (.slice (some ⟨W.heap.size, 0, none⟩) 4 4)).run Try.prog (W.alloc (.cells #[.int .u8 ((d : Int) / 16777216), .int .u8 ((d : Int) / 65536 % 256), .int .u8 ((d : Int) / 256 % 256), .int .u8 ((d : Int) % 256)] 5)) = .ok (str (be d 4)) (W.alloc (.cells #[.int .u8 ((d : Int) / 16777216), .int .u8 ((d : Int) / 65536 % 256), .int .u8 ((d : Int) / 256 % 256), .int .u8 ((d : Int) % 256)] 5)) := fun W => by
    have := conv_new (be d 4) 4 W
    rw [be_length, be4 hd] at this
    simpa [b8_cast (show d / 16777216 < 256 by omega), b8_cast (show d / 65536 % 256 < 256 by omega), b8_cast (show d / 256 % 256 < 256 by omega), b8_cast (show d % 256 < 256 by omega), be4 hd] using this
  go_enter Try.func49, Try.ntmps49
  go_wp2_with fail
  refine (K.out _).mono ?_
  rintro e w1 ⟨rfl, hb1⟩
  go_wp2_with fail
  go_ret
  exact Ret.mk rfl (hb1.alloc _)
theorem Sum_any (k : Nat) (h1 : 1 ≤ k) (h2 : k ≤ 2) (l : List UInt8) (hl : Hid (l.length < 1000000)) (w : World) : Calls Try.prog 49 #[.int .i64 (k : Int), str l] w (Ret (str (Crc.sumL k l)) w) := by
  have : k = 1 ∨ k = 2 := by omega
  rcases this with rfl | rfl
  · exact Sum_1 l hl w
  · exact Sum_2 l hl w
theorem Crc.sumL_length {k : Nat} (h1 : 1 ≤ k) (h2 : k ≤ 2) (l : List UInt8) : (Crc.sumL k l).length = 2 * k := by
  have : k = 1 ∨ k = 2 := by omega
  rcases this with rfl | rfl
  · exact be_length _ _
  · exact be_length _ _
end Go.Proofs.Ytcajjhmldghakaa


namespace Go.Proofs.Ytcajjhmldghakaa
open Go.RowKit
set_option linter.unusedVariables false
set_option linter.unusedSimpArgs false

def layRep_ren : Shelf.Ren where
  f := fun x => match x with
    | 105 => 40
    | 212 => 53
    | 99 => 54
    | 165 => 55
    | 166 => 56
    | 170 => 57
    | 169 => 58
    | 263 => 66
    | 264 => 67
    | 206 => 68
    | 240 => 69
    | 241 => 70
    | 276 => 79
    | 277 => 80
    | n => n
  t := fun x => match x with
    | 9 => 9
    | 3 => 3
    | 4 => 4
    | 20 => 20
    | 0 => 0
    | 46 => 64
    | 109 => 82
    | 5 => 5
    | 72 => 87
    | 76 => 91
    | 51 => 101
    | 146 => 103
    | 53 => 22
    | 148 => 105
    | 70 => 85
    | 37 => 65
    | 75 => 90
    | 127 => 107
    | 164 => 117
    | 80 => 94
    | n => n
  g := fun n => n
theorem layRep : Lays.n105 Try.prog layRep_ren where
  mixed := by kernel_rfl
  f105 := Try.func40.trans (by kernel_rfl)
  f212 := Try.func53.trans (by kernel_rfl)
  f99 := Try.func54.trans (by kernel_rfl)
  f165 := Try.func55.trans (by kernel_rfl)
  f166 := Try.func56.trans (by kernel_rfl)
  f170 := Try.func57.trans (by kernel_rfl)
  f169 := Try.func58.trans (by kernel_rfl)
  f263 := Try.func66.trans (by kernel_rfl)
  f264 := Try.func67.trans (by kernel_rfl)
  f206 := Try.func68.trans (by kernel_rfl)
  f240 := Try.func69.trans (by kernel_rfl)
  f241 := Try.func70.trans (by kernel_rfl)
  f276 := Try.func79.trans (by kernel_rfl)
  f277 := Try.func80.trans (by kernel_rfl)
  t9 := Try.underlying9
  a9 := Try.isAgg9
  z9 := Try.sizeOf9
  v9 := Try.zeroValue9
  t3 := Try.underlying3
  a3 := Try.isAgg3
  z3 := Try.sizeOf3
  v3 := Try.zeroValue3
  t4 := Try.underlying4
  a4 := Try.isAgg4
  z4 := Try.sizeOf4
  v4 := Try.zeroValue4
  t20 := Try.underlying20
  a20 := Try.isAgg20
  z20 := Try.sizeOf20
  v20 := Try.zeroValue20
  t0 := Try.underlying0
  a0 := Try.isAgg0
  z0 := Try.sizeOf0
  v0 := Try.zeroValue0
  t46 := Try.underlying64
  a46 := Try.isAgg64
  z46 := Try.sizeOf64
  v46 := Try.zeroValue64
  t109 := Try.underlying82
  a109 := Try.isAgg82
  z109 := Try.sizeOf82
  v109 := Try.zeroValue82
  t5 := Try.underlying5
  a5 := Try.isAgg5
  z5 := Try.sizeOf5
  v5 := Try.zeroValue5
  t72 := Try.underlying87
  a72 := Try.isAgg87
  z72 := Try.sizeOf87
  v72 := Try.zeroValue87
  t76 := Try.underlying91
  a76 := Try.isAgg91
  z76 := Try.sizeOf91
  v76 := Try.zeroValue91
  t51 := Try.underlying101
  a51 := Try.isAgg101
  z51 := Try.sizeOf101
  v51 := Try.zeroValue101
  t146 := Try.underlying103
  a146 := Try.isAgg103
  z146 := Try.sizeOf103
  v146 := Try.zeroValue103
  t53 := Try.underlying22
  a53 := Try.isAgg22
  z53 := Try.sizeOf22
  v53 := Try.zeroValue22
  t148 := Try.underlying105
  a148 := Try.isAgg105
  z148 := Try.sizeOf105
  v148 := Try.zeroValue105
  t70 := Try.underlying85
  a70 := Try.isAgg85
  z70 := Try.sizeOf85
  v70 := Try.zeroValue85
  t37 := Try.underlying65
  a37 := Try.isAgg65
  z37 := Try.sizeOf65
  v37 := Try.zeroValue65
  t75 := Try.underlying90
  a75 := Try.isAgg90
  z75 := Try.sizeOf90
  v75 := Try.zeroValue90
  t127 := Try.underlying107
  a127 := Try.isAgg107
  z127 := Try.sizeOf107
  v127 := Try.zeroValue107
  t164 := Try.underlying117
  a164 := Try.isAgg117
  z164 := Try.sizeOf117
  v164 := Try.zeroValue117
theorem layRepX : Builder.Extra Try.prog layRep_ren where
  sizeBuilder := by kernel_rfl
  liesBuilder := by kernel_rfl
  t5 := Try.underlying5
  a5 := Try.isAgg5
  z5 := Try.sizeOf5
  v5 := Try.zeroValue5
  infoByte := by kernel_rfl
  cellsByte := by kernel_rfl
  sizeByte := by kernel_rfl
  neB5 := by decide

theorem repeat0 (k : Nat) : Lib.repeatL [0] k = List.replicate k (0 : UInt8) := by
  induction k with
  | zero => rfl
  | succ k ih => rw [Lib.repeatL, ih, List.replicate_succ]; rfl
theorem Repeat_zero (k : Nat) (hk : k ≤ 1000) (w : World) : Calls Try.prog 40 #[.string ⟨#[0]⟩, .int .i64 (k : Int)] w (Ret (str (List.replicate k 0)) w) := by
  refine (Any.strings_Repeat layRep layRepX ⟨#[0]⟩ k w (by omega) (by show 1 * k ≤ _; omega)).mono fun e w' ⟨he, hb⟩ => ⟨?_, Mod.of_below hb⟩
  rw [he]
  show Ending.returned (.string ⟨(Lib.repeatL [0] k).toArray⟩) = _
  rw [repeat0]
end Go.Proofs.Ytcajjhmldghakaa


namespace Go.Proofs.Ytcajjhmldghakaa
open Go.RowKit
set_option linter.unusedVariables false
set_option linter.unusedSimpArgs false

/-- A name's value, its cells. -/
abbrev eidC (sch : Int) (name : List UInt8) (node svc : Nat) : Array Value := #[.int .i64 sch, str name, .int .u64 (node : Int), .int .u64 (svc : Int)]
abbrev eidV (sch : Int) (name : List UInt8) (node svc : Nat) : Value := .agg (eidC sch name node svc)

theorem eidNone_any (w : World) : Calls Try.prog 31 #[] w (Ret (eidV 1 [110, 111, 110, 101] 0 0) w) := by
  go_enter Try.func31, Try.ntmps31
  go_wp2
  refine bodyPost_ret (v := eidV 1 [110, 111, 110, 101] 0 0) ?_ rfl (Ret.mk rfl ((Mod.refl _ _).alloc _))
  simp [results, Try.results31, go_sem]

theorem eidRight_ipn (node svc : Nat) (hn : node ≤ 4294967295) (hs : svc ≤ 4294967295) (w : World) : Calls Try.prog 37 #[eidV 2 [] node svc] w (Ret (.bool true) w) := by
  have t1 : decide ((node : Int) ≤ 4294967295) = true := by simp; omega
  have t2 : decide ((svc : Int) ≤ 4294967295) = true := by simp; omega
  clear hn hs
  go_enter Try.func37, Try.ntmps37
  go_wp2
  go_ret
  exact Ret.mk rfl ((Mod.refl _ _).alloc _)

/-- Such a name's item. -/
def ipnT (node svc : Nat) : T := T.mk 4 0 [] false 2 fun i => if i = 0 then numT 2 else T.mk 4 0 [] false 2 fun j => if j = 0 then numT node else numT svc
set_option maxRecDepth 20000 in
set_option maxHeartbeats 1600000 in
theorem eidItem_ipn (node svc : Nat) (hn : Hid (node ≤ 4294967295)) (hs : Hid (svc ≤ 4294967295)) (w : World) : Calls Try.prog 51 #[eidV 2 [] node svc] w (fun e w' => ∃ A, e = .returned (.tuple #[itemV (ipnT node svc) A 2, .int .i64 0]) ∧ Ext w w' ∧ IsL w' (fun b => w.heap.size ≤ b) (ipnT node svc) A) := by
  have HB := hid ((Blk.new w 24 (eidC 2 [] node svc)).alloc (.cells #[.int .i64 0, .int .u64 0, str [], .slice none 0 0, .bool false] 60))
  have HR : Hid (Blk ((w.alloc (.cells (eidC 2 [] node svc) 24)).alloc (.cells #[.int .i64 0, .int .u64 0, str [], .slice none 0 0, .bool false] 60)) (w.heap.size + 1) 60 #[.int .i64 0, .int .u64 0, str [], .slice none 0 0, .bool false]) := by
    have := Blk.new (w.alloc (.cells (eidC 2 [] node svc) 24)) 60 #[.int .i64 0, .int .u64 0, str [], .slice none 0 0, .bool false]
    unfold Hid
    simpa using this
  have HE := hid (((Mod.refl [] w).alloc (.cells (eidC 2 [] node svc) 24)).alloc (.cells #[.int .i64 0, .int .u64 0, str [], .slice none 0 0, .bool false] 60))
  go_enter Try.func51, Try.ntmps51
  go_wp2_with fail
  refine (eidRight_ipn node svc hn.out hs.out _).mono ?_
  rintro e w1 ⟨rfl, hb1⟩
  have HB1 := hid (HB.out.ext hb1)
  have HR1 := hid (HR.out.ext hb1)
  have HE1 := hid (HE.out.trans hb1)
  have x0 : w1.cell? ⟨w.heap.size, 0, none⟩ = some (.int .i64 2) := HB1.out.cell 0
  clear hb1 HB HR HE
  have HS : Hid (∀ W, Ext w1 W → W.cell? ⟨w.heap.size, 2, none⟩ = some (.int .u64 (node : Int)) ∧ W.cell? ⟨w.heap.size, 3, none⟩ = some (.int .u64 (svc : Int))) := fun W hW => ⟨(HB1.out.ext hW).cell 2, (HB1.out.ext hW).cell 3⟩
  have y2 := (HS.out w1 (Mod.refl _ _)).1
  have y3 := (HS.out w1 (Mod.refl _ _)).2
  go_upto_region 4 with fail
  go_region_held3 (fun w' => w'.cell? ⟨w.heap.size, 2, none⟩ = some (.int .u64 (node : Int)) ∧ w'.cell? ⟨w.heap.size, 3, none⟩ = some (.int .u64 (svc : Int))) (go_keep)
    (first
      | (go_at_call 52; refine (NumI_any _ _).mono ?_; rintro x w3 ⟨rfl, hb3⟩; have hx : Ext w1 w3 := (by (with_reducible refine Mod.trans ?_ hb3); (repeat (first | with_reducible assumption | with_reducible exact Mod.refl _ _ | with_reducible refine Mod.drew ?_ | with_reducible refine Mod.alloc ?_ _))); have z := HS.out w3 hx)
      | (go_at_call 50; have hI := hIn; refine (ListV_any 2 _ 2 _).mono ?_; rintro x w5 ⟨rfl, hb5⟩; have hx : Ext w1 w5 := (by (with_reducible refine Mod.trans ?_ hb5); (repeat (first | with_reducible assumption | with_reducible exact Mod.refl _ _ | with_reducible refine Mod.drew ?_ | with_reducible refine Mod.alloc ?_ _))); have z := HS.out w5 hx; have hOut := (Blk.new _ _ _).ext hb5; have hIn2 := (Blk.alloc hIn _).ext hb5; have r0 : w5.cell? ⟨w.heap.size + 1, 0, none⟩ = some (.int .i64 0) := (HR1.out.ext hx).cell 0; have g0 : w5.frozen? ⟨w.heap.size + 1, 0, none⟩ = false := (HR1.out.ext hx).frozen 0; have r1 : w5.cell? ⟨w.heap.size + 1, 1, none⟩ = some (.int .u64 0) := (HR1.out.ext hx).cell 1; have g1 : w5.frozen? ⟨w.heap.size + 1, 1, none⟩ = false := (HR1.out.ext hx).frozen 1; have r2 : w5.cell? ⟨w.heap.size + 1, 2, none⟩ = some (str []) := (HR1.out.ext hx).cell 2; have g2 : w5.frozen? ⟨w.heap.size + 1, 2, none⟩ = false := (HR1.out.ext hx).frozen 2; have r3 : w5.cell? ⟨w.heap.size + 1, 3, none⟩ = some (.slice none 0 0) := (HR1.out.ext hx).cell 3; have g3 : w5.frozen? ⟨w.heap.size + 1, 3, none⟩ = false := (HR1.out.ext hx).frozen 3; have r4 : w5.cell? ⟨w.heap.size + 1, 4, none⟩ = some (.bool false) := (HR1.out.ext hx).cell 4; have g4 : w5.frozen? ⟨w.heap.size + 1, 4, none⟩ = false := (HR1.out.ext hx).frozen 4)
      | (go_at_call 50; refine (ListV_any 2 _ 2 _).mono ?_; rintro x w4 ⟨rfl, hb4⟩; have hx : Ext w1 w4 := (by (with_reducible refine Mod.trans ?_ hb4); (repeat (first | with_reducible assumption | with_reducible exact Mod.refl _ _ | with_reducible refine Mod.drew ?_ | with_reducible refine Mod.alloc ?_ _))); have z := HS.out w4 hx; have hIn := (Blk.new _ _ _).ext hb4))
  have h3 : Ext w1 w3 := by assumption
  have h4 : Ext w1 w4 := by assumption
  have hl : w.heap.size + 1 < w1.heap.size := HR1.out.lt
  have hs3 := h3.size
  have hs4 := h4.size
  have HR5 := hid (HR1.out.ext hx)
  have HFin : Hid (Ext w (set5 w5 (w.heap.size + 1) (ipnT node svc) (some ⟨w4.heap.size, 0, none⟩) 2) ∧ Blk (set5 w5 (w.heap.size + 1) (ipnT node svc) (some ⟨w4.heap.size, 0, none⟩) 2) (w.heap.size + 1) 60 (itemC (ipnT node svc) (some ⟨w4.heap.size, 0, none⟩) 2) ∧
      IsL (set5 w5 (w.heap.size + 1) (ipnT node svc) (some ⟨w4.heap.size, 0, none⟩) 2) (fun b => w.heap.size ≤ b) (ipnT node svc) (some ⟨w4.heap.size, 0, none⟩)) := by
    have hm : Mod [w.heap.size + 1] w5 (set5 w5 (w.heap.size + 1) (ipnT node svc) (some ⟨w4.heap.size, 0, none⟩) 2) := set5_modb
    have b1 := hOut.mod hm (by simp; omega)
    have b2 := hIn2.mod hm (by simp; omega)
    refine ⟨set5_mod (HE1.out.trans hx) (by omega), set5_blk (t0 := T.mk 0 0 [] false 0 fun _ => T.nil) (A0 := none) (c0 := 0) HR5.out, fun _ => ⟨w4.heap.size, 0, rfl, b1.lt, (show w.heap.size ≤ w4.heap.size by omega), fun i hi => ?_⟩⟩
    have hi2 : i = 0 ∨ i = 1 := by omega
    rcases hi2 with rfl | rfl
    · exact ⟨none, 0, ⟨b1.cell 0, b1.cell 1, b1.cell 2, b1.cell 3, b1.cell 4⟩, fun h => absurd h (by decide)⟩
    · refine ⟨some ⟨w3.heap.size, 0, none⟩, 2, ⟨b1.cell 5, b1.cell 6, b1.cell 7, b1.cell 8, b1.cell 9⟩, fun _ => ⟨w3.heap.size, 0, rfl, b2.lt, (show w.heap.size ≤ w3.heap.size by omega), fun j hj => ?_⟩⟩
      have hj2 : j = 0 ∨ j = 1 := by omega
      rcases hj2 with rfl | rfl
      · exact ⟨none, 0, ⟨b2.cell 0, b2.cell 1, b2.cell 2, b2.cell 3, b2.cell 4⟩, fun h => absurd h (by decide)⟩
      · exact ⟨none, 0, ⟨b2.cell 5, b2.cell 6, b2.cell 7, b2.cell 8, b2.cell 9⟩, fun h => absurd h (by decide)⟩
  obtain ⟨d0, d1, d2, d3, d4⟩ := cells5 HFin.out.2.1
  clear hOut hIn2 hIn h3 h4 hl hs3 hs4
  go_wp2_with fail
  show bodyPost _ _ _ _ _ (set5 w5 (w.heap.size + 1) (ipnT node svc) (some ⟨w4.heap.size, 0, none⟩) 2)
  refine bodyPost_ret (v := .tuple #[itemV (ipnT node svc) (some ⟨w4.heap.size, 0, none⟩) 2, .int .i64 0]) (by simp [results, Try.results51, go_sem, d0, d1, d2, d3, d4]) rfl ?_
  exact ⟨_, rfl, HFin.out.1, HFin.out.2.2⟩
end Go.Proofs.Ytcajjhmldghakaa


namespace Go.Proofs.Ytcajjhmldghakaa
open Go.RowKit
set_option linter.unusedVariables false
set_option linter.unusedSimpArgs false

abbrev EV.c (e : EV) : Array Value := #[.int .i64 e.sch, str e.name, .int .u64 (e.node : Int), .int .u64 (e.svc : Int)]
abbrev EV.v (e : EV) : Value := .agg e.c
def lettN (n : Nat) : Bool := decide (97 ≤ n ∧ n ≤ 122) || decide (48 ≤ n ∧ n ≤ 57) || decide (n = 45) || decide (n = 46)
set_option maxHeartbeats 800000 in
theorem nodeByte_any (n : Nat) (h : n ≤ 2147483647) (w : World) : Calls Try.prog 76 #[.int .i32 (n : Int)] w (fun e w' => e = .returned (.bool (lettN n)) ∧ w' = w) := by
  go_enter Try.func76, Try.ntmps76
  go_wp2
  all_goals go_ret
  all_goals refine ⟨?_, rfl⟩
  all_goals (refine congrArg Ending.returned (congrArg Value.bool ?_))
  all_goals unfold lettN
  all_goals rw [Bool.eq_iff_iff]
  all_goals simp
  all_goals omega
theorem ext0 (s : List UInt8) (a b : Nat) : ((⟨s.toArray⟩ : ByteArray).extract a b) = ⟨((s.drop a).take (b - a)).toArray⟩ := by
  rw [Go.Lib.extract_eq]
set_option maxHeartbeats 800000 in
theorem CutPrefix_yes (s : List UInt8) (hs : Hid (s.length < 4611686018427387904)) (h : Hid (s.take 2 = [47, 47])) (w : World) : Calls Try.prog 75 #[str s, .string ⟨#[47, 47]⟩] w (fun e w' => e = .returned (.tuple #[str (s.drop 2), .bool true]) ∧ w' = w) := by
  have hl : 2 ≤ s.length := by
    have := congrArg List.length h.out
    rw [List.length_take] at this
    simp at this
    omega
  have hx : ((⟨s.toArray⟩ : ByteArray).extract 0 2) = ⟨([47, 47] : List UInt8).toArray⟩ := by rw [ext0, List.drop_zero, h.out]
  have hd : ((⟨s.toArray⟩ : ByteArray).extract 2 s.length) = ⟨(s.drop 2).toArray⟩ := by rw [ext0, List.take_of_length_le (by simp)]
  go_enter Try.func75, Try.ntmps75
  go_wp2
  refine bodyPost_ret (v := .tuple #[str (s.drop 2), .bool true]) (by simp [results, Try.results75, go_sem]) rfl ⟨rfl, rfl⟩
set_option maxHeartbeats 800000 in
theorem CutPrefix_no (s : List UInt8) (hs : Hid (s.length < 4611686018427387904)) (h : Hid (s.take 2 ≠ [47, 47])) (w : World) : Calls Try.prog 75 #[str s, .string ⟨#[47, 47]⟩] w (fun e w' => e = .returned (.tuple #[str s, .bool false]) ∧ w' = w) := by
  by_cases hl : 2 ≤ s.length
  · have hx : ((⟨s.toArray⟩ : ByteArray).extract 0 2) = ⟨(s.take 2).toArray⟩ := by rw [ext0, List.drop_zero]
    have h1 : (s.take 2 == [47, 47]) = false := by simpa using h.out
    have h2 : (s.take 2 = [47, 47]) = False := by simpa using h.out
    generalize s.take 2 = t at *
    go_enter Try.func75, Try.ntmps75
    go_wp2
    refine bodyPost_ret (v := .tuple #[str s, .bool false]) (by simp [results, Try.results75, go_sem]) rfl ⟨rfl, rfl⟩
  · have hl2 : decide ((2 : Int) ≤ (s.length : Int)) = false := by simp; omega
    clear hl
    go_enter Try.func75, Try.ntmps75
    go_wp2
    refine bodyPost_ret (v := .tuple #[str s, .bool false]) (by simp [results, Try.results75, go_sem]) rfl ⟨rfl, rfl⟩

set_option maxHeartbeats 1600000 in
theorem node_any (s : List UInt8) (hs : Hid (s.length < 4611686018427387904)) (w : World) : Calls Try.prog 63 #[str s] w (Ret (.int .i64 (nodeN s : Nat)) w) := by
  by_cases ht : s.take 2 = [47, 47]
  · have K := hid (fun W => CutPrefix_yes s hs ht W)
    by_cases hl : 60 < s.length
    · have hN : nodeN s = 0 := by unfold nodeN; rw [if_neg (by omega)]
      rw [hN]
      have t1 : decide (60 < (s.length : Int)) = true := by simp; omega
      go_enter Try.func63, Try.ntmps63
      go_wp2_with fail
      refine (K.out _).mono ?_
      rintro e w1 ⟨rfl, rfl⟩
      go_wp2_with fail
      go_ret
      exact Ret.mk rfl (Mod.refl _ _)
    · have hN : nodeN s = nodeA (s.drop 2) 0 := by unfold nodeN; rw [if_pos ⟨ht, by omega⟩]
      have t1 : decide (60 < (s.length : Int)) = false := by simp; omega
      have hr : Hid ((s.drop 2).length ≤ 60) := by unfold Hid; simp; omega
      rw [hN]
      clear hN
      go_enter Try.func63, Try.ntmps63
      go_wp2_with fail
      refine (K.out _).mono ?_
      rintro e w1 ⟨rfl, hw1⟩
      rw [hw1]
      clear hw1 w1 K ht hl
      generalize s.drop 2 = r at *
      generalize hNN : nodeA r 0 = N at *
      have HN : Hid (nodeA (r.drop 0) 0 = N) := hNN
      clear hNN
      go_wp2_with fail
      go_loopw [5, 6] (fun i c wr => ∃ pos : Nat, pos ≤ r.length ∧ wr = w.iter ⟨r.toArray⟩ pos ∧ Hid (nodeA (r.drop pos) pos = N)) (fun _ _ wr => r.length - wr.iterPos w.heap.size)
      case atStart => exact ⟨0, Nat.zero_le _, rfl, HN⟩
      case round =>
        obtain ⟨pos, hp, rfl, HP⟩ := hrel
        have hr60 := hr.out
        have hE : Ext w (w.iter ⟨r.toArray⟩ pos) := (Mod.refl _ _).alloc _
        by_cases hlt : pos < r.length
        · have hd : r.drop pos = r[pos] :: r.drop (pos + 1) := List.drop_eq_getElem_cons hlt
          rw [hd, nodeA] at HP
          clear hd
          by_cases h128 : (r[pos]).toNat < 128
          · have hnx : ∀ ty, (Instr.next (.pointer (some ⟨w.heap.size, 0, none⟩)) true ty).run Try.prog (w.iter ⟨r.toArray⟩ pos) = .ok (.tuple #[.bool true, .int .i64 pos, .int .i32 (r[pos]).toNat]) (w.iter ⟨r.toArray⟩ (pos + 1)) := fun ty => run_next_ascii w ⟨r.toArray⟩ pos ty hlt h128
            have KB := hid (fun W => nodeByte_any (r[pos]).toNat (by omega) W)
            have hL : lettN (r[pos]).toNat = lett r[pos] := rfl
            rw [hL] at KB
            generalize r[pos] = x at *
            go_wp2_with fail
            refine (KB.out _).mono ?_
            rintro e w1 ⟨rfl, hw1⟩
            rw [hw1]
            clear hw1 w1 KB hL
            by_cases hl : lett x = true
            · rw [hl]
              have HP2 : Hid (nodeA (r.drop (pos + 1)) (pos + 1) = N) := by have := HP.out; rw [if_pos hl] at this; exact this
              clear HP
              go_wp2_with fail
              go_roundw
              case rel => exact ⟨pos + 1, by omega, rfl, HP2⟩
              case measure => simp; omega
            · have hl2 : lett x = false := by simpa using hl
              rw [hl2]
              have HP2 : Hid ((if x.toNat = 47 ∧ 0 < pos then pos + 3 else 0) = N) := by have := HP.out; rw [if_neg (by simp [hl2])] at this; exact this
              clear HP
              by_cases h47 : x.toNat = 47
              · by_cases h0 : 0 < pos
                · have e3 : pos + 3 = N := by have := HP2.out; rw [if_pos ⟨h47, h0⟩] at this; exact this
                  rw [h47]
                  have t2 : decide (0 < (pos : Int)) = true := by simp; omega
                  go_wp2_with fail
                  go_ret
                  exact ⟨by rw [← e3]; go_num, (Mod.refl _ _).alloc _⟩
                · have e3 : 0 = N := by have := HP2.out; rw [if_neg (fun h => h0 h.2)] at this; exact this
                  rw [h47]
                  have t2 : decide (0 < (pos : Int)) = false := by simp; omega
                  go_wp2_with fail
                  go_ret
                  exact ⟨by rw [← e3]; rfl, (Mod.refl _ _).alloc _⟩
              · have e3 : 0 = N := by have := HP2.out; rw [if_neg (fun h => h47 h.1)] at this; exact this
                have t3 : ((x.toNat : Int) == 47) = false := by simp; omega
                have t4 : ((x.toNat : Int) = 47) = False := by simp; omega
                go_wp2_with fail
                go_ret
                exact ⟨by rw [← e3]; rfl, (Mod.refl _ _).alloc _⟩
          · have hdc := decode_high ⟨r.toArray⟩ pos hlt (by show 128 ≤ (r[pos]).toNat; omega)
            have hdl := decode_le ⟨r.toArray⟩ pos
            have hnx : ∀ ty, (Instr.next (.pointer (some ⟨w.heap.size, 0, none⟩)) true ty).run Try.prog (w.iter ⟨r.toArray⟩ pos) = _ := fun ty => run_next_any w ⟨r.toArray⟩ pos ty hlt
            have KB := hid (fun W => nodeByte_any (Utf8.decode ⟨r.toArray⟩ pos).1 hdl W)
            have hL : lettN (Utf8.decode ⟨r.toArray⟩ pos).1 = false := by simp [lettN]; omega
            rw [hL] at KB
            have hl2 : lett r[pos] = false := by
              show lettN (r[pos]).toNat = false
              simp [lettN]; omega
            have e3 : Hid (0 = N) := by have := HP.out; rw [if_neg (by simp [hl2]), if_neg (by omega)] at this; exact this
            clear HP hl2 hL
            have t3 : (((Utf8.decode ⟨r.toArray⟩ pos).1 : Int) == 47) = false := by simp; omega
            have t4 : (((Utf8.decode ⟨r.toArray⟩ pos).1 : Int) = 47) = False := by simp; omega
            have hE2 : Ext w (w.iter ⟨r.toArray⟩ (pos + (Utf8.decode ⟨r.toArray⟩ pos).2)) := (Mod.refl _ _).alloc _
            generalize (Utf8.decode ⟨r.toArray⟩ pos).1 = R at *
            generalize pos + (Utf8.decode ⟨r.toArray⟩ pos).2 = pos2 at *
            go_wp2_with fail
            refine (KB.out _).mono ?_
            rintro e w1 ⟨rfl, hw1⟩
            rw [hw1]
            clear hw1 w1 KB
            go_wp2_with fail
            go_ret
            exact ⟨by rw [← e3.out]; rfl, hE2⟩
        · obtain rfl : pos = r.length := by omega
          have e3 : Hid (0 = N) := by have := HP.out; rw [List.drop_length] at this; exact this
          have hnx : ∀ ty, (Instr.next (.pointer (some ⟨w.heap.size, 0, none⟩)) true ty).run Try.prog (w.iter ⟨r.toArray⟩ r.length) = _ := fun ty => run_next_end w ⟨r.toArray⟩ r.length ty (by show ¬ r.length < r.length; omega)
          go_wp2_with fail
          go_ret
          exact ⟨by rw [← e3.out]; rfl, hE⟩
  · have K := hid (fun W => CutPrefix_no s hs ht W)
    have hN : nodeN s = 0 := by unfold nodeN; rw [if_neg (fun h => ht h.1)]
    rw [hN]
    go_enter Try.func63, Try.ntmps63
    go_wp2_with fail
    refine (K.out _).mono ?_
    rintro e w1 ⟨rfl, rfl⟩
    go_wp2_with fail
    go_ret
    exact Ret.mk rfl (Mod.refl _ _)
end Go.Proofs.Ytcajjhmldghakaa


namespace Go.Proofs.Ytcajjhmldghakaa
open Go.RowKit
set_option linter.unusedVariables false
set_option linter.unusedSimpArgs false

theorem nodeA_le : ∀ (l : List UInt8) (j : Nat), nodeA l j ≤ j + l.length + 2
  | [], _ => by simp [nodeA]
  | c :: l, j => by
    have ih := nodeA_le l (j + 1)
    rw [nodeA, List.length_cons]
    split
    · omega
    · split <;> omega
theorem nodeN_le (s : List UInt8) : nodeN s ≤ s.length := by
  unfold nodeN
  split
  · rename_i h
    have := nodeA_le (s.drop 2) 0
    have hl := congrArg List.length h.1
    rw [List.length_take] at hl
    rw [List.length_drop] at this
    simp at hl
    omega
  · omega
theorem cell_row8e (w : World) (l : List UInt8) (cap t : Nat) (fz : Nat × Nat) (j : Nat) (h : j < l.length) :
    (w.alloc (.cells (bytesRow ⟨l.toArray⟩ cap) t fz)).cell? ⟨w.heap.size, j, none⟩ = some (.int .u8 (l[j].toNat : Int)) := by
  rw [World.cell?_alloc_mark]
  simp only [bytesRow]
  rw [Array.getElem?_append_left (by simpa using h)]
  simp [h]
theorem named_none (w : World) : Calls Try.prog 46 #[str [110, 111, 110, 101]] w (Ret (.bool true) w) := by
  go_enter Try.func46, Try.ntmps46
  go_wp2_with fail
  go_ret
  exact Ret.mk rfl (Mod.refl _ _)
set_option maxHeartbeats 800000 in
theorem named_any (s : List UInt8) (hs : Hid (s.length < 4611686018427387904)) (w : World) : Calls Try.prog 46 #[str s] w (Ret (.bool (namedL s)) w) := by
  by_cases h0 : s = noneL
  · subst h0; exact named_none w
  have hm : namedL s = (decide (nodeN s ≠ 0) && (s.drop (nodeN s)).all prin) := by simp [namedL, h0]
  rw [hm]
  have n1 : (s == [110, 111, 110, 101]) = false := by simpa [noneL] using h0
  have n2 : (s = [110, 111, 110, 101]) = False := by simpa [noneL] using h0
  have K := hid (fun W => node_any s hs W)
  have hle := nodeN_le s
  clear hm h0
  by_cases hn0 : nodeN s = 0
  · rw [hn0] at K
    rw [hn0]
    clear hle hn0
    go_enter Try.func46, Try.ntmps46
    go_wp2_with fail
    refine (K.out _).mono ?_
    rintro e w1 ⟨rfl, hb1⟩
    go_wp2_with fail
    go_ret
    exact Ret.mk (by simp) hb1
  · have hd : ((⟨s.toArray⟩ : ByteArray).extract (nodeN s) s.length) = ⟨(s.drop (nodeN s)).toArray⟩ := by rw [ext0, List.take_of_length_le (by simp)]
    have z1 : ((nodeN s : Int) == 0) = false := by simp; omega
    have z2 : ((nodeN s : Int) = 0) = False := by simp; omega
    have hconv := fun (w : World) (s : ByteArray) => run_bytes_of_string (P := Try.prog) w 9 65 5 s Try.underlying9 Try.underlying65 Try.underlying5
    have hB : (decide (nodeN s ≠ 0) && (s.drop (nodeN s)).all prin) = (s.drop (nodeN s)).all prin := by simp [hn0]
    rw [hB]
    have hlen : (s.drop (nodeN s)).length < 4611686018427387904 := by have := hs.out; rw [List.length_drop]; omega
    clear hB hn0
    generalize nodeN s = n at *
    generalize s.drop n = t at *
    generalize hT : t.all prin = B at *
    have HT : Hid ((t.drop 0).all prin = B) := hT
    clear hT
    go_enter Try.func46, Try.ntmps46
    go_wp2_with fail
    refine (K.out _).mono ?_
    rintro e w1 ⟨rfl, hb1⟩
    clear K
    have HB1 := hid hb1
    clear hb1
    go_wp2_with fail
    have hext := (HB1.out.alloc (Obj.cells (bytesRow { data := t.toArray } (grownCap w1 t.length 0 5)) 5 ((bytesRow { data := t.toArray } (grownCap w1 t.length 0 5)).size, (bytesRow { data := t.toArray } (grownCap w1 t.length 0 5)).size + 1)))
    have hcell : ∀ j (h : j < t.length), (w1.alloc (Obj.cells (bytesRow { data := t.toArray } (grownCap w1 t.length 0 5)) 5 ((bytesRow { data := t.toArray } (grownCap w1 t.length 0 5)).size, (bytesRow { data := t.toArray } (grownCap w1 t.length 0 5)).size + 1))).cell? ⟨w1.heap.size, j, none⟩ = some (.int .u8 (t[j].toNat : Int)) := fun j h => cell_row8e w1 t _ _ _ j h
    generalize hW : World.alloc w1 _ = W at *
    have HX := hid hext; clear hext hW
    have HC := hid hcell; clear hcell
    go_loop [5, 17] (fun c i => ∃ j : Nat, j ≤ t.length ∧ i = .int .i64 j ∧ Hid ((t.drop j).all prin = B)) (fun _ i => t.length - (intOf i).toNat)
    case atStart => exact ⟨0, Nat.zero_le _, rfl, HT⟩
    case round =>
      obtain ⟨j, hj, rfl, HP⟩ := hrel
      by_cases hlt : j < t.length
      · have hcc := HC.out j hlt
        have hdr : t.drop j = t[j] :: t.drop (j + 1) := List.drop_eq_getElem_cons hlt
        rw [hdr, List.all_cons] at HP
        clear hdr
        generalize t[j] = x at *
        have hx := x.toNat_lt
        by_cases h1 : x.toNat < 33
        · have hp : prin x = false := by simp [prin]; omega
          have HB2 : Hid (false = B) := by have := HP.out; rw [hp] at this; exact this
          have t1 : decide ((x.toNat : Int) < 33) = true := by simp; omega
          clear HP hp h1
          go_wp2_with fail
          go_ret
          exact Ret.mk (by rw [← HB2.out]; rfl) HX.out.drew
        · by_cases h2 : 126 < x.toNat
          · have hp : prin x = false := by simp [prin]; omega
            have HB2 : Hid (false = B) := by have := HP.out; rw [hp] at this; exact this
            have t1 : decide ((x.toNat : Int) < 33) = false := by simp; omega
            have t2 : decide (126 < (x.toNat : Int)) = true := by simp; omega
            clear HP hp h1 h2
            go_wp2_with fail
            go_ret
            exact Ret.mk (by rw [← HB2.out]; rfl) HX.out.drew
          · have hp : prin x = true := by simp [prin]; omega
            have HP2 : Hid ((t.drop (j + 1)).all prin = B) := by have := HP.out; rw [hp] at this; exact this
            have t1 : decide ((x.toNat : Int) < 33) = false := by simp; omega
            have t2 : decide (126 < (x.toNat : Int)) = false := by simp; omega
            clear HP hp h1 h2
            go_wp2_with fail
            go_round
            case rel => exact ⟨j + 1, by omega, by go_num, HP2⟩
            case measure => simp [intOf]; omega
      · obtain rfl : j = t.length := by omega
        have HB2 : Hid (true = B) := by have := HP.out; rw [List.drop_length] at this; exact this
        clear HP
        go_wp2_with fail
        go_ret
        exact Ret.mk (by rw [← HB2.out]; rfl) HX.out.drew

set_option maxRecDepth 20000 in
theorem eidRight_any (e : EV) (hs : Hid (e.name.length < 4611686018427387904)) (w : World) : Calls Try.prog 37 #[e.v] w (Ret (.bool e.ok) w) := by
  obtain ⟨sch, name, node, svc⟩ := e
  by_cases h1 : sch = 1
  · subst h1
    have e1 : EV.ok ⟨1, name, node, svc⟩ = (decide (node = 0) && decide (svc = 0) && namedL name) := rfl
    rw [e1]
    clear e1
    by_cases hn : node = 0
    · subst hn
      by_cases hv : svc = 0
      · subst hv
        have K := hid (fun W => named_any name hs W)
        generalize namedL name = b at *
        have HE := hid ((Mod.refl [] w).alloc (.cells (EV.c ⟨1, name, 0, 0⟩) 24))
        go_enter Try.func37, Try.ntmps37
        go_wp2_with fail
        refine (K.out _).mono ?_
        rintro e w1 ⟨rfl, hb1⟩
        go_wp2_with fail
        go_ret
        exact Ret.mk (by simp) (HE.out.trans hb1)
      · have z1 : ((svc : Int) == 0) = false := by simp; omega
        have z2 : ((svc : Int) = 0) = False := by simp; omega
        have hb : (decide ((0 : Nat) = 0) && decide (svc = 0) && namedL name) = false := by simp [hv]
        rw [hb]
        clear hb hv
        go_enter Try.func37, Try.ntmps37
        go_wp2_with fail
        go_ret
        exact Ret.mk rfl ((Mod.refl _ _).alloc _)
    · have z1 : ((node : Int) == 0) = false := by simp; omega
      have z2 : ((node : Int) = 0) = False := by simp; omega
      have hb : (decide (node = 0) && decide (svc = 0) && namedL name) = false := by simp [hn]
      rw [hb]
      clear hb hn
      go_enter Try.func37, Try.ntmps37
      go_wp2_with fail
      go_ret
      exact Ret.mk rfl ((Mod.refl _ _).alloc _)
  · by_cases h2 : sch = 2
    · subst h2
      have e1 : EV.ok ⟨2, name, node, svc⟩ = (decide (name = []) && decide (node ≤ 4294967295) && decide (svc ≤ 4294967295)) := rfl
      rw [e1]
      clear e1 h1
      by_cases hn : name = []
      · subst hn
        by_cases ha : node ≤ 4294967295
        · have t1 : decide ((node : Int) ≤ 4294967295) = true := by simp; omega
          by_cases hb : svc ≤ 4294967295
          · have t2 : decide ((svc : Int) ≤ 4294967295) = true := by simp; omega
            have hr : (decide (([] : List UInt8) = []) && decide (node ≤ 4294967295) && decide (svc ≤ 4294967295)) = true := by simp [ha, hb]
            rw [hr]
            clear hr ha hb
            go_enter Try.func37, Try.ntmps37
            go_wp2_with fail
            go_ret
            exact Ret.mk rfl ((Mod.refl _ _).alloc _)
          · have t2 : decide ((svc : Int) ≤ 4294967295) = false := by simp; omega
            have hr : (decide (([] : List UInt8) = []) && decide (node ≤ 4294967295) && decide (svc ≤ 4294967295)) = false := by simp [hb]
            rw [hr]
            clear hr ha hb
            go_enter Try.func37, Try.ntmps37
            go_wp2_with fail
            go_ret
            exact Ret.mk rfl ((Mod.refl _ _).alloc _)
        · have t1 : decide ((node : Int) ≤ 4294967295) = false := by simp; omega
          have hr : (decide (([] : List UInt8) = []) && decide (node ≤ 4294967295) && decide (svc ≤ 4294967295)) = false := by simp [ha]
          rw [hr]
          clear hr ha
          go_enter Try.func37, Try.ntmps37
          go_wp2_with fail
          go_ret
          exact Ret.mk rfl ((Mod.refl _ _).alloc _)
      · have n1 : (name == []) = false := by simpa using hn
        have n2 : (name = []) = False := by simpa using hn
        have n3 : name.isEmpty = false := by simpa using hn
        have hr : (decide (name = []) && decide (node ≤ 4294967295) && decide (svc ≤ 4294967295)) = false := by simp [hn]
        rw [hr]
        clear hr hn
        go_enter Try.func37, Try.ntmps37
        go_wp2_with fail
        go_ret
        exact Ret.mk rfl ((Mod.refl _ _).alloc _)
    · have e1 : EV.ok ⟨sch, name, node, svc⟩ = false := by simp [EV.ok, h1, h2]
      rw [e1]
      have s1 : (sch = 1) = False := by simp [h1]
      have s2 : (sch == 1) = false := by simp [h1]
      have s3 : (sch = 2) = False := by simp [h2]
      have s4 : (sch == 2) = false := by simp [h2]
      clear e1 h1 h2
      go_enter Try.func37, Try.ntmps37
      go_wp2_with fail
      go_ret
      exact Ret.mk rfl ((Mod.refl _ _).alloc _)
end Go.Proofs.Ytcajjhmldghakaa


namespace Go.Proofs.Ytcajjhmldghakaa
open Go.RowKit
set_option linter.unusedVariables false
set_option linter.unusedSimpArgs false

/-- Text; a name's item. -/
def textT (s : List UInt8) : T := T.mk 3 0 s false 0 fun _ => T.nil
def twoT (e : EV) : T := if e.sch = 2 then T.mk 4 0 [] false 2 (fun j => if j = 0 then numT e.node else numT e.svc) else if e.name = noneL then numT 0 else textT e.name
def eidT (e : EV) : T := T.mk 4 0 [] false 2 fun i => if i = 0 then numT e.sch.toNat else twoT e

set_option maxRecDepth 20000 in
set_option maxHeartbeats 800000 in
theorem eidItem_bad (sch : Int) (name : List UInt8) (node svc : Nat) (hs : Hid (name.length < 4611686018427387904)) (ho : EV.ok ⟨sch, name, node, svc⟩ = false) (w : World) :
    Calls Try.prog 51 #[EV.v ⟨sch, name, node, svc⟩] w (Ret (.tuple #[itemV (numT 0) none 0, .int .i64 1]) w) := by
  have K := hid (fun W => eidRight_any ⟨sch, name, node, svc⟩ hs W)
  rw [ho] at K
  have HB := hid ((Blk.new w 24 (EV.c ⟨sch, name, node, svc⟩)).alloc (.cells #[.int .i64 0, .int .u64 0, .string ⟨#[]⟩, .slice none 0 0, .bool false] 60))
  have HR : Hid (Blk ((w.alloc (.cells (EV.c ⟨sch, name, node, svc⟩) 24)).alloc (.cells #[.int .i64 0, .int .u64 0, .string ⟨#[]⟩, .slice none 0 0, .bool false] 60)) (w.heap.size + 1) 60 (itemC (numT 0) none 0)) := by
    have := Blk.new (w.alloc (.cells (EV.c ⟨sch, name, node, svc⟩) 24)) 60 (itemC (numT 0) none 0)
    unfold Hid
    simpa [itemC, numT, T.kind, T.n, T.s, T.k, T.op] using this
  have HE := hid (((Mod.refl [] w).alloc (.cells (EV.c ⟨sch, name, node, svc⟩) 24)).alloc (.cells #[.int .i64 0, .int .u64 0, .string ⟨#[]⟩, .slice none 0 0, .bool false] 60))
  go_enter Try.func51, Try.ntmps51
  go_wp2_with fail
  refine (K.out _).mono ?_
  rintro e w1 ⟨rfl, hb1⟩
  have HB1 := hid (HB.out.ext hb1)
  have HR1 := hid (HR.out.ext hb1)
  have HE1 := hid (HE.out.trans hb1)
  clear hb1 HB HR HE
  obtain ⟨c0, c1, c2, c3, c4⟩ := cells5 HR1.out
  have f0 := Blk.frozen HR1.out 0
  have f1 := Blk.frozen HR1.out 1
  have f2 := Blk.frozen HR1.out 2
  have f3 := Blk.frozen HR1.out 3
  have f4 := Blk.frozen HR1.out 4
  go_wp2_with fail
  obtain ⟨d0, d1, d2, d3, d4⟩ := cells5 (set5_blk (t := numT 0) (A := none) (c := 0) HR1.out)
  clear c0 c1 c2 c3 c4 f0 f1 f2 f3 f4
  show bodyPost _ _ _ _ _ (set5 w1 (w.heap.size + 1) (numT 0) none 0)
  refine bodyPost_ret (v := .tuple #[itemV (numT 0) none 0, .int .i64 1]) (by simp [results, Try.results51, go_sem, d0, d1, d2, d3, d4]) rfl ?_
  exact Ret.mk rfl (set5_mod HE1.out (by omega))

set_option maxRecDepth 20000 in
set_option maxHeartbeats 1600000 in
theorem eidItem_none (w : World) :
    Calls Try.prog 51 #[EV.v ⟨1, [110, 111, 110, 101], 0, 0⟩] w (fun e w' => ∃ A, e = .returned (.tuple #[itemV (eidT ⟨1, [110, 111, 110, 101], 0, 0⟩) A 2, .int .i64 0]) ∧ Ext w w' ∧ IsL w' (fun b => w.heap.size ≤ b) (eidT ⟨1, [110, 111, 110, 101], 0, 0⟩) A) := by
  have K : Hid (∀ W, Calls Try.prog 37 #[EV.v ⟨1, [110, 111, 110, 101], 0, 0⟩] W (Ret (.bool true) W)) := fun W => by have := eidRight_any ⟨1, [110, 111, 110, 101], 0, 0⟩ (by unfold Hid; decide) W; rw [show EV.ok ⟨1, [110, 111, 110, 101], 0, 0⟩ = true by decide] at this; exact this
  have HB := hid ((Blk.new w 24 (EV.c ⟨1, [110, 111, 110, 101], 0, 0⟩)).alloc (.cells #[.int .i64 0, .int .u64 0, .string ⟨#[]⟩, .slice none 0 0, .bool false] 60))
  have HR : Hid (Blk ((w.alloc (.cells (EV.c ⟨1, [110, 111, 110, 101], 0, 0⟩) 24)).alloc (.cells #[.int .i64 0, .int .u64 0, .string ⟨#[]⟩, .slice none 0 0, .bool false] 60)) (w.heap.size + 1) 60 (itemC (numT 0) none 0)) := by
    have := Blk.new (w.alloc (.cells (EV.c ⟨1, [110, 111, 110, 101], 0, 0⟩) 24)) 60 (itemC (numT 0) none 0)
    unfold Hid
    simpa [itemC, numT, T.kind, T.n, T.s, T.k, T.op] using this
  have HE := hid (((Mod.refl [] w).alloc (.cells (EV.c ⟨1, [110, 111, 110, 101], 0, 0⟩) 24)).alloc (.cells #[.int .i64 0, .int .u64 0, .string ⟨#[]⟩, .slice none 0 0, .bool false] 60))
  go_enter Try.func51, Try.ntmps51
  go_wp2_with fail
  refine (K.out _).mono ?_
  rintro e w1 ⟨rfl, hb1⟩
  have HB1 := hid (HB.out.ext hb1)
  have HR1 := hid (HR.out.ext hb1)
  have HE1 := hid (HE.out.trans hb1)
  clear hb1 HB HR HE
  have x0 : w1.cell? ⟨w.heap.size, 0, none⟩ = some (.int .i64 1) := HB1.out.cell 0
  have x1 : w1.cell? ⟨w.heap.size, 1, none⟩ = some (str [110, 111, 110, 101]) := HB1.out.cell 1
  go_wp2_with fail
  refine (NumI_any _ _).mono ?_
  rintro e w2 ⟨rfl, hb2⟩
  go_wp2_with fail
  refine (NumI_any _ _).mono ?_
  rintro e w3 ⟨rfl, hb3⟩
  have H13 : Hid (w1.heap.size ≤ w3.heap.size) := Nat.le_trans hb2.size hb3.size
  have HE3 := hid ((HE1.out.trans hb2).trans hb3)
  have HR3 := hid ((HR1.out.ext hb2).ext hb3)
  clear hb2 hb3 x0 x1
  go_wp2_with fail
  refine (ListV_any 2 _ 2 _).mono ?_
  rintro e w4 ⟨rfl, hb4⟩
  have HOut := hid ((Blk.new w3 60 #[.int .i64 0, .int .u64 1, str [], .slice none 0 0, .bool false, .int .i64 0, .int .u64 0, str [], .slice none 0 0, .bool false]).ext hb4)
  have HE4 := hid ((HE3.out.alloc _).trans hb4)
  have HR4 := hid ((HR3.out.alloc _).ext hb4)
  clear hb4 HE3 HR3
  obtain ⟨c0, c1, c2, c3, c4⟩ := cells5 HR4.out
  have f0 := Blk.frozen HR4.out 0
  have f1 := Blk.frozen HR4.out 1
  have f2 := Blk.frozen HR4.out 2
  have f3 := Blk.frozen HR4.out 3
  have f4 := Blk.frozen HR4.out 4
  have HTT : Hid (eidT ⟨1, [110, 111, 110, 101], 0, 0⟩ = T.mk 4 0 [] false 2 fun i => if i = 0 then numT 1 else numT 0) := rfl
  have HFin : Hid (Ext w (set5 w4 (w.heap.size + 1) (eidT ⟨1, [110, 111, 110, 101], 0, 0⟩) (some ⟨w3.heap.size, 0, none⟩) 2) ∧ Blk (set5 w4 (w.heap.size + 1) (eidT ⟨1, [110, 111, 110, 101], 0, 0⟩) (some ⟨w3.heap.size, 0, none⟩) 2) (w.heap.size + 1) 60 (itemC (eidT ⟨1, [110, 111, 110, 101], 0, 0⟩) (some ⟨w3.heap.size, 0, none⟩) 2) ∧
      IsL (set5 w4 (w.heap.size + 1) (eidT ⟨1, [110, 111, 110, 101], 0, 0⟩) (some ⟨w3.heap.size, 0, none⟩) 2) (fun b => w.heap.size ≤ b) (eidT ⟨1, [110, 111, 110, 101], 0, 0⟩) (some ⟨w3.heap.size, 0, none⟩)) := by
    have hm : Mod [w.heap.size + 1] w4 (set5 w4 (w.heap.size + 1) (eidT ⟨1, [110, 111, 110, 101], 0, 0⟩) (some ⟨w3.heap.size, 0, none⟩) 2) := set5_modb
    have hl := HR1.out.lt
    have hs3 := H13.out
    have b1 := HOut.out.mod hm (by simp; omega)
    refine ⟨set5_mod HE4.out (by omega), set5_blk HR4.out, ?_⟩
    rw [HTT.out] at b1 ⊢
    refine fun _ => ⟨w3.heap.size, 0, rfl, b1.lt, (show w.heap.size ≤ w3.heap.size by omega), fun i hi => ?_⟩
    have hi2 : i = 0 ∨ i = 1 := by omega
    rcases hi2 with rfl | rfl
    · exact ⟨none, 0, ⟨b1.cell 0, b1.cell 1, b1.cell 2, b1.cell 3, b1.cell 4⟩, fun h => absurd h (by decide)⟩
    · exact ⟨none, 0, ⟨b1.cell 5, b1.cell 6, b1.cell 7, b1.cell 8, b1.cell 9⟩, fun h => absurd h (by decide)⟩
  obtain ⟨d0, d1, d2, d3, d4⟩ := cells5 HFin.out.2.1
  go_wp2_with fail
  show bodyPost _ _ _ _ _ (set5 w4 (w.heap.size + 1) (eidT ⟨1, [110, 111, 110, 101], 0, 0⟩) (some ⟨w3.heap.size, 0, none⟩) 2)
  refine bodyPost_ret (v := .tuple #[itemV (eidT ⟨1, [110, 111, 110, 101], 0, 0⟩) (some ⟨w3.heap.size, 0, none⟩) 2, .int .i64 0]) (by simp [results, Try.results51, go_sem, d0, d1, d2, d3, d4]) rfl ?_
  exact ⟨_, rfl, HFin.out.1, HFin.out.2.2⟩

set_option maxRecDepth 20000 in
set_option maxHeartbeats 1600000 in
theorem eidItem_dtn (name : List UInt8) (hs : Hid (name.length < 4611686018427387904)) (hn : name ≠ [110, 111, 110, 101]) (ho : EV.ok ⟨1, name, 0, 0⟩ = true) (w : World) :
    Calls Try.prog 51 #[EV.v ⟨1, name, 0, 0⟩] w (fun e w' => ∃ A, e = .returned (.tuple #[itemV (eidT ⟨1, name, 0, 0⟩) A 2, .int .i64 0]) ∧ Ext w w' ∧ IsL w' (fun b => w.heap.size ≤ b) (eidT ⟨1, name, 0, 0⟩) A) := by
  have K : Hid (∀ W, Calls Try.prog 37 #[EV.v ⟨1, name, 0, 0⟩] W (Ret (.bool true) W)) := fun W => by have := eidRight_any ⟨1, name, 0, 0⟩ hs W; rw [ho] at this; exact this
  have hnn : Hid (¬ name = noneL) := hn
  have n1 : (name == [110, 111, 110, 101]) = false := by simpa using hn
  have n2 : (name = [110, 111, 110, 101]) = False := by simpa using hn
  clear hn
  have HB := hid ((Blk.new w 24 (EV.c ⟨1, name, 0, 0⟩)).alloc (.cells #[.int .i64 0, .int .u64 0, .string ⟨#[]⟩, .slice none 0 0, .bool false] 60))
  have HR : Hid (Blk ((w.alloc (.cells (EV.c ⟨1, name, 0, 0⟩) 24)).alloc (.cells #[.int .i64 0, .int .u64 0, .string ⟨#[]⟩, .slice none 0 0, .bool false] 60)) (w.heap.size + 1) 60 (itemC (numT 0) none 0)) := by
    have := Blk.new (w.alloc (.cells (EV.c ⟨1, name, 0, 0⟩) 24)) 60 (itemC (numT 0) none 0)
    unfold Hid
    simpa [itemC, numT, T.kind, T.n, T.s, T.k, T.op] using this
  have HE := hid (((Mod.refl [] w).alloc (.cells (EV.c ⟨1, name, 0, 0⟩) 24)).alloc (.cells #[.int .i64 0, .int .u64 0, .string ⟨#[]⟩, .slice none 0 0, .bool false] 60))
  go_enter Try.func51, Try.ntmps51
  go_wp2_with fail
  refine (K.out _).mono ?_
  rintro e w1 ⟨rfl, hb1⟩
  have HB1 := hid (HB.out.ext hb1)
  have HR1 := hid (HR.out.ext hb1)
  have HE1 := hid (HE.out.trans hb1)
  clear hb1 HB HR HE
  have x0 : w1.cell? ⟨w.heap.size, 0, none⟩ = some (.int .i64 1) := HB1.out.cell 0
  have x1 : w1.cell? ⟨w.heap.size, 1, none⟩ = some (str name) := HB1.out.cell 1
  have HS : Hid (∀ w', Ext w1 w' → w'.cell? ⟨w.heap.size, 0, none⟩ = some (.int .i64 1) ∧ w'.cell? ⟨w.heap.size, 1, none⟩ = some (str name)) := fun W hW => ⟨(HB1.out.ext hW).cell 0, (HB1.out.ext hW).cell 1⟩
  obtain ⟨c0, c1, c2, c3, c4⟩ := cells5 HR1.out
  have f0 := Blk.frozen HR1.out 0
  have f1 := Blk.frozen HR1.out 1
  have f2 := Blk.frozen HR1.out 2
  have f3 := Blk.frozen HR1.out 3
  have f4 := Blk.frozen HR1.out 4
  go_upto_region 7 with fail
  go_region_held3 (fun w' => w'.cell? ⟨w.heap.size, 0, none⟩ = some (.int .i64 1) ∧ w'.cell? ⟨w.heap.size, 1, none⟩ = some (str name)) (go_keep)
    (first
      | (go_at_call 52; refine (NumI_any _ _).mono ?_; rintro x w3 ⟨rfl, hb3⟩; have hx : Ext w1 w3 := (by (with_reducible refine Mod.trans ?_ hb3); (repeat (first | with_reducible assumption | with_reducible exact Mod.refl _ _ | with_reducible refine Mod.drew ?_ | with_reducible refine Mod.alloc ?_ _))); have z := HS.out w3 hx; have H13 : Hid (w1.heap.size ≤ w3.heap.size) := hx.size)
      | (go_at_call 50; refine (ListV_any 2 _ 2 _).mono ?_; rintro x w4 ⟨rfl, hb4⟩; have hx : Ext w1 w4 := (by (with_reducible refine Mod.trans ?_ hb4); (repeat (first | with_reducible assumption | with_reducible exact Mod.refl _ _ | with_reducible refine Mod.drew ?_ | with_reducible refine Mod.alloc ?_ _))); have z := HS.out w4 hx; have HOut := hid ((Blk.new _ _ _).ext hb4); have HR4 := hid (HR1.out.ext hx); have HE4 := hid (HE1.out.trans hx); obtain ⟨g0, g1, g2, g3, g4⟩ := cells5 HR4.out; have f0 := Blk.frozen HR4.out 0; have f1 := Blk.frozen HR4.out 1; have f2 := Blk.frozen HR4.out 2; have f3 := Blk.frozen HR4.out 3; have f4 := Blk.frozen HR4.out 4))
  have HTT : Hid (eidT ⟨1, name, 0, 0⟩ = T.mk 4 0 [] false 2 fun i => if i = 0 then numT 1 else textT name) := by unfold Hid eidT twoT; simp only []; rw [if_neg (by decide), if_neg hnn.out]; rfl
  have HFin : Hid (Ext w (set5 w4 (w.heap.size + 1) (eidT ⟨1, name, 0, 0⟩) (some ⟨w3.heap.size, 0, none⟩) 2) ∧ Blk (set5 w4 (w.heap.size + 1) (eidT ⟨1, name, 0, 0⟩) (some ⟨w3.heap.size, 0, none⟩) 2) (w.heap.size + 1) 60 (itemC (eidT ⟨1, name, 0, 0⟩) (some ⟨w3.heap.size, 0, none⟩) 2) ∧
      IsL (set5 w4 (w.heap.size + 1) (eidT ⟨1, name, 0, 0⟩) (some ⟨w3.heap.size, 0, none⟩) 2) (fun b => w.heap.size ≤ b) (eidT ⟨1, name, 0, 0⟩) (some ⟨w3.heap.size, 0, none⟩)) := by
    have hm : Mod [w.heap.size + 1] w4 (set5 w4 (w.heap.size + 1) (eidT ⟨1, name, 0, 0⟩) (some ⟨w3.heap.size, 0, none⟩) 2) := set5_modb
    have hl := HR1.out.lt
    have hs3 := H13.out
    have b1 := HOut.out.mod hm (by simp; omega)
    refine ⟨set5_mod HE4.out (by omega), set5_blk HR4.out, ?_⟩
    rw [HTT.out] at b1 ⊢
    refine fun _ => ⟨w3.heap.size, 0, rfl, b1.lt, (show w.heap.size ≤ w3.heap.size by omega), fun i hi => ?_⟩
    have hi2 : i = 0 ∨ i = 1 := by omega
    rcases hi2 with rfl | rfl
    · exact ⟨none, 0, ⟨b1.cell 0, b1.cell 1, b1.cell 2, b1.cell 3, b1.cell 4⟩, fun h => absurd h (by decide)⟩
    · exact ⟨none, 0, ⟨b1.cell 5, b1.cell 6, b1.cell 7, b1.cell 8, b1.cell 9⟩, fun h => absurd h (by decide)⟩
  obtain ⟨d0, d1, d2, d3, d4⟩ := cells5 HFin.out.2.1
  go_wp2_with fail
  show bodyPost _ _ _ _ _ (set5 w4 (w.heap.size + 1) (eidT ⟨1, name, 0, 0⟩) (some ⟨w3.heap.size, 0, none⟩) 2)
  refine bodyPost_ret (v := .tuple #[itemV (eidT ⟨1, name, 0, 0⟩) (some ⟨w3.heap.size, 0, none⟩) 2, .int .i64 0]) (by simp [results, Try.results51, go_sem, d0, d1, d2, d3, d4]) rfl ?_
  exact ⟨_, rfl, HFin.out.1, HFin.out.2.2⟩
end Go.Proofs.Ytcajjhmldghakaa


namespace Go.Proofs.Ytcajjhmldghakaa
open Go.RowKit
set_option linter.unusedVariables false
set_option linter.unusedSimpArgs false

def lettersL : List UInt8 := [97, 98, 99, 100, 101, 102, 103, 104, 105, 106, 107, 108, 109, 110, 111, 112, 113, 114, 115, 116, 117, 118, 119, 120, 121, 122, 48, 49, 50, 51, 52, 53, 54, 55, 56, 57, 45, 46]
theorem lett_mem_n : ∀ n : Fin 256, lett (UInt8.ofNat n.val) = lettersL.contains (UInt8.ofNat n.val) := by decide +kernel
theorem lett_mem (c : UInt8) : lett c = lettersL.contains c := by
  have := lett_mem_n ⟨c.toNat, c.toNat_lt⟩
  simpa using this
end Go.Proofs.Ytcajjhmldghakaa


namespace Go.Proofs.Ytcajjhmldghakaa
open Go.RowKit
set_option linter.unusedVariables false
set_option linter.unusedSimpArgs false

def rightCases (node svc : Nat) (name : List UInt8) : Bool := decide (name = []) && decide (node ≤ 4294967295) && decide (svc ≤ 4294967295)
end Go.Proofs.Ytcajjhmldghakaa


namespace Go.Proofs.Ytcajjhmldghakaa
open Go.ChangeShapes Go.WideShapes Go.ChangeAt Go.RowKit Go.Deep
set_option linter.unusedVariables false
set_option linter.unusedSimpArgs false

section
variable {H : Type} {enc : TypeId × Value → H} {w : World} {base b0 : Nat} {spare : Nat → Bool} {held : Bool} {r : Reach}
/-- A field of one cell, read alone. -/
theorem field_at {P : Program} {fs : Array Field} {cs : List Value} {ys : List (DataW H × List MemPlace)} {n : Nat} (hone : oneCellFields P fs = true)
    (hfl : ∀ (i : Nat) (f : Field), fs[i]? = some f → DataW.trod enc P w base spare held n f.type ((cs.drop f.offset).take (P.cellsOf f.type)) = ys[i]?)
    {i : Nat} {f : Field} (h : fs[i]? = some f) {c : Value} (hc : cs[i]? = some c) : DataW.trod enc P w base spare held n f.type [c] = ys[i]? := by
  obtain ⟨ho, hk⟩ := hone_of hone i f h
  have := hfl i f h
  rw [ho, hk] at this
  obtain ⟨hlt, hv⟩ := List.getElem?_eq_some_iff.1 hc
  rw [List.drop_eq_getElem_cons hlt, hv] at this
  exact this

theorem weights_mem_all {P : Program} {e : TypeId} {d : DataW H} {n : Nat} (hn : n ∈ d.weights P e) : ∀ {l : List (DataW H)}, d ∈ l → n ∈ DataW.weightsAll P e l
  | x :: r, h => by
    simp only [DataW.weightsAll, List.mem_append]
    rcases List.mem_cons.1 h with rfl | h
    · exact .inl hn
    · exact .inr (weights_mem_all hn h)

set_option maxRecDepth 100000 in
theorem trod_item : ∀ (fuel : Nat) (cs : List Value) (x : DataW H × List MemPlace), DataW.trod enc Try.prog w base spare held fuel 60 cs = some x → (∀ n ∈ x.1.weights Try.prog 60, n ≤ reachBytes) →
    ∃ (t : T) (A : Option Addr) (c : Nat), cs = [.int .i64 t.kind, .int .u64 (t.n : Int), str t.s, .slice A t.k c, .bool t.op] ∧ t.ok ∧ IsL w (fun _ => True) t A := by
  intro fuel
  induction fuel using Nat.strongRecOn with
  | ind fuel ih =>
    intro cs x h hz
    obtain ⟨ys, n', hn', hy, hlen, hyl, hfl⟩ := DataW.trod_struct Try.underlying60 h
    subst hn' hy
    have hz' : ∀ n ∈ DataW.weightsEach Try.prog [3, 22, 9, 58, 4] (ys.map (·.1)), n ≤ reachBytes := by
      intro n hn
      apply hz
      simp only [DataW.weights, Try.underlying60]
      exact hn
    clear hz
    have hR : reachBytes < 140737488355328 := by decide
    match cs, hlen with
    | [c0, c1, c2, c3, c4], _ =>
      have h0 := field_at (by kernel_rfl) hfl (i := 0) rfl rfl
      have h1 := field_at (by kernel_rfl) hfl (i := 1) rfl rfl
      have h2 := field_at (by kernel_rfl) hfl (i := 2) rfl rfl
      have h3 := field_at (by kernel_rfl) hfl (i := 3) rfl rfl
      have h4 := field_at (by kernel_rfl) hfl (i := 4) rfl rfl
      clear hfl h
      match ys, hyl with
      | [y0, y1, y2, y3, y4], _ =>
        obtain ⟨kd, hk, _, hkw⟩ := DataW.trod_int (k := .i64) (by kernel_rfl) h0
        obtain ⟨nn, hnn, _, hnw⟩ := DataW.trod_int (k := .u64) (by kernel_rfl) h1
        obtain ⟨s, hs, hsd, hsw⟩ := DataW.trod_string (by kernel_rfl) h2
        obtain ⟨op, hop, _⟩ := DataW.trod_bool (by kernel_rfl) h4
        have e0 : c0 = .int .i64 kd := by
          have : [c0] = [Value.int .i64 kd] := hk
          simpa using this
        have e1 : c1 = .int .u64 nn := by
          have : [c1] = [Value.int .u64 nn] := hnn
          simpa using this
        have e2 : c2 = .string s := by
          have : [c2] = [Value.string s] := hs
          simpa using this
        have e4 : c4 = .bool op := by
          have : [c4] = [Value.bool op] := hop
          simpa using this
        subst e0 e1 e2 e4
        have bk : -9223372036854775808 ≤ kd ∧ kd ≤ 9223372036854775807 := by simpa [Lit.wf, IntKind.min, IntKind.max, IntKind.signed, IntKind.bits] using hkw
        have bn : 0 ≤ nn ∧ nn ≤ 18446744073709551615 := by simpa [Lit.wf, IntKind.min, IntKind.max, IntKind.signed, IntKind.bits] using hnw
        have bs : s.data.toList.length < 4611686018427387904 := by
          have := hz' s.data.toList.length (DataW.weights_mem_each (j := 2) rfl (show _ = some (DataW.lit (.string s.data.toList)) by simp only [List.map, List.getElem?_cons_succ, List.getElem?_cons_zero]; rw [hsd]) _ (by simp [DataW.weights]))
          omega
        obtain ⟨nm, rfl⟩ := Int.eq_ofNat_of_zero_le bn.1
        rcases DataW.trod_slice (e := 60) (by kernel_rfl) h3 with ⟨hcs, _⟩ | ⟨a, len, cap', elems, rest, f, hf, hcs, hx, hb, hl, hm, hlen, hel, _, _⟩
        · have e3 : c3 = .slice none 0 0 := by simpa using hcs
          subst e3
          refine ⟨T.mk kd nm s.data.toList op 0 (fun _ => T.nil), none, 0, rfl, ?_, fun h => by omega⟩
          unfold T.ok
          exact ⟨bk, by omega, bs, by omega, fun i hi => by omega⟩
        · have e3 : c3 = .slice (some a) len cap' := by simpa using hcs
          subst e3
          have hC : Try.prog.cellsOf 60 = 5 := by kernel_rfl
          have hBy : Try.prog.bytesOf 60 = 64 := by kernel_rfl
          have hzs : ∀ n ∈ (y3.1).weights Try.prog 58, n ≤ reachBytes := fun n hn => hz' n (DataW.weights_mem_each (j := 3) rfl (show _ = some y3.1 by rfl) _ hn)
          rw [hx] at hzs
          simp only [DataW.weights, Try.underlying58] at hzs
          have bl : len < 4611686018427387904 := by
            have h8 := hzs _ List.mem_cons_self
            rw [hBy, List.length_map, hlen] at h8
            have h9 : len * 64 ≤ (len + (List.map (fun x => x.1) rest).length) * 64 := Nat.mul_le_mul_right _ (Nat.le_add_right _ _)
            omega
          have key : ∀ i, i < len → ∃ (t : T) (Ai : Option Addr) (ci : Nat), (w.cell? ((a.add (i * 5)).add 0) = some (.int .i64 t.kind) ∧ w.cell? ((a.add (i * 5)).add 1) = some (.int .u64 (t.n : Int)) ∧ w.cell? ((a.add (i * 5)).add 2) = some (str t.s) ∧ w.cell? ((a.add (i * 5)).add 3) = some (.slice Ai t.k ci) ∧ w.cell? ((a.add (i * 5)).add 4) = some (.bool t.op)) ∧ t.ok ∧ IsL w (fun _ => True) t Ai := by
            intro i hin
            have hi := hel i hin
            rw [List.getElem?_eq_getElem (by omega)] at hi
            obtain ⟨cs', hc, ht⟩ := Option.bind_eq_some_iff.1 hi
            have hz2 : ∀ n ∈ (elems[i]'(by omega)).1.weights Try.prog 60, n ≤ reachBytes := fun n hn => by
              apply hzs
              refine List.mem_cons_of_mem _ (List.mem_append_left _ (weights_mem_all hn ?_))
              exact List.mem_map.2 ⟨_, List.getElem_mem _, rfl⟩
            obtain ⟨t, Ai, ci, rfl, hok, hL⟩ := ih f (by omega) cs' _ ht hz2
            rw [hC] at hc
            obtain ⟨_, hcl, hat⟩ := World.cells?_some hc
            exact ⟨t, Ai, ci, ⟨hat 0 (by omega), hat 1 (by omega), hat 2 (by omega), hat 3 (by omega), hat 4 (by omega)⟩, hok, hL⟩
          have key2 : ∀ i, ∃ z : T × Option Addr × Nat, i < len → (w.cell? ((a.add (i * 5)).add 0) = some (.int .i64 z.1.kind) ∧ w.cell? ((a.add (i * 5)).add 1) = some (.int .u64 (z.1.n : Int)) ∧ w.cell? ((a.add (i * 5)).add 2) = some (str z.1.s) ∧ w.cell? ((a.add (i * 5)).add 3) = some (.slice z.2.1 z.1.k z.2.2) ∧ w.cell? ((a.add (i * 5)).add 4) = some (.bool z.1.op)) ∧ z.1.ok ∧ IsL w (fun _ => True) z.1 z.2.1 := fun i => by
            by_cases hin : i < len
            · obtain ⟨t, Ai, ci, h5⟩ := key i hin
              exact ⟨(t, Ai, ci), fun _ => h5⟩
            · exact ⟨(T.nil, none, 0), fun h => absurd h hin⟩
          obtain ⟨g, hg⟩ : ∃ g : Nat → T × Option Addr × Nat, ∀ i, i < len → (w.cell? ((a.add (i * 5)).add 0) = some (.int .i64 (g i).1.kind) ∧ w.cell? ((a.add (i * 5)).add 1) = some (.int .u64 ((g i).1.n : Int)) ∧ w.cell? ((a.add (i * 5)).add 2) = some (str (g i).1.s) ∧ w.cell? ((a.add (i * 5)).add 3) = some (.slice (g i).2.1 (g i).1.k (g i).2.2) ∧ w.cell? ((a.add (i * 5)).add 4) = some (.bool (g i).1.op)) ∧ (g i).1.ok ∧ IsL w (fun _ => True) (g i).1 (g i).2.1 :=
            ⟨fun i => Classical.choose (key2 i), fun i => Classical.choose_spec (key2 i)⟩
          refine ⟨T.mk kd nm s.data.toList op len (fun i => (g i).1), some a, cap', rfl, ?_, ?_⟩
          · unfold T.ok
            exact ⟨bk, by omega, bs, bl, fun i hi => (hg i hi).2.1⟩
          · intro h0
            obtain ⟨⟨z0, _⟩, _⟩ := hg 0 h0
            have z1 : w.cell? a = some (.int .i64 (g 0).1.kind) := by simpa [Addr.add] using z0
            have hsp := World.cell?_spot z1
            obtain ⟨ab, ao, sp⟩ := a
            simp only at hsp
            subst hsp
            refine ⟨ab, ao, rfl, World.block_lt_of_cell? w _ z1, trivial, fun i hin => ⟨(g i).2.1, (g i).2.2, ?_, (hg i hin).2.2⟩⟩
            obtain ⟨⟨g0, g1, g2, g3, g4⟩, _⟩ := hg i hin
            rw [addr_add, addr_add] at g0 g1 g2 g3 g4
            exact ⟨g0, g1, g2, g3, g4⟩

set_option maxRecDepth 100000 in
/-- An argument item.Item, opened. -/
theorem open_item {v : Value} {d : DataW H} {p : List MemPlace} (hval : Value.okWide Try.prog w r b0 60 v) (h : DataW.Trod enc Try.prog w base spare held 60 v d p) (hz : ∀ n ∈ d.weights Try.prog 60, n ≤ reachBytes) :
    ∃ (t : T) (A : Option Addr) (c : Nat), v = itemV t A c ∧ t.ok ∧ IsL w (fun _ => True) t A := by
  obtain ⟨cs, rfl, hsz⟩ := okWide_struct Try.underlying60 hval
  obtain ⟨fuel, hf⟩ := h
  obtain ⟨t, A, c, e, hok, hL⟩ := trod_item fuel _ _ hf hz
  refine ⟨t, A, c, ?_, hok, hL⟩
  have e2 : cs.toList = [.int .i64 t.kind, .int .u64 (t.n : Int), str t.s, .slice A t.k c, .bool t.op] := e
  rw [itemV, ← e2]
end
end Go.Proofs.Ytcajjhmldghakaa


namespace Go.Proofs.Ytcajjhmldghakaa
open Go.ChangeShapes Go.WideShapes Go.ChangeAt Go.RowKit Go.Deep
set_option linter.unusedVariables false
set_option linter.unusedSimpArgs false

section
variable {H : Type} {enc : TypeId × Value → H} {w : World} {base b0 : Nat} {spare : Nat → Bool} {held : Bool} {r : Reach}
set_option maxRecDepth 100000 in
theorem trod_eid {fuel : Nat} {cs : List Value} {x : DataW H × List MemPlace} (h : DataW.trod enc Try.prog w base spare held fuel 24 cs = some x) :
    ∃ e : EV, cs = [.int .i64 e.sch, str e.name, .int .u64 (e.node : Int), .int .u64 (e.svc : Int)] ∧ e.node < 18446744073709551616 ∧ e.svc < 18446744073709551616 ∧ (-9223372036854775808 ≤ e.sch ∧ e.sch ≤ 9223372036854775807) := by
  obtain ⟨ys, n', hn', hy, hlen, hyl, hfl⟩ := DataW.trod_struct Try.underlying24 h
  match cs, hlen with
  | [c0, c1, c2, c3], _ =>
    have h0 := field_at (by kernel_rfl) hfl (i := 0) rfl rfl
    have h1 := field_at (by kernel_rfl) hfl (i := 1) rfl rfl
    have h2 := field_at (by kernel_rfl) hfl (i := 2) rfl rfl
    have h3 := field_at (by kernel_rfl) hfl (i := 3) rfl rfl
    clear hfl h
    match ys, hyl with
    | [y0, y1, y2, y3], _ =>
      obtain ⟨sch, e0, _, w0⟩ := DataW.trod_int (k := .i64) (by kernel_rfl) h0
      obtain ⟨s, e1, _, _⟩ := DataW.trod_string (by kernel_rfl) h1
      obtain ⟨a, e2, _, w2⟩ := DataW.trod_int (k := .u64) (by kernel_rfl) h2
      obtain ⟨b, e3, _, w3⟩ := DataW.trod_int (k := .u64) (by kernel_rfl) h3
      have q0 : c0 = .int .i64 sch := by have : [c0] = [Value.int .i64 sch] := e0; simpa using this
      have q1 : c1 = .string s := by have : [c1] = [Value.string s] := e1; simpa using this
      have q2 : c2 = .int .u64 a := by have : [c2] = [Value.int .u64 a] := e2; simpa using this
      have q3 : c3 = .int .u64 b := by have : [c3] = [Value.int .u64 b] := e3; simpa using this
      subst q0 q1 q2 q3
      have b0 : -9223372036854775808 ≤ sch ∧ sch ≤ 9223372036854775807 := by simpa [Lit.wf, IntKind.min, IntKind.max, IntKind.signed, IntKind.bits] using w0
      have b2 : 0 ≤ a ∧ a ≤ 18446744073709551615 := by simpa [Lit.wf, IntKind.min, IntKind.max, IntKind.signed, IntKind.bits] using w2
      have b3 : 0 ≤ b ∧ b ≤ 18446744073709551615 := by simpa [Lit.wf, IntKind.min, IntKind.max, IntKind.signed, IntKind.bits] using w3
      obtain ⟨a, rfl⟩ := Int.eq_ofNat_of_zero_le b2.1
      obtain ⟨b, rfl⟩ := Int.eq_ofNat_of_zero_le b3.1
      exact ⟨⟨sch, s.data.toList, a, b⟩, rfl, by show a < _; omega, by show b < _; omega, b0⟩

set_option maxRecDepth 100000 in
theorem open_eid {v : Value} {d : DataW H} {p : List MemPlace} (hval : Value.okWide Try.prog w r b0 24 v) (h : DataW.Trod enc Try.prog w base spare held 24 v d p) :
    ∃ e : EV, v = e.v ∧ e.node < 18446744073709551616 ∧ e.svc < 18446744073709551616 ∧ (-9223372036854775808 ≤ e.sch ∧ e.sch ≤ 9223372036854775807) := by
  obtain ⟨cs, rfl, hsz⟩ := okWide_struct Try.underlying24 hval
  obtain ⟨fuel, hf⟩ := h
  have hcs : (Value.agg cs).cells.toList = cs.toList := rfl
  rw [hcs] at hf
  obtain ⟨e, he, h1, h2, h3⟩ := trod_eid hf
  refine ⟨e, ?_, h1, h2, h3⟩
  have : cs = (cs.toList).toArray := by simp
  rw [this, he]
theorem okWide_arr {P : Program} {t e : TypeId} {n : Nat} {v : Value} (ht : P.underlying t = some (.array n e)) (h : Value.okWide P w r base t v) : ∃ cs, v = .agg cs ∧ cs.size = P.cellsOf t := by
  simp only [Value.okWide, ht] at h
  obtain ⟨cs, h1, h2, _⟩ := h
  exact ⟨cs, h1, h2⟩
theorem two_ints {P : Program} {t e : TypeId} {k : IntKind} {fuel : Nat} {c0 c1 : Value} {x : DataW H × List MemPlace} (ht : P.underlying t = some (.array 2 e)) (he : P.underlying e = some (.int k)) (hC : P.cellsOf e = 1)
    (h : DataW.trod enc P w base spare held fuel t [c0, c1] = some x) : ∃ a b, c0 = .int k a ∧ c1 = .int k b ∧ (Lit.int k a).wf = true ∧ (Lit.int k b).wf = true := by
  obtain ⟨xs, m, _, _, _, hlen, hg⟩ := DataW.trod_array ht h
  have h0 := hg 0 (by omega)
  have h1 := hg 1 (by omega)
  rw [hC] at h0 h1
  match xs, hlen with
  | [y0, y1], _ =>
    obtain ⟨a, ha, _, hwa⟩ := DataW.trod_int (k := k) he h0
    obtain ⟨b, hb, _, hwb⟩ := DataW.trod_int (k := k) he h1
    exact ⟨a, b, by simpa using ha, by simpa using hb, hwa, hwb⟩
end
end Go.Proofs.Ytcajjhmldghakaa


namespace Go.Proofs.Ytcajjhmldghakaa
open Go.RowKit
set_option linter.unusedVariables false
set_option linter.unusedSimpArgs false

theorem EV.ok_cases {e : EV} (h : e.ok = true) : (e = ⟨1, [110, 111, 110, 101], 0, 0⟩) ∨ (∃ name, e = ⟨1, name, 0, 0⟩ ∧ name ≠ [110, 111, 110, 101] ∧ name.length ≤ 60) ∨ (∃ node svc, e = ⟨2, [], node, svc⟩ ∧ node ≤ 4294967295 ∧ svc ≤ 4294967295) := by
  obtain ⟨sch, name, node, svc⟩ := e
  unfold EV.ok at h
  simp only [] at h
  by_cases h1 : sch = 1
  · rw [if_pos h1] at h
    simp only [Bool.and_eq_true, decide_eq_true_eq] at h
    obtain ⟨⟨rfl, rfl⟩, hn⟩ := h
    subst h1
    by_cases h0 : name = [110, 111, 110, 101]
    · subst h0; exact .inl rfl
    · refine .inr (.inl ⟨name, rfl, h0, ?_⟩)
      have h00 : ¬ name = noneL := h0
      simp only [namedL, h00, decide_false, Bool.false_or, Bool.and_eq_true, decide_eq_true_eq] at hn
      by_cases hl : name.length ≤ 60
      · exact hl
      · exfalso
        apply hn.1
        unfold nodeN
        rw [if_neg (fun h => hl h.2)]
  · rw [if_neg h1] at h
    by_cases h2 : sch = 2
    · rw [if_pos h2] at h
      simp only [Bool.and_eq_true, decide_eq_true_eq] at h
      obtain ⟨⟨rfl, ha⟩, hb⟩ := h
      subst h2
      exact .inr (.inr ⟨node, svc, rfl, ha, hb⟩)
    · rw [if_neg h2] at h
      cases h
theorem eidItem_ok (e : EV) (ho : e.ok = true) (w : World) : Calls Try.prog 51 #[e.v] w (fun r w' => ∃ A, r = .returned (.tuple #[itemV (eidT e) A 2, .int .i64 0]) ∧ Ext w w' ∧ IsL w' (fun b => w.heap.size ≤ b) (eidT e) A) := by
  rcases EV.ok_cases ho with rfl | ⟨name, rfl, hn, hl⟩ | ⟨node, svc, rfl, ha, hb⟩
  · exact eidItem_none w
  · exact eidItem_dtn name (by unfold Hid; omega) hn ho w
  · have e1 : eidT ⟨2, [], node, svc⟩ = ipnT node svc := rfl
    rw [e1]
    exact eidItem_ipn node svc ha hb w
theorem text_ok {s : List UInt8} (h : s.length < 4611686018427387904) : (textT s).ok := by unfold textT T.ok; exact ⟨by omega, by omega, h, by omega, fun i hi => by omega⟩
theorem eidT_ok {e : EV} (ho : e.ok = true) : (eidT e).ok ∧ (∀ d, 3 ≤ d → (eidT e).right d = true) ∧ (eidT e).plain = true ∧ (eidT e).size ≤ 100000 := by
  rcases EV.ok_cases ho with rfl | ⟨name, rfl, hn, hl⟩ | ⟨node, svc, rfl, ha, hb⟩
  · refine ⟨?_, fun d hd => ?_, by decide, by decide⟩
    · unfold eidT T.ok
      exact ⟨by omega, by omega, by simp, by omega, fun i hi => by dsimp only; split; exact num_ok (by decide); exact num_ok (by decide)⟩
    · have h1 : ¬ d < 1 := by omega
      have h2 : ¬ d - 1 < 1 := by omega
      simp [eidT, twoT, noneL, T.right, h1, h2, T.node, T.all, numT]
  · have h0 : ¬ name = noneL := hn
    have e1 : twoT ⟨1, name, 0, 0⟩ = textT name := by simp [twoT, h0]
    refine ⟨?_, fun d hd => ?_, ?_, ?_⟩
    · unfold eidT T.ok
      exact ⟨by omega, by omega, by simp, by omega, fun i hi => by dsimp only; split; exact num_ok (by decide); rw [e1]; exact text_ok (by omega)⟩
    · have h1 : ¬ d < 1 := by omega
      have h2 : ¬ d - 1 < 1 := by omega
      simp [eidT, e1, T.right, h1, h2, T.node, T.all, numT, textT]
    · simp [eidT, e1, T.plain, T.node, T.all, numT, textT]
    · simp [eidT, e1, T.size, T.sum, numT, textT]; omega
  · refine ⟨?_, fun d hd => ?_, ?_, ?_⟩
    · unfold eidT T.ok
      refine ⟨by omega, by omega, by simp, by omega, fun i hi => ?_⟩
      dsimp only
      split
      · exact num_ok (by decide)
      · show (T.mk 4 0 [] false 2 (fun j => if j = 0 then numT node else numT svc)).ok
        unfold T.ok
        exact ⟨by omega, by omega, by simp, by omega, fun i hi => by dsimp only; split; exact num_ok (by omega); exact num_ok (by omega)⟩
    · have h1 : ¬ d < 1 := by omega
      have h2 : ¬ d - 1 < 1 := by omega
      have h3 : ¬ d - 1 - 1 < 1 := by omega
      simp [eidT, twoT, T.right, h1, h2, h3, T.node, T.all, numT]
    · simp [eidT, twoT, T.plain, T.node, T.all, numT]
    · simp [eidT, twoT, T.size, T.sum, numT]

theorem two_IsL {W : World} {Q : Nat → Prop} {g : Nat} (t0 t1 : T) (A0 A1 : Option Addr) (c0 c1 : Nat) (q : Q g)
    (h : Blk W g 60 #[.int .i64 t0.kind, .int .u64 (t0.n : Int), str t0.s, .slice A0 t0.k c0, .bool t0.op, .int .i64 t1.kind, .int .u64 (t1.n : Int), str t1.s, .slice A1 t1.k c1, .bool t1.op]) (h0 : IsL W Q t0 A0) (h1 : IsL W Q t1 A1) : IsL W Q (T.mk 4 0 [] false 2 fun i => if i = 0 then t0 else t1) (some ⟨g, 0, none⟩) := fun _ => ⟨g, 0, rfl, h.lt, q, fun i hi => by
  have hi2 : i = 0 ∨ i = 1 := by omega
  rcases hi2 with rfl | rfl
  · exact ⟨A0, c0, ⟨h.cell 0, h.cell 1, h.cell 2, h.cell 3, h.cell 4⟩, h0⟩
  · exact ⟨A1, c1, ⟨h.cell 5, h.cell 6, h.cell 7, h.cell 8, h.cell 9⟩, h1⟩⟩
theorem leaf_IsL {W : World} {Q : Nat → Prop} {t : T} {A : Option Addr} (h : t.k = 0) (hn : t ≠ T.nil) : IsL W Q t A := by
  cases t with
  | nil => exact absurd rfl hn
  | mk kind n s op k ch => intro h0; have : k = 0 := h; omega

end Go.Proofs.Ytcajjhmldghakaa


namespace Go.Proofs.Ytcajjhmldghakaa
open Go.RowKit
set_option linter.unusedVariables false
set_option linter.unusedSimpArgs false

/-- An array of these items. -/
def listT (L : List T) : T := T.mk 4 0 [] false L.length fun i => (L[i]?).getD T.nil
theorem catR_list (g : T → List UInt8) : ∀ L : List T, T.catR (fun i => g ((L[i]?).getD T.nil)) L.length = (L.map g).flatten
  | [] => rfl
  | x :: L => by
    rw [List.length_cons, T.catR, List.map_cons, List.flatten_cons, ← catR_list g L]
    rfl
theorem listT_bytes (L : List T) : (listT L).bytes = headL 4 L.length ++ (L.map T.bytes).flatten := by
  unfold listT
  rw [T.bytes, if_neg (by decide), if_neg (by decide), T.cat_eq, catR_list]
  simp
theorem getD_mem {L : List T} {i : Nat} (h : i < L.length) : (L[i]?).getD T.nil ∈ L := by
  rw [List.getElem?_eq_getElem h]; exact List.getElem_mem h
theorem listT_ok {L : List T} (hl : L.length < 4611686018427387904) (h : ∀ t ∈ L, t.ok) : (listT L).ok := by
  unfold listT T.ok
  exact ⟨by omega, by omega, by simp, hl, fun i hi => h _ (getD_mem hi)⟩
theorem listT_right {L : List T} {d : Nat} (hd : 1 ≤ d) (hl : L.length ≤ 1000) (h : ∀ t ∈ L, t.right (d - 1) = true) : (listT L).right d = true := by
  unfold listT T.right
  rw [if_neg (by omega), Bool.and_eq_true, T.all_iff]
  refine ⟨?_, fun i hi => h _ (getD_mem hi)⟩
  simp [T.node, hl]
theorem sum_le_each {f : Nat → Nat} {B k : Nat} (h : ∀ i, i < k → f i ≤ B) : T.sum f k ≤ k * B := by
  induction k with
  | zero => simp [T.sum]
  | succ k ih =>
    have := ih (fun i hi => h i (by omega))
    have := h k (by omega)
    rw [T.sum, Nat.succ_mul]; omega
theorem listT_size {L : List T} {B : Nat} (h : ∀ t ∈ L, t.size ≤ B) : (listT L).size ≤ 1 + L.length * B := by
  unfold listT T.size
  have := sum_le_each (f := fun i => ((L[i]?).getD T.nil).size) (B := B) (k := L.length) (fun i hi => h _ (getD_mem hi))
  simp; omega
theorem numT_all (n : Nat) (h : n < 18446744073709551616) : (numT n).ok ∧ (∀ d, 1 ≤ d → (numT n).right d = true) ∧ (numT n).size ≤ 100 ∧ (numT n).bytes = headL 0 n := by
  refine ⟨num_ok h, fun d hd => ?_, by simp [numT, T.size, T.sum], rfl⟩
  unfold numT T.right
  rw [if_neg (by omega)]
  simp [T.node, T.all]
theorem strT_all {s : List UInt8} (h : s.length ≤ 90) : (strT s).ok ∧ (∀ d, 1 ≤ d → (strT s).right d = true) ∧ (strT s).size ≤ 100 ∧ (strT s).bytes = headL 2 s.length ++ s := by
  refine ⟨str_ok (by omega), fun d hd => ?_, ?_, rfl⟩
  · unfold strT T.right
    rw [if_neg (by omega)]
    simp [T.node, T.all]
  · simp [strT, T.size, T.sum]; omega
theorem eidT_small {e : EV} (ho : e.ok = true) : (eidT e).size ≤ 100 := by
  rcases EV.ok_cases ho with rfl | ⟨name, rfl, hn, hl⟩ | ⟨node, svc, rfl, ha, hb⟩
  · decide
  · have h0 : ¬ name = noneL := hn
    have e1 : twoT ⟨1, name, 0, 0⟩ = textT name := by simp [twoT, h0]
    simp [eidT, e1, T.size, T.sum, numT, textT]; omega
  · simp [eidT, twoT, T.size, T.sum, numT]

/- A primary. -/
def PV.ranged (p : PV) : Bool := p.d.ok && (p.s.ok && (p.r.ok && decide (0 ≤ p.crc ∧ p.crc ≤ 2 ∧ p.fl < 2097152 ∧ p.t ≤ 1099511627776 ∧ p.q ≤ 1099511627776 ∧ p.l ≤ 1099511627776 ∧ p.o ≤ 1099511627776 ∧ p.n ≤ 1099511627776)))
def PV.none (p : PV) : Prop := p.s.sch = 1 ∧ p.s.name = noneL
instance (p : PV) : Decidable p.none := by unfold PV.none; infer_instance
def PV.right (p : PV) : Int :=
  if p.ranged = false then 1
  else if (p.fl % 2 = 1 ∧ (p.fl / 4 % 2 = 1 ∨ p.n ≤ p.o)) ∨ (¬ p.fl % 2 = 1 ∧ (0 < p.o ∨ 0 < p.n)) then 8
  else if ((p.fl / 16384 % 2 = 1 ∨ p.fl / 262144 % 2 = 1) ∧ (p.none ∨ p.fl / 2 % 2 = 1)) ∨ (p.none ∧ ¬ p.fl / 4 % 2 = 1) then 8
  else 0
theorem PV.ranged_spec {p : PV} (h : p.ranged = true) : p.d.ok = true ∧ p.s.ok = true ∧ p.r.ok = true ∧ 0 ≤ p.crc ∧ p.crc ≤ 2 ∧ p.fl < 2097152 ∧ p.t ≤ 1099511627776 ∧ p.q ≤ 1099511627776 ∧ p.l ≤ 1099511627776 ∧ p.o ≤ 1099511627776 ∧ p.n ≤ 1099511627776 := by
  unfold PV.ranged at h
  simp only [Bool.and_eq_true, decide_eq_true_eq] at h
  exact ⟨h.1, h.2.1, h.2.2.1, h.2.2.2⟩
theorem PV.right_ranged {p : PV} (h : p.right = 0) : p.ranged = true := by
  unfold PV.right at h
  cases hr : p.ranged with
  | true => rfl
  | false => rw [hr, if_pos rfl] at h; exact absurd h (by decide)
/-- Its items, with a sum. -/
def priL (p : PV) (k : Nat) (sum : List UInt8) : List T :=
  [numT 7, numT p.fl, numT k, eidT p.d, eidT p.s, eidT p.r, listT [numT p.t, numT p.q], numT p.l] ++ ((if p.fl % 2 = 1 then [numT p.o, numT p.n] else []) ++ (if k = 0 then [] else [strT sum]))
def priT (p : PV) (k : Nat) (sum : List UInt8) : T := listT (priL p k sum)
def priN (p : PV) (k : Nat) : Nat := 8 + ((if p.fl % 2 = 1 then 2 else 0) + (if k = 0 then 0 else 1))
theorem priL_length (p : PV) (k : Nat) (sum : List UInt8) : (priL p k sum).length = priN p k := by
  unfold priL priN
  split <;> split <;> simp
/-- Its bytes, with a sum. -/
def priB (p : PV) (k : Nat) (sum : List UInt8) : List UInt8 :=
  headL 4 (priN p k) ++ (headL 0 7 ++ (headL 0 p.fl ++ (headL 0 k ++ ((eidT p.d).bytes ++ ((eidT p.s).bytes ++ ((eidT p.r).bytes ++ (headL 4 2 ++ (headL 0 p.t ++ (headL 0 p.q ++ (headL 0 p.l ++
  ((if p.fl % 2 = 1 then headL 0 p.o ++ headL 0 p.n else []) ++ (if k = 0 then [] else headL 2 sum.length ++ sum))))))))))))
theorem priT_bytes (p : PV) (k : Nat) (sum : List UInt8) : (priT p k sum).bytes = priB p k sum := by
  unfold priT
  rw [listT_bytes, priL_length]
  unfold priL priB
  have e : (listT [numT p.t, numT p.q]).bytes = headL 4 2 ++ (headL 0 p.t ++ headL 0 p.q) := by
    rw [listT_bytes]; simp [show ∀ n, (numT n).bytes = headL 0 n from fun n => rfl]
  by_cases h1 : p.fl % 2 = 1 <;> by_cases h2 : k = 0 <;>
    simp [h1, h2, e, show ∀ n, (numT n).bytes = headL 0 n from fun n => rfl, show ∀ s, (strT s).bytes = headL 2 s.length ++ s from fun s => rfl]
theorem priT_all {p : PV} (h : p.ranged = true) {k : Nat} (hk : k ≤ 2) {sum : List UInt8} (hs : sum.length ≤ 90) : (priT p k sum).ok ∧ (∀ d, 4 ≤ d → (priT p k sum).right d = true) ∧ (priT p k sum).size ≤ 4000 := by
  obtain ⟨h1, h2, h3, h4, h5, h6, h7, h8, h9, h10, h11⟩ := PV.ranged_spec h
  have hm : ∀ t ∈ priL p k sum, t.ok ∧ (∀ d, 3 ≤ d → t.right d = true) ∧ t.size ≤ 350 := by
    intro t ht
    have num : ∀ n, n < 18446744073709551616 → (numT n).ok ∧ (∀ d, 3 ≤ d → (numT n).right d = true) ∧ (numT n).size ≤ 350 := fun n hn => by
      obtain ⟨a, b, c, _⟩ := numT_all n hn
      exact ⟨a, fun d hd => b d (by omega), by omega⟩
    have eid : ∀ e : EV, e.ok = true → (eidT e).ok ∧ (∀ d, 3 ≤ d → (eidT e).right d = true) ∧ (eidT e).size ≤ 350 := fun e he => by
      obtain ⟨a, b, _, _⟩ := eidT_ok he
      exact ⟨a, b, by have := eidT_small he; omega⟩
    unfold priL at ht
    rw [List.mem_append, List.mem_append] at ht
    rcases ht with ht | ht | ht
    · simp only [List.mem_cons, List.not_mem_nil, or_false] at ht
      rcases ht with rfl | rfl | rfl | rfl | rfl | rfl | rfl | rfl
      · exact num 7 (by decide)
      · exact num _ (by omega)
      · exact num _ (by omega)
      · exact eid _ h1
      · exact eid _ h2
      · exact eid _ h3
      · have a := numT_all p.t (by omega)
        have b := numT_all p.q (by omega)
        refine ⟨listT_ok (by simp) ?_, fun d hd => listT_right (by omega) (by simp) ?_, ?_⟩
        · intro t ht
          simp only [List.mem_cons, List.not_mem_nil, or_false] at ht
          rcases ht with rfl | rfl
          · exact a.1
          · exact b.1
        · intro t ht
          simp only [List.mem_cons, List.not_mem_nil, or_false] at ht
          rcases ht with rfl | rfl
          · exact a.2.1 _ (by omega)
          · exact b.2.1 _ (by omega)
        · have := listT_size (L := [numT p.t, numT p.q]) (B := 100) (by
            intro t ht
            simp only [List.mem_cons, List.not_mem_nil, or_false] at ht
            rcases ht with rfl | rfl
            · exact a.2.2.1
            · exact b.2.2.1)
          simp at this
          omega
      · exact num _ (by omega)
    · split at ht
      · simp only [List.mem_cons, List.not_mem_nil, or_false] at ht
        rcases ht with rfl | rfl
        · exact num _ (by omega)
        · exact num _ (by omega)
      · cases ht
    · split at ht
      · cases ht
      · simp only [List.mem_cons, List.not_mem_nil, or_false] at ht
        subst ht
        obtain ⟨a, b, c, _⟩ := strT_all hs
        exact ⟨a, fun d hd => b d (by omega), by omega⟩
  have hl : (priL p k sum).length ≤ 11 := by rw [priL_length]; unfold priN; split <;> split <;> omega
  refine ⟨listT_ok (by omega) fun t ht => (hm t ht).1, fun d hd => listT_right (by omega) (by omega) fun t ht => (hm t ht).2.1 _ (by omega), ?_⟩
  have := listT_size (L := priL p k sum) (B := 350) fun t ht => (hm t ht).2.2
  have h2 : (priL p k sum).length * 350 ≤ 11 * 350 := Nat.mul_le_mul_right _ hl
  show (listT (priL p k sum)).size ≤ 4000
  omega
/-- A number's bytes, as the first is the greatest. -/
def PV.sumK (f : Nat → List UInt8 → List UInt8) (p : PV) (k : Nat) : List UInt8 := if k = 0 then [] else f k (priB p k (List.replicate (2 * k) 0))
end Go.Proofs.Ytcajjhmldghakaa


namespace Go.Proofs.Ytcajjhmldghakaa
open Go.RowKit
set_option linter.unusedVariables false
set_option linter.unusedSimpArgs false

def zeroB : BV := ⟨0, 0, 0, 0, []⟩
abbrev PV.c (p : PV) : Array Value := #[.int .u64 (p.fl : Int), .int .i64 p.crc, .int .i64 p.d.sch, str p.d.name, .int .u64 (p.d.node : Int), .int .u64 (p.d.svc : Int), .int .i64 p.s.sch, str p.s.name, .int .u64 (p.s.node : Int), .int .u64 (p.s.svc : Int), .int .i64 p.r.sch, str p.r.name, .int .u64 (p.r.node : Int), .int .u64 (p.r.svc : Int), .int .u64 (p.t : Int), .int .u64 (p.q : Int), .int .u64 (p.l : Int), .int .u64 (p.o : Int), .int .u64 (p.n : Int)]
abbrev PV.v (p : PV) : Value := .agg p.c
abbrev bunC (p : PV) (A : Option Addr) (k c : Nat) : Array Value := #[.int .u64 (p.fl : Int), .int .i64 p.crc, .int .i64 p.d.sch, str p.d.name, .int .u64 (p.d.node : Int), .int .u64 (p.d.svc : Int), .int .i64 p.s.sch, str p.s.name, .int .u64 (p.s.node : Int), .int .u64 (p.s.svc : Int), .int .i64 p.r.sch, str p.r.name, .int .u64 (p.r.node : Int), .int .u64 (p.r.svc : Int), .int .u64 (p.t : Int), .int .u64 (p.q : Int), .int .u64 (p.l : Int), .int .u64 (p.o : Int), .int .u64 (p.n : Int), .slice A k c]
abbrev bunV (p : PV) (A : Option Addr) (k c : Nat) : Value := .agg (bunC p A k c)
/-- A block's five cells in the midst of a memory block. -/
def BAt (w : World) (b o : Nat) (x : BV) : Prop :=
  w.cell? ⟨b, o, none⟩ = some (.int .i64 x.ty) ∧ w.cell? ⟨b, o + 1, none⟩ = some (.int .i64 x.num) ∧ w.cell? ⟨b, o + 2, none⟩ = some (.int .u64 (x.fl : Int)) ∧ w.cell? ⟨b, o + 3, none⟩ = some (.int .i64 x.crc) ∧ w.cell? ⟨b, o + 4, none⟩ = some (str x.data)
/-- k blocks lie in memory. -/
def BsL (w : World) (A : Option Addr) (k : Nat) (bs : Nat → BV) : Prop := 0 < k → ∃ b o, A = some ⟨b, o, none⟩ ∧ b < w.heap.size ∧ ∀ i, i < k → BAt w b (o + i * 5) (bs i)
theorem BAt.mod {w w' : World} {S : List Nat} {b o : Nat} {x : BV} (h : BAt w b o x) (hm : Mod S w w') (hb : b < w.heap.size) (hs : b ∉ S) : BAt w' b o x := by
  obtain ⟨h0, h1, h2, h3, h4⟩ := h
  exact ⟨(hm.cell hb hs).trans h0, (hm.cell hb hs).trans h1, (hm.cell hb hs).trans h2, (hm.cell hb hs).trans h3, (hm.cell hb hs).trans h4⟩
theorem BsL.ext {w w' : World} {A : Option Addr} {k : Nat} {bs : Nat → BV} (h : BsL w A k bs) (hm : Ext w w') : BsL w' A k bs := fun hk => by
  obtain ⟨b, o, hA, hb, hc⟩ := h hk
  exact ⟨b, o, hA, Nat.lt_of_lt_of_le hb hm.size, fun i hi => (hc i hi).mod hm hb (by simp)⟩
/-- A block's cells, whatever later world. -/
theorem BsL.cells {V : World} {A : Option Addr} {k : Nat} {bs : Nat → BV} (h : BsL V A k bs) {i : Nat} (hi : i < k) : ∃ b o, A = some ⟨b, o, none⟩ ∧ b < V.heap.size ∧
    (∀ e : Later V, e.x.cell? ⟨b, o + i * 5, none⟩ = some (.int .i64 (bs i).ty)) ∧ (∀ e : Later V, e.x.cell? ⟨b, o + i * 5 + 1, none⟩ = some (.int .i64 (bs i).num)) ∧ (∀ e : Later V, e.x.cell? ⟨b, o + i * 5 + 2, none⟩ = some (.int .u64 ((bs i).fl : Int))) ∧
    (∀ e : Later V, e.x.cell? ⟨b, o + i * 5 + 3, none⟩ = some (.int .i64 (bs i).crc)) ∧ (∀ e : Later V, e.x.cell? ⟨b, o + i * 5 + 4, none⟩ = some (str (bs i).data)) := by
  obtain ⟨b, o, hA, hb, hc⟩ := h (by omega)
  obtain ⟨h0, h1, h2, h3, h4⟩ := hc i hi
  exact ⟨b, o, hA, hb, cellL h0, cellL h1, cellL h2, cellL h3, cellL h4⟩
end Go.Proofs.Ytcajjhmldghakaa


namespace Go.Proofs.Ytcajjhmldghakaa
open Go.RowKit
set_option linter.unusedVariables false
set_option linter.unusedSimpArgs false

abbrev BV.c (b : BV) : Array Value := #[.int .i64 b.ty, .int .i64 b.num, .int .u64 (b.fl : Int), .int .i64 b.crc, str b.data]
abbrev BV.v (b : BV) : Value := .agg b.c
set_option maxRecDepth 20000 in
theorem cRight_0 (ty : Int) (num : Int) (fl : Nat) (crc : Int) (data : List UInt8) (h : ty < 1) (w : World) : Calls Try.prog 23 #[BV.v ⟨ty, num, fl, crc, data⟩] w (Ret (.int .i64 1) w) := by
  have t0 : decide (ty < 1) = true := by simp; omega
  have t1 : decide (1 ≤ ty) = false := by simp; omega
  clear h
  go_enter Try.func23, Try.ntmps23
  go_wp2
  go_ret
  exact Ret.mk rfl ((Mod.refl _ _).alloc _)
set_option maxRecDepth 20000 in
theorem cRight_1 (ty : Int) (num : Int) (fl : Nat) (crc : Int) (data : List UInt8) (a1 : 1 ≤ ty) (h : 65535 < ty) (w : World) : Calls Try.prog 23 #[BV.v ⟨ty, num, fl, crc, data⟩] w (Ret (.int .i64 1) w) := by
  have t0 : decide (ty < 1) = false := by simp; omega
  have t1 : decide (1 ≤ ty) = true := by simp; omega
  have t2 : decide (65535 < ty) = true := by simp; omega
  have t3 : decide (ty ≤ 65535) = false := by simp; omega
  clear a1 h
  go_enter Try.func23, Try.ntmps23
  go_wp2
  go_ret
  exact Ret.mk rfl ((Mod.refl _ _).alloc _)
set_option maxRecDepth 20000 in
theorem cRight_2 (ty : Int) (num : Int) (fl : Nat) (crc : Int) (data : List UInt8) (a1 : 1 ≤ ty) (a2 : ty ≤ 65535) (h : num < 1) (w : World) : Calls Try.prog 23 #[BV.v ⟨ty, num, fl, crc, data⟩] w (Ret (.int .i64 1) w) := by
  have t0 : decide (ty < 1) = false := by simp; omega
  have t1 : decide (1 ≤ ty) = true := by simp; omega
  have t2 : decide (65535 < ty) = false := by simp; omega
  have t3 : decide (ty ≤ 65535) = true := by simp; omega
  have t4 : decide (num < 1) = true := by simp; omega
  have t5 : decide (1 ≤ num) = false := by simp; omega
  clear a1 a2 h
  go_enter Try.func23, Try.ntmps23
  go_wp2
  go_ret
  exact Ret.mk rfl ((Mod.refl _ _).alloc _)
set_option maxRecDepth 20000 in
theorem cRight_3 (ty : Int) (num : Int) (fl : Nat) (crc : Int) (data : List UInt8) (a1 : 1 ≤ ty) (a2 : ty ≤ 65535) (a3 : 1 ≤ num) (h : 65535 < num) (w : World) : Calls Try.prog 23 #[BV.v ⟨ty, num, fl, crc, data⟩] w (Ret (.int .i64 1) w) := by
  have t0 : decide (ty < 1) = false := by simp; omega
  have t1 : decide (1 ≤ ty) = true := by simp; omega
  have t2 : decide (65535 < ty) = false := by simp; omega
  have t3 : decide (ty ≤ 65535) = true := by simp; omega
  have t4 : decide (num < 1) = false := by simp; omega
  have t5 : decide (1 ≤ num) = true := by simp; omega
  have t6 : decide (65535 < num) = true := by simp; omega
  have t7 : decide (num ≤ 65535) = false := by simp; omega
  clear a1 a2 a3 h
  go_enter Try.func23, Try.ntmps23
  go_wp2
  go_ret
  exact Ret.mk rfl ((Mod.refl _ _).alloc _)
set_option maxRecDepth 20000 in
theorem cRight_4 (ty : Int) (num : Int) (fl : Nat) (crc : Int) (data : List UInt8) (a1 : 1 ≤ ty) (a2 : ty ≤ 65535) (a3 : 1 ≤ num) (a4 : num ≤ 65535) (h : 255 < fl) (w : World) : Calls Try.prog 23 #[BV.v ⟨ty, num, fl, crc, data⟩] w (Ret (.int .i64 1) w) := by
  have t0 : decide (ty < 1) = false := by simp; omega
  have t1 : decide (1 ≤ ty) = true := by simp; omega
  have t2 : decide (65535 < ty) = false := by simp; omega
  have t3 : decide (ty ≤ 65535) = true := by simp; omega
  have t4 : decide (num < 1) = false := by simp; omega
  have t5 : decide (1 ≤ num) = true := by simp; omega
  have t6 : decide (65535 < num) = false := by simp; omega
  have t7 : decide (num ≤ 65535) = true := by simp; omega
  have t8 : decide (255 < (fl : Int)) = true := by simp; omega
  have t9 : decide ((fl : Int) ≤ 255) = false := by simp; omega
  clear a1 a2 a3 a4 h
  go_enter Try.func23, Try.ntmps23
  go_wp2
  go_ret
  exact Ret.mk rfl ((Mod.refl _ _).alloc _)
set_option maxRecDepth 20000 in
theorem cRight_5 (ty : Int) (num : Int) (fl : Nat) (crc : Int) (data : List UInt8) (a1 : 1 ≤ ty) (a2 : ty ≤ 65535) (a3 : 1 ≤ num) (a4 : num ≤ 65535) (a5 : fl ≤ 255) (h : crc < 0) (w : World) : Calls Try.prog 23 #[BV.v ⟨ty, num, fl, crc, data⟩] w (Ret (.int .i64 1) w) := by
  have t0 : decide (ty < 1) = false := by simp; omega
  have t1 : decide (1 ≤ ty) = true := by simp; omega
  have t2 : decide (65535 < ty) = false := by simp; omega
  have t3 : decide (ty ≤ 65535) = true := by simp; omega
  have t4 : decide (num < 1) = false := by simp; omega
  have t5 : decide (1 ≤ num) = true := by simp; omega
  have t6 : decide (65535 < num) = false := by simp; omega
  have t7 : decide (num ≤ 65535) = true := by simp; omega
  have t8 : decide (255 < (fl : Int)) = false := by simp; omega
  have t9 : decide ((fl : Int) ≤ 255) = true := by simp; omega
  have t10 : decide (crc < 0) = true := by simp; omega
  have t11 : decide (0 ≤ crc) = false := by simp; omega
  clear a1 a2 a3 a4 a5 h
  go_enter Try.func23, Try.ntmps23
  go_wp2
  go_ret
  exact Ret.mk rfl ((Mod.refl _ _).alloc _)
set_option maxRecDepth 20000 in
theorem cRight_6 (ty : Int) (num : Int) (fl : Nat) (crc : Int) (data : List UInt8) (a1 : 1 ≤ ty) (a2 : ty ≤ 65535) (a3 : 1 ≤ num) (a4 : num ≤ 65535) (a5 : fl ≤ 255) (a6 : 0 ≤ crc) (h : 2 < crc) (w : World) : Calls Try.prog 23 #[BV.v ⟨ty, num, fl, crc, data⟩] w (Ret (.int .i64 1) w) := by
  have t0 : decide (ty < 1) = false := by simp; omega
  have t1 : decide (1 ≤ ty) = true := by simp; omega
  have t2 : decide (65535 < ty) = false := by simp; omega
  have t3 : decide (ty ≤ 65535) = true := by simp; omega
  have t4 : decide (num < 1) = false := by simp; omega
  have t5 : decide (1 ≤ num) = true := by simp; omega
  have t6 : decide (65535 < num) = false := by simp; omega
  have t7 : decide (num ≤ 65535) = true := by simp; omega
  have t8 : decide (255 < (fl : Int)) = false := by simp; omega
  have t9 : decide ((fl : Int) ≤ 255) = true := by simp; omega
  have t10 : decide (crc < 0) = false := by simp; omega
  have t11 : decide (0 ≤ crc) = true := by simp; omega
  have t12 : decide (2 < crc) = true := by simp; omega
  have t13 : decide (crc ≤ 2) = false := by simp; omega
  clear a1 a2 a3 a4 a5 a6 h
  go_enter Try.func23, Try.ntmps23
  go_wp2
  go_ret
  exact Ret.mk rfl ((Mod.refl _ _).alloc _)
set_option maxRecDepth 20000 in
theorem cRight_7 (ty : Int) (num : Int) (fl : Nat) (crc : Int) (data : List UInt8) (a1 : 1 ≤ ty) (a2 : ty ≤ 65535) (a3 : 1 ≤ num) (a4 : num ≤ 65535) (a5 : fl ≤ 255) (a6 : 0 ≤ crc) (a7 : crc ≤ 2) (h : 4000 < data.length) (w : World) : Calls Try.prog 23 #[BV.v ⟨ty, num, fl, crc, data⟩] w (Ret (.int .i64 4) w) := by
  have t0 : decide (ty < 1) = false := by simp; omega
  have t1 : decide (1 ≤ ty) = true := by simp; omega
  have t2 : decide (65535 < ty) = false := by simp; omega
  have t3 : decide (ty ≤ 65535) = true := by simp; omega
  have t4 : decide (num < 1) = false := by simp; omega
  have t5 : decide (1 ≤ num) = true := by simp; omega
  have t6 : decide (65535 < num) = false := by simp; omega
  have t7 : decide (num ≤ 65535) = true := by simp; omega
  have t8 : decide (255 < (fl : Int)) = false := by simp; omega
  have t9 : decide ((fl : Int) ≤ 255) = true := by simp; omega
  have t10 : decide (crc < 0) = false := by simp; omega
  have t11 : decide (0 ≤ crc) = true := by simp; omega
  have t12 : decide (2 < crc) = false := by simp; omega
  have t13 : decide (crc ≤ 2) = true := by simp; omega
  have t14 : decide (4000 < (data.length : Int)) = true := by simp; omega
  have t15 : decide ((data.length : Int) ≤ 4000) = false := by simp; omega
  clear a1 a2 a3 a4 a5 a6 a7 h
  go_enter Try.func23, Try.ntmps23
  go_wp2
  go_ret
  exact Ret.mk rfl ((Mod.refl _ _).alloc _)
set_option maxRecDepth 20000 in
theorem cRight_8 (num : Int) (fl : Nat) (crc : Int) (data : List UInt8) (a3 : 1 ≤ num) (a4 : num ≤ 65535) (a5 : fl ≤ 255) (a6 : 0 ≤ crc) (a7 : crc ≤ 2) (a8 : data.length ≤ 4000) (b2 : num ≠ 1) (w : World) : Calls Try.prog 23 #[BV.v ⟨1, num, fl, crc, data⟩] w (Ret (.int .i64 8) w) := by
  have t0 : decide (num < 1) = false := by simp; omega
  have t1 : decide (1 ≤ num) = true := by simp; omega
  have t2 : decide (65535 < num) = false := by simp; omega
  have t3 : decide (num ≤ 65535) = true := by simp; omega
  have t4 : decide (255 < (fl : Int)) = false := by simp; omega
  have t5 : decide ((fl : Int) ≤ 255) = true := by simp; omega
  have t6 : decide (crc < 0) = false := by simp; omega
  have t7 : decide (0 ≤ crc) = true := by simp; omega
  have t8 : decide (2 < crc) = false := by simp; omega
  have t9 : decide (crc ≤ 2) = true := by simp; omega
  have t10 : decide (4000 < (data.length : Int)) = false := by simp; omega
  have t11 : decide ((data.length : Int) ≤ 4000) = true := by simp; omega
  have e3 : (num = 1) = False := by simp [b2]
  have e4 : (num == 1) = false := by simp [b2]
  clear a3 a4 a5 a6 a7 a8 b2
  go_enter Try.func23, Try.ntmps23
  go_wp2
  go_ret
  exact Ret.mk rfl ((Mod.refl _ _).alloc _)
set_option maxRecDepth 20000 in
theorem cRight_9 (ty : Int) (fl : Nat) (crc : Int) (data : List UInt8) (a1 : 1 ≤ ty) (a2 : ty ≤ 65535) (a5 : fl ≤ 255) (a6 : 0 ≤ crc) (a7 : crc ≤ 2) (a8 : data.length ≤ 4000) (b1 : ty ≠ 1) (w : World) : Calls Try.prog 23 #[BV.v ⟨ty, 1, fl, crc, data⟩] w (Ret (.int .i64 8) w) := by
  have t0 : decide (ty < 1) = false := by simp; omega
  have t1 : decide (1 ≤ ty) = true := by simp; omega
  have t2 : decide (65535 < ty) = false := by simp; omega
  have t3 : decide (ty ≤ 65535) = true := by simp; omega
  have t4 : decide (255 < (fl : Int)) = false := by simp; omega
  have t5 : decide ((fl : Int) ≤ 255) = true := by simp; omega
  have t6 : decide (crc < 0) = false := by simp; omega
  have t7 : decide (0 ≤ crc) = true := by simp; omega
  have t8 : decide (2 < crc) = false := by simp; omega
  have t9 : decide (crc ≤ 2) = true := by simp; omega
  have t10 : decide (4000 < (data.length : Int)) = false := by simp; omega
  have t11 : decide ((data.length : Int) ≤ 4000) = true := by simp; omega
  have e1 : (ty = 1) = False := by simp [b1]
  have e2 : (ty == 1) = false := by simp [b1]
  clear a1 a2 a5 a6 a7 a8 b1
  go_enter Try.func23, Try.ntmps23
  go_wp2
  go_ret
  exact Ret.mk rfl ((Mod.refl _ _).alloc _)
set_option maxRecDepth 20000 in
theorem cRight_10  (fl : Nat) (crc : Int) (data : List UInt8) (a5 : fl ≤ 255) (a6 : 0 ≤ crc) (a7 : crc ≤ 2) (a8 : data.length ≤ 4000) (w : World) : Calls Try.prog 23 #[BV.v ⟨1, 1, fl, crc, data⟩] w (Ret (.int .i64 0) w) := by
  have t0 : decide (255 < (fl : Int)) = false := by simp; omega
  have t1 : decide ((fl : Int) ≤ 255) = true := by simp; omega
  have t2 : decide (crc < 0) = false := by simp; omega
  have t3 : decide (0 ≤ crc) = true := by simp; omega
  have t4 : decide (2 < crc) = false := by simp; omega
  have t5 : decide (crc ≤ 2) = true := by simp; omega
  have t6 : decide (4000 < (data.length : Int)) = false := by simp; omega
  have t7 : decide ((data.length : Int) ≤ 4000) = true := by simp; omega
  clear a5 a6 a7 a8
  go_enter Try.func23, Try.ntmps23
  go_wp2
  go_ret
  exact Ret.mk rfl ((Mod.refl _ _).alloc _)
set_option maxRecDepth 20000 in
theorem cRight_11 (ty : Int) (num : Int) (fl : Nat) (crc : Int) (data : List UInt8) (a1 : 1 ≤ ty) (a2 : ty ≤ 65535) (a3 : 1 ≤ num) (a4 : num ≤ 65535) (a5 : fl ≤ 255) (a6 : 0 ≤ crc) (a7 : crc ≤ 2) (a8 : data.length ≤ 4000) (b1 : ty ≠ 1) (b2 : num ≠ 1) (w : World) : Calls Try.prog 23 #[BV.v ⟨ty, num, fl, crc, data⟩] w (Ret (.int .i64 0) w) := by
  have t0 : decide (ty < 1) = false := by simp; omega
  have t1 : decide (1 ≤ ty) = true := by simp; omega
  have t2 : decide (65535 < ty) = false := by simp; omega
  have t3 : decide (ty ≤ 65535) = true := by simp; omega
  have t4 : decide (num < 1) = false := by simp; omega
  have t5 : decide (1 ≤ num) = true := by simp; omega
  have t6 : decide (65535 < num) = false := by simp; omega
  have t7 : decide (num ≤ 65535) = true := by simp; omega
  have t8 : decide (255 < (fl : Int)) = false := by simp; omega
  have t9 : decide ((fl : Int) ≤ 255) = true := by simp; omega
  have t10 : decide (crc < 0) = false := by simp; omega
  have t11 : decide (0 ≤ crc) = true := by simp; omega
  have t12 : decide (2 < crc) = false := by simp; omega
  have t13 : decide (crc ≤ 2) = true := by simp; omega
  have t14 : decide (4000 < (data.length : Int)) = false := by simp; omega
  have t15 : decide ((data.length : Int) ≤ 4000) = true := by simp; omega
  have e1 : (ty = 1) = False := by simp [b1]
  have e2 : (ty == 1) = false := by simp [b1]
  have e3 : (num = 1) = False := by simp [b2]
  have e4 : (num == 1) = false := by simp [b2]
  clear a1 a2 a3 a4 a5 a6 a7 a8 b1 b2
  go_enter Try.func23, Try.ntmps23
  go_wp2
  go_ret
  exact Ret.mk rfl ((Mod.refl _ _).alloc _)
theorem cbRight_any (b : BV) (w : World) : Calls Try.prog 23 #[b.v] w (Ret (.int .i64 b.right) w) := by
  obtain ⟨ty, num, fl, crc, data⟩ := b
  have go : ∀ (k : Int), Calls Try.prog 23 #[BV.v ⟨ty, num, fl, crc, data⟩] w (Ret (.int .i64 k) w) → BV.right ⟨ty, num, fl, crc, data⟩ = k → Calls Try.prog 23 #[BV.v ⟨ty, num, fl, crc, data⟩] w (Ret (.int .i64 (BV.right ⟨ty, num, fl, crc, data⟩)) w) := fun k h e => by rw [e]; exact h
  by_cases h0 : ty < 1
  · exact go _ (cRight_0 ty num fl crc data (by omega) w) (by unfold BV.right; simp only []; rw [if_pos (by omega)])
  by_cases h1 : 65535 < ty
  · exact go _ (cRight_1 ty num fl crc data (by omega) (by omega) w) (by unfold BV.right; simp only []; rw [if_pos (by omega)])
  by_cases h2 : num < 1
  · exact go _ (cRight_2 ty num fl crc data (by omega) (by omega) (by omega) w) (by unfold BV.right; simp only []; rw [if_pos (by omega)])
  by_cases h3 : 65535 < num
  · exact go _ (cRight_3 ty num fl crc data (by omega) (by omega) (by omega) (by omega) w) (by unfold BV.right; simp only []; rw [if_pos (by omega)])
  by_cases h4 : 255 < fl
  · exact go _ (cRight_4 ty num fl crc data (by omega) (by omega) (by omega) (by omega) (by omega) w) (by unfold BV.right; simp only []; rw [if_pos (by omega)])
  by_cases h5 : crc < 0
  · exact go _ (cRight_5 ty num fl crc data (by omega) (by omega) (by omega) (by omega) (by omega) (by omega) w) (by unfold BV.right; simp only []; rw [if_pos (by omega)])
  by_cases h6 : 2 < crc
  · exact go _ (cRight_6 ty num fl crc data (by omega) (by omega) (by omega) (by omega) (by omega) (by omega) (by omega) w) (by unfold BV.right; simp only []; rw [if_pos (by omega)])
  by_cases h7 : 4000 < data.length
  · exact go _ (cRight_7 ty num fl crc data (by omega) (by omega) (by omega) (by omega) (by omega) (by omega) (by omega) (by omega) w) (by unfold BV.right; simp only []; rw [if_neg (by omega), if_pos (by omega)])
  by_cases k1 : ty = 1
  · subst k1
    by_cases k2 : num = 1
    · subst k2
      exact go _ (cRight_10 fl crc data (by omega) (by omega) (by omega) (by omega) w) (by unfold BV.right; simp only []; rw [if_neg (by omega), if_neg (by omega), if_neg (by omega)])
    · exact go _ (cRight_8 num fl crc data (by omega) (by omega) (by omega) (by omega) (by omega) (by omega) k2 w) (by unfold BV.right; simp only []; rw [if_neg (by omega), if_neg (by omega), if_pos (by simp [k2])])
  · by_cases k2 : num = 1
    · subst k2
      exact go _ (cRight_9 ty fl crc data (by omega) (by omega) (by omega) (by omega) (by omega) (by omega) k1 w) (by unfold BV.right; simp only []; rw [if_neg (by omega), if_neg (by omega), if_pos (by simp [k1])])
    · exact go _ (cRight_11 ty num fl crc data (by omega) (by omega) (by omega) (by omega) (by omega) (by omega) (by omega) (by omega) k1 k2 w) (by unfold BV.right; simp only []; rw [if_neg (by omega), if_neg (by omega), if_neg (by omega)])
end Go.Proofs.Ytcajjhmldghakaa


namespace Go.Proofs.Ytcajjhmldghakaa
open Go.RowKit
set_option linter.unusedVariables false
set_option linter.unusedSimpArgs false

theorem bv_nat {b : BV} (h : b.right = 0) : ∃ ty num : Nat, b = ⟨ty, num, b.fl, b.crc, b.data⟩ := by
  obtain ⟨ty, num, fl, crc, data⟩ := b
  have h := BV.right_zero h
  simp only [] at h
  obtain ⟨ty, rfl⟩ := Int.eq_ofNat_of_zero_le (show 0 ≤ ty by omega)
  obtain ⟨num, rfl⟩ := Int.eq_ofNat_of_zero_le (show 0 ≤ num by omega)
  exact ⟨ty, num, rfl⟩
end Go.Proofs.Ytcajjhmldghakaa


namespace Go.Proofs.Ytcajjhmldghakaa
open Go.RowKit
set_option linter.unusedVariables false
set_option linter.unusedSimpArgs false

/-- Its item: five parts, or six. -/
def blkT (ty num fl crc : Nat) (data sum : List UInt8) : T := T.mk 4 0 [] false (if crc = 0 then 5 else 6) fun i => if i = 0 then numT ty else if i = 1 then numT num else if i = 2 then numT fl else if i = 3 then numT crc else if i = 4 then strT data else if i = 5 then strT sum else T.nil

/-- The cells of its first five parts. -/
abbrev blk5 (ty num fl crc : Nat) (data : List UInt8) : Array Value := #[.int .i64 0, .int .u64 (ty : Int), str [], .slice none 0 0, .bool false, .int .i64 0, .int .u64 (num : Int), str [], .slice none 0 0, .bool false, .int .i64 0, .int .u64 (fl : Int), str [], .slice none 0 0, .bool false, .int .i64 0, .int .u64 (crc : Int), str [], .slice none 0 0, .bool false, .int .i64 2, .int .u64 0, str data, .slice none 0 0, .bool false]

theorem blk5_IsL {W : World} {Q : Nat → Prop} {g : Nat} {ty num fl : Nat} {data sum : List UInt8} (q : Q g) (h : Blk W g 60 (blk5 ty num fl 0 data)) : IsL W Q (blkT ty num fl 0 data sum) (some ⟨g, 0, none⟩) := fun _ => ⟨g, 0, rfl, h.lt, q, fun j hj => by
  have hj2 : j = 0 ∨ j = 1 ∨ j = 2 ∨ j = 3 ∨ j = 4 := by simp at hj; omega
  rcases hj2 with rfl | rfl | rfl | rfl | rfl
  · exact ⟨none, 0, ⟨h.cell 0, h.cell 1, h.cell 2, h.cell 3, h.cell 4⟩, fun h => absurd h (by decide)⟩
  · exact ⟨none, 0, ⟨h.cell 5, h.cell 6, h.cell 7, h.cell 8, h.cell 9⟩, fun h => absurd h (by decide)⟩
  · exact ⟨none, 0, ⟨h.cell 10, h.cell 11, h.cell 12, h.cell 13, h.cell 14⟩, fun h => absurd h (by decide)⟩
  · exact ⟨none, 0, ⟨h.cell 15, h.cell 16, h.cell 17, h.cell 18, h.cell 19⟩, fun h => absurd h (by decide)⟩
  · exact ⟨none, 0, ⟨h.cell 20, h.cell 21, h.cell 22, h.cell 23, h.cell 24⟩, fun h => absurd h (by decide)⟩⟩
theorem blk6_IsL {W : World} {Q : Nat → Prop} {base g c : Nat} {ty num fl crc : Nat} {data sum : List UInt8} (hc : ¬ crc = 0) (q : Q g) (hlt : g < W.heap.size) (h : W.ownsRow base 60 5 (.slice (some ⟨g, 0, none⟩) (5 + 1) c) (5 + 1) ((blk5 ty num fl crc data).toList ++ [Value.int .i64 (strT sum).kind, .int .u64 ((strT sum).n : Int), str (strT sum).s, .slice none (strT sum).k 0, .bool (strT sum).op])) : IsL W Q (blkT ty num fl crc data sum) (some ⟨g, 0, none⟩) := by
  unfold blkT
  rw [if_neg hc]
  refine fun _ => ⟨g, 0, rfl, hlt, q, fun j hj => ?_⟩
  have hj2 : j = 0 ∨ j = 1 ∨ j = 2 ∨ j = 3 ∨ j = 4 ∨ j = 5 := by omega
  rcases hj2 with rfl | rfl | rfl | rfl | rfl | rfl
  · exact ⟨none, 0, ⟨own_cells (j := 0) h rfl, own_cells (j := 1) h rfl, own_cells (j := 2) h rfl, own_cells (j := 3) h rfl, own_cells (j := 4) h rfl⟩, fun h => absurd h (by decide)⟩
  · exact ⟨none, 0, ⟨own_cells (j := 5) h rfl, own_cells (j := 6) h rfl, own_cells (j := 7) h rfl, own_cells (j := 8) h rfl, own_cells (j := 9) h rfl⟩, fun h => absurd h (by decide)⟩
  · exact ⟨none, 0, ⟨own_cells (j := 10) h rfl, own_cells (j := 11) h rfl, own_cells (j := 12) h rfl, own_cells (j := 13) h rfl, own_cells (j := 14) h rfl⟩, fun h => absurd h (by decide)⟩
  · exact ⟨none, 0, ⟨own_cells (j := 15) h rfl, own_cells (j := 16) h rfl, own_cells (j := 17) h rfl, own_cells (j := 18) h rfl, own_cells (j := 19) h rfl⟩, fun h => absurd h (by decide)⟩
  · exact ⟨none, 0, ⟨own_cells (j := 20) h rfl, own_cells (j := 21) h rfl, own_cells (j := 22) h rfl, own_cells (j := 23) h rfl, own_cells (j := 24) h rfl⟩, fun h => absurd h (by decide)⟩
  · exact ⟨none, 0, ⟨own_cells (j := 25) h rfl, own_cells (j := 26) h rfl, own_cells (j := 27) h rfl, own_cells (j := 28) h rfl, own_cells (j := 29) h rfl⟩, fun h => absurd h (by decide)⟩
set_option maxRecDepth 20000 in
set_option maxHeartbeats 800000 in
theorem with_any (ty num fl crc : Nat) (data sum : List UInt8) (h1 : ty ≤ 65535) (h2 : num ≤ 65535) (h3 : crc ≤ 2) (w : World) : Calls Try.prog 45 #[BV.v ⟨ty, num, fl, crc, data⟩, str sum] w (fun e w' => ∃ A c, e = .returned (itemV (blkT ty num fl crc data sum) A c) ∧ Ext w w' ∧ IsL w' (fun b => w.heap.size ≤ b) (blkT ty num fl crc data sum) A) := by
  have HB := hid ((Blk.new w 33 (BV.c ⟨ty, num, fl, crc, data⟩)).alloc (.cells #[.int .i64 0, .int .u64 0, .string ⟨#[]⟩, .slice none 0 0, .bool false] 60))
  have HR : Hid (Blk ((w.alloc (.cells (BV.c ⟨ty, num, fl, crc, data⟩) 33)).alloc (.cells #[.int .i64 0, .int .u64 0, .string ⟨#[]⟩, .slice none 0 0, .bool false] 60)) (w.heap.size + 1) 60 #[.int .i64 0, .int .u64 0, .string ⟨#[]⟩, .slice none 0 0, .bool false]) := by
    have := Blk.new (w.alloc (.cells (BV.c ⟨ty, num, fl, crc, data⟩) 33)) 60 #[.int .i64 0, .int .u64 0, .string ⟨#[]⟩, .slice none 0 0, .bool false]
    unfold Hid
    simpa using this
  have HE := hid (((Mod.refl [] w).alloc (.cells (BV.c ⟨ty, num, fl, crc, data⟩) 33)).alloc (.cells #[.int .i64 0, .int .u64 0, .string ⟨#[]⟩, .slice none 0 0, .bool false] 60))
  have t1 : IntKind.u64.wrap (ty : Int) = (ty : Int) := IntWalk.u64_in _ (by omega)
  have t2 : IntKind.u64.wrap (num : Int) = (num : Int) := IntWalk.u64_in _ (by omega)
  have t3 : IntKind.u64.wrap (crc : Int) = (crc : Int) := IntWalk.u64_in _ (by omega)
  go_enter Try.func45, Try.ntmps45
  go_upto_region 1 with fail
  generalize ((w.alloc (.cells (BV.c ⟨ty, num, fl, crc, data⟩) 33)).alloc (.cells #[.int .i64 0, .int .u64 0, .string ⟨#[]⟩, .slice none 0 0, .bool false] 60)) = V at *
  have HS : Hid (∀ w', Ext V w' → w'.cell? ⟨w.heap.size, 0, none⟩ = some (.int .i64 (ty : Int)) ∧ w'.cell? ⟨w.heap.size, 1, none⟩ = some (.int .i64 (num : Int)) ∧ w'.cell? ⟨w.heap.size, 2, none⟩ = some (.int .u64 (fl : Int)) ∧ w'.cell? ⟨w.heap.size, 3, none⟩ = some (.int .i64 (crc : Int)) ∧ w'.cell? ⟨w.heap.size, 4, none⟩ = some (str data)) := fun W hW => by
    have b1 := HB.out.ext hW
    exact ⟨b1.cell 0, b1.cell 1, b1.cell 2, b1.cell 3, b1.cell 4⟩
  obtain ⟨p0, p1, p2, p3, p4⟩ := HS.out V (Mod.refl _ _)
  go_cut [5] (fun s3 wx => ∃ g3, s3 = .slice (some ⟨g3, 0, none⟩) 5 5 ∧ Hid (Ext V wx ∧ Blk wx g3 60 (blk5 ty num fl crc data) ∧ w.heap.size + 2 ≤ g3))
  case first =>
    go_region_held3 (fun w' => w'.cell? ⟨w.heap.size, 0, none⟩ = some (.int .i64 (ty : Int)) ∧ w'.cell? ⟨w.heap.size, 1, none⟩ = some (.int .i64 (num : Int)) ∧ w'.cell? ⟨w.heap.size, 2, none⟩ = some (.int .u64 (fl : Int)) ∧ w'.cell? ⟨w.heap.size, 3, none⟩ = some (.int .i64 (crc : Int)) ∧ w'.cell? ⟨w.heap.size, 4, none⟩ = some (str data)) (go_keep)
        (first
          | (go_at_call 52; (try rw [t1]); (try rw [t2]); (try rw [t3]); refine (NumI_any _ _).mono ?_; rintro x w3 ⟨rfl, hb3⟩; have hx : Ext V w3 := (by (with_reducible refine Mod.trans ?_ hb3); (repeat (first | with_reducible assumption | with_reducible exact Mod.refl _ _ | with_reducible refine Mod.drew ?_ | with_reducible refine Mod.alloc ?_ _))); have z := HS.out w3 hx)
          | (go_at_call 48; refine (StrV_any _ _).mono ?_; rintro x w3 ⟨rfl, hb3⟩; have hx : Ext V w3 := (by (with_reducible refine Mod.trans ?_ hb3); (repeat (first | with_reducible assumption | with_reducible exact Mod.refl _ _ | with_reducible refine Mod.drew ?_ | with_reducible refine Mod.alloc ?_ _))); have z := HS.out w3 hx))
    all_goals go_wp2_with fail
    all_goals go_meet
    all_goals exact ⟨_, rfl, Mod.alloc hx _, Blk.new _ _ _, Nat.le_trans (Nat.succ_le_of_lt HR.out.lt) (Mod.size (S := []) (w := V) (by assumption))⟩
  obtain ⟨g3, rfl, hG⟩ := hcut
  have HE1 := hid (HE.out.trans hG.out.1)
  have HB1 := hid (HB.out.ext hG.out.1)
  have HR1 := hid (HR.out.ext hG.out.1)
  have q3 : wc.cell? ⟨w.heap.size, 3, none⟩ = some (.int .i64 (crc : Int)) := HB1.out.cell 3
  clear p0 p1 p2 p3 p4 HS t1 t2 t3 HE HB HR
  by_cases hc : crc = 0
  · subst hc
    go_wp2_with fail
    refine (ListV_any 5 _ 5 _).mono ?_
    rintro e w8 ⟨rfl, hb8⟩
    have HE8 := hid (HE1.out.trans hb8)
    have HR8 : Hid (Blk w8 (w.heap.size + 1) 60 (itemC (T.mk 0 0 [] false 0 fun _ => T.nil) none 0)) := hid (HR1.out.ext hb8)
    have HG8 := hid (hG.out.2.1.ext hb8)
    obtain ⟨c0, c1, c2, c3, c4⟩ := cells5 HR8.out
    have f0 := Blk.frozen HR8.out 0
    have f1 := Blk.frozen HR8.out 1
    have f2 := Blk.frozen HR8.out 2
    have f3 := Blk.frozen HR8.out 3
    have f4 := Blk.frozen HR8.out 4
    clear hb8 q3
    go_wp2_with fail
    obtain ⟨d0, d1, d2, d3, d4⟩ := cells5 (set5_blk (t := blkT ty num fl 0 data sum) (A := some ⟨g3, 0, none⟩) (c := 5) HR8.out)
    clear c0 c1 c2 c3 c4 f0 f1 f2 f3 f4
    show bodyPost _ _ _ _ _ (set5 w8 (w.heap.size + 1) (blkT ty num fl 0 data sum) (some ⟨g3, 0, none⟩) 5)
    refine bodyPost_ret (v := itemV (blkT ty num fl 0 data sum) (some ⟨g3, 0, none⟩) 5) (by simp [results, Try.results45, go_sem, d0, d1, d2, d3, d4]) rfl ?_
    refine ⟨_, 5, rfl, set5_mod HE8.out (by omega), IsL.weak (fun _ _ h => by have : w.heap.size + 2 ≤ _ := h; omega) _ (IsL.mod (Q := fun b => w.heap.size + 2 ≤ b) set5_modb (fun k hq hk hm => by rw [List.mem_singleton] at hm; have : w.heap.size + 2 ≤ k := hq; omega) _ (blk5_IsL hG.out.2.2 HG8.out))⟩
  · have hc2 : ((crc : Int) = 0) = False := by simp [hc]
    have hc3 : ((crc : Int) == 0) = false := by simp [hc]
    obtain ⟨i0, hi, hz0, hz1, hz2⟩ := info_parts infoItem
    go_wp2_with fail
    refine (StrV_any sum _).mono ?_
    rintro e w8 ⟨rfl, hb8⟩
    have HE8 := hid (HE1.out.trans hb8)
    have HR8 := hid (HR1.out.ext hb8)
    have hown8 := own_of_blk (base := w.heap.size + 2) (n := 5) (size := 5) (hG.out.2.1.ext hb8) hG.out.2.2 (by decide) rfl
    clear hb8 q3
    go_wp2_with (at_builtin; refine wpList_append_own _ rfl _ _ 58 rfl (w.heap.size + 2) 60 i0 _ 5 64 Try.underlying58 hi hz0 hz1 hz2 rfl (by decide) _ _ _ rfl (hown8.alloc _) ⟨w8.heap.size, 0, none⟩ 1 1 [Value.int .i64 (strT sum).kind, .int .u64 ((strT sum).n : Int), str (strT sum).s, .slice none (strT sum).k 0, .bool (strT sum).op] rfl rfl (news5 w8 (strT sum) none 0) (one5 (strT sum) none 0) (by decide) (by decide) (by have := HR8.out.lt; simp; omega) ?_; intro v' w9 hown' hgrow _)
    obtain ⟨g4, k4, rfl, hg4, hlt4⟩ := own_form hown'
    have HE9 := hid ((HE8.out.alloc _).grown hgrow (fun k hk => by obtain rfl : g3 = k := Option.some.inj hk; right; have := hG.out.2.2; omega))
    have HR9 := hid ((HR8.out.alloc _).mod (Mod.grown (S := [g3]) (Mod.refl _ _) hgrow (fun k hk => by obtain rfl : g3 = k := Option.some.inj hk; left; simp)) (by have := hG.out.2.2; simp; omega))
    have HL9 := hid (blk6_IsL (sum := sum) (Q := fun b => w.heap.size + 2 ≤ b) hc (show w.heap.size + 2 ≤ g4 by omega) hlt4 hown')
    clear hown8 hown' hgrow hlt4 hz0 hz1 hz2 hi
    go_wp2_with fail
    refine (ListV_any 6 _ k4 _).mono ?_
    rintro e wA ⟨rfl, hbA⟩
    have HEA := hid (HE9.out.trans hbA)
    have HRA : Hid (Blk wA (w.heap.size + 1) 60 (itemC (T.mk 0 0 [] false 0 fun _ => T.nil) none 0)) := hid (HR9.out.ext hbA)
    have HLA := hid (HL9.out.ext hbA)
    obtain ⟨c0, c1, c2, c3, c4⟩ := cells5 HRA.out
    have f0 := Blk.frozen HRA.out 0
    have f1 := Blk.frozen HRA.out 1
    have f2 := Blk.frozen HRA.out 2
    have f3 := Blk.frozen HRA.out 3
    have f4 := Blk.frozen HRA.out 4
    clear hbA
    go_wp2_with fail
    obtain ⟨d0, d1, d2, d3, d4⟩ := cells5 (set5_blk (t := T.mk 4 0 [] false 6 fun _ => T.nil) (A := some ⟨g4, 0, none⟩) (c := k4) HRA.out)
    clear c0 c1 c2 c3 c4 f0 f1 f2 f3 f4
    show bodyPost _ _ _ _ _ (set5 wA (w.heap.size + 1) (T.mk 4 0 [] false 6 fun _ => T.nil) (some ⟨g4, 0, none⟩) k4)
    refine bodyPost_ret (v := itemV (T.mk 4 0 [] false 6 fun _ => T.nil) (some ⟨g4, 0, none⟩) k4) (by simp [results, Try.results45, go_sem, d0, d1, d2, d3, d4]) rfl ?_
    refine ⟨some ⟨g4, 0, none⟩, k4, ?_, set5_mod HEA.out (by omega), IsL.weak (fun _ _ h => by have : w.heap.size + 2 ≤ _ := h; omega) _ (IsL.mod (Q := fun b => w.heap.size + 2 ≤ b) set5_modb (fun k hq hk hm => by rw [List.mem_singleton] at hm; have : w.heap.size + 2 ≤ k := hq; omega) _ HLA.out)⟩
    simp only [blkT, if_neg hc]
    rfl
end Go.Proofs.Ytcajjhmldghakaa
