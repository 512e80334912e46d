/-
  Security texts: rows of numbers and of pairs in memory; numbers that are coded, and unlike.
  A row of items of the call's own: its form, in a later world; what is appended to it.
  Security texts: numbers that are unlike; pairs that may be.
  Bundles in memory.
  Why a block is not right, as the code and the reference tell it.
  Bundles: the first block of a type, as the code finds it.
  Rows of blocks of the call's own: their cells; what is appended to them.
  Security texts: lists of pairs that may be.
  Security texts that are right but for their length.
  Security texts: shaped.
  A row of items of the call's own that grows; what hangs on its items lies elsewhere.
  A block's cells, stored anew one by one.
  A struct in the midst of a block, loaded in a region whose operations are held.
  Security texts: pairs' item.
  Primaries: flags; why one is not right, as the reference tells it.
  Primaries: why one is not right, as the code tells it.
  Items in memory, with room for as many as they are.
  Primaries: their items, made.
  Security texts: their items.
  Two strings become one, in a plain region.
  Security texts: their bytes; what a program that does nothing does not answer.
-/
import Derived.Test.YtblfmokklfhklaaGreatDoorMAsbParsesCardb
import Derived.Laws.OwnMore
import Derived.OwnWalk
import Derived.OneCell
import Derived.Deep.AppendLies
import Derived.Deep.RegionLaw
import Derived.Shelf.Abstract
import Derived.Laws.BitsAllLaws

namespace Go.Proofs.YtblfmokklfhklaaGreatDoor
open Go.RowKit
set_option linter.unusedVariables false
set_option linter.unusedSimpArgs false

/-- A row of numbers in memory. -/
def NsL (w : World) (A : Option Addr) (k : Nat) (f : Nat → Int) : Prop := 0 < k → ∃ b o, A = some ⟨b, o, none⟩ ∧ b < w.heap.size ∧ ∀ i, i < k → w.cell? ⟨b, o + i, none⟩ = some (.int .i64 (f i))
/-- A pair's six cells; a row of pairs. -/
def At6 (w : World) (b o : Nat) (p : PR) (A : Option Addr) (c : Nat) : Prop := w.cell? ⟨b, o, none⟩ = some (.int .i64 p.id) ∧ w.cell? ⟨b, o + 1, none⟩ = some (.int .i64 p.t.kind) ∧ w.cell? ⟨b, o + 2, none⟩ = some (.int .u64 (p.t.n : Int)) ∧ w.cell? ⟨b, o + 3, none⟩ = some (str p.t.s) ∧ w.cell? ⟨b, o + 4, none⟩ = some (.slice A p.t.k c) ∧ w.cell? ⟨b, o + 5, none⟩ = some (.bool p.t.op)
theorem At6.five {w : World} {b o : Nat} {p : PR} {A : Option Addr} {c : Nat} (h : At6 w b o p A c) : At5 w b (o + 1) p.t A c := ⟨h.2.1, h.2.2.1, h.2.2.2.1, h.2.2.2.2.1, h.2.2.2.2.2⟩
def PsL (w : World) (Q : Nat → Prop) (A : Option Addr) (p : PL) : Prop := 0 < p.k → ∃ b o, A = some ⟨b, o, none⟩ ∧ b < w.heap.size ∧ Q b ∧ ∀ i, i < p.k → ∃ Ai ci, At6 w b (o + i * 6) (p.a i) Ai ci ∧ IsL w Q (p.a i).t Ai
/-- A row of rows of pairs. -/
def RsL (w : World) (Q : Nat → Prop) (A : Option Addr) (k : Nat) (f : Nat → PL) : Prop := 0 < k → ∃ b o, A = some ⟨b, o, none⟩ ∧ b < w.heap.size ∧ Q b ∧ ∀ i, i < k → ∃ Ai ci, w.cell? ⟨b, o + i, none⟩ = some (.slice Ai (f i).k ci) ∧ (f i).k ≤ ci ∧ PsL w Q Ai (f i)
abbrev anyQ : Nat → Prop := fun _ => True
theorem NsL.mod {S : List Nat} {w w' : World} {A : Option Addr} {k : Nat} {f : Nat → Int} (h : NsL w A k f) (hm : Mod S w w') (hs : ∀ b o, A = some ⟨b, o, none⟩ → b < w.heap.size → b ∉ S) : NsL w' A k f := fun h0 => by
  obtain ⟨b, o, hA, hb, hc⟩ := h h0
  exact ⟨b, o, hA, Nat.lt_of_lt_of_le hb hm.size, fun i hi => (hm.cell hb (hs b o hA hb)).trans (hc i hi)⟩
theorem NsL.ext {w w' : World} {A : Option Addr} {k : Nat} {f : Nat → Int} (h : NsL w A k f) (hm : Ext w w') : NsL w' A k f := h.mod hm (by simp)
theorem At6.mod {S : List Nat} {w w' : World} {b o : Nat} {p : PR} {A : Option Addr} {c : Nat} (h : At6 w b o p A c) (hm : Mod S w w') (hb : b < w.heap.size) (hs : b ∉ S) : At6 w' b o p A c := by
  obtain ⟨h0, h1, h2, h3, h4, h5⟩ := h
  exact ⟨(hm.cell hb hs).trans h0, (hm.cell hb hs).trans h1, (hm.cell hb hs).trans h2, (hm.cell hb hs).trans h3, (hm.cell hb hs).trans h4, (hm.cell hb hs).trans h5⟩
theorem PsL.mod {S : List Nat} {Q : Nat → Prop} {w w' : World} {A : Option Addr} {p : PL} (h : PsL w Q A p) (hm : Mod S w w') (hs : ∀ k, Q k → k < w.heap.size → k ∉ S) : PsL w' Q A p := fun h0 => by
  obtain ⟨b, o, hA, hb, hq, hc⟩ := h h0
  refine ⟨b, o, hA, Nat.lt_of_lt_of_le hb hm.size, hq, fun i hi => ?_⟩
  obtain ⟨Ai, ci, h1, h2⟩ := hc i hi
  exact ⟨Ai, ci, h1.mod hm hb (hs b hq hb), IsL.mod hm hs _ h2⟩
theorem PsL.ext {Q : Nat → Prop} {w w' : World} {A : Option Addr} {p : PL} (h : PsL w Q A p) (hm : Ext w w') : PsL w' Q A p := h.mod hm (by simp)
theorem PsL.weak {Q R : Nat → Prop} {w : World} {A : Option Addr} {p : PL} (h : PsL w Q A p) (hq : ∀ k, k < w.heap.size → Q k → R k) : PsL w R A p := fun h0 => by
  obtain ⟨b, o, hA, hb, hqb, hc⟩ := h h0
  refine ⟨b, o, hA, hb, hq b hb hqb, fun i hi => ?_⟩
  obtain ⟨Ai, ci, h1, h2⟩ := hc i hi
  exact ⟨Ai, ci, h1, IsL.weak hq _ h2⟩
theorem RsL.mod {S : List Nat} {Q : Nat → Prop} {w w' : World} {A : Option Addr} {k : Nat} {f : Nat → PL} (h : RsL w Q A k f) (hm : Mod S w w') (hs : ∀ k, Q k → k < w.heap.size → k ∉ S) : RsL w' Q A k f := fun h0 => by
  obtain ⟨b, o, hA, hb, hq, hc⟩ := h h0
  refine ⟨b, o, hA, Nat.lt_of_lt_of_le hb hm.size, hq, fun i hi => ?_⟩
  obtain ⟨Ai, ci, h1, hkc, h2⟩ := hc i hi
  exact ⟨Ai, ci, (hm.cell hb (hs b hq hb)).trans h1, hkc, h2.mod hm hs⟩
theorem RsL.ext {Q : Nat → Prop} {w w' : World} {A : Option Addr} {k : Nat} {f : Nat → PL} (h : RsL w Q A k f) (hm : Ext w w') : RsL w' Q A k f := h.mod hm (by simp)
theorem RsL.weak {Q R : Nat → Prop} {w : World} {A : Option Addr} {k : Nat} {f : Nat → PL} (h : RsL w Q A k f) (hq : ∀ k, k < w.heap.size → Q k → R k) : RsL w R A k f := fun h0 => by
  obtain ⟨b, o, hA, hb, hqb, hc⟩ := h h0
  refine ⟨b, o, hA, hb, hq b hb hqb, fun i hi => ?_⟩
  obtain ⟨Ai, ci, h1, hkc, h2⟩ := hc i hi
  exact ⟨Ai, ci, h1, hkc, h2.weak hq⟩
/-- A pair's cells, as values. -/
abbrev prC (p : PR) (A : Option Addr) (c : Nat) : Array Value := #[.int .i64 p.id, .int .i64 p.t.kind, .int .u64 (p.t.n : Int), str p.t.s, .slice A p.t.k c, .bool p.t.op]
/-- A security text's cells. -/
structure AA where
  t : Option Addr
  tc : Nat
  p : Option Addr
  pc : Nat
  r : Option Addr
  rc : Nat
abbrev asbC (a : AV) (m : AA) : Array Value := #[.slice m.t a.tk m.tc, .int .i64 a.ctx, .int .i64 a.src.sch, str a.src.name, .int .u64 (a.src.node : Int), .int .u64 (a.src.svc : Int), .slice m.p a.ps.k m.pc, .slice m.r a.rk m.rc]
abbrev asbV (a : AV) (m : AA) : Value := .agg (asbC a m)
/-- It lies in memory, in blocks of Q alone. -/
structure AsL (w : World) (Q : Nat → Prop) (a : AV) (m : AA) : Prop where
  t : NsL w m.t a.tk a.tg
  tq : ∀ b o, m.t = some ⟨b, o, none⟩ → 0 < a.tk → Q b
  p : PsL w Q m.p a.ps
  r : RsL w Q m.r a.rk a.rs
theorem AsL.mod {S : List Nat} {Q : Nat → Prop} {w w' : World} {a : AV} {m : AA} (h : AsL w Q a m) (hm : Mod S w w') (hs : ∀ k, Q k → k < w.heap.size → k ∉ S) : AsL w' Q a m :=
  ⟨fun h0 => by
    obtain ⟨b, o, hA, hb, hc⟩ := h.t h0
    exact ⟨b, o, hA, Nat.lt_of_lt_of_le hb hm.size, fun i hi => (hm.cell hb (hs b (h.tq b o hA h0) hb)).trans (hc i hi)⟩, h.tq, h.p.mod hm hs, h.r.mod hm hs⟩
theorem AsL.ext {Q : Nat → Prop} {w w' : World} {a : AV} {m : AA} (h : AsL w Q a m) (hm : Ext w w') : AsL w' Q a m := h.mod hm (by simp)

theorem coded_any (n : Int) (w : World) : Calls Tryz.prog 39 #[.int .i64 n] w (fun e w' => e = .returned (.bool (codedB n)) ∧ w' = w) := by
  go_enter Tryz.func39, Tryz.ntmps39
  go_wp2
  all_goals go_ret
  all_goals exact ⟨ret_bool (by unfold codedB; rw [Bool.eq_iff_iff]; simp [*]; try omega), rfl⟩
/-- Where a number is. -/
def isN (f : Nat → Int) (x : Int) (i : Nat) : Bool := x == f i
set_option maxHeartbeats 800000 in
theorem IndexN_any (A : Option Addr) (f : Nat → Int) (k c : Nat) (x : Int) (hk : k < 4611686018427387904) (w : World) (h : NsL w A k f) :
    Calls Tryz.prog 87 #[.slice A k c, .int .i64 x] w (Ret (.int .i64 (firstI (isN f x) k)) w) := by
  have H := hid h; have HK := hid hk
  clear h hk
  have k1 : (k : Int) < 4611686018427387904 := by have := HK.out; omega
  go_enter Tryz.func87, Tryz.ntmps87
  go_upto_region 2 with fail
  go_loopw [8] (fun s8 wr => ∃ j : Nat, j ≤ k ∧ s8 = .int .i64 (j : Int) ∧ wr = w ∧ Hid (∀ i, i < j → isN f x i = false)) (fun s8 _ => k - (intOf s8).toNat)
  case atStart => exact ⟨0, Nat.zero_le _, rfl, rfl, fun i h => absurd h (Nat.not_lt_zero _)⟩
  case round =>
    obtain ⟨j, hj, rfl, rfl, hno⟩ := hrel
    have j0 : (0 : Int) ≤ (j : Int) := by omega
    by_cases hlt : j < k
    · obtain ⟨b, o, rfl, hb, hc⟩ := H.out (by omega)
      have c0 := hc j hlt
      have j1 : (j : Int) < (k : Int) := by omega
      have tc : decide (j < k) = true := by simp [hlt]
      clear hc
      cases hq : isN f x j with
      | true =>
        have HQ := hid hq
        have tq : (x == f j) = true := hq
        have tq2 : (x = f j) = True := by rw [beq_iff_eq] at tq; exact eq_true tq
        clear hq
        go_wp2_with fail
        go_ret
        refine Ret.mk ?_ (Mod.refl _ _)
        unfold firstI
        rw [firstOf_some hlt HQ.out hno.out]; rfl
      | false =>
        have HQ := hid hq
        have tq : (x == f j) = false := hq
        have tq2 : (x = f j) = False := by rw [beq_eq_false_iff_ne] at tq; exact eq_false tq
        clear hq
        go_wp2_with fail
        go_roundw
        case rel =>
          refine ⟨j + 1, by omega, by go_num, by trivial, (show Hid _ from fun i hi => ?_)⟩
          by_cases e : i = j
          · subst e; exact HQ.out
          · exact hno.out i (by omega)
        case measure => simp [intOf]; omega
    · obtain rfl : j = k := by omega
      have tc : decide (j < j) = false := by simp
      go_wp2_with fail
      go_ret
      refine Ret.mk ?_ (Mod.refl _ _)
      unfold firstI
      rw [firstOf_none hno.out]; rfl
theorem firstI_is {p : Nat → Bool} {k : Nat} : decide (0 ≤ firstI p k) = (firstOf p k).isSome := by
  unfold firstI
  cases firstOf p k <;> simp
set_option maxHeartbeats 800000 in
theorem ContainsN_any (A : Option Addr) (f : Nat → Int) (k c : Nat) (x : Int) (hk : k < 4611686018427387904) (w : World) (h : NsL w A k f) :
    Calls Tryz.prog 68 #[.slice A k c, .int .i64 x] w (Ret (.bool (firstOf (isN f x) k).isSome) w) := by
  have K := hid (IndexN_any A f k c x hk w h)
  have hX := hid (firstI_is (p := isN f x) (k := k))
  generalize firstI (isN f x) k = X at *
  generalize (firstOf (isN f x) k).isSome = B at *
  clear h
  go_enter Tryz.func68, Tryz.ntmps68
  go_wp2_with (go_at_call 87; refine K.out.mono ?_; rintro e w' ⟨rfl, hb'⟩)
  go_ret
  exact Ret.mk (congrArg Value.bool hX.out) hb'
theorem contains_all {f : Nat → Int} {x : Int} {k : Nat} : (firstOf (isN f x) k).isSome = !(T.all (fun j => decide (f j ≠ x)) k) := by
  cases h : firstOf (isN f x) k with
  | none =>
    have := firstOf_no h
    have h2 : T.all (fun j => decide (f j ≠ x)) k = true := T.all_iff.2 fun i hi => by
      have := this i hi
      unfold isN at this
      rw [beq_eq_false_iff_ne] at this
      simpa using fun e => this e.symm
    rw [h2]; rfl
  | some i =>
    obtain ⟨h1, h2, _⟩ := firstOf_spec h
    have h3 : T.all (fun j => decide (f j ≠ x)) k = false := by
      cases hh : T.all (fun j => decide (f j ≠ x)) k with
      | false => rfl
      | true =>
        have := T.all_iff.1 hh i h1
        unfold isN at h2
        rw [beq_iff_eq] at h2
        simp [h2] at this
    rw [h3]; rfl
end Go.Proofs.YtblfmokklfhklaaGreatDoor


namespace Go.Proofs.YtblfmokklfhklaaGreatDoor
open Go.RowKit
set_option linter.unusedVariables false
set_option linter.unusedSimpArgs false

theorem infoItem : (Tryz.prog.info? 47).map (fun i => (i.zero, i.size, i.bytes)) = some (some (.agg #[.int .i64 0, .int .u64 0, .string ⟨#[]⟩, .slice none 0 0, .bool false]), 5, 64) := by kernel_rfl

theorem ownsRow_mod {w w' : World} {S : List Nat} {base : Nat} {e : TypeId} {size : Nat} {v : Value} {n : Nat} {xs : List Value} (h : w.ownsRow base e size v n xs) (hm : Mod S w w') (hs : ∀ k, v.ownBlock = some k → k ∉ S) : w'.ownsRow base e size v n xs := by
  refine ⟨h.1, ?_⟩
  have hlt := h.lt
  rcases h.2 with h0 | ⟨g, cap, cur, rfl, hbg, hg, hnc, hcm, hcs, htake⟩
  · exact .inl h0
  · exact .inr ⟨g, cap, cur, rfl, hbg, (hm.block g (hlt g rfl).2 (hs g rfl)).trans hg, hnc, hcm, hcs, htake⟩

theorem own_form {w : World} {base : Nat} {e : TypeId} {size : Nat} {v : Value} {n : Nat} {xs : List Value} (h : w.ownsRow base e size v (n + 1) xs) : ∃ g c, v = .slice (some ⟨g, 0, none⟩) (n + 1) c ∧ base ≤ g ∧ g < w.heap.size := by
  have hlt := h.lt
  rcases h.2 with ⟨_, h0⟩ | ⟨g, cap, cur, rfl, hbg, hg, _⟩
  · cases h0
  · exact ⟨g, cap, rfl, hbg, (hlt g rfl).2⟩
theorem news5 (W : World) (t : T) (A : Option Addr) (c : Nat) : ∀ j u, [Value.int .i64 t.kind, .int .u64 (t.n : Int), str t.s, .slice A t.k c, .bool t.op][j]? = some u →
    (W.alloc (.cells (itemC t A c) 47)).cell? ((⟨W.heap.size, 0, none⟩ : Addr).add j) = some u := by
  intro j u hj
  rw [addr_add, Nat.zero_add]
  rw [(Blk.new W 47 (itemC t A c)).cell j]
  simpa using hj
theorem one5 (t : T) (A : Option Addr) (c : Nat) : ∀ u ∈ [Value.int .i64 t.kind, .int .u64 (t.n : Int), str t.s, .slice A t.k c, .bool t.op], u.oneCell' = true := by
  intro u hu
  simp at hu
  rcases hu with rfl | rfl | rfl | rfl | rfl <;> rfl

theorem own_of_blk {w : World} {g base n size : Nat} {e : TypeId} {cs : Array Value} (h : Blk w g e cs) (hb : base ≤ g) (hn : n ≤ maxLen) (hs : cs.size = n * size) : w.ownsRow base e size (.slice (some ⟨g, 0, none⟩) n n) n cs.toList :=
  ⟨by simpa using hs, .inr ⟨g, n, cs, rfl, hb, h, Nat.le_refl _, hn, hs, by rw [← hs]; exact List.take_of_length_le (by simp)⟩⟩
theorem own_cells {w : World} {g base n c size : Nat} {e : TypeId} {xs : List Value} (h : w.ownsRow base e size (.slice (some ⟨g, 0, none⟩) n c) n xs) {j : Nat} {u : Value} (hj : xs[j]? = some u) : w.cell? ⟨g, j, none⟩ = some u := by
  have := h.cells (g := g) rfl j u hj
  rw [addr_add, Nat.zero_add] at this
  exact this
/-- The row's cells: the first i items'. -/
def flatC (ch : Nat → T) (ac : Nat → Option Addr × Nat) : Nat → List Value
  | 0 => []
  | i + 1 => flatC ch ac i ++ [.int .i64 (ch i).kind, .int .u64 ((ch i).n : Int), str (ch i).s, .slice (ac i).1 (ch i).k (ac i).2, .bool (ch i).op]
theorem flatC_length (ch : Nat → T) (ac : Nat → Option Addr × Nat) (i : Nat) : (flatC ch ac i).length = i * 5 := by
  induction i with
  | zero => rfl
  | succ i ih => rw [flatC, List.length_append, ih]; simp; omega
theorem flatC_congr {ch ch' : Nat → T} {ac ac' : Nat → Option Addr × Nat} {i : Nat} (h : ∀ j, j < i → ch j = ch' j ∧ ac j = ac' j) : flatC ch ac i = flatC ch' ac' i := by
  induction i with
  | zero => rfl
  | succ i ih => rw [flatC, flatC, ih (fun j hj => h j (by omega)), (h i (by omega)).1, (h i (by omega)).2]
theorem flatC_get (ch : Nat → T) (ac : Nat → Option Addr × Nat) (i : Nat) : ∀ j, j < i → (flatC ch ac i)[j * 5]? = some (.int .i64 (ch j).kind) ∧ (flatC ch ac i)[j * 5 + 1]? = some (.int .u64 ((ch j).n : Int)) ∧ (flatC ch ac i)[j * 5 + 2]? = some (str (ch j).s) ∧
    (flatC ch ac i)[j * 5 + 3]? = some (.slice (ac j).1 (ch j).k (ac j).2) ∧ (flatC ch ac i)[j * 5 + 4]? = some (.bool (ch j).op) := by
  induction i with
  | zero => intro j hj; omega
  | succ i ih =>
    intro j hj
    have hl := flatC_length ch ac i
    rw [flatC]
    by_cases e : j = i
    · subst e
      refine ⟨?_, ?_, ?_, ?_, ?_⟩ <;> (rw [List.getElem?_append_right (by omega), hl]; simp)
    · have := ih j (by omega)
      refine ⟨?_, ?_, ?_, ?_, ?_⟩ <;> rw [List.getElem?_append_left (by omega)]
      · exact this.1
      · exact this.2.1
      · exact this.2.2.1
      · exact this.2.2.2.1
      · exact this.2.2.2.2

theorem flatC_idx (ch : Nat → T) (ac : Nat → Option Addr × Nat) (k : Nat) {j : Nat} {u : Value} (h : (flatC ch ac k)[j]? = some u) : ∃ i r, i < k ∧ r < 5 ∧ j = i * 5 + r := by
  have := (List.getElem?_eq_some_iff.1 h).1
  rw [flatC_length] at this
  exact ⟨j / 5, j % 5, by omega, by omega, by omega⟩
theorem flatC_news {W : World} {b o : Nat} {ch : Nat → T} {ac : Nat → Option Addr × Nat} {k : Nat} (h : ∀ i, i < k → At5 W b (o + i * 5) (ch i) (ac i).1 (ac i).2) : ∀ j u, (flatC ch ac k)[j]? = some u → W.cell? ((⟨b, o, none⟩ : Addr).add j) = some u := by
  intro j u hj
  obtain ⟨i, r, hi, hr, rfl⟩ := flatC_idx ch ac k hj
  obtain ⟨g0, g1, g2, g3, g4⟩ := flatC_get ch ac k i hi
  obtain ⟨a0, a1, a2, a3, a4⟩ := h i hi
  rw [addr_add, ← Nat.add_assoc]
  have h5 : r = 0 ∨ r = 1 ∨ r = 2 ∨ r = 3 ∨ r = 4 := by omega
  rcases h5 with rfl | rfl | rfl | rfl | rfl
  · rw [← hj, Nat.add_zero, Nat.add_zero, g0]; exact a0
  · rw [← hj, g1]; exact a1
  · rw [← hj, g2]; exact a2
  · rw [← hj, g3]; exact a3
  · rw [← hj, g4]; exact a4
theorem flatC_one (ch : Nat → T) (ac : Nat → Option Addr × Nat) (k : Nat) : ∀ u ∈ flatC ch ac k, u.oneCell' = true := by
  intro u hu
  obtain ⟨j, hj⟩ := List.getElem?_of_mem hu
  obtain ⟨i, r, hi, hr, rfl⟩ := flatC_idx ch ac k hj
  obtain ⟨g0, g1, g2, g3, g4⟩ := flatC_get ch ac k i hi
  have h5 : r = 0 ∨ r = 1 ∨ r = 2 ∨ r = 3 ∨ r = 4 := by omega
  rcases h5 with rfl | rfl | rfl | rfl | rfl
  · rw [Nat.add_zero, g0] at hj; cases hj; rfl
  · rw [g1] at hj; cases hj; rfl
  · rw [g2] at hj; cases hj; rfl
  · rw [g3] at hj; cases hj; rfl
  · rw [g4] at hj; cases hj; rfl
theorem IsL.rows {W : World} {Q : Nat → Prop} {kind : Int} {n : Nat} {s : List UInt8} {op : Bool} {k : Nat} {ch : Nat → T} {A : Option Addr} (h : IsL W Q (T.mk kind n s op k ch) A) (hk : 0 < k) :
    ∃ (b o : Nat) (ac : Nat → Option Addr × Nat), A = some ⟨b, o, none⟩ ∧ b < W.heap.size ∧ Q b ∧ ∀ i, i < k → At5 W b (o + i * 5) (ch i) (ac i).1 (ac i).2 ∧ IsL W Q (ch i) (ac i).1 := by
  obtain ⟨b, o, hA, hb, hq, hc⟩ := h hk
  have hex : ∀ i, ∃ p : Option Addr × Nat, i < k → At5 W b (o + i * 5) (ch i) p.1 p.2 ∧ IsL W Q (ch i) p.1 := fun i => by
    by_cases hi : i < k
    · obtain ⟨Ai, ci, h1, h2⟩ := hc i hi
      exact ⟨(Ai, ci), fun _ => ⟨h1, h2⟩⟩
    · exact ⟨(none, 0), fun h => absurd h hi⟩
  exact ⟨b, o, fun i => (hex i).choose, hA, hb, hq, fun i hi => (hex i).choose_spec hi⟩
theorem own_IsL {W : World} {Q : Nat → Prop} {base g c k : Nat} {ch : Nat → T} {ac : Nat → Option Addr × Nat} (hlt : g < W.heap.size) (q : Q g) (h : W.ownsRow base 47 5 (.slice (some ⟨g, 0, none⟩) k c) k (flatC ch ac k)) (hI : ∀ i, i < k → IsL W Q (ch i) (ac i).1) : IsL W Q (T.mk 4 0 [] false k ch) (some ⟨g, 0, none⟩) := fun _ => ⟨g, 0, rfl, hlt, q, fun i hi => by
  obtain ⟨g0, g1, g2, g3, g4⟩ := flatC_get ch ac k i hi
  refine ⟨(ac i).1, (ac i).2, ⟨?_, ?_, ?_, ?_, ?_⟩, hI i hi⟩
  · rw [Nat.zero_add]; exact own_cells h g0
  · rw [Nat.zero_add]; exact own_cells h g1
  · rw [Nat.zero_add]; exact own_cells h g2
  · rw [Nat.zero_add]; exact own_cells h g3
  · rw [Nat.zero_add]; exact own_cells h g4⟩
/-- The last item's five cells, stored anew. -/
theorem own_last {W : World} {base g c n : Nat} {ch : Nat → T} {ac : Nat → Option Addr × Nat} (t : T) (A : Option Addr) (ca : Nat) (h : W.ownsRow base 47 5 (.slice (some ⟨g, 0, none⟩) (n + 1) c) (n + 1) (flatC ch ac (n + 1))) :
    (((((W.setCell ⟨g, n * 5, none⟩ (.int .i64 t.kind)).setCell ⟨g, n * 5 + 1, none⟩ (.int .u64 (t.n : Int))).setCell ⟨g, n * 5 + 2, none⟩ (str t.s)).setCell ⟨g, n * 5 + 3, none⟩ (.slice A t.k ca)).setCell ⟨g, n * 5 + 4, none⟩ (.bool t.op)).ownsRow base 47 5 (.slice (some ⟨g, 0, none⟩) (n + 1) c) (n + 1)
      (flatC (fun i => if i = n then t else ch i) (fun i => if i = n then (A, ca) else ac i) (n + 1)) := by
  have h5 := ((((h.stored (n * 5) (.int .i64 t.kind)).1.stored (n * 5 + 1) (.int .u64 (t.n : Int))).1.stored (n * 5 + 2) (str t.s)).1.stored (n * 5 + 3) (.slice A t.k ca)).1.stored (n * 5 + 4) (.bool t.op)
  have hl := flatC_length ch ac n
  have e : (((((flatC ch ac (n + 1)).set (n * 5) (.int .i64 t.kind)).set (n * 5 + 1) (.int .u64 (t.n : Int))).set (n * 5 + 2) (str t.s)).set (n * 5 + 3) (.slice A t.k ca)).set (n * 5 + 4) (.bool t.op) = flatC (fun i => if i = n then t else ch i) (fun i => if i = n then (A, ca) else ac i) (n + 1) := by
    have hc : flatC (fun i => if i = n then t else ch i) (fun i => if i = n then (A, ca) else ac i) n = flatC ch ac n := flatC_congr fun j hj => by
      have : ¬ j = n := by omega
      simp [this]
    rw [flatC, flatC, hc, ← hl]
    simp
  rw [e] at h5
  exact h5.1
end Go.Proofs.YtblfmokklfhklaaGreatDoor


namespace Go.Proofs.YtblfmokklfhklaaGreatDoor
open Go.RowKit
set_option linter.unusedVariables false
set_option linter.unusedSimpArgs false

def fitB (f : Nat → Int) (i : Nat) : Bool := codedB (f i) && !(firstOf (isN f (f i)) i).isSome
theorem unlike_fit (f : Nat → Int) (k : Nat) : unlikeB f k = T.all (fitB f) k := by
  unfold unlikeB fitB
  congr 1
  funext i
  rw [contains_all, Bool.not_not]
theorem all_no {f : Nat → Bool} {k i : Nat} (hi : i < k) (h : f i = false) : T.all f k = false := by
  cases hh : T.all f k with
  | false => rfl
  | true => have := T.all_iff.1 hh i hi; rw [h] at this; cases this
theorem NsL.take {w : World} {A : Option Addr} {k : Nat} {f : Nat → Int} (h : NsL w A k f) {i : Nat} (hi : i ≤ k) : NsL w A i f := fun h0 => by
  obtain ⟨b, o, hA, hb, hc⟩ := h (by omega)
  exact ⟨b, o, hA, hb, fun j hj => hc j (by omega)⟩
set_option maxHeartbeats 1600000 in
set_option maxRecDepth 20000 in
theorem unlike_any (A : Option Addr) (f : Nat → Int) (k c : Nat) (hk : k < 4611686018427387904) (hkc : k ≤ c) (w : World) (h : NsL w A k f) :
    Calls Tryz.prog 38 #[.slice A k c] w (Ret (.bool (unlikeB f k)) w) := by
  rw [unlike_fit]
  have HL := hid h
  have HK := hid hk
  have HKC := hid hkc
  have k1 : (k : Int) < 4611686018427387904 := by omega
  clear h hk hkc
  obtain ⟨e0, he0⟩ := Later.self w
  go_enter Tryz.func38, Tryz.ntmps38
  go_wp2_with fail
  go_loopw [7] (fun s7 wr => ∃ i : Nat, s7 = .int .i64 (i : Int) ∧ Hid (i ≤ k ∧ T.all (fitB f) i = true) ∧ ∃ e : Later w, wr = e.x) (fun s7 _ => k - (intOf s7).toNat)
  case atStart => exact ⟨0, rfl, (show Hid _ from ⟨Nat.zero_le _, rfl⟩), e0, (by first | exact he0 | rfl)⟩
  case round =>
    clear he0 e0
    obtain ⟨i, rfl, hi, e, rfl⟩ := hrel
    have i0 : (0 : Int) ≤ (i : Int) := by omega
    by_cases hlt : i < k
    · obtain ⟨b, o, rfl, hb, hc⟩ := HL.out (by omega)
      have c0 : e.x.cell? ⟨b, o + i, none⟩ = some (.int .i64 (f i)) := (e.h.cell hb (by simp)).trans (hc i hlt)
      have tc : decide (i < k) = true := by simp [hlt]
      have i1 : (i : Int) < (k : Int) := by omega
      have i2 : (i : Int) ≤ (c : Int) := by have := HKC.out; omega
      have i3 : i ≤ c := by have := HKC.out; omega
      have HLT := hid hlt
      have KC := hid (fun W => coded_any (f i) W)
      have KN := hid (fun e : Later w => ContainsN_any (some ⟨b, o, none⟩) f i c (f i) (by have := HK.out; omega) e.x ((HL.out.ext e.h).take (by omega)))
      clear hlt hc hb
      cases hcd : codedB (f i) with
      | false =>
        rw [hcd] at KC
        have HN := hid (all_no HLT.out (show fitB f i = false by unfold fitB; rw [hcd]; rfl))
        clear hcd KN
        go_wp2_with (go_at_call 39; refine (KC.out _).mono ?_; rintro e' w' ⟨rfl, rfl⟩)
        go_ret
        exact Ret.mk (by rw [HN.out]; rfl) e.h
      | true =>
        rw [hcd] at KC
        have HCD := hid hcd
        clear hcd
        cases hf : (firstOf (isN f (f i)) i).isSome with
        | true =>
          rw [hf] at KN
          have HN := hid (all_no HLT.out (show fitB f i = false by unfold fitB; rw [hf, Bool.and_comm]; rfl))
          clear hf
          go_wp2_with (first | (go_at_call 39; refine (KC.out _).mono ?_; rintro e' w' ⟨rfl, rfl⟩) | (go_at_call 68; refine (Ret.later (KN.out _)).mono ?_; rintro x _ ⟨rfl, e, rfl⟩))
          go_ret
          exact Ret.mk (by rw [HN.out]; rfl) e.h
        | false =>
          rw [hf] at KN
          have HN : Hid (fitB f i = true) := hid (by unfold fitB; rw [hf, HCD.out]; rfl)
          clear hf
          go_wp2_with (first | (go_at_call 39; refine (KC.out _).mono ?_; rintro e' w' ⟨rfl, rfl⟩) | (go_at_call 68; refine (Ret.later (KN.out _)).mono ?_; rintro x _ ⟨rfl, e, rfl⟩))
          go_roundw
          case rel => exact ⟨i + 1, by go_num, (show Hid _ from ⟨HLT.out, by rw [T.all, hi.out.2, HN.out]; rfl⟩), e, rfl⟩
          case measure => have := HLT.out; simp [intOf]; omega
    · obtain rfl : i = k := by have := hi.out.1; omega
      have tc : decide (i < i) = false := by simp
      go_wp2_with fail
      go_ret
      exact Ret.mk (by rw [hi.out.2]; rfl) e.h
theorem infoInt : (Tryz.prog.info? 3).map (fun i => (i.zero, i.size, i.bytes)) = some (some (.int .i64 0), 1, 8) := by kernel_rfl
/-- Numbers, as a row's cells. -/
abbrev numsF (f : Nat → Int) (i : Nat) : List Value := [.int .i64 (f i)]
theorem numsF_len (f : Nat → Int) (i : Nat) : (numsF f i).length = 1 := rfl
theorem own_NsL {W : World} {base k c : Nat} {A : Option Addr} {f : Nat → Int} (h : W.ownsRow base 3 1 (.slice A k c) k (flatG (numsF f) k)) : NsL W A k f := by
  intro h0
  obtain ⟨k', rfl⟩ : ∃ k', k = k' + 1 := ⟨k - 1, by omega⟩
  obtain ⟨g, c', hv, hb, hlt⟩ := own_form h
  simp only [Value.slice.injEq] at hv
  obtain ⟨rfl, _, rfl⟩ := hv
  refine ⟨g, 0, rfl, hlt, fun i hi => ?_⟩
  have := flatG_own (z := 1) (numsF_len f) h hi (r := 0) (by omega) (u := .int .i64 (f i)) rfl
  rw [Nat.mul_one, Nat.add_zero] at this
  rw [Nat.zero_add]; exact this
end Go.Proofs.YtblfmokklfhklaaGreatDoor


namespace Go.Proofs.YtblfmokklfhklaaGreatDoor
open Go.RowKit
set_option linter.unusedVariables false
set_option linter.unusedSimpArgs false

def zeroB : BV := ⟨0, 0, 0, 0, []⟩
abbrev PV.c (p : PV) : Array Value := #[.int .u64 (p.fl : Int), .int .i64 p.crc, .int .i64 p.d.sch, str p.d.name, .int .u64 (p.d.node : Int), .int .u64 (p.d.svc : Int), .int .i64 p.s.sch, str p.s.name, .int .u64 (p.s.node : Int), .int .u64 (p.s.svc : Int), .int .i64 p.r.sch, str p.r.name, .int .u64 (p.r.node : Int), .int .u64 (p.r.svc : Int), .int .u64 (p.t : Int), .int .u64 (p.q : Int), .int .u64 (p.l : Int), .int .u64 (p.o : Int), .int .u64 (p.n : Int)]
abbrev PV.v (p : PV) : Value := .agg p.c
abbrev bunC (p : PV) (A : Option Addr) (k c : Nat) : Array Value := #[.int .u64 (p.fl : Int), .int .i64 p.crc, .int .i64 p.d.sch, str p.d.name, .int .u64 (p.d.node : Int), .int .u64 (p.d.svc : Int), .int .i64 p.s.sch, str p.s.name, .int .u64 (p.s.node : Int), .int .u64 (p.s.svc : Int), .int .i64 p.r.sch, str p.r.name, .int .u64 (p.r.node : Int), .int .u64 (p.r.svc : Int), .int .u64 (p.t : Int), .int .u64 (p.q : Int), .int .u64 (p.l : Int), .int .u64 (p.o : Int), .int .u64 (p.n : Int), .slice A k c]
abbrev bunV (p : PV) (A : Option Addr) (k c : Nat) : Value := .agg (bunC p A k c)
/-- A block's five cells in the midst of a memory block. -/
def BAt (w : World) (b o : Nat) (x : BV) : Prop :=
  w.cell? ⟨b, o, none⟩ = some (.int .i64 x.ty) ∧ w.cell? ⟨b, o + 1, none⟩ = some (.int .i64 x.num) ∧ w.cell? ⟨b, o + 2, none⟩ = some (.int .u64 (x.fl : Int)) ∧ w.cell? ⟨b, o + 3, none⟩ = some (.int .i64 x.crc) ∧ w.cell? ⟨b, o + 4, none⟩ = some (str x.data)
/-- k blocks lie in memory. -/
def BsL (w : World) (A : Option Addr) (k : Nat) (bs : Nat → BV) : Prop := 0 < k → ∃ b o, A = some ⟨b, o, none⟩ ∧ b < w.heap.size ∧ ∀ i, i < k → BAt w b (o + i * 5) (bs i)
theorem BAt.mod {w w' : World} {S : List Nat} {b o : Nat} {x : BV} (h : BAt w b o x) (hm : Mod S w w') (hb : b < w.heap.size) (hs : b ∉ S) : BAt w' b o x := by
  obtain ⟨h0, h1, h2, h3, h4⟩ := h
  exact ⟨(hm.cell hb hs).trans h0, (hm.cell hb hs).trans h1, (hm.cell hb hs).trans h2, (hm.cell hb hs).trans h3, (hm.cell hb hs).trans h4⟩
theorem BsL.ext {w w' : World} {A : Option Addr} {k : Nat} {bs : Nat → BV} (h : BsL w A k bs) (hm : Ext w w') : BsL w' A k bs := fun hk => by
  obtain ⟨b, o, hA, hb, hc⟩ := h hk
  exact ⟨b, o, hA, Nat.lt_of_lt_of_le hb hm.size, fun i hi => (hc i hi).mod hm hb (by simp)⟩
/-- A block's cells, whatever later world. -/
theorem BsL.cells {V : World} {A : Option Addr} {k : Nat} {bs : Nat → BV} (h : BsL V A k bs) {i : Nat} (hi : i < k) : ∃ b o, A = some ⟨b, o, none⟩ ∧ b < V.heap.size ∧
    (∀ e : Later V, e.x.cell? ⟨b, o + i * 5, none⟩ = some (.int .i64 (bs i).ty)) ∧ (∀ e : Later V, e.x.cell? ⟨b, o + i * 5 + 1, none⟩ = some (.int .i64 (bs i).num)) ∧ (∀ e : Later V, e.x.cell? ⟨b, o + i * 5 + 2, none⟩ = some (.int .u64 ((bs i).fl : Int))) ∧
    (∀ e : Later V, e.x.cell? ⟨b, o + i * 5 + 3, none⟩ = some (.int .i64 (bs i).crc)) ∧ (∀ e : Later V, e.x.cell? ⟨b, o + i * 5 + 4, none⟩ = some (str (bs i).data)) := by
  obtain ⟨b, o, hA, hb, hc⟩ := h (by omega)
  obtain ⟨h0, h1, h2, h3, h4⟩ := hc i hi
  exact ⟨b, o, hA, hb, cellL h0, cellL h1, cellL h2, cellL h3, cellL h4⟩
end Go.Proofs.YtblfmokklfhklaaGreatDoor


namespace Go.Proofs.YtblfmokklfhklaaGreatDoor
open Go.RowKit
set_option linter.unusedVariables false
set_option linter.unusedSimpArgs false

abbrev BV.c (b : BV) : Array Value := #[.int .i64 b.ty, .int .i64 b.num, .int .u64 (b.fl : Int), .int .i64 b.crc, str b.data]
abbrev BV.v (b : BV) : Value := .agg b.c
end Go.Proofs.YtblfmokklfhklaaGreatDoor


namespace Go.Proofs.YtblfmokklfhklaaGreatDoor
open Go.RowKit
set_option linter.unusedVariables false
set_option linter.unusedSimpArgs false

def tyB (bs : Nat → BV) (typ : Int) (i : Nat) : Bool := decide ((bs i).ty = typ)
theorem tyB_no {bs : Nat → BV} {typ : Int} {i : Nat} (h : (bs i).ty ≠ typ) : tyB bs typ i = false := by unfold tyB; simp [h]
theorem tyB_yes {bs : Nat → BV} {typ : Int} {i : Nat} (h : (bs i).ty = typ) : tyB bs typ i = true := by unfold tyB; simp [h]
/-- A block's five cells, stored anew. -/
def setB (W : World) (g : Nat) (b : BV) : World := ((((W.setCell ⟨g, 0, none⟩ (.int .i64 b.ty)).setCell ⟨g, 1, none⟩ (.int .i64 b.num)).setCell ⟨g, 2, none⟩ (.int .u64 (b.fl : Int))).setCell ⟨g, 3, none⟩ (.int .i64 b.crc)).setCell ⟨g, 4, none⟩ (str b.data)
section
variable {W : World} {g : Nat} {b0 b : BV}
theorem setB_mod {w : World} {S : List Nat} (h : Mod S w W) (hb : w.heap.size ≤ g) : Mod S w (setB W g b) :=
  ((((h.setCell (.inr hb) _).setCell (.inr hb) _).setCell (.inr hb) _).setCell (.inr hb) _).setCell (.inr hb) _
end
/-- What Find hands back. -/
def findV (bs : Nat → BV) (typ : Int) (k : Nat) : Value := match firstOf (tyB bs typ) k with | some i => .tuple #[(bs i).v, .bool true] | none => .tuple #[zeroB.v, .bool false]
end Go.Proofs.YtblfmokklfhklaaGreatDoor


namespace Go.Proofs.YtblfmokklfhklaaGreatDoor
open Go.RowKit
set_option linter.unusedVariables false
set_option linter.unusedSimpArgs false

/-- The row's cells: the first i blocks'. -/
def flatB (bs : Nat → BV) : Nat → List Value
  | 0 => []
  | i + 1 => flatB bs i ++ [.int .i64 (bs i).ty, .int .i64 (bs i).num, .int .u64 ((bs i).fl : Int), .int .i64 (bs i).crc, str (bs i).data]
theorem flatB_length (bs : Nat → BV) (i : Nat) : (flatB bs i).length = i * 5 := by
  induction i with
  | zero => rfl
  | succ i ih => rw [flatB, List.length_append, ih]; simp; omega
theorem flatB_congr {bs bs' : Nat → BV} {i : Nat} (h : ∀ j, j < i → bs j = bs' j) : flatB bs i = flatB bs' i := by
  induction i with
  | zero => rfl
  | succ i ih => rw [flatB, flatB, ih (fun j hj => h j (by omega)), h i (by omega)]
theorem flatB_get (bs : Nat → BV) (i : Nat) : ∀ j, j < i → (flatB bs i)[j * 5]? = some (.int .i64 (bs j).ty) ∧ (flatB bs i)[j * 5 + 1]? = some (.int .i64 (bs j).num) ∧ (flatB bs i)[j * 5 + 2]? = some (.int .u64 ((bs j).fl : Int)) ∧
    (flatB bs i)[j * 5 + 3]? = some (.int .i64 (bs j).crc) ∧ (flatB bs i)[j * 5 + 4]? = some (str (bs j).data) := by
  induction i with
  | zero => intro j hj; omega
  | succ i ih =>
    intro j hj
    have hl := flatB_length bs i
    rw [flatB]
    by_cases e : j = i
    · subst e
      refine ⟨?_, ?_, ?_, ?_, ?_⟩ <;> (rw [List.getElem?_append_right (by omega), hl]; simp)
    · have := ih j (by omega)
      refine ⟨?_, ?_, ?_, ?_, ?_⟩ <;> rw [List.getElem?_append_left (by omega)]
      · exact this.1
      · exact this.2.1
      · exact this.2.2.1
      · exact this.2.2.2.1
      · exact this.2.2.2.2
theorem flatB_idx (bs : Nat → BV) (k : Nat) {j : Nat} {u : Value} (h : (flatB bs k)[j]? = some u) : ∃ i r, i < k ∧ r < 5 ∧ j = i * 5 + r := by
  have := (List.getElem?_eq_some_iff.1 h).1
  rw [flatB_length] at this
  exact ⟨j / 5, j % 5, by omega, by omega, by omega⟩
theorem flatB_news {W : World} {b o : Nat} {bs : Nat → BV} {k : Nat} (h : ∀ i, i < k → BAt W b (o + i * 5) (bs i)) : ∀ j u, (flatB bs k)[j]? = some u → W.cell? ((⟨b, o, none⟩ : Addr).add j) = some u := by
  intro j u hj
  obtain ⟨i, r, hi, hr, rfl⟩ := flatB_idx bs k hj
  obtain ⟨g0, g1, g2, g3, g4⟩ := flatB_get bs k i hi
  obtain ⟨a0, a1, a2, a3, a4⟩ := h i hi
  rw [addr_add, ← Nat.add_assoc]
  have h5 : r = 0 ∨ r = 1 ∨ r = 2 ∨ r = 3 ∨ r = 4 := by omega
  rcases h5 with rfl | rfl | rfl | rfl | rfl
  · rw [← hj, Nat.add_zero, Nat.add_zero, g0]; exact a0
  · rw [← hj, g1]; exact a1
  · rw [← hj, g2]; exact a2
  · rw [← hj, g3]; exact a3
  · rw [← hj, g4]; exact a4
theorem flatB_one (bs : Nat → BV) (k : Nat) : ∀ u ∈ flatB bs k, u.oneCell' = true := by
  intro u hu
  obtain ⟨j, hj⟩ := List.getElem?_of_mem hu
  obtain ⟨i, r, hi, hr, rfl⟩ := flatB_idx bs k hj
  obtain ⟨g0, g1, g2, g3, g4⟩ := flatB_get bs k i hi
  have h5 : r = 0 ∨ r = 1 ∨ r = 2 ∨ r = 3 ∨ r = 4 := by omega
  rcases h5 with rfl | rfl | rfl | rfl | rfl
  · rw [Nat.add_zero, g0] at hj; cases hj; rfl
  · rw [g1] at hj; cases hj; rfl
  · rw [g2] at hj; cases hj; rfl
  · rw [g3] at hj; cases hj; rfl
  · rw [g4] at hj; cases hj; rfl
theorem oneB (b : BV) : ∀ u ∈ [Value.int .i64 b.ty, .int .i64 b.num, .int .u64 (b.fl : Int), .int .i64 b.crc, str b.data], u.oneCell' = true := by
  intro u hu
  simp at hu
  rcases hu with rfl | rfl | rfl | rfl | rfl <;> rfl
/-- Which blocks an append turns: the row's own. -/
theorem own_turned {w2 w4 : World} {base n size : Nat} {e : TypeId} {v : Value} {xs : List Value} (h : w2.ownsRow base e size v n xs) {w : World} {S : List Nat} (hw : Mod S w w2) (hgr : w2.grownBy w4 v.ownBlock) (hb : w.heap.size ≤ base) : Mod S w w4 :=
  hw.grown hgr (fun k hk => .inr (Nat.le_trans hb (h.lt k hk).1))
theorem own_far {w2 w4 : World} {base n size : Nat} {e : TypeId} {v : Value} {xs : List Value} (h : w2.ownsRow base e size v n xs) (hgr : w2.grownBy w4 v.ownBlock) {b : Nat} {ty : TypeId} {cs : Array Value} (hB : Blk w2 b ty cs) (hbN : b < base) : Blk w4 b ty cs :=
  (hgr.block b hB.lt (fun e => by have := (h.lt b e.symm).1; omega)).trans hB
end Go.Proofs.YtblfmokklfhklaaGreatDoor


namespace Go.Proofs.YtblfmokklfhklaaGreatDoor
open Go.RowKit
set_option linter.unusedVariables false
set_option linter.unusedSimpArgs false

def ppB (p : PL) (i : Nat) : Bool := valB (p.a i).t
theorem PsL.at {w W : World} {Q : Nat → Prop} {A : Option Addr} {p : PL} (h : PsL w Q A p) (hW : Ext w W) {i : Nat} (hi : i < p.k) : ∃ b o Ai ci, A = some ⟨b, o, none⟩ ∧ b < w.heap.size ∧ At6 W b (o + i * 6) (p.a i) Ai ci ∧ IsL W Q (p.a i).t Ai := by
  obtain ⟨b, o, hA, hb, hq, hc⟩ := h (by omega)
  obtain ⟨Ai, ci, h1, h2⟩ := hc i hi
  exact ⟨b, o, Ai, ci, hA, hb, h1.mod hW hb (by simp), h2.ext hW⟩
set_option maxRecDepth 20000 in
set_option maxHeartbeats 4000000 in
theorem pairs_any (p : PL) (hk : p.k ≤ 100000) (hok : ∀ i, i < p.k → (p.a i).t.ok) (A : Option Addr) (c : Nat) (w : World) (h : PsL w anyQ A p) : Calls Tryz.prog 41 #[.slice A p.k c] w (Ret (.bool (pairsB p)) w) := by
  have HL := hid h
  have HK := hid hk
  have HOK := hid hok
  have k0 : (p.k : Int) ≤ 100000 := by omega
  have HW0 := hid (Mod.refl [] w)
  generalize hkk : p.k = k at *
  have HKK := hid hkk
  clear hok hk h hkk
  go_enter Tryz.func41, Tryz.ntmps41
  go_wp2_with fail
  go_loopw [3, 8] (fun s3 s8 wr => ∃ (i : Nat) (A' : Option Addr) (c' : Nat), s8 = .int .i64 (i : Int) ∧ s3 = .slice A' i c' ∧ Hid (i ≤ k ∧ Ext w wr ∧ wr.ownsRow w.heap.size 3 1 (.slice A' i c') i (flatG (numsF (fun j => (p.a j).id)) i) ∧ T.all (ppB p) i = true)) (fun _ s8 _ => k - (intOf s8).toNat)
  case atStart => exact ⟨0, none, 0, rfl, rfl, (show Hid _ from ⟨Nat.zero_le _, HW0.out, World.ownsRow_nil _ _ _ _, rfl⟩)⟩
  case round =>
    clear HW0
    obtain ⟨i, A', c', rfl, rfl, hS⟩ := hrel
    rename World => wr
    have i0 : (0 : Int) ≤ (i : Int) := by omega
    by_cases hlt : i < k
    · obtain ⟨b, o, Ai, ci, rfl, hb, ⟨q0, q1, q2, q3, q4, q5⟩, hI⟩ := HL.out.at hS.out.2.1 (i := i) (by have := HKK.out; omega)
      have tc : decide (i < k) = true := by simp [hlt]
      have i1 : (i : Int) < (k : Int) := by omega
      have HLT := hid hlt
      have HI := hid hI
      have HOi := hid (HOK.out i hlt)
      clear hlt hI hb
      go_upto_region 5 with fail
      generalize hW1 : World.alloc wr _ = W1
      have HG1 : Hid (Blk W1 wr.heap.size 68 (prC (p.a i) Ai ci)) := hid (by rw [← hW1]; exact Blk.new _ _ _)
      have hS1 : Hid (i ≤ k ∧ Ext w W1 ∧ W1.ownsRow w.heap.size 3 1 (.slice A' i c') i (flatG (numsF (fun j => (p.a j).id)) i) ∧ T.all (ppB p) i = true) := hid (by
        have h := hS.out
        rw [← hW1]; exact ⟨h.1, h.2.1.alloc _, h.2.2.1.alloc _, h.2.2.2⟩)
      have HI1 : Hid (IsL W1 anyQ (p.a i).t Ai) := hid (by rw [← hW1]; exact HI.out.ext ((Mod.refl [] wr).alloc _))
      have HSZ : Hid (w.heap.size ≤ wr.heap.size) := hid hS.out.2.1.size
      clear hW1 hS q0 q1 q2 q3 q4 q5 HI
      generalize wr.heap.size = G at *
      have g0 : ∀ e : Later W1, e.x.cell? ⟨G, 0, none⟩ = some (.int .i64 (p.a i).id) := HG1.out.cellL 0 rfl
      have g1 : ∀ e : Later W1, e.x.cell? ⟨G, 1, none⟩ = some (.int .i64 (p.a i).t.kind) := HG1.out.cellL 1 rfl
      have HRG : Hid (∀ e : Later W1, e.x.rangeAt G 1 [.int .i64 (p.a i).t.kind, .int .u64 ((p.a i).t.n : Int), str (p.a i).t.s, .slice Ai (p.a i).t.k ci, .bool (p.a i).t.op]) := HG1.out.range 1 5 (by rfl)
      have KR := hid (fun e : Later W1 => iRight_any (p.a i).t HOi.out Ai ci e.x (HI1.out.ext e.h))
      obtain ⟨e, he⟩ := Later.self W1
      rw [he]
      clear he
      by_cases hk0 : (p.a i).t.kind = 0 ∨ (p.a i).t.kind = 2
      case neg =>
        have HN := hid (all_no HLT.out (show ppB p i = false by
          unfold ppB valB
          rw [decide_eq_false (fun h => hk0 (.inl h)), decide_eq_false (fun h => hk0 (.inr h))]; rfl))
        have ta : (((p.a i).t.kind) == (0)) = false := by rw [beq_eq_false_iff_ne]; omega
        have tb : (((p.a i).t.kind) = (0)) = False := eq_false (by omega)
        have td : (((p.a i).t.kind) != (0)) = true := by rw [bne_iff_ne]; omega
        have ua : (((p.a i).t.kind) == (2)) = false := by rw [beq_eq_false_iff_ne]; omega
        have ub : (((p.a i).t.kind) = (2)) = False := eq_false (by omega)
        have ud : (((p.a i).t.kind) != (2)) = true := by rw [bne_iff_ne]; omega
        have HFIN : Hid (pairsB p = false) := hid (by unfold pairsB; rw [show T.all (fun i => valB (p.a i).t) p.k = false by rw [HKK.out]; exact HN.out]; rfl)
        clear hk0
        go_wp2_with fail
        go_ret
        exact Ret.mk (by rw [HFIN.out]; rfl) (hS1.out.2.1.trans e.h)
      have HKIND := hid hk0
      have hd1 : (decide ((p.a i).t.kind = 0) || decide ((p.a i).t.kind = 2)) = true := by
        rcases hk0 with h | h <;> simp [h]
      have HD1 := hid hd1
      clear hd1
      cases hr : (p.a i).t.right 8 with
      | false =>
        rw [hr] at KR
        have HN := hid (all_no HLT.out (show ppB p i = false by unfold ppB valB; rw [hr, Bool.and_comm]; rfl))
        have HFIN : Hid (pairsB p = false) := hid (by unfold pairsB; rw [show T.all (fun i => valB (p.a i).t) p.k = false by rw [HKK.out]; exact HN.out]; rfl)
        clear hr
        rcases hk0 with hk0 | hk0
        · have ta : (((p.a i).t.kind) == (0)) = true := by rw [beq_iff_eq]; omega
          have tb : (((p.a i).t.kind) = (0)) = True := eq_true (by omega)
          have td : (((p.a i).t.kind) != (0)) = false := by rw [bne_eq_false_iff_eq]; omega
          clear hk0
          go_wp2_with (first | (refine wpList_mid (by rfl) 47 _ rfl _ 1 rfl _ _ (HRG.out _) Tryz.underlying47 rfl (by kernel_rfl) ?_) | (go_at_call 66; refine (Ret.later (KR.out _)).mono ?_; rintro x _ ⟨rfl, e, rfl⟩))
          go_ret
          exact Ret.mk (by rw [HFIN.out]; rfl) (hS1.out.2.1.trans e.h)
        · have ta : (((p.a i).t.kind) == (0)) = false := by rw [beq_eq_false_iff_ne]; omega
          have tb : (((p.a i).t.kind) = (0)) = False := eq_false (by omega)
          have td : (((p.a i).t.kind) != (0)) = true := by rw [bne_iff_ne]; omega
          have ua : (((p.a i).t.kind) == (2)) = true := by rw [beq_iff_eq]; omega
          have ub : (((p.a i).t.kind) = (2)) = True := eq_true (by omega)
          have ud : (((p.a i).t.kind) != (2)) = false := by rw [bne_eq_false_iff_eq]; omega
          clear hk0
          go_wp2_with (first | (refine wpList_mid (by rfl) 47 _ rfl _ 1 rfl _ _ (HRG.out _) Tryz.underlying47 rfl (by kernel_rfl) ?_) | (go_at_call 66; refine (Ret.later (KR.out _)).mono ?_; rintro x _ ⟨rfl, e, rfl⟩))
          go_ret
          exact Ret.mk (by rw [HFIN.out]; rfl) (hS1.out.2.1.trans e.h)
      | true =>
        rw [hr] at KR
        have HY : Hid (ppB p i = true) := hid (by unfold ppB valB; rw [HD1.out, hr]; rfl)
        obtain ⟨ib, hi, hz0, hz1, hz2⟩ := info_parts infoInt
        have HOWN : Hid (∀ e : Later W1, e.x.ownsRow w.heap.size 3 1 (.slice A' i c') i (flatG (numsF (fun j => (p.a j).id)) i)) := hid (fun e => ownsRow_mod hS1.out.2.2.1 e.h (fun _ _ => by simp))
        have HSZ1 : Hid (w.heap.size ≤ W1.heap.size) := hid hS1.out.2.1.size
        clear hr
        rcases hk0 with hk0 | hk0
        · have ta : (((p.a i).t.kind) == (0)) = true := by rw [beq_iff_eq]; omega
          have tb : (((p.a i).t.kind) = (0)) = True := eq_true (by omega)
          have td : (((p.a i).t.kind) != (0)) = false := by rw [bne_eq_false_iff_eq]; omega
          clear hk0
          go_wp2_with (first | (refine wpList_mid (by rfl) 47 _ rfl _ 1 rfl _ _ (HRG.out _) Tryz.underlying47 rfl (by kernel_rfl) ?_) | (go_at_call 66; refine (Ret.later (KR.out _)).mono ?_; rintro x _ ⟨rfl, e, rfl⟩) | (at_builtin; refine wpList_append_own _ rfl _ _ 22 rfl w.heap.size 3 ib _ 1 8 Tryz.underlying22 hi hz0 hz1 hz2 rfl (by decide) _ _ _ rfl ((HOWN.out e).alloc _) ⟨e.x.heap.size, 0, none⟩ 1 1 [.int .i64 (p.a i).id] rfl rfl (fun j u hu => by (match j, hu with | 0, hu => (simp at hu; subst hu; rw [addr_add]; exact (Blk.new _ _ _).cell 0))) (by simp [Value.oneCell']) (by have := HLT.out; have := HK.out; simp [maxLen]; omega) (by have := HLT.out; have := HK.out; omega) (by have := HSZ1.out; have := e.h.size; simp; omega) ?_; intro v' w4 hown' hgrow _; obtain ⟨g', c4, rfl, hg', hlt'⟩ := own_form hown'; have hE4 := own_turned ((HOWN.out e).alloc _) ((hS1.out.2.1.trans e.h).alloc _) hgrow (Nat.le_refl _); have HO4 := hid hown'; have HE4 := hid hE4; clear hown' hgrow hE4 hg' hlt'))
          go_roundw
          case rel => exact ⟨i + 1, some ⟨g', 0, none⟩, c4, by go_num, rfl, (show Hid _ from ⟨HLT.out, HE4.out, by simpa [flatG] using HO4.out, by rw [T.all, hS1.out.2.2.2, HY.out]; rfl⟩)⟩
          case measure => have := HLT.out; simp [intOf]; omega
        · have ta : (((p.a i).t.kind) == (0)) = false := by rw [beq_eq_false_iff_ne]; omega
          have tb : (((p.a i).t.kind) = (0)) = False := eq_false (by omega)
          have td : (((p.a i).t.kind) != (0)) = true := by rw [bne_iff_ne]; omega
          have ua : (((p.a i).t.kind) == (2)) = true := by rw [beq_iff_eq]; omega
          have ub : (((p.a i).t.kind) = (2)) = True := eq_true (by omega)
          have ud : (((p.a i).t.kind) != (2)) = false := by rw [bne_eq_false_iff_eq]; omega
          clear hk0
          go_wp2_with (first | (refine wpList_mid (by rfl) 47 _ rfl _ 1 rfl _ _ (HRG.out _) Tryz.underlying47 rfl (by kernel_rfl) ?_) | (go_at_call 66; refine (Ret.later (KR.out _)).mono ?_; rintro x _ ⟨rfl, e, rfl⟩) | (at_builtin; refine wpList_append_own _ rfl _ _ 22 rfl w.heap.size 3 ib _ 1 8 Tryz.underlying22 hi hz0 hz1 hz2 rfl (by decide) _ _ _ rfl ((HOWN.out e).alloc _) ⟨e.x.heap.size, 0, none⟩ 1 1 [.int .i64 (p.a i).id] rfl rfl (fun j u hu => by (match j, hu with | 0, hu => (simp at hu; subst hu; rw [addr_add]; exact (Blk.new _ _ _).cell 0))) (by simp [Value.oneCell']) (by have := HLT.out; have := HK.out; simp [maxLen]; omega) (by have := HLT.out; have := HK.out; omega) (by have := HSZ1.out; have := e.h.size; simp; omega) ?_; intro v' w4 hown' hgrow _; obtain ⟨g', c4, rfl, hg', hlt'⟩ := own_form hown'; have hE4 := own_turned ((HOWN.out e).alloc _) ((hS1.out.2.1.trans e.h).alloc _) hgrow (Nat.le_refl _); have HO4 := hid hown'; have HE4 := hid hE4; clear hown' hgrow hE4 hg' hlt'))
          go_roundw
          case rel => exact ⟨i + 1, some ⟨g', 0, none⟩, c4, by go_num, rfl, (show Hid _ from ⟨HLT.out, HE4.out, by simpa [flatG] using HO4.out, by rw [T.all, hS1.out.2.2.2, HY.out]; rfl⟩)⟩
          case measure => have := HLT.out; simp [intOf]; omega
    · obtain rfl : i = k := by have := hS.out.1; omega
      have tc : decide (i < i) = false := by simp
      have KU := hid (fun W (hW : Ext wr W) => unlike_any A' (fun j => (p.a j).id) i c' (by have := HK.out; omega) (own_cap hS.out.2.2.1) W ((own_NsL hS.out.2.2.1).ext hW))
      have HFIN : Hid (pairsB p = unlikeB (fun j => (p.a j).id) i) := hid (by unfold pairsB; rw [HKK.out, show T.all (fun i => valB (p.a i).t) i = true from hS.out.2.2.2]; rfl)
      have HE1 := hid hS.out.2.1
      clear hS
      generalize unlikeB (fun j => (p.a j).id) i = B at *
      go_wp2_with (go_at_call 38; refine (KU.out _ (Mod.refl _ _)).mono ?_; rintro e' w' ⟨rfl, hb'⟩)
      go_ret
      exact Ret.mk (by rw [HFIN.out]; rfl) (HE1.out.trans hb')
end Go.Proofs.YtblfmokklfhklaaGreatDoor


namespace Go.Proofs.YtblfmokklfhklaaGreatDoor
open Go.RowKit Go.Shelf
set_option linter.unusedVariables false
set_option linter.unusedSimpArgs false

theorem RsL.at {w W : World} {Q : Nat → Prop} {A : Option Addr} {k : Nat} {f : Nat → PL} (h : RsL w Q A k f) (hW : Ext w W) {i : Nat} (hi : i < k) : ∃ b o Ai ci, A = some ⟨b, o, none⟩ ∧ b < w.heap.size ∧ W.cell? ⟨b, o + i, none⟩ = some (.slice Ai (f i).k ci) ∧ (f i).k ≤ ci ∧ PsL W Q Ai (f i) := by
  obtain ⟨b, o, hA, hb, hq, hc⟩ := h (by omega)
  obtain ⟨Ai, ci, h1, hkc, h2⟩ := hc i hi
  exact ⟨b, o, Ai, ci, hA, hb, (hW.cell hb (by simp)).trans h1, hkc, h2.ext hW⟩
/-- The closure in shaped: are these pairs no results? -/
theorem shaped1_any (p : PL) (hk : p.k < 4611686018427387904) (hok : ∀ i, i < p.k → (p.a i).t.ok) (A : Option Addr) (c : Nat) (w : World) (h : PsL w anyQ A p) : Calls Tryz.prog 43 #[.slice A p.k c] w (Ret (.bool (!resB p)) w) := by
  have HK := hid hk
  have k0 : (p.k : Int) < 4611686018427387904 := by omega
  have KP := hid (fun (h4 : p.k ≤ 100000) W (hW : Ext w W) => pairs_any p h4 hok A c W (h.ext hW))
  have HR : Hid (resB p = (decide (1 ≤ p.k) && decide (p.k ≤ 4) && pairsB p)) := rfl
  generalize pairsB p = B at *
  generalize resB p = R at *
  generalize p.k = k at *
  clear hk hok h
  by_cases h1 : k < 1
  · have t1 : decide (k < 1) = true := decide_eq_true h1
    have t2 : decide ((k : Int) < 1) = true := decide_eq_true (by omega)
    have t3 : ((k : Int) < 1) = True := eq_true (by omega)
    have HX : Hid (R = false) := hid (by rw [HR.out, decide_eq_false (show ¬ 1 ≤ k by omega)]; rfl)
    clear h1
    go_enter Tryz.func43, Tryz.ntmps43
    go_wp2_with fail
    go_ret
    exact Ret.mk (by rw [HX.out]; rfl) (Mod.refl _ _)
  have t1 : decide (k < 1) = false := decide_eq_false h1
  have t2 : decide ((k : Int) < 1) = false := decide_eq_false (by omega)
  have t3 : ((k : Int) < 1) = False := eq_false (by omega)
  have H1 := hid h1
  clear h1
  by_cases h4 : 4 < k
  · have u1 : decide (4 < k) = true := decide_eq_true h4
    have u2 : decide ((4 : Int) < k) = true := decide_eq_true (by omega)
    have u3 : ((4 : Int) < (k : Int)) = True := eq_true (by omega)
    have HX : Hid (R = false) := hid (by rw [HR.out, decide_eq_false (show ¬ k ≤ 4 by omega), Bool.and_false]; rfl)
    clear h4
    go_enter Tryz.func43, Tryz.ntmps43
    go_wp2_with fail
    go_ret
    exact Ret.mk (by rw [HX.out]; rfl) (Mod.refl _ _)
  have u1 : decide (4 < k) = false := decide_eq_false h4
  have u2 : decide ((4 : Int) < k) = false := decide_eq_false (by omega)
  have u3 : ((4 : Int) < (k : Int)) = False := eq_false (by omega)
  have HX : Hid (R = B) := hid (by rw [HR.out, decide_eq_true (show k ≤ 4 by omega), decide_eq_true (show 1 ≤ k by have := H1.out; omega)]; rfl)
  have K := hid (KP.out (by omega) w (Mod.refl _ _))
  clear h4 KP
  go_enter Tryz.func43, Tryz.ntmps43
  go_wp2_with (go_at_call 41; refine K.out.mono ?_; rintro e' w' ⟨rfl, hb'⟩)
  go_ret
  exact Ret.mk (by rw [HX.out]; rfl) hb'
theorem entersS1 : ∀ args w, (callFunc 43 args).run Tryz.prog w = .ok (.enter 43 args) w := enters_of Tryz.func43 (by kernel_rfl) rfl
def noRes (f : Nat → PL) (i : Nat) : Bool := !resB (f i)
set_option maxHeartbeats 1600000 in
theorem IndexR_any (A : Option Addr) (f : Nat → PL) (k c : Nat) (hk : k < 4611686018427387904) (hw : ∀ i, i < k → (f i).wf) (w : World) (h : RsL w anyQ A k f) :
    Calls Tryz.prog 70 #[.slice A k c, .func (.func 43) #[] #[]] w (Ret (.int .i64 (firstI (noRes f) k)) w) := by
  have H := hid h; have HK := hid hk; have HW := hid hw
  clear h hk hw
  have eg := entersS1
  have k1 : (k : Int) < 4611686018427387904 := by have := HK.out; omega
  obtain ⟨e0, he0⟩ := Later.self w
  go_enter Tryz.func70, Tryz.ntmps70
  go_upto_region 2 with fail
  go_loopw [8] (fun s8 wr => ∃ j : Nat, j ≤ k ∧ s8 = .int .i64 (j : Int) ∧ Hid (∀ i, i < j → noRes f i = false) ∧ ∃ e : Later w, wr = e.x) (fun s8 _ => k - (intOf s8).toNat)
  case atStart => exact ⟨0, Nat.zero_le _, rfl, fun i h => absurd h (Nat.not_lt_zero _), e0, (by first | exact he0 | rfl)⟩
  case round =>
    clear he0 e0
    obtain ⟨j, hj, rfl, hno, e, rfl⟩ := hrel
    have j0 : (0 : Int) ≤ (j : Int) := by omega
    by_cases hlt : j < k
    · obtain ⟨b, o, Ai, ci, rfl, hb, c0, hkc, hP⟩ := H.out.at e.h hlt
      have j1 : (j : Int) < (k : Int) := by omega
      have tc : decide (j < k) = true := by simp [hlt]
      have hcall : Calls Tryz.prog 43 (#[.slice Ai (f j).k ci] ++ #[]) e.x (Ret (.bool (noRes f j)) e.x) := shaped1_any (f j) (HW.out j hlt).1 (fun i hi => ((HW.out j hlt).2 i hi).1) Ai ci e.x hP
      have HLT := hid hlt
      clear hlt hP hkc hb
      cases hq : noRes f j with
      | true =>
        rw [hq] at hcall
        have HQ := hid hq
        clear hq
        go_wp2_with (go_at_fn 43; refine (Ret.later hcall).mono ?_; rintro x _ ⟨rfl, e, rfl⟩)
        go_ret
        refine Ret.mk ?_ e.h
        unfold firstI
        rw [firstOf_some HLT.out HQ.out hno.out]; rfl
      | false =>
        rw [hq] at hcall
        have HQ := hid hq
        clear hq
        go_wp2_with (go_at_fn 43; refine (Ret.later hcall).mono ?_; rintro x _ ⟨rfl, e, rfl⟩)
        go_roundw
        case rel =>
          refine ⟨j + 1, by have := HLT.out; omega, by go_num, (show Hid _ from fun i hi => ?_), e, rfl⟩
          by_cases e : i = j
          · subst e; exact HQ.out
          · exact hno.out i (by omega)
        case measure => have := HLT.out; simp [intOf]; omega
    · obtain rfl : j = k := by omega
      have tc : decide (j < j) = false := by simp
      go_wp2_with fail
      go_ret
      refine Ret.mk ?_ e.h
      unfold firstI
      rw [firstOf_none hno.out]; rfl
theorem noRes_all {f : Nat → PL} {k : Nat} : (firstOf (noRes f) k).isSome = !(T.all (fun i => resB (f i)) k) := by
  cases h : firstOf (noRes f) k with
  | none =>
    have := firstOf_no h
    have h2 : T.all (fun i => resB (f i)) k = true := T.all_iff.2 fun i hi => by
      have := this i hi
      unfold noRes at this
      simpa using this
    rw [h2]; rfl
  | some i =>
    obtain ⟨h1, h2, _⟩ := firstOf_spec h
    rw [all_no h1 (by unfold noRes at h2; simpa using h2)]; rfl
theorem ContainsR_any (A : Option Addr) (f : Nat → PL) (k c : Nat) (hk : k < 4611686018427387904) (hw : ∀ i, i < k → (f i).wf) (w : World) (h : RsL w anyQ A k f) :
    Calls Tryz.prog 42 #[.slice A k c, .func (.func 43) #[] #[]] w (Ret (.bool (!(T.all (fun i => resB (f i)) k))) w) := by
  have K := hid (IndexR_any A f k c hk hw w h)
  have hX := hid (firstI_is (p := noRes f) (k := k))
  rw [noRes_all] at hX
  generalize firstI (noRes f) k = X at *
  generalize T.all (fun i => resB (f i)) k = B at *
  clear h
  go_enter Tryz.func42, Tryz.ntmps42
  go_wp2_with (go_at_call 70; refine K.out.mono ?_; rintro e w' ⟨rfl, hb'⟩)
  go_ret
  exact Ret.mk (congrArg Value.bool hX.out) hb'
/-- What is asked first, of targets, context and source. -/
def AV.one (a : AV) : Bool := decide (1 ≤ a.tk) && decide (a.tk ≤ 16) && unlikeB a.tg a.tk && codedB a.ctx && a.src.ok
def AV.two (a : AV) : Bool := decide (a.ps.k ≤ 8) && pairsB a.ps && decide (a.rk = a.tk)
theorem AV.shaped_eq (a : AV) : a.shaped = (a.one && a.two && T.all (fun i => resB (a.rs i)) a.rk) := rfl
end Go.Proofs.YtblfmokklfhklaaGreatDoor


namespace Go.Proofs.YtblfmokklfhklaaGreatDoor
open Go.RowKit
set_option linter.unusedVariables false
set_option linter.unusedSimpArgs false

set_option maxRecDepth 20000 in
set_option maxHeartbeats 4000000 in
theorem shaped_any (a : AV) (hw : a.wf) (m : AA) (hmt : a.tk ≤ m.tc) (w : World) (h : AsL w anyQ a m) : Calls Tryz.prog 19 #[asbV a m] w (Ret (.bool a.shaped) w) := by
  have HE := hid ((Mod.refl [] w).alloc (.cells (asbC a m) 29))
  have HB0 := hid (Blk.new w 29 (asbC a m))
  have HL := hid (h.ext HE.out)
  have HW := hid hw
  clear h
  go_enter Tryz.func19, Tryz.ntmps19
  go_upto_region 1 with fail
  generalize w.alloc (.cells (asbC a m) 29) = V at *
  have b0 : ∀ e : Later V, e.x.cell? ⟨w.heap.size, 0, none⟩ = some (.slice m.t a.tk m.tc) := HB0.out.cellL 0 rfl
  have b1 : ∀ e : Later V, e.x.cell? ⟨w.heap.size, 1, none⟩ = some (.int .i64 a.ctx) := HB0.out.cellL 1 rfl
  have b6 : ∀ e : Later V, e.x.cell? ⟨w.heap.size, 6, none⟩ = some (.slice m.p a.ps.k m.pc) := HB0.out.cellL 6 rfl
  have b7 : ∀ e : Later V, e.x.cell? ⟨w.heap.size, 7, none⟩ = some (.slice m.r a.rk m.rc) := HB0.out.cellL 7 rfl
  have HRE : Hid (∀ e : Later V, e.x.rangeAt w.heap.size 2 [.int .i64 a.src.sch, str a.src.name, .int .u64 (a.src.node : Int), .int .u64 (a.src.svc : Int)]) := HB0.out.range 2 4 (by rfl)
  have KU := hid (fun e : Later V => unlike_any m.t a.tg a.tk m.tc hw.1.1 hmt e.x (HL.out.t.ext e.h))
  have KC := hid (fun W => coded_any a.ctx W)
  have KE := hid (fun W => eidRight_any a.src hw.2.2.1 W)
  have KP := hid (fun (h8 : a.ps.k ≤ 100000) (e : Later V) => pairs_any a.ps h8 (fun i hi => (hw.2.2.2.1.2 i hi).1) m.p m.pc e.x (HL.out.p.ext e.h))
  have KR := hid (fun e : Later V => ContainsR_any m.r a.rs a.rk m.rc hw.2.2.2.2.1 hw.2.2.2.2.2 e.x (HL.out.r.ext e.h))
  have tk0 : (a.tk : Int) < 4611686018427387904 := by have := hw.1.1; omega
  have rk0 : (a.rk : Int) < 4611686018427387904 := by have := hw.2.2.2.2.1; omega
  have pk0 : (a.ps.k : Int) < 4611686018427387904 := by have := hw.2.2.2.1.1; omega
  clear hw hmt
  obtain ⟨e, he⟩ := Later.self V
  rw [he]
  clear he
  by_cases hc : a.tk < 1
  case pos =>
    have taa : decide (a.tk < 1) = true := decide_eq_true (by omega)
    have tab : (a.tk < 1) = True := eq_true (by omega)
    have tba : decide ((a.tk : Int) < 1) = true := decide_eq_true (by omega)
    have tbb : ((a.tk : Int) < 1) = True := eq_true (by omega)
    have HC := hid hc
    clear hc
    have HX : Hid (a.shaped = false) := hid (by cases hh : a.shaped with | false => rfl | true => exact absurd (AV.shaped_iff.1 hh) (by rintro ⟨⟨g1, g2⟩, g3, g4, g5, g6, g7, g8, g9⟩; have := HC.out; omega))
    have tk1 : True := trivial
    go_wp2_with (first | (clear tk1; refine wpList_mid (by rfl) 25 _ rfl _ 2 rfl _ _ (HRE.out _) Tryz.underlying25 rfl (by kernel_rfl) ?_) | (go_at_call 38; refine (Ret.later (KU.out _)).mono ?_; rintro x _ ⟨rfl, e, rfl⟩) | (go_at_call 39; refine (KC.out _).mono ?_; rintro e' w' ⟨rfl, rfl⟩) | (go_at_call 40; refine (Ret.later (KE.out _)).mono ?_; rintro x _ ⟨rfl, e, rfl⟩) | (go_at_call 41; refine (Ret.later (KP.out (by assumption) _)).mono ?_; rintro x _ ⟨rfl, e, rfl⟩) | (go_at_call 42; refine (Ret.later (KR.out _)).mono ?_; rintro x _ ⟨rfl, e, rfl⟩))
    go_ret
    exact Ret.mk (by rw [HX.out]; rfl) (HE.out.trans e.h)
  have taa : decide (a.tk < 1) = false := decide_eq_false (by omega)
  have tab : (a.tk < 1) = False := eq_false (by omega)
  have tba : decide ((a.tk : Int) < 1) = false := decide_eq_false (by omega)
  have tbb : ((a.tk : Int) < 1) = False := eq_false (by omega)
  have H1 := hid hc
  clear hc
  by_cases hc : 16 < a.tk
  case pos =>
    have tca : decide (16 < a.tk) = true := decide_eq_true (by omega)
    have tcb : (16 < a.tk) = True := eq_true (by omega)
    have tda : decide ((16 : Int) < (a.tk : Int)) = true := decide_eq_true (by omega)
    have tdb : ((16 : Int) < (a.tk : Int)) = True := eq_true (by omega)
    have HC := hid hc
    clear hc
    have HX : Hid (a.shaped = false) := hid (by cases hh : a.shaped with | false => rfl | true => exact absurd (AV.shaped_iff.1 hh) (by rintro ⟨⟨g1, g2⟩, g3, g4, g5, g6, g7, g8, g9⟩; have := HC.out; omega))
    have tk1 : True := trivial
    go_wp2_with (first | (clear tk1; refine wpList_mid (by rfl) 25 _ rfl _ 2 rfl _ _ (HRE.out _) Tryz.underlying25 rfl (by kernel_rfl) ?_) | (go_at_call 38; refine (Ret.later (KU.out _)).mono ?_; rintro x _ ⟨rfl, e, rfl⟩) | (go_at_call 39; refine (KC.out _).mono ?_; rintro e' w' ⟨rfl, rfl⟩) | (go_at_call 40; refine (Ret.later (KE.out _)).mono ?_; rintro x _ ⟨rfl, e, rfl⟩) | (go_at_call 41; refine (Ret.later (KP.out (by assumption) _)).mono ?_; rintro x _ ⟨rfl, e, rfl⟩) | (go_at_call 42; refine (Ret.later (KR.out _)).mono ?_; rintro x _ ⟨rfl, e, rfl⟩))
    go_ret
    exact Ret.mk (by rw [HX.out]; rfl) (HE.out.trans e.h)
  have tca : decide (16 < a.tk) = false := decide_eq_false (by omega)
  have tcb : (16 < a.tk) = False := eq_false (by omega)
  have tda : decide ((16 : Int) < (a.tk : Int)) = false := decide_eq_false (by omega)
  have tdb : ((16 : Int) < (a.tk : Int)) = False := eq_false (by omega)
  have H16 := hid hc
  clear hc
  cases hc : unlikeB a.tg a.tk with
  | false =>
    rw [hc] at KU
    have HC := hid hc
    clear hc
    have HX : Hid (a.shaped = false) := hid (by cases hh : a.shaped with | false => rfl | true => exact absurd (AV.shaped_iff.1 hh) (by rintro ⟨⟨g1, g2⟩, g3, g4, g5, g6, g7, g8, g9⟩; rw [HC.out] at g3; cases g3))
    have tk1 : True := trivial
    go_wp2_with (first | (clear tk1; refine wpList_mid (by rfl) 25 _ rfl _ 2 rfl _ _ (HRE.out _) Tryz.underlying25 rfl (by kernel_rfl) ?_) | (go_at_call 38; refine (Ret.later (KU.out _)).mono ?_; rintro x _ ⟨rfl, e, rfl⟩) | (go_at_call 39; refine (KC.out _).mono ?_; rintro e' w' ⟨rfl, rfl⟩) | (go_at_call 40; refine (Ret.later (KE.out _)).mono ?_; rintro x _ ⟨rfl, e, rfl⟩) | (go_at_call 41; refine (Ret.later (KP.out (by assumption) _)).mono ?_; rintro x _ ⟨rfl, e, rfl⟩) | (go_at_call 42; refine (Ret.later (KR.out _)).mono ?_; rintro x _ ⟨rfl, e, rfl⟩))
    go_ret
    exact Ret.mk (by rw [HX.out]; rfl) (HE.out.trans e.h)
  | true =>
  rw [hc] at KU
  have H3 := hid hc
  clear hc
  cases hc : codedB a.ctx with
  | false =>
    rw [hc] at KC
    have HC := hid hc
    clear hc
    have HX : Hid (a.shaped = false) := hid (by cases hh : a.shaped with | false => rfl | true => exact absurd (AV.shaped_iff.1 hh) (by rintro ⟨⟨g1, g2⟩, g3, g4, g5, g6, g7, g8, g9⟩; rw [HC.out] at g4; cases g4))
    have tk1 : True := trivial
    go_wp2_with (first | (clear tk1; refine wpList_mid (by rfl) 25 _ rfl _ 2 rfl _ _ (HRE.out _) Tryz.underlying25 rfl (by kernel_rfl) ?_) | (go_at_call 38; refine (Ret.later (KU.out _)).mono ?_; rintro x _ ⟨rfl, e, rfl⟩) | (go_at_call 39; refine (KC.out _).mono ?_; rintro e' w' ⟨rfl, rfl⟩) | (go_at_call 40; refine (Ret.later (KE.out _)).mono ?_; rintro x _ ⟨rfl, e, rfl⟩) | (go_at_call 41; refine (Ret.later (KP.out (by assumption) _)).mono ?_; rintro x _ ⟨rfl, e, rfl⟩) | (go_at_call 42; refine (Ret.later (KR.out _)).mono ?_; rintro x _ ⟨rfl, e, rfl⟩))
    go_ret
    exact Ret.mk (by rw [HX.out]; rfl) (HE.out.trans e.h)
  | true =>
  rw [hc] at KC
  have H4 := hid hc
  clear hc
  cases hc : a.src.ok with
  | false =>
    rw [hc] at KE
    have HC := hid hc
    clear hc
    have HX : Hid (a.shaped = false) := hid (by cases hh : a.shaped with | false => rfl | true => exact absurd (AV.shaped_iff.1 hh) (by rintro ⟨⟨g1, g2⟩, g3, g4, g5, g6, g7, g8, g9⟩; rw [HC.out] at g5; cases g5))
    have tk1 : True := trivial
    go_wp2_with (first | (clear tk1; refine wpList_mid (by rfl) 25 _ rfl _ 2 rfl _ _ (HRE.out _) Tryz.underlying25 rfl (by kernel_rfl) ?_) | (go_at_call 38; refine (Ret.later (KU.out _)).mono ?_; rintro x _ ⟨rfl, e, rfl⟩) | (go_at_call 39; refine (KC.out _).mono ?_; rintro e' w' ⟨rfl, rfl⟩) | (go_at_call 40; refine (Ret.later (KE.out _)).mono ?_; rintro x _ ⟨rfl, e, rfl⟩) | (go_at_call 41; refine (Ret.later (KP.out (by assumption) _)).mono ?_; rintro x _ ⟨rfl, e, rfl⟩) | (go_at_call 42; refine (Ret.later (KR.out _)).mono ?_; rintro x _ ⟨rfl, e, rfl⟩))
    go_ret
    exact Ret.mk (by rw [HX.out]; rfl) (HE.out.trans e.h)
  | true =>
  rw [hc] at KE
  have H5 := hid hc
  clear hc
  by_cases hc : 8 < a.ps.k
  case pos =>
    have tea : decide (8 < a.ps.k) = true := decide_eq_true (by omega)
    have teb : (8 < a.ps.k) = True := eq_true (by omega)
    have tfa : decide ((8 : Int) < (a.ps.k : Int)) = true := decide_eq_true (by omega)
    have tfb : ((8 : Int) < (a.ps.k : Int)) = True := eq_true (by omega)
    have HC := hid hc
    clear hc
    have HX : Hid (a.shaped = false) := hid (by cases hh : a.shaped with | false => rfl | true => exact absurd (AV.shaped_iff.1 hh) (by rintro ⟨⟨g1, g2⟩, g3, g4, g5, g6, g7, g8, g9⟩; have := HC.out; omega))
    have tk1 : True := trivial
    go_wp2_with (first | (clear tk1; refine wpList_mid (by rfl) 25 _ rfl _ 2 rfl _ _ (HRE.out _) Tryz.underlying25 rfl (by kernel_rfl) ?_) | (go_at_call 38; refine (Ret.later (KU.out _)).mono ?_; rintro x _ ⟨rfl, e, rfl⟩) | (go_at_call 39; refine (KC.out _).mono ?_; rintro e' w' ⟨rfl, rfl⟩) | (go_at_call 40; refine (Ret.later (KE.out _)).mono ?_; rintro x _ ⟨rfl, e, rfl⟩) | (go_at_call 41; refine (Ret.later (KP.out (by assumption) _)).mono ?_; rintro x _ ⟨rfl, e, rfl⟩) | (go_at_call 42; refine (Ret.later (KR.out _)).mono ?_; rintro x _ ⟨rfl, e, rfl⟩))
    go_ret
    exact Ret.mk (by rw [HX.out]; rfl) (HE.out.trans e.h)
  have tea : decide (8 < a.ps.k) = false := decide_eq_false (by omega)
  have teb : (8 < a.ps.k) = False := eq_false (by omega)
  have tfa : decide ((8 : Int) < (a.ps.k : Int)) = false := decide_eq_false (by omega)
  have tfb : ((8 : Int) < (a.ps.k : Int)) = False := eq_false (by omega)
  have H8 := hid hc
  have h100 : a.ps.k ≤ 100000 := by omega
  clear hc
  cases hc : pairsB a.ps with
  | false =>
    rw [hc] at KP
    have HC := hid hc
    clear hc
    have HX : Hid (a.shaped = false) := hid (by cases hh : a.shaped with | false => rfl | true => exact absurd (AV.shaped_iff.1 hh) (by rintro ⟨⟨g1, g2⟩, g3, g4, g5, g6, g7, g8, g9⟩; rw [HC.out] at g7; cases g7))
    have tk1 : True := trivial
    go_wp2_with (first | (clear tk1; refine wpList_mid (by rfl) 25 _ rfl _ 2 rfl _ _ (HRE.out _) Tryz.underlying25 rfl (by kernel_rfl) ?_) | (go_at_call 38; refine (Ret.later (KU.out _)).mono ?_; rintro x _ ⟨rfl, e, rfl⟩) | (go_at_call 39; refine (KC.out _).mono ?_; rintro e' w' ⟨rfl, rfl⟩) | (go_at_call 40; refine (Ret.later (KE.out _)).mono ?_; rintro x _ ⟨rfl, e, rfl⟩) | (go_at_call 41; refine (Ret.later (KP.out (by assumption) _)).mono ?_; rintro x _ ⟨rfl, e, rfl⟩) | (go_at_call 42; refine (Ret.later (KR.out _)).mono ?_; rintro x _ ⟨rfl, e, rfl⟩))
    go_ret
    exact Ret.mk (by rw [HX.out]; rfl) (HE.out.trans e.h)
  | true =>
  rw [hc] at KP
  have H7 := hid hc
  clear hc
  by_cases hc : a.rk ≠ a.tk
  case pos =>
    have tga : (((a.rk : Int)) == ((a.tk : Int))) = false := by rw [beq_eq_false_iff_ne]; omega
    have tgb : (((a.rk : Int)) = ((a.tk : Int))) = False := eq_false (by omega)
    have tgc : (((a.rk : Int)) != ((a.tk : Int))) = true := by rw [bne_iff_ne]; omega
    have tha : ((a.rk) == (a.tk)) = false := by rw [beq_eq_false_iff_ne]; omega
    have thb : ((a.rk) = (a.tk)) = False := eq_false (by omega)
    have thc : ((a.rk) != (a.tk)) = true := by rw [bne_iff_ne]; omega
    have HC := hid hc
    clear hc
    have HX : Hid (a.shaped = false) := hid (by cases hh : a.shaped with | false => rfl | true => exact absurd (AV.shaped_iff.1 hh) (by rintro ⟨⟨g1, g2⟩, g3, g4, g5, g6, g7, g8, g9⟩; exact HC.out g8))
    have tk1 : True := trivial
    go_wp2_with (first | (clear tk1; refine wpList_mid (by rfl) 25 _ rfl _ 2 rfl _ _ (HRE.out _) Tryz.underlying25 rfl (by kernel_rfl) ?_) | (go_at_call 38; refine (Ret.later (KU.out _)).mono ?_; rintro x _ ⟨rfl, e, rfl⟩) | (go_at_call 39; refine (KC.out _).mono ?_; rintro e' w' ⟨rfl, rfl⟩) | (go_at_call 40; refine (Ret.later (KE.out _)).mono ?_; rintro x _ ⟨rfl, e, rfl⟩) | (go_at_call 41; refine (Ret.later (KP.out (by assumption) _)).mono ?_; rintro x _ ⟨rfl, e, rfl⟩) | (go_at_call 42; refine (Ret.later (KR.out _)).mono ?_; rintro x _ ⟨rfl, e, rfl⟩))
    go_ret
    exact Ret.mk (by rw [HX.out]; rfl) (HE.out.trans e.h)
  have tga : (((a.rk : Int)) == ((a.tk : Int))) = true := by rw [beq_iff_eq]; omega
  have tgb : (((a.rk : Int)) = ((a.tk : Int))) = True := eq_true (by omega)
  have tgc : (((a.rk : Int)) != ((a.tk : Int))) = false := by rw [bne_eq_false_iff_eq]; omega
  have tha : ((a.rk) == (a.tk)) = true := by rw [beq_iff_eq]; omega
  have thb : ((a.rk) = (a.tk)) = True := eq_true (by omega)
  have thc : ((a.rk) != (a.tk)) = false := by rw [bne_eq_false_iff_eq]; omega
  have H9 : Hid (a.rk = a.tk) := hid (by omega)
  clear hc
  have HX : Hid (a.shaped = T.all (fun i => resB (a.rs i)) a.rk) := hid (by
    rw [AV.shaped_eq]
    unfold AV.one AV.two
    rw [H3.out, H4.out, H5.out, H7.out, decide_eq_true H9.out, decide_eq_true (show a.ps.k ≤ 8 by have := H8.out; omega), decide_eq_true (show a.tk ≤ 16 by have := H16.out; omega), decide_eq_true (show 1 ≤ a.tk by have := H1.out; omega)]
    simp)
  generalize T.all (fun i => resB (a.rs i)) a.rk = B at *
  have tk1 : True := trivial
  go_wp2_with (first | (clear tk1; refine wpList_mid (by rfl) 25 _ rfl _ 2 rfl _ _ (HRE.out _) Tryz.underlying25 rfl (by kernel_rfl) ?_) | (go_at_call 38; refine (Ret.later (KU.out _)).mono ?_; rintro x _ ⟨rfl, e, rfl⟩) | (go_at_call 39; refine (KC.out _).mono ?_; rintro e' w' ⟨rfl, rfl⟩) | (go_at_call 40; refine (Ret.later (KE.out _)).mono ?_; rintro x _ ⟨rfl, e, rfl⟩) | (go_at_call 41; refine (Ret.later (KP.out (by assumption) _)).mono ?_; rintro x _ ⟨rfl, e, rfl⟩) | (go_at_call 42; refine (Ret.later (KR.out _)).mono ?_; rintro x _ ⟨rfl, e, rfl⟩))
  go_ret
  exact Ret.mk (by rw [HX.out]; simp) (HE.out.trans e.h)
end Go.Proofs.YtblfmokklfhklaaGreatDoor


namespace Go.Proofs.YtblfmokklfhklaaGreatDoor
open Go.RowKit
set_option linter.unusedVariables false
set_option linter.unusedSimpArgs false

abbrev offA (A : Option Addr) : Nat → Prop := fun b => ∀ g, A = some g → b ≠ g.block
def obs : Option Addr → List Nat
  | some g => [g.block]
  | none => []
theorem offA_obs {A : Option Addr} {b : Nat} (h : offA A b) : b ∉ obs A := by
  cases A with
  | none => simp [obs]
  | some g => have := h g rfl; simp [obs, this]
structure Rw (W : World) (Q : Nat → Prop) (base : Nat) (A : Option Addr) (c n : Nat) (ch : Nat → T) (ac : Nat → Option Addr × Nat) : Prop where
  own : W.ownsRow base 47 5 (.slice A n c) n (flatC ch ac n)
  kid : ∀ j, j < n → IsL W (fun b => Q b ∧ offA A b) (ch j) (ac j).1
section
variable {W W' : World} {Q : Nat → Prop} {base c n : Nat} {A : Option Addr} {ch : Nat → T} {ac : Nat → Option Addr × Nat}
theorem Rw.nil : Rw W Q base none 0 0 ch ac := ⟨World.ownsRow_nil _ _ _ _, fun j hj => by omega⟩
theorem Rw.mod {S : List Nat} (h : Rw W Q base A c n ch ac) (hm : Mod S W W') (hs : ∀ k, k < W.heap.size → k ∉ S) : Rw W' Q base A c n ch ac :=
  ⟨ownsRow_mod h.own hm (fun k hk => hs k ((h.own.lt k hk).2)), fun j hj => IsL.mod hm (fun k _ hk => hs k hk) _ (h.kid j hj)⟩
theorem Rw.ext (h : Rw W Q base A c n ch ac) (hm : Ext W W') : Rw W' Q base A c n ch ac := h.mod hm (by simp)
/-- Where other blocks turn: its own block, and what hangs on its items, in Q. -/
theorem Rw.isL (h : Rw W Q base A c n ch ac) (hq : ∀ b, base ≤ b → Q b) : IsL W Q (T.mk 4 0 [] false n ch) A := fun h0 => by
  obtain ⟨m, rfl⟩ : ∃ m, n = m + 1 := ⟨n - 1, by omega⟩
  obtain ⟨g, c', hv, hb, hlt⟩ := own_form h.own
  simp only [Value.slice.injEq] at hv
  obtain ⟨rfl, _, rfl⟩ := hv
  exact own_IsL hlt (hq _ hb) h.own (fun i hi => IsL.weak (fun _ _ h => h.1) _ (h.kid i hi)) (by omega)
theorem obs_own : (Value.slice A n c).ownBlock = A.map (·.block) := by cases A <;> rfl
theorem grown_obs (hgr : W.grownBy W' (Value.slice A n c).ownBlock) : Mod (obs A) W W' := by
  refine (Mod.refl _ _).grown hgr (fun k hk => .inl ?_)
  cases A with
  | none => cases hk
  | some g =>
    have : g.block = k := by simpa [Value.ownBlock] using hk
    simp [obs, this]
theorem Rw.append (h : Rw W Q base A c n ch ac) {t : T} {At : Option Addr} {ct : Nat} (hI : IsL W (fun b => Q b ∧ offA A b) t At) (ht : ch n = t) {g cap : Nat}
    (hown : W'.ownsRow base 47 5 (.slice (some ⟨g, 0, none⟩) (n + 1) cap) (n + 1) (flatC ch ac n ++ [.int .i64 t.kind, .int .u64 (t.n : Int), str t.s, .slice At t.k ct, .bool t.op]))
    (hgr : W.grownBy W' (Value.slice A n c).ownBlock) (hat : (Value.slice A n c).ownBlock = some g ∨ g = W.heap.size) : ∃ ac', Rw W' Q base (some ⟨g, 0, none⟩) cap (n + 1) ch ac' := by
  subst ht
  have hm : Mod (obs A) W W' := grown_obs hgr
  have key : ∀ {x : T} {Ax : Option Addr}, IsL W (fun b => Q b ∧ offA A b) x Ax → IsL W' (fun b => Q b ∧ offA (some ⟨g, 0, none⟩) b) x Ax := by
    intro x Ax hx
    have h1 := IsL.weak (R := fun b => (Q b ∧ offA A b) ∧ b ≠ g) (fun b hb hq => ⟨hq, by
      rcases hat with hat | hat
      · cases A with
        | none => cases hat
        | some a =>
          have : a.block = g := by simpa [Value.ownBlock] using hat
          rw [← this]; exact hq.2 a rfl
      · omega⟩) _ hx
    have h2 := IsL.mod hm (fun k hk _ => offA_obs hk.1.2) _ h1
    exact IsL.weak (fun b _ hq => ⟨hq.1.1, fun g' hg' => by cases hg'; exact hq.2⟩) _ h2
  refine ⟨fun j => if j = n then (At, ct) else ac j, ?_, fun j hj => ?_⟩
  · rw [flatC, flatC_congr (ch' := ch) (ac' := ac) (fun j hj => ⟨rfl, by rw [if_neg (by omega)]⟩)]
    simpa using hown
  · by_cases e : j = n
    · subst e
      simpa using key hI
    · simpa [e] using key (h.kid j (by omega))
theorem Rw.weak {R : Nat → Prop} (h : Rw W Q base A c n ch ac) (hq : ∀ k, k < W.heap.size → Q k → R k) : Rw W R base A c n ch ac :=
  ⟨h.own, fun j hj => IsL.weak (fun b hb hh => ⟨hq b hb hh.1, hh.2⟩) _ (h.kid j hj)⟩
theorem Rw.modQ {S : List Nat} (h : Rw W Q base A c n ch ac) (hm : Mod S W W') (ho : ∀ g, A = some g → g.block ∉ S) (hs : ∀ k, Q k → k < W.heap.size → k ∉ S) : Rw W' Q base A c n ch ac :=
  ⟨ownsRow_mod h.own hm (fun k hk => by
    cases A with
    | none => cases hk
    | some g =>
      have : g.block = k := by simpa [Value.ownBlock] using hk
      rw [← this]; exact ho g rfl), fun j hj => IsL.mod hm (fun k hk hlt => hs k hk.1 hlt) _ (h.kid j hj)⟩
/-- Two rows: the first grows. -/
theorem two_first {A1 : Option Addr} {n1 c1 g1 : Nat} (h : Rw W (offA A1) base A c n ch ac) (hap : ∀ g, A = some g → offA A1 g.block)
    (hgr : W.grownBy W' (Value.slice A1 n1 c1).ownBlock) (hat : (Value.slice A1 n1 c1).ownBlock = some g1 ∨ g1 = W.heap.size) :
    Rw W' (offA (some ⟨g1, 0, none⟩)) base A c n ch ac ∧ ∀ g, A = some g → offA (some ⟨g1, 0, none⟩) g.block := by
  have key : ∀ b, b < W.heap.size → offA A1 b → offA A1 b ∧ b ≠ g1 := fun b hb hq => ⟨hq, by
    rcases hat with hat | hat
    · cases A1 with
      | none => cases hat
      | some a =>
        have : a.block = g1 := by simpa [Value.ownBlock] using hat
        rw [← this]; exact hq a rfl
    · omega⟩
  have hlt : ∀ g, A = some g → g.block < W.heap.size := fun g hg => (h.own.lt g.block (by subst hg; rfl)).2
  refine ⟨?_, fun g hg g' hg' => by cases hg'; exact (key g.block (hlt g hg) (hap g hg)).2⟩
  refine Rw.weak ((h.weak key).modQ (grown_obs hgr) (fun g hg => offA_obs (hap g hg)) (fun k hk _ => offA_obs hk.1)) fun k _ hk g' hg' => ?_
  cases hg'; exact hk.2
/-- Two rows: the second grows. -/
theorem two_second {A1 : Option Addr} {n1 c1 g2 : Nat} {xs : List Value} (h1 : W.ownsRow base 47 5 (.slice A1 n1 c1) n1 xs) (hap : ∀ g, A = some g → offA A1 g.block)
    (hgr : W.grownBy W' (Value.slice A n c).ownBlock) (hat : (Value.slice A n c).ownBlock = some g2 ∨ g2 = W.heap.size) :
    W'.ownsRow base 47 5 (.slice A1 n1 c1) n1 xs ∧ ∀ g, (some ⟨g2, 0, none⟩ : Option Addr) = some g → offA A1 g.block := by
  constructor
  · refine ownsRow_mod h1 (grown_obs hgr) (fun k hk => ?_)
    cases A1 with
    | none => cases hk
    | some a =>
      have e : a.block = k := by simpa [Value.ownBlock] using hk
      rw [← e]
      cases A with
      | none => simp [obs]
      | some g =>
        have := hap g rfl a rfl
        simp [obs]; omega
  · intro g hg a ha
    cases hg
    have hlt := (h1.lt a.block (by subst ha; rfl)).2
    rcases hat with hat | hat
    · cases A with
      | none => cases hat
      | some g =>
        have e : g.block = g2 := by simpa [Value.ownBlock] using hat
        have := hap g rfl a ha
        show g2 ≠ a.block
        omega
    · show g2 ≠ a.block
      omega
end
end Go.Proofs.YtblfmokklfhklaaGreatDoor


namespace Go.Proofs.YtblfmokklfhklaaGreatDoor
open Go.RowKit
set_option linter.unusedVariables false
set_option linter.unusedSimpArgs false

/-- The cells l, stored into block b from cell i on. -/
def setRow (W : World) (b : Nat) : Nat → List Value → World
  | _, [] => W
  | i, v :: l => setRow (W.setCell ⟨b, i, none⟩ v) b (i + 1) l
def writeFrom (cs : Array Value) : Nat → List Value → Array Value
  | _, [] => cs
  | i, v :: l => writeFrom (cs.setIfInBounds i v) (i + 1) l
theorem setRow_blk {t : TypeId} {b : Nat} : ∀ (l : List Value) (W : World) (i : Nat) (cs : Array Value), Blk W b t cs → Blk (setRow W b i l) b t (writeFrom cs i l)
  | [], _, _, _, h => h
  | v :: l, W, i, cs, h => setRow_blk l _ _ _ (h.set_ i v)
theorem writeFrom_size : ∀ (l : List Value) (i : Nat) (cs : Array Value), (writeFrom cs i l).size = cs.size
  | [], _, _ => rfl
  | v :: l, i, cs => by rw [writeFrom, writeFrom_size l]; simp
theorem writeFrom_get : ∀ (l : List Value) (i : Nat) (cs : Array Value) (j : Nat), i + l.length ≤ cs.size → (writeFrom cs i l)[j]? = if i ≤ j ∧ j < i + l.length then l[j - i]? else cs[j]?
  | [], i, cs, j, _ => by
    rw [writeFrom, if_neg (by simp)]
  | v :: l, i, cs, j, h => by
    have h2 : i + (l.length + 1) ≤ cs.size := h
    rw [writeFrom, writeFrom_get l (i + 1) _ j (by simp; omega)]
    by_cases e : j = i
    · subst e
      rw [if_neg (by omega), if_pos ⟨by omega, by simp⟩]
      simp [show j < cs.size by omega]
    · by_cases a : i + 1 ≤ j ∧ j < i + 1 + l.length
      · rw [if_pos a, if_pos ⟨by omega, by simp; omega⟩, show j - i = (j - (i + 1)) + 1 by omega, List.getElem?_cons_succ]
      · rw [if_neg a, if_neg (by simp; omega), Array.getElem?_setIfInBounds, if_neg (fun h => e h.symm)]
theorem writeFrom_all (cs : Array Value) (l : List Value) (h : l.length = cs.size) : writeFrom cs 0 l = l.toArray := by
  apply Array.ext_getElem?
  intro j
  rw [writeFrom_get l 0 cs j (by omega)]
  by_cases hj : j < l.length
  · rw [if_pos ⟨by omega, by omega⟩]; simp
  · rw [if_neg (by omega), Array.getElem?_eq_none (by omega), Array.getElem?_eq_none (by simp; omega)]
theorem setRow_all {t : TypeId} {b : Nat} {W : World} {cs ds : Array Value} (h : Blk W b t cs) (hs : ds.toList.length = cs.size) : Blk (setRow W b 0 ds.toList) b t ds := by
  have := setRow_blk ds.toList W 0 cs h
  rw [writeFrom_all cs ds.toList hs] at this
  simpa using this
theorem setRow_mod {w : World} {S : List Nat} {b : Nat} : ∀ (l : List Value) (W : World) (i : Nat), Mod S w W → (b ∈ S ∨ w.heap.size ≤ b) → Mod S w (setRow W b i l)
  | [], _, _, h, _ => h
  | v :: l, W, i, h, hb => setRow_mod l _ _ (h.setCell (p := ⟨b, i, none⟩) hb v) hb
theorem setRow_eq {b : Nat} : ∀ (l : List Value) (W : World) (i : Nat), setRow W b i l = W.setCells b i l
  | [], _, _ => rfl
  | v :: l, W, i => setRow_eq l _ _
theorem setCells_all {t : TypeId} {b : Nat} {W : World} {cs ds : Array Value} (h : Blk W b t cs) (hs : ds.toList.length = cs.size) : Blk (W.setCells b 0 ds.toList) b t ds := setRow_eq ds.toList W 0 ▸ setRow_all h hs
theorem setCells_mod {w W : World} {S : List Nat} {b : Nat} (l : List Value) (i : Nat) (h : Mod S w W) (hb : b ∈ S ∨ w.heap.size ≤ b) : Mod S w (W.setCells b i l) := setRow_eq l W i ▸ setRow_mod l W i h hb
theorem Blk.there {W : World} {b : Nat} {t : TypeId} {cs : Array Value} (h : Blk W b t cs) {n : Nat} (hn : n ≤ cs.size) : W.there b 0 n := fun j hj => by
  rw [Nat.zero_add]
  refine ⟨?_, h.frozen j⟩
  rw [h.cell j, Array.getElem?_eq_getElem (by omega)]; rfl
/-- A struct result lies in a block that is known whole. -/
theorem results_cell {P : Program} {fn : Func} {t : Tmp} {ty : TypeId} (h : fn.results = #[.cell t ty]) (tmps : Array Value) {g : Nat} (ht : tmps.getD t undef = .pointer (some ⟨g, 0, none⟩)) {W : World} {tt : TypeId} {cs : Array Value} {d : TypeDesc} (hb : Blk W g tt cs)
    (hu : P.underlying ty = some d) (hd : (match d with | .struct _ | .array _ _ => true | _ => false) = true) (hi : (P.info? ty).map (·.size) = some cs.size) : (results fn tmps).run P W = .ok (.agg cs) W := by
  have hl := run_loadVar_row (P := P) W g tt ty cs (0, 0) d hb hu hd hi
  have ht2 : tmps[t]?.getD undef = .pointer (some ⟨g, 0, none⟩) := by simpa using ht
  simp [results, h, ht2, asAddr, hl]
theorem results_cell2 {P : Program} {fn : Func} {t u : Tmp} {ty : TypeId} (h : fn.results = #[.cell t ty, .tmp u]) (tmps : Array Value) {g : Nat} (ht : tmps.getD t undef = .pointer (some ⟨g, 0, none⟩)) {v : Value} (hv : tmps.getD u undef = v) {W : World} {tt : TypeId} {cs : Array Value} {d : TypeDesc} (hb : Blk W g tt cs)
    (hu : P.underlying ty = some d) (hd : (match d with | .struct _ | .array _ _ => true | _ => false) = true) (hi : (P.info? ty).map (·.size) = some cs.size) : (results fn tmps).run P W = .ok (.tuple #[.agg cs, v]) W := by
  have hl := run_loadVar_row (P := P) W g tt ty cs (0, 0) d hb hu hd hi
  have ht2 : tmps[t]?.getD undef = .pointer (some ⟨g, 0, none⟩) := by simpa using ht
  have hv2 : tmps[u]?.getD undef = v := by simpa using hv
  simp [results, h, ht2, hv2, asAddr, hl, Result.andThen_ok]
end Go.Proofs.YtblfmokklfhklaaGreatDoor


namespace Go.Proofs.YtblfmokklfhklaaGreatDoor
open Go.RowKit
set_option linter.unusedVariables false
set_option linter.unusedSimpArgs false

theorem yieldsIf_mid {P : Program} {ops : Array Oper} {S : World → Prop} {op : Oper} {a : Act} (hw : Region.wanted op (yielded ops a.tmps) = true) (ty : TypeId) (x : Operand) (ho : op.op = .load ty x) (b o : Nat) (hx : a.eval x = .pointer (some ⟨b, o, none⟩))
    (cs : List Value) {d : TypeDesc} (hS : ∀ w, S w → w.rangeAt b o cs) (hu : P.underlying ty = some d) (hd : d.isRow = true)
    (hi : (P.info? ty).map (·.size) = some cs.length) : YieldsIf P ops S op (.agg cs.toArray) a :=
  .inl ⟨hw, fun w hw' => by
    unfold execOp
    simp only [ho, hx, Instr.loadAt, Instr.sureAddr, Sem.run_bind, Sem.run_pure, Result.andThen_ok, run_loadVar_mid w b o ty cs d (hS w hw') hu hd hi]⟩
theorem Blk.rangeE {w W : World} {g : Nat} {t : TypeId} {cs : Array Value} (h : Blk w g t cs) (hW : Ext w W) (o n : Nat) {l : List Value} (hl : (cs.extract o (o + n)).toList = l) : W.rangeAt g o l := hl ▸ World.rangeAt_of_block (h.ext hW) o n
end Go.Proofs.YtblfmokklfhklaaGreatDoor


namespace Go.Proofs.YtblfmokklfhklaaGreatDoor
open Go.RowKit
set_option linter.unusedVariables false
set_option linter.unusedSimpArgs false

theorem pair_IsL {W : World} {Q : Nat → Prop} {p : PR} {g : Nat} {A : Option Addr} {c : Nat} (h0 : 0 ≤ p.id) (h : Blk W g 47 #[.int .i64 0, .int .u64 p.id, str [], .slice none 0 0, .bool false, .int .i64 p.t.kind, .int .u64 (p.t.n : Int), str p.t.s, .slice A p.t.k c, .bool p.t.op]) (hI : IsL W Q p.t A) (hq : Q g) : IsL W Q (pairT p) (some ⟨g, 0, none⟩) := fun _ => ⟨g, 0, rfl, h.lt, hq, fun j hj => by
  have hj : j = 0 ∨ j = 1 := by have : j < 2 := hj; omega
  rcases hj with rfl | rfl
  · exact ⟨none, 0, ⟨h.cell 0, (h.cell 1).trans (by show some (Value.int .u64 p.id) = some (Value.int .u64 (p.id.toNat : Int)); rw [Int.toNat_of_nonneg h0]), h.cell 2, h.cell 3, h.cell 4⟩, IsL.leaf⟩
  · exact ⟨A, c, ⟨h.cell 5, h.cell 6, h.cell 7, h.cell 8, h.cell 9⟩, hI⟩⟩
set_option maxRecDepth 20000 in
set_option maxHeartbeats 8000000 in
theorem alist_any {Q : Nat → Prop} (p : PL) (hk : p.k ≤ 100000) (hc : ∀ i, i < p.k → 0 ≤ (p.a i).id ∧ (p.a i).id ≤ 65535) (A : Option Addr) (c : Nat) (w : World) (h : PsL w Q A p) : Calls Tryz.prog 63 #[.slice A p.k c] w (fun e w' => ∃ A' c', e = .returned (itemV (plT p) A' c') ∧ Ext w w' ∧ IsL w' (fun b => Q b ∨ w.heap.size ≤ b) (plT p) A') := by
  have HK := hid hk
  have HC := hid hc
  have HE := hid ((Mod.refl [] w).alloc (.cells #[.int .i64 0, .int .u64 0, .string ⟨#[]⟩, .slice none 0 0, .bool false] 47))
  have HB0 : Hid (Blk (w.alloc (.cells #[.int .i64 0, .int .u64 0, .string ⟨#[]⟩, .slice none 0 0, .bool false] 47)) w.heap.size 47 (itemC (numT 0) none 0)) := hid (Blk.new w 47 (itemC (numT 0) none 0))
  have HL := hid (PsL.ext (h.weak (R := fun b => Q b ∧ b < w.heap.size) (fun k hk hq => ⟨hq, hk⟩)) HE.out)
  have k0 : (p.k : Int) ≤ 100000 := by omega
  generalize hkk : p.k = k at *
  have HKK := hid hkk
  clear hk hc h hkk
  go_enter Tryz.func63, Tryz.ntmps63
  go_upto_region 3 with fail
  have HV1 : Hid (w.heap.size + 1 = (w.alloc (.cells #[.int .i64 0, .int .u64 0, .string ⟨#[]⟩, .slice none 0 0, .bool false] 47)).heap.size) := hid (by simp)
  generalize hV : w.alloc (.cells #[.int .i64 0, .int .u64 0, .string ⟨#[]⟩, .slice none 0 0, .bool false] 47) = V at *
  clear hV
  go_loopw [3, 8] (fun s3 s8 wr => ∃ (i : Nat) (A' : Option Addr) (c' : Nat) (ac : Nat → Option Addr × Nat), s8 = .int .i64 (i : Int) ∧ s3 = .slice A' i c' ∧ Hid (i ≤ k ∧ Ext V wr ∧ Rw wr (fun b => (Q b ∧ b < w.heap.size) ∨ w.heap.size + 1 ≤ b) (w.heap.size + 1) A' c' i (fun j => pairT (p.a j)) ac)) (fun _ s8 _ => k - (intOf s8).toNat)
  case atStart => exact ⟨0, none, 0, fun _ => (none, 0), rfl, rfl, (show Hid _ from ⟨Nat.zero_le _, Mod.refl _ _, Rw.nil⟩)⟩
  case round =>
    obtain ⟨i, A', c', ac, rfl, rfl, hS⟩ := hrel
    rename World => wr
    have i0 : (0 : Int) ≤ (i : Int) := by omega
    by_cases hlt : i < k
    · obtain ⟨b, o, Ai, ci, rfl, hb, ⟨q0, q1, q2, q3, q4, q5⟩, hI⟩ := HL.out.at hS.out.2.1 (i := i) (by have := HKK.out; omega)
      have tc : decide (i < k) = true := by simp [hlt]
      have i1 : (i : Int) < (k : Int) := by omega
      have HLT := hid hlt
      have HI := hid hI
      have HI0 : Hid (0 ≤ (p.a i).id) := hid (HC.out i hlt).1
      have t1 : IntKind.u64.wrap (p.a i).id = (p.a i).id := IntWalk.u64_in _ (by have := HC.out i hlt; omega)
      clear hlt hI hb
      go_upto_region 5 with fail
      generalize hW1 : World.alloc wr _ = W1
      have HG1 : Hid (Blk W1 wr.heap.size 68 (prC (p.a i) Ai ci)) := hid (by rw [← hW1]; exact Blk.new _ _ _)
      have HR : Hid (Rw W1 (fun b => (Q b ∧ b < w.heap.size) ∨ w.heap.size + 1 ≤ b) (w.heap.size + 1) A' c' i (fun j => pairT (p.a j)) ac) := hid (by rw [← hW1]; exact hS.out.2.2.ext ((Mod.refl [] wr).alloc _))
      have HE1 : Hid (Ext V W1) := hid (by rw [← hW1]; exact hS.out.2.1.alloc _)
      have HI1 : Hid (IsL W1 (fun b => Q b ∧ b < w.heap.size) (p.a i).t Ai) := hid (by rw [← hW1]; exact HI.out.ext ((Mod.refl [] wr).alloc _))
      have HSZ : Hid (w.heap.size + 1 ≤ W1.heap.size) := hid (by have := HE1.out.size; have := HV1.out; omega)
      have HOB : Hid (∀ g, A' = some g → w.heap.size < g.block ∧ g.block < W1.heap.size) := hid (fun g hg => by have := HR.out.own.lt g.block (by subst hg; rfl); omega)
      have HGA : Hid (wr.heap.size ∉ obs A') := hid (offA_obs (fun g hg => by have := hS.out.2.2.own.lt g.block (by subst hg; rfl); omega))
      clear hW1 hS q0 q1 q2 q3 q4 q5 HI
      generalize wr.heap.size = G at *
      have HG0 : Hid (∀ W, Mod (obs A') W1 W → W.cell? ⟨G, 0, none⟩ = some (.int .i64 (p.a i).id)) := hid (fun W hW => (HG1.out.mod hW HGA.out).cell 0)
      have HGM : Hid (∀ W, Mod (obs A') W1 W → W.rangeAt G 1 [.int .i64 (p.a i).t.kind, .int .u64 ((p.a i).t.n : Int), str (p.a i).t.s, .slice Ai (p.a i).t.k ci, .bool (p.a i).t.op]) := hid (fun W hW => (HG1.out.mod hW HGA.out).rangeE (Mod.refl _ _) 1 5 (by rfl))
      refine wp_region_held_drew (S := fun w' => Mod (obs A') W1 w') (by kernel_rfl) (Mod.refl _ _).drew (fun hHeld => ?_)
      have hR1 : Rw W1.drew (fun b => (Q b ∧ b < w.heap.size) ∨ w.heap.size + 1 ≤ b) (w.heap.size + 1) A' c' i (fun j => pairT (p.a j)) ac := HR.out.ext ((Mod.refl [] _).drew)
      have HI2 : IsL W1.drew (fun b => Q b ∧ b < w.heap.size) (p.a i).t Ai := HI1.out.ext ((Mod.refl [] _).drew)
      generalize W1.drew = u0 at *
      refine' wpAnyH_take (i := 0) (v := _) rfl (by kernel_rfl) (by kernel_rfl) (by kernel_rfl) (fun _ _ _ h => h) (Or.inl ⟨by rfl, ?hy1⟩) hHeld ?rest1
      case hy1 => (rintro W hM; go_simp; (try with_reducible rfl))
      case rest1 =>
      (try simp only [Act.put, List.getElem_toArray, List.getElem_cons_zero, List.getElem_cons_succ, List.setIfInBounds_toArray, List.set_cons_zero, List.set_cons_succ])
      refine' wpAnyH_take (i := 1) (v := _) rfl (by kernel_rfl) (by kernel_rfl) (by kernel_rfl) (fun _ _ _ h => h) (Or.inl ⟨by rfl, ?hy2⟩) hHeld ?rest2
      case hy2 => (rintro W hM; go_simp; (try with_reducible rfl))
      case rest2 =>
      (try simp only [Act.put, List.getElem_toArray, List.getElem_cons_zero, List.getElem_cons_succ, List.setIfInBounds_toArray, List.set_cons_zero, List.set_cons_succ])
      refine' wpAnyH_take (i := 2) (v := _) rfl (by kernel_rfl) (by kernel_rfl) (by kernel_rfl) (fun _ _ _ h => h) (Or.inl ⟨by rfl, ?hy3⟩) hHeld ?rest3
      case hy3 => (rintro W hM; have g0 := HG0.out W hM; go_simp; (try with_reducible rfl))
      case rest3 =>
      (try simp only [Act.put, List.getElem_toArray, List.getElem_cons_zero, List.getElem_cons_succ, List.setIfInBounds_toArray, List.set_cons_zero, List.set_cons_succ])
      refine' wpAnyH_take (i := 3) (v := _) rfl (by kernel_rfl) (by kernel_rfl) (by kernel_rfl) (fun _ _ _ h => h) (Or.inl ⟨by rfl, ?hy4⟩) hHeld ?rest4
      case hy4 => (rintro W hM; go_simp; (try with_reducible rfl))
      case rest4 =>
      (try simp only [Act.put, List.getElem_toArray, List.getElem_cons_zero, List.getElem_cons_succ, List.setIfInBounds_toArray, List.set_cons_zero, List.set_cons_succ])
      refine' wpAnyH_take (i := 5) (v := _) rfl (by kernel_rfl) (by kernel_rfl) (by kernel_rfl) (fun _ _ _ h => h) (Or.inl ⟨by rfl, ?hy5⟩) hHeld ?rest5
      case hy5 => (rintro W hM; go_simp; (try with_reducible rfl))
      case rest5 =>
      (try simp only [Act.put, List.getElem_toArray, List.getElem_cons_zero, List.getElem_cons_succ, List.setIfInBounds_toArray, List.set_cons_zero, List.set_cons_succ])
      refine wpAnyH_take (i := 6) rfl (by kernel_rfl) (by kernel_rfl) (by kernel_rfl) (fun _ _ _ h => h) (yieldsIf_mid (by rfl) 47 _ rfl G 1 rfl [.int .i64 (p.a i).t.kind, .int .u64 ((p.a i).t.n : Int), str (p.a i).t.s, .slice Ai (p.a i).t.k ci, .bool (p.a i).t.op] HGM.out Tryz.underlying47 rfl (by kernel_rfl)) hHeld ?_
      (try simp only [Act.put, List.getElem_toArray, List.getElem_cons_zero, List.getElem_cons_succ, List.setIfInBounds_toArray, List.set_cons_zero, List.set_cons_succ])
      refine wpAnyH_ready (rs := [4]) (by kernel_rfl) (by simp) ?_
      refine AllReadyH.cons rfl (fun K hK => ?_) AllReadyH.nil
      go_simp
      (try rw [t1])
      go_at_call 62
      refine (NumI_any _ _).mono ?_
      rintro x u1 ⟨rfl, hb⟩
      have hR1 := hR1.ext hb
      have HI2 := HI2.ext hb
      refine hK.out _ _ (hHeld.trans (hb.mono (by simp))) (fun hHeld => ?_)
      clear hK K
      (try simp only [Act.put, List.getElem_toArray, List.getElem_cons_zero, List.getElem_cons_succ, List.setIfInBounds_toArray, List.set_cons_zero, List.set_cons_succ])
      refine wpAnyH_ready (rs := [7]) (by kernel_rfl) (by simp) ?_
      refine AllReadyH.cons rfl (fun K hK => ?_) AllReadyH.nil
      go_simp
      have HP2_n : W1.heap.size ≤ u1.heap.size := hHeld.size
      have HP2 : Blk (World.alloc u1 (.cells #[.int .i64 0, .int .u64 (p.a i).id, str [], .slice none 0 0, .bool false, .int .i64 (p.a i).t.kind, .int .u64 ((p.a i).t.n : Int), str (p.a i).t.s, .slice Ai (p.a i).t.k ci, .bool (p.a i).t.op] 47)) u1.heap.size 47 #[.int .i64 0, .int .u64 (p.a i).id, str [], .slice none 0 0, .bool false, .int .i64 (p.a i).t.kind, .int .u64 ((p.a i).t.n : Int), str (p.a i).t.s, .slice Ai (p.a i).t.k ci, .bool (p.a i).t.op] := Blk.new _ _ _
      have hXX : Ext u1 (World.alloc u1 (.cells #[.int .i64 0, .int .u64 (p.a i).id, str [], .slice none 0 0, .bool false, .int .i64 (p.a i).t.kind, .int .u64 ((p.a i).t.n : Int), str (p.a i).t.s, .slice Ai (p.a i).t.k ci, .bool (p.a i).t.op] 47)) := (Mod.refl [] _).alloc _
      have hZN : u1.heap.size < (World.alloc u1 (.cells #[.int .i64 0, .int .u64 (p.a i).id, str [], .slice none 0 0, .bool false, .int .i64 (p.a i).t.kind, .int .u64 ((p.a i).t.n : Int), str (p.a i).t.s, .slice Ai (p.a i).t.k ci, .bool (p.a i).t.op] 47)).heap.size := HP2.lt
      generalize World.alloc u1 (.cells #[.int .i64 0, .int .u64 (p.a i).id, str [], .slice none 0 0, .bool false, .int .i64 (p.a i).t.kind, .int .u64 ((p.a i).t.n : Int), str (p.a i).t.s, .slice Ai (p.a i).t.k ci, .bool (p.a i).t.op] 47) = u2 at *
      have hR1 := hR1.ext hXX
      have HI2 := HI2.ext hXX
      refine hK.out _ _ (hHeld.trans (hXX.mono (by simp))) (fun hHeld => ?_)
      clear hK K hXX
      (try simp only [Act.put, List.getElem_toArray, List.getElem_cons_zero, List.getElem_cons_succ, List.setIfInBounds_toArray, List.set_cons_zero, List.set_cons_succ])
      generalize hgp : u1.heap.size = gp at *
      refine wpAnyH_ready (rs := [8]) (by kernel_rfl) (by simp) ?_
      refine AllReadyH.cons rfl (fun K hK => ?_) AllReadyH.nil
      go_simp
      go_at_call 65
      refine (ListV_any _ _ _ _).mono ?_
      rintro x u3 ⟨rfl, hb3⟩
      have hR1 := hR1.ext hb3
      have HI2 := HI2.ext hb3
      have HP2 := HP2.ext hb3
      refine hK.out _ _ (hHeld.trans (hb3.mono (by simp))) (fun hHeld => ?_)
      clear hK K
      (try simp only [Act.put, List.getElem_toArray, List.getElem_cons_zero, List.getElem_cons_succ, List.setIfInBounds_toArray, List.set_cons_zero, List.set_cons_succ])
      refine wpAnyH_ready (rs := [9]) (by kernel_rfl) (by simp) ?_
      refine AllReadyH.cons rfl (fun K hK => ?_) AllReadyH.nil
      go_simp
      have HQ2_n : W1.heap.size ≤ u3.heap.size := hHeld.size
      have HQ2 : Blk (World.alloc u3 (.cells #[.int .i64 4, .int .u64 0, str [], .slice (some ⟨gp, 0, none⟩) 2 2, .bool false] 47)) u3.heap.size 47 #[.int .i64 4, .int .u64 0, str [], .slice (some ⟨gp, 0, none⟩) 2 2, .bool false] := Blk.new _ _ _
      have hXX : Ext u3 (World.alloc u3 (.cells #[.int .i64 4, .int .u64 0, str [], .slice (some ⟨gp, 0, none⟩) 2 2, .bool false] 47)) := (Mod.refl [] _).alloc _
      have hZN : u3.heap.size < (World.alloc u3 (.cells #[.int .i64 4, .int .u64 0, str [], .slice (some ⟨gp, 0, none⟩) 2 2, .bool false] 47)).heap.size := HQ2.lt
      generalize World.alloc u3 (.cells #[.int .i64 4, .int .u64 0, str [], .slice (some ⟨gp, 0, none⟩) 2 2, .bool false] 47) = u4 at *
      have hR1 := hR1.ext hXX
      have HI2 := HI2.ext hXX
      have HP2 := HP2.ext hXX
      refine hK.out _ _ (hHeld.trans (hXX.mono (by simp))) (fun hHeld => ?_)
      clear hK K hXX
      (try simp only [Act.put, List.getElem_toArray, List.getElem_cons_zero, List.getElem_cons_succ, List.setIfInBounds_toArray, List.set_cons_zero, List.set_cons_succ])
      generalize hgq : u3.heap.size = gq at *
      refine wpAnyH_ready (rs := [10]) (by kernel_rfl) (by simp) ?_
      refine AllReadyH.cons rfl (fun K hK => ?_) AllReadyH.nil
      have HPT : IsL u4 (fun b => ((Q b ∧ b < w.heap.size) ∨ w.heap.size + 1 ≤ b) ∧ offA A' b) (pairT (p.a i)) (some ⟨gp, 0, none⟩) := pair_IsL HI0.out HP2 (IsL.weak (fun b _ hb => ⟨.inl hb, fun g hg => by have := (HOB.out g hg).1; have := hb.2; omega⟩) _ HI2) ⟨.inr (by have := HSZ.out; omega), fun g hg => by have := (HOB.out g hg).2; show gp ≠ g.block; omega⟩
      obtain ⟨ib, hi, hz0, hz1, hz2⟩ := info_parts infoItem
      refine wp_append_lies _ _ _ 45 (by rfl) (w.heap.size + 1) 47 ib _ 5 64 Tryz.underlying45 hi hz0 hz1 hz2 (by rfl) (by decide) _ i _ (by rfl) hR1.own ⟨gq, 0, none⟩ 1 1 [.int .i64 4, .int .u64 0, str [], .slice (some ⟨gp, 0, none⟩) 2 2, .bool false] (by rfl) (by rfl) ?gnew ?gone (by decide) ?gm ?gb ?gbase (u4.heap.size) rfl ?gk
      case gnew =>
        intro j u hu
        rw [addr_add, Nat.zero_add, HQ2.cell j]
        simpa using hu
      case gone => intro u hu; simp at hu; rcases hu with rfl | rfl | rfl | rfl | rfl <;> rfl
      case gm => have := HLT.out; have := HK.out; unfold maxLen; omega
      case gb => have := HLT.out; have := HK.out; omega
      case gbase => have := HSZ.out; have := hHeld.size; omega
      intro g' cp' u5 hown' hgr' hat' hlt'
      obtain ⟨ac', hR5⟩ := hR1.append HPT rfl hown' hgr' hat'
      refine hK.out _ _ (hHeld.trans (grown_obs hgr')) (fun hHeld => ?_)
      clear hK K
      (try simp only [Act.put, List.getElem_toArray, List.getElem_cons_zero, List.getElem_cons_succ, List.setIfInBounds_toArray, List.set_cons_zero, List.set_cons_succ])
      refine' wpAnyH_take (i := 11) (v := _) rfl (by kernel_rfl) (by kernel_rfl) (by kernel_rfl) (fun _ _ _ h => h) (Or.inl ⟨by rfl, ?hy6⟩) hHeld ?rest6
      case hy6 => (rintro W hM; go_simp; (try with_reducible rfl))
      case rest6 =>
      (try simp only [Act.put, List.getElem_toArray, List.getElem_cons_zero, List.getElem_cons_succ, List.setIfInBounds_toArray, List.set_cons_zero, List.set_cons_succ])
      refine wpAnyH_done (by kernel_rfl) ?_ _
      go_wp2_with fail
      go_roundw
      case rel => exact ⟨i + 1, some ⟨g', 0, none⟩, cp', ac', by go_num, rfl, (show Hid _ from ⟨HLT.out, (HE1.out.of_ext (S := obs A')).trans hHeld |>.new (fun k hk => .inr (by
        cases A' with
        | none => cases hk
        | some g => have := HOB.out g rfl; have := HV1.out; simp [obs] at hk; omega)), hR5⟩)⟩
      case measure => have := HLT.out; simp [intOf]; omega
    · obtain rfl : i = k := by have := hS.out.1; omega
      have tc : decide (i < i) = false := by simp
      have HEW := hid (HE.out.trans hS.out.2.1)
      have HIL : Hid (IsL wr (fun b => (Q b ∧ b < w.heap.size) ∨ w.heap.size + 1 ≤ b) (plT p) A') := hid (by unfold plT; rw [HKK.out]; exact hS.out.2.2.isL (fun b hb => .inr hb))
      have HPV : Hid (itemV (plT p) A' c' = .agg #[.int .i64 4, .int .u64 0, str [], .slice A' i c', .bool false]) := hid (by rw [← HKK.out]; rfl)
      have HBR := hid (HB0.out.ext hS.out.2.1)
      clear hS
      go_wp2_with (go_at_call 65; refine (ListV_any _ _ _ _).mono ?_; rintro x w3 ⟨rfl, hb3⟩; obtain ⟨c0, c1, c2, c3, c4⟩ := cells5 (HBR.out.ext hb3); have f0 := (HBR.out.ext hb3).frozen 0; have f1 := (HBR.out.ext hb3).frozen 1; have f2 := (HBR.out.ext hb3).frozen 2; have f3 := (HBR.out.ext hb3).frozen 3; have f4 := (HBR.out.ext hb3).frozen 4)
      obtain ⟨d0, d1, d2, d3, d4⟩ := cells5 (set5_blk (t := T.mk 4 0 [] false i (fun _ => T.nil)) (A := A') (c := c') (HBR.out.ext hb3))
      clear c0 c1 c2 c3 c4 f0 f1 f2 f3 f4
      show bodyPost _ _ _ _ _ (set5 w3 w.heap.size (T.mk 4 0 [] false i (fun _ => T.nil)) A' c')
      refine bodyPost_ret (v := .agg #[.int .i64 4, .int .u64 0, str [], .slice A' i c', .bool false]) (by simp [results, Tryz.results63, go_sem, d0, d1, d2, d3, d4]; exact ⟨rfl, rfl, rfl, rfl, rfl⟩) rfl ⟨A', c', by rw [HPV.out], set5_mod (HEW.out.trans hb3) (Nat.le_refl _), ?_⟩
      exact IsL.weak (fun b _ h => h.elim (fun h => .inl h.1) (fun h => .inr (by omega))) _ (IsL.mod (Q := fun b => (Q b ∧ b < w.heap.size) ∨ w.heap.size + 1 ≤ b) set5_modb (fun b hb _ hs => by rw [List.mem_singleton] at hs; rcases hb with hb | hb; (have := hb.2; omega); omega) _ (HIL.out.ext hb3))
end Go.Proofs.YtblfmokklfhklaaGreatDoor


namespace Go.Proofs.YtblfmokklfhklaaGreatDoor
open Go.RowKit
set_option linter.unusedVariables false
set_option linter.unusedSimpArgs false

theorem quo_remP {f c x : Nat} (hf : f < 18446744073709551616) (h : f / c % 2 = x) : (IntKind.u64.wrap ((f : Int) / (c : Int))).tmod 2 = (x : Int) := by
  have h1 : (f : Int) / (c : Int) = ((f / c : Nat) : Int) := by simp
  have h2 : f / c ≤ f := Nat.div_le_self _ _
  rw [h1]
  generalize f / c = y at *
  rw [IntWalk.u64_in _ (by omega), Int.tmod_eq_emod_of_nonneg (by omega)]
  omega
def has (f c : Nat) : Bool := decide (f / c % 2 = 1)
end Go.Proofs.YtblfmokklfhklaaGreatDoor


namespace Go.Proofs.YtblfmokklfhklaaGreatDoor
open Go.RowKit
set_option linter.unusedVariables false
set_option linter.unusedSimpArgs false

set_option maxRecDepth 20000 in
theorem eidNoneP_any (w : World) : Calls Tryz.prog 95 #[] w (Ret (.agg #[.int .i64 1, str [110, 111, 110, 101], .int .u64 0, .int .u64 0]) w) := by
  go_enter Tryz.func95, Tryz.ntmps95
  go_wp2
  refine bodyPost_ret (v := .agg #[.int .i64 1, str [110, 111, 110, 101], .int .u64 0, .int .u64 0]) ?_ rfl (Ret.mk rfl ((Mod.refl _ _).alloc _))
  simp [results, Tryz.results95, go_sem]
theorem and_powP (f k : Nat) : f &&& 2 ^ k = if f.testBit k = true then 2 ^ k else 0 := by
  apply Nat.eq_of_testBit_eq
  intro i
  rw [Nat.testBit_and, Nat.testBit_two_pow]
  by_cases h : k = i
  · subst h
    cases f.testBit k <;> simp
  · cases f.testBit k <;> simp [h]
theorem u64_and_powP (f k : Nat) (hf : f < 18446744073709551616) (hk : k < 64) : bits .and .u64 (f : Int) ((2 ^ k : Nat) : Int) = if f / 2 ^ k % 2 = 1 then ((2 ^ k : Nat) : Int) else 0 := by
  have h2 : 2 ^ k < 18446744073709551616 := by
    have : 2 ^ k < 2 ^ 64 := Nat.pow_lt_pow_right (by omega) hk
    omega
  have h1 : bits .and .u64 (f : Int) ((2 ^ k : Nat) : Int) = ((f &&& 2 ^ k : Nat) : Int) := u64_and_nat f (2 ^ k) hf h2
  rw [h1, and_powP, Nat.testBit_eq_decide_div_mod_eq]
  by_cases h : f / 2 ^ k % 2 = 1 <;> simp [h]
theorem andP_no {f k : Nat} (hf : f < 18446744073709551616) (hk : k < 64) (h : f / 2 ^ k % 2 = 0) : bits .and .u64 (f : Int) ((2 ^ k : Nat) : Int) = 0 := by rw [u64_and_powP f k hf hk, if_neg (by omega)]
theorem andP_yes {f k : Nat} (hf : f < 18446744073709551616) (hk : k < 64) (h : f / 2 ^ k % 2 = 1) : bits .and .u64 (f : Int) ((2 ^ k : Nat) : Int) = ((2 ^ k : Nat) : Int) := by rw [u64_and_powP f k hf hk, if_pos h]
/-- Either of the two flags that ask for reports. -/
theorem and_tells {f : Nat} (hf : f < 18446744073709551616) : ∃ r : Int, bits .and .u64 (f : Int) 278528 = r ∧ (r = 0 ↔ ¬ (f / 16384 % 2 = 1 ∨ f / 262144 % 2 = 1)) := by
  refine ⟨_, rfl, ?_⟩
  have h := u64_and_nat f 278528 hf (by omega)
  have e : f &&& 278528 = (f &&& 2 ^ 14) ||| (f &&& 2 ^ 18) := by rw [← Nat.and_or_distrib_left]; rfl
  rw [e, and_powP, and_powP, Nat.testBit_eq_decide_div_mod_eq, Nat.testBit_eq_decide_div_mod_eq] at h
  have h2 : bits .and .u64 (f : Int) 278528 = bits .and .u64 (f : Int) ((278528 : Nat) : Int) := rfl
  rw [h2, h]
  by_cases a : f / 16384 % 2 = 1 <;> by_cases b : f / 262144 % 2 = 1 <;> simp [a, b]
end Go.Proofs.YtblfmokklfhklaaGreatDoor


namespace Go.Proofs.YtblfmokklfhklaaGreatDoor
open Go.RowKit
set_option linter.unusedVariables false
set_option linter.unusedSimpArgs false

/-- An item's items lie in memory, in blocks of Q alone; no slice is longer than its room. -/
def IsC (w : World) (Q : Nat → Prop) : T → Option Addr → Nat → Prop
  | T.nil, A, c => False
  | T.mk _ _ _ _ k ch, A, c => k ≤ c ∧ (0 < k → ∃ b o, A = some ⟨b, o, none⟩ ∧ b < w.heap.size ∧ Q b ∧ ∀ i, i < k → ∃ Ai ci, At5 w b (o + i * 5) (ch i) Ai ci ∧ IsC w Q (ch i) Ai ci)
theorem IsC.mod {w w' : World} {Q : Nat → Prop} {S : List Nat} (hm : Mod S w w') (hs : ∀ k, Q k → k < w.heap.size → k ∉ S) (t : T) : ∀ {A : Option Addr} {c : Nat}, IsC w Q t A c → IsC w' Q t A c := by
  induction t with
  | nil => intro A c h; cases h
  | mk kind n s op k ch ih =>
    rintro A c ⟨hc0, h⟩
    refine ⟨hc0, fun h0 => ?_⟩
    obtain ⟨b, o, hA, hb, hq, hc⟩ := h h0
    refine ⟨b, o, hA, Nat.lt_of_lt_of_le hb hm.size, hq, fun i hi => ?_⟩
    obtain ⟨Ai, ci, h1, h2⟩ := hc i hi
    exact ⟨Ai, ci, h1.mod hm hb (hs b hq hb), ih i h2⟩
theorem IsC.ext {w w' : World} {Q : Nat → Prop} {t : T} {A : Option Addr} {c : Nat} (h : IsC w Q t A c) (hm : Ext w w') : IsC w' Q t A c := IsC.mod hm (by simp) t h
theorem IsC.weak {w : World} {Q R : Nat → Prop} (hq : ∀ k, k < w.heap.size → Q k → R k) (t : T) : ∀ {A : Option Addr} {c : Nat}, IsC w Q t A c → IsC w R t A c := by
  induction t with
  | nil => intro A c h; cases h
  | mk kind n s op k ch ih =>
    rintro A c ⟨hc0, h⟩
    refine ⟨hc0, fun h0 => ?_⟩
    obtain ⟨b, o, hA, hb, hq', hc⟩ := h h0
    refine ⟨b, o, hA, hb, hq b hb hq', fun i hi => ?_⟩
    obtain ⟨Ai, ci, h1, h2⟩ := hc i hi
    exact ⟨Ai, ci, h1, ih i h2⟩
theorem IsC.leaf {w : World} {Q : Nat → Prop} {kind : Int} {n : Nat} {s : List UInt8} {op : Bool} {ch : Nat → T} {A : Option Addr} {c : Nat} : IsC w Q (.mk kind n s op 0 ch) A c := ⟨Nat.zero_le _, fun h => by omega⟩
theorem IsC.isL {w : World} {Q : Nat → Prop} (t : T) : ∀ {A : Option Addr} {c : Nat}, IsC w Q t A c → IsL w Q t A := by
  induction t with
  | nil => intro A c h; cases h
  | mk kind n s op k ch ih =>
    rintro A c ⟨hc0, h⟩ h0
    obtain ⟨b, o, hA, hb, hq, hc⟩ := h h0
    refine ⟨b, o, hA, hb, hq, fun i hi => ?_⟩
    obtain ⟨Ai, ci, h1, h2⟩ := hc i hi
    exact ⟨Ai, ci, h1, ih i h2⟩
theorem IsC.cap {w : World} {Q : Nat → Prop} {t : T} {A : Option Addr} {c : Nat} (h : IsC w Q t A c) : t.k ≤ c := by
  cases t with
  | nil => exact absurd h id
  | mk kind n s op k ch => exact h.1
theorem room_cap {w : World} {base : Nat} {e : TypeId} {size : Nat} {A : Option Addr} {k c : Nat} {xs : List Value} (h : w.ownsRow base e size (.slice A k c) k xs) : k ≤ c := by
  rcases h.2 with ⟨_, h0⟩ | ⟨g, cap, cs, e1, _, _, h1, _⟩
  · omega
  · simp only [Value.slice.injEq] at e1
    omega
end Go.Proofs.YtblfmokklfhklaaGreatDoor


namespace Go.Proofs.YtblfmokklfhklaaGreatDoor
open Go.RowKit
set_option linter.unusedVariables false
set_option linter.unusedSimpArgs false

/-- A list's items by number; where what hangs on them lies. -/
def chL (L : List T) (i : Nat) : T := (L[i]?).getD T.nil
def acL (a : List (Option Addr × Nat)) (i : Nat) : Option Addr × Nat := (a[i]?).getD (none, 0)
theorem list_IsL {W : World} {Q : Nat → Prop} {base g c : Nat} {L : List T} {a : List (Option Addr × Nat)} (hlt : g < W.heap.size) (q : Q g) (h : W.ownsRow base 47 5 (.slice (some ⟨g, 0, none⟩) L.length c) L.length (flatC (chL L) (acL a) L.length)) (hI : ∀ i, i < L.length → IsL W Q (chL L i) (acL a i).1) : IsL W Q (listT L) (some ⟨g, 0, none⟩) := own_IsL hlt q h hI
theorem num_IsL {W : World} {Q : Nat → Prop} {n : Nat} {A : Option Addr} : IsL W Q (numT n) A := IsL.leaf
theorem str_IsL {W : World} {Q : Nat → Prop} {s : List UInt8} {A : Option Addr} : IsL W Q (strT s) A := IsL.leaf
end Go.Proofs.YtblfmokklfhklaaGreatDoor


namespace Go.Proofs.YtblfmokklfhklaaGreatDoor
open Go.RowKit
set_option linter.unusedVariables false
set_option linter.unusedSimpArgs false

theorem AsL.old {w : World} {Q : Nat → Prop} {a : AV} {m : AA} (h : AsL w Q a m) : AsL w (fun b => Q b ∧ b < w.heap.size) a m :=
  ⟨h.t, fun b o hA h0 => ⟨h.tq b o hA h0, by obtain ⟨b', o', hA', hb, _⟩ := h.t h0; rw [hA] at hA'; cases hA'; exact hb⟩, h.p.weak (fun k hk hq => ⟨hq, hk⟩), h.r.weak (fun k hk hq => ⟨hq, hk⟩)⟩
theorem Blk.thereAt {W : World} {b : Nat} {t : TypeId} {cs : Array Value} (h : Blk W b t cs) {o n : Nat} (hn : o + n ≤ cs.size) : W.there b o n := fun j hj => by
  refine ⟨?_, h.frozen (o + j)⟩
  rw [h.cell (o + j), Array.getElem?_eq_getElem (by omega)]; rfl
theorem Rw.blk {W : World} {base g n : Nat} {L : List T} {al : List (Option Addr × Nat)} {cs : Array Value} (h : Blk W g 47 cs) (hb : base ≤ g) (hn : n ≤ maxLen) (hs : cs.size = n * 5) (hcs : cs.toList = flatC (chL L) (acL al) n) (hI : ∀ i, i < n → IsL W (fun b => b < g) (chL L i) (acL al i).1) : Rw W anyQ base (some ⟨g, 0, none⟩) n n (chL L) (acL al) :=
  ⟨hcs ▸ own_of_blk h hb hn hs, fun j hj => IsL.weak (fun b _ hb => ⟨trivial, fun g' hg' => by cases hg'; exact Nat.ne_of_lt hb⟩) _ (hI j hj)⟩
set_option maxRecDepth 20000 in
set_option maxHeartbeats 16000000 in
theorem aitems_any (a : AV) (hw : a.wf) (hs : a.shaped = true) (m : AA) (w : World) (h : AsL w anyQ a m) : Calls Tryz.prog 36 #[asbV a m] w (fun e w' => ∃ A c, e = .returned (.slice A a.items.length c) ∧ Ext w w' ∧ IsL w' anyQ (listT a.items) A) := by
  obtain ⟨⟨h1, h2⟩, h3, h4, h5, h6, h7, h8, h9⟩ := AV.shaped_iff.1 hs
  obtain ⟨mt, mtc, mp, mpc, mr, mrc⟩ := m
  obtain ⟨bt, ot, hmt, hbt, hct⟩ := h.t (by omega)
  have hmt : mt = some ⟨bt, ot, none⟩ := hmt
  obtain ⟨br, orr, hmr, hbr, _, hcr⟩ := h.r (by omega)
  have hmr : mr = some ⟨br, orr, none⟩ := hmr
  subst hmt hmr
  have HCT := hid hct
  have HBT := hid hbt
  clear hct hbt hcr hbr
  have HE := hid ((Mod.refl [] w).alloc (.cells (asbC a ⟨some ⟨bt, ot, none⟩, mtc, mp, mpc, some ⟨br, orr, none⟩, mrc⟩) 29))
  have HB0 := hid (Blk.new w 29 (asbC a ⟨some ⟨bt, ot, none⟩, mtc, mp, mpc, some ⟨br, orr, none⟩, mrc⟩))
  have HL := hid (h.old.ext HE.out)
  have HW := hid hw
  have HTG := hid (unlikeB_coded h3)
  have HP := hid (unlikeB_coded (pairsB_iff.1 h7).2)
  have HRES := hid (T.all_iff.1 h9)
  have HRC := hid (fun i (hi : i < a.rk) => unlikeB_coded (pairsB_iff.1 (resB_iff.1 (T.all_iff.1 h9 i hi)).2).2)
  have KE := hid (fun W => eidItem_ok a.src h5 W)
  have HK := hid h2
  have HRK := hid h8
  have HP8 := hid h6
  have hcc := codedB_iff.1 h4
  obtain ⟨cn, hcn⟩ := Int.eq_ofNat_of_zero_le hcc.1
  have tctx : IntKind.u64.wrap (cn : Int) = (cn : Int) := IntWalk.u64_in _ (by omega)
  have HCN := hid hcn
  have k0 : (a.tk : Int) ≤ 16 := by omega
  generalize hkk : a.tk = k at *
  have HKK := hid hkk
  clear hw hs h h1 h2 h3 h4 h5 h6 h7 h8 h9 hkk hcc hcn
  go_enter Tryz.func36, Tryz.ntmps36
  go_upto_region 1 with fail
  generalize hV : w.alloc (.cells (asbC a ⟨some ⟨bt, ot, none⟩, mtc, mp, mpc, some ⟨br, orr, none⟩, mrc⟩) 29) = V at *
  have HVS : Hid (w.heap.size < V.heap.size) := hid (by rw [← hV]; simp)
  have b0 : ∀ e : Later V, e.x.cell? ⟨w.heap.size, 0, none⟩ = some (.slice (some ⟨bt, ot, none⟩) k mtc) := HB0.out.cellL 0 (by rw [← HKK.out]; rfl)
  have b7 : ∀ e : Later V, e.x.cell? ⟨w.heap.size, 7, none⟩ = some (.slice (some ⟨br, orr, none⟩) a.rk mrc) := HB0.out.cellL 7 rfl
  clear hV
  obtain ⟨e, he⟩ := Later.self V
  rw [he]
  go_upto_region 3 with fail
  go_loopw [3, 4, 13] (fun s3 s4 s13 wr => ∃ (i : Nat) (A1 : Option Addr) (c1 : Nat) (A2 : Option Addr) (c2 : Nat) (ac2 : Nat → Option Addr × Nat), s13 = .int .i64 (i : Int) ∧ s3 = .slice A1 i c1 ∧ s4 = .slice A2 i c2 ∧ Hid (i ≤ k ∧ Ext V wr ∧ wr.ownsRow V.heap.size 47 5 (.slice A1 i c1) i (flatC (fun j => numT (a.tg j).toNat) (fun _ => (none, 0)) i) ∧ Rw wr (offA A1) V.heap.size A2 c2 i (fun j => plT (a.rs j)) ac2 ∧ ∀ g, A2 = some g → offA A1 g.block)) (fun _ _ s13 _ => k - (intOf s13).toNat)
  case atStart => exact ⟨0, none, 0, none, 0, fun _ => (none, 0), rfl, rfl, rfl, (show Hid _ from ⟨Nat.zero_le _, he ▸ Mod.refl _ _, World.ownsRow_nil _ _ _ _, Rw.nil, fun g hg => by cases hg⟩)⟩
  case round =>
    clear he e
    obtain ⟨i, A1, c1, A2, c2, ac2, rfl, rfl, rfl, hS⟩ := hrel
    rename World => wr
    have i0 : (0 : Int) ≤ (i : Int) := by omega
    by_cases hlt : i < k
    · obtain ⟨e, he⟩ : ∃ e : Later V, wr = e.x := ⟨⟨wr, hS.out.2.1⟩, rfl⟩
      have c0 : wr.cell? ⟨bt, ot + i, none⟩ = some (.int .i64 (a.tg i)) := ((HE.out.trans hS.out.2.1).cell HBT.out (by simp)).trans (HCT.out i hlt)
      have B7 := hid b7
      clear b7
      have b0w := b0 e
      rw [← he] at b0w
      have tc : decide (i < k) = true := by simp [hlt]
      have i1 : (i : Int) < (k : Int) := by omega
      have HLT := hid hlt
      have t1 : IntKind.u64.wrap (a.tg i) = ((a.tg i).toNat : Int) := by
        have := HTG.out i hlt
        rw [Int.toNat_of_nonneg this.1]; exact IntWalk.u64_in _ (by omega)
      clear hlt he e b0
      obtain ⟨ib, hi, hz0, hz1, hz2⟩ := info_parts infoItem
      have HR1 : Hid (∀ e : Later wr, e.x.ownsRow V.heap.size 47 5 (.slice A1 i c1) i (flatC (fun j => numT (a.tg j).toNat) (fun _ => (none, 0)) i)) := hid (fun e => ownsRow_mod hS.out.2.2.1 e.h (fun _ _ => by simp))
      have HR2 := hid hS.out.2.2.2.1
      have HAP := hid hS.out.2.2.2.2
      have HEV := hid hS.out.2.1
      have HSZ : Hid (V.heap.size ≤ wr.heap.size) := hid hS.out.2.1.size
      clear hS
      obtain ⟨e, he⟩ := Later.self wr
      have c0 : ∀ e : Later wr, e.x.cell? ⟨bt, ot + i, none⟩ = some (.int .i64 (a.tg i)) := fun e => cellL c0 e
      rw [he]
      clear he
      go_upto_region 6 with (first | (go_at_call 62; refine (Ret.later (NumI_any _ _)).mono ?_; rintro x _ ⟨rfl, e, rfl⟩) | (at_builtin; refine wpList_append_lies _ rfl _ _ 45 rfl V.heap.size 47 ib _ 5 64 Tryz.underlying45 hi hz0 hz1 hz2 rfl (by decide) _ i _ rfl ((HR1.out e).alloc _) ⟨e.x.heap.size, 0, none⟩ 1 1 [.int .i64 0, .int .u64 ((a.tg i).toNat : Int), str [], .slice none 0 0, .bool false] rfl rfl (fun j u hu => by rw [addr_add, Nat.zero_add, (Blk.new _ _ _).cell j]; simpa using hu) (fun u hu => by simp only [List.mem_cons, List.not_mem_nil, or_false] at hu; rcases hu with h | h | h | h | h <;> (subst h; rfl)) (by decide) (by have := HLT.out; have := HK.out; unfold maxLen; omega) (by have := HLT.out; have := HK.out; omega) (by have := e.h.size; have := HSZ.out; simp; omega) _ rfl ?_; intro g1 d1 w4 hown' hgr' hat' hlt'; have HO1 := hid hown'; have HG1 := hid hgr'; have HA1 := hid hat'; have HLL1 := hid hlt'; clear hown' hgr' hat' hlt'))
      clear c0 b0w
      have hZ := two_first (HR2.out.ext (e.h.trans ((Mod.refl [] e.x).alloc _))) HAP.out HG1.out HA1.out
      have HE4 : Hid (Ext V w4) := hid (by
        refine ((Mod.of_ext (S := obs A1) (HEV.out.trans (e.h.trans ((Mod.refl [] e.x).alloc _)))).trans (grown_obs HG1.out)).new (fun k hk => .inr ?_)
        cases A1 with
        | none => cases hk
        | some g => have := ((HR1.out e).lt g.block rfl).1; simp [obs] at hk; omega)
      have HO4 : Hid (w4.ownsRow V.heap.size 47 5 (.slice (some ⟨g1, 0, none⟩) (i + 1) d1) (i + 1) (flatC (fun j => numT (a.tg j).toNat) (fun _ => (none, 0)) (i + 1))) := hid HO1.out
      have HR4 := hid hZ.1
      have HAP4 := hid hZ.2
      have HS4 : Hid (V.heap.size ≤ w4.heap.size) := hid HE4.out.size
      clear hZ HO1 HG1 HA1 HR1 HR2 HAP HEV HSZ HLL1
      obtain ⟨br', or', Ai, ci, hmr, hbr, cr, hkc, hPi⟩ := HL.out.r.at HE4.out (i := i) (by have := HLT.out; have := HRK.out; omega)
      have KL : Hid (Calls Tryz.prog 63 #[.slice Ai (a.rs i).k ci] w4 (fun e w' => ∃ A' c', e = .returned (.agg #[.int .i64 4, .int .u64 0, str [], .slice A' (a.rs i).k c', .bool false]) ∧ Ext w4 w' ∧ IsL w' (fun b => (True ∧ b < w.heap.size) ∨ w4.heap.size ≤ b) (plT (a.rs i)) A')) := hid (alist_any (a.rs i) (by have := (resB_iff.1 (HRES.out i (by have := HLT.out; have := HRK.out; omega))).1; omega) (HRC.out i (by have := HLT.out; have := HRK.out; omega)) Ai ci w4 hPi)
      obtain ⟨e4, he4⟩ : ∃ e : Later V, w4 = e.x := ⟨⟨w4, HE4.out⟩, rfl⟩
      have b7w := B7.out e4
      rw [← he4] at b7w
      have hmr : (some ⟨br, orr, none⟩ : Option Addr) = some ⟨br', or', none⟩ := hmr
      cases hmr
      have i2 : (i : Int) < (a.rk : Int) := by have := HRK.out; omega
      clear hPi hkc hbr he4 e4
      go_upto_region 7 with (first | (go_at_call 63; refine KL.out.mono ?_; rintro x w5 ⟨A5, c5, rfl, hb5, hi5⟩; have H5 := hid hb5; have HI5 := hid hi5; have HSZ5 : Hid (w4.heap.size ≤ w5.heap.size) := hid hb5.size; clear hb5 hi5) | (at_builtin; refine wpList_append_lies _ rfl _ _ 45 rfl V.heap.size 47 ib _ 5 64 Tryz.underlying45 hi hz0 hz1 hz2 rfl (by decide) _ i _ rfl ((HR4.out.ext H5.out).own.alloc _) ⟨w5.heap.size, 0, none⟩ 1 1 [.int .i64 4, .int .u64 0, str [], .slice A5 (a.rs i).k c5, .bool false] rfl rfl (fun j u hu => by rw [addr_add, Nat.zero_add, (Blk.new _ _ _).cell j]; simpa using hu) (fun u hu => by simp only [List.mem_cons, List.not_mem_nil, or_false] at hu; rcases hu with h | h | h | h | h <;> (subst h; rfl)) (by decide) (by have := HLT.out; have := HK.out; unfold maxLen; omega) (by have := HLT.out; have := HK.out; omega) (by have := HS4.out; have := HSZ5.out; simp; omega) _ rfl ?_; intro g2 d2 w6 hown' hgr' hat' hlt'; have HO2 := hid hown'; have HG2 := hid hgr'; have HA2 := hid hat'; have HLL2 := hid hlt'; clear hown' hgr' hat' hlt'))
      clear cr b7w
      have HZ2 := two_second (ownsRow_mod HO4.out (H5.out.alloc _) (fun _ _ => by simp)) HAP4.out HG2.out HA2.out
      have HOFF : Hid (IsL (w5.alloc (.cells #[.int .i64 4, .int .u64 0, str [], .slice A5 (a.rs i).k c5, .bool false] 47)) (fun b => offA (some ⟨g1, 0, none⟩) b ∧ offA A2 b) (plT (a.rs i)) A5) := hid (IsL.weak (fun b _ hb => by
        have o1 := (HO4.out.lt g1 rfl)
        constructor
        · intro g hg
          cases hg
          rcases hb with hb | hb
          · have := hb.2; have := HVS.out; show b ≠ g1; omega
          · show b ≠ g1; omega
        · intro g hg
          have o2 := HR4.out.own.lt g.block (by subst hg; rfl)
          rcases hb with hb | hb
          · have := hb.2; have := HVS.out; omega
          · omega) _ (HI5.out.ext ((Mod.refl [] w5).alloc _)))
      obtain ⟨ac', hR6⟩ := (HR4.out.ext (H5.out.alloc _)).append HOFF.out rfl HO2.out HG2.out HA2.out
      have HR6 := hid hR6
      have HE6 : Hid (Ext V w6) := hid (by
        refine ((Mod.of_ext (S := obs A2) (HE4.out.trans (H5.out.alloc _))).trans (grown_obs HG2.out)).new (fun k hk => .inr ?_)
        cases A2 with
        | none => cases hk
        | some g => have := (HR4.out.own.lt g.block rfl).1; simp [obs] at hk; omega)
      have HZ2 := hid HZ2
      clear hR6 HOFF HO2 HG2 HA2 HR4 HAP4 H5 HI5 KL
      go_wp2_with fail
      go_roundw
      case rel => exact ⟨i + 1, some ⟨g1, 0, none⟩, d1, some ⟨g2, 0, none⟩, d2, ac', by go_num, rfl, rfl, (show Hid _ from ⟨HLT.out, HE6.out, HZ2.out.1, HR6.out, HZ2.out.2⟩)⟩
      case measure => have := HLT.out; simp [intOf]; omega
    · obtain rfl : i = k := by have := hS.out.1; omega
      have tc : decide (i < i) = false := by simp
      have HSE := hid hS.out.2.1
      have HR1 := hid hS.out.2.2.1
      have HR2 := hid hS.out.2.2.2.1
      have HSZ : Hid (V.heap.size ≤ wr.heap.size) := hid hS.out.2.1.size
      clear hS b0 b7
      have HRE : Hid (∀ e : Later V, e.x.rangeAt w.heap.size 2 [.int .i64 a.src.sch, str a.src.name, .int .u64 (a.src.node : Int), .int .u64 (a.src.svc : Int)]) := HB0.out.range 2 4 (by rfl)
      obtain ⟨e0, he0⟩ : ∃ e : Later V, wr = e.x := ⟨⟨wr, HSE.out⟩, rfl⟩
      subst he0
      go_upto_region 9 with (first | (refine wpList_mid (by rfl) 25 _ rfl _ 2 rfl _ _ (HRE.out _) Tryz.underlying25 rfl (by kernel_rfl) ?_) | (go_at_call 64; refine (KE.out _).mono ?_; rintro x w6 ⟨As, rfl, hb6, hl6⟩; have H6 := hid hb6; have HI6 := hid hl6; clear hb6 hl6))
      generalize hG : World.alloc w6 _ = W9
      have HN : Hid (Blk W9 w6.heap.size 47 (itemC (eidT a.src) As 2)) := hid (by rw [← hG]; exact Blk.new _ _ _)
      have HX9 : Hid (Ext e0.x W9) := hid (by rw [← hG]; exact H6.out.alloc _)
      have LS : Hid (IsL W9 anyQ (eidT a.src) As) := hid (by rw [← hG]; exact IsL.weak (fun _ _ _ => trivial) _ (HI6.out.ext ((Mod.refl [] w6).alloc _)))
      have L1 : Hid (IsL W9 anyQ (tgT i a.tg) A1) := hid (Rw.isL (base := V.heap.size) (c := c1) (ac := fun _ => (none, 0)) ⟨ownsRow_mod HR1.out HX9.out (fun _ _ => by simp), fun j hj => IsL.leaf⟩ (fun _ _ => trivial))
      have L2 : Hid (IsL W9 anyQ (rsT i a.rs) A2) := hid (((HR2.out.weak (R := anyQ) (fun _ _ _ => trivial)).ext HX9.out).isL (fun _ _ => trivial))
      have HV9 : Hid (Ext V W9) := hid (HSE.out.trans HX9.out)
      have HC1 : Hid (∀ W, Ext W9 W → W.cell? ⟨w.heap.size, 1, none⟩ = some (.int .i64 (cn : Int))) := hid (fun W hW => ((HB0.out.ext (HV9.out.trans hW)).cell 1).trans (by show some (Value.int .i64 a.ctx) = _; rw [HCN.out]))
      clear hG H6 HI6 HR1 HR2 HRE
      generalize w6.heap.size = g6 at *
      refine wp_region_held_drew (S := fun w' => Ext W9 w') (by kernel_rfl) (Mod.refl _ _).drew (fun hHeld => ?_)
      generalize W9.drew = v0 at *
      refine' wpAnyH_take (i := 0) (v := _) rfl (by kernel_rfl) (by kernel_rfl) (by kernel_rfl) (fun _ _ _ h => h) (Or.inl ⟨by rfl, ?hy1⟩) hHeld ?rest1
      case hy1 => (rintro W hM; go_simp; (try with_reducible rfl))
      case rest1 =>
      (try simp only [Act.put, List.getElem_toArray, List.getElem_cons_zero, List.getElem_cons_succ, List.setIfInBounds_toArray, List.set_cons_zero, List.set_cons_succ])
      refine' wpAnyH_take (i := 2) (v := _) rfl (by kernel_rfl) (by kernel_rfl) (by kernel_rfl) (fun _ _ _ h => h) (Or.inl ⟨by rfl, ?hy2⟩) hHeld ?rest2
      case hy2 => (rintro W hM; go_simp; (try with_reducible rfl))
      case rest2 =>
      (try simp only [Act.put, List.getElem_toArray, List.getElem_cons_zero, List.getElem_cons_succ, List.setIfInBounds_toArray, List.set_cons_zero, List.set_cons_succ])
      refine' wpAnyH_take (i := 3) (v := _) rfl (by kernel_rfl) (by kernel_rfl) (by kernel_rfl) (fun _ _ _ h => h) (Or.inl ⟨by rfl, ?hy3⟩) hHeld ?rest3
      case hy3 => (rintro W hM; have g1 := HC1.out W hM; go_simp; (try with_reducible rfl))
      case rest3 =>
      (try simp only [Act.put, List.getElem_toArray, List.getElem_cons_zero, List.getElem_cons_succ, List.setIfInBounds_toArray, List.set_cons_zero, List.set_cons_succ])
      refine' wpAnyH_take (i := 4) (v := _) rfl (by kernel_rfl) (by kernel_rfl) (by kernel_rfl) (fun _ _ _ h => h) (Or.inl ⟨by rfl, ?hy4⟩) hHeld ?rest4
      case hy4 => (rintro W hM; go_simp; (try with_reducible rfl))
      case rest4 =>
      (try simp only [Act.put, List.getElem_toArray, List.getElem_cons_zero, List.getElem_cons_succ, List.setIfInBounds_toArray, List.set_cons_zero, List.set_cons_succ])
      refine wpAnyH_take (i := 7) rfl (by kernel_rfl) (by kernel_rfl) (by kernel_rfl) (fun _ _ _ h => h) (yieldsIf_row (by rfl) 47 _ rfl _ rfl (fun W hM => HN.out.ext hM) Tryz.underlying47 rfl (by kernel_rfl)) hHeld ?_
      (try simp only [Act.put, List.getElem_toArray, List.getElem_cons_zero, List.getElem_cons_succ, List.setIfInBounds_toArray, List.set_cons_zero, List.set_cons_succ])
      refine wpAnyH_ready (rs := [1]) (by kernel_rfl) (by simp) ?_
      refine AllReadyH.cons rfl (fun K hK => ?_) AllReadyH.nil
      go_simp
      go_at_call 65
      refine (ListV_any _ _ _ _).mono ?_
      rintro x v1 ⟨rfl, hb⟩
      refine hK.out _ _ (hHeld.trans hb) (fun hHeld => ?_)
      clear hK K
      (try simp only [Act.put, List.getElem_toArray, List.getElem_cons_zero, List.getElem_cons_succ, List.setIfInBounds_toArray, List.set_cons_zero, List.set_cons_succ])
      refine wpAnyH_ready (rs := [5]) (by kernel_rfl) (by simp) ?_
      refine AllReadyH.cons rfl (fun K hK => ?_) AllReadyH.nil
      go_simp
      (try rw [tctx])
      go_at_call 62
      refine (NumI_any _ _).mono ?_
      rintro x v2 ⟨rfl, hb⟩
      refine hK.out _ _ (hHeld.trans hb) (fun hHeld => ?_)
      clear hK K
      (try simp only [Act.put, List.getElem_toArray, List.getElem_cons_zero, List.getElem_cons_succ, List.setIfInBounds_toArray, List.set_cons_zero, List.set_cons_succ])
      refine wpAnyH_ready (rs := [6]) (by kernel_rfl) (by simp) ?_
      refine AllReadyH.cons rfl (fun K hK => ?_) AllReadyH.nil
      go_simp
      go_at_call 62
      refine (NumI_any _ _).mono ?_
      rintro x v3 ⟨rfl, hb⟩
      refine hK.out _ _ (hHeld.trans hb) (fun hHeld => ?_)
      clear hK K
      (try simp only [Act.put, List.getElem_toArray, List.getElem_cons_zero, List.getElem_cons_succ, List.setIfInBounds_toArray, List.set_cons_zero, List.set_cons_succ])
      refine wpAnyH_ready (rs := [8]) (by kernel_rfl) (by simp) ?_
      refine AllReadyH.cons rfl (fun K hK => ?_) AllReadyH.nil
      go_simp
      have HX3 := hid hHeld
      have HB9 : Hid (Blk (World.alloc v3 (.cells #[.int .i64 4, .int .u64 0, str [], .slice A1 i c1, .bool false, .int .i64 0, .int .u64 (cn : Int), str [], .slice none 0 0, .bool false, .int .i64 0, .int .u64 0, str [], .slice none 0 0, .bool false, .int .i64 (eidT a.src).kind, .int .u64 ((eidT a.src).n : Int), str (eidT a.src).s, .slice As (eidT a.src).k 2, .bool (eidT a.src).op] 47)) v3.heap.size 47 #[.int .i64 4, .int .u64 0, str [], .slice A1 i c1, .bool false, .int .i64 0, .int .u64 (cn : Int), str [], .slice none 0 0, .bool false, .int .i64 0, .int .u64 0, str [], .slice none 0 0, .bool false, .int .i64 (eidT a.src).kind, .int .u64 ((eidT a.src).n : Int), str (eidT a.src).s, .slice As (eidT a.src).k 2, .bool (eidT a.src).op]) := hid (Blk.new _ _ _)
      have HX4 : Hid (Ext v3 (World.alloc v3 (.cells #[.int .i64 4, .int .u64 0, str [], .slice A1 i c1, .bool false, .int .i64 0, .int .u64 (cn : Int), str [], .slice none 0 0, .bool false, .int .i64 0, .int .u64 0, str [], .slice none 0 0, .bool false, .int .i64 (eidT a.src).kind, .int .u64 ((eidT a.src).n : Int), str (eidT a.src).s, .slice As (eidT a.src).k 2, .bool (eidT a.src).op] 47))) := hid ((Mod.refl [] _).alloc _)
      generalize World.alloc v3 (.cells #[.int .i64 4, .int .u64 0, str [], .slice A1 i c1, .bool false, .int .i64 0, .int .u64 (cn : Int), str [], .slice none 0 0, .bool false, .int .i64 0, .int .u64 0, str [], .slice none 0 0, .bool false, .int .i64 (eidT a.src).kind, .int .u64 ((eidT a.src).n : Int), str (eidT a.src).s, .slice As (eidT a.src).k 2, .bool (eidT a.src).op] 47) = v4 at *
      refine hK.out _ _ (hHeld.trans HX4.out) (fun hHeld => ?_)
      clear hK K
      (try simp only [Act.put, List.getElem_toArray, List.getElem_cons_zero, List.getElem_cons_succ, List.setIfInBounds_toArray, List.set_cons_zero, List.set_cons_succ])
      refine' wpAnyH_take (i := 9) (v := _) rfl (by kernel_rfl) (by kernel_rfl) (by kernel_rfl) (fun _ _ _ h => h) (Or.inl ⟨by rfl, ?hy5⟩) hHeld ?rest5
      case hy5 => (rintro W hM; go_simp; (try with_reducible rfl))
      case rest5 =>
      (try simp only [Act.put, List.getElem_toArray, List.getElem_cons_zero, List.getElem_cons_succ, List.setIfInBounds_toArray, List.set_cons_zero, List.set_cons_succ])
      refine wpAnyH_done (by kernel_rfl) ?_ _
      have HX34 : Hid (Ext W9 v4) := hid hHeld
      have kd : ∀ {t : T} {A : Option Addr}, IsL W9 anyQ t A → IsL v4 (fun b => b < v3.heap.size) t A := fun h => (IsL.weak (fun b hb _ => hb) _ (h.ext HX3.out)).ext HX4.out
      have K0 := hid (kd L1.out)
      have K2 := hid (kd L2.out)
      have K3 := hid (kd LS.out)
      have HBG : Hid (V.heap.size ≤ v3.heap.size) := hid (Nat.le_trans HV9.out.size HX3.out.size)
      have HVX : Hid (Ext V v4) := hid (HV9.out.trans HX34.out)
      have HGS : Hid (v3.heap.size < v4.heap.size) := hid HB9.out.lt
      clear kd L1 L2 LS HX3 HX4 HX34 HN HC1 hHeld HX9 HSE HV9
      generalize v3.heap.size = g9 at *
      have b6 : ∀ e : Later v4, e.x.cell? ⟨w.heap.size, 6, none⟩ = some (.slice mp a.ps.k mpc) := (HB0.out.ext HVX.out).cellL 6 rfl
      obtain ⟨ib, hi, hz0, hz1, hz2⟩ := info_parts infoItem
      by_cases hp : a.ps.k = 0
      case pos =>
        have HIT : Hid (a.items = [tgT i a.tg, numT cn, numT 0, eidT a.src, rsT i a.rs]) := hid (by unfold AV.items; rw [if_pos hp, HRK.out, HKK.out, HCN.out]; rfl)
        have tpa : decide ((0 : Int) < (a.ps.k : Int)) = false := decide_eq_false (by omega)
        have tpb : ((0 : Int) < (a.ps.k : Int)) = False := eq_false (by omega)
        have tqa : decide (0 < a.ps.k) = false := decide_eq_false (by omega)
        have tqb : (0 < a.ps.k) = False := eq_false (by omega)
        clear hp
        have HRW : Hid (Rw v4 anyQ V.heap.size (some ⟨g9, 0, none⟩) 4 4 (chL [tgT i a.tg, numT cn, numT 0, eidT a.src, rsT i a.rs]) (acL [(A1, c1), (none, 0), (none, 0), (As, 2)])) := hid (Rw.blk HB9.out HBG.out (by decide) rfl rfl (fun j hj => by match j, hj with | 0, _ => exact K0.out | 1, _ => exact IsL.leaf | 2, _ => exact IsL.leaf | 3, _ => exact K3.out))
        obtain ⟨e, he⟩ := Later.self v4
        rw [he]
        go_wp2_with (first | (go_at_call 65; refine (Ret.later (ListV_any _ _ _ _)).mono ?_; rintro x _ ⟨rfl, e, rfl⟩) | (at_builtin; refine wpList_append_lies _ rfl _ _ 45 rfl V.heap.size 47 ib _ 5 64 Tryz.underlying45 hi hz0 hz1 hz2 rfl (by decide) _ 4 _ rfl ((HRW.out.ext e.h).own.alloc _) ⟨e.x.heap.size, 0, none⟩ 1 1 [.int .i64 4, .int .u64 0, str [], .slice A2 i c2, .bool false] rfl rfl (fun j u hu => by rw [addr_add, Nat.zero_add, (Blk.new _ _ _).cell j]; simpa using hu) (fun u hu => by simp only [List.mem_cons, List.not_mem_nil, or_false] at hu; rcases hu with h | h | h | h | h <;> (subst h; rfl)) (by decide) (by decide) (by decide) (by have := e.h.size; have := HBG.out; have := HGS.out; simp; omega) _ rfl ?_; intro g8 d8 w8 hown' hgr' hat' hlt'; have HO8 := hid hown'; have HG8 := hid hgr'; have HA8 := hid hat'; have HLL8 := hid hlt'; clear hown' hgr' hat' hlt'))
        obtain ⟨ac8, HR8⟩ := (HRW.out.ext (e.h.trans ((Mod.refl [] e.x).alloc _))).append (IsL.weak (fun b _ hb => ⟨trivial, fun g hg => by cases hg; exact Nat.ne_of_lt hb⟩) _ (K2.out.ext (e.h.trans ((Mod.refl [] e.x).alloc _)))) rfl HO8.out HG8.out HA8.out
        have HM8 := grown_obs HG8.out
        have HV8 : Ext V w8 := ((Mod.of_ext (S := [g9]) (HVX.out.trans (e.h.trans ((Mod.refl [] e.x).alloc _)))).trans HM8).new (fun k hk => .inr (by rw [List.mem_singleton] at hk; subst hk; exact HBG.out))
        go_ret
        exact ⟨some ⟨g8, 0, none⟩, d8, by rw [HIT.out]; rfl, HE.out.trans HV8, by rw [HIT.out]; exact HR8.isL (fun _ _ => trivial)⟩
      have HIT : Hid (a.items = [tgT i a.tg, numT cn, numT 1, eidT a.src, plT a.ps, rsT i a.rs]) := hid (by unfold AV.items; rw [if_neg hp, HRK.out, HKK.out, HCN.out]; rfl)
      have tpa : decide ((0 : Int) < (a.ps.k : Int)) = true := decide_eq_true (by omega)
      have tpb : ((0 : Int) < (a.ps.k : Int)) = True := eq_true (by omega)
      have tqa : decide (0 < a.ps.k) = true := decide_eq_true (by omega)
      have tqb : (0 < a.ps.k) = True := eq_true (by omega)
      clear hp
      obtain ⟨e, he⟩ := Later.self v4
      rw [he]
      clear he
      have tk1 : True := trivial
      go_upto_region 12 with (first | (go_at_call 62; refine (Ret.later (NumI_any _ _)).mono ?_; rintro x _ ⟨rfl, e, rfl⟩) | (clear tk1; refine wpList_store_mid rfl 47 _ _ rfl g9 10 #[.int .i64 0, .int .u64 1, str [], .slice none 0 0, .bool false] (by rfl) (by rfl) ((HB9.out.later e).thereAt (by show 10 + 5 ≤ 20; omega)) (by kernel_rfl) (by simp [Value.oneCell']) ?_))
      generalize hZ : World.setCells _ g9 10 _ = Z
      have HBZ : Hid (Blk Z g9 47 #[.int .i64 4, .int .u64 0, str [], .slice A1 i c1, .bool false, .int .i64 0, .int .u64 (cn : Int), str [], .slice none 0 0, .bool false, .int .i64 0, .int .u64 1, str [], .slice none 0 0, .bool false, .int .i64 (eidT a.src).kind, .int .u64 ((eidT a.src).n : Int), str (eidT a.src).s, .slice As (eidT a.src).k 2, .bool (eidT a.src).op]) := hid (by
        have := setRow_blk [.int .i64 0, .int .u64 1, str [], .slice none 0 0, .bool false] e.x 10 _ (HB9.out.later e)
        rw [setRow_eq] at this
        rw [← hZ]
        exact this)
      have HZM : Hid (Mod [g9] e.x Z) := hid (by rw [← hZ]; exact setCells_mod _ _ (Mod.refl _ _) (.inl (by simp)))
      have kz : ∀ {t : T} {A : Option Addr}, IsL v4 (fun b => b < g9) t A → IsL Z (fun b => b < g9) t A := fun h => IsL.mod HZM.out (fun k hk _ => by simp; omega) _ (h.ext e.h)
      have J0 := hid (kz K0.out)
      have J2 := hid (kz K2.out)
      have J3 := hid (kz K3.out)
      have HVZ : Hid (Ext V Z) := hid (((Mod.of_ext (S := [g9]) (HVX.out.trans e.h)).trans HZM.out).new (fun k hk => .inr (by rw [List.mem_singleton] at hk; subst hk; exact HBG.out)))
      have HGZ : Hid (g9 < Z.heap.size) := hid HBZ.out.lt
      clear kz hZ HZM K0 K2 K3 HVX HGS b6 HB9
      generalize e = e0z at *
      have b6 : ∀ e : Later Z, e.x.cell? ⟨w.heap.size, 6, none⟩ = some (.slice mp a.ps.k mpc) := (HB0.out.ext HVZ.out).cellL 6 rfl
      have HRW : Hid (Rw Z anyQ V.heap.size (some ⟨g9, 0, none⟩) 4 4 (chL [tgT i a.tg, numT cn, numT 1, eidT a.src, plT a.ps, rsT i a.rs]) (acL [(A1, c1), (none, 0), (none, 0), (As, 2)])) := hid (Rw.blk HBZ.out HBG.out (by decide) rfl rfl (fun j hj => by match j, hj with | 0, _ => exact J0.out | 1, _ => exact IsL.leaf | 2, _ => exact IsL.leaf | 3, _ => exact J3.out))
      have KL : Hid (∀ e : Later Z, Calls Tryz.prog 63 #[.slice mp a.ps.k mpc] e.x (fun r w' => ∃ A' c', r = .returned (.agg #[.int .i64 4, .int .u64 0, str [], .slice A' a.ps.k c', .bool false]) ∧ Ext e.x w' ∧ IsL w' (fun b => (True ∧ b < w.heap.size) ∨ e.x.heap.size ≤ b) (plT a.ps) A')) := hid (fun e => alist_any a.ps (by have := HP8.out; omega) HP.out mp mpc e.x (HL.out.p.ext (HVZ.out.trans e.h)))
      obtain ⟨e, he⟩ := Later.self Z
      rw [he]
      clear he
      go_upto_region 13 with (first | (go_at_call 63; refine (KL.out _).mono ?_; rintro x w5 ⟨A5, c5, rfl, hb5, hi5⟩; have H5 := hid (e.h.trans hb5); have HI5 := hid hi5; have HSZ5 : Hid (Z.heap.size ≤ w5.heap.size) := hid (e.h.trans hb5).size; have HSE5 := hid e.h.size; clear hb5 hi5) | (at_builtin; refine wpList_append_lies _ rfl _ _ 45 rfl V.heap.size 47 ib _ 5 64 Tryz.underlying45 hi hz0 hz1 hz2 rfl (by decide) _ 4 _ rfl ((HRW.out.ext H5.out).own.alloc _) ⟨w5.heap.size, 0, none⟩ 1 1 [.int .i64 4, .int .u64 0, str [], .slice A5 a.ps.k c5, .bool false] rfl rfl (fun j u hu => by rw [addr_add, Nat.zero_add, (Blk.new _ _ _).cell j]; simpa using hu) (fun u hu => by simp only [List.mem_cons, List.not_mem_nil, or_false] at hu; rcases hu with h | h | h | h | h <;> (subst h; rfl)) (by decide) (by decide) (by decide) (by have := HBG.out; have := HGZ.out; have := HSZ5.out; simp; omega) _ rfl ?_; intro g7 d7 w7 hown' hgr' hat' hlt'; have HO7 := hid hown'; have HG7 := hid hgr'; have HA7 := hid hat'; have HLL7 := hid hlt'; clear hown' hgr' hat' hlt'))
      obtain ⟨ac7, HR7⟩ := (HRW.out.ext (H5.out.alloc _)).append (t := plT a.ps) (At := A5) (ct := c5) (IsL.weak (fun b _ hb => ⟨trivial, fun g hg => by
        cases hg
        show b ≠ g9
        have := HGZ.out
        have := HSE5.out
        have := HBG.out
        have := HVS.out
        rcases hb with hb | hb
        · have := hb.2; omega
        · omega⟩) _ (HI5.out.ext ((Mod.refl [] w5).alloc _))) rfl HO7.out HG7.out HA7.out
      have HR7 := hid HR7
      have HM7 := hid (grown_obs HG7.out)
      have HV7 : Hid (Ext V w7) := hid (((Mod.of_ext (S := [g9]) (HVZ.out.trans (H5.out.alloc _))).trans HM7.out).new (fun k hk => .inr (by rw [List.mem_singleton] at hk; subst hk; exact HBG.out)))
      have J7 : Hid (IsL w7 (fun b => b < g9) (rsT i a.rs) A2) := hid (IsL.mod HM7.out (fun k hk _ => by simp [obs]; omega) _ (J2.out.ext (H5.out.alloc _)))
      have HG9 : Hid (g9 ≤ g7) := hid (by
        rcases HA7.out with h | h
        · have : g9 = g7 := Option.some.inj h
          omega
        · have := HSZ5.out; have := HGZ.out; simp at h; omega)
      have HGB7 : Hid (V.heap.size ≤ g7) := hid (by have := HBG.out; have := HG9.out; omega)
      clear HO7 HG7 HA7 HM7 J2 J0 J3 HRW H5 HI5 b6 KL
      obtain ⟨e, he⟩ := Later.self w7
      rw [he]
      clear he
      go_wp2_with (first | (go_at_call 65; refine (Ret.later (ListV_any _ _ _ _)).mono ?_; rintro x _ ⟨rfl, e, rfl⟩) | (at_builtin; refine wpList_append_lies _ rfl _ _ 45 rfl V.heap.size 47 ib _ 5 64 Tryz.underlying45 hi hz0 hz1 hz2 rfl (by decide) _ 5 _ rfl ((HR7.out.ext e.h).own.alloc _) ⟨e.x.heap.size, 0, none⟩ 1 1 [.int .i64 4, .int .u64 0, str [], .slice A2 i c2, .bool false] rfl rfl (fun j u hu => by rw [addr_add, Nat.zero_add, (Blk.new _ _ _).cell j]; simpa using hu) (fun u hu => by simp only [List.mem_cons, List.not_mem_nil, or_false] at hu; rcases hu with h | h | h | h | h <;> (subst h; rfl)) (by decide) (by decide) (by decide) (by have := e.h.size; have := HGB7.out; have := HLL7.out; simp; omega) _ rfl ?_; intro g8 d8 w8 hown' hgr' hat' hlt'; have HO8 := hid hown'; have HG8 := hid hgr'; have HA8 := hid hat'; have HLL8 := hid hlt'; clear hown' hgr' hat' hlt'))
      obtain ⟨ac8, HR8⟩ := (HR7.out.ext (e.h.trans ((Mod.refl [] e.x).alloc _))).append (IsL.weak (fun b _ hb => ⟨trivial, fun g hg => by cases hg; show b ≠ g7; have := HG9.out; omega⟩) _ (J7.out.ext (e.h.trans ((Mod.refl [] e.x).alloc _)))) rfl HO8.out HG8.out HA8.out
      have HM8 := grown_obs HG8.out
      have HV8 : Ext V w8 := ((Mod.of_ext (S := [g7]) (HV7.out.trans (e.h.trans ((Mod.refl [] e.x).alloc _)))).trans HM8).new (fun k hk => .inr (by rw [List.mem_singleton] at hk; subst hk; exact HGB7.out))
      go_ret
      exact ⟨some ⟨g8, 0, none⟩, d8, by rw [HIT.out]; rfl, HE.out.trans HV8, by rw [HIT.out]; exact HR8.isL (fun _ _ => trivial)⟩
end Go.Proofs.YtblfmokklfhklaaGreatDoor


namespace Go.Proofs.YtblfmokklfhklaaGreatDoor
open Go.RowKit
set_option linter.unusedVariables false
set_option linter.unusedSimpArgs false

section
variable {P : Program} {ops : Array Oper} {rest : List Oper} {o : Oper} {a : Act} {w : World}
/-- Two strings become one, in a plain region. -/
theorem wpList_cat {Q : Exit → Act → World → Prop} (hw : Region.wanted o (yielded ops a.tmps) = true) (ty t2 : TypeId) (x y : Operand) (ho : o.op = .binOp .add ty x y t2) (l1 l2 : List UInt8) (hx : a.eval x = str l1) (hy : a.eval y = str l2)
    (hl : l1.length + l2.length ≤ 9223372036854775807) (h : wpList P ops Q rest (a.put o.dst (str (l1 ++ l2))) w) : wpList P ops Q (o :: rest) a w :=
  wpList_step fun K hK => by
    rw [if_pos hw]
    have hl' : ¬ 9223372036854775807 < l1.length + l2.length := by omega
    have hk := hK _ _ h
    unfold Oper.wp execOp
    simp only [ho, hx, hy]
    simp [go_sem, hl']
    rw [ByteArray.mk_append_mk]
    exact hk
end
end Go.Proofs.YtblfmokklfhklaaGreatDoor


namespace Go.Proofs.YtblfmokklfhklaaGreatDoor
open Go.RowKit
set_option linter.unusedVariables false
set_option linter.unusedSimpArgs false

/-- The bytes of the first i. -/
def catL (L : List T) (i : Nat) : List UInt8 := ((L.take i).map T.bytes).flatten
theorem catL_succ {L : List T} {i : Nat} (h : i < L.length) : catL L (i + 1) = catL L i ++ (chL L i).bytes := by
  unfold catL chL
  rw [List.take_add_one, List.map_append, List.flatten_append, List.getElem?_eq_getElem h]
  simp
theorem catL_le {L : List T} {B : Nat} (h : ∀ t ∈ L, t.bytes.length ≤ B) : ∀ i, i ≤ L.length → (catL L i).length ≤ i * B := by
  intro i
  induction i with
  | zero => intro _; simp [catL]
  | succ i ih =>
    intro hi
    have := ih (by omega)
    have h2 := h (chL L i) (getD_mem (by omega))
    rw [catL_succ (by omega), List.length_append, Nat.succ_mul]
    omega
theorem AV.items_length (a : AV) : a.items.length ≤ 6 := by
  unfold AV.items
  split <;> simp
set_option maxRecDepth 20000 in
set_option maxHeartbeats 4000000 in
theorem abuild_any (a : AV) (hw : a.wf) (hsm : a.small) (hs : a.shaped = true) (m : AA) (w : World) (h : AsL w anyQ a m) : Calls Tryz.prog 18 #[asbV a m] w (Ret (str a.bytes) w) := by
  have HE := hid ((Mod.refl [] w).alloc (.cells (asbC a m) 29))
  have HB0 := hid (Blk.new w 29 (asbC a m))
  have HL := hid (h.ext HE.out)
  have HALL := hid (AV.items_all hw hsm hs)
  have KI : Hid (∀ W, Ext (w.alloc (.cells (asbC a m) 29)) W → _) := hid (fun W hW => aitems_any a hw hs m W (HL.out.ext hW))
  have HBY : Hid (a.bytes = catL a.items a.items.length) := hid (by unfold AV.bytes catL; rw [List.take_length])
  have HN6 := hid (AV.items_length a)
  have HBL : Hid (∀ i, i ≤ a.items.length → (catL a.items i).length ≤ i * 1000000) := hid (catL_le (B := 1000000) (fun t ht => by have := T.bytes_le t; have := (HALL.out t ht).2.2; omega))
  generalize a.items = L at *
  generalize a.bytes = RES at *
  clear hw hsm hs h
  go_enter Tryz.func18, Tryz.ntmps18
  go_upto_region 2 with fail
  generalize w.alloc (.cells (asbC a m) 29) = V at *
  go_upto_region 3 with (first | (refine wpList_row (by rfl) 29 _ rfl _ rfl HB0.out Tryz.underlying29 rfl (by kernel_rfl) ?_) | (go_at_call 36; refine (KI.out _ (Mod.refl _ _)).mono ?_; rintro x w1 ⟨AI, cI, rfl, hb1, hi1⟩; have H1 := hid hb1; have HI := hid hi1; clear hb1 hi1))
  generalize hk : L.length = k at *
  have HK := hid hk
  have k0 : (k : Int) ≤ 6 := by have := HN6.out; omega
  clear hk KI
  go_loopw [3, 11] (fun s3 s11 wr => ∃ i : Nat, s11 = .int .i64 (i : Int) ∧ s3 = str (catL L i) ∧ Hid (i ≤ k) ∧ ∃ e : Later w1, wr = e.x) (fun _ s11 _ => k - (intOf s11).toNat)
  case atStart => obtain ⟨e, he⟩ := Later.self w1; exact ⟨0, rfl, rfl, (show Hid _ from Nat.zero_le _), e, he⟩
  case round =>
    obtain ⟨i, rfl, rfl, hi, e, rfl⟩ := hrel
    have i0 : (0 : Int) ≤ (i : Int) := by omega
    by_cases hlt : i < k
    · obtain ⟨b, o, Ai, ci, rfl, hb, ⟨q0, q1, q2, q3, q4⟩, hI⟩ := IsL.cells (W := e.x) (i := i) HI.out e.h (by have := HK.out; omega)
      have tc : decide (i < k) = true := by simp [hlt]
      have i1 : (i : Int) < (k : Int) := by omega
      have HLT := hid hlt
      have hm : chL L i ∈ L := getD_mem (by have := HK.out; omega)
      have HC : Hid (catL L (i + 1) = catL L i ++ (chL L i).bytes) := hid (catL_succ (by have := HK.out; omega))
      have lX : (catL L i).length ≤ 6000000 := by have := HBL.out i (by omega); have := HN6.out; omega
      have lB : (chL L i).bytes.length ≤ 1000000 := by have := T.bytes_le (chL L i); have := (HALL.out _ hm).2.2; omega
      have KB := hid (fun W (hW : Ext e.x W) => (show Calls Tryz.prog 37 #[itemV (chL L i) Ai ci] W (Ret (.tuple #[str (chL L i).bytes, .int .i64 0]) W) from by
        have := iBuild_any (chL L i) (HALL.out _ hm).1 (HALL.out _ hm).2.2 Ai ci W (IsL.weak (fun _ _ _ => trivial) _ (hI.ext hW))
        unfold buildV at this
        rw [if_pos (HALL.out _ hm).2.1] at this
        exact this))
      change e.x.cell? ⟨b, o + i * 5, none⟩ = some (.int .i64 (chL L i).kind) at q0
      change e.x.cell? ⟨b, o + i * 5 + 1, none⟩ = some (.int .u64 ((chL L i).n : Int)) at q1
      change e.x.cell? ⟨b, o + i * 5 + 2, none⟩ = some (str (chL L i).s) at q2
      change e.x.cell? ⟨b, o + i * 5 + 3, none⟩ = some (.slice Ai (chL L i).k ci) at q3
      change e.x.cell? ⟨b, o + i * 5 + 4, none⟩ = some (.bool (chL L i).op) at q4
      clear hlt hm hb hI
      generalize chL L i = t at *
      generalize t.bytes = BB at *
      generalize catL L i = X at *
      have e00 := e
      go_upto_region 5 with fail
      generalize hW1 : World.alloc e.x _ = W1
      have HG1 : Hid (Blk W1 e.x.heap.size 47 (itemC t Ai ci)) := hid (by rw [← hW1]; exact Blk.new _ _ _)
      have HX1 : Hid (Ext e.x W1) := hid (by rw [← hW1]; exact (Mod.refl [] _).alloc _)
      clear hW1 q0 q1 q2 q3 q4
      go_wp2_with (first | (refine wpList_row (by rfl) 47 _ rfl _ rfl HG1.out Tryz.underlying47 rfl (by kernel_rfl) ?_) | (go_at_call 37; refine (KB.out _ HX1.out).mono ?_; rintro x w5 ⟨rfl, hb5⟩; have H5 := hid hb5; clear hb5) | (refine wpList_cat (by rfl) _ _ _ _ rfl _ _ rfl rfl (by (try simp only [List.length_append, List.length_cons, List.length_nil]); omega) ?_))
      go_roundw
      case rel => exact ⟨i + 1, by go_num, by (rw [HC.out]) <;> exact str_app _ _, (show Hid _ from HLT.out), ⟨_, e.h.trans (HX1.out.trans H5.out)⟩, rfl⟩
      case measure => have := HLT.out; simp [intOf]; omega
    · obtain rfl : i = k := by have := hi.out; omega
      have tc : decide (i < i) = false := by simp
      generalize catL L i = X at *
      go_wp2_with fail
      go_ret
      exact Ret.mk (by rw [HBY.out]; rfl) ((HE.out.trans H1.out).trans e.h)
end Go.Proofs.YtblfmokklfhklaaGreatDoor
