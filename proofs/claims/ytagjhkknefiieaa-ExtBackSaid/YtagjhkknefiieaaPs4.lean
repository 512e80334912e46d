/-
  The parser's loop: where a round fails; how the loop ends.
-/
import Derived.Test.YtagjhkknefiieaaPs3
namespace Go.Proofs.Ytagjhkknefiieaa
open Go.RowKit
set_option linter.unusedVariables false

/-- What is kept once an item has failed. -/
structure LErr (w : World) (g X : Nat) (l : List UInt8) (p : Nat) (F : Nat × Int) (wr : World) : Prop where
  ne : F.2 ≠ 0
  mod : Mod [g] w wr
  x : ∃ t A c, Blk wr X 63 (itemC t A c)
  pa : PAt wr g l (p + F.1) F.2

theorem LOk.next {w : World} {g X N p : Nat} {l : List UInt8} {o : Bool} {n d sz : Nat} {F : Nat × Int} {wr : World} {i e : Nat} {A : Option Addr} {c : Nat} {ch : Nat → T} {ac : Nat → Option Addr × Nat}
    (h : LOk w g X N p l o n d sz F wr i e A c ch ac) (hi : i < 1000) (hin : o = false → i < n) (hnb : ¬ (o = true ∧ l[p + e]? = some 255)) (hr : (flt d (l.drop (p + e))).2 ≠ 0) :
    F = (e + (flt d (l.drop (p + e))).1, (flt d (l.drop (p + e))).2) := by
  rw [← h.fl, show 1000 - i = (1000 - (i + 1)) + 1 by omega]
  unfold floop
  rw [if_neg (by rintro ⟨ho, hn⟩; have := hin ho; omega), List.getElem?_drop, if_neg hnb, List.drop_drop, if_neg hr]
theorem LOk.stepErr {w : World} {g X N p : Nat} {l : List UInt8} {o : Bool} {n d sz : Nat} {F : Nat × Int} {wr : World} {i e : Nat} {A : Option Addr} {c : Nat} {ch : Nat → T} {ac : Nat → Option Addr × Nat}
    (h : LOk w g X N p l o n d sz F wr i e A c ch ac) (hg : g < w.heap.size) (hwX : w.heap.size ≤ X) (hXN : X < N) (hi : i < 1000) (hin : o = false → i < n) (hnb : ¬ (o = true ∧ l[p + e]? = some 255))
    {t : T} {At : Option Addr} {ct : Nat} {w2 w4 : World} {v' : Value} {xs : List Value} (hr : (flt d (l.drop (p + e))).2 ≠ 0) (hm2 : Mod [g] wr w2) (hp2 : PAt w2 g l (p + e + (flt d (l.drop (p + e))).1) (flt d (l.drop (p + e))).2)
    (hown : w4.ownsRow N 63 5 v' (i + 1) xs) (hgr : (w2.alloc (.cells (itemC t At ct) 63)).grownBy w4 (Value.slice A i c).ownBlock) :
    LErr w g X l p F (w4.setCell ⟨X, 3, none⟩ v') := by
  have hF := h.next hi hin hnb hr
  obtain ⟨h1, h2, h3, h4, h5, h6, h7, h8, h9, h10, h11, h12⟩ := h
  obtain ⟨g', c', rfl, hNg, hgl⟩ := own_form hown
  have hrow : ∀ k, (Value.slice A i c).ownBlock = some k → N ≤ k ∧ k < wr.heap.size := h11.lt
  obtain ⟨S, hS⟩ : ∃ S : List Nat, ∀ k, k ∈ S ↔ (Value.slice A i c).ownBlock = some k := by
    cases A with
    | none => exact ⟨[], fun k => by simp [Value.ownBlock]⟩
    | some a => exact ⟨[a.block], fun k => by simp [Value.ownBlock, eq_comm]⟩
  have hm4 : Mod S w2 w4 := ((Mod.refl S w2).alloc _).grown hgr (fun k hk => .inl ((hS k).2 hk))
  have hX4 : X ∉ S := fun hk => by have := hrow X ((hS X).1 hk); omega
  have hg4 : g ∉ S := fun hk => by have := hrow g ((hS g).1 hk); omega
  have hxg : X ≠ g := by omega
  have b4 : Blk w4 X 63 #[.int .i64 4, .int .u64 0, str [], .slice A i c, .bool o] := (h9.mod hm2 (by simpa using hxg)).mod hm4 hX4
  have p4 : PAt w4 g l (p + e + (flt d (l.drop (p + e))).1) (flt d (l.drop (p + e))).2 := Blk.mod hp2 hm4 hg4
  have hmW : Mod (X :: S) w2 (w4.setCell ⟨X, 3, none⟩ (.slice (some ⟨g', 0, none⟩) (i + 1) c')) := (hm4.mono (fun k hk => List.mem_cons_of_mem _ hk)).setCell (p := ⟨X, 3, none⟩) (.inl List.mem_cons_self) _
  refine ⟨by rw [hF]; exact hr, ?_, ⟨T.mk 4 0 [] o (i + 1) ch, some ⟨g', 0, none⟩, c', ?_⟩, ?_⟩
  · refine Mod.new (S := g :: X :: S) (((h7.trans hm2).mono (fun k hk => by rw [List.mem_singleton] at hk; subst hk; exact List.mem_cons_self)).trans (hmW.mono (fun k hk => List.mem_cons_of_mem _ hk))) ?_
    intro k hk
    rcases List.mem_cons.1 hk with rfl | hk
    · exact .inl (List.mem_singleton.2 rfl)
    · rcases List.mem_cons.1 hk with rfl | hk
      · exact .inr hwX
      · have := hrow k ((hS k).1 hk)
        exact .inr (by omega)
  · have := b4.set_ 3 (.slice (some ⟨g', 0, none⟩) (i + 1) c')
    simpa [itemC, T.kind, T.n, T.s, T.k, T.op] using this
  · rw [hF]
    dsimp only
    rw [← Nat.add_assoc]
    exact Blk.far p4 (by simpa using fun e => hxg e.symm) _

/-- The loop's end. -/
theorem LOk.ends {w : World} {g X N p : Nat} {l : List UInt8} {o : Bool} {n d sz : Nat} {F : Nat × Int} {wr : World} {i e : Nat} {A : Option Addr} {c : Nat} {ch : Nat → T} {ac : Nat → Option Addr × Nat}
    (h : LOk w g X N p l o n d sz F wr i e A c ch ac) (hh : readH (l.drop p) = some (sz, 4, n, o)) (hn : o = false → i = n) {e' : Nat} (he : l.drop (p + e) = (if o then [255] else []) ++ l.drop (p + e')) :
    ((T.mk 4 0 [] o i ch).right (d + 1) = true ∧ (T.mk 4 0 [] o i ch).ok) ∧ (T.mk 4 0 [] o i ch).bytes ++ l.drop (p + e') = l.drop p ∧ IsL wr (fun b => N ≤ b) (T.mk 4 0 [] o i ch) A := by
  obtain ⟨h1, h2, h3, h4, h5, h6, h7, h8, h9, h10, h11, h12⟩ := h
  have hs := readH_some hh
  refine ⟨⟨?_, ?_⟩, ?_, ?_⟩
  · unfold T.right T.node
    rw [if_neg (by omega), Bool.and_eq_true, T.all_iff]
    exact ⟨by simp [h1], fun j hj => (h6 j hj).1⟩
  · unfold T.ok
    exact ⟨by omega, by omega, by simp, by omega, fun j hj => (h6 j hj).2⟩
  · have e1 : (T.mk 4 0 [] o i ch).bytes = (if o then [159] else headL 4 i) ++ (T.cat (fun j => (ch j).bytes) i ++ (if o then [255] else [])) := rfl
    rw [List.drop_drop, List.drop_drop, he] at h5
    rw [e1, List.append_assoc, List.append_assoc, ← h5]
    cases o with
    | false =>
      obtain rfl := hn rfl
      simp only [Bool.false_eq_true, if_false]
      rw [← (hs.closed rfl).1, ← List.drop_drop, List.take_append_drop]
    | true =>
      simp only [if_true]
      have h8 := hs.opened rfl
      obtain rfl := h8.1
      rw [show ([159] : List UInt8) = (l.drop p).take 1 from h8.2.2.2.symm, ← List.drop_drop, List.take_append_drop]
  · intro h0
    obtain ⟨i', rfl⟩ : ∃ i', i = i' + 1 := ⟨i - 1, by omega⟩
    obtain ⟨g', c', hv, hNg, hgl⟩ := own_form h11
    simp only [Value.slice.injEq] at hv
    obtain ⟨rfl, _, rfl⟩ := hv
    refine ⟨g', 0, rfl, hgl, hNg, fun j hj => ⟨(ac j).1, (ac j).2, ?_, IsL.weak (fun k hk hq => hq.1) (ch j) (h12 j hj)⟩⟩
    obtain ⟨f0, f1, f2, f3, f4⟩ := flatC_get ch ac (i' + 1) j hj
    rw [Nat.zero_add]
    exact ⟨(h11.cellAt _ (by omega)).trans f0, (h11.cellAt _ (by omega)).trans f1, (h11.cellAt _ (by omega)).trans f2, (h11.cellAt _ (by omega)).trans f3, (h11.cellAt _ (by omega)).trans f4⟩
/-- F where the loop ends. -/
theorem LOk.F_closed {w : World} {g X N p : Nat} {l : List UInt8} {n d sz : Nat} {F : Nat × Int} {wr : World} {i e : Nat} {A : Option Addr} {c : Nat} {ch : Nat → T} {ac : Nat → Option Addr × Nat}
    (h : LOk w g X N p l false n d sz F wr i e A c ch ac) (hi : i = n) : F = (e, 0) := by
  have h1 := h.i1000
  rw [← h.fl]
  cases hj : 1000 - i with
  | zero => unfold floop; rw [if_pos ⟨rfl, by omega⟩]
  | succ j => unfold floop; rw [if_pos ⟨rfl, by omega⟩]
theorem LOk.F_break {w : World} {g X N p : Nat} {l : List UInt8} {n d sz : Nat} {F : Nat × Int} {wr : World} {i e : Nat} {A : Option Addr} {c : Nat} {ch : Nat → T} {ac : Nat → Option Addr × Nat}
    (h : LOk w g X N p l true n d sz F wr i e A c ch ac) (hb : l[p + e]? = some 255) : F = (e + 1, 0) := by
  have h1 := h.i1000
  rw [← h.fl]
  cases hj : 1000 - i with
  | zero => unfold floop; rw [if_neg (by simp), List.getElem?_drop, if_pos ⟨rfl, hb⟩]
  | succ j => unfold floop; rw [if_neg (by simp), List.getElem?_drop, if_pos ⟨rfl, hb⟩]
theorem LOk.F_long {w : World} {g X N p : Nat} {l : List UInt8} {n d sz : Nat} {F : Nat × Int} {wr : World} {i e : Nat} {A : Option Addr} {c : Nat} {ch : Nat → T} {ac : Nat → Option Addr × Nat}
    (h : LOk w g X N p l true n d sz F wr i e A c ch ac) (hi : i = 1000) (hb : ¬ l[p + e]? = some 255) : F = (e, 4) := by
  rw [← h.fl, hi, show 1000 - 1000 = 0 from rfl]
  unfold floop
  rw [if_neg (by simp), List.getElem?_drop, if_neg (fun x => hb x.2)]

/-- The row's block in a later world. -/
theorem LOk.own2 {w : World} {g X N p : Nat} {l : List UInt8} {o : Bool} {n d sz : Nat} {F : Nat × Int} {wr : World} {i e : Nat} {A : Option Addr} {c : Nat} {ch : Nat → T} {ac : Nat → Option Addr × Nat}
    (h : LOk w g X N p l o n d sz F wr i e A c ch ac) (hgN : g < N) {w2 : World} (hm2 : Mod [g] wr w2) (ob : Obj) : (w2.alloc ob).ownsRow N 63 5 (.slice A i c) i (flatC ch ac i) :=
  (ownsRow_mod h.own hm2 (fun k hk => by have := (h.own.lt k hk).1; simp; omega)).alloc ob
theorem LOk.ext {w : World} {g X N p : Nat} {l : List UInt8} {o : Bool} {n d sz : Nat} {F : Nat × Int} {wr w2 : World} {i e : Nat} {A : Option Addr} {c : Nat} {ch : Nat → T} {ac : Nat → Option Addr × Nat}
    (h : LOk w g X N p l o n d sz F wr i e A c ch ac) (hm : Ext wr w2) : LOk w g X N p l o n d sz F w2 i e A c ch ac := by
  obtain ⟨h1, h2, h3, h4, h5, h6, h7, h8, h9, h10, h11, h12⟩ := h
  exact ⟨h1, h2, h3, h4, h5, h6, h7.trans hm.of_ext, Nat.le_trans h8 hm.size, h9.ext hm, Blk.ext h10 hm, ownsRow_mod h11 hm (by simp), fun j hj => (h12 j hj).ext hm⟩
theorem LOk.keep {w : World} {g X N p : Nat} {l : List UInt8} {o : Bool} {n d sz : Nat} {F : Nat × Int} {wr : World} {i e : Nat} {A : Option Addr} {c : Nat} {ch : Nat → T} {ac : Nat → Option Addr × Nat}
    (h : LOk w g X N p l o n d sz F wr i e A c ch ac) {w2 w4 : World} (hm2 : Mod [g] wr w2) {ob : Obj} (hgr : (w2.alloc ob).grownBy w4 (Value.slice A i c).ownBlock)
    {b : Nat} {ty : TypeId} {cs : Array Value} (hB : Blk wr b ty cs) (hbg : b ≠ g) (hbN : b < N) : Blk w4 b ty cs := by
  have hrow : ∀ k, (Value.slice A i c).ownBlock = some k → N ≤ k ∧ k < wr.heap.size := h.own.lt
  obtain ⟨S, hS⟩ : ∃ S : List Nat, ∀ k, k ∈ S ↔ (Value.slice A i c).ownBlock = some k := by
    cases A with
    | none => exact ⟨[], fun k => by simp [Value.ownBlock]⟩
    | some a => exact ⟨[a.block], fun k => by simp [Value.ownBlock, eq_comm]⟩
  have hm4 : Mod S w2 w4 := ((Mod.refl S w2).alloc _).grown hgr (fun k hk => .inl ((hS k).2 hk))
  exact (hB.mod hm2 (by simpa using hbg)).mod hm4 (fun hk => by have := hrow b ((hS b).1 hk); omega)
theorem LOk.room {w : World} {g X N p : Nat} {l : List UInt8} {o : Bool} {n d sz : Nat} {F : Nat × Int} {wr : World} {i e : Nat} {A : Option Addr} {c : Nat} {ch : Nat → T} {ac : Nat → Option Addr × Nat}
    (h : LOk w g X N p l o n d sz F wr i e A c ch ac) {w2 : World} (hm2 : Mod [g] wr w2) : N ≤ w2.heap.size := Nat.le_trans h.nx hm2.size
end Go.Proofs.Ytagjhkknefiieaa
