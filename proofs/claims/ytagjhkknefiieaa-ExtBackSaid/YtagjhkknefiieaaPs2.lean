/-
  An array's items, gathered: the row grows in place or anew; what a round of the parser's loop keeps.
-/
import Derived.Test.YtagjhkknefiieaaPs1
import Derived.Test.YtagjhkknefiieaaItOwn
import Derived.Laws.OwnMore
import Derived.OwnWalk
import Derived.OneCell
namespace Go.Proofs.Ytagjhkknefiieaa
open Go.RowKit
set_option linter.unusedVariables false

section
variable {P : Program} (w : World)
/-- append to a row of the call's own: the row's block is the same, or new. -/
theorem run_append_own2 (base : Nat) (t ty e : TypeId) (i : TypeInfo) (z : Value) (size bytes : Nat) (ht : P.underlying t = some (.slice e)) (hi : P.info? e = some i) (hz : i.zero = some z)
    (hsize : i.size = size) (hby : i.bytes = bytes) (hzs : z.cells.size = size) (hsz : 0 < size)
    (v : Value) (n : Nat) (xs : List Value) (hown : w.ownsRow base e size v n xs)
    (a : Addr) (m c : Nat) (news : List Value) (hl : news.length = m * size) (hnews : ∀ j u, news[j]? = some u → w.cell? (a.add j) = some u) (h1 : ∀ u ∈ news, u.oneCell' = true)
    (h63 : n + m ≤ maxLen) (hbytes : (n + m) * bytes ≤ 140737488355328) (hbase : base ≤ w.heap.size) :
    ∃ v' w', (Builtin.append_ #[t, t] ty #[v, .slice (some a) m c]).run P w = .ok v' w' ∧ w'.ownsRow base e size v' (n + m) (xs ++ news) ∧ w.grownBy w' v.ownBlock ∧
      (v'.ownBlock = v.ownBlock ∨ ∀ k, v'.ownBlock = some k → w.heap.size ≤ k) := by
  obtain ⟨v', w', hr, h2, h3, h4⟩ := run_append_own (P := P) w base t ty e i z size bytes ht hi hz hsize hby hzs hsz v n xs hown a m c news hl hnews h1 h63 hbytes hbase
  refine ⟨v', w', hr, h2, h3, ?_⟩
  have hown0 := hown
  rcases hown.2 with ⟨rfl, rfl⟩ | ⟨g, cap, cur, rfl, hbg, hg, hnc, hcm, hcs, htake⟩
  · have hx : xs = [] := List.eq_nil_of_length_eq_zero (by simpa using hown.1)
    subst hx
    obtain ⟨v2, w2, hr2, g2, _, _⟩ := run_append_own (P := P) w w.heap.size t ty e i z size bytes ht hi hz hsize hby hzs hsz _ _ _ (World.ownsRow_nil w w.heap.size e size) a m c news hl hnews h1 h63 hbytes (Nat.le_refl _)
    rw [hr] at hr2
    simp only [Result.ok.injEq] at hr2
    obtain ⟨rfl, rfl⟩ := hr2
    exact .inr fun k hk => (g2.lt k hk).1
  · subst hsize
    subst hby
    have hsmall : n + m ≤ 9223372036854775807 := by simp only [maxLen] at h63; omega
    by_cases hroom : n + m ≤ cap
    · have hfit : n * i.size + news.length ≤ cur.size := by rw [hl, hcs, ← Nat.add_mul]; exact Nat.mul_le_mul_right _ hroom
      have hr2 := run_append_room (P := P) w t ty e i ht hi g n cap cur hg a m c news hl hnews h1 hroom hfit
      rw [hr] at hr2
      simp only [Result.ok.injEq] at hr2
      obtain ⟨rfl, rfl⟩ := hr2
      exact .inl rfl
    · have holds : ∀ j u, xs[j]? = some u → w.cell? ((⟨g, 0, none⟩ : Addr).add j) = some u := hown.cells (g := g) rfl
      have hr2 := run_append_grow (P := P) w t ty e i z ht hi hz ⟨g, 0, none⟩ n cap xs hown.1 holds a m c news hl hnews (by omega) (by omega) (growslice_fits (by omega) hbytes)
      rw [hr] at hr2
      simp only [Result.ok.injEq] at hr2
      obtain ⟨rfl, rfl⟩ := hr2
      exact .inr fun k hk => by simp [Value.ownBlock] at hk; omega
theorem wpList_append_own2 {ops : Array Oper} {rest : List Oper} {o : Oper} {a : Act} {Q : Exit → Act → World → Prop} (hgd : o.guard = none) (s x : Operand) (t : TypeId)
    (ho : o.op = .call { callee := .builtin .append, args := #[s, x], argTypes := #[t, t] })
    (base : Nat) (e : TypeId) (i : TypeInfo) (z : Value) (size bytes : Nat) (ht : P.underlying t = some (.slice e)) (hi : P.info? e = some i) (hz : i.zero = some z)
    (hsize : i.size = size) (hby : i.bytes = bytes) (hzs : z.cells.size = size) (hsz : 0 < size)
    (v : Value) (n : Nat) (xs : List Value) (hs : a.eval s = v) (hown : w.ownsRow base e size v n xs)
    (ad : Addr) (m c : Nat) (news : List Value) (hx : a.eval x = .slice (some ad) m c) (hl : news.length = m * size) (hnews : ∀ j u, news[j]? = some u → w.cell? (ad.add j) = some u) (h1 : ∀ u ∈ news, u.oneCell' = true)
    (h63 : n + m ≤ maxLen) (hbytes : (n + m) * bytes ≤ 140737488355328) (hbase : base ≤ w.heap.size)
    (h : ∀ v' w', w'.ownsRow base e size v' (n + m) (xs ++ news) → w.grownBy w' v.ownBlock → (v'.ownBlock = v.ownBlock ∨ ∀ k, v'.ownBlock = some k → w.heap.size ≤ k) → wpList P ops Q rest (a.put o.dst v') w') : wpList P ops Q (o :: rest) a w :=
  wpList_plain hgd fun K hK => by
    obtain ⟨v', w', hr, h2, h3, h4⟩ := run_append_own2 (P := P) w base t o.type e i z size bytes ht hi hz hsize hby hzs hsz v n xs hown ad m c news hl hnews h1 h63 hbytes hbase
    unfold Oper.wp execOp
    simp only [ho, resolve, invoke, builtin, Sem.run_bind, Sem.run_pure, Result.andThen_ok, List.map_toArray, List.map_cons, List.map_nil, hs, hx, hr]
    exact hK _ _ (h v' w' h2 h3 h4)
end

/-- What a round keeps: i items have come, as far as e. -/
structure LOk (w : World) (g X N p : Nat) (l : List UInt8) (o : Bool) (n d sz : Nat) (F : Nat × Int) (wr : World) (i e : Nat) (A : Option Addr) (c : Nat) (ch : Nat → T) (ac : Nat → Option Addr × Nat) : Prop where
  i1000 : i ≤ 1000
  iN : o = false → i ≤ n
  fl : floop (flt d) (l.drop p) o n (1000 - i) e = F
  le : p + e ≤ l.length
  cat : (l.drop p).drop sz = T.cat (fun j => (ch j).bytes) i ++ (l.drop p).drop e
  kids : ∀ j, j < i → (ch j).right d = true ∧ (ch j).ok
  mod : Mod [g] w wr
  nx : N ≤ wr.heap.size
  x : Blk wr X 63 #[.int .i64 4, .int .u64 0, str [], .slice A i c, .bool o]
  pa : PAt wr g l (p + e) 0
  own : wr.ownsRow N 63 5 (.slice A i c) i (flatC ch ac i)
  mem : ∀ j, j < i → IsL wr (fun b => N ≤ b ∧ A ≠ some ⟨b, 0, none⟩) (ch j) (ac j).1

theorem cat_congr {f f' : Nat → List UInt8} {i : Nat} (h : ∀ j, j < i → f j = f' j) : T.cat f i = T.cat f' i := by
  induction i with
  | zero => rfl
  | succ i ih => rw [T.cat, T.cat, ih (fun j hj => h j (by omega)), h i (by omega)]

/-- One more. -/
def put (ch : Nat → T) (i : Nat) (t : T) (j : Nat) : T := if j = i then t else ch j
def putA (ac : Nat → Option Addr × Nat) (i : Nat) (a : Option Addr × Nat) (j : Nat) : Option Addr × Nat := if j = i then a else ac j

theorem LOk.step {w : World} {g X N p : Nat} {l : List UInt8} {o : Bool} {n d sz : Nat} {F : Nat × Int} {wr : World} {i e : Nat} {A : Option Addr} {c : Nat} {ch : Nat → T} {ac : Nat → Option Addr × Nat}
    (h : LOk w g X N p l o n d sz F wr i e A c ch ac) (hg : g < w.heap.size) (hwX : w.heap.size ≤ X) (hXN : X < N) (hi : i < 1000) (hin : o = false → i < n) (hnb : ¬ (o = true ∧ l[p + e]? = some 255))
    {t : T} {At : Option Addr} {ct : Nat} {w2 w4 : World} {v' : Value} (hr0 : (flt d (l.drop (p + e))).2 = 0) (hm2 : Mod [g] wr w2) (hp2 : PAt w2 g l (p + e + (flt d (l.drop (p + e))).1) 0)
    (ht : t.right d = true ∧ t.ok) (htb : t.bytes ++ l.drop (p + e + (flt d (l.drop (p + e))).1) = l.drop (p + e)) (hL : IsL w2 (fun b => wr.heap.size ≤ b) t At)
    (hown : w4.ownsRow N 63 5 v' (i + 1) (flatC ch ac i ++ [.int .i64 t.kind, .int .u64 (t.n : Int), str t.s, .slice At t.k ct, .bool t.op])) (hgr : (w2.alloc (.cells (itemC t At ct) 63)).grownBy w4 (Value.slice A i c).ownBlock)
    (hbl : v'.ownBlock = (Value.slice A i c).ownBlock ∨ ∀ k, v'.ownBlock = some k → w2.heap.size ≤ k) :
    ∃ A' c', v' = .slice A' (i + 1) c' ∧ LOk w g X N p l o n d sz F (w4.setCell ⟨X, 3, none⟩ v') (i + 1) (e + (flt d (l.drop (p + e))).1) A' c' (put ch i t) (putA ac i (At, ct)) := by
  obtain ⟨h1, h2, h3, h4, h5, h6, h7, h8, h9, h10, h11, h12⟩ := h
  obtain ⟨g', c', rfl, hNg, hgl⟩ := own_form hown
  refine ⟨some ⟨g', 0, none⟩, c', rfl, ?_⟩
  have hlt := h11.lt
  have hXr : X < wr.heap.size := h9.lt
  have hgr2 : g < wr.heap.size := h10.lt
  have hs2 := hm2.size
  have hrow : ∀ k, (Value.slice A i c).ownBlock = some k → N ≤ k ∧ k < wr.heap.size := hlt
  obtain ⟨S, hS⟩ : ∃ S : List Nat, ∀ k, k ∈ S ↔ (Value.slice A i c).ownBlock = some k := by
    cases A with
    | none => exact ⟨[], fun k => by simp [Value.ownBlock]⟩
    | some a => exact ⟨[a.block], fun k => by simp [Value.ownBlock, eq_comm]⟩
  have hm4 : Mod S w2 w4 := ((Mod.refl S w2).alloc _).grown hgr (fun k hk => .inl ((hS k).2 hk))
  have hsz4 := hm4.size
  have hX4 : X ∉ S := fun hk => by have := hrow X ((hS X).1 hk); omega
  have hg4 : g ∉ S := fun hk => by have := hrow g ((hS g).1 hk); omega
  have hxg : X ≠ g := by omega
  have b4 : Blk w4 X 63 #[.int .i64 4, .int .u64 0, str [], .slice A i c, .bool o] := (h9.mod hm2 (by simpa using hxg)).mod hm4 hX4
  have p4 : PAt w4 g l (p + e + (flt d (l.drop (p + e))).1) 0 := Blk.mod hp2 hm4 hg4
  have hmW : Mod (X :: S) w2 (w4.setCell ⟨X, 3, none⟩ (.slice (some ⟨g', 0, none⟩) (i + 1) c')) := (hm4.mono (fun k hk => List.mem_cons_of_mem _ hk)).setCell (p := ⟨X, 3, none⟩) (.inl List.mem_cons_self) _
  have hA' : ∀ b, b < wr.heap.size → N ≤ b → A ≠ some ⟨b, 0, none⟩ → (some ⟨g', 0, none⟩ : Option Addr) ≠ some ⟨b, 0, none⟩ := by
    intro b hb hN hne he
    simp only [Option.some.injEq, Addr.mk.injEq, and_true] at he
    subst he
    rcases hbl with hbl | hbl
    · cases A with
      | none => simp [Value.ownBlock] at hbl
      | some a =>
        have hs := h11.2
        simp [Value.ownBlock] at hbl
        rcases hs with ⟨hs, _⟩ | ⟨q, cap, cur, hs, _⟩
        · cases hs
        · simp only [Value.slice.injEq, Option.some.injEq] at hs
          obtain ⟨rfl, _⟩ := hs
          simp at hbl
          subst hbl
          exact hne rfl
    · have := hbl g' rfl; omega
  have hle := flt_le d (l.drop (p + e))
  rw [List.length_drop] at hle
  refine ⟨by omega, fun ho => hin ho, ?_, by omega, ?_, ?_, ?_, ?_, ?_, ?_, ?_, ?_⟩
  · rw [← h3, show 1000 - i = (1000 - (i + 1)) + 1 by omega]
    conv => rhs; unfold floop
    rw [if_neg (by rintro ⟨ho, hn⟩; have := hin ho; omega), List.getElem?_drop, if_neg hnb, List.drop_drop, if_pos hr0]
  · rw [h5, T.cat, show put ch i t i = t from if_pos rfl, List.append_assoc]
    congr 1
    · exact cat_congr fun j hj => by rw [show put ch i t j = ch j from if_neg (by omega)]
    · rw [List.drop_drop, List.drop_drop, ← Nat.add_assoc]; exact htb.symm
  · intro j hj
    by_cases e : j = i
    · subst e; rw [show put ch j t j = t from if_pos rfl]; exact ht
    · rw [show put ch i t j = ch j from if_neg e]; exact h6 j (by omega)
  · refine Mod.new (S := g :: X :: S) (((h7.trans hm2).mono (fun k hk => by rw [List.mem_singleton] at hk; subst hk; exact List.mem_cons_self)).trans (hmW.mono (fun k hk => List.mem_cons_of_mem _ hk))) ?_
    intro k hk
    rcases List.mem_cons.1 hk with rfl | hk
    · exact .inl (List.mem_singleton.2 rfl)
    · rcases List.mem_cons.1 hk with rfl | hk
      · exact .inr hwX
      · have := hrow k ((hS k).1 hk)
        exact .inr (by omega)
  · have := hmW.size; omega
  · have := b4.set_ 3 (.slice (some ⟨g', 0, none⟩) (i + 1) c')
    simpa using this
  · rw [← Nat.add_assoc]
    exact Blk.far p4 (by simpa using fun e => hxg e.symm) _
  · rw [flatC, flatC_congr (ch := put ch i t) (ac := putA ac i (At, ct)) (ch' := ch) (ac' := ac) (fun j hj => ⟨if_neg (by omega), if_neg (by omega)⟩), show put ch i t i = t from if_pos rfl, show putA ac i (At, ct) i = (At, ct) from if_pos rfl]
    exact ownsRow_setCell_other hown (by simp [Value.ownBlock]; omega) _
  · intro j hj
    by_cases e : j = i
    · subst e
      rw [show put ch j t j = t from if_pos rfl, show putA ac j (At, ct) j = (At, ct) from if_pos rfl]
      have hS2 : ∀ k, k ∈ X :: S → k < wr.heap.size := fun k hk => by
        rcases List.mem_cons.1 hk with rfl | hk
        · exact hXr
        · exact (hrow k ((hS k).1 hk)).2
      have q1 : IsL w2 (fun b => wr.heap.size ≤ b ∧ (some ⟨g', 0, none⟩ : Option Addr) ≠ some ⟨b, 0, none⟩) t At := IsL.weak (fun k hk hq => ⟨hq, fun he => by
        simp only [Option.some.injEq, Addr.mk.injEq, and_true] at he
        subst he
        rcases hbl with hbl | hbl
        · have := (hrow g' hbl.symm).2; omega
        · have := hbl g' rfl; omega⟩) t hL
      have q2 := IsL.mod hmW (fun k hq hk hm => by have := hS2 k hm; have := hq.1; omega) t q1
      exact IsL.weak (fun k hk hq => ⟨by have := hq.1; omega, hq.2⟩) t q2
    · rw [show put ch i t j = ch j from if_neg e, show putA ac i (At, ct) j = ac j from if_neg e]
      have q0 := IsL.weak (R := fun b => N ≤ b ∧ A ≠ some ⟨b, 0, none⟩ ∧ (some ⟨g', 0, none⟩ : Option Addr) ≠ some ⟨b, 0, none⟩) (fun k hk hq => ⟨hq.1, hq.2, hA' k hk hq.1 hq.2⟩) (ch j) (h12 j (by omega))
      have q1 := IsL.mod hm2 (fun k hq hk hm => by rw [List.mem_singleton] at hm; subst hm; have := hq.1; omega) (ch j) q0
      have q2 := IsL.mod hmW (fun k hq hk hm => by
        rcases List.mem_cons.1 hm with rfl | hm
        · have := hq.1; omega
        · have hk2 := (hS k).1 hm
          cases A with
          | none => simp [Value.ownBlock] at hk2
          | some a =>
            simp [Value.ownBlock] at hk2
            rcases h11.2 with ⟨hs, _⟩ | ⟨q, cap, cur, hs, _⟩
            · cases hs
            · simp only [Value.slice.injEq, Option.some.injEq] at hs
              obtain ⟨rfl, _⟩ := hs
              simp at hk2
              subst hk2
              exact hq.2.1 rfl) (ch j) q1
      exact IsL.weak (fun k hk hq => ⟨hq.1, hq.2.2⟩) (ch j) q2
end Go.Proofs.Ytagjhkknefiieaa
