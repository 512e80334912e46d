/-
  The law ItemParses: its walk.
  A list of items that grows by append: what is kept from round to round.
  The reference's item of bytes.
  Reports, plainly: what bytes tell.
  What is read of any bytes: names.
  What is read of any bytes: numbers.
  What is read of any bytes: hops.
  What is read of any bytes: hops, whole.
  What the reference reads of any bytes: numbers.
  What the reference reads of any bytes: hops.
  The reference's name of any item.
  What the reference reads of any bytes: a name.
  Reports: Parse.
-/
import Derived.Test.YtogjghmoankleaaMReportParsesi
import Derived.Deep.AppendLies
import Derived.Deep.RegionLaw

namespace Go.Proofs.Ytogjghmoankleaa
open Go.RowKit
set_option linter.unusedVariables false
set_option linter.unusedSimpArgs false

theorem fault_any (l : List UInt8) (hl : l.length ≤ 1073741824) : ∀ d : Nat, d ≤ 9 → ∀ p, p ≤ l.length → ∀ w, Calls Try.prog 59 #[str l, .int .i64 (p : Int), .int .i64 (d : Int)] w (Ret (faultV p (flt d (l.drop p))) w) := by
  intro d
  induction d with
  | zero =>
    intro _ p hp w
    cases hr : readH (l.drop p) with
    | none => exact fault_none l p ⟨hp, hl⟩ 0 hr w
    | some x =>
      obtain ⟨sz, m, n, o⟩ := x
      have hm := (readH_some hr).m7
      have h8 : (m = 1 ∨ m = 5 ∨ m = 6 ∨ m = 7) ∨ (m = 0 ∨ m = 2 ∨ m = 3 ∨ m = 4) := by omega
      rcases h8 with h8 | h8
      · exact fault_noK l p ⟨hp, hl⟩ 0 sz m n o h8 hr w
      · exact fault_deep l p ⟨hp, hl⟩ sz m n o h8 hr w
  | succ d ih =>
    intro hd p hp w
    have ih' := ih (by omega)
    have e : ((d + 1 : Nat) : Int) = (d : Int) + 1 := by omega
    cases hr : readH (l.drop p) with
    | none => exact fault_none l p ⟨hp, hl⟩ (d + 1) hr w
    | some x =>
      obtain ⟨sz, m, n, o⟩ := x
      have hm := (readH_some hr).m7
      have h8 : (m = 1 ∨ m = 5 ∨ m = 6 ∨ m = 7) ∨ m = 0 ∨ (m = 2 ∨ m = 3) ∨ m = 4 := by omega
      rcases h8 with h8 | rfl | h8 | rfl
      · exact fault_noK l p ⟨hp, hl⟩ (d + 1) sz m n o h8 hr w
      · rw [e]; exact fault_num l p ⟨hp, hl⟩ d sz n o hr w
      · rw [e]
        cases o with
        | true => exact fault_str_open l p ⟨hp, hl⟩ d sz m n h8 hr w
        | false =>
          by_cases hb : (l.drop p).length - sz < n
          · exact fault_str_bad l p ⟨hp, hl⟩ d sz m n h8 hr hb w
          · exact fault_str_good l p ⟨hp, hl⟩ d sz m n h8 hr hb w
      · rw [e]
        cases o with
        | false =>
          by_cases hn : 1000 < n
          · exact fault_long l p ⟨hp, hl⟩ d sz n hn hr w
          · exact fault_arr_false l p ⟨hp, hl⟩ d sz n (by unfold Hid; omega) ih' (fun h => hn h.2) hr w
        | true => exact fault_arr_true l p ⟨hp, hl⟩ d sz n (by unfold Hid; omega) ih' (fun h => by cases h.1) hr w
theorem nul_count : nulT.count 2 = 1 := by decide
theorem nul_ok : nulT.ok := by unfold nulT T.ok; exact ⟨by omega, by omega, by simp, by omega, fun i hi => by omega⟩

end Go.Proofs.Ytogjghmoankleaa


namespace Go.Proofs.Ytogjghmoankleaa
open Go.RowKit
set_option linter.unusedVariables false
set_option linter.unusedSimpArgs false

def putT (ch : Nat → T) (i : Nat) (t : T) (j : Nat) : T := if j = i then t else ch j
def putP (ac : Nat → Option Addr × Nat) (i : Nat) (a : Option Addr × Nat) (j : Nat) : Option Addr × Nat := if j = i then a else ac j
theorem putT_self (ch : Nat → T) (i : Nat) : putT ch i (ch i) = ch := by
  funext j
  unfold putT
  by_cases h : j = i
  · rw [if_pos h, h]
  · rw [if_neg h]

/-- i items of ch lie in a list of one's own, at or above N; what hangs on them lies in blocks of Q0. -/
structure GL (Q0 : Nat → Prop) (N : Nat) (wr : World) (i : Nat) (A : Option Addr) (c : Nat) (ch : Nat → T) (ac : Nat → Option Addr × Nat) : Prop where
  nx : N ≤ wr.heap.size
  own : wr.ownsRow N 38 5 (.slice A i c) i (flatC ch ac i)
  mem : ∀ j, j < i → IsL wr (fun b => Q0 b ∧ A ≠ some ⟨b, 0, none⟩) (ch j) (ac j).1

section
variable {Q0 : Nat → Prop} {N : Nat} {wr : World} {i : Nat} {A : Option Addr} {c : Nat} {ch : Nat → T} {ac : Nat → Option Addr × Nat}
theorem GL.nil (Q0 : Nat → Prop) {N : Nat} {wr : World} (h : N ≤ wr.heap.size) (ch : Nat → T) (ac : Nat → Option Addr × Nat) : GL Q0 N wr 0 none 0 ch ac := ⟨h, World.ownsRow_nil _ _ _ _, fun j hj => by omega⟩
theorem GL.mod (h : GL Q0 N wr i A c ch ac) {w2 : World} {S : List Nat} (hm : Mod S wr w2) (hS : ∀ k, k ∈ S → k < N ∧ ¬ Q0 k) : GL Q0 N w2 i A c ch ac :=
  ⟨Nat.le_trans h.nx hm.size, ownsRow_mod h.own hm (fun k hk hm => by have := (h.own.lt k hk).1; have := (hS k hm).1; omega), fun j hj => IsL.mod hm (fun k hq _ hk => (hS k hk).2 hq.1) (ch j) (h.mem j hj)⟩
theorem GL.ext (h : GL Q0 N wr i A c ch ac) {w2 : World} (hm : Ext wr w2) : GL Q0 N w2 i A c ch ac := h.mod hm (fun k hk => by cases hk)
theorem GL.own2 (h : GL Q0 N wr i A c ch ac) {w2 : World} (hm : Ext wr w2) (ob : Obj) : (w2.alloc ob).ownsRow N 38 5 (.slice A i c) i (flatC ch ac i) := (h.ext hm).own.alloc ob
theorem GL.room (h : GL Q0 N wr i A c ch ac) {w2 : World} (hm : Ext wr w2) : N ≤ w2.heap.size := Nat.le_trans h.nx hm.size
/-- Which blocks an append turns. -/
theorem GL.turned (h : GL Q0 N wr i A c ch ac) {w2 w4 : World} (hm : Ext wr w2) {ob : Obj} (hgr : (w2.alloc ob).grownBy w4 (Value.slice A i c).ownBlock) : ∃ S, (∀ k, k ∈ S ↔ (Value.slice A i c).ownBlock = some k) ∧ Mod S w2 w4 := by
  obtain ⟨S, hS⟩ : ∃ S : List Nat, ∀ k, k ∈ S ↔ (Value.slice A i c).ownBlock = some k := by
    cases A with
    | none => exact ⟨[], fun k => by simp [Value.ownBlock]⟩
    | some a => exact ⟨[a.block], fun k => by simp [Value.ownBlock, eq_comm]⟩
  exact ⟨S, hS, ((Mod.refl S w2).alloc _).grown hgr (fun k hk => .inl ((hS k).2 hk))⟩
theorem GL.keep (h : GL Q0 N wr i A c ch ac) {w2 w4 : World} (hm : Ext wr w2) {ob : Obj} (hgr : (w2.alloc ob).grownBy w4 (Value.slice A i c).ownBlock) {b : Nat} {ty : TypeId} {cs : Array Value} (hB : Blk wr b ty cs) (hbN : b < N) : Blk w4 b ty cs := by
  obtain ⟨S, hS, hm4⟩ := h.turned hm hgr
  exact (hB.ext hm).mod hm4 (fun hk => by have := (h.own.lt b ((hS b).1 hk)).1; omega)
theorem GL.since (h : GL Q0 N wr i A c ch ac) {w w2 w4 : World} (hw : Ext w wr) (hwN : w.heap.size ≤ N) (hm : Ext wr w2) {ob : Obj} (hgr : (w2.alloc ob).grownBy w4 (Value.slice A i c).ownBlock) : Ext w w4 := by
  obtain ⟨S, hS, hm4⟩ := h.turned hm hgr
  refine Mod.new (S := S) (((hw.trans hm).of_ext).trans hm4) (fun k hk => .inr ?_)
  have := (h.own.lt k ((hS k).1 hk)).1; omega
theorem GL.step (h : GL Q0 N wr i A c ch ac) {w2 w4 : World} (hm : Ext wr w2) {t : T} {At : Option Addr} {ct : Nat} {v' : Value}
    (hL : IsL w2 (fun b => Q0 b ∧ (b < N ∨ wr.heap.size ≤ b)) t At)
    (hown : w4.ownsRow N 38 5 v' (i + 1) (flatC ch ac i ++ [.int .i64 t.kind, .int .u64 (t.n : Int), str t.s, .slice At t.k ct, .bool t.op])) {ob : Obj} (hgr : (w2.alloc ob).grownBy w4 (Value.slice A i c).ownBlock)
    (hbl : v'.ownBlock = (Value.slice A i c).ownBlock ∨ ∀ k, v'.ownBlock = some k → w2.heap.size ≤ k) :
    ∃ g' c', v' = .slice (some ⟨g', 0, none⟩) (i + 1) c' ∧ GL Q0 N w4 (i + 1) (some ⟨g', 0, none⟩) c' (putT ch i t) (putP ac i (At, ct)) := by
  obtain ⟨S, hS, hm4⟩ := h.turned hm hgr
  obtain ⟨h8, h11, h12⟩ := h
  obtain ⟨g', c', rfl, hNg, hgl⟩ := own_form hown
  refine ⟨g', c', rfl, ?_⟩
  have hs2 := hm.size
  have hs4 := hm4.size
  have hrow : ∀ k, (Value.slice A i c).ownBlock = some k → N ≤ k ∧ k < wr.heap.size := h11.lt
  have hA' : ∀ b, b < wr.heap.size → A ≠ some ⟨b, 0, none⟩ → (some ⟨g', 0, none⟩ : Option Addr) ≠ some ⟨b, 0, none⟩ := by
    intro b hb hne he
    simp only [Option.some.injEq, Addr.mk.injEq, and_true] at he
    subst he
    rcases hbl with hbl | hbl
    · cases A with
      | none => simp [Value.ownBlock] at hbl
      | some a =>
        simp [Value.ownBlock] at hbl
        rcases h11.2 with ⟨hs, _⟩ | ⟨q, cap, cur, hs, _⟩
        · cases hs
        · simp only [Value.slice.injEq, Option.some.injEq] at hs
          obtain ⟨rfl, _⟩ := hs
          simp at hbl
          subst hbl
          exact hne rfl
    · have := hbl g' rfl; omega
  refine ⟨by omega, ?_, ?_⟩
  · rw [flatC, flatC_congr (ch := putT ch i t) (ac := putP ac i (At, ct)) (ch' := ch) (ac' := ac) (fun j hj => ⟨if_neg (by omega), if_neg (by omega)⟩), show putT ch i t i = t from if_pos rfl, show putP ac i (At, ct) i = (At, ct) from if_pos rfl]
    exact hown
  · intro j hj
    by_cases e : j = i
    · subst e
      rw [show putT ch j t j = t from if_pos rfl, show putP ac j (At, ct) j = (At, ct) from if_pos rfl]
      have q1 : IsL w2 (fun b => (Q0 b ∧ (some ⟨g', 0, none⟩ : Option Addr) ≠ some ⟨b, 0, none⟩) ∧ b ∉ S) t At := IsL.weak (fun k hk hq => ⟨⟨hq.1, fun he => by
        simp only [Option.some.injEq, Addr.mk.injEq, and_true] at he
        subst he
        rcases hbl with hbl | hbl
        · have := hrow g' hbl.symm; have := hq.2; omega
        · have := hbl g' rfl; have := hq.2; omega⟩, fun hkS => by have := hrow k ((hS k).1 hkS); have := hq.2; omega⟩) t hL
      exact IsL.weak (fun k hk hq => hq.1) t (IsL.mod hm4 (fun k hq hk hmm => hq.2 hmm) t q1)
    · rw [show putT ch i t j = ch j from if_neg e, show putP ac i (At, ct) j = ac j from if_neg e]
      have q0 := IsL.weak (R := fun b => (Q0 b ∧ (some ⟨g', 0, none⟩ : Option Addr) ≠ some ⟨b, 0, none⟩) ∧ A ≠ some ⟨b, 0, none⟩) (fun k hk hq => ⟨⟨hq.1, hA' k hk hq.2⟩, hq.2⟩) (ch j) (h12 j (by omega))
      have q1 := IsL.mod hm (fun k hq hk hm => by cases hm) (ch j) q0
      have q2 := IsL.mod hm4 (fun k hq hk hm => by
        have hk2 := (hS k).1 hm
        cases A with
        | none => simp [Value.ownBlock] at hk2
        | some a =>
          simp [Value.ownBlock] at hk2
          rcases h11.2 with ⟨hs, _⟩ | ⟨q, cap, cur, hs, _⟩
          · cases hs
          · simp only [Value.slice.injEq, Option.some.injEq] at hs
            obtain ⟨rfl, _⟩ := hs
            simp at hk2
            subst hk2
            exact hq.2 rfl) (ch j) q1
      exact IsL.weak (fun k hk hq => hq.1) (ch j) q2
/-- The list, whole. -/
theorem GL.isL (h : GL Q0 N wr i A c ch ac) {Q : Nat → Prop} (hQ : ∀ b, Q0 b → Q b) (hN : ∀ b, N ≤ b → Q b) (op : Bool) : IsL wr Q (T.mk 4 0 [] op i ch) A := by
  intro h0
  obtain ⟨i', rfl⟩ : ∃ i', i = i' + 1 := ⟨i - 1, by omega⟩
  obtain ⟨g', c', hv, hNg, hgl⟩ := own_form h.own
  simp only [Value.slice.injEq] at hv
  obtain ⟨rfl, _, rfl⟩ := hv
  refine ⟨g', 0, rfl, hgl, hN _ hNg, fun j hj => ⟨(ac j).1, (ac j).2, ?_, IsL.weak (fun k hk hq => hQ _ hq.1) (ch j) (h.mem j hj)⟩⟩
  obtain ⟨f0, f1, f2, f3, f4⟩ := flatC_get ch ac (i' + 1) j hj
  refine ⟨?_, ?_, ?_, ?_, ?_⟩
  · rw [Nat.zero_add]; exact own_cells h.own f0
  · rw [Nat.zero_add]; exact own_cells h.own f1
  · rw [Nat.zero_add]; exact own_cells h.own f2
  · rw [Nat.zero_add]; exact own_cells h.own f3
  · rw [Nat.zero_add]; exact own_cells h.own f4
end
end Go.Proofs.Ytogjghmoankleaa


namespace Go.Proofs.Ytogjghmoankleaa
open Go.RowKit
set_option linter.unusedVariables false
set_option linter.unusedSimpArgs false

def IMade (t : T) (w : World) (e : Ending) (w' : World) : Prop := ∃ A c, e = .returned (itemV t A c) ∧ Ext w w' ∧ IsL w' (fun b => w.heap.size ≤ b) t A

theorem T.right_plain {t : T} {d : Nat} (h : t.right d = true) : t.plain = true := by
  rw [T.right_eq, Bool.and_eq_true] at h; exact h.2
theorem T.right_up (t : T) : ∀ d, t.right d = true → t.right (d + 1) = true := by
  induction t with
  | nil => intro d h; exact h
  | mk kind n s op k ch ih =>
    intro d h
    unfold T.right at h ⊢
    by_cases h0 : d < 1
    · rw [if_pos h0] at h; cases h
    · rw [if_neg h0, Bool.and_eq_true, T.all_iff] at h
      rw [if_neg (by omega), Bool.and_eq_true, T.all_iff]
      exact ⟨h.1, fun i hi => by have := ih i (d - 1) (h.2 i hi); rw [show d + 1 - 1 = d - 1 + 1 by omega]; exact this⟩
/-- An array's bytes, up to its i-th item. -/
def upto (op : Bool) (k : Nat) (ch : Nat → T) (i : Nat) : List UInt8 := (if op then [159] else headL 4 k) ++ T.cat (fun j => (ch j).bytes) i
def arrB (op : Bool) (k : Nat) (ch : Nat → T) : List UInt8 := (T.mk 4 0 [] op k ch).bytes
theorem arr_upto {op : Bool} {k : Nat} {ch : Nat → T} {i : Nat} (hi : i ≤ k) : ∃ r, arrB op k ch = upto op k ch i ++ r ∧ (i = k → r = if op then [255] else []) := by
  obtain ⟨r, hr⟩ := cat_split (fun i => (ch i).bytes) hi
  have e : arrB op k ch = (if op then [159] else headL 4 k) ++ (T.cat (fun j => (ch j).bytes) k ++ (if op then [255] else [])) := rfl
  refine ⟨r ++ (if op then [255] else []), ?_, ?_⟩
  · rw [e, hr]; unfold upto; simp only [List.append_assoc]
  · rintro rfl
    have : r = [] := by
      have := congrArg List.length hr
      rw [List.length_append] at this
      exact List.eq_nil_of_length_eq_zero (by omega)
    rw [this]; rfl
theorem upto_succ (op : Bool) (k : Nat) (ch : Nat → T) (i : Nat) : upto op k ch (i + 1) = upto op k ch i ++ (ch i).bytes := by
  unfold upto; rw [T.cat, List.append_assoc]
theorem arr_drop {op : Bool} {k : Nat} {ch : Nat → T} {i : Nat} (hi : i < k) : (arrB op k ch).drop (upto op k ch i).length = (ch i).bytes ++ (arrB op k ch).drop (upto op k ch (i + 1)).length := by
  obtain ⟨r, hr, _⟩ := arr_upto (op := op) (ch := ch) (show i + 1 ≤ k from hi)
  rw [hr, List.drop_left, upto_succ, List.append_assoc, List.drop_left]
theorem arr_le {op : Bool} {k : Nat} {ch : Nat → T} {i : Nat} (hi : i ≤ k) : (upto op k ch i).length + (if op then 1 else 0) ≤ (arrB op k ch).length := by
  obtain ⟨r, hr, _⟩ := arr_upto (op := op) (ch := ch) hi
  obtain ⟨r2, hr2, h2⟩ := arr_upto (op := op) (ch := ch) (Nat.le_refl k)
  have h2 := h2 rfl
  have hl : (upto op k ch i).length ≤ (upto op k ch k).length := by
    obtain ⟨r, hr⟩ := cat_split (fun i => (ch i).bytes) hi
    unfold upto; rw [hr]; simp
  rw [hr2, List.length_append, h2]
  cases op <;> simp <;> omega
theorem arr_full {op : Bool} {k : Nat} {ch : Nat → T} : (upto op k ch k).length + (if op then 1 else 0) = (arrB op k ch).length := by
  obtain ⟨r2, hr2, h2⟩ := arr_upto (op := op) (ch := ch) (Nat.le_refl k)
  rw [hr2, List.length_append, h2 rfl]
  cases op <;> simp

set_option maxRecDepth 20000 in
set_option maxHeartbeats 800000 in
theorem r13_num (l : List UInt8) (sz n : Nat) (o : Bool) (hr : readH l = some (sz, 0, n, o)) (w : World) : Calls Try.prog 60 #[str l] w (Ret (itemV (numT n) none 0) w) := by
  have K := hid (fun W => read_any l W)
  rw [hr] at K
  have HE := hid ((Mod.refl [] w).alloc (.cells (itemC nulT none 0) 38))
  have HQ := hid (Blk.new w 38 (itemC nulT none 0))
  clear hr
  go_enter Try.func60, Try.ntmps60
  go_wp2_with fail
  refine (K.out _).mono ?_
  rintro e1 w1 ⟨rfl, hb1⟩
  dsimp only [gotOf, gotV]
  have HE1 := hid ((HE.out.trans hb1).alloc (.cells #[.int .i64 (sz : Int), .int .i64 0, .int .u64 (n : Int), .bool o] 141))
  have HQ1 := hid ((HQ.out.ext hb1).alloc (.cells #[.int .i64 (sz : Int), .int .i64 0, .int .u64 (n : Int), .bool o] 141))
  clear hb1
  obtain ⟨c0, c1, c2, c3, c4⟩ := cells5 HQ1.out
  have f0 := HQ1.out.frozen 0
  have f1 := HQ1.out.frozen 1
  have f2 := HQ1.out.frozen 2
  have f3 := HQ1.out.frozen 3
  have f4 := HQ1.out.frozen 4
  go_wp2_with fail
  obtain ⟨d0, d1, d2, d3, d4⟩ := cells5 (set5_blk (t := numT n) (A := none) (c := 0) HQ1.out)
  clear c0 c1 c2 c3 c4 f0 f1 f2 f3 f4
  show bodyPost _ _ _ _ _ (set5 (w1.alloc (.cells #[.int .i64 (sz : Int), .int .i64 0, .int .u64 (n : Int), .bool o] 141)) w.heap.size (numT n) none 0)
  refine bodyPost_ret (v := itemV (numT n) none 0) (by simp [results, Try.results60, go_sem, d0, d1, d2, d3, d4]) rfl (Ret.mk rfl (set5_mod HE1.out (Nat.le_refl _)))
set_option maxRecDepth 20000 in
set_option maxHeartbeats 800000 in
theorem r13_str (l : List UInt8) (hl : l.length ≤ 1073741824) (sz m n : Nat) (o : Bool) (hm : m = 2 ∨ m = 3) (hr : readH l = some (sz, m, n, o)) (w : World) : Calls Try.prog 60 #[str l] w (Ret (itemV (sT m (l.drop sz)) none 0) w) := by
  have K := hid (fun W => read_any l W)
  rw [hr] at K
  have s1 : (sz : Int) ≤ (l.length : Int) := by have := (readH_some hr).le; omega
  have s0 : (0 : Int) ≤ (sz : Int) := by omega
  have l1 : (l.length : Int) ≤ 1073741824 := by omega
  have m0 : ((m : Int) == 0) = false := by simp; omega
  have m1 : ((m : Int) = 0) = False := by simp; omega
  have m4 : decide ((m : Int) < 4) = true := by simp; omega
  have m5 : ((m : Int) < 4) = True := by simp; omega
  have HE := hid ((Mod.refl [] w).alloc (.cells (itemC nulT none 0) 38))
  have HQ := hid (Blk.new w 38 (itemC nulT none 0))
  clear hr hm hl
  go_enter Try.func60, Try.ntmps60
  go_wp2_with fail
  refine (K.out _).mono ?_
  rintro e1 w1 ⟨rfl, hb1⟩
  dsimp only [gotOf, gotV]
  have HE1 := hid ((HE.out.trans hb1).alloc (.cells #[.int .i64 (sz : Int), .int .i64 (m : Int), .int .u64 (n : Int), .bool o] 141))
  have HQ1 := hid ((HQ.out.ext hb1).alloc (.cells #[.int .i64 (sz : Int), .int .i64 (m : Int), .int .u64 (n : Int), .bool o] 141))
  clear hb1
  obtain ⟨c0, c1, c2, c3, c4⟩ := cells5 HQ1.out
  have f0 := HQ1.out.frozen 0
  have f1 := HQ1.out.frozen 1
  have f2 := HQ1.out.frozen 2
  have f3 := HQ1.out.frozen 3
  have f4 := HQ1.out.frozen 4
  go_wp2_with fail
  go_region
  rw [extract_rest]
  go_wp2_with fail
  obtain ⟨d0, d1, d2, d3, d4⟩ := cells5 (set5_blk (t := sT m (l.drop sz)) (A := none) (c := 0) HQ1.out).drew
  clear c0 c1 c2 c3 c4 f0 f1 f2 f3 f4
  show bodyPost _ _ _ _ _ (set5 (w1.alloc (.cells #[.int .i64 (sz : Int), .int .i64 (m : Int), .int .u64 (n : Int), .bool o] 141)) w.heap.size (sT m (l.drop sz)) none 0).drew
  refine bodyPost_ret (v := itemV (sT m (l.drop sz)) none 0) (by simp [results, Try.results60, go_sem, d0, d1, d2, d3, d4]) rfl (Ret.mk rfl (set5_mod HE1.out (Nat.le_refl _)).drew)
set_option maxRecDepth 20000 in
set_option maxHeartbeats 1600000 in
theorem r13_arr_false (k : Nat) (ch : Nat → T) (ht : (T.mk 4 0 [] false k ch).right 8 = true) (hok : (T.mk 4 0 [] false k ch).ok) (hl : (arrB false k ch).length ≤ 1073741824)
    (IH : ∀ i, i < k → ∀ w, Calls Try.prog 60 #[str (ch i).bytes] w (IMade (ch i) w)) (w : World) : Calls Try.prog 60 #[str (arrB false k ch)] w (IMade (T.mk 4 0 [] false k ch) w) := by
  have hk1 : k ≤ 1000 ∧ ∀ i, i < k → (ch i).right 8 = true := by
    unfold T.right at ht
    rw [if_neg (by decide), Bool.and_eq_true, T.all_iff] at ht
    refine ⟨by have := ht.1; unfold T.node at this; simpa using this, fun i hi => T.right_up _ 7 (ht.2 i hi)⟩
  have hok1 : ∀ i, i < k → (ch i).ok := hok.2.2.2.2
  have hrH : readH (arrB false k ch) = some ((headL 4 k).length, 4, k, false) := by
    have := T.readH_bytes _ (T.right_plain ht) hok []
    rw [List.append_nil] at this
    exact this
  obtain ⟨P, hP⟩ : ∃ P : Nat → Nat, P = fun i => (upto false k ch i).length := ⟨_, rfl⟩
  have HN : Hid (∀ i, i < k → P i ≤ P (i + 1) ∧ flt 8 ((arrB false k ch).drop (P i)) = (P (i + 1) - P i, 0) ∧ ((arrB false k ch).drop (P i)).take (P (i + 1) - P i) = (ch i).bytes ∧ P (i + 1) ≤ (arrB false k ch).length ∧ P i < (arrB false k ch).length - 1 + 1) := fun i hi => by
    have e := arr_drop (op := false) (ch := ch) hi
    have u := upto_succ false k ch i
    have le := arr_le (op := false) (ch := ch) (show i + 1 ≤ k from hi)
    have hb : 0 < (ch i).bytes.length := by
      cases hc : (ch i).bytes with
      | nil =>
        have := T.readH_bytes _ (T.right_plain (hk1.2 i hi)) (hok1 i hi) []
        rw [hc] at this; simp [readH] at this
      | cons _ _ => simp
    have hp : P (i + 1) = P i + (ch i).bytes.length := by rw [hP]; dsimp only; rw [u, List.length_append]
    have hp2 : (upto false k ch i).length = P i := by rw [hP]
    have hp3 : (upto false k ch (i + 1)).length = P (i + 1) := by rw [hP]
    rw [hp2, hp3] at e
    rw [hp3] at le
    have hd : P (i + 1) - P i = (ch i).bytes.length := by omega
    refine ⟨by omega, ?_, ?_, by omega, ?_⟩
    · rw [e, hd]; exact flt_bytes (ch i) 8 (hk1.2 i hi) (hok1 i hi) _
    · rw [e, hd, List.take_left]
    · revert le; simp; omega
  have h0 : P 0 = (headL 4 k).length := by rw [hP]; simp [upto, T.cat]
  have HK : Hid (P k + 0 = (arrB false k ch).length) := by unfold Hid; rw [hP]; have := arr_full (op := false) (k := k) (ch := ch); simpa using this
  have HI : Hid (k ≤ 1000) := hk1.1
  have HIH : Hid (∀ i, i < k → ∀ w, Calls Try.prog 60 #[str (ch i).bytes] w (IMade (ch i) w)) := IH
  obtain ⟨sz, hsz⟩ : ∃ sz, sz = (headL 4 k).length := ⟨_, rfl⟩
  rw [← hsz] at h0 hrH
  have HRT := hid ht
  clear ht hok hk1 hok1 hP IH hsz
  generalize arrB false k ch = l at *
  have K := hid (fun W => read_any l W)
  have KF := hid (fun q (hq : q ≤ l.length) W => fault_any l hl 8 (by omega) q hq W)
  rw [hrH] at K
  have l1 : (l.length : Int) ≤ 1073741824 := by omega
  have HL := hid hl
  have HE := hid ((Mod.refl [] w).alloc (.cells (itemC nulT none 0) 38))
  have HQ := hid (Blk.new w 38 (itemC nulT none 0))
  have H0 := hid h0
  clear hrH hl h0
  go_enter Try.func60, Try.ntmps60
  go_wp2_with fail
  refine (K.out _).mono ?_
  rintro e1 w1 ⟨rfl, hb1⟩
  dsimp only [gotOf, gotV]
  (try simp only [show ((4 : Nat) : Int) = 4 from rfl])
  (try simp only [show ((0 : Nat) : Int) = 0 from rfl])
  have HE2 := hid (((HE.out.trans hb1).alloc (.cells #[.int .i64 (sz : Int), .int .i64 4, .int .u64 ((k : Int)), .bool false] 141)).alloc (.cells #[.int .i64 4, .int .u64 0, str [], .slice none 0 0, .bool false] 38))
  have HQ2 := hid (((HQ.out.ext hb1).alloc (.cells #[.int .i64 (sz : Int), .int .i64 4, .int .u64 ((k : Int)), .bool false] 141)).alloc (.cells #[.int .i64 4, .int .u64 0, str [], .slice none 0 0, .bool false] 38))
  have HG2 := hid ((Blk.new w1 141 #[.int .i64 (sz : Int), .int .i64 4, .int .u64 ((k : Int)), .bool false]).alloc (.cells #[.int .i64 4, .int .u64 0, str [], .slice none 0 0, .bool false] 38))
  have HX2 := hid (Blk.new' (w1.alloc (.cells #[.int .i64 (sz : Int), .int .i64 4, .int .u64 ((k : Int)), .bool false] 141)) 38 #[.int .i64 4, .int .u64 0, str [], .slice none 0 0, .bool false] (N := w1.heap.size + 1) (by simp))
  have hw1 : w.heap.size < w1.heap.size := by have := hb1.size; simp at this; omega
  have HW1 := hid hw1
  have HGL2 := hid (GL.nil (fun b => w1.heap.size + 2 ≤ b) (N := w1.heap.size + 2) (wr := (w1.alloc (.cells #[.int .i64 (sz : Int), .int .i64 4, .int .u64 ((k : Int)), .bool false] 141)).alloc (.cells #[.int .i64 4, .int .u64 0, str [], .slice none 0 0, .bool false] 38)) (by simp) ch (fun _ => (none, 0)))
  clear hb1 hw1 HE HQ
  go_wp2_with fail
  generalize w1.heap.size = G at *
  go_loopw [5, 6] (fun s5 s6 wr => ∃ (i : Nat) (A : Option Addr) (c : Nat) (ac : Nat → Option Addr × Nat), s5 = .int .i64 ((P i : Nat) : Int) ∧ s6 = .int .u64 (i : Int) ∧ Hid (i ≤ k) ∧ Hid (Ext w wr ∧ Blk wr w.heap.size 38 (itemC nulT none 0) ∧ Blk wr G 141 #[.int .i64 (sz : Int), .int .i64 4, .int .u64 ((k : Int)), .bool false] ∧ Blk wr (G + 1) 38 #[.int .i64 4, .int .u64 0, str [], .slice A i c, .bool false] ∧ GL (fun b => G + 2 ≤ b) (G + 2) wr i A c ch ac)) (fun _ s6 _ => k - (intOf s6).toNat)
  case atStart => exact ⟨0, none, 0, _, by rw [H0.out], rfl, (show Hid _ from Nat.zero_le _), (show Hid _ from ⟨HE2.out, HQ2.out, HG2.out, HX2.out, HGL2.out⟩)⟩
  case round =>
    clear HE2 HQ2 HG2 HX2 HGL2 H0
    obtain ⟨i, A, c, ac, rfl, rfl, hi, hW⟩ := hrel
    have g0 : wr.cell? ⟨G, 0, none⟩ = some (.int .i64 (sz : Int)) := hW.out.2.2.1.cell 0
    have g2 : wr.cell? ⟨G, 2, none⟩ = some (.int .u64 ((k : Int))) := hW.out.2.2.1.cell 2
    have g3 : wr.cell? ⟨G, 3, none⟩ = some (.bool false) := hW.out.2.2.1.cell 3
    have i0 : (0 : Int) ≤ (i : Int) := by omega
    have i1 : (i : Int) ≤ 1000 := by have := hi.out; have := HI.out; omega
    by_cases hlt : i < k
    · have tc : decide (i < k) = true := by simp [hlt]
      have q0 : (0 : Int) ≤ ((P i : Nat) : Int) := by omega
      have q1 : ((P i : Nat) : Int) ≤ ((P (i + 1) : Nat) : Int) := by have := (HN.out i hlt).1; omega
      have q2 : ((P (i + 1) : Nat) : Int) ≤ (l.length : Int) := by have := (HN.out i hlt).2.2.2.1; omega
      have HLT := hid hlt
      have hFV : faultV (P i) (flt 8 (l.drop (P i))) = .tuple #[.int .i64 ((P (i + 1) : Nat) : Int), .int .i64 0] := by
        rw [(HN.out i hlt).2.1, faultV]
        have := (HN.out i hlt).1
        simp only [show P i + (P (i + 1) - P i) = P (i + 1) by omega]
      have HFV := hid hFV
      clear hlt hFV
      go_wp2_with fail
      refine (KF.out (P i) (by omega) _).mono ?_
      rintro x w3 ⟨rfl, hb3⟩
      rw [HFV.out]
      have HW3 := hid (show Ext w w3 ∧ Blk w3 w.heap.size 38 (itemC nulT none 0) ∧ Blk w3 G 141 #[.int .i64 (sz : Int), .int .i64 4, .int .u64 ((k : Int)), .bool false] ∧ Blk w3 (G + 1) 38 #[.int .i64 4, .int .u64 0, str [], .slice A i c, .bool false] ∧ GL (fun b => G + 2 ≤ b) (G + 2) w3 i A c ch ac from ⟨hW.out.1.trans hb3, hW.out.2.1.ext hb3, hW.out.2.2.1.ext hb3, hW.out.2.2.2.1.ext hb3, hW.out.2.2.2.2.ext hb3⟩)
      have HB3 := hid hb3
      clear hb3 g0 g2 g3 hW
      have x3 : w3.cell? ⟨G + 1, 3, none⟩ = some (.slice A i c) := HW3.out.2.2.2.1.cell 3
      have y3 : w3.frozen? ⟨G + 1, 3, none⟩ = false := HW3.out.2.2.2.1.frozen 3
      have HKI := hid (HIH.out i HLT.out)
      have HS : Hid ((l.drop (P i)).take (P (i + 1) - P i) = (ch i).bytes) := (HN.out i HLT.out).2.2.1
      obtain ⟨i0', hi0, hz0, hz1, hz2⟩ := info_parts infoItem
      go_upto_region 12 with fail
      go_region_law (first
        | (refine step_append_lies _ rfl (.tmp 61) (.tmp 67) 36 rfl (G + 2) 38 i0' _ 5 64 Try.underlying36 hi0 hz0 hz1 hz2 rfl (by decide) (.slice A i c) i _ (by simp [Act.eval]) ho2 ⟨w2.heap.size, 0, none⟩ 1 1 [Value.int .i64 (ch i).kind, .int .u64 ((ch i).n : Int), str (ch i).s, .slice Ac (ch i).k cc, .bool (ch i).op] (by simp [Act.eval]) rfl (news5 w2 (ch i) Ac cc) (one5 (ch i) Ac cc) (by decide) (by have := HI.out; have := HLT.out; unfold maxLen; omega) (by have := HI.out; have := HLT.out; omega) (by have := HW3.out.2.2.2.2.room hm; simp; omega) (w2.heap.size + 1) (by simp) ?_; intro g' c' w4 hown' hgr hbl hgl; have hx4 := HW3.out.2.2.2.2.keep hm hgr HW3.out.2.2.2.1 (by omega); have x4 : w4.cell? ⟨G + 1, 3, none⟩ = some (.slice A i c) := hx4.cell 3; have xf : w4.frozen? ⟨G + 1, 3, none⟩ = false := hx4.frozen 3)
        | (go_simp; go_at_call 60; rw [extract_str, HS.out]; refine (HKI.out _).mono ?_; rintro x w2 ⟨Ac, cc, rfl, hm2, hs2⟩; have hm : Ext w3 w2 := (by first | exact hm2 | exact (Mod.refl _ _).drew.trans hm2); have ho2 := HW3.out.2.2.2.2.own2 hm (.cells (itemC (ch i) Ac cc) 38); have z3 : w2.cell? ⟨G + 1, 3, none⟩ = some (.slice A i c) := (HW3.out.2.2.2.1.ext hm).cell 3; have zf : w2.frozen? ⟨G + 1, 3, none⟩ = false := (HW3.out.2.2.2.1.ext hm).frozen 3; have z4 : (w2.alloc (.cells #[Value.int .i64 (ch i).kind, .int .u64 ((ch i).n : Int), str (ch i).s, .slice Ac (ch i).k cc, .bool (ch i).op] 38)).cell? ⟨G + 1, 3, none⟩ = some (.slice A i c) := ((HW3.out.2.2.2.1.ext hm).alloc _).cell 3; have hne : ¬ G + 1 = w2.heap.size := (by have := HW3.out.2.2.2.2.room hm; omega)))
      all_goals go_wp2_with fail
      all_goals have hblk : (Value.slice (some ⟨g', 0, none⟩) (i + 1) c').ownBlock = (Value.slice A i c).ownBlock ∨ ∀ k, (Value.slice (some ⟨g', 0, none⟩) (i + 1) c').ownBlock = some k → w2.heap.size ≤ k := hbl.elim (fun h => .inl h.symm) (fun h => .inr fun k hk => by simp [Value.ownBlock] at hk; omega)
      all_goals obtain ⟨g2, c2, e1, hL⟩ := HW3.out.2.2.2.2.step hm (IsL.weak (fun b hb hq => ⟨by have := HW3.out.2.2.2.2.nx; have hq2 : w3.heap.size ≤ b := hq; omega, .inr hq⟩) (ch i) hs2) hown' hgr hblk
      all_goals simp only [Value.slice.injEq, Option.some.injEq, Addr.mk.injEq, true_and, and_true] at e1
      all_goals obtain ⟨rfl, rfl⟩ := e1
      all_goals rw [putT_self] at hL
      all_goals have hwG : w.heap.size < G := HW1.out
      all_goals have k1 := (HW3.out.2.2.2.2.keep hm hgr HW3.out.2.1 (by omega)).far (p := ⟨G + 1, 3, none⟩) (by simp; omega) (.slice (some ⟨g', 0, none⟩) (i + 1) c')
      all_goals have k2 := (HW3.out.2.2.2.2.keep hm hgr HW3.out.2.2.1 (by omega)).far (p := ⟨G + 1, 3, none⟩) (by simp) (.slice (some ⟨g', 0, none⟩) (i + 1) c')
      all_goals have k3 := hx4.set_ 3 (.slice (some ⟨g', 0, none⟩) (i + 1) c')
      all_goals have k4 := (HW3.out.2.2.2.2.since HW3.out.1 (by omega) hm hgr).setCell (p := ⟨G + 1, 3, none⟩) (.inr (by show w.heap.size ≤ G + 1; omega)) (.slice (some ⟨g', 0, none⟩) (i + 1) c')
      all_goals have k5 := hL.mod ((Mod.refl [G + 1] w4).setCell (p := ⟨G + 1, 3, none⟩) (.inl (by simp)) (.slice (some ⟨g', 0, none⟩) (i + 1) c')) (fun k hk => by rw [List.mem_singleton] at hk; subst hk; exact ⟨by omega, by omega⟩)
      all_goals have hlt := HLT.out

      all_goals go_roundw
      all_goals first | (simp only [intOf]; omega) | exact ⟨i + 1, some ⟨g', 0, none⟩, c', _, rfl, by simp, (show Hid _ from hlt), (show Hid _ from ⟨k4, k1, k2, by simpa using k3, k5⟩)⟩
    · obtain rfl : i = k := by have := hi.out; omega
      have tc : decide (i < i) = false := by simp
      have HX := hid hW.out.2.2.2.1
      have HB := hid hW.out.2.1
      have HEW := hid hW.out.1
      have HGW := hid hW.out.2.2.2.2
      have x0 : wr.cell? ⟨G + 1, 0, none⟩ = some (.int .i64 4) := HX.out.cell 0
      have x1 : wr.cell? ⟨G + 1, 1, none⟩ = some (.int .u64 0) := HX.out.cell 1
      have x2 : wr.cell? ⟨G + 1, 2, none⟩ = some (str []) := HX.out.cell 2
      have x3 : wr.cell? ⟨G + 1, 3, none⟩ = some (.slice A i c) := HX.out.cell 3
      have x4 : wr.cell? ⟨G + 1, 4, none⟩ = some (.bool false) := HX.out.cell 4
      obtain ⟨c0, c1, c2, c3, c4⟩ := cells5 HB.out
      have f0 := HB.out.frozen 0
      have f1 := HB.out.frozen 1
      have f2 := HB.out.frozen 2
      have f3 := HB.out.frozen 3
      have f4 := HB.out.frozen 4
      clear hW
      go_wp2_with fail
      obtain ⟨d0, d1, d2, d3, d4⟩ := cells5 (set5_blk (t := T.mk 4 0 [] false i ch) (A := A) (c := c) HB.out)
      clear c0 c1 c2 c3 c4 f0 f1 f2 f3 f4 x0 x1 x2 x3 x4 g0 g2 g3
      show bodyPost _ _ _ _ _ (set5 wr w.heap.size (T.mk 4 0 [] false i ch) A c)
      refine bodyPost_ret (v := itemV (T.mk 4 0 [] false i ch) A c) (by simp [results, Try.results60, go_sem, d0, d1, d2, d3, d4]) rfl ⟨A, c, rfl, set5_mod HEW.out (Nat.le_refl _), ?_⟩
      have := HW1.out
      exact IsL.weak (fun b hb hq => by have hq2 : G + 2 ≤ b := hq; omega) (T.mk 4 0 [] false i ch) (IsL.mod set5_modb (fun b hq hb hm => by rw [List.mem_singleton] at hm; have hq2 : G + 2 ≤ b := hq; omega) (T.mk 4 0 [] false i ch) (HGW.out.isL (Q := fun b => G + 2 ≤ b) (fun b h => h) (fun b h => h) false))
set_option maxRecDepth 20000 in
set_option maxHeartbeats 1600000 in
theorem r13_arr_true (k : Nat) (ch : Nat → T) (ht : (T.mk 4 0 [] true k ch).right 8 = true) (hok : (T.mk 4 0 [] true k ch).ok) (hl : (arrB true k ch).length ≤ 1073741824)
    (IH : ∀ i, i < k → ∀ w, Calls Try.prog 60 #[str (ch i).bytes] w (IMade (ch i) w)) (w : World) : Calls Try.prog 60 #[str (arrB true k ch)] w (IMade (T.mk 4 0 [] true k ch) w) := by
  have hk1 : k ≤ 1000 ∧ ∀ i, i < k → (ch i).right 8 = true := by
    unfold T.right at ht
    rw [if_neg (by decide), Bool.and_eq_true, T.all_iff] at ht
    refine ⟨by have := ht.1; unfold T.node at this; simpa using this, fun i hi => T.right_up _ 7 (ht.2 i hi)⟩
  have hok1 : ∀ i, i < k → (ch i).ok := hok.2.2.2.2
  have hrH : readH (arrB true k ch) = some (1, 4, 0, true) := by
    have := T.readH_bytes _ (T.right_plain ht) hok []
    rw [List.append_nil] at this
    exact this
  obtain ⟨P, hP⟩ : ∃ P : Nat → Nat, P = fun i => (upto true k ch i).length := ⟨_, rfl⟩
  have HN : Hid (∀ i, i < k → P i ≤ P (i + 1) ∧ flt 8 ((arrB true k ch).drop (P i)) = (P (i + 1) - P i, 0) ∧ ((arrB true k ch).drop (P i)).take (P (i + 1) - P i) = (ch i).bytes ∧ P (i + 1) ≤ (arrB true k ch).length ∧ P i < (arrB true k ch).length - 1 + 0) := fun i hi => by
    have e := arr_drop (op := true) (ch := ch) hi
    have u := upto_succ true k ch i
    have le := arr_le (op := true) (ch := ch) (show i + 1 ≤ k from hi)
    have hb : 0 < (ch i).bytes.length := by
      cases hc : (ch i).bytes with
      | nil =>
        have := T.readH_bytes _ (T.right_plain (hk1.2 i hi)) (hok1 i hi) []
        rw [hc] at this; simp [readH] at this
      | cons _ _ => simp
    have hp : P (i + 1) = P i + (ch i).bytes.length := by rw [hP]; dsimp only; rw [u, List.length_append]
    have hp2 : (upto true k ch i).length = P i := by rw [hP]
    have hp3 : (upto true k ch (i + 1)).length = P (i + 1) := by rw [hP]
    rw [hp2, hp3] at e
    rw [hp3] at le
    have hd : P (i + 1) - P i = (ch i).bytes.length := by omega
    refine ⟨by omega, ?_, ?_, by omega, ?_⟩
    · rw [e, hd]; exact flt_bytes (ch i) 8 (hk1.2 i hi) (hok1 i hi) _
    · rw [e, hd, List.take_left]
    · revert le; simp; omega
  have h0 : P 0 = 1 := by rw [hP]; simp [upto, T.cat]
  have HK : Hid (P k + 1 = (arrB true k ch).length) := by unfold Hid; rw [hP]; have := arr_full (op := true) (k := k) (ch := ch); simpa using this
  have HI : Hid (k ≤ 1000) := hk1.1
  have HIH : Hid (∀ i, i < k → ∀ w, Calls Try.prog 60 #[str (ch i).bytes] w (IMade (ch i) w)) := IH
  obtain ⟨sz, hsz⟩ : ∃ sz, sz = 1 := ⟨_, rfl⟩
  rw [← hsz] at h0 hrH
  have HRT := hid ht
  clear ht hok hk1 hok1 hP IH hsz
  generalize arrB true k ch = l at *
  have K := hid (fun W => read_any l W)
  have KF := hid (fun q (hq : q ≤ l.length) W => fault_any l hl 8 (by omega) q hq W)
  rw [hrH] at K
  have l1 : (l.length : Int) ≤ 1073741824 := by omega
  have HL := hid hl
  have HE := hid ((Mod.refl [] w).alloc (.cells (itemC nulT none 0) 38))
  have HQ := hid (Blk.new w 38 (itemC nulT none 0))
  have H0 := hid h0
  clear hrH hl h0
  go_enter Try.func60, Try.ntmps60
  go_wp2_with fail
  refine (K.out _).mono ?_
  rintro e1 w1 ⟨rfl, hb1⟩
  dsimp only [gotOf, gotV]
  (try simp only [show ((4 : Nat) : Int) = 4 from rfl])
  (try simp only [show ((0 : Nat) : Int) = 0 from rfl])
  have HE2 := hid (((HE.out.trans hb1).alloc (.cells #[.int .i64 (sz : Int), .int .i64 4, .int .u64 (0), .bool true] 141)).alloc (.cells #[.int .i64 4, .int .u64 0, str [], .slice none 0 0, .bool true] 38))
  have HQ2 := hid (((HQ.out.ext hb1).alloc (.cells #[.int .i64 (sz : Int), .int .i64 4, .int .u64 (0), .bool true] 141)).alloc (.cells #[.int .i64 4, .int .u64 0, str [], .slice none 0 0, .bool true] 38))
  have HG2 := hid ((Blk.new w1 141 #[.int .i64 (sz : Int), .int .i64 4, .int .u64 (0), .bool true]).alloc (.cells #[.int .i64 4, .int .u64 0, str [], .slice none 0 0, .bool true] 38))
  have HX2 := hid (Blk.new' (w1.alloc (.cells #[.int .i64 (sz : Int), .int .i64 4, .int .u64 (0), .bool true] 141)) 38 #[.int .i64 4, .int .u64 0, str [], .slice none 0 0, .bool true] (N := w1.heap.size + 1) (by simp))
  have hw1 : w.heap.size < w1.heap.size := by have := hb1.size; simp at this; omega
  have HW1 := hid hw1
  have HGL2 := hid (GL.nil (fun b => w1.heap.size + 2 ≤ b) (N := w1.heap.size + 2) (wr := (w1.alloc (.cells #[.int .i64 (sz : Int), .int .i64 4, .int .u64 (0), .bool true] 141)).alloc (.cells #[.int .i64 4, .int .u64 0, str [], .slice none 0 0, .bool true] 38)) (by simp) ch (fun _ => (none, 0)))
  clear hb1 hw1 HE HQ
  go_wp2_with fail
  generalize w1.heap.size = G at *
  go_loopw [5, 6] (fun s5 s6 wr => ∃ (i : Nat) (A : Option Addr) (c : Nat) (ac : Nat → Option Addr × Nat), s5 = .int .i64 ((P i : Nat) : Int) ∧ s6 = .int .u64 (i : Int) ∧ Hid (i ≤ k) ∧ Hid (Ext w wr ∧ Blk wr w.heap.size 38 (itemC nulT none 0) ∧ Blk wr G 141 #[.int .i64 (sz : Int), .int .i64 4, .int .u64 (0), .bool true] ∧ Blk wr (G + 1) 38 #[.int .i64 4, .int .u64 0, str [], .slice A i c, .bool true] ∧ GL (fun b => G + 2 ≤ b) (G + 2) wr i A c ch ac)) (fun _ s6 _ => k - (intOf s6).toNat)
  case atStart => exact ⟨0, none, 0, _, by rw [H0.out], rfl, (show Hid _ from Nat.zero_le _), (show Hid _ from ⟨HE2.out, HQ2.out, HG2.out, HX2.out, HGL2.out⟩)⟩
  case round =>
    clear HE2 HQ2 HG2 HX2 HGL2 H0
    obtain ⟨i, A, c, ac, rfl, rfl, hi, hW⟩ := hrel
    have g0 : wr.cell? ⟨G, 0, none⟩ = some (.int .i64 (sz : Int)) := hW.out.2.2.1.cell 0
    have g2 : wr.cell? ⟨G, 2, none⟩ = some (.int .u64 (0)) := hW.out.2.2.1.cell 2
    have g3 : wr.cell? ⟨G, 3, none⟩ = some (.bool true) := hW.out.2.2.1.cell 3
    have i0 : (0 : Int) ≤ (i : Int) := by omega
    have i1 : (i : Int) ≤ 1000 := by have := hi.out; have := HI.out; omega
    by_cases hlt : i < k
    · have tc : decide (((P i : Nat) : Int) < (l.length : Int) - 1) = true := by have h1 := (HN.out i hlt).1; have h2 := (HN.out i hlt).2.2.2.2; simp; omega
      have q0 : (0 : Int) ≤ ((P i : Nat) : Int) := by omega
      have q1 : ((P i : Nat) : Int) ≤ ((P (i + 1) : Nat) : Int) := by have := (HN.out i hlt).1; omega
      have q2 : ((P (i + 1) : Nat) : Int) ≤ (l.length : Int) := by have := (HN.out i hlt).2.2.2.1; omega
      have HLT := hid hlt
      have hFV : faultV (P i) (flt 8 (l.drop (P i))) = .tuple #[.int .i64 ((P (i + 1) : Nat) : Int), .int .i64 0] := by
        rw [(HN.out i hlt).2.1, faultV]
        have := (HN.out i hlt).1
        simp only [show P i + (P (i + 1) - P i) = P (i + 1) by omega]
      have HFV := hid hFV
      clear hlt hFV
      go_wp2_with fail
      refine (KF.out (P i) (by omega) _).mono ?_
      rintro x w3 ⟨rfl, hb3⟩
      rw [HFV.out]
      have HW3 := hid (show Ext w w3 ∧ Blk w3 w.heap.size 38 (itemC nulT none 0) ∧ Blk w3 G 141 #[.int .i64 (sz : Int), .int .i64 4, .int .u64 (0), .bool true] ∧ Blk w3 (G + 1) 38 #[.int .i64 4, .int .u64 0, str [], .slice A i c, .bool true] ∧ GL (fun b => G + 2 ≤ b) (G + 2) w3 i A c ch ac from ⟨hW.out.1.trans hb3, hW.out.2.1.ext hb3, hW.out.2.2.1.ext hb3, hW.out.2.2.2.1.ext hb3, hW.out.2.2.2.2.ext hb3⟩)
      have HB3 := hid hb3
      clear hb3 g0 g2 g3 hW
      have x3 : w3.cell? ⟨G + 1, 3, none⟩ = some (.slice A i c) := HW3.out.2.2.2.1.cell 3
      have y3 : w3.frozen? ⟨G + 1, 3, none⟩ = false := HW3.out.2.2.2.1.frozen 3
      have HKI := hid (HIH.out i HLT.out)
      have HS : Hid ((l.drop (P i)).take (P (i + 1) - P i) = (ch i).bytes) := (HN.out i HLT.out).2.2.1
      obtain ⟨i0', hi0, hz0, hz1, hz2⟩ := info_parts infoItem
      go_upto_region 12 with fail
      go_region_law (first
        | (refine step_append_lies _ rfl (.tmp 61) (.tmp 67) 36 rfl (G + 2) 38 i0' _ 5 64 Try.underlying36 hi0 hz0 hz1 hz2 rfl (by decide) (.slice A i c) i _ (by simp [Act.eval]) ho2 ⟨w2.heap.size, 0, none⟩ 1 1 [Value.int .i64 (ch i).kind, .int .u64 ((ch i).n : Int), str (ch i).s, .slice Ac (ch i).k cc, .bool (ch i).op] (by simp [Act.eval]) rfl (news5 w2 (ch i) Ac cc) (one5 (ch i) Ac cc) (by decide) (by have := HI.out; have := HLT.out; unfold maxLen; omega) (by have := HI.out; have := HLT.out; omega) (by have := HW3.out.2.2.2.2.room hm; simp; omega) (w2.heap.size + 1) (by simp) ?_; intro g' c' w4 hown' hgr hbl hgl; have hx4 := HW3.out.2.2.2.2.keep hm hgr HW3.out.2.2.2.1 (by omega); have x4 : w4.cell? ⟨G + 1, 3, none⟩ = some (.slice A i c) := hx4.cell 3; have xf : w4.frozen? ⟨G + 1, 3, none⟩ = false := hx4.frozen 3)
        | (go_simp; go_at_call 60; rw [extract_str, HS.out]; refine (HKI.out _).mono ?_; rintro x w2 ⟨Ac, cc, rfl, hm2, hs2⟩; have hm : Ext w3 w2 := (by first | exact hm2 | exact (Mod.refl _ _).drew.trans hm2); have ho2 := HW3.out.2.2.2.2.own2 hm (.cells (itemC (ch i) Ac cc) 38); have z3 : w2.cell? ⟨G + 1, 3, none⟩ = some (.slice A i c) := (HW3.out.2.2.2.1.ext hm).cell 3; have zf : w2.frozen? ⟨G + 1, 3, none⟩ = false := (HW3.out.2.2.2.1.ext hm).frozen 3; have z4 : (w2.alloc (.cells #[Value.int .i64 (ch i).kind, .int .u64 ((ch i).n : Int), str (ch i).s, .slice Ac (ch i).k cc, .bool (ch i).op] 38)).cell? ⟨G + 1, 3, none⟩ = some (.slice A i c) := ((HW3.out.2.2.2.1.ext hm).alloc _).cell 3; have hne : ¬ G + 1 = w2.heap.size := (by have := HW3.out.2.2.2.2.room hm; omega)))
      all_goals go_wp2_with fail
      all_goals have hblk : (Value.slice (some ⟨g', 0, none⟩) (i + 1) c').ownBlock = (Value.slice A i c).ownBlock ∨ ∀ k, (Value.slice (some ⟨g', 0, none⟩) (i + 1) c').ownBlock = some k → w2.heap.size ≤ k := hbl.elim (fun h => .inl h.symm) (fun h => .inr fun k hk => by simp [Value.ownBlock] at hk; omega)
      all_goals obtain ⟨g2, c2, e1, hL⟩ := HW3.out.2.2.2.2.step hm (IsL.weak (fun b hb hq => ⟨by have := HW3.out.2.2.2.2.nx; have hq2 : w3.heap.size ≤ b := hq; omega, .inr hq⟩) (ch i) hs2) hown' hgr hblk
      all_goals simp only [Value.slice.injEq, Option.some.injEq, Addr.mk.injEq, true_and, and_true] at e1
      all_goals obtain ⟨rfl, rfl⟩ := e1
      all_goals rw [putT_self] at hL
      all_goals have hwG : w.heap.size < G := HW1.out
      all_goals have k1 := (HW3.out.2.2.2.2.keep hm hgr HW3.out.2.1 (by omega)).far (p := ⟨G + 1, 3, none⟩) (by simp; omega) (.slice (some ⟨g', 0, none⟩) (i + 1) c')
      all_goals have k2 := (HW3.out.2.2.2.2.keep hm hgr HW3.out.2.2.1 (by omega)).far (p := ⟨G + 1, 3, none⟩) (by simp) (.slice (some ⟨g', 0, none⟩) (i + 1) c')
      all_goals have k3 := hx4.set_ 3 (.slice (some ⟨g', 0, none⟩) (i + 1) c')
      all_goals have k4 := (HW3.out.2.2.2.2.since HW3.out.1 (by omega) hm hgr).setCell (p := ⟨G + 1, 3, none⟩) (.inr (by show w.heap.size ≤ G + 1; omega)) (.slice (some ⟨g', 0, none⟩) (i + 1) c')
      all_goals have k5 := hL.mod ((Mod.refl [G + 1] w4).setCell (p := ⟨G + 1, 3, none⟩) (.inl (by simp)) (.slice (some ⟨g', 0, none⟩) (i + 1) c')) (fun k hk => by rw [List.mem_singleton] at hk; subst hk; exact ⟨by omega, by omega⟩)
      all_goals have hlt := HLT.out

      all_goals go_roundw
      all_goals first | (simp only [intOf]; omega) | exact ⟨i + 1, some ⟨g', 0, none⟩, c', _, rfl, by simp, (show Hid _ from hlt), (show Hid _ from ⟨k4, k1, k2, by simpa using k3, k5⟩)⟩
    · obtain rfl : i = k := by have := hi.out; omega
      have tc : decide (((P i : Nat) : Int) < (l.length : Int) - 1) = false := by have := HK.out; simp; omega
      have HX := hid hW.out.2.2.2.1
      have HB := hid hW.out.2.1
      have HEW := hid hW.out.1
      have HGW := hid hW.out.2.2.2.2
      have x0 : wr.cell? ⟨G + 1, 0, none⟩ = some (.int .i64 4) := HX.out.cell 0
      have x1 : wr.cell? ⟨G + 1, 1, none⟩ = some (.int .u64 0) := HX.out.cell 1
      have x2 : wr.cell? ⟨G + 1, 2, none⟩ = some (str []) := HX.out.cell 2
      have x3 : wr.cell? ⟨G + 1, 3, none⟩ = some (.slice A i c) := HX.out.cell 3
      have x4 : wr.cell? ⟨G + 1, 4, none⟩ = some (.bool true) := HX.out.cell 4
      obtain ⟨c0, c1, c2, c3, c4⟩ := cells5 HB.out
      have f0 := HB.out.frozen 0
      have f1 := HB.out.frozen 1
      have f2 := HB.out.frozen 2
      have f3 := HB.out.frozen 3
      have f4 := HB.out.frozen 4
      clear hW
      go_wp2_with fail
      obtain ⟨d0, d1, d2, d3, d4⟩ := cells5 (set5_blk (t := T.mk 4 0 [] true i ch) (A := A) (c := c) HB.out)
      clear c0 c1 c2 c3 c4 f0 f1 f2 f3 f4 x0 x1 x2 x3 x4 g0 g2 g3
      show bodyPost _ _ _ _ _ (set5 wr w.heap.size (T.mk 4 0 [] true i ch) A c)
      refine bodyPost_ret (v := itemV (T.mk 4 0 [] true i ch) A c) (by simp [results, Try.results60, go_sem, d0, d1, d2, d3, d4]) rfl ⟨A, c, rfl, set5_mod HEW.out (Nat.le_refl _), ?_⟩
      have := HW1.out
      exact IsL.weak (fun b hb hq => by have hq2 : G + 2 ≤ b := hq; omega) (T.mk 4 0 [] true i ch) (IsL.mod set5_modb (fun b hq hb hm => by rw [List.mem_singleton] at hm; have hq2 : G + 2 ≤ b := hq; omega) (T.mk 4 0 [] true i ch) (HGW.out.isL (Q := fun b => G + 2 ≤ b) (fun b h => h) (fun b h => h) true))
/-- The item of a right item's bytes. -/
theorem r13_any (t : T) : t.right 8 = true → t.ok → t.bytes.length ≤ 1073741824 → ∀ w, Calls Try.prog 60 #[str t.bytes] w (IMade t w) := by
  induction t with
  | nil => intro _ h; exact absurd h T.not_nil
  | mk kind n s op k ch ih =>
    intro hr hok hl w
    have hp := T.right_plain hr
    have hh := T.readH_bytes _ hp hok []
    rw [List.append_nil] at hh
    have hnode : T.node kind n s op k = true := by
      unfold T.plain at hp; rw [Bool.and_eq_true] at hp; exact hp.1
    rcases T.node_kind hnode with rfl | rfl | rfl | rfl
    · have e : s = [] ∧ k = 0 ∧ op = false := by simpa [T.node, and_assoc] using hnode
      obtain ⟨rfl, rfl, rfl⟩ := e
      exact (r13_num _ _ n _ hh w).mono fun e w' h => ⟨none, 0, h.1, h.2, IsL.leaf⟩
    · have e : n = 0 ∧ k = 0 ∧ op = false := by simpa [T.node, and_assoc] using hnode
      obtain ⟨rfl, rfl, rfl⟩ := e
      have eb : (T.mk 2 0 s false 0 ch).bytes = headL 2 s.length ++ s := rfl
      rw [eb] at hh hl ⊢
      have h2 := r13_str _ hl _ 2 _ _ (.inl rfl) hh w
      rw [show (headL (2 : Int).toNat s.length).length = (headL 2 s.length).length from rfl, List.drop_left] at h2
      exact h2.mono fun e w' h => ⟨none, 0, h.1, h.2, IsL.leaf⟩
    · have e : n = 0 ∧ k = 0 ∧ op = false := by simpa [T.node, and_assoc] using hnode
      obtain ⟨rfl, rfl, rfl⟩ := e
      have eb : (T.mk 3 0 s false 0 ch).bytes = headL 3 s.length ++ s := rfl
      rw [eb] at hh hl ⊢
      have h2 := r13_str _ hl _ 3 _ _ (.inr rfl) hh w
      rw [show (headL (3 : Int).toNat s.length).length = (headL 3 s.length).length from rfl, List.drop_left] at h2
      exact h2.mono fun e w' h => ⟨none, 0, h.1, h.2, IsL.leaf⟩
    · have e : n = 0 ∧ s = [] := by
        have : (n = 0 ∧ s = []) ∧ k ≤ 1000 := by simpa [T.node, and_assoc] using hnode
        exact this.1
      obtain ⟨rfl, rfl⟩ := e
      have hk : ∀ i, i < k → (ch i).right 8 = true := by
        have h := hr
        unfold T.right at h
        rw [if_neg (by decide), Bool.and_eq_true, T.all_iff] at h
        exact fun i hi => T.right_up _ 7 (h.2 i hi)
      have hle : ∀ i, i < k → (ch i).bytes.length ≤ 1073741824 := fun i hi => by
        have e := arr_drop (op := op) (ch := ch) hi
        have := congrArg List.length e
        rw [List.length_drop, List.length_append] at this
        have hl2 : (arrB op k ch).length ≤ 1073741824 := hl
        omega
      have IH : ∀ i, i < k → ∀ w, Calls Try.prog 60 #[str (ch i).bytes] w (IMade (ch i) w) := fun i hi w => ih i (hk i hi) (hok.2.2.2.2 i hi) (hle i hi) w
      cases op with
      | false => exact r13_arr_false k ch hr hok hl IH w
      | true => exact r13_arr_true k ch hr hok hl IH w
end Go.Proofs.Ytogjghmoankleaa


namespace Go.Proofs.Ytogjghmoankleaa
open Go.RowKit
set_option linter.unusedVariables false
set_option linter.unusedSimpArgs false

theorem partT_ch {t : T} {i : Nat} (h : i < t.k) : partT t i = t.ch i := by
  cases t with
  | nil => exact absurd h (Nat.not_lt_zero _)
  | mk kd n s op k ch => exact if_pos h
theorem partT_no {t : T} {i : Nat} (h : ¬ i < t.k) : partT t i = numT 0 := by
  cases t with
  | nil => rfl
  | mk kd n s op k ch => exact if_neg h
theorem T.n_lt {t : T} (h : t.ok) : t.n < 18446744073709551616 := by
  cases t with
  | nil => decide
  | mk kd n s op k ch => unfold T.ok at h; exact h.2.1
theorem ch_ok {t : T} (h : t.ok) {i : Nat} (hi : i < t.k) : (t.ch i).ok := by
  have := partT_ok h i
  rwa [partT_ch hi] at this
theorem ch_right {t : T} {d : Nat} (h : t.right (d + 1) = true) {i : Nat} (hi : i < t.k) : (t.ch i).right d = true := by
  cases t with
  | nil => simp [T.right] at h
  | mk kd n s op k ch =>
    unfold T.right at h
    rw [if_neg (by omega), Bool.and_eq_true, T.all_iff] at h
    exact h.2 i hi
theorem right_upto {t : T} {d : Nat} (h : t.right d = true) : ∀ e, d ≤ e → t.right e = true := by
  intro e he
  induction e with
  | zero => have : d = 0 := by omega
            subst this; exact h
  | succ e ih =>
    by_cases hd : d = e + 1
    · subst hd; exact h
    · exact T.right_up t e (ih (by omega))
theorem kind_n {t : T} {d : Nat} (h : t.right d = true) (hn : t.n = 1) : t.kind = 0 := by
  cases t with
  | nil => simp [T.right] at h
  | mk kd n s op k ch =>
    have hn : n = 1 := hn
    subst hn
    unfold T.right at h
    split at h
    · exact absurd h (by decide)
    · rw [Bool.and_eq_true] at h
      have h := h.1
      unfold T.node at h
      by_cases h0 : kd = 0
      · exact h0
      · exfalso
        rw [if_neg h0] at h
        split at h
        · simp at h
        · split at h
          · simp at h
          · exact absurd h (by decide)
theorem EV.ok_name {e : EV} (h : e.ok = true) : e.name.length ≤ 60 := by
  rcases EV.ok_cases h with rfl | ⟨name, rfl, _, hl⟩ | ⟨node, svc, rfl, _, _⟩
  · decide
  · exact hl
  · simp
theorem nameT_len (t : T) : (nameT t).name.length ≤ 60 := by
  unfold nameT
  by_cases h : ofB t = true
  · rw [if_pos h]
    unfold ofB at h
    simp only [Bool.and_eq_true] at h
    exact EV.ok_name h.1
  · rw [if_neg h]; simp [zeroE]
theorem readRep_wf {t : T} (h : t.ok) : (readRep t).of.wf := by
  refine ⟨T.n_lt (partT_ok (partT_ok (partT_ok h _) _) _), T.n_lt (partT_ok (partT_ok (partT_ok h _) _) _), T.n_lt (partT_ok (partT_ok h _) _), T.n_lt (partT_ok (partT_ok h _) _), ?_⟩
  have : (readRep t).of.src.name.length ≤ 60 := nameT_len _
  omega
/-- A report of these bytes. -/
def isRep (s : List UInt8) (r : RV) : Prop := r.right = true ∧ r.bytes = s
noncomputable def repO (s : List UInt8) : Option RV := theO (isRep s)
/-- The shape that the reference asks for. -/
def shapeR (t : T) : Prop := t.k = 2 ∧ ((t.ch 1).k = 4 ∨ (t.ch 1).k = 6) ∧ ((t.ch 1).ch 0).k = 2 ∧ ((t.ch 1).ch 3).k = 2 ∧ ofB ((t.ch 1).ch 2) = true
theorem listT_same {L : List T} {t : T} (h : (listT L).same t = true) : t.k = L.length ∧ ∀ (i : Nat) (x : T), L[i]? = some x → x.same (t.ch i) = true := by
  have g := same_mk h
  refine ⟨g.2.2.2.2.1, fun i x hx => ?_⟩
  have hi : i < L.length := by
    rcases Nat.lt_or_ge i L.length with h | h
    · exact h
    · rw [List.getElem?_eq_none h] at hx; exact absurd hx (by simp)
  have := g.2.2.2.2.2 i hi
  rw [hx] at this
  exact this
theorem bitT_n (b : Bool) : decide ((bitT b).n = 1) = b := by cases b <;> rfl
theorem numT_same {n : Nat} {t : T} (h : (numT n).same t = true) : t.n = n := (same_mk h).2.1
theorem bit_same {b : Bool} {t : T} (h : (bitT b).same t = true) : decide (t.n = 1) = b := by
  have := numT_same h
  rw [this]; exact bitT_n b
/-- Of a right tree the report that it may be. -/
theorem rep_tree {t : T} (hr : t.right 8 = true) (hok : t.ok) {r : RV} (h : isRep t.bytes r) : readRep t = r ∧ shapeR t := by
  obtain ⟨h, hb⟩ := h
  obtain ⟨g1, g2, g3⟩ := RV.tree_all h
  have hs := bytes_same (T.plain_of (g2 8 (by omega))) (T.plain_of hr) g1 hok hb
  obtain ⟨f1, f2, f3, f4⟩ := RV.right_spec h
  obtain ⟨m1, m2, m3, m4, m5⟩ := IDV.named_spec f4
  obtain ⟨k1, c1⟩ := listT_same hs
  have k1 : t.k = 2 := k1
  have b1 : (listT r.body).same (t.ch 1) = true := c1 1 _ rfl
  obtain ⟨k2, c2⟩ := listT_same b1
  have rB : (t.ch 1).right 7 = true := ch_right hr (by omega)
  have oB : (t.ch 1).ok := ch_ok hok (by omega)
  have kB : (t.ch 1).k = if r.of.fr then 6 else 4 := by
    rw [k2]; unfold RV.body; cases r.of.fr <;> rfl
  have k4 : 4 ≤ (t.ch 1).k := by rw [kB]; split <;> omega
  have x0 : (listT [bitT r.here, bitT r.gone]).same ((t.ch 1).ch 0) = true := c2 0 _ rfl
  have x1 : (numT r.reason.toNat).same ((t.ch 1).ch 1) = true := c2 1 _ rfl
  have x2 : (eidT r.of.src).same ((t.ch 1).ch 2) = true := c2 2 _ rfl
  have x3 : (listT [numT r.of.t, numT r.of.q]).same ((t.ch 1).ch 3) = true := c2 3 _ rfl
  obtain ⟨k0, c0⟩ := listT_same x0
  obtain ⟨k3, c3⟩ := listT_same x3
  have k0 : ((t.ch 1).ch 0).k = 2 := k0
  have k3 : ((t.ch 1).ch 3).k = 2 := k3
  have y0 := bit_same (c0 0 _ rfl)
  have y1 := bit_same (c0 1 _ rfl)
  have y2 := numT_same (c3 0 _ rfl)
  have y3 := numT_same (c3 1 _ rfl)
  have y4 := numT_same x1
  have r2 : ((t.ch 1).ch 2).right 8 = true := right_upto (ch_right (d := 6) rB (by omega)) 8 (by omega)
  have o2 : ((t.ch 1).ch 2).ok := ch_ok oB (by omega)
  obtain ⟨e1, e2⟩ := prev_tree r2 o2 (e := r.of.src) ⟨m1, T.same_bytes _ _ o2 x2⟩
  refine ⟨?_, k1, ?_, k0, k3, e2⟩
  · have p1 : partT t 1 = t.ch 1 := partT_ch (by omega)
    have p10 : partT (t.ch 1) 0 = (t.ch 1).ch 0 := partT_ch (by omega)
    have p11 : partT (t.ch 1) 1 = (t.ch 1).ch 1 := partT_ch (by omega)
    have p12 : partT (t.ch 1) 2 = (t.ch 1).ch 2 := partT_ch (by omega)
    have p13 : partT (t.ch 1) 3 = (t.ch 1).ch 3 := partT_ch (by omega)
    have p100 : partT ((t.ch 1).ch 0) 0 = ((t.ch 1).ch 0).ch 0 := partT_ch (by omega)
    have p101 : partT ((t.ch 1).ch 0) 1 = ((t.ch 1).ch 0).ch 1 := partT_ch (by omega)
    have p130 : partT ((t.ch 1).ch 3) 0 = ((t.ch 1).ch 3).ch 0 := partT_ch (by omega)
    have p131 : partT ((t.ch 1).ch 3) 1 = ((t.ch 1).ch 3).ch 1 := partT_ch (by omega)
    have hN : nameT ((t.ch 1).ch 2) = r.of.src := by unfold nameT; rw [if_pos e2, e1]
    unfold readRep
    simp only [p1, p10, p11, p12, p13, p100, p101, p130, p131, hN, y0, y1, y2, y3, y4, kB]
    obtain ⟨rh, rg, rr, ⟨rs, rt, rq, rf, ro, rn⟩⟩ := r
    simp only [] at *
    have hrr : min ((rr.toNat : Nat) : Int) 65536 = rr := by omega
    cases rf with
    | false =>
      have m5 : ro = 0 ∧ rn = 0 := m5
      have q4 : partT (t.ch 1) 4 = numT 0 := partT_no (by rw [kB]; simp)
      have q5 : partT (t.ch 1) 5 = numT 0 := partT_no (by rw [kB]; simp)
      rw [q4, q5, hrr, m5.1, m5.2]
      rfl
    | true =>
      have q4 : partT (t.ch 1) 4 = (t.ch 1).ch 4 := partT_ch (by rw [kB]; simp)
      have q5 : partT (t.ch 1) 5 = (t.ch 1).ch 5 := partT_ch (by rw [kB]; simp)
      have z4 := numT_same (c2 4 (numT ro) rfl)
      have z5 := numT_same (c2 5 (numT rn) rfl)
      rw [q4, q5, hrr, z4, z5]
      rfl
  · rw [kB]; cases r.of.fr
    · exact .inl rfl
    · exact .inr rfl
theorem isRep_inj {s : List UInt8} (x y : RV) (hx : isRep s x) (hy : isRep s y) : x = y := by
  obtain ⟨g1, g2, g3⟩ := RV.tree_all hx.1
  have h1 := (rep_tree (g2 8 (by omega)) g1 (r := x) ⟨hx.1, rfl⟩).1
  have h2 := (rep_tree (g2 8 (by omega)) g1 (r := y) ⟨hy.1, hy.2.trans hx.2.symm⟩).1
  rw [← h1, h2]
theorem repO_bad {s : List UInt8} (h : (parseR s).2 ≠ 0) : repO s = none := theO_none fun e he => h (by
  obtain ⟨g1, g2, g3⟩ := RV.tree_all he.1
  rw [← he.2, show e.bytes = e.tree.bytes from rfl, parse_back (g2 8 (by omega)) g1])
def repB (t : T) : Bool := (readRep t).right && decide ((readRep t).bytes = t.bytes)
theorem repO_tree {t : T} (hr : t.right 8 = true) (hok : t.ok) : repO t.bytes = if repB t then some (readRep t) else none := by
  by_cases h : repB t = true
  · rw [if_pos h]
    unfold repB at h
    rw [Bool.and_eq_true, decide_eq_true_eq] at h
    exact theO_some isRep_inj h
  · rw [if_neg h]
    refine theO_none fun r hr' => h ?_
    have e := (rep_tree hr hok hr').1
    unfold repB
    rw [Bool.and_eq_true, decide_eq_true_eq, e]
    exact hr'
theorem rep_shape {t : T} (hr : t.right 8 = true) (hok : t.ok) (h : ¬ shapeR t) : repO t.bytes = none := theO_none fun r hr' => h (rep_tree hr hok hr').2
theorem repO_some {r : RV} (h : r.right = true) : repO r.bytes = some r := theO_some isRep_inj ⟨h, rfl⟩
/-- What the reference reads of a tree of this shape: the same. -/
def refRep (t : T) : RV :=
  let l := (t.ch 1).ch
  ⟨decide (((l 0).ch 0).kind = 0) && decide (((l 0).ch 0).n = 1), decide (((l 0).ch 1).kind = 0) && decide (((l 0).ch 1).n = 1), min ((l 1).n : Int) 65536, ⟨readE (l 2), ((l 3).ch 0).n, ((l 3).ch 1).n, decide ((t.ch 1).k = 6), if (t.ch 1).k = 6 then (l 4).n else 0, if (t.ch 1).k = 6 then (l 5).n else 0⟩⟩
theorem refRep_eq {t : T} (hr : t.right 8 = true) (h : shapeR t) : refRep t = readRep t := by
  obtain ⟨k1, k2, k0, k3, e2⟩ := h
  have k4 : 4 ≤ (t.ch 1).k := by omega
  have p1 : partT t 1 = t.ch 1 := partT_ch (by omega)
  have p10 : partT (t.ch 1) 0 = (t.ch 1).ch 0 := partT_ch (by omega)
  have p11 : partT (t.ch 1) 1 = (t.ch 1).ch 1 := partT_ch (by omega)
  have p12 : partT (t.ch 1) 2 = (t.ch 1).ch 2 := partT_ch (by omega)
  have p13 : partT (t.ch 1) 3 = (t.ch 1).ch 3 := partT_ch (by omega)
  have p100 : partT ((t.ch 1).ch 0) 0 = ((t.ch 1).ch 0).ch 0 := partT_ch (by omega)
  have p101 : partT ((t.ch 1).ch 0) 1 = ((t.ch 1).ch 0).ch 1 := partT_ch (by omega)
  have p130 : partT ((t.ch 1).ch 3) 0 = ((t.ch 1).ch 3).ch 0 := partT_ch (by omega)
  have p131 : partT ((t.ch 1).ch 3) 1 = ((t.ch 1).ch 3).ch 1 := partT_ch (by omega)
  have hN : nameT ((t.ch 1).ch 2) = readE ((t.ch 1).ch 2) := by unfold nameT; rw [if_pos e2]
  have r0 : ((t.ch 1).ch 0).right 6 = true := ch_right (ch_right hr (by omega)) (by omega)
  have b0 : ∀ i, i < 2 → (decide ((((t.ch 1).ch 0).ch i).kind = 0) && decide ((((t.ch 1).ch 0).ch i).n = 1)) = decide ((((t.ch 1).ch 0).ch i).n = 1) := by
    intro i hi
    have r := ch_right (d := 5) r0 (i := i) (by omega)
    by_cases hn : (((t.ch 1).ch 0).ch i).n = 1
    · rw [kind_n r hn]; rfl
    · rw [decide_eq_false hn, Bool.and_false]
  unfold refRep readRep
  simp only [p1, p10, p11, p12, p13, p100, p101, p130, p131, hN, b0 0 (by omega), b0 1 (by omega)]
  rcases k2 with k2 | k2
  · rw [k2, partT_no (t := t.ch 1) (i := 4) (by omega), partT_no (t := t.ch 1) (i := 5) (by omega)]
    rfl
  · rw [k2, partT_ch (t := t.ch 1) (i := 4) (by omega), partT_ch (t := t.ch 1) (i := 5) (by omega)]
    rfl
end Go.Proofs.Ytogjghmoankleaa


namespace Go.Proofs.Ytogjghmoankleaa
open Go.RowKit
set_option linter.unusedVariables false
set_option linter.unusedSimpArgs false

def PrevPost (l : List UInt8) (w : World) (e : Ending) (w' : World) : Prop := Ret (.tuple #[((prevO l).getD zeroE).v, .int .i64 (if (prevO l).isSome then 0 else 2)]) w e w' ∧ PTree l
theorem PrevPost.none {l : List UInt8} {w w' : World} {e : Ending} (hp : prevO l = none) (h : Ret (.tuple #[zeroE.v, .int .i64 2]) w e w') (hT : PTree l) : PrevPost l w e w' := by unfold PrevPost; rw [hp]; exact ⟨h, hT⟩
theorem PrevPost.some {l : List UInt8} {w w' : World} {e : Ending} {E : EV} (hp : prevO l = some E) (h : Ret (.tuple #[E.v, .int .i64 0]) w e w') (hT : PTree l) : PrevPost l w e w' := by unfold PrevPost; rw [hp]; exact ⟨h, hT⟩
end Go.Proofs.Ytogjghmoankleaa


namespace Go.Proofs.Ytogjghmoankleaa
open Go.RowKit
set_option linter.unusedVariables false
set_option linter.unusedSimpArgs false

def AgePost (l : List UInt8) (w : World) (e : Ending) (w' : World) : Prop := Ret (.tuple #[.int .u64 (((ageO l).getD 0 : Nat) : Int), .int .i64 (if (ageO l).isSome then 0 else 2)]) w e w'
theorem AgePost.none {l : List UInt8} {w w' : World} {e : Ending} (hp : ageO l = none) (h : Ret (.tuple #[.int .u64 0, .int .i64 2]) w e w') : AgePost l w e w' := by unfold AgePost; rw [hp]; exact h
theorem AgePost.some {l : List UInt8} {w w' : World} {e : Ending} {E : Nat} (hp : ageO l = some E) (h : Ret (.tuple #[.int .u64 (E : Int), .int .i64 0]) w e w') : AgePost l w e w' := by unfold AgePost; rw [hp]; exact h
end Go.Proofs.Ytogjghmoankleaa


namespace Go.Proofs.Ytogjghmoankleaa
open Go.RowKit
set_option linter.unusedVariables false
set_option linter.unusedSimpArgs false

def RhPost (t : T) (w : World) (e : Ending) (w' : World) : Prop := ∃ a b : Int, Ret (.tuple #[.agg #[.int .i64 a, .int .i64 b], .bool (hopsB t)]) w e w' ∧ (hopsB t = true → a = ((t.ch 0).n : Int) ∧ b = ((t.ch 1).n : Int))
theorem RhPost.no {t : T} {w w' : World} {e : Ending} (hB : hopsB t = false) {a b : Int} (h : Ret (.tuple #[.agg #[.int .i64 a, .int .i64 b], .bool false]) w e w') : RhPost t w e w' := ⟨a, b, by rw [hB]; exact h, fun h => by rw [hB] at h; cases h⟩
end Go.Proofs.Ytogjghmoankleaa


namespace Go.Proofs.Ytogjghmoankleaa
open Go.RowKit
set_option linter.unusedVariables false
set_option linter.unusedSimpArgs false

def HopsPost (l : List UInt8) (w : World) (e : Ending) (w' : World) : Prop := Ret (.tuple #[.agg #[.int .i64 ((((hopsO l).getD (0, 0)).1 : Nat) : Int), .int .i64 ((((hopsO l).getD (0, 0)).2 : Nat) : Int)], .int .i64 (if (hopsO l).isSome then 0 else 2)]) w e w'
theorem HopsPost.none {l : List UInt8} {w w' : World} {e : Ending} (hp : hopsO l = none) (h : Ret (.tuple #[.agg #[.int .i64 0, .int .i64 0], .int .i64 2]) w e w') : HopsPost l w e w' := by unfold HopsPost; rw [hp]; exact h
theorem HopsPost.some {l : List UInt8} {w w' : World} {e : Ending} {E : Nat × Nat} (hp : hopsO l = some E) (h : Ret (.tuple #[.agg #[.int .i64 (E.1 : Int), .int .i64 (E.2 : Int)], .int .i64 0]) w e w') : HopsPost l w e w' := by unfold HopsPost; rw [hp]; exact h
def HopsPost3 (l : List UInt8) (w : World) (e : Ending) (w' : World) : Prop := Ret (.tuple #[.int .i64 ((((hopsO l).getD (0, 0)).1 : Nat) : Int), .int .i64 ((((hopsO l).getD (0, 0)).2 : Nat) : Int), .int .i64 (if (hopsO l).isSome then 0 else 2)]) w e w'
end Go.Proofs.Ytogjghmoankleaa


namespace Go.Proofs.Ytogjghmoankleaa
open Go.RowKit
set_option linter.unusedVariables false
set_option linter.unusedSimpArgs false

theorem age_readH {l : List UInt8} {n : Nat} (h : isAge l n) : readH l = some (l.length, 0, n, false) := by
  have := readH_head (m := 0) (n := n) (by omega) (by have := h.1; omega) []
  rw [List.append_nil, h.2] at this
  exact this
theorem ageO_readH {l : List UInt8} (h : readH l = none) : ageO l = none := theO_none fun n hn => by rw [age_readH hn] at h; cases h
theorem ageO_yes {l : List UInt8} {n : Nat} {o : Bool} (h : readH l = some (l.length, 0, n, o)) (hn : n ≤ 1099511627776) : ageO l = some n := by
  have H := readH_some h
  cases o with
  | true => have := (H.opened rfl).2.2.1; simp [opensB] at this
  | false =>
    have := (H.closed rfl).1
    rw [List.take_of_length_le (Nat.le_refl _)] at this
    exact theO_some isAge_inj ⟨hn, this.symm⟩
theorem ageO_no {l : List UInt8} {sz m n : Nat} {o : Bool} (h : readH l = some (sz, m, n, o)) (hn : ¬ (sz = l.length ∧ m = 0 ∧ n ≤ 1099511627776)) : ageO l = none := theO_none fun k hk => hn (by
  rw [age_readH hk] at h
  simp only [Option.some.injEq, Prod.mk.injEq] at h
  obtain ⟨rfl, rfl, rfl, rfl⟩ := h
  exact ⟨rfl, rfl, hk.1⟩)
def QAge (l : List UInt8) (w : World) (e : Ending) (w' : World) : Prop := Ret (.tuple #[.int .u64 (((ageO l).getD 0 : Nat) : Int), .bool (ageO l).isSome]) w e w'
theorem QAge.none {l : List UInt8} {w w' : World} {e : Ending} (hp : ageO l = none) (h : Ret (.tuple #[.int .u64 0, .bool false]) w e w') : QAge l w e w' := by unfold QAge; rw [hp]; exact h
theorem QAge.some {l : List UInt8} {w w' : World} {e : Ending} {E : Nat} (hp : ageO l = some E) (h : Ret (.tuple #[.int .u64 (E : Int), .bool true]) w e w') : QAge l w e w' := by unfold QAge; rw [hp]; exact h
end Go.Proofs.Ytogjghmoankleaa


namespace Go.Proofs.Ytogjghmoankleaa
open Go.RowKit
set_option linter.unusedVariables false
set_option linter.unusedSimpArgs false

def QHops (l : List UInt8) (w : World) (e : Ending) (w' : World) : Prop := Ret (.tuple #[.int .i64 ((((hopsO l).getD (0, 0)).1 : Nat) : Int), .int .i64 ((((hopsO l).getD (0, 0)).2 : Nat) : Int), .bool (hopsO l).isSome]) w e w'
theorem QHops.none {l : List UInt8} {w w' : World} {e : Ending} (hp : hopsO l = none) (h : Ret (.tuple #[.int .i64 0, .int .i64 0, .bool false]) w e w') : QHops l w e w' := by unfold QHops; rw [hp]; exact h
theorem QHops.some {l : List UInt8} {w w' : World} {e : Ending} {a b : Nat} (hp : hopsO l = some (a, b)) (h : Ret (.tuple #[.int .i64 (a : Int), .int .i64 (b : Int), .bool true]) w e w') : QHops l w e w' := by unfold QHops; rw [hp]; exact h
/-- No hops of l have limit a. -/
def NoHops (l : List UInt8) (a : Nat) : Prop := ∀ b, ¬ isHops l (a, b)
theorem noHops_short {l : List UInt8} {a : Nat} {z : List UInt8} (hz : 130 :: headL 0 a = z) (h : l.length ≤ z.length) : NoHops l a := fun b hb => by
  have e := congrArg List.length hb.2
  have := headL_pos 0 b
  subst hz
  simp at e h
  omega
theorem noHops_head {l : List UInt8} {a : Nat} {z : List UInt8} (hz : 130 :: headL 0 a = z) (h : l.take z.length ≠ z) : NoHops l a := fun b hb => h (by
  have e := hb.2
  rw [← List.cons_append, hz] at e
  rw [← e, List.take_left])
theorem noHops_age {l : List UInt8} {a : Nat} {z : List UInt8} (hz : 130 :: headL 0 a = z) (h : ∀ n, ageO (l.drop z.length) = some n → 255 < n) : NoHops l a := fun b hb => by
  have e := hb.2
  have m := may_le hb.1
  rw [← List.cons_append, hz] at e
  have hd : l.drop z.length = headL 0 b := by rw [← e, List.drop_left]
  have : ageO (l.drop z.length) = some b := theO_some isAge_inj ⟨by omega, hd.symm⟩
  have := h b this
  omega
theorem hops_yes {l : List UInt8} {a : Nat} {z : List UInt8} (hz : 130 :: headL 0 a = z) (ha : 1 ≤ a ∧ a ≤ 255) (ht : l.take z.length = z) {n : Nat} (hA : ageO (l.drop z.length) = some n) (hn : n ≤ 255) : hopsO l = some (a, n) := by
  refine theO_some isHops_inj ⟨by simp [mayB]; omega, ?_⟩
  have hg : isAge (l.drop z.length) n := by
    unfold ageO theO at hA
    split at hA
    next h => simp only [Option.some.injEq] at hA; rw [← hA]; exact h.choose_spec
    next h => cases hA
  rw [← List.cons_append, hz, hg.2]
  have h2 := List.take_append_drop z.length l
  rw [ht] at h2
  exact h2
theorem hops_none {l : List UInt8} (h : ∀ a, 1 ≤ a → a ≤ 255 → NoHops l a) : hopsO l = none := theO_none fun x hx => by
  have m := hx.1
  simp [mayB] at m
  exact h x.1 (by omega) (by omega) x.2 hx

end Go.Proofs.Ytogjghmoankleaa


namespace Go.Proofs.Ytogjghmoankleaa
open Go.RowKit
set_option linter.unusedVariables false
set_option linter.unusedSimpArgs false

theorem infoEID : (Try.prog.info? 26).map (fun i => (i.zero, i.size, i.bytes)) = some (some (.agg #[.int .i64 0, .string ⟨#[]⟩, .int .u64 0, .int .u64 0]), 4, 40) := by kernel_rfl
def OfPost (t : T) (w : World) (e : Ending) (w' : World) : Prop := Ret (.tuple #[(if ofB t then readE t else zeroE).v, .int .i64 (if ofB t then 0 else 2)]) w e w'
/-- A row of names, its cells. -/
def flatE : List EV → List Value
  | [] => []
  | e :: l => .int .i64 e.sch :: str e.name :: .int .u64 (e.node : Int) :: .int .u64 (e.svc : Int) :: flatE l
theorem flatE_one (l : List EV) : ∀ u ∈ flatE l, u.oneCell' = true := by
  induction l with
  | nil => intro u h; cases h
  | cons e l ih =>
    intro u h
    simp only [flatE, List.mem_cons] at h
    rcases h with rfl | rfl | rfl | rfl | h
    · rfl
    · rfl
    · rfl
    · rfl
    · exact ih u h
theorem flatE_app (l m : List EV) : flatE (l ++ m) = flatE l ++ flatE m := by
  induction l with
  | nil => rfl
  | cons e l ih => simp [flatE, ih]
theorem flatE_get (l : List EV) : ∀ (i : Nat) (e : EV), l[i]? = some e → (flatE l)[i * 4]? = some (.int .i64 e.sch) ∧ (flatE l)[i * 4 + 1]? = some (str e.name) ∧ (flatE l)[i * 4 + 2]? = some (.int .u64 (e.node : Int)) ∧ (flatE l)[i * 4 + 3]? = some (.int .u64 (e.svc : Int)) := by
  induction l with
  | nil => intro i e h; simp at h
  | cons x l ih =>
    intro i e h
    cases i with
    | zero => simp at h; subst h; exact ⟨rfl, rfl, rfl, rfl⟩
    | succ i =>
      have := ih i e (by simpa using h)
      rw [show (i + 1) * 4 = i * 4 + 4 by omega, show i * 4 + 4 + 1 = (i * 4 + 1) + 4 by omega, show i * 4 + 4 + 2 = (i * 4 + 2) + 4 by omega, show i * 4 + 4 + 3 = (i * 4 + 3) + 4 by omega]
      simpa [flatE] using this
theorem OfPost.no {t : T} {w w' : World} {e : Ending} (hB : ofB t = false) (h : Ret (.tuple #[zeroE.v, .int .i64 2]) w e w') : OfPost t w e w' := by unfold OfPost; rw [hB]; exact h
theorem OfPost.yes {t : T} (hr : t.right 8 = true) (hok : t.ok) {w w' : World} {e : Ending} {E : EV} (hE : isPrev t.bytes E) (h : Ret (.tuple #[E.v, .int .i64 0]) w e w') : OfPost t w e w' := by
  unfold OfPost
  obtain ⟨h1, h2⟩ := prev_tree hr hok hE
  rw [h2, h1]; exact h
theorem ofB_two {t : T} (h : ofB t = true) : t.right 8 = true ∧ t.k = 2 := by
  unfold ofB at h
  simp only [Bool.and_eq_true] at h
  refine ⟨h.2.1, ?_⟩
  by_cases hk : t.k = 2
  · exact hk
  · have : readE t = zeroE := by unfold readE; rw [if_pos (.inr (.inl hk))]
    rw [this] at h
    exact absurd h.1 (by decide)
theorem of_tries {t : T} (hr : t.right 8 = true) (hok : t.ok) (h0 : ¬ isPrev t.bytes noneE) (h1 : ¬ isPrev t.bytes ⟨1, (t.ch 1).s, 0, 0⟩) (h2 : (t.ch 1).k = 2 → ¬ isPrev t.bytes ⟨2, [], ((t.ch 1).ch 0).n, ((t.ch 1).ch 1).n⟩) : ofB t = false := by
  by_cases hB : ofB t = true
  · have hp := tree_prev hr hok hB
    have hE : readE t = zeroE ∨ readE t = noneE ∨ readE t = ⟨1, (t.ch 1).s, 0, 0⟩ ∨ ((t.ch 1).k = 2 ∧ readE t = ⟨2, [], ((t.ch 1).ch 0).n, ((t.ch 1).ch 1).n⟩) := by
      unfold readE
      split
      · exact .inl rfl
      · split
        next h => exact .inr (.inr (.inr ⟨h.2, rfl⟩))
        · split
          · exact .inr (.inr (.inl rfl))
          · exact .inr (.inl rfl)
    rcases hE with h | h | h | ⟨hk, h⟩ <;> rw [h] at hp
    · exact absurd hp.1 (by decide)
    · exact absurd hp h0
    · exact absurd hp h1
    · exact absurd hp (h2 hk)
  · simpa using hB
set_option maxRecDepth 20000 in
theorem of_bad1 (t : T) (hok : t.ok) (hr : t.right 8 = false) (A : Option Addr) (c : Nat) (w : World) (h : IsL w (fun _ => True) t A) : Calls Try.prog 61 #[itemV t A c] w (OfPost t w) := by
  have K1 := hid (fun W hW => rRight_any t hok A c W hW)
  have H := hid h
  have HE := hid (((Mod.refl [] w).alloc (.cells (itemC t A c) 38)).alloc (.cells #[.int .i64 0, .string ⟨#[]⟩, .int .u64 0, .int .u64 0] 26))
  have HX := hid ((Blk.new w 38 (itemC t A c)).alloc (.cells #[.int .i64 0, .string ⟨#[]⟩, .int .u64 0, .int .u64 0] 26))
  have HQ := hid (Blk.new' (w.alloc (.cells (itemC t A c) 38)) 26 zeroE.c (N := w.heap.size + 1) (by simp))
  rw [hr] at K1
  have HB : Hid (ofB t = false) := hid (by
    by_cases hB : ofB t = true
    · have := (ofB_two hB).1; rw [hr] at this; cases this
    · simpa using hB)
  clear hr hok h
  go_enter Try.func61, Try.ntmps61
  go_wp2_with fail
  refine (K1.out _ (H.out.ext HE.out)).mono ?_
  rintro e1 w1 ⟨rfl, hb1⟩
  have HE1 := hid (HE.out.trans hb1)
  have HX1 := hid (HX.out.ext hb1)
  have HQ1 := hid (HQ.out.ext hb1)
  clear hb1
  have HC := HQ1.out
  obtain ⟨c0, c1, c2, c3⟩ := cells4 (e := zeroE) HC
  have f0 := Blk.frozen HC 0
  have f1 := Blk.frozen HC 1
  have f2 := Blk.frozen HC 2
  have f3 := Blk.frozen HC 3
  go_wp2_with fail
  obtain ⟨d0, d1, d2, d3⟩ := cells4 (set4_blk (e0 := zeroE) (e := zeroE) HC)
  clear c0 c1 c2 c3 f0 f1 f2 f3
  show bodyPost _ _ _ _ _ (set4 w1 (w.heap.size + 1) zeroE)
  refine bodyPost_ret (v := .tuple #[EV.v zeroE, .int .i64 2]) (by simp [results, Try.results61, go_sem, d0, d1, d2, d3]) rfl (OfPost.no HB.out (Ret.mk rfl (set4_mod HE1.out (by omega))))
set_option maxRecDepth 20000 in
theorem of_bad2 (t : T) (hok : t.ok) (hr : t.right 8 = true) (hk : t.k ≠ 2) (A : Option Addr) (c : Nat) (w : World) (h : IsL w (fun _ => True) t A) : Calls Try.prog 61 #[itemV t A c] w (OfPost t w) := by
  have K1 := hid (fun W hW => rRight_any t hok A c W hW)
  have H := hid h
  have HE := hid (((Mod.refl [] w).alloc (.cells (itemC t A c) 38)).alloc (.cells #[.int .i64 0, .string ⟨#[]⟩, .int .u64 0, .int .u64 0] 26))
  have HX := hid ((Blk.new w 38 (itemC t A c)).alloc (.cells #[.int .i64 0, .string ⟨#[]⟩, .int .u64 0, .int .u64 0] 26))
  have HQ := hid (Blk.new' (w.alloc (.cells (itemC t A c) 38)) 26 zeroE.c (N := w.heap.size + 1) (by simp))
  rw [hr] at K1
  have HB : Hid (ofB t = false) := hid (by
    by_cases hB : ofB t = true
    · have := (ofB_two hB).2; exact absurd this hk
    · simpa using hB)
  obtain ⟨kk, hkk⟩ : ∃ x, x = t.k := ⟨_, rfl⟩
  have n1 : ((kk : Int) == 2) = false := by simp; omega
  have n2 : ((kk : Int) = 2) = False := by simp; omega
  have n3 : ((kk : Int) != 2) = true := by simp; omega
  clear hr hok h hk
  go_enter Try.func61, Try.ntmps61
  go_wp2_with fail
  refine (K1.out _ (H.out.ext HE.out)).mono ?_
  rintro e1 w1 ⟨rfl, hb1⟩
  have HE1 := hid (HE.out.trans hb1)
  have HX1 := hid (HX.out.ext hb1)
  have HQ1 := hid (HQ.out.ext hb1)
  clear hb1
  have x3 : w1.cell? ⟨w.heap.size, 3, none⟩ = some (.slice A kk c) := by rw [hkk]; exact HX1.out.cell 3
  clear hkk
  have HC := HQ1.out
  obtain ⟨c0, c1, c2, c3⟩ := cells4 (e := zeroE) HC
  have f0 := Blk.frozen HC 0
  have f1 := Blk.frozen HC 1
  have f2 := Blk.frozen HC 2
  have f3 := Blk.frozen HC 3
  go_wp2_with fail
  obtain ⟨d0, d1, d2, d3⟩ := cells4 (set4_blk (e0 := zeroE) (e := zeroE) HC)
  clear c0 c1 c2 c3 f0 f1 f2 f3
  show bodyPost _ _ _ _ _ (set4 w1 (w.heap.size + 1) zeroE)
  refine bodyPost_ret (v := .tuple #[EV.v zeroE, .int .i64 2]) (by simp [results, Try.results61, go_sem, d0, d1, d2, d3]) rfl (OfPost.no HB.out (Ret.mk rfl (set4_mod HE1.out (by omega))))
set_option maxRecDepth 20000 in
set_option maxHeartbeats 3200000 in
theorem of_three (kind : Int) (n : Nat) (s : List UInt8) (op : Bool) (ch : Nat → T) (hok : (T.mk kind n s op 2 ch).ok) (hr : (T.mk kind n s op 2 ch).right 8 = true) (hs : (T.mk kind n s op 2 ch).size ≤ 100000) (hk1 : (ch 1).k = 2) (A : Option Addr) (c : Nat) (w : World) (h : IsL w (fun _ => True) (T.mk kind n s op 2 ch) A) : Calls Try.prog 61 #[itemV (T.mk kind n s op 2 ch) A c] w (OfPost (T.mk kind n s op 2 ch) w) := by
  obtain ⟨b, o, ac, hA, hb, _, hac⟩ := h.rows (by omega)
  have HA1 := hid (hac 1 (by omega)).1
  obtain ⟨b1, o1, A2, A3, c2, c3, hA1, hb1, HI0, HI1⟩ : ∃ b1 o1 A2 A3 c2 c3, (ac 1).1 = some ⟨b1, o1, none⟩ ∧ b1 < w.heap.size ∧ Hid (At5 w b1 o1 ((ch 1).ch 0) A2 c2) ∧ Hid (At5 w b1 (o1 + 5) ((ch 1).ch 1) A3 c3) := by
    have hl := (hac 1 (by omega)).2
    revert hl hk1
    cases ch 1 with
    | nil => intro hk1; cases hk1
    | mk kd nn ss oo kk cc =>
      intro hk1 hl
      have hkk : kk = 2 := hk1
      subst hkk
      obtain ⟨b1, o1, ac1, e1, e2, _, e3⟩ := hl.rows (by omega)
      exact ⟨b1, o1, _, _, _, _, e1, e2, by have := (e3 0 (by omega)).1; rw [show o1 + 0 * 5 = o1 by omega] at this; exact this, by have := (e3 1 (by omega)).1; rw [show o1 + 1 * 5 = o1 + 5 by omega] at this; exact this⟩
  obtain ⟨t, ht⟩ : ∃ t, t = T.mk kind n s op 2 ch := ⟨_, rfl⟩
  have hk : t.k = 2 := by rw [ht]; rfl
  have hch : t.ch = ch := by rw [ht]; rfl
  rw [← ht] at hok hr hs h
  rw [← ht]
  have HXA : Hid (A = some ⟨b, o, none⟩ ∧ t.k = 2) := ⟨hA, hk⟩
  have HTR : Hid (∀ e0 e1 e2 : EV, e0 = noneE → e1 = ⟨1, (ch 1).s, 0, 0⟩ → e2 = ⟨2, [], ((ch 1).ch 0).n, ((ch 1).ch 1).n⟩ → ¬ isPrev t.bytes e0 → ¬ isPrev t.bytes e1 → ¬ isPrev t.bytes e2 → ofB t = false) := fun e0 e1 e2 h0 h1 h2 g0 g1 g2 => of_tries hr hok (by rw [← h0]; exact g0) (by rw [hch, ← h1]; exact g1) (by rw [hch]; intro _; rw [← h2]; exact g2)
  have HY : Hid (∀ E, isPrev t.bytes E → ∀ w' e, Ret (.tuple #[E.v, .int .i64 0]) w e w' → OfPost t w e w') := fun E hE w' e hR => OfPost.yes hr hok hE hR
  have HPL := hid (T.plain_of hr)
  have KB : Hid (∀ (E : EV), E.ok = true → ∀ B W, IsL W (fun _ => True) (eidT E) B → Calls Try.prog 57 #[itemV (eidT E) B 2] W (Ret (str (eidT E).bytes) W)) := fun E hE B W hW => rBytesI_any _ (eidT_ok hE).1 (eidT_ok hE).2.2.1 (eidT_ok hE).2.2.2 B 2 W hW
  have KT : Hid (∀ W, IsL W (fun _ => True) t A → Calls Try.prog 57 #[itemV t A c] W (Ret (str t.bytes) W)) := fun W hW => rBytesI_any t hok HPL.out hs A c W hW
  have KR := hid (fun E W => r10_any E W)
  have KI := hid (fun (E : EV) (hE : E.ok = true) W => r10Item_ok E hE W)
  have K1 := hid (fun W hW => rRight_any t hok A c W hW)
  have H := hid h
  have HE := hid (((Mod.refl [] w).alloc (.cells (itemC t A c) 38)).alloc (.cells #[.int .i64 0, .string ⟨#[]⟩, .int .u64 0, .int .u64 0] 26))
  have HX := hid ((Blk.new w 38 (itemC t A c)).alloc (.cells #[.int .i64 0, .string ⟨#[]⟩, .int .u64 0, .int .u64 0] 26))
  have HQ := hid (Blk.new' (w.alloc (.cells (itemC t A c) 38)) 26 zeroE.c (N := w.heap.size + 1) (by simp))
  rw [hr] at K1
  clear hr hok h hs HPL hac hA hk hch ht
  obtain ⟨i0, hi0, hz0, hz1, hz2⟩ := info_parts infoEID
  have HINF := hid (And.intro hi0 (And.intro hz0 (And.intro hz1 hz2)))
  clear hi0 hz0 hz1 hz2
  go_enter Try.func61, Try.ntmps61
  go_wp2_with fail
  refine (K1.out _ (H.out.ext HE.out)).mono ?_
  rintro e1 w1 ⟨rfl, hb1⟩
  have HE1 := hid (HE.out.trans hb1)
  have HX1 := hid (HX.out.ext hb1)
  have HQ1 := hid (HQ.out.ext hb1)
  clear hb1
  have x3 : w1.cell? ⟨w.heap.size, 3, none⟩ = some (.slice (some ⟨b, o, none⟩) 2 c) := by rw [← HXA.out.1, ← HXA.out.2]; exact HX1.out.cell 3
  obtain ⟨p0, p1, p2, p3, p4⟩ : At5 w1 b (o + 5) (ch 1) (ac 1).1 (ac 1).2 := by have := At5.mod HA1.out HE1.out hb (by simp); rw [show o + 1 * 5 = o + 5 by omega] at this; exact this
  clear HA1
  go_upto_region 4 with fail
  clear p0 p1 p2 p3 p4 x3
  have HX2 := hid (HX1.out.alloc (.cells #[.int .i64 (ch 1).kind, .int .u64 ((ch 1).n : Int), str (ch 1).s, .slice (some ⟨b1, o1, none⟩) 2 (ac 1).2, .bool (ch 1).op] 38))
  have HQ2 := hid (HQ1.out.alloc (.cells #[.int .i64 (ch 1).kind, .int .u64 ((ch 1).n : Int), str (ch 1).s, .slice (some ⟨b1, o1, none⟩) 2 (ac 1).2, .bool (ch 1).op] 38))
  have HE2 := hid (HE1.out.alloc (.cells #[.int .i64 (ch 1).kind, .int .u64 ((ch 1).n : Int), str (ch 1).s, .slice (some ⟨b1, o1, none⟩) 2 (ac 1).2, .bool (ch 1).op] 38))
  have HY2 := hid (Blk.new w1 38 #[.int .i64 (ch 1).kind, .int .u64 ((ch 1).n : Int), str (ch 1).s, .slice (some ⟨b1, o1, none⟩) 2 (ac 1).2, .bool (ch 1).op])
  have HN : Hid (w.heap.size + 2 ≤ w1.heap.size) := Nat.succ_le_of_lt HQ1.out.lt
  have HS2 : Hid ((w1.alloc (.cells #[.int .i64 (ch 1).kind, .int .u64 ((ch 1).n : Int), str (ch 1).s, .slice (some ⟨b1, o1, none⟩) 2 (ac 1).2, .bool (ch 1).op] 38)).heap.size = w1.heap.size + 1) := hid (by simp)
  generalize w1.alloc (.cells #[.int .i64 (ch 1).kind, .int .u64 ((ch 1).n : Int), str (ch 1).s, .slice (some ⟨b1, o1, none⟩) 2 (ac 1).2, .bool (ch 1).op] 38) = W2 at *
  have y2 : W2.cell? ⟨w1.heap.size, 2, none⟩ = some (str (ch 1).s) := HY2.out.cell 2
  have y3 : W2.cell? ⟨w1.heap.size, 3, none⟩ = some (.slice (some ⟨b1, o1, none⟩) 2 (ac 1).2) := HY2.out.cell 3
  clear HE HX HQ HX1 HQ1 HE1
  obtain ⟨hi, hz0, hz1, hz2⟩ := HINF.out
  go_upto_region 6 with (at_builtin; refine wpList_append_lies _ rfl _ _ 143 rfl W2.heap.size 26 i0 _ 4 40 Try.underlying143 hi hz0 hz1 hz2 rfl (by decide) _ 0 [] (by rfl) (World.ownsRow_nil _ _ _ _) ⟨W2.heap.size, 0, none⟩ 2 2 (flatE [noneE, ⟨1, (ch 1).s, 0, 0⟩]) (by rfl) rfl (World.news_of_block (heap_alloc_new W2 _)) (flatE_one _) (by decide) (by decide) (by decide) (by simp) (W2.heap.size + 1) (by simp) ?_; intro g cap w5 hown hgrow hat hlt)
  have hg : W2.heap.size + 1 = g := by
    rcases hat with h | h
    · simp [Value.ownBlock] at h
    · exact h.symm
  have hE5 : Ext w w5 := Mod.grown (HE2.out.alloc _) hgrow (fun k hk => by simp [Value.ownBlock] at hk)
  have HE5 := hid hE5
  have HX5 : Hid (Blk w5 w.heap.size 38 (itemC t A c)) := (HX2.out.alloc _).mod (S := []) (Mod.grown (Mod.refl _ _) hgrow (fun k hk => by simp [Value.ownBlock] at hk)) (by simp)
  have HQ5 : Hid (Blk w5 (w.heap.size + 1) 26 zeroE.c) := (HQ2.out.alloc _).mod (S := []) (Mod.grown (Mod.refl _ _) hgrow (fun k hk => by simp [Value.ownBlock] at hk)) (by simp)
  have HY5 : Hid (Blk w5 w1.heap.size 38 #[.int .i64 (ch 1).kind, .int .u64 ((ch 1).n : Int), str (ch 1).s, .slice (some ⟨b1, o1, none⟩) 2 (ac 1).2, .bool (ch 1).op]) := (HY2.out.alloc _).mod (S := []) (Mod.grown (Mod.refl _ _) hgrow (fun k hk => by simp [Value.ownBlock] at hk)) (by simp)
  simp only [Nat.zero_add, List.nil_append] at hown
  have HO5 := hid hown
  have HG5 : Hid (w1.heap.size + 2 = g ∧ g < w5.heap.size ∧ W2.heap.size = w1.heap.size + 1) := ⟨by have := HS2.out; omega, hlt, HS2.out⟩
  clear hown hgrow hat hlt hE5 hg HX2 HQ2 HE2 HY2 y2 y3 HS2
  have y3 : w5.cell? ⟨w1.heap.size, 3, none⟩ = some (.slice (some ⟨b1, o1, none⟩) 2 (ac 1).2) := HY5.out.cell 3
  have HI05 : Hid (At5 w5 b1 o1 ((ch 1).ch 0) A2 c2) := At5.mod HI0.out HE5.out hb1 (by simp)
  have HI15 : Hid (At5 w5 b1 (o1 + 5) ((ch 1).ch 1) A3 c3) := At5.mod HI1.out HE5.out hb1 (by simp)
  have q0 : w5.cell? ⟨b1, o1 + 1, none⟩ = some (.int .u64 (((ch 1).ch 0).n : Int)) := HI05.out.2.1
  have q1 : w5.cell? ⟨b1, o1 + 5 + 1, none⟩ = some (.int .u64 (((ch 1).ch 1).n : Int)) := HI15.out.2.1
  have hO5 := HO5.out.alloc (.cells (EV.c ⟨2, [], ((ch 1).ch 0).n, ((ch 1).ch 1).n⟩) 26)
  clear HI0 HI1 HI05 HI15
  go_wp2_with fail
  go_region_held3 (fun w' => w'.cell? ⟨w1.heap.size, 3, none⟩ = some (.slice (some ⟨b1, o1, none⟩) 2 (ac 1).2) ∧ w'.cell? ⟨b1, o1 + 1, none⟩ = some (.int .u64 (((ch 1).ch 0).n : Int)) ∧ w'.cell? ⟨b1, o1 + 5 + 1, none⟩ = some (.int .u64 (((ch 1).ch 1).n : Int))) (go_keep)
    ((refine step_append_lies _ (by rfl) _ _ 143 (by rfl) W2.heap.size 26 i0 _ 4 40 Try.underlying143 hi hz0 hz1 hz2 (by rfl) (by decide) _ 2 _ (by rfl) hO5 ⟨w5.heap.size, 0, none⟩ 1 1 (flatE [⟨2, [], ((ch 1).ch 0).n, ((ch 1).ch 1).n⟩]) (by rfl) (by rfl) (World.news_of_block (heap_alloc_new w5 _)) (flatE_one _) (by decide) (by decide) (by decide) (by simp; have := HG5.out; omega) (w5.heap.size + 1) (by simp) ?_; intro g2 cap2 w6 hown hgrow hat hlt; have hm6 : Mod [g] w5 w6 := Mod.grown (by first | exact (Mod.refl [g] w5).alloc _ | exact ((Mod.refl [g] w5).alloc _).drew | exact ((Mod.refl [g] w5).drew).alloc _) hgrow (fun k hk => by simp [Value.ownBlock] at hk; subst hk; exact .inl (by simp)); have z1 := (hm6.cell (k := w1.heap.size) (o := 3) HY5.out.lt (by have := HG5.out; simp; omega)).trans y3; have z2 := (hm6.cell (k := b1) (o := o1 + 1) (by have := HE5.out.size; omega) (by have := HG5.out; have := HN.out; simp; omega)).trans q0; have z3 := (hm6.cell (k := b1) (o := o1 + 5 + 1) (by have := HE5.out.size; omega) (by have := HG5.out; have := HN.out; simp; omega)).trans q1))
  have HO6 : Hid (w6.ownsRow W2.heap.size 26 4 (.slice (some ⟨g2, 0, none⟩) 3 cap2) 3 (flatE [noneE, ⟨1, (ch 1).s, 0, 0⟩, ⟨2, [], ((ch 1).ch 0).n, ((ch 1).ch 1).n⟩])) := by have := hown; rw [← flatE_app] at this; exact this
  have HE6 : Hid (Ext w w6) := (HE5.out.of_ext.trans hm6).new (fun k hk => .inr (by rw [List.mem_singleton] at hk; subst hk; have := HG5.out; have := HN.out; omega))
  have HX6 : Hid (Blk w6 w.heap.size 38 (itemC t A c)) := HX5.out.mod hm6 (by have := HG5.out; have := HN.out; simp; omega)
  have HQ6 : Hid (Blk w6 (w.heap.size + 1) 26 zeroE.c) := HQ5.out.mod hm6 (by have := HG5.out; have := HN.out; simp; omega)
  clear hown hgrow hat hlt hm6 z1 z2 z3 q0 q1 y3 hO5 HO5 HE5 HX5 HQ5 HY5
  go_wp2_with fail
  have cx0 : ∀ e : Later w6, e.x.cell? ⟨w.heap.size, 0, none⟩ = some (.int .i64 t.kind) := HX6.out.cellL 0 rfl
  have cx1 : ∀ e : Later w6, e.x.cell? ⟨w.heap.size, 1, none⟩ = some (.int .u64 (t.n : Int)) := HX6.out.cellL 1 rfl
  have cx2 : ∀ e : Later w6, e.x.cell? ⟨w.heap.size, 2, none⟩ = some (str t.s) := HX6.out.cellL 2 rfl
  have cx3 : ∀ e : Later w6, e.x.cell? ⟨w.heap.size, 3, none⟩ = some (.slice A t.k c) := HX6.out.cellL 3 rfl
  have cx4 : ∀ e : Later w6, e.x.cell? ⟨w.heap.size, 4, none⟩ = some (.bool t.op) := HX6.out.cellL 4 rfl
  have HXL : Hid (∀ e : Later w6, IsL e.x (fun _ => True) t A) := fun e => H.out.ext (HE6.out.trans e.h)
  clear hi hz0 hz1 hz2 HINF
  obtain ⟨e0, he0⟩ := Later.self w6
  go_loopw [6] (fun s6 wr => ∃ i : Nat, s6 = .int .i64 (i : Int) ∧ Hid (i ≤ 3 ∧ ∀ (j : Nat) (E : EV), j < i → [noneE, ⟨1, (ch 1).s, 0, 0⟩, ⟨2, [], ((ch 1).ch 0).n, ((ch 1).ch 1).n⟩][j]? = some E → ¬ isPrev t.bytes E) ∧ ∃ e : Later w6, wr = e.x) (fun s6 _ => 3 - (intOf s6).toNat)
  case atStart => exact ⟨0, rfl, (show Hid _ from ⟨by omega, fun j E hj => by omega⟩), e0, he0⟩
  case round =>
    clear he0 e0
    obtain ⟨i, rfl, hi, e, rfl⟩ := hrel
    have i0 : (0 : Int) ≤ (i : Int) := by omega
    have i1 : (i : Int) ≤ 3 := by have := hi.out.1; omega
    by_cases hlt : i < 3
    · obtain ⟨E, hE⟩ : ∃ E, [noneE, ⟨1, (ch 1).s, 0, 0⟩, ⟨2, [], ((ch 1).ch 0).n, ((ch 1).ch 1).n⟩][i]? = some E := ⟨_, List.getElem?_eq_getElem hlt⟩
      obtain ⟨g0, g1, g2', g3⟩ := flatE_get [noneE, ⟨1, (ch 1).s, 0, 0⟩, ⟨2, [], ((ch 1).ch 0).n, ((ch 1).ch 1).n⟩] i E hE
      have r0 : ∀ e : Later w6, e.x.cell? ⟨g2, i * 4, none⟩ = some (.int .i64 E.sch) := cellL (own_cells HO6.out g0)
      have r1 : ∀ e : Later w6, e.x.cell? ⟨g2, i * 4 + 1, none⟩ = some (str E.name) := cellL (own_cells HO6.out g1)
      have r2 : ∀ e : Later w6, e.x.cell? ⟨g2, i * 4 + 2, none⟩ = some (.int .u64 (E.node : Int)) := cellL (own_cells HO6.out g2')
      have r3 : ∀ e : Later w6, e.x.cell? ⟨g2, i * 4 + 3, none⟩ = some (.int .u64 (E.svc : Int)) := cellL (own_cells HO6.out g3)
      have tc : decide ((i : Int) < 3) = true := by simp; omega
      have tc2 : ((i : Int) < 3) = True := by simp; omega
      have HI := hid hlt
      have KR1 := hid (fun W => KR.out E W)
      have HEE := hid hE
      clear g0 g1 g2' g3 hlt hE
      have HNX : ¬ isPrev t.bytes E → Hid (i + 1 ≤ 3 ∧ ∀ (j : Nat) (E : EV), j < i + 1 → [noneE, ⟨1, (ch 1).s, 0, 0⟩, ⟨2, [], ((ch 1).ch 0).n, ((ch 1).ch 1).n⟩][j]? = some E → ¬ isPrev t.bytes E) := fun hn => ⟨HI.out, fun j F hj hF => by
        by_cases h : j = i
        · subst h; rw [HEE.out] at hF; simp only [Option.some.injEq] at hF; subst hF; exact hn
        · exact hi.out.2 j F (by omega) hF⟩
      have HNX := hid HNX
      go_wp2_with fail
      by_cases hok : E.ok = true
      · have KI1 := hid (KI.out E hok)
        have KB1 := hid (KB.out E hok)
        have HOK := hid hok
        rw [hok] at KR1
        clear hok
        by_cases hb : (eidT E).bytes = t.bytes
        · have HY1 := hid (HY.out E ⟨HOK.out, hb⟩)
          rw [hb] at KB1
          clear hb
          go_region_held3 (fun w' => w'.cell? ⟨g2, i * 4, none⟩ = some (.int .i64 E.sch) ∧ w'.cell? ⟨g2, i * 4 + 1, none⟩ = some (str E.name) ∧ w'.cell? ⟨g2, i * 4 + 2, none⟩ = some (.int .u64 (E.node : Int)) ∧ w'.cell? ⟨g2, i * 4 + 3, none⟩ = some (.int .u64 (E.svc : Int)) ∧ w'.cell? ⟨w.heap.size, 0, none⟩ = some (.int .i64 t.kind) ∧ w'.cell? ⟨w.heap.size, 1, none⟩ = some (.int .u64 (t.n : Int)) ∧ w'.cell? ⟨w.heap.size, 2, none⟩ = some (str t.s) ∧ w'.cell? ⟨w.heap.size, 3, none⟩ = some (.slice A t.k c) ∧ w'.cell? ⟨w.heap.size, 4, none⟩ = some (.bool t.op)) (go_keep)
            (first
              | (go_at_call 50; refine (Ret.laterW (by first | exact Later.h _ | exact (Later.h _).drew) (KR1.out _)).mono ?_; rintro x _ ⟨rfl, ez, rfl⟩)
              | (go_at_call 58; refine (KI1.out _).mono ?_; rintro x w3 ⟨B, rfl, hb3, hi3⟩; have hi3 := IsL.weak (R := fun _ => True) (fun _ _ _ => trivial) _ hi3; obtain ⟨ez, rfl⟩ : ∃ ez : Later w6, w3 = ez.x := ⟨⟨w3, Mod.trans (Later.h _) hb3⟩, rfl⟩)
              | (go_at_call 57; (with_reducible refine (KT.out _ (HXL.out _)).mono ?_); rintro x w4 ⟨rfl, hb4⟩; (try have hi3 := IsL.ext hi3 hb4); obtain ⟨ez, rfl⟩ : ∃ ez : Later w6, w4 = ez.x := ⟨⟨w4, Mod.trans (Later.h _) hb4⟩, rfl⟩)
              | (go_at_call 57; (with_reducible refine (KB1.out _ _ hi3).mono ?_); rintro x w4 ⟨rfl, hb4⟩; obtain ⟨ez, rfl⟩ : ∃ ez : Later w6, w4 = ez.x := ⟨⟨w4, Mod.trans (Later.h _) hb4⟩, rfl⟩))
          all_goals clear cx0 cx1 cx2 cx3 cx4
          have q0 : ∀ e : Later w6, e.x.cell? ⟨w.heap.size + 1, 0, none⟩ = some (.int .i64 0) := HQ6.out.cellL 0 rfl
          have q1 : ∀ e : Later w6, e.x.cell? ⟨w.heap.size + 1, 1, none⟩ = some (str []) := HQ6.out.cellL 1 rfl
          have q2 : ∀ e : Later w6, e.x.cell? ⟨w.heap.size + 1, 2, none⟩ = some (.int .u64 0) := HQ6.out.cellL 2 rfl
          have q3 : ∀ e : Later w6, e.x.cell? ⟨w.heap.size + 1, 3, none⟩ = some (.int .u64 0) := HQ6.out.cellL 3 rfl
          have fr : ∀ (e : Later w6) (j : Nat), e.x.frozen? ⟨w.heap.size + 1, j, none⟩ = false := fun e j => (HQ6.out.later e).frozen j
          all_goals go_wp2_with fail
          all_goals clear q0 q1 q2 q3 fr
          all_goals obtain ⟨d0, d1, d2, d3⟩ := cells4 (set4_blk (e0 := zeroE) (e := E) (HQ6.out.later ez))
          all_goals show bodyPost _ _ _ _ _ (set4 ez.x (w.heap.size + 1) E)
          all_goals refine bodyPost_ret (v := .tuple #[EV.v E, .int .i64 0]) (by simp [results, Try.results61, go_sem, d0, d1, d2, d3]) rfl (HY1.out _ _ (Ret.mk rfl (set4_mod (HE6.out.trans ez.h) (by omega))))
        · have b1 : ((eidT E).bytes == t.bytes) = false := by simpa using hb
          have b2 : ((eidT E).bytes = t.bytes) = False := by simpa using hb
          have HN2 := HNX.out (fun h => hb h.2)
          clear hb
          go_region_held3 (fun w' => w'.cell? ⟨g2, i * 4, none⟩ = some (.int .i64 E.sch) ∧ w'.cell? ⟨g2, i * 4 + 1, none⟩ = some (str E.name) ∧ w'.cell? ⟨g2, i * 4 + 2, none⟩ = some (.int .u64 (E.node : Int)) ∧ w'.cell? ⟨g2, i * 4 + 3, none⟩ = some (.int .u64 (E.svc : Int)) ∧ w'.cell? ⟨w.heap.size, 0, none⟩ = some (.int .i64 t.kind) ∧ w'.cell? ⟨w.heap.size, 1, none⟩ = some (.int .u64 (t.n : Int)) ∧ w'.cell? ⟨w.heap.size, 2, none⟩ = some (str t.s) ∧ w'.cell? ⟨w.heap.size, 3, none⟩ = some (.slice A t.k c) ∧ w'.cell? ⟨w.heap.size, 4, none⟩ = some (.bool t.op)) (go_keep)
            (first
              | (go_at_call 50; refine (Ret.laterW (by first | exact Later.h _ | exact (Later.h _).drew) (KR1.out _)).mono ?_; rintro x _ ⟨rfl, ez, rfl⟩)
              | (go_at_call 58; refine (KI1.out _).mono ?_; rintro x w3 ⟨B, rfl, hb3, hi3⟩; have hi3 := IsL.weak (R := fun _ => True) (fun _ _ _ => trivial) _ hi3; obtain ⟨ez, rfl⟩ : ∃ ez : Later w6, w3 = ez.x := ⟨⟨w3, Mod.trans (Later.h _) hb3⟩, rfl⟩)
              | (go_at_call 57; (with_reducible refine (KT.out _ (HXL.out _)).mono ?_); rintro x w4 ⟨rfl, hb4⟩; (try have hi3 := IsL.ext hi3 hb4); obtain ⟨ez, rfl⟩ : ∃ ez : Later w6, w4 = ez.x := ⟨⟨w4, Mod.trans (Later.h _) hb4⟩, rfl⟩)
              | (go_at_call 57; (with_reducible refine (KB1.out _ _ hi3).mono ?_); rintro x w4 ⟨rfl, hb4⟩; obtain ⟨ez, rfl⟩ : ∃ ez : Later w6, w4 = ez.x := ⟨⟨w4, Mod.trans (Later.h _) hb4⟩, rfl⟩))
          all_goals go_wp2_with fail
          all_goals go_roundw
          all_goals first | (have := HI.out; simp [intOf]; omega) | exact ⟨i + 1, by go_num, HN2, ez, rfl⟩ | ((repeat apply Exists.intro); exact ⟨⟨i + 1, by go_num, HN2, ez, rfl⟩, rfl⟩)
      · have hok2 : E.ok = false := by simpa using hok
        rw [hok2] at KR1
        have HN2 := HNX.out (fun h => hok h.1)
        clear hok hok2
        refine wp_region_later (by kernel_rfl) (by kernel_rfl) ?_
        repeat (go_big_quiet_step ((go_at_call 50; exact Ret.later (KR1.out _))))
        refine wpQuiet_nil ?_
        rintro _ ⟨e2, rfl⟩
        go_wp2_with fail
        go_roundw
        case rel => exact ⟨i + 1, by go_num, HN2, e2, rfl⟩
        case measure => have := HI.out; simp [intOf]; omega
    · obtain rfl : i = 3 := by have := hi.out.1; omega
      have HB : Hid (ofB t = false) := HTR.out _ _ _ rfl rfl rfl (hi.out.2 0 _ (by omega) rfl) (hi.out.2 1 _ (by omega) rfl) (hi.out.2 2 _ (by omega) rfl)
      have q0 : ∀ e : Later w6, e.x.cell? ⟨w.heap.size + 1, 0, none⟩ = some (.int .i64 0) := HQ6.out.cellL 0 rfl
      have q1 : ∀ e : Later w6, e.x.cell? ⟨w.heap.size + 1, 1, none⟩ = some (str []) := HQ6.out.cellL 1 rfl
      have q2 : ∀ e : Later w6, e.x.cell? ⟨w.heap.size + 1, 2, none⟩ = some (.int .u64 0) := HQ6.out.cellL 2 rfl
      have q3 : ∀ e : Later w6, e.x.cell? ⟨w.heap.size + 1, 3, none⟩ = some (.int .u64 0) := HQ6.out.cellL 3 rfl
      have fr : ∀ (e : Later w6) (j : Nat), e.x.frozen? ⟨w.heap.size + 1, j, none⟩ = false := fun e j => (HQ6.out.later e).frozen j
      clear cx0 cx1 cx2 cx3 cx4
      go_wp2_with fail
      clear q0 q1 q2 q3 fr
      obtain ⟨d0, d1, d2, d3⟩ := cells4 (set4_blk (e0 := zeroE) (e := zeroE) (HQ6.out.later e))
      show bodyPost _ _ _ _ _ (set4 e.x (w.heap.size + 1) zeroE)
      refine bodyPost_ret (v := .tuple #[EV.v zeroE, .int .i64 2]) (by simp [results, Try.results61, go_sem, d0, d1, d2, d3]) rfl (OfPost.no HB.out (Ret.mk rfl (set4_mod (HE6.out.trans e.h) (by omega))))
set_option maxRecDepth 20000 in
set_option maxHeartbeats 3200000 in
theorem of_two (kind : Int) (n : Nat) (s : List UInt8) (op : Bool) (ch : Nat → T) (hok : (T.mk kind n s op 2 ch).ok) (hr : (T.mk kind n s op 2 ch).right 8 = true) (hs : (T.mk kind n s op 2 ch).size ≤ 100000) (hk1 : (ch 1).k ≠ 2) (A : Option Addr) (c : Nat) (w : World) (h : IsL w (fun _ => True) (T.mk kind n s op 2 ch) A) : Calls Try.prog 61 #[itemV (T.mk kind n s op 2 ch) A c] w (OfPost (T.mk kind n s op 2 ch) w) := by
  obtain ⟨b, o, ac, hA, hb, _, hac⟩ := h.rows (by omega)
  have HA1 := hid (hac 1 (by omega)).1
  obtain ⟨t, ht⟩ : ∃ t, t = T.mk kind n s op 2 ch := ⟨_, rfl⟩
  have hk : t.k = 2 := by rw [ht]; rfl
  have hch : t.ch = ch := by rw [ht]; rfl
  rw [← ht] at hok hr hs h
  rw [← ht]
  have HXA : Hid (A = some ⟨b, o, none⟩ ∧ t.k = 2) := ⟨hA, hk⟩
  have HTR : Hid (∀ e0 e1 e2 : EV, e0 = noneE → e1 = ⟨1, (ch 1).s, 0, 0⟩ → ¬ isPrev t.bytes e0 → ¬ isPrev t.bytes e1 → ofB t = false) := fun e0 e1 e2 h0 h1 g0 g1 => of_tries hr hok (by rw [← h0]; exact g0) (by rw [hch, ← h1]; exact g1) (by rw [hch]; intro hk; exact absurd hk hk1)
  have HY : Hid (∀ E, isPrev t.bytes E → ∀ w' e, Ret (.tuple #[E.v, .int .i64 0]) w e w' → OfPost t w e w') := fun E hE w' e hR => OfPost.yes hr hok hE hR
  have HPL := hid (T.plain_of hr)
  have KB : Hid (∀ (E : EV), E.ok = true → ∀ B W, IsL W (fun _ => True) (eidT E) B → Calls Try.prog 57 #[itemV (eidT E) B 2] W (Ret (str (eidT E).bytes) W)) := fun E hE B W hW => rBytesI_any _ (eidT_ok hE).1 (eidT_ok hE).2.2.1 (eidT_ok hE).2.2.2 B 2 W hW
  have KT : Hid (∀ W, IsL W (fun _ => True) t A → Calls Try.prog 57 #[itemV t A c] W (Ret (str t.bytes) W)) := fun W hW => rBytesI_any t hok HPL.out hs A c W hW
  have KR := hid (fun E W => r10_any E W)
  have KI := hid (fun (E : EV) (hE : E.ok = true) W => r10Item_ok E hE W)
  have K1 := hid (fun W hW => rRight_any t hok A c W hW)
  have H := hid h
  have HE := hid (((Mod.refl [] w).alloc (.cells (itemC t A c) 38)).alloc (.cells #[.int .i64 0, .string ⟨#[]⟩, .int .u64 0, .int .u64 0] 26))
  have HX := hid ((Blk.new w 38 (itemC t A c)).alloc (.cells #[.int .i64 0, .string ⟨#[]⟩, .int .u64 0, .int .u64 0] 26))
  have HQ := hid (Blk.new' (w.alloc (.cells (itemC t A c) 38)) 26 zeroE.c (N := w.heap.size + 1) (by simp))
  rw [hr] at K1
  have n1 : (((ch 1).k : Int) == 2) = false := by simp; omega
  have n2 : (((ch 1).k : Int) = 2) = False := by simp; omega
  clear hr hok h hs HPL hac hA hk hch ht hk1
  obtain ⟨i0, hi0, hz0, hz1, hz2⟩ := info_parts infoEID
  have HINF := hid (And.intro hi0 (And.intro hz0 (And.intro hz1 hz2)))
  clear hi0 hz0 hz1 hz2
  go_enter Try.func61, Try.ntmps61
  go_wp2_with fail
  refine (K1.out _ (H.out.ext HE.out)).mono ?_
  rintro e1 w1 ⟨rfl, hb1⟩
  have HE1 := hid (HE.out.trans hb1)
  have HX1 := hid (HX.out.ext hb1)
  have HQ1 := hid (HQ.out.ext hb1)
  clear hb1
  have x3 : w1.cell? ⟨w.heap.size, 3, none⟩ = some (.slice (some ⟨b, o, none⟩) 2 c) := by rw [← HXA.out.1, ← HXA.out.2]; exact HX1.out.cell 3
  obtain ⟨p0, p1, p2, p3, p4⟩ : At5 w1 b (o + 5) (ch 1) (ac 1).1 (ac 1).2 := by have := At5.mod HA1.out HE1.out hb (by simp); rw [show o + 1 * 5 = o + 5 by omega] at this; exact this
  clear HA1
  go_upto_region 4 with fail
  clear p0 p1 p2 p3 p4 x3
  have HX2 := hid (HX1.out.alloc (.cells #[.int .i64 (ch 1).kind, .int .u64 ((ch 1).n : Int), str (ch 1).s, .slice (ac 1).1 (ch 1).k (ac 1).2, .bool (ch 1).op] 38))
  have HQ2 := hid (HQ1.out.alloc (.cells #[.int .i64 (ch 1).kind, .int .u64 ((ch 1).n : Int), str (ch 1).s, .slice (ac 1).1 (ch 1).k (ac 1).2, .bool (ch 1).op] 38))
  have HE2 := hid (HE1.out.alloc (.cells #[.int .i64 (ch 1).kind, .int .u64 ((ch 1).n : Int), str (ch 1).s, .slice (ac 1).1 (ch 1).k (ac 1).2, .bool (ch 1).op] 38))
  have HY2 := hid (Blk.new w1 38 #[.int .i64 (ch 1).kind, .int .u64 ((ch 1).n : Int), str (ch 1).s, .slice (ac 1).1 (ch 1).k (ac 1).2, .bool (ch 1).op])
  have HN : Hid (w.heap.size + 2 ≤ w1.heap.size) := Nat.succ_le_of_lt HQ1.out.lt
  have HS2 : Hid ((w1.alloc (.cells #[.int .i64 (ch 1).kind, .int .u64 ((ch 1).n : Int), str (ch 1).s, .slice (ac 1).1 (ch 1).k (ac 1).2, .bool (ch 1).op] 38)).heap.size = w1.heap.size + 1) := hid (by simp)
  generalize w1.alloc (.cells #[.int .i64 (ch 1).kind, .int .u64 ((ch 1).n : Int), str (ch 1).s, .slice (ac 1).1 (ch 1).k (ac 1).2, .bool (ch 1).op] 38) = W2 at *
  have y2 : W2.cell? ⟨w1.heap.size, 2, none⟩ = some (str (ch 1).s) := HY2.out.cell 2
  have y3 : W2.cell? ⟨w1.heap.size, 3, none⟩ = some (.slice (ac 1).1 (ch 1).k (ac 1).2) := HY2.out.cell 3
  clear HE HX HQ HX1 HQ1 HE1
  obtain ⟨hi, hz0, hz1, hz2⟩ := HINF.out
  go_upto_region 6 with (at_builtin; refine wpList_append_lies _ rfl _ _ 143 rfl W2.heap.size 26 i0 _ 4 40 Try.underlying143 hi hz0 hz1 hz2 rfl (by decide) _ 0 [] (by rfl) (World.ownsRow_nil _ _ _ _) ⟨W2.heap.size, 0, none⟩ 2 2 (flatE [noneE, ⟨1, (ch 1).s, 0, 0⟩]) (by rfl) rfl (World.news_of_block (heap_alloc_new W2 _)) (flatE_one _) (by decide) (by decide) (by decide) (by simp) (W2.heap.size + 1) (by simp) ?_; intro g cap w5 hown hgrow hat hlt)
  have hg : W2.heap.size + 1 = g := by
    rcases hat with h | h
    · simp [Value.ownBlock] at h
    · exact h.symm
  have hE5 : Ext w w5 := Mod.grown (HE2.out.alloc _) hgrow (fun k hk => by simp [Value.ownBlock] at hk)
  have HE5 := hid hE5
  have HX5 : Hid (Blk w5 w.heap.size 38 (itemC t A c)) := (HX2.out.alloc _).mod (S := []) (Mod.grown (Mod.refl _ _) hgrow (fun k hk => by simp [Value.ownBlock] at hk)) (by simp)
  have HQ5 : Hid (Blk w5 (w.heap.size + 1) 26 zeroE.c) := (HQ2.out.alloc _).mod (S := []) (Mod.grown (Mod.refl _ _) hgrow (fun k hk => by simp [Value.ownBlock] at hk)) (by simp)
  have HY5 : Hid (Blk w5 w1.heap.size 38 #[.int .i64 (ch 1).kind, .int .u64 ((ch 1).n : Int), str (ch 1).s, .slice (ac 1).1 (ch 1).k (ac 1).2, .bool (ch 1).op]) := (HY2.out.alloc _).mod (S := []) (Mod.grown (Mod.refl _ _) hgrow (fun k hk => by simp [Value.ownBlock] at hk)) (by simp)
  simp only [Nat.zero_add, List.nil_append] at hown
  have HO5 := hid hown
  have HG5 : Hid (w1.heap.size + 2 = g ∧ g < w5.heap.size ∧ W2.heap.size = w1.heap.size + 1) := ⟨by have := HS2.out; omega, hlt, HS2.out⟩
  clear hown hgrow hat hlt hE5 hg HX2 HQ2 HE2 HY2 y2 y3 HS2
  have y3 : w5.cell? ⟨w1.heap.size, 3, none⟩ = some (.slice (ac 1).1 (ch 1).k (ac 1).2) := HY5.out.cell 3
  go_wp2_with fail
  clear y3 HY5
  have cx0 : ∀ e : Later w5, e.x.cell? ⟨w.heap.size, 0, none⟩ = some (.int .i64 t.kind) := HX5.out.cellL 0 rfl
  have cx1 : ∀ e : Later w5, e.x.cell? ⟨w.heap.size, 1, none⟩ = some (.int .u64 (t.n : Int)) := HX5.out.cellL 1 rfl
  have cx2 : ∀ e : Later w5, e.x.cell? ⟨w.heap.size, 2, none⟩ = some (str t.s) := HX5.out.cellL 2 rfl
  have cx3 : ∀ e : Later w5, e.x.cell? ⟨w.heap.size, 3, none⟩ = some (.slice A t.k c) := HX5.out.cellL 3 rfl
  have cx4 : ∀ e : Later w5, e.x.cell? ⟨w.heap.size, 4, none⟩ = some (.bool t.op) := HX5.out.cellL 4 rfl
  have HXL : Hid (∀ e : Later w5, IsL e.x (fun _ => True) t A) := fun e => H.out.ext (HE5.out.trans e.h)
  clear hi hz0 hz1 hz2 HINF
  obtain ⟨e0, he0⟩ := Later.self w5
  go_loopw [6] (fun s6 wr => ∃ i : Nat, s6 = .int .i64 (i : Int) ∧ Hid (i ≤ 2 ∧ ∀ (j : Nat) (E : EV), j < i → [noneE, ⟨1, (ch 1).s, 0, 0⟩][j]? = some E → ¬ isPrev t.bytes E) ∧ ∃ e : Later w5, wr = e.x) (fun s6 _ => 2 - (intOf s6).toNat)
  case atStart => exact ⟨0, rfl, (show Hid _ from ⟨by omega, fun j E hj => by omega⟩), e0, he0⟩
  case round =>
    clear he0 e0
    obtain ⟨i, rfl, hi, e, rfl⟩ := hrel
    have i0 : (0 : Int) ≤ (i : Int) := by omega
    have i1 : (i : Int) ≤ 2 := by have := hi.out.1; omega
    by_cases hlt : i < 2
    · obtain ⟨E, hE⟩ : ∃ E, [noneE, ⟨1, (ch 1).s, 0, 0⟩][i]? = some E := ⟨_, List.getElem?_eq_getElem hlt⟩
      obtain ⟨g0, g1, g2', g3⟩ := flatE_get [noneE, ⟨1, (ch 1).s, 0, 0⟩] i E hE
      have r0 : ∀ e : Later w5, e.x.cell? ⟨g, i * 4, none⟩ = some (.int .i64 E.sch) := cellL (own_cells HO5.out g0)
      have r1 : ∀ e : Later w5, e.x.cell? ⟨g, i * 4 + 1, none⟩ = some (str E.name) := cellL (own_cells HO5.out g1)
      have r2 : ∀ e : Later w5, e.x.cell? ⟨g, i * 4 + 2, none⟩ = some (.int .u64 (E.node : Int)) := cellL (own_cells HO5.out g2')
      have r3 : ∀ e : Later w5, e.x.cell? ⟨g, i * 4 + 3, none⟩ = some (.int .u64 (E.svc : Int)) := cellL (own_cells HO5.out g3)
      have tc : decide ((i : Int) < 2) = true := by simp; omega
      have tc2 : ((i : Int) < 2) = True := by simp; omega
      have HI := hid hlt
      have KR1 := hid (fun W => KR.out E W)
      have HEE := hid hE
      clear g0 g1 g2' g3 hlt hE
      have HNX : ¬ isPrev t.bytes E → Hid (i + 1 ≤ 2 ∧ ∀ (j : Nat) (E : EV), j < i + 1 → [noneE, ⟨1, (ch 1).s, 0, 0⟩][j]? = some E → ¬ isPrev t.bytes E) := fun hn => ⟨HI.out, fun j F hj hF => by
        by_cases h : j = i
        · subst h; rw [HEE.out] at hF; simp only [Option.some.injEq] at hF; subst hF; exact hn
        · exact hi.out.2 j F (by omega) hF⟩
      have HNX := hid HNX
      go_wp2_with fail
      by_cases hok : E.ok = true
      · have KI1 := hid (KI.out E hok)
        have KB1 := hid (KB.out E hok)
        have HOK := hid hok
        rw [hok] at KR1
        clear hok
        by_cases hb : (eidT E).bytes = t.bytes
        · have HY1 := hid (HY.out E ⟨HOK.out, hb⟩)
          rw [hb] at KB1
          clear hb
          go_region_held3 (fun w' => w'.cell? ⟨g, i * 4, none⟩ = some (.int .i64 E.sch) ∧ w'.cell? ⟨g, i * 4 + 1, none⟩ = some (str E.name) ∧ w'.cell? ⟨g, i * 4 + 2, none⟩ = some (.int .u64 (E.node : Int)) ∧ w'.cell? ⟨g, i * 4 + 3, none⟩ = some (.int .u64 (E.svc : Int)) ∧ w'.cell? ⟨w.heap.size, 0, none⟩ = some (.int .i64 t.kind) ∧ w'.cell? ⟨w.heap.size, 1, none⟩ = some (.int .u64 (t.n : Int)) ∧ w'.cell? ⟨w.heap.size, 2, none⟩ = some (str t.s) ∧ w'.cell? ⟨w.heap.size, 3, none⟩ = some (.slice A t.k c) ∧ w'.cell? ⟨w.heap.size, 4, none⟩ = some (.bool t.op)) (go_keep)
            (first
              | (go_at_call 50; refine (Ret.laterW (by first | exact Later.h _ | exact (Later.h _).drew) (KR1.out _)).mono ?_; rintro x _ ⟨rfl, ez, rfl⟩)
              | (go_at_call 58; refine (KI1.out _).mono ?_; rintro x w3 ⟨B, rfl, hb3, hi3⟩; have hi3 := IsL.weak (R := fun _ => True) (fun _ _ _ => trivial) _ hi3; obtain ⟨ez, rfl⟩ : ∃ ez : Later w5, w3 = ez.x := ⟨⟨w3, Mod.trans (Later.h _) hb3⟩, rfl⟩)
              | (go_at_call 57; (with_reducible refine (KT.out _ (HXL.out _)).mono ?_); rintro x w4 ⟨rfl, hb4⟩; (try have hi3 := IsL.ext hi3 hb4); obtain ⟨ez, rfl⟩ : ∃ ez : Later w5, w4 = ez.x := ⟨⟨w4, Mod.trans (Later.h _) hb4⟩, rfl⟩)
              | (go_at_call 57; (with_reducible refine (KB1.out _ _ hi3).mono ?_); rintro x w4 ⟨rfl, hb4⟩; obtain ⟨ez, rfl⟩ : ∃ ez : Later w5, w4 = ez.x := ⟨⟨w4, Mod.trans (Later.h _) hb4⟩, rfl⟩))
          all_goals clear cx0 cx1 cx2 cx3 cx4
          have q0 : ∀ e : Later w5, e.x.cell? ⟨w.heap.size + 1, 0, none⟩ = some (.int .i64 0) := HQ5.out.cellL 0 rfl
          have q1 : ∀ e : Later w5, e.x.cell? ⟨w.heap.size + 1, 1, none⟩ = some (str []) := HQ5.out.cellL 1 rfl
          have q2 : ∀ e : Later w5, e.x.cell? ⟨w.heap.size + 1, 2, none⟩ = some (.int .u64 0) := HQ5.out.cellL 2 rfl
          have q3 : ∀ e : Later w5, e.x.cell? ⟨w.heap.size + 1, 3, none⟩ = some (.int .u64 0) := HQ5.out.cellL 3 rfl
          have fr : ∀ (e : Later w5) (j : Nat), e.x.frozen? ⟨w.heap.size + 1, j, none⟩ = false := fun e j => (HQ5.out.later e).frozen j
          all_goals go_wp2_with fail
          all_goals clear q0 q1 q2 q3 fr
          all_goals obtain ⟨d0, d1, d2, d3⟩ := cells4 (set4_blk (e0 := zeroE) (e := E) (HQ5.out.later ez))
          all_goals show bodyPost _ _ _ _ _ (set4 ez.x (w.heap.size + 1) E)
          all_goals refine bodyPost_ret (v := .tuple #[EV.v E, .int .i64 0]) (by simp [results, Try.results61, go_sem, d0, d1, d2, d3]) rfl (HY1.out _ _ (Ret.mk rfl (set4_mod (HE5.out.trans ez.h) (by omega))))
        · have b1 : ((eidT E).bytes == t.bytes) = false := by simpa using hb
          have b2 : ((eidT E).bytes = t.bytes) = False := by simpa using hb
          have HN2 := HNX.out (fun h => hb h.2)
          clear hb
          go_region_held3 (fun w' => w'.cell? ⟨g, i * 4, none⟩ = some (.int .i64 E.sch) ∧ w'.cell? ⟨g, i * 4 + 1, none⟩ = some (str E.name) ∧ w'.cell? ⟨g, i * 4 + 2, none⟩ = some (.int .u64 (E.node : Int)) ∧ w'.cell? ⟨g, i * 4 + 3, none⟩ = some (.int .u64 (E.svc : Int)) ∧ w'.cell? ⟨w.heap.size, 0, none⟩ = some (.int .i64 t.kind) ∧ w'.cell? ⟨w.heap.size, 1, none⟩ = some (.int .u64 (t.n : Int)) ∧ w'.cell? ⟨w.heap.size, 2, none⟩ = some (str t.s) ∧ w'.cell? ⟨w.heap.size, 3, none⟩ = some (.slice A t.k c) ∧ w'.cell? ⟨w.heap.size, 4, none⟩ = some (.bool t.op)) (go_keep)
            (first
              | (go_at_call 50; refine (Ret.laterW (by first | exact Later.h _ | exact (Later.h _).drew) (KR1.out _)).mono ?_; rintro x _ ⟨rfl, ez, rfl⟩)
              | (go_at_call 58; refine (KI1.out _).mono ?_; rintro x w3 ⟨B, rfl, hb3, hi3⟩; have hi3 := IsL.weak (R := fun _ => True) (fun _ _ _ => trivial) _ hi3; obtain ⟨ez, rfl⟩ : ∃ ez : Later w5, w3 = ez.x := ⟨⟨w3, Mod.trans (Later.h _) hb3⟩, rfl⟩)
              | (go_at_call 57; (with_reducible refine (KT.out _ (HXL.out _)).mono ?_); rintro x w4 ⟨rfl, hb4⟩; (try have hi3 := IsL.ext hi3 hb4); obtain ⟨ez, rfl⟩ : ∃ ez : Later w5, w4 = ez.x := ⟨⟨w4, Mod.trans (Later.h _) hb4⟩, rfl⟩)
              | (go_at_call 57; (with_reducible refine (KB1.out _ _ hi3).mono ?_); rintro x w4 ⟨rfl, hb4⟩; obtain ⟨ez, rfl⟩ : ∃ ez : Later w5, w4 = ez.x := ⟨⟨w4, Mod.trans (Later.h _) hb4⟩, rfl⟩))
          all_goals go_wp2_with fail
          all_goals go_roundw
          all_goals first | (have := HI.out; simp [intOf]; omega) | exact ⟨i + 1, by go_num, HN2, ez, rfl⟩ | ((repeat apply Exists.intro); exact ⟨⟨i + 1, by go_num, HN2, ez, rfl⟩, rfl⟩)
      · have hok2 : E.ok = false := by simpa using hok
        rw [hok2] at KR1
        have HN2 := HNX.out (fun h => hok h.1)
        clear hok hok2
        refine wp_region_later (by kernel_rfl) (by kernel_rfl) ?_
        repeat (go_big_quiet_step ((go_at_call 50; exact Ret.later (KR1.out _))))
        refine wpQuiet_nil ?_
        rintro _ ⟨e2, rfl⟩
        go_wp2_with fail
        go_roundw
        case rel => exact ⟨i + 1, by go_num, HN2, e2, rfl⟩
        case measure => have := HI.out; simp [intOf]; omega
    · obtain rfl : i = 2 := by have := hi.out.1; omega
      have HB : Hid (ofB t = false) := HTR.out _ _ noneE rfl rfl (hi.out.2 0 _ (by omega) rfl) (hi.out.2 1 _ (by omega) rfl)
      have q0 : ∀ e : Later w5, e.x.cell? ⟨w.heap.size + 1, 0, none⟩ = some (.int .i64 0) := HQ5.out.cellL 0 rfl
      have q1 : ∀ e : Later w5, e.x.cell? ⟨w.heap.size + 1, 1, none⟩ = some (str []) := HQ5.out.cellL 1 rfl
      have q2 : ∀ e : Later w5, e.x.cell? ⟨w.heap.size + 1, 2, none⟩ = some (.int .u64 0) := HQ5.out.cellL 2 rfl
      have q3 : ∀ e : Later w5, e.x.cell? ⟨w.heap.size + 1, 3, none⟩ = some (.int .u64 0) := HQ5.out.cellL 3 rfl
      have fr : ∀ (e : Later w5) (j : Nat), e.x.frozen? ⟨w.heap.size + 1, j, none⟩ = false := fun e j => (HQ5.out.later e).frozen j
      clear cx0 cx1 cx2 cx3 cx4
      go_wp2_with fail
      clear q0 q1 q2 q3 fr
      obtain ⟨d0, d1, d2, d3⟩ := cells4 (set4_blk (e0 := zeroE) (e := zeroE) (HQ5.out.later e))
      show bodyPost _ _ _ _ _ (set4 e.x (w.heap.size + 1) zeroE)
      refine bodyPost_ret (v := .tuple #[EV.v zeroE, .int .i64 2]) (by simp [results, Try.results61, go_sem, d0, d1, d2, d3]) rfl (OfPost.no HB.out (Ret.mk rfl (set4_mod (HE5.out.trans e.h) (by omega))))
end Go.Proofs.Ytogjghmoankleaa


namespace Go.Proofs.Ytogjghmoankleaa
open Go.RowKit
set_option linter.unusedVariables false
set_option linter.unusedSimpArgs false

theorem of_any (t : T) (hok : t.ok) (hs : t.size ≤ 100000) (A : Option Addr) (c : Nat) (w : World) (h : IsL w (fun _ => True) t A) : Calls Try.prog 61 #[itemV t A c] w (OfPost t w) := by
  by_cases hr : t.right 8 = true
  · by_cases hk : t.k = 2
    · cases t with
      | nil => exact absurd hok T.not_nil
      | mk kind n s op k ch =>
        have hk : k = 2 := hk
        subst hk
        by_cases hk1 : (ch 1).k = 2
        · exact of_three kind n s op ch hok hr hs hk1 A c w h
        · exact of_two kind n s op ch hok hr hs hk1 A c w h
    · exact of_bad2 t hok hr hk A c w h
  · exact of_bad1 t hok (by simpa using hr) A c w h

def QPrev (l : List UInt8) (w : World) (e : Ending) (w' : World) : Prop := Ret (.tuple #[((prevO l).getD zeroE).v, .bool (prevO l).isSome]) w e w'
theorem QPrev.none {l : List UInt8} {w w' : World} {e : Ending} (hp : prevO l = none) (h : Ret (.tuple #[zeroE.v, .bool false]) w e w') : QPrev l w e w' := by unfold QPrev; rw [hp]; exact h
theorem QPrev.some {l : List UInt8} {w w' : World} {e : Ending} {E : EV} (hp : prevO l = some E) (h : Ret (.tuple #[E.v, .bool true]) w e w') : QPrev l w e w' := by unfold QPrev; rw [hp]; exact h

end Go.Proofs.Ytogjghmoankleaa


namespace Go.Proofs.Ytogjghmoankleaa
open Go.RowKit
set_option linter.unusedVariables false
set_option linter.unusedSimpArgs false

def zeroR : RV := ⟨false, false, 0, ⟨zeroE, 0, 0, false, 0, 0⟩⟩
noncomputable def rparseV (l : List UInt8) : Value := .tuple #[repV ((repO l).getD zeroR), .int .i64 (if (repO l).isSome then 0 else 2)]
theorem rparse_none {l : List UInt8} (h : repO l = none) : rparseV l = .tuple #[repV zeroR, .int .i64 2] := by unfold rparseV; rw [h]; rfl
theorem rparse_some {l : List UInt8} {r : RV} (h : repO l = some r) : rparseV l = .tuple #[repV r, .int .i64 0] := by unfold rparseV; rw [h]; rfl
theorem parse_bad {l : List UInt8} (hl : l.length ≤ 1073741824) (h : (parseR l).2 ≠ 0) (w : World) : Calls Try.prog 34 #[str l] w (Ret (.tuple #[itemV nulT none 0, .int .i64 ((parseR l).1 : Int), .int .i64 (parseR l).2]) w) :=
  (parse_any l hl w).mono fun e w' ⟨hb, hh⟩ => by
    rcases hh with ⟨_, rfl⟩ | ⟨h0, _⟩
    · exact Ret.mk rfl hb
    · exact absurd h0 h
theorem parse_good {l : List UInt8} (hl : l.length ≤ 1073741824) (h : (parseR l).2 = 0) (w : World) : Calls Try.prog 34 #[str l] w (fun e w' => ∃ t A c, e = .returned (.tuple #[itemV t A c, .int .i64 (-1), .int .i64 0]) ∧ Ext w w' ∧ t.right 8 = true ∧ t.ok ∧ t.bytes = l ∧ IsL w' (fun _ => True) t A) :=
  (parse_any l hl w).mono fun e w' ⟨hb, hh⟩ => by
    rcases hh with ⟨h0, _⟩ | ⟨_, t, A, c, rfl, ⟨hr, hok⟩, hbt, hli⟩
    · exact absurd h h0
    · exact ⟨t, A, c, rfl, hb, hr, hok, hbt, hli⟩
theorem rtree (l : List UInt8) (hl : l.length ≤ 1073741824) (w : World) (h0 : (parseR l).2 = 0) : ∃ t : T, t.right 8 = true ∧ t.ok ∧ t.bytes = l := by
  obtain ⟨e, w', fr, h, _⟩ := parse_good hl h0 w []
  obtain ⟨t, A, c, _, _, hr, hok, hbt, _⟩ := h
  exact ⟨t, hr, hok, hbt⟩
set_option maxRecDepth 20000 in
set_option maxHeartbeats 1600000 in
theorem repParse_bad (l : List UInt8) (hl : l.length ≤ 1073741824) (h : (parseR l).2 ≠ 0) (w : World) : Calls Try.prog 27 #[str l] w (Ret (rparseV l) w) := by
  have K := hid (fun W => parse_bad hl h W)
  have HP := hid (rparse_none (repO_bad h))
  have t1a : (((parseR l).2) == (0)) = false := by rw [beq_eq_false_iff_ne]; exact h
  have t1b : (((parseR l).2) = (0)) = False := eq_false (by exact h)
  have t1c : (((parseR l).2) != (0)) = true := by rw [bne_iff_ne]; exact h
  generalize (parseR l).2 = E at *
  generalize ((parseR l).1 : Int) = N at *
  clear h hl
  have HE := hid ((Mod.refl [] w).alloc (.cells #[.bool false, .bool false, .int .i64 0, .int .i64 0, .string ⟨#[]⟩, .int .u64 0, .int .u64 0, .int .u64 0, .int .u64 0, .bool false, .int .u64 0, .int .u64 0] 57))
  have HB0 : Hid (Blk (w.alloc (.cells #[.bool false, .bool false, .int .i64 0, .int .i64 0, .string ⟨#[]⟩, .int .u64 0, .int .u64 0, .int .u64 0, .int .u64 0, .bool false, .int .u64 0, .int .u64 0] 57)) w.heap.size 57 #[.bool false, .bool false, .int .i64 0, .int .i64 0, .string ⟨#[]⟩, .int .u64 0, .int .u64 0, .int .u64 0, .int .u64 0, .bool false, .int .u64 0, .int .u64 0]) := hid (Blk.new w 57 #[.bool false, .bool false, .int .i64 0, .int .i64 0, .string ⟨#[]⟩, .int .u64 0, .int .u64 0, .int .u64 0, .int .u64 0, .bool false, .int .u64 0, .int .u64 0])
  go_enter Try.func27, Try.ntmps27
  go_upto_region 1 with fail
  generalize (w.alloc (.cells #[.bool false, .bool false, .int .i64 0, .int .i64 0, .string ⟨#[]⟩, .int .u64 0, .int .u64 0, .int .u64 0, .int .u64 0, .bool false, .int .u64 0, .int .u64 0] 57)) = V at *
  obtain ⟨e, he⟩ := Later.self V
  rw [he]
  clear he
  go_upto_region 2 with (go_at_call 34; refine (K.out _).mono ?_; rintro x w1 ⟨rfl, hb⟩; have HX := hid hb; clear hb)
  generalize hV1 : World.alloc w1 _ = V1
  have HX1 : Hid (Ext V V1) := hid (by rw [← hV1]; exact (e.h.trans HX.out).alloc _)
  have HB1 := hid (HB0.out.ext HX1.out)
  clear hV1 HX
  go_wp2_with (first | (refine wpList_store_mid rfl 57 _ _ rfl w.heap.size 0 #[.bool false, .bool false, .int .i64 0, .int .i64 0, .string ⟨#[]⟩, .int .u64 0, .int .u64 0, .int .u64 0, .int .u64 0, .bool false, .int .u64 0, .int .u64 0] (by rfl) (by rfl) (HB1.out.there (Nat.le_refl 12)) (by kernel_rfl) (by simp [Value.oneCell']) ?_))
  generalize hZZ : World.setCells _ _ _ _ = ZZ
  have HZB : Hid (Blk ZZ w.heap.size 57 #[.bool false, .bool false, .int .i64 0, .int .i64 0, .string ⟨#[]⟩, .int .u64 0, .int .u64 0, .int .u64 0, .int .u64 0, .bool false, .int .u64 0, .int .u64 0]) := hid (by rw [← hZZ]; exact setCells_all (ds := #[.bool false, .bool false, .int .i64 0, .int .i64 0, .string ⟨#[]⟩, .int .u64 0, .int .u64 0, .int .u64 0, .int .u64 0, .bool false, .int .u64 0, .int .u64 0]) HB1.out rfl)
  have HZM : Hid (Ext w ZZ) := hid (by rw [← hZZ]; exact setCells_mod _ _ (HE.out.trans HX1.out) (.inr (by omega)))
  clear hZZ
  refine bodyPost_ret (results_cell2 rfl _ (by rfl) rfl HZB.out Try.underlying57 rfl (by kernel_rfl)) rfl (Ret.mk (by rw [HP.out]; rfl) HZM.out)
set_option maxRecDepth 20000 in
set_option maxHeartbeats 3200000 in
theorem repParse_good (l : List UInt8) (hl : l.length ≤ 1073741824) (h : (parseR l).2 = 0) (w : World) : Calls Try.prog 27 #[str l] w (Ret (rparseV l) w) := by
  have K := hid (fun W => parse_good hl h W)
  clear h hl
  have HE := hid ((Mod.refl [] w).alloc (.cells #[.bool false, .bool false, .int .i64 0, .int .i64 0, .string ⟨#[]⟩, .int .u64 0, .int .u64 0, .int .u64 0, .int .u64 0, .bool false, .int .u64 0, .int .u64 0] 57))
  have HB0 : Hid (Blk (w.alloc (.cells #[.bool false, .bool false, .int .i64 0, .int .i64 0, .string ⟨#[]⟩, .int .u64 0, .int .u64 0, .int .u64 0, .int .u64 0, .bool false, .int .u64 0, .int .u64 0] 57)) w.heap.size 57 #[.bool false, .bool false, .int .i64 0, .int .i64 0, .string ⟨#[]⟩, .int .u64 0, .int .u64 0, .int .u64 0, .int .u64 0, .bool false, .int .u64 0, .int .u64 0]) := hid (Blk.new w 57 #[.bool false, .bool false, .int .i64 0, .int .i64 0, .string ⟨#[]⟩, .int .u64 0, .int .u64 0, .int .u64 0, .int .u64 0, .bool false, .int .u64 0, .int .u64 0])
  go_enter Try.func27, Try.ntmps27
  go_upto_region 1 with fail
  generalize (w.alloc (.cells #[.bool false, .bool false, .int .i64 0, .int .i64 0, .string ⟨#[]⟩, .int .u64 0, .int .u64 0, .int .u64 0, .int .u64 0, .bool false, .int .u64 0, .int .u64 0] 57)) = V at *
  obtain ⟨e, he⟩ := Later.self V
  rw [he]
  clear he
  go_upto_region 2 with (go_at_call 34; refine (K.out _).mono ?_; rintro x w1 ⟨t, A, c, rfl, hb, hr, hok, hbt, hl⟩; have HX := hid hb; have HR := hid hr; have HOK := hid hok; have HBT := hid hbt; have HL := hid hl; clear hb hr hok hbt hl)
  generalize hV1 : World.alloc w1 _ = V1
  have HX1 : Hid (Ext V V1) := hid (by rw [← hV1]; exact (e.h.trans HX.out).alloc _)
  have HB1 := hid (HB0.out.ext HX1.out)
  have HT1 : Hid (Blk V1 w1.heap.size 38 (itemC t A c)) := hid (by rw [← hV1]; exact Blk.new _ _ _)
  have HL1 : Hid (∀ W, Ext V1 W → IsL W (fun _ => True) t A) := hid (fun W hW => by rw [← hV1] at hW; exact (HL.out.ext ((Mod.refl [] _).alloc _)).ext hW)
  have HE1 := hid (HE.out.trans HX1.out)
  have HTR := hid (repO_tree HR.out HOK.out)
  rw [HBT.out] at HTR
  have KR := hid (fun A c W hW => rread_any t HOK.out A c W hW)
  have KB := hid (fun W => repBuild_any (readRep t) (readRep_wf HOK.out) W)
  have HRB : Hid (repB t = ((readRep t).right && decide ((readRep t).bytes = l))) := hid (by unfold repB; rw [HBT.out])
  clear hV1 HX HB0 HL HE HX1 e HR HOK HBT
  generalize readRep t = r at *
  generalize repB t = g at *
  generalize w1.heap.size = n1 at *
  have HTL : Hid (∀ e : Later V1, Blk e.x n1 38 (itemC t A c)) := hid (fun e => HT1.out.later e)
  obtain ⟨e, he⟩ := Later.self V1
  rw [he]
  clear he
  go_upto_region 4 with fail
  have tk1 : True := trivial
  go_upto_region 5 with (first | (clear tk1; refine wpList_row (by rfl) 38 _ rfl _ rfl (HTL.out _) Try.underlying38 rfl (by kernel_rfl) ?_) | (go_at_call 54; refine (KR.out _ _ _ (HL1.out _ e.h)).mono ?_; rintro x w2 ⟨rfl, hb⟩; have HX := hid (e.h.trans hb); clear hb) | (refine wpList_store_mid rfl 57 _ _ rfl w2.heap.size 0 #[.bool r.here, .bool r.gone, .int .i64 r.reason, .int .i64 r.of.src.sch, str r.of.src.name, .int .u64 (r.of.src.node : Int), .int .u64 (r.of.src.svc : Int), .int .u64 (r.of.t : Int), .int .u64 (r.of.q : Int), .bool r.of.fr, .int .u64 (r.of.o : Int), .int .u64 (r.of.n : Int)] (by rfl) (by rfl) ((Blk.new _ _ _).there (Nat.le_refl 12)) (by kernel_rfl) (by simp [Value.oneCell']) ?_))
  generalize hV2 : World.setCells _ _ _ _ = V2
  have HB2 : Hid (Blk V2 w2.heap.size 57 #[.bool r.here, .bool r.gone, .int .i64 r.reason, .int .i64 r.of.src.sch, str r.of.src.name, .int .u64 (r.of.src.node : Int), .int .u64 (r.of.src.svc : Int), .int .u64 (r.of.t : Int), .int .u64 (r.of.q : Int), .bool r.of.fr, .int .u64 (r.of.o : Int), .int .u64 (r.of.n : Int)]) := hid (by rw [← hV2]; exact setCells_all (ds := #[.bool r.here, .bool r.gone, .int .i64 r.reason, .int .i64 r.of.src.sch, str r.of.src.name, .int .u64 (r.of.src.node : Int), .int .u64 (r.of.src.svc : Int), .int .u64 (r.of.t : Int), .int .u64 (r.of.q : Int), .bool r.of.fr, .int .u64 (r.of.o : Int), .int .u64 (r.of.n : Int)]) (Blk.new _ _ _) rfl)
  have HX2 : Hid (Ext V1 V2) := hid (by rw [← hV2]; exact setCells_mod _ _ (HX.out.alloc _) (.inr HX.out.size))
  have HBR := hid (HB1.out.ext HX2.out)
  have HE2 := hid (HE1.out.trans HX2.out)
  clear hV2 HX HX2 HB1 HT1 HTL HL1 HE1 K KR e
  generalize w2.heap.size = n2 at *
  have HRL : Hid (∀ e : Later V2, Blk e.x n2 57 #[.bool r.here, .bool r.gone, .int .i64 r.reason, .int .i64 r.of.src.sch, str r.of.src.name, .int .u64 (r.of.src.node : Int), .int .u64 (r.of.src.svc : Int), .int .u64 (r.of.t : Int), .int .u64 (r.of.q : Int), .bool r.of.fr, .int .u64 (r.of.o : Int), .int .u64 (r.of.n : Int)]) := hid (fun e => HB2.out.later e)
  obtain ⟨e, he⟩ := Later.self V2
  rw [he]
  clear he
  have tk1 : True := trivial
  cases hr : r.right with
  | false =>
    have KB : Hid (∀ W, Calls Try.prog 25 #[repV r] W (Ret (.tuple #[str [], .int .i64 1]) W)) := hid (fun W => by have := KB.out W; unfold rbuildV at this; rw [hr] at this; exact this)
    rw [hr, Bool.false_and] at HRB
    have HP := hid (rparse_none (HTR.out.trans (by rw [HRB.out]; rfl)))
    clear hr HRB HTR
    go_upto_region 6 with (first | (clear tk1; refine wpList_row (by rfl) 57 _ rfl _ rfl (HRL.out _) Try.underlying57 rfl (by kernel_rfl) ?_) | (go_at_call 25; refine (Ret.later (KB.out _)).mono ?_; rintro x _ ⟨rfl, e, rfl⟩))
    go_wp2_with (first | (refine wpList_store_mid rfl 57 _ _ rfl w.heap.size 0 #[.bool false, .bool false, .int .i64 0, .int .i64 0, .string ⟨#[]⟩, .int .u64 0, .int .u64 0, .int .u64 0, .int .u64 0, .bool false, .int .u64 0, .int .u64 0] (by rfl) (by rfl) ((HBR.out.later e).there (Nat.le_refl 12)) (by kernel_rfl) (by simp [Value.oneCell']) ?_))
    generalize hZZ : World.setCells _ _ _ _ = ZZ
    have HZB : Hid (Blk ZZ w.heap.size 57 #[.bool false, .bool false, .int .i64 0, .int .i64 0, .string ⟨#[]⟩, .int .u64 0, .int .u64 0, .int .u64 0, .int .u64 0, .bool false, .int .u64 0, .int .u64 0]) := hid (by rw [← hZZ]; exact setCells_all (ds := #[.bool false, .bool false, .int .i64 0, .int .i64 0, .string ⟨#[]⟩, .int .u64 0, .int .u64 0, .int .u64 0, .int .u64 0, .bool false, .int .u64 0, .int .u64 0]) (HBR.out.later e) rfl)
    have HZM : Hid (Ext w ZZ) := hid (by rw [← hZZ]; exact setCells_mod _ _ (HE2.out.trans e.h) (.inr (by omega)))
    clear hZZ
    refine bodyPost_ret (results_cell2 rfl _ (by rfl) rfl HZB.out Try.underlying57 rfl (by kernel_rfl)) rfl (Ret.mk (by rw [HP.out]; rfl) HZM.out)
  | true =>
    have KB : Hid (∀ W, Calls Try.prog 25 #[repV r] W (Ret (.tuple #[str r.bytes, .int .i64 0]) W)) := hid (fun W => by have := KB.out W; unfold rbuildV at this; rw [hr] at this; exact this)
    rw [hr, Bool.true_and] at HRB
    clear hr
    generalize r.bytes = B at *
    by_cases hB : B = l
    · rw [decide_eq_true hB] at HRB
      have HP := hid (rparse_some (HTR.out.trans (by rw [HRB.out]; rfl)))
      clear HRB HTR
      subst hB
      go_upto_region 6 with (first | (clear tk1; refine wpList_row (by rfl) 57 _ rfl _ rfl (HRL.out _) Try.underlying57 rfl (by kernel_rfl) ?_) | (go_at_call 25; refine (Ret.later (KB.out _)).mono ?_; rintro x _ ⟨rfl, e, rfl⟩))
      have tk1 : True := trivial
      go_upto_region 8 with fail
      go_wp2_with (first | (clear tk1; refine wpList_row (by rfl) 57 _ rfl _ rfl (HRL.out _) Try.underlying57 rfl (by kernel_rfl) ?_) | (refine wpList_store_mid rfl 57 _ _ rfl w.heap.size 0 #[.bool r.here, .bool r.gone, .int .i64 r.reason, .int .i64 r.of.src.sch, str r.of.src.name, .int .u64 (r.of.src.node : Int), .int .u64 (r.of.src.svc : Int), .int .u64 (r.of.t : Int), .int .u64 (r.of.q : Int), .bool r.of.fr, .int .u64 (r.of.o : Int), .int .u64 (r.of.n : Int)] (by rfl) (by rfl) ((HBR.out.later e).there (Nat.le_refl 12)) (by kernel_rfl) (by simp [Value.oneCell']) ?_))
      generalize hZZ : World.setCells _ _ _ _ = ZZ
      have HZB : Hid (Blk ZZ w.heap.size 57 #[.bool r.here, .bool r.gone, .int .i64 r.reason, .int .i64 r.of.src.sch, str r.of.src.name, .int .u64 (r.of.src.node : Int), .int .u64 (r.of.src.svc : Int), .int .u64 (r.of.t : Int), .int .u64 (r.of.q : Int), .bool r.of.fr, .int .u64 (r.of.o : Int), .int .u64 (r.of.n : Int)]) := hid (by rw [← hZZ]; exact setCells_all (ds := #[.bool r.here, .bool r.gone, .int .i64 r.reason, .int .i64 r.of.src.sch, str r.of.src.name, .int .u64 (r.of.src.node : Int), .int .u64 (r.of.src.svc : Int), .int .u64 (r.of.t : Int), .int .u64 (r.of.q : Int), .bool r.of.fr, .int .u64 (r.of.o : Int), .int .u64 (r.of.n : Int)]) (HBR.out.later e) rfl)
      have HZM : Hid (Ext w ZZ) := hid (by rw [← hZZ]; exact setCells_mod _ _ (HE2.out.trans e.h) (.inr (by omega)))
      clear hZZ
      refine bodyPost_ret (results_cell2 rfl _ (by rfl) rfl HZB.out Try.underlying57 rfl (by kernel_rfl)) rfl (Ret.mk (by rw [HP.out]; rfl) HZM.out)
    · rw [decide_eq_false hB] at HRB
      have HP := hid (rparse_none (HTR.out.trans (by rw [HRB.out]; rfl)))
      clear HRB HTR
      have t1a : ((B) == (l)) = false := by rw [beq_eq_false_iff_ne]; exact hB
      have t1b : ((B) = (l)) = False := eq_false (by exact hB)
      have t1c : ((B) != (l)) = true := by rw [bne_iff_ne]; exact hB
      clear hB
      go_upto_region 6 with (first | (clear tk1; refine wpList_row (by rfl) 57 _ rfl _ rfl (HRL.out _) Try.underlying57 rfl (by kernel_rfl) ?_) | (go_at_call 25; refine (Ret.later (KB.out _)).mono ?_; rintro x _ ⟨rfl, e, rfl⟩))
      go_wp2_with (first | (refine wpList_store_mid rfl 57 _ _ rfl w.heap.size 0 #[.bool false, .bool false, .int .i64 0, .int .i64 0, .string ⟨#[]⟩, .int .u64 0, .int .u64 0, .int .u64 0, .int .u64 0, .bool false, .int .u64 0, .int .u64 0] (by rfl) (by rfl) ((HBR.out.later e).there (Nat.le_refl 12)) (by kernel_rfl) (by simp [Value.oneCell']) ?_))
      generalize hZZ : World.setCells _ _ _ _ = ZZ
      have HZB : Hid (Blk ZZ w.heap.size 57 #[.bool false, .bool false, .int .i64 0, .int .i64 0, .string ⟨#[]⟩, .int .u64 0, .int .u64 0, .int .u64 0, .int .u64 0, .bool false, .int .u64 0, .int .u64 0]) := hid (by rw [← hZZ]; exact setCells_all (ds := #[.bool false, .bool false, .int .i64 0, .int .i64 0, .string ⟨#[]⟩, .int .u64 0, .int .u64 0, .int .u64 0, .int .u64 0, .bool false, .int .u64 0, .int .u64 0]) (HBR.out.later e) rfl)
      have HZM : Hid (Ext w ZZ) := hid (by rw [← hZZ]; exact setCells_mod _ _ (HE2.out.trans e.h) (.inr (by omega)))
      clear hZZ
      refine bodyPost_ret (results_cell2 rfl _ (by rfl) rfl HZB.out Try.underlying57 rfl (by kernel_rfl)) rfl (Ret.mk (by rw [HP.out]; rfl) HZM.out)
theorem repParse_any (l : List UInt8) (hl : l.length ≤ 1073741824) (w : World) : Calls Try.prog 27 #[str l] w (Ret (rparseV l) w) := by
  by_cases h : (parseR l).2 = 0
  · exact repParse_good l hl h w
  · exact repParse_bad l hl h w
end Go.Proofs.Ytogjghmoankleaa
