/-
  Two primaries compared.
  What a primary is read of (primary's Of), plainly.
  Primary's Of, of any item.
  What is made is read again: numbers, hops.
  What is made is read again: hops, whole.
  What data tell, by their bytes alone: a name, an age, hops.
  A right primary comes again from its item, plainly.
  Which names, primaries and bundles are of a size that is looked at.
  Primaries: their names; the whole's primary; the primary that the laws wake the program by.
  The law PrimaryNames, walked.
  The law PrimaryBack, walked.
  What Of accepts is a right primary's item, plainly.
  A row of bytes with a right sum at its end has an even number of bits that are 1: so one bit turned is seen.
  Bytes in a block that bears a mark behind them; one bit of them turned.
-/
import Derived.Test.YtogjghmoankleaaMPrimaryBitsh
import Derived.DeepKeys

namespace Go.Proofs.Ytogjghmoankleaa
open Go.RowKit
set_option linter.unusedVariables false
set_option linter.unusedSimpArgs false

theorem nat_int {a b : Nat} : (a : Int) = (b : Int) ↔ a = b := Int.ofNat_inj
theorem PV.eq_iff (p q : PV) : p = q ↔ p.fl = q.fl ∧ p.crc = q.crc ∧ (p.d.sch = q.d.sch ∧ p.d.name = q.d.name ∧ p.d.node = q.d.node ∧ p.d.svc = q.d.svc) ∧ (p.s.sch = q.s.sch ∧ p.s.name = q.s.name ∧ p.s.node = q.s.node ∧ p.s.svc = q.s.svc) ∧ (p.r.sch = q.r.sch ∧ p.r.name = q.r.name ∧ p.r.node = q.r.node ∧ p.r.svc = q.r.svc) ∧ p.t = q.t ∧ p.q = q.q ∧ p.l = q.l ∧ p.o = q.o ∧ p.n = q.n := by
  obtain ⟨a0, a1, ⟨d0, d1, d2, d3⟩, ⟨s0, s1, s2, s3⟩, ⟨r0, r1, r2, r3⟩, a5, a6, a7, a8, a9⟩ := p
  obtain ⟨b0, b1, ⟨e0, e1, e2, e3⟩, ⟨t0, t1, t2, t3⟩, ⟨u0, u1, u2, u3⟩, b5, b6, b7, b8, b9⟩ := q
  simp only [PV.mk.injEq, EV.mk.injEq]
section
theorem kl_u64 (d : Nat) (n : Nat) (h : n < 18446744073709551616) : Try.prog.keyLits (d + 1) 24 [.int .u64 (n : Int)] = some [.int .u64 (n : Int)] := by
  unfold Program.keyLits
  simp only [Try.underlying24]
  rw [if_pos ⟨trivial, by simp [Lit.wf, IntKind.min, IntKind.max, IntKind.signed, IntKind.bits]; omega⟩]
theorem kl_i64 (d : Nat) (n : Int) (h : -9223372036854775808 ≤ n ∧ n ≤ 9223372036854775807) : Try.prog.keyLits (d + 1) 3 [.int .i64 n] = some [.int .i64 n] := by
  unfold Program.keyLits
  simp only [Try.underlying3]
  rw [if_pos ⟨trivial, by simp [Lit.wf, IntKind.min, IntKind.max, IntKind.signed, IntKind.bits]; omega⟩]
theorem kl_str (d : Nat) (s : List UInt8) (h : s.length < 4611686018427387904) : Try.prog.keyLits (d + 1) 9 [str s] = some [.string s] := by
  unfold Program.keyLits
  simp only [Try.underlying9]
  have : (⟨s.toArray⟩ : ByteArray).size ≤ maxLen := by show s.toArray.size ≤ maxLen; simp [maxLen]; omega
  rw [if_pos this]
theorem kl_eid (d : Nat) (e : EV) (hw : e.wf) (hl : e.name.length < 4611686018427387904) : Try.prog.keyLits (d + 2) 26 [.int .i64 e.sch, str e.name, .int .u64 (e.node : Int), .int .u64 (e.svc : Int)] = some [.int .i64 e.sch, .string e.name, .int .u64 (e.node : Int), .int .u64 (e.svc : Int)] := by
  have k1 : Try.prog.cellsOf 3 = 1 := by kernel_rfl
  have k2 : Try.prog.cellsOf 9 = 1 := by kernel_rfl
  have k3 : Try.prog.cellsOf 24 = 1 := by kernel_rfl
  have k4 : Try.prog.cellsOf 26 = 4 := by kernel_rfl
  unfold Program.keyLits
  simp only [Try.underlying26]
  simp [k1, k2, k3, k4, kl_i64 d _ hw.1, kl_str d _ hl, kl_u64 d _ hw.2.1, kl_u64 d _ hw.2.2]
def PV.lits (p : PV) : List Lit := [.int .u64 p.fl, .int .i64 p.crc, .int .i64 p.d.sch, .string p.d.name, .int .u64 p.d.node, .int .u64 p.d.svc, .int .i64 p.s.sch, .string p.s.name, .int .u64 p.s.node, .int .u64 p.s.svc, .int .i64 p.r.sch, .string p.r.name, .int .u64 p.r.node, .int .u64 p.r.svc, .int .u64 p.t, .int .u64 p.q, .int .u64 p.l, .int .u64 p.o, .int .u64 p.n]
theorem kl_pri (p : PV) (hw : p.wf) (hl : p.d.name.length < 4611686018427387904 ∧ p.s.name.length < 4611686018427387904 ∧ p.r.name.length < 4611686018427387904) : Try.prog.keyLits 10 68 (Value.agg p.c).cells.toList = some p.lits := by
  have k1 : Try.prog.cellsOf 3 = 1 := by kernel_rfl
  have k3 : Try.prog.cellsOf 24 = 1 := by kernel_rfl
  have k4 : Try.prog.cellsOf 26 = 4 := by kernel_rfl
  have k5 : Try.prog.cellsOf 68 = 19 := by kernel_rfl
  obtain ⟨w0, w1, w2, w3, w4, w5, w6, w7, w8, w9⟩ := hw
  have e2 := kl_eid 7 p.d w2 hl.1
  have e3 := kl_eid 7 p.s w3 hl.2.1
  have e4 := kl_eid 7 p.r w4 hl.2.2
  unfold Program.keyLits
  simp only [Try.underlying68]
  simp [k1, k3, k4, k5, e2, e3, e4, kl_i64 8 _ w1, kl_u64 8 _ w0, kl_u64 8 _ w5, kl_u64 8 _ w6, kl_u64 8 _ w7, kl_u64 8 _ w8, kl_u64 8 _ w9, Value.cells, PV.lits]
end
theorem eq_pri_any (p q : PV) (hp : p.wf) (hq : q.wf) (hpl : p.d.name.length < 4611686018427387904 ∧ p.s.name.length < 4611686018427387904 ∧ p.r.name.length < 4611686018427387904) (hql : q.d.name.length < 4611686018427387904 ∧ q.s.name.length < 4611686018427387904 ∧ q.r.name.length < 4611686018427387904) : ∃ r : Bool, (r = true ↔ p = q) ∧ ∀ w, (binOp .eql 68 (.agg p.c) (.agg q.c)).run Try.prog w = .ok (.bool r) w := by
  have hk : Try.prog.keyTypeAt 5 68 = true := by kernel_rfl
  have hf : ∀ p : PV, (Value.agg p.c).formed Try.prog 68 = true := fun p => by kernel_rfl
  have key : ∀ w, ∃ r : Bool, (Op.equalIn (9995 + 5) 68 (.agg p.c) (.agg q.c)).run Try.prog w = .ok r w ∧ (r = true ↔ p = q) := fun w => by
    obtain ⟨r, h1, h2⟩ := run_equalIn_deep 9995 5 68 hk w 10 10 (.agg p.c) (.agg q.c) _ _ (hf p) (hf q) (kl_pri p hp hpl) (kl_pri q hq hql)
    refine ⟨r, h1, h2.trans ?_⟩
    rw [PV.eq_iff]
    simp only [PV.lits, List.cons.injEq, Lit.int.injEq, Lit.string.injEq, nat_int, true_and, and_true]
    constructor
    · rintro ⟨h0, h1, h2, h3, h4, h5, h6, h7, h8, h9, h10, h11, h12, h13, h14, h15, h16, h17, h18⟩; exact ⟨h0, h1, ⟨h2, h3, h4, h5⟩, ⟨h6, h7, h8, h9⟩, ⟨h10, h11, h12, h13⟩, h14, h15, h16, h17, h18⟩
    · rintro ⟨h0, h1, ⟨h2, h3, h4, h5⟩, ⟨h6, h7, h8, h9⟩, ⟨h10, h11, h12, h13⟩, h14, h15, h16, h17, h18⟩; exact ⟨h0, h1, h2, h3, h4, h5, h6, h7, h8, h9, h10, h11, h12, h13, h14, h15, h16, h17, h18⟩
  have run : ∀ (r : Bool) w, (Op.equalIn (9995 + 5) 68 (.agg p.c) (.agg q.c)).run Try.prog w = .ok r w → (binOp .eql 68 (.agg p.c) (.agg q.c)).run Try.prog w = .ok (.bool r) w := fun r w h => by
    simp only [binOp]
    simp [Op.equal, Op.maxDepth, h]
  by_cases e : p = q
  · refine ⟨true, by simp [e], fun w => ?_⟩
    obtain ⟨r, h1, h2⟩ := key w
    have : r = true := h2.2 e
    subst this
    exact run _ w h1
  · refine ⟨false, by simp [e], fun w => ?_⟩
    obtain ⟨r, h1, h2⟩ := key w
    have : r = false := by cases r with | false => rfl | true => exact absurd (h2.1 rfl) e
    subst this
    exact run _ w h1
end Go.Proofs.Ytogjghmoankleaa


namespace Go.Proofs.Ytogjghmoankleaa
open Go.RowKit
set_option linter.unusedVariables false
set_option linter.unusedSimpArgs false

def nilP : PV := ⟨0, 0, zeroE, zeroE, zeroE, 0, 0, 0, 0, 0⟩
def nilPC : Array Value := #[.int .u64 0, .int .i64 0, .int .i64 0, .string ⟨#[]⟩, .int .u64 0, .int .u64 0, .int .i64 0, .string ⟨#[]⟩, .int .u64 0, .int .u64 0, .int .i64 0, .string ⟨#[]⟩, .int .u64 0, .int .u64 0, .int .u64 0, .int .u64 0, .int .u64 0, .int .u64 0, .int .u64 0]
/-- An item's items but the last. -/
def frontL (t : T) : List T := (List.range (t.k - 1)).map t.ch
def lastZ (t : T) (Z : List UInt8) : T := listT (frontL t ++ [strT Z])
/-- The item with the sum that it should have. -/
def sumTr (t : T) (cr : Nat) : T := lastZ t (Crc.sumL cr (lastZ t (List.replicate (2 * cr) 0)).bytes)
/-- What Of tells: the primary, or zero, and the error. -/
def ofP (t : T) : PV × Int :=
  let r := readR nilP [] t
  if r.2.2 = true then (nilP, 2) else
  if r.2.1 ≠ [] ∧ (sumTr t r.1.crc.toNat).same t = false then (nilP, 5) else
  if r.1.right ≠ 0 then (nilP, r.1.right) else (r.1, 0)
theorem T.eta {t : T} (h : t.ok) : t = T.mk t.kind t.n t.s t.op t.k t.ch := by
  cases t with
  | nil => exact absurd h T.not_nil
  | mk kd n s op k ch => rfl
theorem kidT_eq (t : T) : kidT t = t.ch := by
  cases t <;> rfl
theorem frontL_length (t : T) : (frontL t).length = t.k - 1 := by simp [frontL]
theorem lastZ_k {t : T} (h : 0 < t.k) (Z : List UInt8) : (lastZ t Z).k = t.k := by
  show (frontL t ++ [strT Z]).length = t.k
  rw [List.length_append, frontL_length]; simp; omega
theorem lastZ_ch {t : T} {i : Nat} (h : i < t.k) (Z : List UInt8) : (lastZ t Z).ch i = if i = t.k - 1 then strT Z else t.ch i := by
  show ((frontL t ++ [strT Z])[i]?).getD T.nil = _
  by_cases e : i = t.k - 1
  · rw [if_pos e, List.getElem?_append_right (by rw [frontL_length]; omega), frontL_length, e]; simp
  · rw [if_neg e, List.getElem?_append_left (by rw [frontL_length]; omega)]
    simp [frontL, show i < t.k - 1 by omega]
theorem frontL_mem {t x : T} (h : x ∈ frontL t) : ∃ i, i < t.k - 1 ∧ x = t.ch i := by
  simp [frontL] at h
  obtain ⟨i, hi, rfl⟩ := h
  exact ⟨i, hi, rfl⟩
theorem chk_ok {t : T} (h : t.ok) {i : Nat} (hi : i < t.k) : (t.ch i).ok := by rw [← kidT_eq]; exact kid_ok h hi
theorem chk_right {t : T} {d : Nat} (h : t.right (d + 1) = true) {i : Nat} (hi : i < t.k) : (t.ch i).right d = true := by
  cases t with
  | nil => simp [T.right] at h
  | mk kd n s op k ch =>
    unfold T.right at h
    rw [if_neg (by omega), Bool.and_eq_true, T.all_iff] at h
    exact h.2 i hi
theorem chk_size {t : T} {i : Nat} (hi : i < t.k) : (t.ch i).size ≤ t.size := by
  cases t with
  | nil => exact absurd hi (Nat.not_lt_zero _)
  | mk kd n s op k ch => exact T.size_ch hi
theorem lastZ_all {t : T} (hok : t.ok) (hr : t.right 8 = true) (hk : t.k ≤ 11) (h0 : 0 < t.k) (hs : t.size ≤ 5000) {Z : List UInt8} (hz : Z.length ≤ 90) : (lastZ t Z).ok ∧ (lastZ t Z).right 8 = true ∧ (lastZ t Z).size ≤ 100000 ∧ (lastZ t Z).bytes.length < 1000000 := by
  obtain ⟨z1, z2, z3, _⟩ := strT_all hz
  have hl : (frontL t ++ [strT Z]).length = t.k := by rw [List.length_append, frontL_length]; simp; omega
  have hm : ∀ x ∈ frontL t ++ [strT Z], x.ok ∧ x.right 7 = true ∧ x.size ≤ 5000 := by
    intro x hx
    rw [List.mem_append] at hx
    rcases hx with hx | hx
    · obtain ⟨i, hi, rfl⟩ := frontL_mem hx
      exact ⟨chk_ok hok (by omega), chk_right hr (by omega), Nat.le_trans (chk_size (by omega)) hs⟩
    · rw [List.mem_singleton] at hx
      subst hx
      exact ⟨z1, z2 7 (by omega), by omega⟩
  have hsz : (lastZ t Z).size ≤ 60000 := by
    have := listT_size (L := frontL t ++ [strT Z]) (B := 5000) (fun x hx => (hm x hx).2.2)
    unfold lastZ
    rw [hl] at this
    have h2 : t.k * 5000 ≤ 11 * 5000 := Nat.mul_le_mul_right _ hk
    omega
  refine ⟨listT_ok (by rw [hl]; omega) (fun x hx => (hm x hx).1), listT_right (by omega) (by rw [hl]; omega) (fun x hx => (hm x hx).2.1), by omega, ?_⟩
  have := T.bytes_le (lastZ t Z)
  omega
theorem IsL.congr {W : World} {Q : Nat → Prop} {t u : T} {A : Option Addr} (hu : u.ok) (hk : t.k = u.k) (hc : ∀ i, i < t.k → t.ch i = u.ch i) (h : IsL W Q t A) : IsL W Q u A := by
  cases t with
  | nil => exact absurd h (by simp [IsL])
  | mk kd n s op k ch =>
    cases u with
    | nil => exact absurd hu T.not_nil
    | mk kd' n' s' op' k' ch' =>
      have hk : k = k' := hk
      subst hk
      intro h0
      obtain ⟨b, o, hA, hb, hq, hh⟩ := h h0
      refine ⟨b, o, hA, hb, hq, fun i hi => ?_⟩
      have e : ch i = ch' i := hc i hi
      rw [← e]
      exact hh i hi
theorem nmE_len (t : T) : (nmE t).name.length ≤ 60 := by
  unfold nmE
  by_cases h : ofB t = true
  · rw [if_pos h]
    unfold ofB at h
    simp only [Bool.and_eq_true] at h
    rcases EV.ok_cases h.1 with e | ⟨name, e, _, hl⟩ | ⟨node, svc, e, _, _⟩
    · rw [e]; simp
    · rw [e]; exact hl
    · rw [e]; simp
  · rw [if_neg h]; simp [zeroE]
/-- What is read is a primary in memory. -/
def PV.sm (p : PV) : Prop := p.fl < 18446744073709551616 ∧ p.d.name.length ≤ 60 ∧ p.s.name.length ≤ 60 ∧ p.r.name.length ≤ 60
theorem sumR_sm {p : PV} (h : p.sm) (s : List UInt8) (k : Nat) (t : T) : (sumR p s k t).1.sm := by
  unfold sumR; split <;> exact h
theorem readR_sm {t : T} (h : t.ok) : (readR nilP [] t).1.sm := by
  have hz : nilP.sm := ⟨by decide, by decide, by decide, by decide⟩
  unfold readR
  by_cases h1 : headR t = false
  · rw [if_pos h1]; exact hz
  rw [if_neg h1]
  by_cases h2 : ¬ numsR t
  · rw [if_pos h2]; exact hz
  rw [if_neg h2]
  have h8 : 8 ≤ t.k := by
    have h1 : headR t = true := by simpa using h1
    unfold headR at h1
    simp only [Bool.and_eq_true, decide_eq_true_eq] at h1
    exact h1.2
  have hP : (nmP (flcR nilP t) (fun i => kidT t (i + 3)) 3).sm := ⟨nlt_of (kid_ok h (i := 1) (by omega)), nmE_len _, nmE_len _, nmE_len _⟩
  generalize nmP (flcR nilP t) (fun i => kidT t (i + 3)) 3 = P at *
  by_cases h3 : nmB false (fun i => kidT t (i + 3)) 3 = true
  · rw [if_pos h3]; exact hP
  rw [if_neg h3]
  unfold restR
  by_cases g1 : whenR ((fun i => kidT t (i + 6)) 0) = false
  · rw [if_pos g1]; exact hP
  rw [if_neg g1]
  split
  · exact hP
  · have hT : (tqlR P (fun i => kidT t (i + 6))).sm := hP
    split
    · split
      · exact hT
      · exact sumR_sm (p := fragR (tqlR P (fun i => kidT t (i + 6))) (fun i => kidT t (i + 6))) hT _ _ _
    · exact sumR_sm hT _ _ _
/-- Where there is a sum. -/
theorem sumR_has {p : PV} {k : Nat} {t : T} (h : (sumR p [] k t).2.2 = false) (hs : (sumR p [] k t).2.1 ≠ []) : k ≠ 0 ∧ (sumR p [] k t).1 = p ∧ (sumR p [] k t).2.1 = t.s ∧ t.kind = 2 ∧ (t.s.length : Int) = 2 * p.crc := by
  unfold sumR at h hs ⊢
  by_cases h0 : k = 0
  · rw [if_pos h0] at hs; exact absurd rfl hs
  · rw [if_neg h0] at h hs ⊢
    simp only [Bool.not_eq_false', Bool.and_eq_true, decide_eq_true_eq] at h
    exact ⟨h0, rfl, rfl, h.1, h.2⟩
theorem readR_has {t : T} (h : (readR nilP [] t).2.2 = false) (hs : (readR nilP [] t).2.1 ≠ []) : t.right 8 = true ∧ t.kind = 4 ∧ t.op = false ∧ 8 ≤ t.k ∧ t.k ≤ 11 ∧ ∃ cr : Nat, (readR nilP [] t).1.crc = (cr : Int) ∧ (cr = 1 ∨ cr = 2) ∧ (readR nilP [] t).2.1.length = 2 * cr := by
  unfold readR at h hs ⊢
  by_cases h1 : headR t = false
  · rw [if_pos h1] at h; exact absurd h (by simp)
  rw [if_neg h1] at h hs ⊢
  have h1 : headR t = true := by simpa using h1
  unfold headR at h1
  simp only [Bool.and_eq_true, decide_eq_true_eq, Bool.not_eq_true'] at h1
  obtain ⟨⟨⟨g1, g2⟩, g3⟩, g4⟩ := h1
  by_cases h2 : ¬ numsR t
  · rw [if_pos h2] at h; exact absurd h (by simp)
  rw [if_neg h2] at h hs ⊢
  have hN : numsR t := by simpa using h2
  have hk := hN.2.2
  have hk11 : t.k ≤ 11 := by rw [hk]; unfold cntN; split <;> split <;> omega
  refine ⟨g1, g2, g3, g4, hk11, ?_⟩
  have hP : (nmP (flcR nilP t) (fun i => kidT t (i + 3)) 3).crc = ((min (kidT t 2).n 3 : Nat) : Int) ∧ (nmP (flcR nilP t) (fun i => kidT t (i + 3)) 3).fl = (kidT t 1).n := ⟨rfl, rfl⟩
  generalize nmP (flcR nilP t) (fun i => kidT t (i + 3)) 3 = P at *
  by_cases h3 : nmB false (fun i => kidT t (i + 3)) 3 = true
  · rw [if_pos h3] at h; exact absurd h (by simp)
  rw [if_neg h3] at h hs ⊢
  unfold restR at h hs ⊢
  by_cases q1 : whenR ((fun i => kidT t (i + 6)) 0) = false
  · rw [if_pos q1] at h; exact absurd h (by simp)
  rw [if_neg q1] at h hs ⊢
  by_cases q2 : ¬ ((kidT ((fun i => kidT t (i + 6)) 0) 0).kind = 0 ∧ (kidT ((fun i => kidT t (i + 6)) 0) 1).kind = 0 ∧ ((fun i => kidT t (i + 6)) 1).kind = 0)
  · rw [if_pos q2] at h; exact absurd h (by simp)
  rw [if_neg q2] at h hs ⊢
  have key : ∀ (Q : PV) (k : Nat) (u : T), Q.crc = ((min (kidT t 2).n 3 : Nat) : Int) → k ≠ 0 → t.k = (if (kidT t 1).n % 2 = 1 then 10 else 8) + k → (u.s.length : Int) = 2 * Q.crc → ∃ cr : Nat, Q.crc = (cr : Int) ∧ (cr = 1 ∨ cr = 2) ∧ u.s.length = 2 * cr := by
    intro Q k u hQ hk0 htk hl
    have h12 : (kidT t 2).n = 1 ∨ (kidT t 2).n = 2 := by
      rw [hk] at htk
      unfold cntN at htk
      by_cases e1 : (kidT t 1).n % 2 = 1 <;> by_cases e2 : (kidT t 2).n = 1 ∨ (kidT t 2).n = 2 <;> simp only [e1, e2, if_true, if_false] at htk <;> omega
    exact ⟨(kidT t 2).n, by rw [hQ]; omega, h12, by rw [hQ] at hl; omega⟩
  by_cases q3 : P.fl % 2 = 1
  · rw [if_pos q3] at h hs ⊢
    by_cases q4 : ¬ (((fun i => kidT t (i + 6)) 2).kind = 0 ∧ ((fun i => kidT t (i + 6)) 3).kind = 0)
    · rw [if_pos q4] at h; exact absurd h (by simp)
    rw [if_neg q4] at h hs ⊢
    obtain ⟨a1, a2, a3, a4, a5⟩ := sumR_has h hs
    rw [a2, a3]
    exact key _ _ _ hP.1 a1 (by rw [← hP.2, if_pos q3]; omega) a5
  · rw [if_neg q3] at h hs ⊢
    obtain ⟨a1, a2, a3, a4, a5⟩ := sumR_has h hs
    rw [a2, a3]
    exact key _ _ _ hP.1 a1 (by rw [← hP.2, if_neg q3]; omega) a5
end Go.Proofs.Ytogjghmoankleaa


namespace Go.Proofs.Ytogjghmoankleaa
open Go.RowKit
set_option linter.unusedVariables false
set_option linter.unusedSimpArgs false

def ofPV (t : T) : Value := .tuple #[.agg (ofP t).1.c, .int .i64 (ofP t).2]
set_option maxRecDepth 20000 in
set_option maxHeartbeats 8000000 in
theorem pof_bad (t : T) (hok : t.ok) (hsz : t.size ≤ 5000) (A : Option Addr) (c : Nat) (hkc : t.k ≤ c) (w : World) (h : IsL w (fun _ => True) t A) (P : PV) (s : List UInt8) (hrd : readR nilP [] t = (P, s, true)) : Calls Try.prog 35 #[itemV t A c] w (Ret (.tuple #[.agg nilP.c, .int .i64 2]) w) := by
  have HRD := hid hrd
  clear hrd
  have HIL : Hid (IsL w (fun b => b < w.heap.size) t A) := hid (IsL.weak (fun b hb _ => hb) _ h)
  have HOK := hid hok
  have HKC := hid hkc
  have HSZ := hid hsz
  have HE := hid (((Mod.refl [] w).alloc (.cells (itemC t A c) 38)).alloc (.cells #[.int .u64 0, .int .i64 0, .int .i64 0, .string ⟨#[]⟩, .int .u64 0, .int .u64 0, .int .i64 0, .string ⟨#[]⟩, .int .u64 0, .int .u64 0, .int .i64 0, .string ⟨#[]⟩, .int .u64 0, .int .u64 0, .int .u64 0, .int .u64 0, .int .u64 0, .int .u64 0, .int .u64 0] 68))
  have HB0 : Hid (Blk ((w.alloc (.cells (itemC t A c) 38)).alloc (.cells #[.int .u64 0, .int .i64 0, .int .i64 0, .string ⟨#[]⟩, .int .u64 0, .int .u64 0, .int .i64 0, .string ⟨#[]⟩, .int .u64 0, .int .u64 0, .int .i64 0, .string ⟨#[]⟩, .int .u64 0, .int .u64 0, .int .u64 0, .int .u64 0, .int .u64 0, .int .u64 0, .int .u64 0] 68)) w.heap.size 38 (itemC t A c)) := hid ((Blk.new w 38 (itemC t A c)).alloc (.cells #[.int .u64 0, .int .i64 0, .int .i64 0, .string ⟨#[]⟩, .int .u64 0, .int .u64 0, .int .i64 0, .string ⟨#[]⟩, .int .u64 0, .int .u64 0, .int .i64 0, .string ⟨#[]⟩, .int .u64 0, .int .u64 0, .int .u64 0, .int .u64 0, .int .u64 0, .int .u64 0, .int .u64 0] 68))
  have HB1 : Hid (Blk ((w.alloc (.cells (itemC t A c) 38)).alloc (.cells #[.int .u64 0, .int .i64 0, .int .i64 0, .string ⟨#[]⟩, .int .u64 0, .int .u64 0, .int .i64 0, .string ⟨#[]⟩, .int .u64 0, .int .u64 0, .int .i64 0, .string ⟨#[]⟩, .int .u64 0, .int .u64 0, .int .u64 0, .int .u64 0, .int .u64 0, .int .u64 0, .int .u64 0] 68)) (w.heap.size + 1) 68 #[.int .u64 0, .int .i64 0, .int .i64 0, .string ⟨#[]⟩, .int .u64 0, .int .u64 0, .int .i64 0, .string ⟨#[]⟩, .int .u64 0, .int .u64 0, .int .i64 0, .string ⟨#[]⟩, .int .u64 0, .int .u64 0, .int .u64 0, .int .u64 0, .int .u64 0, .int .u64 0, .int .u64 0]) := by unfold Hid; exact Blk.newL _ _ _ (by simp)
  have HP2 : Hid (Ext w ((((w.alloc (.cells (itemC t A c) 38)).alloc (.cells #[.int .u64 0, .int .i64 0, .int .i64 0, .string ⟨#[]⟩, .int .u64 0, .int .u64 0, .int .i64 0, .string ⟨#[]⟩, .int .u64 0, .int .u64 0, .int .i64 0, .string ⟨#[]⟩, .int .u64 0, .int .u64 0, .int .u64 0, .int .u64 0, .int .u64 0, .int .u64 0, .int .u64 0] 68))).alloc (.cells (rdC nilP [] false) 116))) := hid (HE.out.alloc _)
  have HBR : Hid (Blk ((((w.alloc (.cells (itemC t A c) 38)).alloc (.cells #[.int .u64 0, .int .i64 0, .int .i64 0, .string ⟨#[]⟩, .int .u64 0, .int .u64 0, .int .i64 0, .string ⟨#[]⟩, .int .u64 0, .int .u64 0, .int .i64 0, .string ⟨#[]⟩, .int .u64 0, .int .u64 0, .int .u64 0, .int .u64 0, .int .u64 0, .int .u64 0, .int .u64 0] 68))).alloc (.cells (rdC nilP [] false) 116)) (w.heap.size + 2) 116 (rdC nilP [] false)) := Blk.newL _ _ _ (by simp)
  have HB0 := hid (HB0.out.alloc (.cells (rdC nilP [] false) 116))
  have HB1 := hid (HB1.out.alloc (.cells (rdC nilP [] false) 116))
  clear h hok hkc hsz HE
  go_enter Try.func35, Try.ntmps35
  go_upto_region 2 with fail
  show Code.wp _ _ _ _ ((((w.alloc (.cells (itemC t A c) 38)).alloc (.cells #[.int .u64 0, .int .i64 0, .int .i64 0, .string ⟨#[]⟩, .int .u64 0, .int .u64 0, .int .i64 0, .string ⟨#[]⟩, .int .u64 0, .int .u64 0, .int .i64 0, .string ⟨#[]⟩, .int .u64 0, .int .u64 0, .int .u64 0, .int .u64 0, .int .u64 0, .int .u64 0, .int .u64 0] 68))).alloc (.cells (rdC nilP [] false) 116))
  generalize (((w.alloc (.cells (itemC t A c) 38)).alloc (.cells #[.int .u64 0, .int .i64 0, .int .i64 0, .string ⟨#[]⟩, .int .u64 0, .int .u64 0, .int .i64 0, .string ⟨#[]⟩, .int .u64 0, .int .u64 0, .int .i64 0, .string ⟨#[]⟩, .int .u64 0, .int .u64 0, .int .u64 0, .int .u64 0, .int .u64 0, .int .u64 0, .int .u64 0] 68))).alloc (.cells (rdC nilP [] false) 116) = V at *
  have HIV := hid (HIL.out.ext HP2.out)
  have KRD : Hid (∀ e : Later V, Calls Try.prog 68 #[.pointer (some ⟨(w.heap.size + 2), 0, none⟩), itemV t A c] e.x (RestPost (w.heap.size + 2) (P, s, true) e.x)) := hid (fun e => by rw [← HRD.out]; exact pread (w.heap.size + 2) nilP [] t HOK.out A c HKC.out e.x (HBR.out.later e) (IsL.weak (fun b _ hb => by have hb : b < w.heap.size := hb; omega) _ (HIV.out.ext e.h)))
  have HBL : Hid (∀ e : Later V, Blk e.x w.heap.size 38 (itemC t A c)) := hid (fun e => HB0.out.later e)
  obtain ⟨e, he⟩ := Later.self V
  rw [he]
  clear he
  have tk1 : True := trivial
  go_upto_region 3 with (first | (clear tk1; refine wpList_row (by rfl) 38 _ rfl _ rfl (HBL.out _) Try.underlying38 rfl (by kernel_rfl) ?_) | (go_at_call 68; refine (KRD.out e).mono ?_; rintro x w2 ⟨rfl, hm, hb⟩; have HM2 := hid ((e.h.mono (by simp)).trans hm : Mod [(w.heap.size + 2)] V w2); have HB2 := hid hb; clear hm hb))
  have HE2 : Hid (Ext w w2) := hid ((HP2.out.of_ext.trans HM2.out).new (fun k hk => .inr (by rw [List.mem_singleton] at hk; omega)))
  have HB0 := hid (HB0.out.mod HM2.out (by simp))
  have HB1 := hid (HB1.out.mod HM2.out (by simp))
  have HIV : Hid (IsL w2 (fun b => b < w.heap.size) t A) := hid (IsL.mod HM2.out (fun k hk _ => by have hk : k < w.heap.size := hk; simp; omega) _ HIV.out)
  have hVS : (w.heap.size + 2) < w2.heap.size := HB2.out.lt
  clear KRD HBL HM2 HP2 HBR HIL e
  have c20 : ∀ e : Later w2, e.x.cell? ⟨(w.heap.size + 2), 20, none⟩ = some (.bool true) := HB2.out.cellL 20 rfl
  have c19 : ∀ e : Later w2, e.x.cell? ⟨(w.heap.size + 2), 19, none⟩ = some (str s) := HB2.out.cellL 19 rfl
  obtain ⟨e, he⟩ := Later.self w2
  rw [he]
  clear he
  go_wp2_with (first | (refine wpList_store_mid rfl 68 _ _ rfl (w.heap.size + 1) 0 nilPC (by rfl) (by rfl) ((HB1.out.later e).there (Nat.le_refl 19)) (by kernel_rfl) (by simp [nilPC, Value.oneCell']) ?_))
  generalize hZZ : World.setCells _ _ _ _ = ZZ
  have HZB : Hid (Blk ZZ (w.heap.size + 1) 68 nilPC) := hid (by rw [← hZZ]; exact setCells_all (ds := nilPC) (HB1.out.later e) rfl)
  have HZM : Hid (Ext w ZZ) := hid (by rw [← hZZ]; exact setCells_mod _ _ (HE2.out.trans e.h) (.inr (by omega)))
  clear hZZ
  refine bodyPost_ret (results_cell2 rfl _ (by rfl) rfl HZB.out Try.underlying68 rfl (by kernel_rfl)) rfl (Ret.mk rfl HZM.out)
set_option maxRecDepth 20000 in
set_option maxHeartbeats 8000000 in
theorem pof_nosum (t : T) (hok : t.ok) (hsz : t.size ≤ 5000) (A : Option Addr) (c : Nat) (hkc : t.k ≤ c) (w : World) (h : IsL w (fun _ => True) t A) (P : PV) (hrd : readR nilP [] t = (P, [], false)) (v : Value) (hv : (P.right = 0 → v = .tuple #[.agg P.c, .int .i64 0]) ∧ (P.right ≠ 0 → v = .tuple #[.agg nilP.c, .int .i64 P.right])) : Calls Try.prog 35 #[itemV t A c] w (Ret (v) w) := by
  have hsm : P.sm := by have := readR_sm hok; rw [hrd] at this; exact this
  have KRG := hid (fun W => cPriRight_any P (hid ⟨by have := hsm.2.1; omega, by have := hsm.2.2.1; omega, by have := hsm.2.2.2; omega⟩) hsm.1 W)
  have HRD := hid hrd
  have HV := hid hv
  clear hrd hv hsm
  have HIL : Hid (IsL w (fun b => b < w.heap.size) t A) := hid (IsL.weak (fun b hb _ => hb) _ h)
  have HOK := hid hok
  have HKC := hid hkc
  have HSZ := hid hsz
  have HE := hid (((Mod.refl [] w).alloc (.cells (itemC t A c) 38)).alloc (.cells #[.int .u64 0, .int .i64 0, .int .i64 0, .string ⟨#[]⟩, .int .u64 0, .int .u64 0, .int .i64 0, .string ⟨#[]⟩, .int .u64 0, .int .u64 0, .int .i64 0, .string ⟨#[]⟩, .int .u64 0, .int .u64 0, .int .u64 0, .int .u64 0, .int .u64 0, .int .u64 0, .int .u64 0] 68))
  have HB0 : Hid (Blk ((w.alloc (.cells (itemC t A c) 38)).alloc (.cells #[.int .u64 0, .int .i64 0, .int .i64 0, .string ⟨#[]⟩, .int .u64 0, .int .u64 0, .int .i64 0, .string ⟨#[]⟩, .int .u64 0, .int .u64 0, .int .i64 0, .string ⟨#[]⟩, .int .u64 0, .int .u64 0, .int .u64 0, .int .u64 0, .int .u64 0, .int .u64 0, .int .u64 0] 68)) w.heap.size 38 (itemC t A c)) := hid ((Blk.new w 38 (itemC t A c)).alloc (.cells #[.int .u64 0, .int .i64 0, .int .i64 0, .string ⟨#[]⟩, .int .u64 0, .int .u64 0, .int .i64 0, .string ⟨#[]⟩, .int .u64 0, .int .u64 0, .int .i64 0, .string ⟨#[]⟩, .int .u64 0, .int .u64 0, .int .u64 0, .int .u64 0, .int .u64 0, .int .u64 0, .int .u64 0] 68))
  have HB1 : Hid (Blk ((w.alloc (.cells (itemC t A c) 38)).alloc (.cells #[.int .u64 0, .int .i64 0, .int .i64 0, .string ⟨#[]⟩, .int .u64 0, .int .u64 0, .int .i64 0, .string ⟨#[]⟩, .int .u64 0, .int .u64 0, .int .i64 0, .string ⟨#[]⟩, .int .u64 0, .int .u64 0, .int .u64 0, .int .u64 0, .int .u64 0, .int .u64 0, .int .u64 0] 68)) (w.heap.size + 1) 68 #[.int .u64 0, .int .i64 0, .int .i64 0, .string ⟨#[]⟩, .int .u64 0, .int .u64 0, .int .i64 0, .string ⟨#[]⟩, .int .u64 0, .int .u64 0, .int .i64 0, .string ⟨#[]⟩, .int .u64 0, .int .u64 0, .int .u64 0, .int .u64 0, .int .u64 0, .int .u64 0, .int .u64 0]) := by unfold Hid; exact Blk.newL _ _ _ (by simp)
  have HP2 : Hid (Ext w ((((w.alloc (.cells (itemC t A c) 38)).alloc (.cells #[.int .u64 0, .int .i64 0, .int .i64 0, .string ⟨#[]⟩, .int .u64 0, .int .u64 0, .int .i64 0, .string ⟨#[]⟩, .int .u64 0, .int .u64 0, .int .i64 0, .string ⟨#[]⟩, .int .u64 0, .int .u64 0, .int .u64 0, .int .u64 0, .int .u64 0, .int .u64 0, .int .u64 0] 68))).alloc (.cells (rdC nilP [] false) 116))) := hid (HE.out.alloc _)
  have HBR : Hid (Blk ((((w.alloc (.cells (itemC t A c) 38)).alloc (.cells #[.int .u64 0, .int .i64 0, .int .i64 0, .string ⟨#[]⟩, .int .u64 0, .int .u64 0, .int .i64 0, .string ⟨#[]⟩, .int .u64 0, .int .u64 0, .int .i64 0, .string ⟨#[]⟩, .int .u64 0, .int .u64 0, .int .u64 0, .int .u64 0, .int .u64 0, .int .u64 0, .int .u64 0] 68))).alloc (.cells (rdC nilP [] false) 116)) (w.heap.size + 2) 116 (rdC nilP [] false)) := Blk.newL _ _ _ (by simp)
  have HB0 := hid (HB0.out.alloc (.cells (rdC nilP [] false) 116))
  have HB1 := hid (HB1.out.alloc (.cells (rdC nilP [] false) 116))
  clear h hok hkc hsz HE
  go_enter Try.func35, Try.ntmps35
  go_upto_region 2 with fail
  show Code.wp _ _ _ _ ((((w.alloc (.cells (itemC t A c) 38)).alloc (.cells #[.int .u64 0, .int .i64 0, .int .i64 0, .string ⟨#[]⟩, .int .u64 0, .int .u64 0, .int .i64 0, .string ⟨#[]⟩, .int .u64 0, .int .u64 0, .int .i64 0, .string ⟨#[]⟩, .int .u64 0, .int .u64 0, .int .u64 0, .int .u64 0, .int .u64 0, .int .u64 0, .int .u64 0] 68))).alloc (.cells (rdC nilP [] false) 116))
  generalize (((w.alloc (.cells (itemC t A c) 38)).alloc (.cells #[.int .u64 0, .int .i64 0, .int .i64 0, .string ⟨#[]⟩, .int .u64 0, .int .u64 0, .int .i64 0, .string ⟨#[]⟩, .int .u64 0, .int .u64 0, .int .i64 0, .string ⟨#[]⟩, .int .u64 0, .int .u64 0, .int .u64 0, .int .u64 0, .int .u64 0, .int .u64 0, .int .u64 0] 68))).alloc (.cells (rdC nilP [] false) 116) = V at *
  have HIV := hid (HIL.out.ext HP2.out)
  have KRD : Hid (∀ e : Later V, Calls Try.prog 68 #[.pointer (some ⟨(w.heap.size + 2), 0, none⟩), itemV t A c] e.x (RestPost (w.heap.size + 2) (P, [], false) e.x)) := hid (fun e => by rw [← HRD.out]; exact pread (w.heap.size + 2) nilP [] t HOK.out A c HKC.out e.x (HBR.out.later e) (IsL.weak (fun b _ hb => by have hb : b < w.heap.size := hb; omega) _ (HIV.out.ext e.h)))
  have HBL : Hid (∀ e : Later V, Blk e.x w.heap.size 38 (itemC t A c)) := hid (fun e => HB0.out.later e)
  obtain ⟨e, he⟩ := Later.self V
  rw [he]
  clear he
  have tk1 : True := trivial
  go_upto_region 3 with (first | (clear tk1; refine wpList_row (by rfl) 38 _ rfl _ rfl (HBL.out _) Try.underlying38 rfl (by kernel_rfl) ?_) | (go_at_call 68; refine (KRD.out e).mono ?_; rintro x w2 ⟨rfl, hm, hb⟩; have HM2 := hid ((e.h.mono (by simp)).trans hm : Mod [(w.heap.size + 2)] V w2); have HB2 := hid hb; clear hm hb))
  have HE2 : Hid (Ext w w2) := hid ((HP2.out.of_ext.trans HM2.out).new (fun k hk => .inr (by rw [List.mem_singleton] at hk; omega)))
  have HB0 := hid (HB0.out.mod HM2.out (by simp))
  have HB1 := hid (HB1.out.mod HM2.out (by simp))
  have HIV : Hid (IsL w2 (fun b => b < w.heap.size) t A) := hid (IsL.mod HM2.out (fun k hk _ => by have hk : k < w.heap.size := hk; simp; omega) _ HIV.out)
  have hVS : (w.heap.size + 2) < w2.heap.size := HB2.out.lt
  clear KRD HBL HM2 HP2 HBR HIL e
  have c20 : ∀ e : Later w2, e.x.cell? ⟨(w.heap.size + 2), 20, none⟩ = some (.bool false) := HB2.out.cellL 20 rfl
  have c19 : ∀ e : Later w2, e.x.cell? ⟨(w.heap.size + 2), 19, none⟩ = some (str []) := HB2.out.cellL 19 rfl
  obtain ⟨e, he⟩ := Later.self w2
  rw [he]
  clear he
  go_upto_region 10 with fail
  have HPX : Hid (∀ e : Later w2, e.x.rangeAt (w.heap.size + 2) 0 [.int .u64 (P.fl : Int), .int .i64 P.crc, .int .i64 P.d.sch, str P.d.name, .int .u64 (P.d.node : Int), .int .u64 (P.d.svc : Int), .int .i64 P.s.sch, str P.s.name, .int .u64 (P.s.node : Int), .int .u64 (P.s.svc : Int), .int .i64 P.r.sch, str P.r.name, .int .u64 (P.r.node : Int), .int .u64 (P.r.svc : Int), .int .u64 (P.t : Int), .int .u64 (P.q : Int), .int .u64 (P.l : Int), .int .u64 (P.o : Int), .int .u64 (P.n : Int)]) := HB2.out.range 0 19 (by rw [Array.toList_extract]; rfl)
  have tk1 : True := trivial
  have tk2 : True := trivial
  go_upto_region 11 with (first | (clear tk1; refine wpList_mid (by rfl) 68 _ rfl _ 0 rfl _ _ (HPX.out _) Try.underlying68 rfl (by kernel_rfl) ?_) | (go_at_call 64; refine (Ret.later (KRG.out _)).mono ?_; rintro x _ ⟨rfl, e, rfl⟩))
  by_cases hR : P.right = 0
  · have HR := hid hR
    have HV0 := hid (HV.out.1 hR)
    have t1a : ((P.right) == (0)) = true := by rw [beq_iff_eq]; exact hR
    have t1b : ((P.right) = (0)) = True := eq_true (by exact hR)
    have t1c : ((P.right) != (0)) = false := by rw [bne_eq_false_iff_eq]; exact hR
    clear hR
    go_upto_region 13 with fail
    go_wp2_with (first | (clear tk2; refine wpList_mid (by rfl) 68 _ rfl _ 0 rfl _ _ (HPX.out _) Try.underlying68 rfl (by kernel_rfl) ?_) | (refine wpList_store_mid rfl 68 _ _ rfl (w.heap.size + 1) 0 #[.int .u64 (P.fl : Int), .int .i64 P.crc, .int .i64 P.d.sch, str P.d.name, .int .u64 (P.d.node : Int), .int .u64 (P.d.svc : Int), .int .i64 P.s.sch, str P.s.name, .int .u64 (P.s.node : Int), .int .u64 (P.s.svc : Int), .int .i64 P.r.sch, str P.r.name, .int .u64 (P.r.node : Int), .int .u64 (P.r.svc : Int), .int .u64 (P.t : Int), .int .u64 (P.q : Int), .int .u64 (P.l : Int), .int .u64 (P.o : Int), .int .u64 (P.n : Int)] (by rfl) (by rfl) ((HB1.out.later e).there (Nat.le_refl 19)) (by kernel_rfl) (by simp [Value.oneCell']) ?_))
    generalize hZZ : World.setCells _ _ _ _ = ZZ
    have HZB : Hid (Blk ZZ (w.heap.size + 1) 68 #[.int .u64 (P.fl : Int), .int .i64 P.crc, .int .i64 P.d.sch, str P.d.name, .int .u64 (P.d.node : Int), .int .u64 (P.d.svc : Int), .int .i64 P.s.sch, str P.s.name, .int .u64 (P.s.node : Int), .int .u64 (P.s.svc : Int), .int .i64 P.r.sch, str P.r.name, .int .u64 (P.r.node : Int), .int .u64 (P.r.svc : Int), .int .u64 (P.t : Int), .int .u64 (P.q : Int), .int .u64 (P.l : Int), .int .u64 (P.o : Int), .int .u64 (P.n : Int)]) := hid (by rw [← hZZ]; exact setCells_all (ds := #[.int .u64 (P.fl : Int), .int .i64 P.crc, .int .i64 P.d.sch, str P.d.name, .int .u64 (P.d.node : Int), .int .u64 (P.d.svc : Int), .int .i64 P.s.sch, str P.s.name, .int .u64 (P.s.node : Int), .int .u64 (P.s.svc : Int), .int .i64 P.r.sch, str P.r.name, .int .u64 (P.r.node : Int), .int .u64 (P.r.svc : Int), .int .u64 (P.t : Int), .int .u64 (P.q : Int), .int .u64 (P.l : Int), .int .u64 (P.o : Int), .int .u64 (P.n : Int)]) (HB1.out.later e) rfl)
    have HZM : Hid (Ext w ZZ) := hid (by rw [← hZZ]; exact setCells_mod _ _ (HE2.out.trans e.h) (.inr (by omega)))
    clear hZZ
    refine bodyPost_ret (results_cell2 rfl _ (by rfl) rfl HZB.out Try.underlying68 rfl (by kernel_rfl)) rfl (Ret.mk (by rw [HV0.out]; rfl) HZM.out)
  · have HV0 := hid (HV.out.2 hR)
    have t1a : ((P.right) == (0)) = false := by rw [beq_eq_false_iff_ne]; exact hR
    have t1b : ((P.right) = (0)) = False := eq_false (by exact hR)
    have t1c : ((P.right) != (0)) = true := by rw [bne_iff_ne]; exact hR
    clear hR
    generalize P.right = RR at *
    go_wp2_with (first | (refine wpList_store_mid rfl 68 _ _ rfl (w.heap.size + 1) 0 nilPC (by rfl) (by rfl) ((HB1.out.later e).there (Nat.le_refl 19)) (by kernel_rfl) (by simp [nilPC, Value.oneCell']) ?_))
    generalize hZZ : World.setCells _ _ _ _ = ZZ
    have HZB : Hid (Blk ZZ (w.heap.size + 1) 68 nilPC) := hid (by rw [← hZZ]; exact setCells_all (ds := nilPC) (HB1.out.later e) rfl)
    have HZM : Hid (Ext w ZZ) := hid (by rw [← hZZ]; exact setCells_mod _ _ (HE2.out.trans e.h) (.inr (by omega)))
    clear hZZ
    refine bodyPost_ret (results_cell2 rfl _ (by rfl) rfl HZB.out Try.underlying68 rfl (by kernel_rfl)) rfl (Ret.mk (by rw [HV0.out]; rfl) HZM.out)
set_option maxRecDepth 20000 in
set_option maxHeartbeats 8000000 in
theorem pof_sum (t : T) (hok : t.ok) (hsz : t.size ≤ 5000) (A : Option Addr) (c : Nat) (hkc : t.k ≤ c) (w : World) (h : IsL w (fun _ => True) t A) (P : PV) (s : List UInt8) (cr : Nat) (hcr : P.crc = (cr : Int) ∧ (cr = 1 ∨ cr = 2) ∧ s.length = 2 * cr) (hk11 : 8 ≤ t.k ∧ t.k ≤ 11) (hr8 : t.right 8 = true) (hrd : readR nilP [] t = (P, s, false)) (v : Value) (B : Bool) (hB : (sumTr t cr).same t = B) (hv : (B = false → v = .tuple #[.agg nilP.c, .int .i64 5]) ∧ (B = true → P.right = 0 → v = .tuple #[.agg P.c, .int .i64 0]) ∧ (B = true → P.right ≠ 0 → v = .tuple #[.agg nilP.c, .int .i64 P.right])) : Calls Try.prog 35 #[itemV t A c] w (Ret (v) w) := by
  have hsm : P.sm := by have := readR_sm hok; rw [hrd] at this; exact this
  have KRG := hid (fun W => cPriRight_any P (hid ⟨by have := hsm.2.1; omega, by have := hsm.2.2.1; omega, by have := hsm.2.2.2; omega⟩) hsm.1 W)
  have HRD := hid hrd
  have hs0 : s ≠ [] := by intro e; rw [e] at hcr; have := hcr.2.2; simp at this; omega
  have tsa : ((s) == ([])) = false := by rw [beq_eq_false_iff_ne]; exact hs0
  have tsb : ((s) = ([])) = False := eq_false (by exact hs0)
  have tsc : ((s) != ([])) = true := by rw [bne_iff_ne]; exact hs0
  obtain ⟨n, hn⟩ : ∃ n, t.k = n + 1 := ⟨t.k - 1, by omega⟩
  have hcr2 : cr ≤ 2 := by omega
  have heta : t = T.mk t.kind t.n t.s t.op (n + 1) t.ch := by rw [← hn]; exact T.eta hok
  have KT : Hid (∀ W, Calls Try.prog 71 #[.string ⟨#[0]⟩, .int .i64 (s.length : Int)] W (Ret (str (List.replicate s.length 0)) W)) := hid (fun W => Repeat_zero s.length (by omega) W)
  have hZl : (List.replicate s.length (0 : UInt8)).length ≤ 90 := by simp; omega
  have hZe : List.replicate (2 * cr) (0 : UInt8) = List.replicate s.length 0 := by rw [hcr.2.2]
  obtain ⟨Z, hZ⟩ : ∃ Z, List.replicate s.length (0 : UInt8) = Z := ⟨_, rfl⟩
  rw [hZ] at KT hZl hZe
  obtain ⟨a1, a2, a3, a4⟩ := lastZ_all hok hr8 hk11.2 (by omega) hsz hZl
  have hSl : (Crc.sumL cr (lastZ t Z).bytes).length ≤ 90 := by rw [Crc.sumL_length (by omega) hcr2]; omega
  obtain ⟨b1, b2, b3, b4⟩ := lastZ_all hok hr8 hk11.2 (by omega) hsz hSl
  have hSt : sumTr t cr = lastZ t (Crc.sumL cr (lastZ t Z).bytes) := by unfold sumTr; rw [hZe]
  rw [← hSt] at b1 b2
  obtain ⟨U, hU⟩ : ∃ U, sumTr t cr = U := ⟨_, rfl⟩
  rw [hU] at b1 b2 hB hSt
  have KS : Hid (∀ W g c, IsL W (fun _ => True) (lastZ t Z) (some ⟨g, 0, none⟩) → Calls Try.prog 73 #[.int .i64 (cr : Int), .agg #[.int .i64 4, .int .u64 0, str [], .slice (some ⟨g, 0, none⟩) (n + 1) c, .bool false]] W (fun e w' => ∃ A c, e = .returned (itemV U A c) ∧ Ext W w' ∧ IsL w' (fun _ => True) U A)) := hid (fun W g c hL => by
    have hkz : (lastZ t Z).k = n + 1 := by rw [lastZ_k (by omega), hn]
    have h := psummed_cap (frontL t) Z cr (by omega) hcr2 (by rw [frontL_length]; omega) a1 a3 a2 a4 0 (some ⟨g, 0, none⟩) c W (Nat.zero_le _) (IsL.weak (fun _ _ _ => Nat.zero_le _) _ hL)
    have e1 : itemV (listT (frontL t ++ [strT Z])) (some ⟨g, 0, none⟩) c = .agg #[.int .i64 4, .int .u64 0, str [], .slice (some ⟨g, 0, none⟩) (n + 1) c, .bool false] := by
      show Value.agg #[_, _, _, .slice _ (lastZ t Z).k c, _] = _
      rw [hkz]; rfl
    rw [e1] at h
    refine h.mono fun e w' ⟨A, c, h1, h2, h3, _⟩ => ⟨A, c, ?_, h2, ?_⟩
    · rw [hSt]; exact h1
    · rw [hSt]; exact IsL.weak (fun _ _ _ => trivial) _ h3)
  have KSM : Hid (∀ W A1 c1, IsL W (fun _ => True) U A1 → IsL W (fun _ => True) t A → Calls Try.prog 72 #[itemV U A1 c1, itemV t A c] W (Ret (.bool B) W)) := hid (fun W A1 c1 h1 h2 => by
    have hbb : (U.right 8 && t.right 8 && U.same t) = B := by rw [b2, hr8, hB]; rfl
    have h := Same_any U t b1 hok A1 A c1 c W h1 h2
    rw [hbb] at h
    exact h)
  have hIc : ∀ W, IsL W (fun b => b < w.heap.size) t A → IsL W (fun b => b < w.heap.size) (T.mk t.kind t.n t.s t.op (n + 1) t.ch) A := fun W hW => by rw [← heta]; exact hW
  have hkk : Hid (0 < n + 1 ∧ n + 1 ≤ 1000) := hid (by omega)
  have KC := hid (fun W (hW : IsL W (fun b => b < w.heap.size) t A) => CloneI_any (Q := fun b => b < w.heap.size) (kind := t.kind) (n := t.n) (s := t.s) (op := t.op) t.ch (n + 1) hkk A c W (hIc W hW))
  have HCRC := hid hcr.1
  have HV := hid hv
  have HN := hid hn
  have n0 : (0 : Int) ≤ (n : Int) := by omega
  have n1 : (n : Int) ≤ 20 := by omega
  have HA1 := hid a1
  have HKZ : Hid ((lastZ t Z).k = n + 1) := hid (by rw [lastZ_k (by omega), hn])
  clear hrd hv hsm hcr hk11 hr8 hB hs0 hcr2 hZl hZe hZ a2 a3 a4 hSl b1 b2 b3 b4 hSt heta hIc hkk hU
  have HIL : Hid (IsL w (fun b => b < w.heap.size) t A) := hid (IsL.weak (fun b hb _ => hb) _ h)
  have HOK := hid hok
  have HKC := hid hkc
  have HSZ := hid hsz
  have HE := hid (((Mod.refl [] w).alloc (.cells (itemC t A c) 38)).alloc (.cells #[.int .u64 0, .int .i64 0, .int .i64 0, .string ⟨#[]⟩, .int .u64 0, .int .u64 0, .int .i64 0, .string ⟨#[]⟩, .int .u64 0, .int .u64 0, .int .i64 0, .string ⟨#[]⟩, .int .u64 0, .int .u64 0, .int .u64 0, .int .u64 0, .int .u64 0, .int .u64 0, .int .u64 0] 68))
  have HB0 : Hid (Blk ((w.alloc (.cells (itemC t A c) 38)).alloc (.cells #[.int .u64 0, .int .i64 0, .int .i64 0, .string ⟨#[]⟩, .int .u64 0, .int .u64 0, .int .i64 0, .string ⟨#[]⟩, .int .u64 0, .int .u64 0, .int .i64 0, .string ⟨#[]⟩, .int .u64 0, .int .u64 0, .int .u64 0, .int .u64 0, .int .u64 0, .int .u64 0, .int .u64 0] 68)) w.heap.size 38 (itemC t A c)) := hid ((Blk.new w 38 (itemC t A c)).alloc (.cells #[.int .u64 0, .int .i64 0, .int .i64 0, .string ⟨#[]⟩, .int .u64 0, .int .u64 0, .int .i64 0, .string ⟨#[]⟩, .int .u64 0, .int .u64 0, .int .i64 0, .string ⟨#[]⟩, .int .u64 0, .int .u64 0, .int .u64 0, .int .u64 0, .int .u64 0, .int .u64 0, .int .u64 0] 68))
  have HB1 : Hid (Blk ((w.alloc (.cells (itemC t A c) 38)).alloc (.cells #[.int .u64 0, .int .i64 0, .int .i64 0, .string ⟨#[]⟩, .int .u64 0, .int .u64 0, .int .i64 0, .string ⟨#[]⟩, .int .u64 0, .int .u64 0, .int .i64 0, .string ⟨#[]⟩, .int .u64 0, .int .u64 0, .int .u64 0, .int .u64 0, .int .u64 0, .int .u64 0, .int .u64 0] 68)) (w.heap.size + 1) 68 #[.int .u64 0, .int .i64 0, .int .i64 0, .string ⟨#[]⟩, .int .u64 0, .int .u64 0, .int .i64 0, .string ⟨#[]⟩, .int .u64 0, .int .u64 0, .int .i64 0, .string ⟨#[]⟩, .int .u64 0, .int .u64 0, .int .u64 0, .int .u64 0, .int .u64 0, .int .u64 0, .int .u64 0]) := by unfold Hid; exact Blk.newL _ _ _ (by simp)
  have HP2 : Hid (Ext w ((((w.alloc (.cells (itemC t A c) 38)).alloc (.cells #[.int .u64 0, .int .i64 0, .int .i64 0, .string ⟨#[]⟩, .int .u64 0, .int .u64 0, .int .i64 0, .string ⟨#[]⟩, .int .u64 0, .int .u64 0, .int .i64 0, .string ⟨#[]⟩, .int .u64 0, .int .u64 0, .int .u64 0, .int .u64 0, .int .u64 0, .int .u64 0, .int .u64 0] 68))).alloc (.cells (rdC nilP [] false) 116))) := hid (HE.out.alloc _)
  have HBR : Hid (Blk ((((w.alloc (.cells (itemC t A c) 38)).alloc (.cells #[.int .u64 0, .int .i64 0, .int .i64 0, .string ⟨#[]⟩, .int .u64 0, .int .u64 0, .int .i64 0, .string ⟨#[]⟩, .int .u64 0, .int .u64 0, .int .i64 0, .string ⟨#[]⟩, .int .u64 0, .int .u64 0, .int .u64 0, .int .u64 0, .int .u64 0, .int .u64 0, .int .u64 0] 68))).alloc (.cells (rdC nilP [] false) 116)) (w.heap.size + 2) 116 (rdC nilP [] false)) := Blk.newL _ _ _ (by simp)
  have HB0 := hid (HB0.out.alloc (.cells (rdC nilP [] false) 116))
  have HB1 := hid (HB1.out.alloc (.cells (rdC nilP [] false) 116))
  clear h hok hkc hsz HE hn a1
  go_enter Try.func35, Try.ntmps35
  go_upto_region 2 with fail
  show Code.wp _ _ _ _ ((((w.alloc (.cells (itemC t A c) 38)).alloc (.cells #[.int .u64 0, .int .i64 0, .int .i64 0, .string ⟨#[]⟩, .int .u64 0, .int .u64 0, .int .i64 0, .string ⟨#[]⟩, .int .u64 0, .int .u64 0, .int .i64 0, .string ⟨#[]⟩, .int .u64 0, .int .u64 0, .int .u64 0, .int .u64 0, .int .u64 0, .int .u64 0, .int .u64 0] 68))).alloc (.cells (rdC nilP [] false) 116))
  generalize (((w.alloc (.cells (itemC t A c) 38)).alloc (.cells #[.int .u64 0, .int .i64 0, .int .i64 0, .string ⟨#[]⟩, .int .u64 0, .int .u64 0, .int .i64 0, .string ⟨#[]⟩, .int .u64 0, .int .u64 0, .int .i64 0, .string ⟨#[]⟩, .int .u64 0, .int .u64 0, .int .u64 0, .int .u64 0, .int .u64 0, .int .u64 0, .int .u64 0] 68))).alloc (.cells (rdC nilP [] false) 116) = V at *
  have HIV := hid (HIL.out.ext HP2.out)
  have KRD : Hid (∀ e : Later V, Calls Try.prog 68 #[.pointer (some ⟨(w.heap.size + 2), 0, none⟩), itemV t A c] e.x (RestPost (w.heap.size + 2) (P, s, false) e.x)) := hid (fun e => by rw [← HRD.out]; exact pread (w.heap.size + 2) nilP [] t HOK.out A c HKC.out e.x (HBR.out.later e) (IsL.weak (fun b _ hb => by have hb : b < w.heap.size := hb; omega) _ (HIV.out.ext e.h)))
  have HBL : Hid (∀ e : Later V, Blk e.x w.heap.size 38 (itemC t A c)) := hid (fun e => HB0.out.later e)
  obtain ⟨e, he⟩ := Later.self V
  rw [he]
  clear he
  have tk1 : True := trivial
  go_upto_region 3 with (first | (clear tk1; refine wpList_row (by rfl) 38 _ rfl _ rfl (HBL.out _) Try.underlying38 rfl (by kernel_rfl) ?_) | (go_at_call 68; refine (KRD.out e).mono ?_; rintro x w2 ⟨rfl, hm, hb⟩; have HM2 := hid ((e.h.mono (by simp)).trans hm : Mod [(w.heap.size + 2)] V w2); have HB2 := hid hb; clear hm hb))
  have HE2 : Hid (Ext w w2) := hid ((HP2.out.of_ext.trans HM2.out).new (fun k hk => .inr (by rw [List.mem_singleton] at hk; omega)))
  have HB0 := hid (HB0.out.mod HM2.out (by simp))
  have HB1 := hid (HB1.out.mod HM2.out (by simp))
  have HIV : Hid (IsL w2 (fun b => b < w.heap.size) t A) := hid (IsL.mod HM2.out (fun k hk _ => by have hk : k < w.heap.size := hk; simp; omega) _ HIV.out)
  have hVS : (w.heap.size + 2) < w2.heap.size := HB2.out.lt
  clear KRD HBL HM2 HP2 HBR HIL e
  have c20 : ∀ e : Later w2, e.x.cell? ⟨(w.heap.size + 2), 20, none⟩ = some (.bool false) := HB2.out.cellL 20 rfl
  have c19 : ∀ e : Later w2, e.x.cell? ⟨(w.heap.size + 2), 19, none⟩ = some (str s) := HB2.out.cellL 19 rfl
  have z3 : ∀ e : Later w2, e.x.cell? ⟨w.heap.size, 3, none⟩ = some (.slice A (n + 1) c) := HN.out ▸ HB0.out.cellL 3 rfl
  obtain ⟨e, he⟩ := Later.self w2
  rw [he]
  clear he
  go_upto_region 7 with (go_at_call 69; refine (KC.out _ (HIV.out.ext e.h)).mono ?_; rintro x w3 ⟨g, c', ac, rfl, hb, hg, hlt, hown, hk⟩; have HX := hid (e.h.trans hb); have HGN : Hid (w2.heap.size ≤ g ∧ g < w3.heap.size) := hid ⟨Nat.le_trans e.h.size hg, hlt⟩; have HO1 := hid hown; have HK1 := hid hk; clear hb hg hlt hown hk)
  clear tsa tsb tsc z3 c20 c19 KC
  have HR3 := hid (HB2.out.ext HX.out)
  obtain ⟨x0, x1, x2, x3, x4⟩ := flatC_get t.ch ac (n + 1) n (by omega)
  have y0 : ∀ e : Later w3, e.x.cell? ⟨g, n * 5, none⟩ = _ := cellL (own_cells HO1.out x0)
  have y1 : ∀ e : Later w3, e.x.cell? ⟨g, n * 5 + 1, none⟩ = _ := cellL (own_cells HO1.out x1)
  have y2 : ∀ e : Later w3, e.x.cell? ⟨g, n * 5 + 2, none⟩ = _ := cellL (own_cells HO1.out x2)
  have y3 : ∀ e : Later w3, e.x.cell? ⟨g, n * 5 + 3, none⟩ = _ := cellL (own_cells HO1.out x3)
  have y4 : ∀ e : Later w3, e.x.cell? ⟨g, n * 5 + 4, none⟩ = _ := cellL (own_cells HO1.out x4)
  have HOE : Hid (∀ e : Later w3, e.x.ownsRow _ 38 5 (.slice (some ⟨g, 0, none⟩) (n + 1) c') (n + 1) (flatC t.ch ac (n + 1))) := hid (fun e => ownsRow_mod HO1.out e.h (fun _ _ => by simp))
  have z : ∀ (e : Later w3) (j : Nat), e.x.frozen? ⟨g, j, none⟩ = false := fun e j => (HOE.out e).frozenAt j
  have c19 : ∀ e : Later w3, e.x.cell? ⟨(w.heap.size + 2), 19, none⟩ = some (str s) := HR3.out.cellL 19 rfl
  clear x0 x1 x2 x3 x4
  obtain ⟨e, he⟩ := Later.self w3
  rw [he]
  clear he
  go_upto_region 8 with (first | (go_at_call 71; refine (Ret.later (KT.out _)).mono ?_; rintro x _ ⟨rfl, e, rfl⟩) | (go_at_call 70; refine (Ret.later (StrV_any _ _)).mono ?_; rintro x _ ⟨rfl, e, rfl⟩))
  generalize hW : World.setCell _ _ _ = W2
  have HO2 : Hid (W2.ownsRow _ 38 5 (.slice (some ⟨g, 0, none⟩) (n + 1) c') (n + 1) (flatC (fun i => if i = n then strT Z else t.ch i) (fun i => if i = n then ((none : Option Addr), 0) else ac i) (n + 1))) := hid (by rw [← hW]; exact own_last (n := n) (strT Z) none 0 (HOE.out e))
  have HM : Hid (Mod [g] e.x W2) := hid (by rw [← hW]; exact (((((Mod.refl [g] e.x).setCell (.inl (by simp)) _).setCell (.inl (by simp)) _).setCell (.inl (by simp)) _).setCell (.inl (by simp)) _).setCell (.inl (by simp)) _)
  have HMW : Hid (Mod [g] w2 W2) := hid (((HX.out.trans e.h).mono (by simp)).trans HM.out)
  clear hW y0 y1 y2 y3 y4 z c19
  have HLZ : Hid (IsL W2 (fun _ => True) (lastZ t Z) (some ⟨g, 0, none⟩)) := hid (by
    have h0 : IsL W2 (fun _ => True) (T.mk 4 0 [] false (n + 1) (fun i => if i = n then strT Z else t.ch i)) (some ⟨g, 0, none⟩) := own_IsL (by have := HGN.out.2; have := e.h.size; have := HM.out.size; omega) trivial HO2.out (fun i hi => by
      by_cases h : i = n
      · subst h; simp only [if_true]; exact str_IsL
      · simp only [if_neg h]
        exact IsL.weak (fun _ _ _ => trivial) _ (IsL.mod HM.out (fun b hb _ hs => by rw [List.mem_singleton] at hs; subst hs; have hb : _ < w.heap.size := hb; have := HGN.out.1; omega) _ ((HK1.out i hi).ext e.h)))
    refine IsL.congr (t := T.mk 4 0 [] false (n + 1) (fun i => if i = n then strT Z else t.ch i)) HA1.out HKZ.out.symm (fun i hi => ?_) h0
    have hi : i < n + 1 := hi
    rw [lastZ_ch (by rw [HN.out]; exact hi), HN.out]
    rfl)
  have HIW : Hid (IsL W2 (fun _ => True) t A) := hid (IsL.weak (fun _ _ _ => trivial) _ (IsL.mod HMW.out (fun b hb _ hs => by rw [List.mem_singleton] at hs; subst hs; have hb : _ < w.heap.size := hb; have := HGN.out.1; omega) _ HIV.out))
  have HB0 := hid (HB0.out.mod HMW.out (by have := HGN.out.1; simp; omega))
  have HB1 := hid (HB1.out.mod HMW.out (by have := HGN.out.1; simp; omega))
  have HB2 := hid (HB2.out.mod HMW.out (by have := HGN.out.1; simp; omega))
  have HE2 : Hid (Ext w W2) := hid ((HE2.out.of_ext.trans HMW.out).new (fun k hk => .inr (by have := HGN.out.1; rw [List.mem_singleton] at hk; omega)))
  clear HK1 HO1 HO2 HOE HM HMW HR3 HIV HX e
  refine wp_region_held_drew (S := fun w' => Ext W2 w') (by kernel_rfl) (Mod.refl _ _).drew (fun hHeld => ?_)
  generalize W2.drew = u0 at *
  refine' wpAnyH_take (i := 0) (v := _) rfl (by kernel_rfl) (by kernel_rfl) (by kernel_rfl) (fun _ _ _ h => h) (Or.inl ⟨by rfl, ?hy1⟩) hHeld ?rest1
  case hy1 => (rintro W hM; go_simp; (try with_reducible rfl))
  case rest1 =>
  (try simp only [Act.put, List.getElem_toArray, List.getElem_cons_zero, List.getElem_cons_succ, List.setIfInBounds_toArray, List.set_cons_zero, List.set_cons_succ])
  refine' wpAnyH_take (i := 1) (v := _) rfl (by kernel_rfl) (by kernel_rfl) (by kernel_rfl) (fun _ _ _ h => h) (Or.inl ⟨by rfl, ?hy2⟩) hHeld ?rest2
  case hy2 => (rintro W hM; go_simp; (try with_reducible rfl))
  case rest2 =>
  (try simp only [Act.put, List.getElem_toArray, List.getElem_cons_zero, List.getElem_cons_succ, List.setIfInBounds_toArray, List.set_cons_zero, List.set_cons_succ])
  refine' wpAnyH_take (i := 2) (v := _) rfl (by kernel_rfl) (by kernel_rfl) (by kernel_rfl) (fun _ _ _ h => h) (Or.inl ⟨by rfl, ?hy3⟩) hHeld ?rest3
  case hy3 => (rintro W hM; go_simp; (try with_reducible rfl))
  case rest3 =>
  (try simp only [Act.put, List.getElem_toArray, List.getElem_cons_zero, List.getElem_cons_succ, List.setIfInBounds_toArray, List.set_cons_zero, List.set_cons_succ])
  refine' wpAnyH_take (i := 3) (v := _) rfl (by kernel_rfl) (by kernel_rfl) (by kernel_rfl) (fun _ _ _ h => h) (Or.inl ⟨by rfl, ?hy4⟩) hHeld ?rest4
  case hy4 => (rintro W hM; go_simp; (try with_reducible rfl))
  case rest4 =>
  (try simp only [Act.put, List.getElem_toArray, List.getElem_cons_zero, List.getElem_cons_succ, List.setIfInBounds_toArray, List.set_cons_zero, List.set_cons_succ])
  refine' wpAnyH_take (i := 4) (v := _) rfl (by kernel_rfl) (by kernel_rfl) (by kernel_rfl) (fun _ _ _ h => h) (Or.inl ⟨by rfl, ?hy5⟩) hHeld ?rest5
  case hy5 => (rintro W hM; have y1 : W.cell? ⟨w.heap.size + 2, 1, none⟩ = some (.int .i64 (cr : Int)) := HCRC.out ▸ (HB2.out.ext hM).cell 1; go_simp; (try with_reducible rfl))
  case rest5 =>
  (try simp only [Act.put, List.getElem_toArray, List.getElem_cons_zero, List.getElem_cons_succ, List.setIfInBounds_toArray, List.set_cons_zero, List.set_cons_succ])
  refine' wpAnyH_take (i := 5) (v := _) rfl (by kernel_rfl) (by kernel_rfl) (by kernel_rfl) (fun _ _ _ h => h) (Or.inl ⟨by rfl, ?hy6⟩) hHeld ?rest6
  case hy6 => (rintro W hM; go_simp; (try with_reducible rfl))
  case rest6 =>
  (try simp only [Act.put, List.getElem_toArray, List.getElem_cons_zero, List.getElem_cons_succ, List.setIfInBounds_toArray, List.set_cons_zero, List.set_cons_succ])
  refine wpAnyH_take (i := 8) rfl (by kernel_rfl) (by kernel_rfl) (by kernel_rfl) (fun _ _ _ h => h) (yieldsIf_row (by rfl) 38 _ rfl _ rfl (fun W hM => HB0.out.ext hM) Try.underlying38 rfl (by kernel_rfl)) hHeld ?_
  (try simp only [Act.put, List.getElem_toArray, List.getElem_cons_zero, List.getElem_cons_succ, List.setIfInBounds_toArray, List.set_cons_zero, List.set_cons_succ])
  refine wpAnyH_ready (rs := [6]) (by kernel_rfl) (by simp) ?_
  refine AllReadyH.cons rfl (fun K hK => ?_) AllReadyH.nil
  go_simp
  go_at_call 74
  refine (ListV_any _ _ _ _).mono ?_
  rintro x u1 ⟨rfl, hb⟩
  refine hK.out _ _ (hHeld.trans hb) (fun hHeld => ?_)
  clear hK K
  (try simp only [Act.put, List.getElem_toArray, List.getElem_cons_zero, List.getElem_cons_succ, List.setIfInBounds_toArray, List.set_cons_zero, List.set_cons_succ])
  refine wpAnyH_ready (rs := [7]) (by kernel_rfl) (by simp) ?_
  refine AllReadyH.cons rfl (fun K hK => ?_) AllReadyH.nil
  go_simp
  go_at_call 73
  refine (KS.out _ _ _ (HLZ.out.ext hHeld)).mono ?_
  rintro x u2 ⟨A2, c2, rfl, hb, hl⟩
  refine hK.out _ _ (hHeld.trans hb) (fun hHeld => ?_)
  clear hK K
  (try simp only [Act.put, List.getElem_toArray, List.getElem_cons_zero, List.getElem_cons_succ, List.setIfInBounds_toArray, List.set_cons_zero, List.set_cons_succ])
  refine wpAnyH_ready (rs := [9]) (by kernel_rfl) (by simp) ?_
  refine AllReadyH.cons rfl (fun K hK => ?_) AllReadyH.nil
  go_simp
  go_at_call 72
  refine (KSM.out _ _ _ hl (HIW.out.ext hHeld)).mono ?_
  rintro x u3 ⟨rfl, hb⟩
  refine hK.out _ _ (hHeld.trans hb) (fun hHeld => ?_)
  clear hK K
  (try simp only [Act.put, List.getElem_toArray, List.getElem_cons_zero, List.getElem_cons_succ, List.setIfInBounds_toArray, List.set_cons_zero, List.set_cons_succ])
  refine' wpAnyH_take (i := 10) (v := _) rfl (by kernel_rfl) (by kernel_rfl) (by kernel_rfl) (fun _ _ _ h => h) (Or.inl ⟨by rfl, ?hy7⟩) hHeld ?rest7
  case hy7 => (rintro W hM; go_simp; (try with_reducible rfl))
  case rest7 =>
  (try simp only [Act.put, List.getElem_toArray, List.getElem_cons_zero, List.getElem_cons_succ, List.setIfInBounds_toArray, List.set_cons_zero, List.set_cons_succ])
  refine wpAnyH_done (by kernel_rfl) ?_ _
  have HX3 : Hid (Ext W2 u3) := hid hHeld
  clear hHeld hb hl KS KSM HLZ HIW HB0 KT
  have HB1 := hid (HB1.out.ext HX3.out)
  have HB2 := hid (HB2.out.ext HX3.out)
  have HE2 := hid (HE2.out.trans HX3.out)
  clear HX3
  obtain ⟨e, he⟩ := Later.self u3
  rw [he]
  clear he
  cases B with
  | false =>
    have HV0 := hid (HV.out.1 rfl)
    go_wp2_with (first | (refine wpList_store_mid rfl 68 _ _ rfl (w.heap.size + 1) 0 nilPC (by rfl) (by rfl) ((HB1.out.later e).there (Nat.le_refl 19)) (by kernel_rfl) (by simp [nilPC, Value.oneCell']) ?_))
    generalize hZZ : World.setCells _ _ _ _ = ZZ
    have HZB : Hid (Blk ZZ (w.heap.size + 1) 68 nilPC) := hid (by rw [← hZZ]; exact setCells_all (ds := nilPC) (HB1.out.later e) rfl)
    have HZM : Hid (Ext w ZZ) := hid (by rw [← hZZ]; exact setCells_mod _ _ (HE2.out.trans e.h) (.inr (by omega)))
    clear hZZ
    refine bodyPost_ret (results_cell2 rfl _ (by rfl) rfl HZB.out Try.underlying68 rfl (by kernel_rfl)) rfl (Ret.mk (by rw [HV0.out]; rfl) HZM.out)
  | true =>
    have HVV : Hid ((P.right = 0 → v = .tuple #[.agg P.c, .int .i64 0]) ∧ (P.right ≠ 0 → v = .tuple #[.agg nilP.c, .int .i64 P.right])) := hid ⟨HV.out.2.1 rfl, HV.out.2.2 rfl⟩
    clear HV
    go_upto_region 10 with fail
    have HPX : Hid (∀ e : Later u3, e.x.rangeAt (w.heap.size + 2) 0 [.int .u64 (P.fl : Int), .int .i64 P.crc, .int .i64 P.d.sch, str P.d.name, .int .u64 (P.d.node : Int), .int .u64 (P.d.svc : Int), .int .i64 P.s.sch, str P.s.name, .int .u64 (P.s.node : Int), .int .u64 (P.s.svc : Int), .int .i64 P.r.sch, str P.r.name, .int .u64 (P.r.node : Int), .int .u64 (P.r.svc : Int), .int .u64 (P.t : Int), .int .u64 (P.q : Int), .int .u64 (P.l : Int), .int .u64 (P.o : Int), .int .u64 (P.n : Int)]) := HB2.out.range 0 19 (by rw [Array.toList_extract]; rfl)
    have tk1 : True := trivial
    have tk2 : True := trivial
    go_upto_region 11 with (first | (clear tk1; refine wpList_mid (by rfl) 68 _ rfl _ 0 rfl _ _ (HPX.out _) Try.underlying68 rfl (by kernel_rfl) ?_) | (go_at_call 64; refine (Ret.later (KRG.out _)).mono ?_; rintro x _ ⟨rfl, e, rfl⟩))
    by_cases hR : P.right = 0
    · have HR := hid hR
      have HV0 := hid (HVV.out.1 hR)
      have t1a : ((P.right) == (0)) = true := by rw [beq_iff_eq]; exact hR
      have t1b : ((P.right) = (0)) = True := eq_true (by exact hR)
      have t1c : ((P.right) != (0)) = false := by rw [bne_eq_false_iff_eq]; exact hR
      clear hR
      go_upto_region 13 with fail
      go_wp2_with (first | (clear tk2; refine wpList_mid (by rfl) 68 _ rfl _ 0 rfl _ _ (HPX.out _) Try.underlying68 rfl (by kernel_rfl) ?_) | (refine wpList_store_mid rfl 68 _ _ rfl (w.heap.size + 1) 0 #[.int .u64 (P.fl : Int), .int .i64 P.crc, .int .i64 P.d.sch, str P.d.name, .int .u64 (P.d.node : Int), .int .u64 (P.d.svc : Int), .int .i64 P.s.sch, str P.s.name, .int .u64 (P.s.node : Int), .int .u64 (P.s.svc : Int), .int .i64 P.r.sch, str P.r.name, .int .u64 (P.r.node : Int), .int .u64 (P.r.svc : Int), .int .u64 (P.t : Int), .int .u64 (P.q : Int), .int .u64 (P.l : Int), .int .u64 (P.o : Int), .int .u64 (P.n : Int)] (by rfl) (by rfl) ((HB1.out.later e).there (Nat.le_refl 19)) (by kernel_rfl) (by simp [Value.oneCell']) ?_))
      generalize hZZ : World.setCells _ _ _ _ = ZZ
      have HZB : Hid (Blk ZZ (w.heap.size + 1) 68 #[.int .u64 (P.fl : Int), .int .i64 P.crc, .int .i64 P.d.sch, str P.d.name, .int .u64 (P.d.node : Int), .int .u64 (P.d.svc : Int), .int .i64 P.s.sch, str P.s.name, .int .u64 (P.s.node : Int), .int .u64 (P.s.svc : Int), .int .i64 P.r.sch, str P.r.name, .int .u64 (P.r.node : Int), .int .u64 (P.r.svc : Int), .int .u64 (P.t : Int), .int .u64 (P.q : Int), .int .u64 (P.l : Int), .int .u64 (P.o : Int), .int .u64 (P.n : Int)]) := hid (by rw [← hZZ]; exact setCells_all (ds := #[.int .u64 (P.fl : Int), .int .i64 P.crc, .int .i64 P.d.sch, str P.d.name, .int .u64 (P.d.node : Int), .int .u64 (P.d.svc : Int), .int .i64 P.s.sch, str P.s.name, .int .u64 (P.s.node : Int), .int .u64 (P.s.svc : Int), .int .i64 P.r.sch, str P.r.name, .int .u64 (P.r.node : Int), .int .u64 (P.r.svc : Int), .int .u64 (P.t : Int), .int .u64 (P.q : Int), .int .u64 (P.l : Int), .int .u64 (P.o : Int), .int .u64 (P.n : Int)]) (HB1.out.later e) rfl)
      have HZM : Hid (Ext w ZZ) := hid (by rw [← hZZ]; exact setCells_mod _ _ (HE2.out.trans e.h) (.inr (by omega)))
      clear hZZ
      refine bodyPost_ret (results_cell2 rfl _ (by rfl) rfl HZB.out Try.underlying68 rfl (by kernel_rfl)) rfl (Ret.mk (by rw [HV0.out]; rfl) HZM.out)
    · have HV0 := hid (HVV.out.2 hR)
      have t1a : ((P.right) == (0)) = false := by rw [beq_eq_false_iff_ne]; exact hR
      have t1b : ((P.right) = (0)) = False := eq_false (by exact hR)
      have t1c : ((P.right) != (0)) = true := by rw [bne_iff_ne]; exact hR
      clear hR
      generalize P.right = RR at *
      go_wp2_with (first | (refine wpList_store_mid rfl 68 _ _ rfl (w.heap.size + 1) 0 nilPC (by rfl) (by rfl) ((HB1.out.later e).there (Nat.le_refl 19)) (by kernel_rfl) (by simp [nilPC, Value.oneCell']) ?_))
      generalize hZZ : World.setCells _ _ _ _ = ZZ
      have HZB : Hid (Blk ZZ (w.heap.size + 1) 68 nilPC) := hid (by rw [← hZZ]; exact setCells_all (ds := nilPC) (HB1.out.later e) rfl)
      have HZM : Hid (Ext w ZZ) := hid (by rw [← hZZ]; exact setCells_mod _ _ (HE2.out.trans e.h) (.inr (by omega)))
      clear hZZ
      refine bodyPost_ret (results_cell2 rfl _ (by rfl) rfl HZB.out Try.underlying68 rfl (by kernel_rfl)) rfl (Ret.mk (by rw [HV0.out]; rfl) HZM.out)
theorem pof_any (t : T) (hok : t.ok) (hsz : t.size ≤ 5000) (A : Option Addr) (c : Nat) (hkc : t.k ≤ c) (w : World) (h : IsL w (fun _ => True) t A) : Calls Try.prog 35 #[itemV t A c] w (Ret (ofPV t) w) := by
  obtain ⟨P, s, bad, hrd⟩ : ∃ P s bad, readR nilP [] t = (P, s, bad) := ⟨_, _, _, rfl⟩
  cases bad with
  | true =>
    have e : ofPV t = .tuple #[.agg nilP.c, .int .i64 2] := by unfold ofPV ofP; rw [hrd]; rfl
    rw [e]
    exact pof_bad t hok hsz A c hkc w h P s hrd
  | false =>
    by_cases hs : s = []
    · subst hs
      refine pof_nosum t hok hsz A c hkc w h P hrd _ ⟨fun h0 => ?_, fun h0 => ?_⟩
      · unfold ofPV ofP; rw [hrd]; simp [h0]
      · unfold ofPV ofP; rw [hrd]; simp [h0]
    · have hh := readR_has (t := t) (by rw [hrd]) (by rw [hrd]; exact hs)
      rw [hrd] at hh
      obtain ⟨h1, h2, h3, h4, h5, cr, h6, h7, h8⟩ := hh
      have h6' : P.crc = (cr : Int) := h6
      have hcn : P.crc.toNat = cr := by rw [h6']; rfl
      refine pof_sum t hok hsz A c hkc w h P s cr ⟨h6, h7, h8⟩ ⟨h4, h5⟩ h1 hrd _ _ rfl ⟨fun h0 => ?_, fun h0 h9 => ?_, fun h0 h9 => ?_⟩
      · unfold ofPV ofP; rw [hrd]; simp [hcn, h0, hs]
      · unfold ofPV ofP; rw [hrd]; simp [hcn, h0, hs, h9]
      · unfold ofPV ofP; rw [hrd]; simp [hcn, h0, hs, h9]
end Go.Proofs.Ytogjghmoankleaa


namespace Go.Proofs.Ytogjghmoankleaa
open Go.RowKit
set_option linter.unusedVariables false
set_option linter.unusedSimpArgs false

theorem numT_plain (n : Nat) : (numT n).plain = true ∧ (numT n).bytes.length ≤ 9 := by
  have := headL_le 0 n
  exact ⟨by simp [numT, T.plain, T.node, T.all], by simpa [numT, T.bytes] using this⟩
end Go.Proofs.Ytogjghmoankleaa


namespace Go.Proofs.Ytogjghmoankleaa
open Go.RowKit
set_option linter.unusedVariables false
set_option linter.unusedSimpArgs false

theorem pairT2_plain (l k : Nat) : (pairT2 l k).plain = true ∧ (pairT2 l k).size ≤ 100 := by
  exact ⟨by simp [pairT2, numT, T.plain, T.node, T.all], by simp [pairT2, numT, T.size, T.sum]⟩
end Go.Proofs.Ytogjghmoankleaa


namespace Go.Proofs.Ytogjghmoankleaa
open Go.RowKit
set_option linter.unusedVariables false
set_option linter.unusedSimpArgs false

theorem T.plain_of {t : T} {d : Nat} (h : t.right d = true) : t.plain = true := by
  rw [T.right_eq, Bool.and_eq_true] at h; exact h.2
theorem bytes_same {a b : T} (ha : a.plain = true) (hb : b.plain = true) (oa : a.ok) (ob : b.ok) (h : a.bytes = b.bytes) : a.same b = true := (T.bytes_inj a b ha hb oa ob [] [] (by rw [h])).1

def isPrev (s : List UInt8) (e : EV) : Prop := e.ok = true ∧ (eidT e).bytes = s
def isAge (s : List UInt8) (n : Nat) : Prop := n ≤ 1099511627776 ∧ headL 0 n = s
def isHops (s : List UInt8) (h : Nat × Nat) : Prop := mayB h.1 h.2 = true ∧ 130 :: (headL 0 h.1 ++ headL 0 h.2) = s

open Classical in
noncomputable def theO {α : Type} (P : α → Prop) : Option α := if h : ∃ e, P e then some h.choose else none
theorem theO_some {α : Type} {P : α → Prop} (u : ∀ x y, P x → P y → x = y) {x : α} (h : P x) : theO P = some x := by
  unfold theO
  have hx : ∃ e, P e := ⟨x, h⟩
  rw [dif_pos hx, u _ _ hx.choose_spec h]
theorem theO_none {α : Type} {P : α → Prop} (h : ∀ x, ¬ P x) : theO P = none := by
  unfold theO
  rw [dif_neg (by rintro ⟨x, hx⟩; exact h x hx)]
noncomputable def prevO (s : List UInt8) : Option EV := theO (isPrev s)
noncomputable def ageO (s : List UInt8) : Option Nat := theO (isAge s)
noncomputable def hopsO (s : List UInt8) : Option (Nat × Nat) := theO (isHops s)
def PTree (l : List UInt8) : Prop := (parseR l).2 = 0 → ∃ t : T, t.right 8 = true ∧ t.ok ∧ t.bytes = l

/-- Of a right tree the name that it may be. -/
theorem prev_tree {t : T} (hr : t.right 8 = true) (hok : t.ok) {e : EV} (h : isPrev t.bytes e) : readE t = e ∧ ofB t = true := by
  obtain ⟨g1, g2, g3, g4⟩ := eidT_ok h.1
  have p := T.plain_of hr
  have s1 := bytes_same g3 p g1 hok h.2
  have s2 := bytes_same p g3 hok g1 h.2.symm
  have e1 := readE_same h.1 s1
  refine ⟨e1, ?_⟩
  unfold ofB
  rw [e1, h.1, hr, s2]; rfl
theorem tree_prev {t : T} (hr : t.right 8 = true) (hok : t.ok) (h : ofB t = true) : isPrev t.bytes (readE t) := by
  unfold ofB at h
  rw [hr] at h
  simp only [Bool.and_eq_true, Bool.true_and] at h
  obtain ⟨g1, g2, g3, g4⟩ := eidT_ok h.1
  exact ⟨h.1, (T.same_bytes t _ g1 h.2).symm⟩
theorem isPrev_inj {s : List UInt8} (x y : EV) (hx : isPrev s x) (hy : isPrev s y) : x = y := by
  obtain ⟨g1, g2, g3, g4⟩ := eidT_ok hx.1
  have h1 := readE_same hx.1 (T.same_refl (eidT x))
  have h2 : isPrev (eidT x).bytes y := by rw [hx.2]; exact hy
  rw [← h1, (prev_tree (g2 8 (by omega)) g1 h2).1]
theorem prevO_bad {s : List UInt8} (h : (parseR s).2 ≠ 0) : prevO s = none := theO_none fun e he => h (by
  obtain ⟨g1, g2, g3, g4⟩ := eidT_ok he.1
  rw [← he.2, parse_back (g2 8 (by omega)) g1])
theorem prevO_tree {t : T} (hr : t.right 8 = true) (hok : t.ok) : prevO t.bytes = if ofB t then some (readE t) else none := by
  by_cases h : ofB t = true
  · rw [if_pos h]; exact theO_some isPrev_inj (tree_prev hr hok h)
  · rw [if_neg h]; exact theO_none fun e he => h (prev_tree hr hok he).2

theorem isAge_inj {s : List UInt8} (x y : Nat) (hx : isAge s x) (hy : isAge s y) : x = y := by
  have e : (numT x).bytes = (numT y).bytes := by rw [(numT_facts x).2.2, (numT_facts y).2.2, hx.2, hy.2]
  have := bytes_same (numT_plain x).1 (numT_plain y).1 (num_ok (by have := hx.1; omega)) (num_ok (by have := hy.1; omega)) e
  exact (same_mk this).2.1.symm
theorem ageO_bad {s : List UInt8} (h : (parseR s).2 ≠ 0) : ageO s = none := theO_none fun n hn => h (by
  rw [← hn.2, ← (numT_facts n).2.2, parse_back (numT_facts n).2.1 (num_ok (by have := hn.1; omega))])
def ageB (t : T) : Bool := decide (t.kind = 0) && decide (t.n ≤ 1099511627776)
theorem ageO_tree {t : T} (hr : t.right 8 = true) (hok : t.ok) : ageO t.bytes = if ageB t then some t.n else none := by
  have p := T.plain_of hr
  by_cases h : ageB t = true
  · rw [if_pos h]
    simp only [ageB, Bool.and_eq_true, decide_eq_true_eq] at h
    refine theO_some isAge_inj ⟨h.2, ?_⟩
    cases t with
    | nil => exact absurd hok T.not_nil
    | mk kind n s op k ch =>
      have hk : kind = 0 := h.1
      subst hk
      rfl
  · rw [if_neg h]
    refine theO_none fun n hn => h ?_
    have := bytes_same (numT_plain n).1 p (num_ok (by have := hn.1; omega)) hok (by rw [(numT_facts n).2.2, hn.2])
    have g := same_mk this
    simp only [ageB, Bool.and_eq_true, decide_eq_true_eq]
    exact ⟨g.1, by rw [g.2.1]; exact hn.1⟩

theorem may_le {h : Nat × Nat} (hm : mayB h.1 h.2 = true) : h.1 ≤ 255 ∧ h.2 ≤ 255 := by simp [mayB] at hm; omega
theorem isHops_inj {s : List UInt8} (x y : Nat × Nat) (hx : isHops s x) (hy : isHops s y) : x = y := by
  have bx := may_le hx.1
  have by_ := may_le hy.1
  have fx := pairT2_facts x.1 x.2 (by omega) (by omega)
  have fy := pairT2_facts y.1 y.2 (by omega) (by omega)
  have e : (pairT2 x.1 x.2).bytes = (pairT2 y.1 y.2).bytes := by rw [fx.2.2.2, fy.2.2.2, hx.2, hy.2]
  have := same_mk (bytes_same (pairT2_plain x.1 x.2).1 (pairT2_plain y.1 y.2).1 fx.1 fy.1 e)
  have a := same_mk (this.2.2.2.2.2 0 (by omega))
  have b : (numT x.2).same (numT y.2) = true := this.2.2.2.2.2 1 (by omega)
  have b := same_mk b
  exact Prod.ext a.2.1.symm b.2.1.symm
theorem hopsO_bad {s : List UInt8} (h : (parseR s).2 ≠ 0) : hopsO s = none := theO_none fun n hn => h (by
  have b := may_le hn.1
  have f := pairT2_facts n.1 n.2 (by omega) (by omega)
  rw [← hn.2, ← f.2.2.2, parse_back f.2.2.1 f.1])
def hopsB (t : T) : Bool := decide (t.kind = 4) && !t.op && decide (t.k = 2) && decide ((t.ch 0).kind = 0) && decide ((t.ch 1).kind = 0) && mayB (t.ch 0).n (t.ch 1).n
theorem hopsO_tree {t : T} (hr : t.right 8 = true) (hok : t.ok) : hopsO t.bytes = if hopsB t then some ((t.ch 0).n, (t.ch 1).n) else none := by
  have p := T.plain_of hr
  by_cases h : hopsB t = true
  · rw [if_pos h]
    simp only [hopsB, Bool.and_eq_true, decide_eq_true_eq, Bool.not_eq_true'] at h
    obtain ⟨⟨⟨⟨⟨h1, h2⟩, h3⟩, h4⟩, h5⟩, h6⟩ := h
    refine theO_some isHops_inj ⟨h6, ?_⟩
    cases t with
    | nil => exact absurd hok T.not_nil
    | mk kind n s op k ch =>
      have hk : kind = 4 := h1
      have ho : op = false := h2
      have hk2 : k = 2 := h3
      subst hk ho hk2
      have h4 : (ch 0).kind = 0 := h4
      have h5 : (ch 1).kind = 0 := h5
      have c0 : (ch 0).bytes = headL 0 (ch 0).n := by
        have : (ch 0).ok := hok.2.2.2.2 0 (by omega)
        revert this h4
        cases ch 0 with
        | nil => exact fun _ h => absurd h T.not_nil
        | mk kind n s op k ch => intro h4 _; have hk : kind = 0 := h4; subst hk; rfl
      have c1 : (ch 1).bytes = headL 0 (ch 1).n := by
        have : (ch 1).ok := hok.2.2.2.2 1 (by omega)
        revert this h5
        cases ch 1 with
        | nil => exact fun _ h => absurd h T.not_nil
        | mk kind n s op k ch => intro h4 _; have hk : kind = 0 := h4; subst hk; rfl
      show 130 :: (headL 0 (ch 0).n ++ headL 0 (ch 1).n) = _
      rw [← c0, ← c1]
      simp [T.bytes, T.cat, headL]
      rfl
  · rw [if_neg h]
    refine theO_none fun n hn => h ?_
    have b := may_le hn.1
    have f := pairT2_facts n.1 n.2 (by omega) (by omega)
    have g := same_mk (bytes_same (pairT2_plain n.1 n.2).1 p f.1 hok (f.2.2.2.trans hn.2))
    have a := same_mk (g.2.2.2.2.2 0 (by omega))
    have b : (numT n.2).same (t.ch 1) = true := g.2.2.2.2.2 1 (by omega)
    have b := same_mk b
    have hm := hn.1
    rw [← a.2.1, ← b.2.1] at hm
    simp only [hopsB, Bool.and_eq_true, decide_eq_true_eq, Bool.not_eq_true']
    exact ⟨⟨⟨⟨⟨g.1, g.2.2.2.1⟩, g.2.2.2.2.1⟩, a.1⟩, b.1⟩, hm⟩
end Go.Proofs.Ytogjghmoankleaa


namespace Go.Proofs.Ytogjghmoankleaa
open Go.RowKit
set_option linter.unusedVariables false
set_option linter.unusedSimpArgs false

theorem sum_congr {f g : Nat → Nat} : ∀ {k : Nat}, (∀ i, i < k → f i = g i) → T.sum f k = T.sum g k
  | 0, _ => rfl
  | k + 1, h => by rw [T.sum, T.sum, sum_congr (fun i hi => h i (by omega)), h k (by omega)]
theorem size_same (a : T) : ∀ b : T, b.ok → a.same b = true → a.size = b.size := by
  induction a with
  | nil =>
    intro b hb h
    cases b with
    | nil => rfl
    | mk kd n s op k ch => simp [T.same] at h
  | mk kind n s op k ch ih =>
    intro b hb h
    obtain ⟨h1, h2, h3, h4, h5, h6⟩ := same_mk h
    cases b with
    | nil => exact absurd hb T.not_nil
    | mk kd' n' s' op' k' ch' =>
      have h3 : s' = s := h3
      have h5 : k' = k := h5
      subst h3 h5
      unfold T.size
      rw [sum_congr (k := k') (f := fun i => (ch i).size) (g := fun i => (ch' i).size) (fun i hi => ih i (ch' i) (chk_ok (t := T.mk kd' n' s' op' k' ch') hb hi) (h6 i hi))]
theorem same_list {L : List T} {t : T} (h : (listT L).same t = true) : t.kind = 4 ∧ t.n = 0 ∧ t.s = [] ∧ t.op = false ∧ t.k = L.length ∧ ∀ (i : Nat) (x : T), L[i]? = some x → x.same (t.ch i) = true := by
  have g := same_mk h
  refine ⟨g.1, g.2.1, g.2.2.1, g.2.2.2.1, g.2.2.2.2.1, fun i x hx => ?_⟩
  have hi : i < L.length := by
    rcases Nat.lt_or_ge i L.length with h | h
    · exact h
    · rw [List.getElem?_eq_none h] at hx; exact absurd hx (by simp)
  have := g.2.2.2.2.2 i hi
  rw [hx] at this
  exact this
theorem list_same {L : List T} {t : T} (h1 : t.kind = 4) (h2 : t.n = 0) (h3 : t.s = []) (h4 : t.op = false) (h5 : t.k = L.length) (h6 : ∀ (i : Nat) (x : T), L[i]? = some x → x.same (t.ch i) = true) : (listT L).same t = true := by
  unfold listT T.same
  rw [h1, h2, h3, h4, h5]
  simp only [beq_self_eq_true, Bool.true_and, T.all_iff]
  intro i hi
  exact h6 i _ (by rw [List.getElem?_eq_getElem hi]; rfl)
theorem num_same {n : Nat} {t : T} (h : (numT n).same t = true) : t.kind = 0 ∧ t.n = n := ⟨(same_mk h).1, (same_mk h).2.1⟩
theorem str_same {s : List UInt8} {t : T} (h : (strT s).same t = true) : t.kind = 2 ∧ t.s = s := ⟨(same_mk h).1, (same_mk h).2.2.1⟩
/-- The items ahead of the sum. -/
def priF (p : PV) (k : Nat) : List T := [numT 7, numT p.fl, numT k, eidT p.d, eidT p.s, eidT p.r, listT [numT p.t, numT p.q], numT p.l] ++ (if p.fl % 2 = 1 then [numT p.o, numT p.n] else [])
theorem priL_front (p : PV) (k : Nat) (s : List UInt8) : priL p k s = priF p k ++ (if k = 0 then [] else [strT s]) := by
  unfold priL priF; rw [List.append_assoc]
theorem priF_length (p : PV) (k : Nat) : (priF p k).length = 8 + (if p.fl % 2 = 1 then 2 else 0) := by
  unfold priF; split <;> rfl
theorem T.same_reflT (t : T) : t.same t = true := T.same_refl t
theorem lastZ_parts {t : T} (h0 : 0 < t.k) (Z : List UInt8) : (lastZ t Z).kind = 4 ∧ (lastZ t Z).n = 0 ∧ (lastZ t Z).s = [] ∧ (lastZ t Z).op = false := ⟨rfl, rfl, rfl, rfl⟩
theorem front_same {p : PV} {k : Nat} {s Z : List UInt8} {t : T} (hk : k ≠ 0) (h : (priT p k s).same t = true) : (priT p k Z).same (lastZ t Z) = true := by
  obtain ⟨h1, h2, h3, h4, h5, h6⟩ := same_list h
  rw [priL_front, if_neg hk] at h5 h6
  have hl : t.k = (priF p k).length + 1 := by rw [h5]; simp
  unfold priT
  rw [priL_front, if_neg hk]
  refine list_same rfl rfl rfl rfl (by rw [lastZ_k (by omega), hl]; simp) (fun i x hx => ?_)
  have hi : i < (priF p k).length + 1 := by
    rcases Nat.lt_or_ge i ((priF p k).length + 1) with h | h
    · exact h
    · rw [List.getElem?_eq_none (by simp; omega)] at hx; exact absurd hx (by simp)
  rw [lastZ_ch (by omega)]
  by_cases e : i = (priF p k).length
  · rw [if_pos (by omega)]
    rw [e, List.getElem?_append_right (Nat.le_refl _)] at hx
    simp at hx
    subst hx
    exact T.same_refl _
  · rw [if_neg (by omega)]
    refine h6 i x ?_
    rw [List.getElem?_append_left (by omega)] at hx ⊢
    exact hx
theorem last_same2 {p : PV} {k : Nat} {s : List UInt8} {t : T} (hk : k ≠ 0) (h : (priT p k s).same t = true) : (lastZ t s).same t = true := by
  obtain ⟨h1, h2, h3, h4, h5, h6⟩ := same_list h
  rw [priL_front, if_neg hk] at h5 h6
  have hl : t.k = (priF p k).length + 1 := by rw [h5]; simp
  refine list_same h1 h2 h3 h4 (by rw [List.length_append, frontL_length]; simp; omega) (fun i x hx => ?_)
  have hi : i < t.k := by
    rcases Nat.lt_or_ge i t.k with h | h
    · exact h
    · rw [List.getElem?_eq_none (by rw [List.length_append, frontL_length]; simp; omega)] at hx; exact absurd hx (by simp)
  by_cases e : i = t.k - 1
  · rw [e, List.getElem?_append_right (by rw [frontL_length]; omega), frontL_length] at hx
    simp at hx
    subst hx
    have := h6 (priF p k).length (strT s) (by rw [List.getElem?_append_right (Nat.le_refl _)]; simp)
    rw [show i = (priF p k).length by omega]
    exact this
  · rw [List.getElem?_append_left (by rw [frontL_length]; omega)] at hx
    have hx2 : x = t.ch i := by
      unfold frontL at hx
      rw [List.getElem?_map, List.getElem?_range (by omega)] at hx
      simpa using hx.symm
    rw [hx2]
    exact T.same_refl _
theorem right_upP (t : T) : ∀ d, t.right d = true → t.right (d + 1) = true := by
  induction t with
  | nil => intro d h; exact h
  | mk kind n s op k ch ih =>
    intro d h
    unfold T.right at h ⊢
    by_cases h0 : d < 1
    · rw [if_pos h0] at h; cases h
    · rw [if_neg h0, Bool.and_eq_true, T.all_iff] at h
      rw [if_neg (by omega), Bool.and_eq_true, T.all_iff]
      exact ⟨h.1, fun i hi => by have := ih i (d - 1) (h.2 i hi); rw [show d + 1 - 1 = d - 1 + 1 by omega]; exact this⟩
theorem nm_back {e : EV} (he : e.ok = true) {t : T} (hr : t.right 8 = true) (hok : t.ok) (h : (eidT e).same t = true) : ofB t = true ∧ nmE t = e := by
  obtain ⟨e1, e2⟩ := prev_tree hr hok (e := e) ⟨he, T.same_bytes _ _ hok h⟩
  exact ⟨e2, by unfold nmE; rw [if_pos e2, e1]⟩
/-- What read reads of a right primary's item. -/
theorem read_back {p : PV} (h : p.right = 0) {t : T} (hr : t.right 8 = true) (hok : t.ok) (hs : p.tree.same t = true) : readR nilP [] t = (p, priSum p p.crc.toNat, false) := by
  have hra := PV.right_ranged h
  obtain ⟨d1, d2, d3, c0, c2, _, _, _, _, _, _⟩ := PV.ranged_spec hra
  obtain ⟨k, hk⟩ : ∃ k, p.crc.toNat = k := ⟨_, rfl⟩
  have hkc : p.crc = (k : Int) := by omega
  have hk2 : k ≤ 2 := by omega
  unfold PV.tree at hs
  rw [hk] at hs ⊢
  have hsl := priSum_length p hk2
  generalize priSum p k = S at *
  obtain ⟨g1, g2, g3, g4, g5, g6⟩ := same_list hs
  rw [priL_length] at g5
  have k8 : 8 ≤ t.k := by rw [g5]; unfold priN; omega
  rw [priL_front] at g6
  have i0 : ∀ (i : Nat) (x : T), (priF p k)[i]? = some x → x.same (t.ch i) = true := fun i x hx => g6 i x (by
    have hi : i < (priF p k).length := by
      rcases Nat.lt_or_ge i (priF p k).length with h | h
      · exact h
      · rw [List.getElem?_eq_none h] at hx; exact absurd hx (by simp)
    rw [List.getElem?_append_left hi]; exact hx)
  have q0 := num_same (i0 0 (numT 7) rfl)
  have q1 := num_same (i0 1 (numT p.fl) rfl)
  have q2 := num_same (i0 2 (numT k) rfl)
  have q7 := num_same (i0 7 (numT p.l) rfl)
  have hk6 : ∀ i, i < t.k → (t.ch i).right 7 = true := fun i hi => chk_right hr hi
  have up : ∀ u : T, u.right 7 = true → u.right 8 = true := fun u hu => right_upP u 7 hu
  have n3 := nm_back d1 (up _ (hk6 3 (by omega))) (chk_ok hok (by omega)) (i0 3 (eidT p.d) rfl)
  have n4 := nm_back d2 (up _ (hk6 4 (by omega))) (chk_ok hok (by omega)) (i0 4 (eidT p.s) rfl)
  have n5 := nm_back d3 (up _ (hk6 5 (by omega))) (chk_ok hok (by omega)) (i0 5 (eidT p.r) rfl)
  obtain ⟨w1, w2, w3, w4, w5, w6⟩ := same_list (i0 6 (listT [numT p.t, numT p.q]) rfl)
  have w5 : (t.ch 6).k = 2 := w5
  have q60 := num_same (w6 0 (numT p.t) rfl)
  have q61 := num_same (w6 1 (numT p.q) rfl)
  have hhead : headR t = true := by unfold headR; rw [hr, g1, g4, decide_eq_true k8]; rfl
  have hnum : numsR t := by
    unfold numsR
    rw [kidT_eq]
    refine ⟨⟨q0.1, q1.1, q2.1⟩, q0.2, ?_⟩
    rw [g5, q1.2, q2.2]
    unfold priN cntN
    have : (if k = 0 then 0 else 1) = (if k = 1 ∨ k = 2 then 1 else 0) := by split <;> split <;> omega
    rw [this]
  have hmin : ((min k 3 : Nat) : Int) = p.crc := by rw [hkc]; omega
  unfold readR
  rw [if_neg (by rw [hhead]; decide), if_neg (fun h => h hnum), kidT_eq]
  have hnb : nmB false (fun i => t.ch (i + 3)) 3 = false := by
    show (((false || !ofB (t.ch 3)) || !ofB (t.ch 4)) || !ofB (t.ch 5)) = false
    rw [n3.1, n4.1, n5.1]; rfl
  rw [if_neg (by rw [hnb]; decide)]
  have hP : nmP (flcR nilP t) (fun i => t.ch (i + 3)) 3 = { nilP with fl := p.fl, crc := p.crc, d := p.d, s := p.s, r := p.r } := by
    show ({ flcR nilP t with d := nmE (t.ch 3), s := nmE (t.ch 4), r := nmE (t.ch 5) } : PV) = _
    rw [n3.2, n4.2, n5.2]
    unfold flcR
    rw [kidT_eq, q1.2, q2.2, hmin]
  rw [hP]
  unfold restR
  have hwhen : whenR (t.ch 6) = true := by unfold whenR; rw [w1, w4, w5]; rfl
  have k60 : kidT (t.ch 6) = (t.ch 6).ch := kidT_eq _
  rw [if_neg (show ¬ whenR ((fun i => t.ch (i + 6)) 0) = false by show ¬ whenR (t.ch 6) = false; rw [hwhen]; decide)]
  rw [if_neg (show ¬ ¬ ((kidT ((fun i => t.ch (i + 6)) 0) 0).kind = 0 ∧ (kidT ((fun i => t.ch (i + 6)) 0) 1).kind = 0 ∧ ((fun i => t.ch (i + 6)) 1).kind = 0) from fun h => h (by
    show (kidT (t.ch 6) 0).kind = 0 ∧ (kidT (t.ch 6) 1).kind = 0 ∧ (t.ch 7).kind = 0
    rw [k60]; exact ⟨q60.1, q61.1, q7.1⟩))]
  have hT : tqlR { nilP with fl := p.fl, crc := p.crc, d := p.d, s := p.s, r := p.r } (fun i => t.ch (i + 6)) = { nilP with fl := p.fl, crc := p.crc, d := p.d, s := p.s, r := p.r, t := p.t, q := p.q, l := p.l } := by
    show ({ nilP with fl := p.fl, crc := p.crc, d := p.d, s := p.s, r := p.r, t := (kidT (t.ch 6) 0).n, q := (kidT (t.ch 6) 1).n, l := (t.ch 7).n } : PV) = _
    rw [k60, q60.2, q61.2, q7.2]
  rw [hT]
  have hsum : ∀ (P : PV) (j : Nat), P.crc = p.crc → (k ≠ 0 → (strT S).same (t.ch (j + 6)) = true) → sumR P [] (if k = 0 then 0 else 1) (t.ch (j + 6)) = (P, S, false) := by
    intro P j hc hh
    unfold sumR
    by_cases h0 : k = 0
    · rw [if_pos h0, if_pos rfl]
      have : S = [] := by rw [h0] at hsl; exact List.eq_nil_of_length_eq_zero hsl
      rw [this]
    · rw [if_neg h0, if_neg (by decide)]
      obtain ⟨a1, a2⟩ := str_same (hh h0)
      rw [a1, a2, hc, hkc, hsl]
      simp
  have hr0 := h
  unfold PV.right at hr0
  rw [if_neg (by rw [hra]; decide)] at hr0
  by_cases hf : p.fl % 2 = 1
  · rw [if_pos (show ({ nilP with fl := p.fl, crc := p.crc, d := p.d, s := p.s, r := p.r, t := p.t, q := p.q, l := p.l } : PV).fl % 2 = 1 from hf)]
    have hF : ∀ i : Nat, (priF p k)[i]? = ([numT 7, numT p.fl, numT k, eidT p.d, eidT p.s, eidT p.r, listT [numT p.t, numT p.q], numT p.l] ++ [numT p.o, numT p.n])[i]? := fun i => by unfold priF; rw [if_pos hf]
    have q8 := num_same (i0 8 (numT p.o) (by rw [hF]; rfl))
    have q9 := num_same (i0 9 (numT p.n) (by rw [hF]; rfl))
    rw [if_neg (show ¬ ¬ (((fun i => t.ch (i + 6)) 2).kind = 0 ∧ ((fun i => t.ch (i + 6)) 3).kind = 0) from fun h => h ⟨q8.1, q9.1⟩)]
    have hkk : t.k - 6 - 4 = (if k = 0 then 0 else 1) := by rw [g5]; unfold priN; rw [if_pos hf]; omega
    rw [hkk]
    have hfr : fragR { nilP with fl := p.fl, crc := p.crc, d := p.d, s := p.s, r := p.r, t := p.t, q := p.q, l := p.l } (fun i => t.ch (i + 6)) = p := by
      show ({ nilP with fl := p.fl, crc := p.crc, d := p.d, s := p.s, r := p.r, t := p.t, q := p.q, l := p.l, o := (t.ch 8).n, n := (t.ch 9).n } : PV) = p
      rw [q8.2, q9.2]
    rw [hfr]
    exact hsum p 4 rfl (fun h0 => by
      have := g6 10 (strT S) (by rw [List.getElem?_append_right (by rw [priF_length, if_pos hf]; omega), priF_length, if_pos hf, if_neg h0]; rfl)
      exact this)
  · rw [if_neg (show ¬ ({ nilP with fl := p.fl, crc := p.crc, d := p.d, s := p.s, r := p.r, t := p.t, q := p.q, l := p.l } : PV).fl % 2 = 1 from hf)]
    have ho : p.o = 0 ∧ p.n = 0 := by
      by_cases g : (p.fl % 2 = 1 ∧ (p.fl / 4 % 2 = 1 ∨ p.n ≤ p.o)) ∨ (¬ p.fl % 2 = 1 ∧ (0 < p.o ∨ 0 < p.n))
      · rw [if_pos g] at hr0; exact absurd hr0 (by decide)
      · constructor
        · rcases Nat.eq_zero_or_pos p.o with e | e
          · exact e
          · exact absurd (Or.inr ⟨hf, Or.inl e⟩) g
        · rcases Nat.eq_zero_or_pos p.n with e | e
          · exact e
          · exact absurd (Or.inr ⟨hf, Or.inr e⟩) g
    have hkk : t.k - 6 - 2 = (if k = 0 then 0 else 1) := by rw [g5]; unfold priN; rw [if_neg hf]; omega
    rw [hkk]
    have hfr : ({ nilP with fl := p.fl, crc := p.crc, d := p.d, s := p.s, r := p.r, t := p.t, q := p.q, l := p.l } : PV) = p := by
      obtain ⟨f, c, dd, ss, rr, tt, qq, ll, oo, nn⟩ := p
      have ho1 : oo = 0 := ho.1
      have ho2 : nn = 0 := ho.2
      rw [ho1, ho2]; rfl
    rw [hfr]
    exact hsum p 2 rfl (fun h0 => by
      have := g6 8 (strT S) (by rw [List.getElem?_append_right (by rw [priF_length, if_neg hf]; omega), priF_length, if_neg hf, if_neg h0]; rfl)
      exact this)
theorem of_back {p : PV} (h : p.right = 0) {t : T} (hr : t.right 8 = true) (hok : t.ok) (hsz : t.size ≤ 5000) (hs : p.tree.same t = true) : ofP t = (p, 0) := by
  have hb := read_back h hr hok hs
  have hra := PV.right_ranged h
  obtain ⟨d1, d2, d3, c0, c2, _, _, _, _, _, _⟩ := PV.ranged_spec hra
  unfold ofP
  rw [hb]
  simp only []
  rw [if_neg (by decide), if_neg ?_, if_neg (fun h0 => h0 h)]
  rintro ⟨h1, h2⟩
  obtain ⟨k, hk⟩ : ∃ k, p.crc.toNat = k := ⟨_, rfl⟩
  have hk2 : k ≤ 2 := by omega
  rw [hk] at h1 h2
  have hk0 : k ≠ 0 := by intro e; rw [e] at h1; exact h1 rfl
  have hs' : (priT p k (priSum p k)).same t = true := by have := hs; unfold PV.tree at this; rw [hk] at this; exact this
  have hk11 : t.k ≤ 11 := by
    have := (same_list hs').2.2.2.2.1
    rw [priL_length] at this
    rw [this]; unfold priN; by_cases f1 : p.fl % 2 = 1 <;> by_cases f2 : k = 0 <;> simp [f1, f2]
  have hk0' : 0 < t.k := by
    have := (same_list hs').2.2.2.2.1
    rw [priL_length] at this
    rw [this]; unfold priN; omega
  have hz := lastZ_all hok hr hk11 hk0' hsz (Z := List.replicate (2 * k) 0) (by simp; omega)
  have e1 : (lastZ t (List.replicate (2 * k) 0)).bytes = priB p k (List.replicate (2 * k) 0) := by
    rw [← priT_bytes]
    exact (T.same_bytes _ _ hz.1 (front_same (Z := List.replicate (2 * k) 0) hk0 hs')).symm
  have e2 : sumTr t k = lastZ t (priSum p k) := by
    unfold sumTr priSum
    rw [e1, if_neg hk0]
  rw [e2, last_same2 hk0 hs'] at h2
  exact absurd h2 (by decide)
end Go.Proofs.Ytogjghmoankleaa


namespace Go.Proofs.Ytogjghmoankleaa
open Go.RowKit
set_option linter.unusedVariables false
set_option linter.unusedSimpArgs false

theorem few10L_any (e : EV) (w : World) : Calls Try.prog 23 #[.agg #[.int .i64 e.sch, str e.name, .int .u64 (e.node : Int), .int .u64 (e.svc : Int)]] w (Ret (.bool (decide (e.name.length ≤ 100))) w) := by
  go_enter Try.func23, Try.ntmps23
  go_wp2
  go_ret
  refine Ret.mk ?_ ((Mod.refl _ _).alloc _)
  simp
  omega
def PV.few (p : PV) : Bool := decide (p.d.name.length ≤ 100) && decide (p.s.name.length ≤ 100) && decide (p.r.name.length ≤ 100)
set_option maxRecDepth 20000 in
set_option maxHeartbeats 800000 in
theorem few11P_any (p : PV) (w : World) : Calls Try.prog 31 #[.agg p.c] w (Ret (.bool p.few) w) := by
  have HE := hid ((Mod.refl [] w).alloc (.cells p.c 68))
  have HB := hid (Blk.new w 68 p.c)
  have HF : Hid (p.few = (decide (p.d.name.length ≤ 100) && decide (p.s.name.length ≤ 100) && decide (p.r.name.length ≤ 100))) := rfl
  have K1 := hid (fun W => few10L_any p.d W)
  have K2 := hid (fun W => few10L_any p.s W)
  have K3 := hid (fun W => few10L_any p.r W)
  cases h1 : decide (p.d.name.length ≤ 100)
  all_goals cases h2 : decide (p.s.name.length ≤ 100)
  all_goals cases h3 : decide (p.r.name.length ≤ 100)
  all_goals rw [h1] at K1 HF
  all_goals rw [h2] at K2 HF
  all_goals rw [h3] at K3 HF
  all_goals clear h1 h2 h3
  all_goals go_enter Try.func31, Try.ntmps31
  all_goals go_upto_region 1 with fail
  all_goals generalize w.alloc (.cells p.c 68) = V at *
  all_goals have b2 : ∀ e : Later V, e.x.cell? ⟨w.heap.size, 2, none⟩ = some (.int .i64 p.d.sch) := HB.out.cellL 2 rfl
  all_goals have b3 : ∀ e : Later V, e.x.cell? ⟨w.heap.size, 3, none⟩ = some (str p.d.name) := HB.out.cellL 3 rfl
  all_goals have b4 : ∀ e : Later V, e.x.cell? ⟨w.heap.size, 4, none⟩ = some (.int .u64 (p.d.node : Int)) := HB.out.cellL 4 rfl
  all_goals have b5 : ∀ e : Later V, e.x.cell? ⟨w.heap.size, 5, none⟩ = some (.int .u64 (p.d.svc : Int)) := HB.out.cellL 5 rfl
  all_goals have b6 : ∀ e : Later V, e.x.cell? ⟨w.heap.size, 6, none⟩ = some (.int .i64 p.s.sch) := HB.out.cellL 6 rfl
  all_goals have b7 : ∀ e : Later V, e.x.cell? ⟨w.heap.size, 7, none⟩ = some (str p.s.name) := HB.out.cellL 7 rfl
  all_goals have b8 : ∀ e : Later V, e.x.cell? ⟨w.heap.size, 8, none⟩ = some (.int .u64 (p.s.node : Int)) := HB.out.cellL 8 rfl
  all_goals have b9 : ∀ e : Later V, e.x.cell? ⟨w.heap.size, 9, none⟩ = some (.int .u64 (p.s.svc : Int)) := HB.out.cellL 9 rfl
  all_goals have b10 : ∀ e : Later V, e.x.cell? ⟨w.heap.size, 10, none⟩ = some (.int .i64 p.r.sch) := HB.out.cellL 10 rfl
  all_goals have b11 : ∀ e : Later V, e.x.cell? ⟨w.heap.size, 11, none⟩ = some (str p.r.name) := HB.out.cellL 11 rfl
  all_goals have b12 : ∀ e : Later V, e.x.cell? ⟨w.heap.size, 12, none⟩ = some (.int .u64 (p.r.node : Int)) := HB.out.cellL 12 rfl
  all_goals have b13 : ∀ e : Later V, e.x.cell? ⟨w.heap.size, 13, none⟩ = some (.int .u64 (p.r.svc : Int)) := HB.out.cellL 13 rfl
  all_goals obtain ⟨e0, he0⟩ := Later.self V
  all_goals rw [he0]
  all_goals clear he0
  all_goals go_wp2_with (go_at_call 23; first | ((with_reducible refine (Ret.later (K1.out _)).mono ?_); rintro x _ ⟨rfl, e1, rfl⟩) | ((with_reducible refine (Ret.later (K2.out _)).mono ?_); rintro x _ ⟨rfl, e1, rfl⟩) | ((with_reducible refine (Ret.later (K3.out _)).mono ?_); rintro x _ ⟨rfl, e1, rfl⟩))
  all_goals go_ret
  all_goals exact Ret.mk (by rw [HF.out]; rfl) (HE.out.trans e1.h)
def bsFew (bs : Nat → BV) (i : Nat) : Bool := decide (4100 < (bs i).data.length)
def bunFew (p : PV) (bs : Nat → BV) (k : Nat) : Bool := decide (k ≤ 20) && ((firstOf (bsFew bs) k).isNone && p.few)
theorem bunFew_spec {p : PV} {bs : Nat → BV} {k : Nat} (h : bunFew p bs k = true) : k ≤ 20 ∧ p.few = true ∧ ∀ i, i < k → (bs i).data.length ≤ 4100 := by
  unfold bunFew at h
  simp only [Bool.and_eq_true, decide_eq_true_eq] at h
  refine ⟨h.1, h.2.2, fun i hi => ?_⟩
  cases hf : firstOf (bsFew bs) k with
  | some x => rw [hf] at h; simp at h
  | none =>
    have := firstOf_no hf i hi
    unfold bsFew at this
    simp at this
    exact this
theorem bunFew_long {p : PV} {bs : Nat → BV} {k i : Nat} (hi : i < k) (h : 4100 < (bs i).data.length) : bunFew p bs k = false := by
  cases hb : bunFew p bs k with
  | false => rfl
  | true => have := (bunFew_spec hb).2.2 i hi; omega
end Go.Proofs.Ytogjghmoankleaa


namespace Go.Proofs.Ytogjghmoankleaa
open Go.RowKit
set_option linter.unusedVariables false
set_option linter.unusedSimpArgs false

theorem andNot_one {f : Nat} (hf : f < 18446744073709551616) : bits .andNot .u64 (f : Int) 1 = (f : Int) / 2 * 2 := by
  have h := u64_andNot_nat f 1 hf (by omega)
  have e : f &&& 18446744073709551614 = f / 2 * 2 := by
    have h1 : f &&& 18446744073709551615 = f := by
      have := Nat.and_two_pow_sub_one_eq_mod f 64
      rw [show (2 : Nat) ^ 64 - 1 = 18446744073709551615 from rfl] at this
      rw [this, Nat.mod_eq_of_lt hf]
    have h2 : (18446744073709551615 : Nat) = 18446744073709551614 ||| 1 := by decide
    rw [h2, Nat.and_or_distrib_left, Nat.and_one_is_mod] at h1
    have h3 : (f &&& 18446744073709551614) % 2 = 0 := by
      have := Nat.and_mod_two_pow (a := f) (b := 18446744073709551614) (n := 1)
      simpa using this
    have h4 : (f &&& 18446744073709551614) ||| (f % 2) = (f &&& 18446744073709551614) + f % 2 := by
      obtain ⟨y, hy⟩ : ∃ y, f &&& 18446744073709551614 = 2 * y := ⟨(f &&& 18446744073709551614) / 2, by omega⟩
      rw [hy]
      have hx : f % 2 < 2 := Nat.mod_lt _ (by omega)
      rw [show 2 * y = 2 ^ 1 * y by simp]
      rw [← Nat.two_pow_add_eq_or_of_lt (by simpa using hx)]
    omega
  have h2 : bits .andNot .u64 (f : Int) 1 = bits .andNot .u64 (f : Int) ((1 : Nat) : Int) := rfl
  rw [h2, h, show 18446744073709551615 - 1 = 18446744073709551614 from rfl, e]
  simp
/-- Its name. -/
abbrev idC (s : EV) (t q : Nat) (b : Bool) (o n : Nat) : Array Value := #[.int .i64 s.sch, str s.name, .int .u64 (s.node : Int), .int .u64 (s.svc : Int), .int .u64 (t : Int), .int .u64 (q : Int), .bool b, .int .u64 (o : Int), .int .u64 (n : Int)]
def PV.idV (p : PV) : Value := .agg (idC p.s p.t p.q (has p.fl 1) (if has p.fl 1 then p.o else 0) (if has p.fl 1 then p.n else 0))
theorem PV.one (p : PV) : p.c.all (·.oneCell') = true := by simp [PV.c, Value.oneCell']
def PV.whole (p : PV) : PV := { p with fl := p.fl / 2 * 2, o := 0, n := 0 }
end Go.Proofs.Ytogjghmoankleaa


namespace Go.Proofs.Ytogjghmoankleaa
open Go.RowKit
set_option linter.unusedVariables false
set_option linter.unusedSimpArgs false

def someP : PV := ⟨0, 0, ⟨2, [], 2, 0⟩, ⟨2, [], 1, 0⟩, ⟨1, [110, 111, 110, 101], 0, 0⟩, 5, 0, 100, 0, 0⟩
def zeroP : PV := ⟨0, 0, ⟨0, [], 0, 0⟩, ⟨0, [], 0, 0⟩, ⟨0, [], 0, 0⟩, 0, 0, 0, 0, 0⟩
theorem someP_ok : someP.right = 0 ∧ someP.bytes.length = 22 ∧ zeroP.right = 1 := by decide
set_option maxRecDepth 20000 in
theorem some11_any (w : World) : Calls Try.prog 63 #[] w (Ret (.agg #[.int .u64 0, .int .i64 0, .int .i64 2, str [], .int .u64 2, .int .u64 0, .int .i64 2, str [], .int .u64 1, .int .u64 0, .int .i64 1, str [110, 111, 110, 101], .int .u64 0, .int .u64 0, .int .u64 5, .int .u64 0, .int .u64 100, .int .u64 0, .int .u64 0]) w) := by
  have HR := hid (Blk.new w 68 #[.int .u64 0, .int .i64 0, .int .i64 0, .string ⟨#[]⟩, .int .u64 0, .int .u64 0, .int .i64 0, .string ⟨#[]⟩, .int .u64 0, .int .u64 0, .int .i64 0, .string ⟨#[]⟩, .int .u64 0, .int .u64 0, .int .u64 0, .int .u64 0, .int .u64 0, .int .u64 0, .int .u64 0])
  have HE := hid ((Mod.refl [] w).alloc (.cells #[.int .u64 0, .int .i64 0, .int .i64 0, .string ⟨#[]⟩, .int .u64 0, .int .u64 0, .int .i64 0, .string ⟨#[]⟩, .int .u64 0, .int .u64 0, .int .i64 0, .string ⟨#[]⟩, .int .u64 0, .int .u64 0, .int .u64 0, .int .u64 0, .int .u64 0, .int .u64 0, .int .u64 0] 68))
  go_enter Try.func63, Try.ntmps63
  go_upto_region 1 with fail
  generalize w.alloc (.cells #[.int .u64 0, .int .i64 0, .int .i64 0, .string ⟨#[]⟩, .int .u64 0, .int .u64 0, .int .i64 0, .string ⟨#[]⟩, .int .u64 0, .int .u64 0, .int .i64 0, .string ⟨#[]⟩, .int .u64 0, .int .u64 0, .int .u64 0, .int .u64 0, .int .u64 0, .int .u64 0, .int .u64 0] 68) = V at *
  go_wp2_with (refine wpList_store_mid rfl 68 _ _ rfl w.heap.size 0 #[.int .u64 0, .int .i64 0, .int .i64 2, str [], .int .u64 2, .int .u64 0, .int .i64 2, str [], .int .u64 1, .int .u64 0, .int .i64 1, str [110, 111, 110, 101], .int .u64 0, .int .u64 0, .int .u64 5, .int .u64 0, .int .u64 100, .int .u64 0, .int .u64 0] (by rfl) (by rfl) (HR.out.there (Nat.le_refl 19)) (by kernel_rfl) (by simp [Value.oneCell']) ?_)
  have HX := setCells_all (ds := #[.int .u64 0, .int .i64 0, .int .i64 2, str [], .int .u64 2, .int .u64 0, .int .i64 2, str [], .int .u64 1, .int .u64 0, .int .i64 1, str [110, 111, 110, 101], .int .u64 0, .int .u64 0, .int .u64 5, .int .u64 0, .int .u64 100, .int .u64 0, .int .u64 0]) HR.out rfl
  have HM : Ext w (V.setCells w.heap.size 0 (#[.int .u64 0, .int .i64 0, .int .i64 2, str [], .int .u64 2, .int .u64 0, .int .i64 2, str [], .int .u64 1, .int .u64 0, .int .i64 1, str [110, 111, 110, 101], .int .u64 0, .int .u64 0, .int .u64 5, .int .u64 0, .int .u64 100, .int .u64 0, .int .u64 0] : Array Value).toList) := setCells_mod _ _ HE.out (.inr (Nat.le_refl _))
  refine bodyPost_ret (v := .agg #[.int .u64 0, .int .i64 0, .int .i64 2, str [], .int .u64 2, .int .u64 0, .int .i64 2, str [], .int .u64 1, .int .u64 0, .int .i64 1, str [110, 111, 110, 101], .int .u64 0, .int .u64 0, .int .u64 5, .int .u64 0, .int .u64 100, .int .u64 0, .int .u64 0]) (results_cell Try.results63 _ rfl HX Try.underlying68 rfl (by kernel_rfl)) rfl (Ret.mk rfl HM)
set_option maxRecDepth 20000 in
theorem awake11_any (w : World) : Calls Try.prog 30 #[] w (Ret (.bool true) w) := by
  have KS := hid (fun W => some11_any W)
  have KB := hid (fun W => cPriBuild_ok someP (by unfold Hid; decide) (by decide) someP_ok.1 W)
  have KR := hid (fun W => cPriRight_any zeroP (by unfold Hid; decide) (by decide) W)
  rw [someP_ok.2.2] at KR
  have hl := someP_ok.2.1
  generalize someP.bytes = B at *
  have l1 : ((B.length : Int) == 22) = true := by rw [hl]; rfl
  have l2 : ((B.length : Int) = 22) = True := by rw [hl]; simp
  have l3 : (B.length = 22) = True := by rw [hl]; simp
  clear hl
  go_enter Try.func30, Try.ntmps30
  go_wp2_with (first | (go_at_call 63; refine (Ret.laterW (Mod.refl [] w) (KS.out _)).mono ?_; rintro x _ ⟨rfl, e, rfl⟩) | (go_at_call 33; refine (Ret.later (KB.out _)).mono ?_; rintro x _ ⟨rfl, e, rfl⟩) | (go_at_call 64; refine (Ret.later (KR.out _)).mono ?_; rintro x _ ⟨rfl, e, rfl⟩))
  go_ret
  exact Ret.mk rfl e.h
end Go.Proofs.Ytogjghmoankleaa


namespace Go.Proofs.Ytogjghmoankleaa
open Go.RowKit
set_option linter.unusedVariables false
set_option linter.unusedSimpArgs false

theorem right_crc {p : PV} (h : p.right = 0) {k : Nat} (hk : k ≤ 2) : ({ p with crc := (k : Int) } : PV).right = 0 := by
  have hr := PV.right_ranged h
  have hr2 : ({ p with crc := (k : Int) } : PV).ranged = true := by
    obtain ⟨h1, h2, h3, h4, h5, h6, h7, h8, h9, h10, h11⟩ := PV.ranged_spec hr
    unfold PV.ranged
    simp only [h1, h2, h3, Bool.true_and, decide_eq_true_eq]
    exact ⟨by omega, by omega, h6, h7, h8, h9, h10, h11⟩
  unfold PV.right at h ⊢
  rw [if_neg (by rw [hr]; decide)] at h
  rw [if_neg (by rw [hr2]; decide)]
  exact h
theorem ofPV_back {p : PV} (h : p.right = 0) {t : T} (hr : t.right 8 = true) (hok : t.ok) (hsz : t.size ≤ 5000) (hs : p.tree.same t = true) : ofPV t = .tuple #[.agg p.c, .int .i64 0] := by
  unfold ofPV; rw [of_back h hr hok hsz hs]
theorem tree_of_bytes {p : PV} (h : p.right = 0) {t : T} (hr : t.right 8 = true) (hok : t.ok) (hb : t.bytes = p.bytes) : p.tree.same t = true ∧ t.size ≤ 5000 := by
  obtain ⟨g1, g2, g3, g4⟩ := PV.tree_all (PV.right_ranged h)
  have hs := bytes_same (T.plain_of (g2 8 (by omega))) (T.plain_of hr) g1 hok (by rw [g4, hb])
  refine ⟨hs, ?_⟩
  have e := size_same _ _ hok hs
  omega
set_option maxRecDepth 20000 in
set_option maxHeartbeats 8000000 in
theorem lawBack_any (p : PV) (hw : p.wf) (n : Nat) (hn : n ≤ 255) (w : World) : Calls Try.prog 9 #[.agg p.c, .int .u8 (n : Int)] w (Ret (.bool true) w) := by
  have KA := hid (fun W => awake11_any W)
  have KF := hid (fun W => few11P_any p W)
  have KR := hid (fun W => r11Right_any p hw.1 W)
  have HE := hid ((Mod.refl [] w).alloc (.cells p.c 68))
  have HB0 : Hid (Blk (w.alloc (.cells p.c 68)) w.heap.size 68 p.c) := hid (Blk.new w 68 p.c)
  go_enter Try.func9, Try.ntmps9
  go_upto_region 1 with fail
  generalize (w.alloc (.cells p.c 68)) = V at *
  obtain ⟨e, he⟩ := Later.self V
  rw [he]
  clear he
  have HBL : Hid (∀ e : Later V, Blk e.x w.heap.size 68 p.c) := hid (fun e => HB0.out.later e)
  have tk1 : True := trivial
  have tk2 : True := trivial
  cases hf : p.few with
  | false =>
    rw [hf] at KF
    clear hf hw hn
    go_wp2_with (first | (clear tk1; refine wpList_row (by rfl) 68 _ rfl _ rfl (HBL.out _) Try.underlying68 rfl (by kernel_rfl) ?_) | (go_at_call 30; refine (Ret.later (KA.out _)).mono ?_; rintro x _ ⟨rfl, e, rfl⟩) | (go_at_call 31; refine (Ret.later (KF.out _)).mono ?_; rintro x _ ⟨rfl, e, rfl⟩))
    go_ret
    exact Ret.mk rfl (HE.out.trans e.h)
  | true =>
  rw [hf] at KF
  have hnm : p.d.name.length ≤ 100 ∧ p.s.name.length ≤ 100 ∧ p.r.name.length ≤ 100 := by
    unfold PV.few at hf
    simp only [Bool.and_eq_true, decide_eq_true_eq] at hf
    exact ⟨hf.1.1, hf.1.2, hf.2⟩
  have hnl : Hid (p.d.name.length < 4611686018427387904 ∧ p.s.name.length < 4611686018427387904 ∧ p.r.name.length < 4611686018427387904) := hid ⟨by omega, by omega, by omega⟩
  by_cases hR : p.right = 0
  case neg =>
    have t1a : ((p.right) == (0)) = false := by rw [beq_eq_false_iff_ne]; exact hR
    have t1b : ((p.right) = (0)) = False := eq_false (by exact hR)
    have t1c : ((p.right) != (0)) = true := by rw [bne_iff_ne]; exact hR
    clear hf hw hn hnm hnl hR
    go_wp2_with (first | (clear tk1; refine wpList_row (by rfl) 68 _ rfl _ rfl (HBL.out _) Try.underlying68 rfl (by kernel_rfl) ?_) | (clear tk2; refine wpList_row (by rfl) 68 _ rfl _ rfl (HBL.out _) Try.underlying68 rfl (by kernel_rfl) ?_) | (go_at_call 30; refine (Ret.later (KA.out _)).mono ?_; rintro x _ ⟨rfl, e, rfl⟩) | (go_at_call 31; refine (Ret.later (KF.out _)).mono ?_; rintro x _ ⟨rfl, e, rfl⟩) | (go_at_call 32; refine (Ret.later (KR.out _)).mono ?_; rintro x _ ⟨rfl, e, rfl⟩))
    go_ret
    exact Ret.mk rfl (HE.out.trans e.h)
  have KR : Hid (∀ W, Calls Try.prog 32 #[.agg p.c] W (Ret (.int .i64 0) W)) := hid (fun W => by have := KR.out W; rw [hR] at this; exact this)
  obtain ⟨g1, g2, g3, g4⟩ := PV.tree_all (PV.right_ranged hR)
  obtain ⟨zc, hzc⟩ : ∃ zc : Array Value, zc = #[.int .u64 (p.fl : Int), .int .i64 p.crc, .int .i64 p.d.sch, str p.d.name, .int .u64 (p.d.node : Int), .int .u64 (p.d.svc : Int), .int .i64 p.s.sch, str p.s.name, .int .u64 (p.s.node : Int), .int .u64 (p.s.svc : Int), .int .i64 p.r.sch, str p.r.name, .int .u64 (p.r.node : Int), .int .u64 (p.r.svc : Int), .int .u64 (p.t : Int), .int .u64 (p.q : Int), .int .u64 (p.l : Int), .int .u64 (p.o : Int), .int .u64 (p.n : Int)] := ⟨_, rfl⟩
  have HZS : Hid ((Try.prog.info? 68).map (·.size) = some zc.size) := hid (by rw [hzc]; kernel_rfl)
  have HZ1 : Hid (zc.all (·.oneCell') = true) := hid (by rw [hzc]; simp [Value.oneCell'])
  have HZ2 : Hid (zc.size ≤ 19) := hid (by rw [hzc]; exact Nat.le_refl 19)
  have HZC := hid hzc
  have KI := hid (fun W => cPriItem_cap p hnl hw.1 hR W)
  have KO1 : Hid (∀ A c W, p.tree.k ≤ c → IsL W (fun _ => True) p.tree A → Calls Try.prog 35 #[itemV p.tree A c] W (Ret (.tuple #[.agg zc, .int .i64 0]) W)) := hid (fun A c W hc hL => by
    have h := pof_any p.tree g1 (by omega) A c hc W hL
    rw [ofPV_back hR (g2 8 (by omega)) g1 (by omega) (T.same_refl _)] at h
    rw [hzc]; exact h)
  have KB := hid (fun W => cPriBuild_ok p hnl hw.1 hR W)
  have hbl := PV.bytes_length (PV.right_ranged hR)
  have KP : Hid (∀ W, Calls Try.prog 34 #[str p.bytes] W (fun e w' => ∃ t A c, e = .returned (.tuple #[itemV t A c, .int .i64 (-1), .int .i64 0]) ∧ Ext W w' ∧ IsL w' (fun _ => True) t A ∧ Hid (∀ A c W, t.k ≤ c → IsL W (fun _ => True) t A → Calls Try.prog 35 #[itemV t A c] W (Ret (.tuple #[.agg zc, .int .i64 0]) W)) ∧ t.k ≤ c)) := hid (fun W => (parse_anyC p.bytes (hid (by omega)) W).mono fun e w' ⟨hb, hh⟩ => by
    rcases hh with ⟨h0, _⟩ | ⟨h0, t, A, c, he, ⟨hr, hok⟩, hbt, hc⟩
    · exfalso
      rw [← g4, parse_back (g2 8 (by omega)) g1] at h0
      exact h0 rfl
    · refine ⟨t, A, c, he, hb, hc.isL, hid (fun A c W hc hL => ?_), hc.cap⟩
      obtain ⟨s1, s2⟩ := tree_of_bytes hR hr hok hbt
      have h := pof_any t hok s2 A c hc W hL
      rw [ofPV_back hR hr hok s2 s1] at h
      rw [hzc]; exact h)
  have KL := hid (fun W => cPriPlain_ok p hnl hw.1 hR W)
  have KL2 : Hid (∀ k : Nat, k ≤ 2 → ∀ W, Calls Try.prog 37 #[.agg ({ p with crc := (k : Int) } : PV).c] W (Ret (.tuple #[str p.plain.bytes, .int .i64 0]) W)) := hid (fun k hk W => cPriPlain_ok { p with crc := (k : Int) } hnl hw.1 (right_crc hR hk) W)
  clear hf hw hnm hnl hR g1 g2 g3 g4 hbl hzc
  generalize p.tree = Y at *
  generalize p.bytes = B at *
  generalize p.plain.bytes = PB at *
  go_upto_region 3 with (first | (clear tk1; refine wpList_row (by rfl) 68 _ rfl _ rfl (HBL.out _) Try.underlying68 rfl (by kernel_rfl) ?_) | (clear tk2; refine wpList_row (by rfl) 68 _ rfl _ rfl (HBL.out _) Try.underlying68 rfl (by kernel_rfl) ?_) | (go_at_call 30; refine (Ret.later (KA.out _)).mono ?_; rintro x _ ⟨rfl, e, rfl⟩) | (go_at_call 31; refine (Ret.later (KF.out _)).mono ?_; rintro x _ ⟨rfl, e, rfl⟩) | (go_at_call 32; refine (Ret.later (KR.out _)).mono ?_; rintro x _ ⟨rfl, e, rfl⟩))
  clear KA KF KR
  have tk1 : True := trivial
  go_upto_region 4 with (first | (clear tk1; refine wpList_row (by rfl) 68 _ rfl _ rfl (HBL.out _) Try.underlying68 rfl (by kernel_rfl) ?_) | (go_at_call 36; refine (KI.out _).mono ?_; rintro x w1 ⟨A, c, rfl, hb, hl, hc⟩; have HX := hid (e.h.trans hb); have HL := hid (IsL.weak (R := fun _ => True) (fun _ _ _ => trivial) _ hl); have HC := hid hc; clear hb hl hc))
  generalize hZ : World.alloc w1 _ = V1
  have H5 : Hid (Blk V1 w1.heap.size 38 (itemC Y A c)) := hid (by rw [← hZ]; exact Blk.new _ _ _)
  have HXU : Hid (Ext V V1) := hid (by rw [← hZ]; exact HX.out.alloc _)
  have HXw : Hid (Ext w1 V1) := hid (by rw [← hZ]; exact (Mod.refl [] _).alloc _)
  have HL := hid (HL.out.ext HXw.out)
  have HB0 := hid (HB0.out.ext HXU.out)
  have HE := hid (HE.out.trans HXU.out)
  clear hZ HXU HX HXw KI HBL e
  generalize w1.heap.size = n5 at *
  have HBL : Hid (∀ e : Later V1, Blk e.x w.heap.size 68 p.c) := hid (fun e => HB0.out.later e)
  obtain ⟨e, he⟩ := Later.self V1
  rw [he]
  clear he
  have H5L : Hid (∀ e : Later V1, Blk e.x n5 38 (itemC Y A c)) := hid (fun e => H5.out.later e)
  have tk1 : True := trivial
  go_upto_region 5 with (first | (clear tk1; refine wpList_row (by rfl) 38 _ rfl _ rfl (H5L.out _) Try.underlying38 rfl (by kernel_rfl) ?_) | (go_at_call 35; refine (KO1.out _ _ _ HC.out (HL.out.ext e.h)).mono ?_; rintro x w2 ⟨rfl, hb⟩; have HX := hid (e.h.trans hb); clear hb) | (refine wpList_store_mid rfl 68 _ _ rfl w2.heap.size 0 zc (by rfl) (by rfl) ((Blk.new _ _ _).there HZ2.out) HZS.out HZ1.out ?_))
  generalize hZ : World.setCells _ _ _ _ = V2
  have H7 : Hid (Blk V2 w2.heap.size 68 #[.int .u64 (p.fl : Int), .int .i64 p.crc, .int .i64 p.d.sch, str p.d.name, .int .u64 (p.d.node : Int), .int .u64 (p.d.svc : Int), .int .i64 p.s.sch, str p.s.name, .int .u64 (p.s.node : Int), .int .u64 (p.s.svc : Int), .int .i64 p.r.sch, str p.r.name, .int .u64 (p.r.node : Int), .int .u64 (p.r.svc : Int), .int .u64 (p.t : Int), .int .u64 (p.q : Int), .int .u64 (p.l : Int), .int .u64 (p.o : Int), .int .u64 (p.n : Int)]) := hid (by rw [← hZ]; rw [← HZC.out]; exact setCells_all (ds := zc) (Blk.new _ _ _) (by rw [HZC.out]; rfl))
  have HXU : Hid (Ext V1 V2) := hid (by rw [← hZ]; exact setCells_mod _ _ (HX.out.alloc _) (.inr HX.out.size))
  have HB0 := hid (HB0.out.ext HXU.out)
  have HE := hid (HE.out.trans HXU.out)
  clear hZ HXU HX HBL H5 H5L HL HC KO1 e
  generalize w2.heap.size = n7 at *
  have HBL : Hid (∀ e : Later V2, Blk e.x w.heap.size 68 p.c) := hid (fun e => HB0.out.later e)
  obtain ⟨e, he⟩ := Later.self V2
  rw [he]
  clear he
  have tk1 : True := trivial
  go_upto_region 6 with (first | (clear tk1; refine wpList_row (by rfl) 68 _ rfl _ rfl (HBL.out _) Try.underlying68 rfl (by kernel_rfl) ?_) | (go_at_call 33; refine (Ret.later (KB.out _)).mono ?_; rintro x _ ⟨rfl, e, rfl⟩))
  go_upto_region 7 with (go_at_call 34; refine (KP.out _).mono ?_; rintro x w3 ⟨t, A3, c3, rfl, hb, hl, KO2, hc⟩; have HX := hid (e.h.trans hb); have HL := hid hl; have HC := hid hc; clear hb hl hc)
  generalize hZ : World.alloc w3 _ = V3
  have H11 : Hid (Blk V3 w3.heap.size 38 (itemC t A3 c3)) := hid (by rw [← hZ]; exact Blk.new _ _ _)
  have HXU : Hid (Ext V2 V3) := hid (by rw [← hZ]; exact HX.out.alloc _)
  have HXw : Hid (Ext w3 V3) := hid (by rw [← hZ]; exact (Mod.refl [] _).alloc _)
  have HL := hid (HL.out.ext HXw.out)
  have HB0 := hid (HB0.out.ext HXU.out)
  have H7 := hid (H7.out.ext HXU.out)
  have HE := hid (HE.out.trans HXU.out)
  clear hZ HXU HX HXw KB KP HBL e
  generalize w3.heap.size = n11 at *
  have HBL : Hid (∀ e : Later V3, Blk e.x w.heap.size 68 p.c) := hid (fun e => HB0.out.later e)
  obtain ⟨e, he⟩ := Later.self V3
  rw [he]
  clear he
  have H11L : Hid (∀ e : Later V3, Blk e.x n11 38 (itemC t A3 c3)) := hid (fun e => H11.out.later e)
  have tk1 : True := trivial
  go_upto_region 8 with (first | (clear tk1; refine wpList_row (by rfl) 38 _ rfl _ rfl (H11L.out _) Try.underlying38 rfl (by kernel_rfl) ?_) | (go_at_call 35; refine (KO2.out _ _ _ HC.out (HL.out.ext e.h)).mono ?_; rintro x w4 ⟨rfl, hb⟩; have HX := hid (e.h.trans hb); clear hb) | (refine wpList_store_mid rfl 68 _ _ rfl w4.heap.size 0 zc (by rfl) (by rfl) ((Blk.new _ _ _).there HZ2.out) HZS.out HZ1.out ?_))
  generalize hZ : World.setCells _ _ _ _ = V4
  have H14 : Hid (Blk V4 w4.heap.size 68 #[.int .u64 (p.fl : Int), .int .i64 p.crc, .int .i64 p.d.sch, str p.d.name, .int .u64 (p.d.node : Int), .int .u64 (p.d.svc : Int), .int .i64 p.s.sch, str p.s.name, .int .u64 (p.s.node : Int), .int .u64 (p.s.svc : Int), .int .i64 p.r.sch, str p.r.name, .int .u64 (p.r.node : Int), .int .u64 (p.r.svc : Int), .int .u64 (p.t : Int), .int .u64 (p.q : Int), .int .u64 (p.l : Int), .int .u64 (p.o : Int), .int .u64 (p.n : Int)]) := hid (by rw [← hZ]; rw [← HZC.out]; exact setCells_all (ds := zc) (Blk.new _ _ _) (by rw [HZC.out]; rfl))
  have HXU : Hid (Ext V3 V4) := hid (by rw [← hZ]; exact setCells_mod _ _ (HX.out.alloc _) (.inr HX.out.size))
  have HB0 := hid (HB0.out.ext HXU.out)
  have H7 := hid (H7.out.ext HXU.out)
  have HE := hid (HE.out.trans HXU.out)
  clear hZ HXU HX HBL H11 H11L HL HC KO2 e
  generalize w4.heap.size = n14 at *
  have HBL : Hid (∀ e : Later V4, Blk e.x w.heap.size 68 p.c) := hid (fun e => HB0.out.later e)
  obtain ⟨e, he⟩ := Later.self V4
  rw [he]
  clear he
  have tk1 : True := trivial
  have tk2 : True := trivial
  go_upto_region 9 with (first | (clear tk1; refine wpList_row (by rfl) 68 _ rfl _ rfl (HBL.out _) Try.underlying68 rfl (by kernel_rfl) ?_) | (go_at_call 37; refine (Ret.later (KL.out _)).mono ?_; rintro x _ ⟨rfl, e, rfl⟩))
  go_upto_region 10 with (first | (clear tk2; refine wpList_row (by rfl) 68 _ rfl _ rfl (HBL.out _) Try.underlying68 rfl (by kernel_rfl) ?_) | (refine wpList_store_mid rfl 68 _ _ rfl e.x.heap.size 0 #[.int .u64 (p.fl : Int), .int .i64 p.crc, .int .i64 p.d.sch, str p.d.name, .int .u64 (p.d.node : Int), .int .u64 (p.d.svc : Int), .int .i64 p.s.sch, str p.s.name, .int .u64 (p.s.node : Int), .int .u64 (p.s.svc : Int), .int .i64 p.r.sch, str p.r.name, .int .u64 (p.r.node : Int), .int .u64 (p.r.svc : Int), .int .u64 (p.t : Int), .int .u64 (p.q : Int), .int .u64 (p.l : Int), .int .u64 (p.o : Int), .int .u64 (p.n : Int)] (by rfl) (by rfl) ((Blk.new _ _ _).there (Nat.le_refl 19)) (by kernel_rfl) (by simp [Value.oneCell']) ?_))
  generalize hZ : World.setCells _ _ _ _ = V5
  have H18 : Hid (Blk V5 e.x.heap.size 68 #[.int .u64 (p.fl : Int), .int .i64 p.crc, .int .i64 p.d.sch, str p.d.name, .int .u64 (p.d.node : Int), .int .u64 (p.d.svc : Int), .int .i64 p.s.sch, str p.s.name, .int .u64 (p.s.node : Int), .int .u64 (p.s.svc : Int), .int .i64 p.r.sch, str p.r.name, .int .u64 (p.r.node : Int), .int .u64 (p.r.svc : Int), .int .u64 (p.t : Int), .int .u64 (p.q : Int), .int .u64 (p.l : Int), .int .u64 (p.o : Int), .int .u64 (p.n : Int)]) := hid (by rw [← hZ]; exact setCells_all (ds := #[.int .u64 (p.fl : Int), .int .i64 p.crc, .int .i64 p.d.sch, str p.d.name, .int .u64 (p.d.node : Int), .int .u64 (p.d.svc : Int), .int .i64 p.s.sch, str p.s.name, .int .u64 (p.s.node : Int), .int .u64 (p.s.svc : Int), .int .i64 p.r.sch, str p.r.name, .int .u64 (p.r.node : Int), .int .u64 (p.r.svc : Int), .int .u64 (p.t : Int), .int .u64 (p.q : Int), .int .u64 (p.l : Int), .int .u64 (p.o : Int), .int .u64 (p.n : Int)]) (Blk.new _ _ _) rfl)
  have HX := hid e.h
  have HN18 : Hid (w.heap.size < e.x.heap.size ∧ n7 < e.x.heap.size ∧ n14 < e.x.heap.size) := hid ⟨(HB0.out.later e).lt, (H7.out.later e).lt, (H14.out.later e).lt⟩
  have HXU : Hid (Ext V4 V5) := hid (by rw [← hZ]; exact setCells_mod _ _ (HX.out.alloc _) (.inr HX.out.size))
  have HB0 := hid (HB0.out.ext HXU.out)
  have H7 := hid (H7.out.ext HXU.out)
  have H14 := hid (H14.out.ext HXU.out)
  have HE := hid (HE.out.trans HXU.out)
  clear hZ HXU HX HBL KL
  generalize e.x.heap.size = n18 at *
  clear e
  have HBL : Hid (∀ e : Later V5, Blk e.x w.heap.size 68 p.c) := hid (fun e => HB0.out.later e)
  obtain ⟨e, he⟩ := Later.self V5
  rw [he]
  clear he
  have c1 : ∀ e : Later V5, e.x.cell? ⟨n18, 1, none⟩ = some (.int .i64 p.crc) := H18.out.cellL 1 rfl
  have f1 : ∀ e : Later V5, e.x.frozen? ⟨n18, 1, none⟩ = false := fun e => (H18.out.later e).frozen 1
  have hm3 : ((n : Int)).tmod 3 = ((n % 3 : Nat) : Int) := by rw [Int.tmod_eq_emod_of_nonneg (by omega)]; omega
  have hm4 : n % 3 ≤ 2 := by omega
  go_upto_region 11 with fail
  generalize hZ : World.setCell _ ⟨n18, 1, none⟩ _ = V6
  have H18 : Hid (Blk V6 n18 68 ({ p with crc := ((n % 3 : Nat) : Int) } : PV).c) := hid (by rw [← hZ]; exact (H18.out.later e).set_ 1 _)
  have HM6 : Hid (Mod [n18] V5 V6) := hid (by rw [← hZ]; exact (e.h.mono (by simp)).setCell (.inl (by simp)) _)
  have HB0 : Hid (Blk V6 w.heap.size 68 p.c) := hid (HB0.out.mod HM6.out (by have := HN18.out.1; simp; omega))
  have H7 : Hid (Blk V6 n7 68 #[.int .u64 (p.fl : Int), .int .i64 p.crc, .int .i64 p.d.sch, str p.d.name, .int .u64 (p.d.node : Int), .int .u64 (p.d.svc : Int), .int .i64 p.s.sch, str p.s.name, .int .u64 (p.s.node : Int), .int .u64 (p.s.svc : Int), .int .i64 p.r.sch, str p.r.name, .int .u64 (p.r.node : Int), .int .u64 (p.r.svc : Int), .int .u64 (p.t : Int), .int .u64 (p.q : Int), .int .u64 (p.l : Int), .int .u64 (p.o : Int), .int .u64 (p.n : Int)]) := hid (H7.out.mod HM6.out (by have := HN18.out.2.1; simp; omega))
  have H14 : Hid (Blk V6 n14 68 #[.int .u64 (p.fl : Int), .int .i64 p.crc, .int .i64 p.d.sch, str p.d.name, .int .u64 (p.d.node : Int), .int .u64 (p.d.svc : Int), .int .i64 p.s.sch, str p.s.name, .int .u64 (p.s.node : Int), .int .u64 (p.s.svc : Int), .int .i64 p.r.sch, str p.r.name, .int .u64 (p.r.node : Int), .int .u64 (p.r.svc : Int), .int .u64 (p.t : Int), .int .u64 (p.q : Int), .int .u64 (p.l : Int), .int .u64 (p.o : Int), .int .u64 (p.n : Int)]) := hid (H14.out.mod HM6.out (by have := HN18.out.2.2; simp; omega))
  have HE : Hid (Ext w V6) := hid ((HE.out.of_ext.trans HM6.out).new (fun k hk => .inr (by have := HN18.out.1; rw [List.mem_singleton] at hk; omega)))
  clear hZ c1 f1 HM6 HBL hm3 e
  have HBL : Hid (∀ e : Later V6, Blk e.x w.heap.size 68 p.c) := hid (fun e => HB0.out.later e)
  have H7L : Hid (∀ e : Later V6, Blk e.x n7 68 #[.int .u64 (p.fl : Int), .int .i64 p.crc, .int .i64 p.d.sch, str p.d.name, .int .u64 (p.d.node : Int), .int .u64 (p.d.svc : Int), .int .i64 p.s.sch, str p.s.name, .int .u64 (p.s.node : Int), .int .u64 (p.s.svc : Int), .int .i64 p.r.sch, str p.r.name, .int .u64 (p.r.node : Int), .int .u64 (p.r.svc : Int), .int .u64 (p.t : Int), .int .u64 (p.q : Int), .int .u64 (p.l : Int), .int .u64 (p.o : Int), .int .u64 (p.n : Int)]) := hid (fun e => H7.out.later e)
  have H14L : Hid (∀ e : Later V6, Blk e.x n14 68 #[.int .u64 (p.fl : Int), .int .i64 p.crc, .int .i64 p.d.sch, str p.d.name, .int .u64 (p.d.node : Int), .int .u64 (p.d.svc : Int), .int .i64 p.s.sch, str p.s.name, .int .u64 (p.s.node : Int), .int .u64 (p.s.svc : Int), .int .i64 p.r.sch, str p.r.name, .int .u64 (p.r.node : Int), .int .u64 (p.r.svc : Int), .int .u64 (p.t : Int), .int .u64 (p.q : Int), .int .u64 (p.l : Int), .int .u64 (p.o : Int), .int .u64 (p.n : Int)]) := hid (fun e => H14.out.later e)
  have H18L : Hid (∀ e : Later V6, Blk e.x n18 68 ({ p with crc := ((n % 3 : Nat) : Int) } : PV).c) := hid (fun e => H18.out.later e)
  have KL3 : Hid (∀ W, Calls Try.prog 37 #[.agg ({ p with crc := ((n % 3 : Nat) : Int) } : PV).c] W (Ret (.tuple #[str PB, .int .i64 0]) W)) := hid (fun W => KL2.out (n % 3) hm4 W)
  obtain ⟨e, he⟩ := Later.self V6
  rw [he]
  clear he KL2
  have tk1 : True := trivial
  go_upto_region 12 with (first | (clear tk1; refine wpList_row (by rfl) 68 _ rfl _ rfl (H18L.out _) Try.underlying68 rfl (by kernel_rfl) ?_) | (go_at_call 37; refine (Ret.later (KL3.out _)).mono ?_; rintro x _ ⟨rfl, e, rfl⟩))
  have tk1 : True := trivial
  have tk2 : True := trivial
  have tk3 : True := trivial
  have tk4 : True := trivial
  go_wp2_with (first | (clear tk1; refine wpList_row (by rfl) 68 _ rfl _ rfl (H7L.out _) Try.underlying68 rfl (by kernel_rfl) ?_) | (clear tk2; refine wpList_row (by rfl) 68 _ rfl _ rfl (HBL.out _) Try.underlying68 rfl (by kernel_rfl) ?_) | (clear tk3; refine wpList_row (by rfl) 68 _ rfl _ rfl (H14L.out _) Try.underlying68 rfl (by kernel_rfl) ?_) | (clear tk4; refine wpList_row (by rfl) 68 _ rfl _ rfl (HBL.out _) Try.underlying68 rfl (by kernel_rfl) ?_))
  go_ret
  exact Ret.mk (by first | rfl | simp) (HE.out.trans e.h)
end Go.Proofs.Ytogjghmoankleaa


namespace Go.Proofs.Ytogjghmoankleaa
open Go.RowKit
set_option linter.unusedVariables false
set_option linter.unusedSimpArgs false

theorem pleaf_num {u : T} {d : Nat} (h : u.right d = true) (hk : u.kind = 0) : (numT u.n).same u = true := by
  cases u with
  | nil => cases h
  | mk kind n s op k ch =>
    have hk : kind = 0 := hk
    subst hk
    unfold T.right at h
    split at h
    · cases h
    · simp [T.node] at h
      obtain ⟨⟨⟨rfl, rfl⟩, rfl⟩, _⟩ := h
      simp [numT, T.same, T.all, T.n, T.kind, T.s, T.op, T.k]
theorem pleaf_str {u : T} {d : Nat} (h : u.right d = true) (hk : u.kind = 2) : (strT u.s).same u = true := by
  cases u with
  | nil => cases h
  | mk kind n s op k ch =>
    have hk : kind = 2 := hk
    subst hk
    unfold T.right at h
    split at h
    · cases h
    · simp [T.node] at h
      obtain ⟨⟨⟨rfl, rfl⟩, rfl⟩, _⟩ := h
      simp [strT, T.same, T.all, T.n, T.kind, T.s, T.op, T.k]
theorem parr_ns {t : T} {d : Nat} (h : t.right d = true) (hk : t.kind = 4) : t.n = 0 ∧ t.s = [] := by
  cases t with
  | nil => cases h
  | mk kind n s op k ch =>
    have hk : kind = 4 := hk
    subst hk
    unfold T.right at h
    split at h
    · cases h
    · simp [T.node] at h
      exact ⟨h.1.1.1, h.1.1.2⟩
/-- What is known of an item that read takes. -/
structure Taken (t : T) (P : PV) (s : List UInt8) : Prop where
  head : headR t = true
  nums : numsR t
  fl : P.fl = (t.ch 1).n
  crc : P.crc = ((min (t.ch 2).n 3 : Nat) : Int)
  nd : ofB (t.ch 3) = true ∧ P.d = readE (t.ch 3)
  ns : ofB (t.ch 4) = true ∧ P.s = readE (t.ch 4)
  nr : ofB (t.ch 5) = true ∧ P.r = readE (t.ch 5)
  whn : whenR (t.ch 6) = true
  kt : ((t.ch 6).ch 0).kind = 0 ∧ ((t.ch 6).ch 1).kind = 0 ∧ (t.ch 7).kind = 0
  vt : P.t = ((t.ch 6).ch 0).n ∧ P.q = ((t.ch 6).ch 1).n ∧ P.l = (t.ch 7).n
  frag : P.fl % 2 = 1 → ((t.ch 8).kind = 0 ∧ (t.ch 9).kind = 0) ∧ P.o = (t.ch 8).n ∧ P.n = (t.ch 9).n
  whole : ¬ P.fl % 2 = 1 → P.o = 0 ∧ P.n = 0
  sum : ∀ j, t.k = j + 1 → j = 8 + (if P.fl % 2 = 1 then 2 else 0) → (t.ch j).kind = 2 ∧ s = (t.ch j).s ∧ ((t.ch j).s.length : Int) = 2 * P.crc
  nosum : t.k = 8 + (if P.fl % 2 = 1 then 2 else 0) → s = []
theorem nm_ok {t : T} (h : ofB t = true) : nmE t = readE t := by unfold nmE; rw [if_pos h]
theorem sumR_spec {p q : PV} {k : Nat} {t : T} {s : List UInt8} (h : sumR p [] k t = (q, s, false)) : q = p ∧ (k = 0 → s = []) ∧ (k ≠ 0 → t.kind = 2 ∧ s = t.s ∧ (t.s.length : Int) = 2 * p.crc) := by
  unfold sumR at h
  by_cases h0 : k = 0
  · rw [if_pos h0] at h
    simp only [Prod.mk.injEq] at h
    exact ⟨h.1.symm, fun _ => h.2.1.symm, fun h1 => absurd h0 h1⟩
  · rw [if_neg h0] at h
    simp only [Prod.mk.injEq, Bool.not_eq_false', Bool.and_eq_true, decide_eq_true_eq] at h
    exact ⟨h.1.symm, fun h1 => absurd h1 h0, fun _ => ⟨h.2.2.1, h.2.1.symm, h.2.2.2⟩⟩
theorem read_taken {t : T} {P : PV} {s : List UInt8} (h : readR nilP [] t = (P, s, false)) : Taken t P s := by
  unfold readR at h
  by_cases h1 : headR t = false
  · rw [if_pos h1] at h; simp at h
  rw [if_neg h1] at h
  have hH : headR t = true := by simpa using h1
  by_cases h2 : ¬ numsR t
  · rw [if_pos h2] at h; simp at h
  rw [if_neg h2, kidT_eq] at h
  have hN : numsR t := by simpa using h2
  have hk := hN.2.2
  rw [kidT_eq] at hk
  by_cases h3 : nmB false (fun i => t.ch (i + 3)) 3 = true
  · rw [if_pos h3] at h; simp at h
  rw [if_neg h3] at h
  have hb : ofB (t.ch 3) = true ∧ ofB (t.ch 4) = true ∧ ofB (t.ch 5) = true := by
    have h3 : ¬ (((false || !ofB (t.ch 3)) || !ofB (t.ch 4)) || !ofB (t.ch 5)) = true := h3
    cases e3 : ofB (t.ch 3) <;> cases e4 : ofB (t.ch 4) <;> cases e5 : ofB (t.ch 5) <;> simp [e3, e4, e5] at h3 ⊢
  have hP : nmP (flcR nilP t) (fun i => t.ch (i + 3)) 3 = { nilP with fl := (t.ch 1).n, crc := ((min (t.ch 2).n 3 : Nat) : Int), d := readE (t.ch 3), s := readE (t.ch 4), r := readE (t.ch 5) } := by
    show ({ flcR nilP t with d := nmE (t.ch 3), s := nmE (t.ch 4), r := nmE (t.ch 5) } : PV) = _
    rw [nm_ok hb.1, nm_ok hb.2.1, nm_ok hb.2.2]
    unfold flcR
    rw [kidT_eq]
  rw [hP] at h
  unfold restR at h
  by_cases q1 : whenR ((fun i => t.ch (i + 6)) 0) = false
  · rw [if_pos q1] at h; simp at h
  rw [if_neg q1] at h
  have q1 : whenR (t.ch 6) = true := by have : ¬ whenR (t.ch 6) = false := q1; simpa using this
  by_cases q2 : ¬ ((kidT ((fun i => t.ch (i + 6)) 0) 0).kind = 0 ∧ (kidT ((fun i => t.ch (i + 6)) 0) 1).kind = 0 ∧ ((fun i => t.ch (i + 6)) 1).kind = 0)
  · rw [if_pos q2] at h; simp at h
  rw [if_neg q2] at h
  have q2 : ((t.ch 6).ch 0).kind = 0 ∧ ((t.ch 6).ch 1).kind = 0 ∧ (t.ch 7).kind = 0 := by
    have q2 : ¬ ¬ ((kidT (t.ch 6) 0).kind = 0 ∧ (kidT (t.ch 6) 1).kind = 0 ∧ (t.ch 7).kind = 0) := q2
    rw [kidT_eq (t.ch 6)] at q2
    simpa using q2
  have hT : tqlR { nilP with fl := (t.ch 1).n, crc := ((min (t.ch 2).n 3 : Nat) : Int), d := readE (t.ch 3), s := readE (t.ch 4), r := readE (t.ch 5) } (fun i => t.ch (i + 6)) = { nilP with fl := (t.ch 1).n, crc := ((min (t.ch 2).n 3 : Nat) : Int), d := readE (t.ch 3), s := readE (t.ch 4), r := readE (t.ch 5), t := ((t.ch 6).ch 0).n, q := ((t.ch 6).ch 1).n, l := (t.ch 7).n } := by
    show ({ nilP with fl := (t.ch 1).n, crc := ((min (t.ch 2).n 3 : Nat) : Int), d := readE (t.ch 3), s := readE (t.ch 4), r := readE (t.ch 5), t := (kidT (t.ch 6) 0).n, q := (kidT (t.ch 6) 1).n, l := (t.ch 7).n } : PV) = _
    rw [kidT_eq (t.ch 6)]
  rw [hT] at h
  by_cases hf : (t.ch 1).n % 2 = 1
  · rw [if_pos (show ({ nilP with fl := (t.ch 1).n, crc := ((min (t.ch 2).n 3 : Nat) : Int), d := readE (t.ch 3), s := readE (t.ch 4), r := readE (t.ch 5) } : PV).fl % 2 = 1 from hf)] at h
    by_cases q4 : ¬ (((fun i => t.ch (i + 6)) 2).kind = 0 ∧ ((fun i => t.ch (i + 6)) 3).kind = 0)
    · rw [if_pos q4] at h; simp at h
    rw [if_neg q4] at h
    have q4 : (t.ch 8).kind = 0 ∧ (t.ch 9).kind = 0 := by
      have q4 : ¬ ¬ ((t.ch 8).kind = 0 ∧ (t.ch 9).kind = 0) := q4
      simpa using q4
    obtain ⟨e1, e2, e3⟩ := sumR_spec h
    subst e1
    refine ⟨hH, hN, rfl, rfl, ⟨hb.1, rfl⟩, ⟨hb.2.1, rfl⟩, ⟨hb.2.2, rfl⟩, q1, q2, ⟨rfl, rfl, rfl⟩, fun _ => ⟨q4, rfl, rfl⟩, fun hn => absurd hf hn, fun j hj hj2 => ?_, fun hn => ?_⟩
    · have hf' : j = 8 + (if (t.ch 1).n % 2 = 1 then 2 else 0) := hj2
      rw [if_pos hf] at hf'
      have hf' : j = 10 := hf'
      subst hf'
      exact e3 (by omega)
    · have hf' : t.k = 8 + (if (t.ch 1).n % 2 = 1 then 2 else 0) := hn
      rw [if_pos hf] at hf'
      exact e2 (by omega)
  · rw [if_neg (show ¬ ({ nilP with fl := (t.ch 1).n, crc := ((min (t.ch 2).n 3 : Nat) : Int), d := readE (t.ch 3), s := readE (t.ch 4), r := readE (t.ch 5) } : PV).fl % 2 = 1 from hf)] at h
    obtain ⟨e1, e2, e3⟩ := sumR_spec h
    subst e1
    refine ⟨hH, hN, rfl, rfl, ⟨hb.1, rfl⟩, ⟨hb.2.1, rfl⟩, ⟨hb.2.2, rfl⟩, q1, q2, ⟨rfl, rfl, rfl⟩, fun hn => absurd hn hf, fun _ => ⟨rfl, rfl⟩, fun j hj hj2 => ?_, fun hn => ?_⟩
    · have hf' : j = 8 := by rw [hj2, if_neg (show ¬ (t.ch 1).n % 2 = 1 from hf)]
      subst hf'
      exact e3 (by omega)
    · have hf' : t.k = 8 := by rw [hn, if_neg (show ¬ (t.ch 1).n % 2 = 1 from hf)]
      exact e2 (by omega)
theorem name_same {t : T} (hr : t.right 8 = true) (hok : t.ok) (h : ofB t = true) : (readE t).ok = true ∧ (eidT (readE t)).same t = true := by
  have hp := tree_prev hr hok h
  obtain ⟨g1, g2, g3, g4⟩ := eidT_ok hp.1
  exact ⟨hp.1, bytes_same g3 (T.plain_of hr) g1 hok hp.2⟩
/-- The items ahead of the sum are the primary's. -/
theorem taken_front {t : T} (hr : t.right 8 = true) (hok : t.ok) {P : PV} {s : List UInt8} (h : Taken t P s) {k : Nat} (hk : P.crc = (k : Int)) (hk2 : k ≤ 2) : t.kind = 4 ∧ t.n = 0 ∧ t.s = [] ∧ t.op = false ∧ t.k = (priF P k).length + (if k = 0 then 0 else 1) ∧ ∀ (i : Nat) (x : T), (priF P k)[i]? = some x → x.same (t.ch i) = true := by
  obtain ⟨hH, hN, hfl, hcrc, ⟨nd, nd2⟩, ⟨ns, ns2⟩, ⟨nr, nr2⟩, hw, hkt, hvt, hfr, hwh, hsm, hns⟩ := h
  unfold headR at hH
  simp only [Bool.and_eq_true, decide_eq_true_eq, Bool.not_eq_true'] at hH
  obtain ⟨⟨⟨_, g2⟩, g3⟩, g4⟩ := hH
  unfold numsR at hN
  rw [kidT_eq] at hN
  obtain ⟨⟨z0, z1, z2⟩, z7, zk⟩ := hN
  have hn2 : (t.ch 2).n = k := by omega
  have r7 : ∀ i, i < t.k → (t.ch i).right 7 = true := fun i hi => chk_right hr hi
  have up : ∀ u : T, u.right 7 = true → u.right 8 = true := fun u hu => right_upP u 7 hu
  have hlen : t.k = (priF P k).length + (if k = 0 then 0 else 1) := by
    rw [zk, priF_length, hn2, hfl]
    unfold cntN
    have : (if k = 1 ∨ k = 2 then 1 else 0) = (if k = 0 then 0 else 1) := by split <;> split <;> omega
    rw [this]; omega
  obtain ⟨a1, a2⟩ := parr_ns hr g2
  refine ⟨g2, a1, a2, g3, hlen, ?_⟩
  have num : ∀ i n, i < t.k → (t.ch i).kind = 0 → (t.ch i).n = n → (numT n).same (t.ch i) = true := fun i n hi hk hn => by rw [← hn]; exact pleaf_num (r7 i hi) hk
  have s3 := name_same (up _ (r7 3 (by omega))) (chk_ok hok (by omega)) nd
  have s4 := name_same (up _ (r7 4 (by omega))) (chk_ok hok (by omega)) ns
  have s5 := name_same (up _ (r7 5 (by omega))) (chk_ok hok (by omega)) nr
  have s6 : (listT [numT P.t, numT P.q]).same (t.ch 6) = true := by
    unfold whenR at hw
    simp only [Bool.and_eq_true, decide_eq_true_eq, Bool.not_eq_true'] at hw
    obtain ⟨⟨w1, w2⟩, w3⟩ := hw
    obtain ⟨b1, b2⟩ := parr_ns (r7 6 (by omega)) w1
    refine list_same w1 b1 b2 w2 w3 (fun i x hx => ?_)
    match i with
    | 0 =>
      simp at hx; subst hx
      rw [hvt.1]
      exact pleaf_num (chk_right (d := 6) (r7 6 (by omega)) (by omega)) hkt.1
    | 1 =>
      simp at hx; subst hx
      rw [hvt.2.1]
      exact pleaf_num (chk_right (d := 6) (r7 6 (by omega)) (by omega)) hkt.2.1
    | i + 2 => simp at hx
  intro i x hx
  unfold priF at hx
  match i with
  | 0 => simp at hx; subst hx; exact num 0 7 (by omega) z0 z7
  | 1 => simp at hx; subst hx; exact num 1 _ (by omega) z1 hfl.symm
  | 2 => simp at hx; subst hx; exact num 2 _ (by omega) z2 hn2
  | 3 => simp at hx; subst hx; rw [nd2]; exact s3.2
  | 4 => simp at hx; subst hx; rw [ns2]; exact s4.2
  | 5 => simp at hx; subst hx; rw [nr2]; exact s5.2
  | 6 => simp at hx; subst hx; exact s6
  | 7 => simp at hx; subst hx; exact num 7 _ (by omega) hkt.2.2 hvt.2.2.symm
  | i + 8 =>
    by_cases hf : P.fl % 2 = 1
    · rw [if_pos hf] at hx
      have hl : 10 ≤ t.k := by rw [hlen, priF_length, if_pos hf]; omega
      obtain ⟨f1, f2, f3⟩ := hfr hf
      match i with
      | 0 => simp at hx; subst hx; exact num 8 _ (by omega) f1.1 f2.symm
      | 1 => simp at hx; subst hx; exact num 9 _ (by omega) f1.2 f3.symm
      | i + 2 => simp at hx
    · rw [if_neg hf] at hx
      simp at hx
theorem of_ok {t : T} (hr : t.right 8 = true) (hok : t.ok) (hsz : t.size ≤ 5000) {P : PV} (h : ofP t = (P, 0)) : P.right = 0 ∧ P.tree.same t = true := by
  obtain ⟨Q, s, bad, hrd⟩ : ∃ Q s bad, readR nilP [] t = (Q, s, bad) := ⟨_, _, _, rfl⟩
  unfold ofP at h
  rw [hrd] at h
  simp only [] at h
  cases bad with
  | true => rw [if_pos rfl] at h; simp at h
  | false =>
  rw [if_neg (by decide)] at h
  by_cases h1 : s ≠ [] ∧ (sumTr t Q.crc.toNat).same t = false
  · rw [if_pos h1] at h; simp at h
  rw [if_neg h1] at h
  by_cases h2 : Q.right ≠ 0
  · rw [if_pos h2] at h
    simp only [Prod.mk.injEq] at h
    exact absurd h.2 h2
  rw [if_neg h2] at h
  simp only [Prod.mk.injEq, and_true] at h
  subst h
  have hz : Q.right = 0 := by simpa using h2
  refine ⟨hz, ?_⟩
  have hT := read_taken hrd
  obtain ⟨_, _, _, c0, c2, _⟩ := PV.ranged_spec (PV.right_ranged hz)
  obtain ⟨k, hk⟩ : ∃ k : Nat, Q.crc = (k : Int) := ⟨Q.crc.toNat, by omega⟩
  have hk2 : k ≤ 2 := by omega
  have hkn : Q.crc.toNat = k := by omega
  obtain ⟨b1, b2, b3, b4, b5, b6⟩ := taken_front hr hok hT hk hk2
  unfold PV.tree priT
  rw [hkn, priL_front]
  by_cases hk0 : k = 0
  · rw [if_pos hk0, List.append_nil]
    exact list_same b1 b2 b3 b4 (by rw [b5, if_pos hk0]; omega) b6
  · rw [if_neg hk0]
    rw [if_neg hk0] at b5
    have hS := hT.sum (priF Q k).length b5 (by rw [priF_length])
    have hs0 : s ≠ [] := by
      intro e
      have := hS.2.2
      rw [← hS.2.1, e, hk] at this
      simp at this
      omega
    have hsum : (sumTr t k).same t = true := by
      have : ¬ (sumTr t k).same t = false := fun e => h1 ⟨hs0, by rw [hkn]; exact e⟩
      simpa using this
    have hFS : ∀ S : List UInt8, (strT S).same (t.ch (priF Q k).length) = true → (listT (priF Q k ++ [strT S])).same t = true := fun S hh => by
      refine list_same b1 b2 b3 b4 (by rw [b5]; simp) (fun i x hx => ?_)
      by_cases e : i < (priF Q k).length
      · rw [List.getElem?_append_left e] at hx; exact b6 i x hx
      · rw [List.getElem?_append_right (by omega)] at hx
        have : i = (priF Q k).length := by
          rcases Nat.lt_or_ge (i - (priF Q k).length) 1 with h | h
          · omega
          · rw [List.getElem?_eq_none (by simp; omega)] at hx; exact absurd hx (by simp)
        subst this
        simp at hx
        subst hx
        exact hh
    refine hFS _ ?_
    -- the sum that stands there
    have hstr : (strT (t.ch (priF Q k).length).s).same (t.ch (priF Q k).length) = true := pleaf_str (chk_right (d := 7) hr (by omega)) hS.1
    have hPT : (priT Q k (t.ch (priF Q k).length).s).same t = true := by
      unfold priT
      rw [priL_front, if_neg hk0]
      exact hFS _ hstr
    have hk11 : t.k ≤ 11 := by rw [b5, priF_length]; split <;> omega
    have hz9 := lastZ_all hok hr hk11 (by omega) hsz (Z := List.replicate (2 * k) 0) (by simp; omega)
    have e1 : (lastZ t (List.replicate (2 * k) 0)).bytes = priB Q k (List.replicate (2 * k) 0) := by
      rw [← priT_bytes]
      exact (T.same_bytes _ _ hz9.1 (front_same (Z := List.replicate (2 * k) 0) hk0 hPT)).symm
    have e2 : sumTr t k = lastZ t (priSum Q k) := by
      unfold sumTr priSum
      rw [e1, if_neg hk0]
    rw [e2] at hsum
    obtain ⟨_, _, _, _, _, d6⟩ := same_list hsum
    have := d6 (t.k - 1) (strT (priSum Q k)) (by rw [List.getElem?_append_right (by rw [frontL_length]; omega), frontL_length]; simp)
    rw [show (priF Q k).length = t.k - 1 by omega]
    exact this
end Go.Proofs.Ytogjghmoankleaa


namespace Go.Proofs.Ytogjghmoankleaa
set_option linter.unusedVariables false
set_option linter.unusedSimpArgs false
namespace Crc

/-- Is the number of the bits that are 1, among the lowest n, odd? -/
def par : Nat → Nat → Bool
  | 0, _ => false
  | n + 1, x => Bool.xor (decide (x % 2 = 1)) (par n (x / 2))
theorem par_xor : ∀ (n x y : Nat), par n (x ^^^ y) = Bool.xor (par n x) (par n y)
  | 0, x, y => rfl
  | n + 1, x, y => by
    unfold par
    rw [xor_half, par_xor n, xor_mod]
    rcases Nat.mod_two_eq_zero_or_one x with hx | hx <;> rcases Nat.mod_two_eq_zero_or_one y with hy | hy <;> simp [hx, hy]
theorem par_zero : ∀ n, par n 0 = false
  | 0 => rfl
  | n + 1 => by unfold par; rw [par_zero n]; rfl
theorem par_more : ∀ (n m x : Nat), x < 2 ^ n → par (n + m) x = par n x
  | 0, m, x, h => by
    have : x = 0 := by simpa using h
    subst this
    rw [par_zero]; rfl
  | n + 1, m, x, h => by
    rw [show n + 1 + m = (n + m) + 1 by omega]
    unfold par
    rw [par_more n m (x / 2) (by rw [Nat.pow_succ] at h; omega)]
theorem par_split : ∀ (a b x : Nat), par (a + b) x = Bool.xor (par a x) (par b (x / 2 ^ a))
  | 0, b, x => by simp [par]
  | a + 1, b, x => by
    rw [show a + 1 + b = (a + b) + 1 by omega]
    show Bool.xor (decide (x % 2 = 1)) (par (a + b) (x / 2)) = Bool.xor (Bool.xor (decide (x % 2 = 1)) (par a (x / 2))) (par b (x / 2 ^ (a + 1)))
    rw [par_split a b (x / 2), Nat.div_div_eq_div_mul, Nat.pow_succ, Nat.mul_comm 2, Bool.xor_assoc]
theorem par_mod : ∀ (a x : Nat), par a (x % 2 ^ a) = par a x
  | 0, x => rfl
  | a + 1, x => by
    unfold par
    have h1 : x % 2 ^ (a + 1) % 2 = x % 2 := by rw [Nat.pow_succ, Nat.mul_comm, Nat.mod_mul_right_mod]
    have h2 : x % 2 ^ (a + 1) / 2 = x / 2 % 2 ^ a := by rw [Nat.pow_succ, Nat.mul_comm, Nat.mod_mul_right_div_self]
    rw [h1, h2, par_mod a]
theorem stepC_par {p m s : Nat} (hp : par (m + 1) p = true) (hs : s < 2 ^ (m + 1)) : par (m + 1) (stepC p s) = par (m + 1) s := by
  have h2 : par (m + 1) (s / 2) = par m (s / 2) := par_more m 1 _ (by rw [Nat.pow_succ] at hs; omega)
  have h3 : par (m + 1) s = Bool.xor (decide (s % 2 = 1)) (par m (s / 2)) := rfl
  unfold stepC
  rcases Nat.mod_two_eq_zero_or_one s with e | e
  · rw [if_neg (by omega), h2, h3, e]; simp
  · rw [if_pos e, par_xor, hp, h2, h3, e]; simp
theorem stepsC_par {p m : Nat} (hp : par (m + 1) p = true) (hp2 : p < 2 ^ (m + 1)) : ∀ (k s : Nat), s < 2 ^ (m + 1) → par (m + 1) (stepsC p k s) = par (m + 1) s
  | 0, s, h => rfl
  | k + 1, s, h => by
    show par (m + 1) (stepsC p k (stepC p s)) = _
    rw [stepsC_par hp hp2 k _ (stepC_lt hp2 h), stepC_par hp h]
/-- The parity of a row of bytes. -/
def parL : List UInt8 → Bool
  | [] => false
  | c :: l => Bool.xor (par 8 c.toNat) (parL l)
theorem parL_append : ∀ a b : List UInt8, parL (a ++ b) = Bool.xor (parL a) (parL b)
  | [], b => by simp [parL]
  | c :: a, b => by
    show Bool.xor (par 8 c.toNat) (parL (a ++ b)) = Bool.xor (Bool.xor (par 8 c.toNat) (parL a)) (parL b)
    rw [parL_append a b, Bool.xor_assoc]
theorem divC_par {p k : Nat} (hp : par (8 + k) p = true) (hp2 : p < 2 ^ (8 + k)) : ∀ (l : List UInt8) (s : Nat), s < 2 ^ (8 + k) → par (8 + k) (divC p s l) = Bool.xor (par (8 + k) s) (parL l)
  | [], s, h => by simp [divC, parL]
  | c :: l, s, h => by
    have hc : c.toNat < 2 ^ 8 := c.toNat_lt
    have hx : s ^^^ c.toNat < 2 ^ (8 + k) := Nat.xor_lt_two_pow h (Nat.lt_of_lt_of_le hc (Nat.pow_le_pow_right (by omega) (by omega)))
    have e : 8 + k = (7 + k) + 1 := by omega
    have ih := divC_par hp hp2 l (stepsC p 8 (s ^^^ c.toNat)) (stepsC_lt hp2 8 _ hx)
    have h1 : par (8 + k) (stepsC p 8 (s ^^^ c.toNat)) = par (8 + k) (s ^^^ c.toNat) := by
      rw [e] at hp hp2 hx ⊢
      exact stepsC_par hp hp2 8 _ hx
    have h2 : par (8 + k) c.toNat = par 8 c.toNat := par_more 8 k _ hc
    show par (8 + k) (divC p (stepsC p 8 (s ^^^ c.toNat)) l) = Bool.xor (par (8 + k) s) (Bool.xor (par 8 c.toNat) (parL l))
    rw [ih, h1, par_xor, h2, Bool.xor_assoc]
theorem parL_be : ∀ (k n : Nat), parL (be n k) = par (8 * k) n
  | 0, n => rfl
  | k + 1, n => by
    have h : n / 2 ^ (8 * k) % 256 < 256 := Nat.mod_lt _ (by omega)
    rw [be_succ]
    show Bool.xor (par 8 (b8 (n / 2 ^ (8 * k) % 256)).toNat) (parL (be n k)) = _
    rw [toNat_b8 h, parL_be k n, show 8 * (k + 1) = 8 * k + 8 by omega, par_split, Bool.xor_comm]
    congr 1
    exact (par_mod 8 _)
theorem parL_zero : ∀ k, parL (List.replicate k 0) = false
  | 0 => rfl
  | k + 1 => by rw [List.replicate_succ]; show Bool.xor (par 8 (0 : UInt8).toNat) (parL (List.replicate k 0)) = false; rw [parL_zero k]; rfl
theorem x25_par (l : List UInt8) : par 16 (x25 l) = parL l := by
  have h := divC_par (p := 33800) (k := 8) (by decide) (by decide) l 65535 (by decide)
  have hl : divC 33800 65535 l < 2 ^ 16 := divC_lt (by decide) l 65535 (by decide) (by decide)
  have h2 : x25 l = 65535 ^^^ divC 33800 65535 l := not_xor (n := 16) hl
  rw [h2, par_xor]
  have h3 : par 16 65535 = false := by decide
  rw [show (8 + 8 : Nat) = 16 from rfl] at h
  rw [h, h3]; simp
theorem cast_par (l : List UInt8) : par 32 (cast l) = parL l := by
  have h := divC_par (p := 2197175160) (k := 24) (by decide +kernel) (by decide) l 4294967295 (by decide)
  have hl : divC 2197175160 4294967295 l < 2 ^ 32 := divC_lt (by decide) l 4294967295 (by decide) (by decide)
  have h2 : cast l = 4294967295 ^^^ divC 2197175160 4294967295 l := not_xor (n := 32) hl
  rw [h2, par_xor]
  have h3 : par 32 4294967295 = false := by decide +kernel
  rw [show (8 + 24 : Nat) = 32 from rfl] at h
  rw [h, h3]; simp
theorem sumL_par {k : Nat} (h1 : 1 ≤ k) (h2 : k ≤ 2) (l : List UInt8) : parL (sumL k l) = parL l := by
  have : k = 1 ∨ k = 2 := by omega
  rcases this with rfl | rfl
  · show parL (be (x25 l) 2) = _; rw [parL_be]; exact x25_par l
  · show parL (be (cast l) 4) = _; rw [parL_be]; exact cast_par l
/-- What has a right sum at its end is even. -/
theorem even_of_sum {k : Nat} (h1 : 1 ≤ k) (h2 : k ≤ 2) (l : List UInt8) : parL (l ++ sumL k (l ++ List.replicate (2 * k) 0)) = false := by
  rw [parL_append, sumL_par h1 h2, parL_append, parL_zero]
  cases parL l <;> rfl
/-- One bit turned. -/
theorem par_bit : ∀ j, j < 8 → par 8 (2 ^ j) = true := by decide
theorem parL_set (l : List UInt8) (i : Nat) (c d : UInt8) (hi : l[i]? = some c) (h : par 8 d.toNat = !par 8 c.toNat) : parL (l.set i d) = !parL l := by
  induction l generalizing i with
  | nil => simp at hi
  | cons a l ih =>
    cases i with
    | zero =>
      simp at hi
      subst hi
      simp only [List.set_cons_zero, parL, h]
      cases par 8 a.toNat <;> cases parL l <;> rfl
    | succ i =>
      simp only [List.set_cons_succ, parL]
      rw [ih i (by simpa using hi)]
      cases par 8 a.toNat <;> cases parL l <;> rfl
end Crc
end Go.Proofs.Ytogjghmoankleaa


namespace Go.Proofs.Ytogjghmoankleaa
open Go.RowKit
set_option linter.unusedVariables false
set_option linter.unusedSimpArgs false

/-- The bytes l lie at the beginning of the block g, and may be written. -/
def BytesAt (w : World) (g : Nat) (l : List UInt8) : Prop := g < w.heap.size ∧ ∀ j (h : j < l.length), w.cell? ⟨g, j, none⟩ = some (.int .u8 (l[j].toNat : Int)) ∧ w.frozen? ⟨g, j, none⟩ = false
theorem BytesAt.mod {w w' : World} {g : Nat} {l : List UInt8} {S : List Nat} (h : BytesAt w g l) (hm : Mod S w w') (hs : g ∉ S) : BytesAt w' g l :=
  ⟨Nat.lt_of_lt_of_le h.1 hm.size, fun j hj => ⟨(hm.cell h.1 hs).trans (h.2 j hj).1, (hm.frozen h.1 hs).trans (h.2 j hj).2⟩⟩
theorem BytesAt.ext {w w' : World} {g : Nat} {l : List UInt8} (h : BytesAt w g l) (hm : Ext w w') : BytesAt w' g l := h.mod hm (by simp)
theorem bytesAt_new (w : World) (l : List UInt8) (cap t : Nat) : BytesAt (w.alloc (.cells (bytesRow ⟨l.toArray⟩ cap) t ((bytesRow ⟨l.toArray⟩ cap).size, (bytesRow ⟨l.toArray⟩ cap).size + 1))) w.heap.size l := by
  refine ⟨by simp, fun j hj => ⟨cell_row8 w l cap t _ j hj, ?_⟩⟩
  have h0 : (w.alloc (.cells (bytesRow ⟨l.toArray⟩ cap) t ((bytesRow ⟨l.toArray⟩ cap).size, (bytesRow ⟨l.toArray⟩ cap).size + 1))).heap[w.heap.size]? = some (.cells (bytesRow ⟨l.toArray⟩ cap) t ((bytesRow ⟨l.toArray⟩ cap).size, (bytesRow ⟨l.toArray⟩ cap).size + 1)) := heap_alloc_new w _
  unfold World.frozen?
  rw [h0]
  have hs : l.length ≤ (bytesRow ⟨l.toArray⟩ cap).size := by simp [bytesRow]
  simp only [Bool.and_eq_false_iff, decide_eq_false_iff_not]
  left
  omega
theorem BytesAt.set {w : World} {g : Nat} {l : List UInt8} (h : BytesAt w g l) (j : Nat) (d : UInt8) (hj : j < l.length) : BytesAt (w.setCell ⟨g, j, none⟩ (.int .u8 (d.toNat : Int))) g (l.set j d) := by
  refine ⟨by simpa [World.setCell] using h.1, fun i hi => ?_⟩
  have hi' : i < l.length := by simpa using hi
  constructor
  · by_cases e : i = j
    · subst e
      have h1 := (h.2 i hj).1
      rw [List.getElem_set_self]
      exact World.cell?_setCell_same _ _ _ (by rw [h1])
    · rw [World.cell?_setCell_other _ _ _ _ (by intro he; injection he with _ h2; exact e h2.symm), (h.2 i hi').1, List.getElem_set_ne (by omega)]
  · rw [World.frozen?_setCell]; exact (h.2 i hi').2
theorem BytesAt.conv {W : World} {g : Nat} {l : List UInt8} (h : BytesAt W g l) (c : Nat) : (convert 73 9 (.slice (some ⟨g, 0, none⟩) l.length c)).run Try.prog W = .ok (str l) W := by
  refine run_convert_bytes_back (P := Try.prog) _ 73 9 5 _ c l Try.underlying73 Try.underlying5 Try.underlying9 (fun j hj => ?_)
  rw [addr_add, Nat.zero_add]
  exact (h.2 j hj).1
/-- One bit of the byte at i turned. -/
def flipL (l : List UInt8) (m : Nat) : List UInt8 := l.set (m / 8) (b8 ((l.getD (m / 8) 0).toNat ^^^ 2 ^ (m % 8)))
theorem flipL_length (l : List UInt8) (m : Nat) : (flipL l m).length = l.length := by simp [flipL]
theorem flipL_par (l : List UInt8) (m : Nat) (hm : m < 8 * l.length) : Crc.parL (flipL l m) = !Crc.parL l := by
  have hi : m / 8 < l.length := by omega
  unfold flipL
  have hx : (l.getD (m / 8) 0).toNat ^^^ 2 ^ (m % 8) < 2 ^ 8 := Nat.xor_lt_two_pow (UInt8.toNat_lt _) (Nat.pow_lt_pow_right (by omega) (by omega))
  refine Crc.parL_set l (m / 8) (l.getD (m / 8) 0) _ (by rw [List.getD_eq_getElem?_getD, List.getElem?_eq_getElem hi]; rfl) ?_
  rw [toNat_b8 hx, Crc.par_xor, Crc.par_bit (m % 8) (by omega)]
  cases Crc.par 8 (l.getD (m / 8) 0).toNat <;> rfl
end Go.Proofs.Ytogjghmoankleaa
