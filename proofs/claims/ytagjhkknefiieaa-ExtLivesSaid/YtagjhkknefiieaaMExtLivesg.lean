/-
  An argument api.Bundle, opened: its primary's cells; its blocks lie in memory.
  Which names, primaries and bundles are of a size that is looked at.
  Bundles: the first block of a type; whether a bundle is of a size that is looked at.
  Bundles: whether their data of the three types are right.
  Bundles: how long they have lived; whether their data are right, as the code tells it; which are of a size that is looked at.
  Bundles: whether their data are right, as the code tells it; whether they have lived too long; which are of a size that is looked at.
  The law ExtLives, walked.
-/
import Derived.Test.YtagjhkknefiieaaMExtLivesf

namespace Go.Proofs.Ytagjhkknefiieaa
open Go.ChangeShapes Go.WideShapes Go.ChangeAt Go.RowKit Go.Deep
set_option linter.unusedVariables false

def EV.wf (e : EV) : Prop := (-9223372036854775808 ≤ e.sch ∧ e.sch ≤ 9223372036854775807) ∧ e.node < 18446744073709551616 ∧ e.svc < 18446744073709551616
def PV.wf (p : PV) : Prop := p.fl < 18446744073709551616 ∧ (-9223372036854775808 ≤ p.crc ∧ p.crc ≤ 9223372036854775807) ∧ p.d.wf ∧ p.s.wf ∧ p.r.wf ∧ p.t < 18446744073709551616 ∧ p.q < 18446744073709551616 ∧ p.l < 18446744073709551616 ∧ p.o < 18446744073709551616 ∧ p.n < 18446744073709551616
def BV.wf (b : BV) : Prop := (-9223372036854775808 ≤ b.ty ∧ b.ty ≤ 9223372036854775807) ∧ (-9223372036854775808 ≤ b.num ∧ b.num ≤ 9223372036854775807) ∧ b.fl < 18446744073709551616 ∧ (-9223372036854775808 ≤ b.crc ∧ b.crc ≤ 9223372036854775807)
section
variable {H : Type} {enc : TypeId × Value → H} {w : World} {base b0 : Nat} {spare : Nat → Bool} {held : Bool} {r : Reach}
theorem fldB {P : Program} {n k : Nat} {ty : TypeId} {l : List Value} {off : Nat} {y : Option (DataW H × List MemPlace)} (hk : P.cellsOf ty = k) (h : DataW.trod enc P w base spare held n ty ((l.drop off).take (P.cellsOf ty)) = y) : DataW.trod enc P w base spare held n ty ((l.drop off).take k) = y := by rw [hk] at h; exact h
set_option maxRecDepth 100000 in
theorem trod_blkC {fuel : Nat} {L : List Value} {x : DataW H × List MemPlace} (h : DataW.trod enc Try.prog w base spare held fuel 90 L = some x) : ∃ b : BV, L = [.int .i64 b.ty, .int .i64 b.num, .int .u64 (b.fl : Int), .int .i64 b.crc, str b.data] ∧ b.wf := by
  obtain ⟨ys, n', hn', hy, hlen, hyl, hfl⟩ := DataW.trod_struct Try.underlying90 h
  clear h
  match L, hlen with
  | [c0, c1, c2, c3, c4], _ =>
    have h0 := field_at (by kernel_rfl) hfl (i := 0) rfl rfl
    have h1 := field_at (by kernel_rfl) hfl (i := 1) rfl rfl
    have h2 := field_at (by kernel_rfl) hfl (i := 2) rfl rfl
    have h3 := field_at (by kernel_rfl) hfl (i := 3) rfl rfl
    have h4 := field_at (by kernel_rfl) hfl (i := 4) rfl rfl
    clear hfl
    match ys, hyl with
    | [y0, y1, y2, y3, y4], _ =>
      obtain ⟨ty, e0, _, w0⟩ := DataW.trod_int (k := .i64) (by kernel_rfl) h0
      obtain ⟨num, e1, _, w1⟩ := DataW.trod_int (k := .i64) (by kernel_rfl) h1
      obtain ⟨fl, e2, _, w2⟩ := DataW.trod_int (k := .u64) (by kernel_rfl) h2
      obtain ⟨crc, e3, _, w3⟩ := DataW.trod_int (k := .i64) (by kernel_rfl) h3
      obtain ⟨s, e4, _, _⟩ := DataW.trod_string (by kernel_rfl) h4
      have q0 : c0 = .int .i64 ty := by have : [c0] = [Value.int .i64 ty] := e0; simpa using this
      have q1 : c1 = .int .i64 num := by have : [c1] = [Value.int .i64 num] := e1; simpa using this
      have q2 : c2 = .int .u64 fl := by have : [c2] = [Value.int .u64 fl] := e2; simpa using this
      have q3 : c3 = .int .i64 crc := by have : [c3] = [Value.int .i64 crc] := e3; simpa using this
      have q4 : c4 = .string s := by have : [c4] = [Value.string s] := e4; simpa using this
      subst q0 q1 q2 q3 q4
      have b0 : -9223372036854775808 ≤ ty ∧ ty ≤ 9223372036854775807 := by simpa [Lit.wf, IntKind.min, IntKind.max, IntKind.signed, IntKind.bits] using w0
      have b1 : -9223372036854775808 ≤ num ∧ num ≤ 9223372036854775807 := by simpa [Lit.wf, IntKind.min, IntKind.max, IntKind.signed, IntKind.bits] using w1
      have b2 : 0 ≤ fl ∧ fl ≤ 18446744073709551615 := by simpa [Lit.wf, IntKind.min, IntKind.max, IntKind.signed, IntKind.bits] using w2
      have b3 : -9223372036854775808 ≤ crc ∧ crc ≤ 9223372036854775807 := by simpa [Lit.wf, IntKind.min, IntKind.max, IntKind.signed, IntKind.bits] using w3
      obtain ⟨fl, rfl⟩ := Int.eq_ofNat_of_zero_le b2.1
      exact ⟨⟨ty, num, fl, crc, s.data.toList⟩, rfl, b0, b1, by show fl < _; omega, b3⟩
set_option maxRecDepth 100000 in
theorem trod_priC {fuel : Nat} {L : List Value} {x : DataW H × List MemPlace} (h : DataW.trod enc Try.prog w base spare held fuel 53 L = some x) : ∃ p : PV, L = p.c.toList ∧ p.wf := by
  obtain ⟨ys, n', hn', hy, hlen, hyl, hfl⟩ := DataW.trod_struct Try.underlying53 h
  clear h
  have k1 : Try.prog.cellsOf 22 = 1 := by kernel_rfl
  have k2 : Try.prog.cellsOf 3 = 1 := by kernel_rfl
  have k3 : Try.prog.cellsOf 24 = 4 := by kernel_rfl
  match L, hlen with
  | [c0, c1, c2, c3, c4, c5, c6, c7, c8, c9, c10, c11, c12, c13, c14, c15, c16, c17, c18], _ =>
    match ys, hyl with
    | [y0, y1, y2, y3, y4, y5, y6, y7, y8, y9], _ =>
      have h0 : DataW.trod enc Try.prog w base spare held n' 22 [c0] = some y0 := fldB k1 (hfl 0 _ rfl)
      have h1 : DataW.trod enc Try.prog w base spare held n' 3 [c1] = some y1 := fldB k2 (hfl 1 _ rfl)
      have h2 : DataW.trod enc Try.prog w base spare held n' 24 [c2, c3, c4, c5] = some y2 := fldB k3 (hfl 2 _ rfl)
      have h3 : DataW.trod enc Try.prog w base spare held n' 24 [c6, c7, c8, c9] = some y3 := fldB k3 (hfl 3 _ rfl)
      have h4 : DataW.trod enc Try.prog w base spare held n' 24 [c10, c11, c12, c13] = some y4 := fldB k3 (hfl 4 _ rfl)
      have h5 : DataW.trod enc Try.prog w base spare held n' 22 [c14] = some y5 := fldB k1 (hfl 5 _ rfl)
      have h6 : DataW.trod enc Try.prog w base spare held n' 22 [c15] = some y6 := fldB k1 (hfl 6 _ rfl)
      have h7 : DataW.trod enc Try.prog w base spare held n' 22 [c16] = some y7 := fldB k1 (hfl 7 _ rfl)
      have h8 : DataW.trod enc Try.prog w base spare held n' 22 [c17] = some y8 := fldB k1 (hfl 8 _ rfl)
      have h9 : DataW.trod enc Try.prog w base spare held n' 22 [c18] = some y9 := fldB k1 (hfl 9 _ rfl)
      clear hfl
      obtain ⟨z1, e1, _, w1⟩ := DataW.trod_int (k := .i64) (by kernel_rfl) h1
      have b1 : -9223372036854775808 ≤ z1 ∧ z1 ≤ 9223372036854775807 := by simpa [Lit.wf, IntKind.min, IntKind.max, IntKind.signed, IntKind.bits] using w1
      obtain ⟨E2, e2, n2, s2, x2⟩ := trod_eid h2
      obtain ⟨E3, e3, n3, s3, x3⟩ := trod_eid h3
      obtain ⟨E4, e4, n4, s4, x4⟩ := trod_eid h4
      obtain ⟨z0, e0, _, w0⟩ := DataW.trod_int (k := .u64) (by kernel_rfl) h0
      have b0 : 0 ≤ z0 ∧ z0 ≤ 18446744073709551615 := by simpa [Lit.wf, IntKind.min, IntKind.max, IntKind.signed, IntKind.bits] using w0
      obtain ⟨z0, rfl⟩ := Int.eq_ofNat_of_zero_le b0.1
      obtain ⟨z5, e5, _, w5⟩ := DataW.trod_int (k := .u64) (by kernel_rfl) h5
      have b5 : 0 ≤ z5 ∧ z5 ≤ 18446744073709551615 := by simpa [Lit.wf, IntKind.min, IntKind.max, IntKind.signed, IntKind.bits] using w5
      obtain ⟨z5, rfl⟩ := Int.eq_ofNat_of_zero_le b5.1
      obtain ⟨z6, e6, _, w6⟩ := DataW.trod_int (k := .u64) (by kernel_rfl) h6
      have b6 : 0 ≤ z6 ∧ z6 ≤ 18446744073709551615 := by simpa [Lit.wf, IntKind.min, IntKind.max, IntKind.signed, IntKind.bits] using w6
      obtain ⟨z6, rfl⟩ := Int.eq_ofNat_of_zero_le b6.1
      obtain ⟨z7, e7, _, w7⟩ := DataW.trod_int (k := .u64) (by kernel_rfl) h7
      have b7 : 0 ≤ z7 ∧ z7 ≤ 18446744073709551615 := by simpa [Lit.wf, IntKind.min, IntKind.max, IntKind.signed, IntKind.bits] using w7
      obtain ⟨z7, rfl⟩ := Int.eq_ofNat_of_zero_le b7.1
      obtain ⟨z8, e8, _, w8⟩ := DataW.trod_int (k := .u64) (by kernel_rfl) h8
      have b8 : 0 ≤ z8 ∧ z8 ≤ 18446744073709551615 := by simpa [Lit.wf, IntKind.min, IntKind.max, IntKind.signed, IntKind.bits] using w8
      obtain ⟨z8, rfl⟩ := Int.eq_ofNat_of_zero_le b8.1
      obtain ⟨z9, e9, _, w9⟩ := DataW.trod_int (k := .u64) (by kernel_rfl) h9
      have b9 : 0 ≤ z9 ∧ z9 ≤ 18446744073709551615 := by simpa [Lit.wf, IntKind.min, IntKind.max, IntKind.signed, IntKind.bits] using w9
      obtain ⟨z9, rfl⟩ := Int.eq_ofNat_of_zero_le b9.1
      simp only [List.cons.injEq, and_true] at e0 e1 e2 e3 e4 e5 e6 e7 e8 e9
      obtain ⟨rfl, rfl, rfl, rfl⟩ := e2
      obtain ⟨rfl, rfl, rfl, rfl⟩ := e3
      obtain ⟨rfl, rfl, rfl, rfl⟩ := e4
      subst e0 e1 e5 e6 e7 e8 e9
      exact ⟨⟨z0, z1, E2, E3, E4, z5, z6, z7, z8, z9⟩, rfl, by show z0 < _; omega, b1, ⟨x2, n2, s2⟩, ⟨x3, n3, s3⟩, ⟨x4, n4, s4⟩, by show z5 < _; omega, by show z6 < _; omega, by show z7 < _; omega, by show z8 < _; omega, by show z9 < _; omega⟩
/-- A slice of blocks. -/
theorem trod_blks {fuel : Nat} {c3 : Value} {y : DataW H × List MemPlace} (h3 : DataW.trod enc Try.prog w base spare held fuel 54 [c3] = some y) (hz : ∀ n ∈ y.1.weights Try.prog 54, n ≤ reachBytes) :
    ∃ (A : Option Addr) (k c : Nat) (bs : Nat → BV), c3 = .slice A k c ∧ k < 4611686018427387904 ∧ BsL w A k bs ∧ ∀ i, i < k → (bs i).wf := by
  have hR : reachBytes < 140737488355328 := by decide
  rcases DataW.trod_slice (e := 90) (by kernel_rfl) h3 with ⟨hcs, _⟩ | ⟨a, len, cap', elems, rest, f, hf, hcs, hx, hb, hl, hm, hlen, hel, _, _⟩
  · have e3 : c3 = .slice none 0 0 := by simpa using hcs
    subst e3
    exact ⟨none, 0, 0, fun _ => zeroB, rfl, by omega, fun h => by omega, fun i hi => by omega⟩
  · have e3 : c3 = .slice (some a) len cap' := by simpa using hcs
    subst e3
    have hC : Try.prog.cellsOf 90 = 5 := by kernel_rfl
    have hBy : Try.prog.bytesOf 90 = 48 := by kernel_rfl
    have hzs := hz
    rw [hx] at hzs
    simp only [DataW.weights, Try.underlying54] at hzs
    have bl : len < 4611686018427387904 := by
      have h8 := hzs _ List.mem_cons_self
      rw [hBy, List.length_map, hlen] at h8
      have h9 : len * 48 ≤ (len + (List.map (fun x => x.1) rest).length) * 48 := Nat.mul_le_mul_right _ (Nat.le_add_right _ _)
      omega
    have key : ∀ i, i < len → ∃ t : BV, (w.cell? ((a.add (i * 5)).add 0) = some (.int .i64 t.ty) ∧ w.cell? ((a.add (i * 5)).add 1) = some (.int .i64 t.num) ∧ w.cell? ((a.add (i * 5)).add 2) = some (.int .u64 (t.fl : Int)) ∧ w.cell? ((a.add (i * 5)).add 3) = some (.int .i64 t.crc) ∧ w.cell? ((a.add (i * 5)).add 4) = some (str t.data)) ∧ t.wf := by
      intro i hin
      have hi := hel i hin
      rw [List.getElem?_eq_getElem (by omega)] at hi
      obtain ⟨cs', hc, ht⟩ := Option.bind_eq_some_iff.1 hi
      obtain ⟨t, rfl, hw⟩ := trod_blkC ht
      rw [hC] at hc
      obtain ⟨_, hcl, hat⟩ := World.cells?_some hc
      exact ⟨t, ⟨hat 0 (by simp), hat 1 (by simp), hat 2 (by simp), hat 3 (by simp), hat 4 (by simp)⟩, hw⟩
    have key2 : ∀ i, ∃ t : BV, i < len → (w.cell? ((a.add (i * 5)).add 0) = some (.int .i64 t.ty) ∧ w.cell? ((a.add (i * 5)).add 1) = some (.int .i64 t.num) ∧ w.cell? ((a.add (i * 5)).add 2) = some (.int .u64 (t.fl : Int)) ∧ w.cell? ((a.add (i * 5)).add 3) = some (.int .i64 t.crc) ∧ w.cell? ((a.add (i * 5)).add 4) = some (str t.data)) ∧ t.wf := fun i => by
      by_cases hin : i < len
      · obtain ⟨t, h5⟩ := key i hin
        exact ⟨t, fun _ => h5⟩
      · exact ⟨zeroB, fun h => absurd h hin⟩
    obtain ⟨g, hg⟩ : ∃ g : Nat → BV, ∀ i, i < len → (w.cell? ((a.add (i * 5)).add 0) = some (.int .i64 (g i).ty) ∧ w.cell? ((a.add (i * 5)).add 1) = some (.int .i64 (g i).num) ∧ w.cell? ((a.add (i * 5)).add 2) = some (.int .u64 ((g i).fl : Int)) ∧ w.cell? ((a.add (i * 5)).add 3) = some (.int .i64 (g i).crc) ∧ w.cell? ((a.add (i * 5)).add 4) = some (str (g i).data)) ∧ (g i).wf :=
      ⟨fun i => Classical.choose (key2 i), fun i => Classical.choose_spec (key2 i)⟩
    refine ⟨some a, len, cap', g, rfl, bl, fun h0 => ?_, fun i hi => (hg i hi).2⟩
    obtain ⟨⟨z0, _⟩, _⟩ := hg 0 h0
    have z1 : w.cell? a = some (.int .i64 (g 0).ty) := by simpa [Addr.add] using z0
    have hsp := World.cell?_spot z1
    obtain ⟨ab, ao, sp⟩ := a
    simp only at hsp
    subst hsp
    refine ⟨ab, ao, rfl, World.block_lt_of_cell? w _ z1, fun i hin => ?_⟩
    obtain ⟨⟨g0, g1, g2, g3, g4⟩, _⟩ := hg i hin
    rw [addr_add, addr_add] at g0 g1 g2 g3 g4
    exact ⟨g0, g1, g2, g3, g4⟩
set_option maxRecDepth 100000 in
theorem open_bundle {v : Value} {d : DataW H} {q : List MemPlace} (hval : Value.okWide Try.prog w r b0 56 v) (h : DataW.Trod enc Try.prog w base spare held 56 v d q) (hz : ∀ n ∈ d.weights Try.prog 56, n ≤ reachBytes) :
    ∃ (p : PV) (A : Option Addr) (k c : Nat) (bs : Nat → BV), v = bunV p A k c ∧ p.wf ∧ k < 4611686018427387904 ∧ BsL w A k bs ∧ ∀ i, i < k → (bs i).wf := by
  obtain ⟨cs, rfl, hsz⟩ := okWide_struct Try.underlying56 hval
  obtain ⟨fuel, hf⟩ := h
  obtain ⟨ys, n', hn', hy, hlen, hyl, hfl⟩ := DataW.trod_struct Try.underlying56 hf
  have hcs : (Value.agg cs).cells.toList = cs.toList := rfl
  rw [hcs] at hlen hfl
  obtain ⟨L, hL⟩ : ∃ L, L = cs.toList := ⟨_, rfl⟩
  rw [← hL] at hlen hfl
  have hcsL : cs = L.toArray := by rw [hL]
  subst hcsL
  have hd : d = .agg (ys.map (·.1)) := by simpa using congrArg Prod.fst hy
  have hz' : ∀ n ∈ DataW.weightsEach Try.prog [53, 54] (ys.map (·.1)), n ≤ reachBytes := by
    intro n hn
    apply hz
    rw [hd]
    simp only [DataW.weights, Try.underlying56]
    exact hn
  clear hL hcs hf hval hsz hz
  have k1 : Try.prog.cellsOf 53 = 19 := by kernel_rfl
  have k2 : Try.prog.cellsOf 54 = 1 := by kernel_rfl
  match L, hlen with
  | [c0, c1, c2, c3, c4, c5, c6, c7, c8, c9, c10, c11, c12, c13, c14, c15, c16, c17, c18, c19], _ =>
    obtain ⟨y0, y1, rfl⟩ : ∃ y0 y1, ys = [y0, y1] := by clear hd hz' hy hfl; match ys, hyl with | [a, b], _ => exact ⟨a, b, rfl⟩
    · have h0 : DataW.trod enc Try.prog w base spare held n' 53 [c0, c1, c2, c3, c4, c5, c6, c7, c8, c9, c10, c11, c12, c13, c14, c15, c16, c17, c18] = some y0 := fldB k1 (hfl 0 _ rfl)
      have h1 : DataW.trod enc Try.prog w base spare held n' 54 [c19] = some y1 := fldB k2 (hfl 1 _ rfl)
      clear hfl
      obtain ⟨p, hp, hw⟩ := trod_priC h0
      obtain ⟨A, k, c, bs, rfl, hk, hL, hbw⟩ := trod_blks h1 (fun n hn => hz' n (DataW.weights_mem_each (j := 1) rfl rfl n hn))
      refine ⟨p, A, k, c, bs, ?_, hw, hk, hL, hbw⟩
      simp only [PV.c, List.cons.injEq, and_true] at hp
      obtain ⟨rfl, rfl, rfl, rfl, rfl, rfl, rfl, rfl, rfl, rfl, rfl, rfl, rfl, rfl, rfl, rfl, rfl, rfl, rfl⟩ := hp
      rfl
end
end Go.Proofs.Ytagjhkknefiieaa


namespace Go.Proofs.Ytagjhkknefiieaa
open Go.RowKit
set_option linter.unusedVariables false

theorem few10L_any (e : EV) (w : World) : Calls Try.prog 8 #[.agg #[.int .i64 e.sch, str e.name, .int .u64 (e.node : Int), .int .u64 (e.svc : Int)]] w (Ret (.bool (decide (e.name.length ≤ 100))) w) := by
  go_enter Try.func8, Try.ntmps8
  go_wp2
  go_ret
  refine Ret.mk ?_ ((Mod.refl _ _).alloc _)
  simp
  omega
def PV.few (p : PV) : Bool := decide (p.d.name.length ≤ 100) && decide (p.s.name.length ≤ 100) && decide (p.r.name.length ≤ 100)
set_option maxRecDepth 20000 in
set_option maxHeartbeats 800000 in
theorem few11P_any (p : PV) (w : World) : Calls Try.prog 48 #[.agg p.c] w (Ret (.bool p.few) w) := by
  have HE := hid ((Mod.refl [] w).alloc (.cells p.c 53))
  have HB := hid (Blk.new w 53 p.c)
  have HF : Hid (p.few = (decide (p.d.name.length ≤ 100) && decide (p.s.name.length ≤ 100) && decide (p.r.name.length ≤ 100))) := rfl
  have K1 := hid (fun W => few10L_any p.d W)
  have K2 := hid (fun W => few10L_any p.s W)
  have K3 := hid (fun W => few10L_any p.r W)
  cases h1 : decide (p.d.name.length ≤ 100)
  all_goals cases h2 : decide (p.s.name.length ≤ 100)
  all_goals cases h3 : decide (p.r.name.length ≤ 100)
  all_goals rw [h1] at K1 HF
  all_goals rw [h2] at K2 HF
  all_goals rw [h3] at K3 HF
  all_goals clear h1 h2 h3
  all_goals go_enter Try.func48, Try.ntmps48
  all_goals go_upto_region 1 with fail
  all_goals generalize w.alloc (.cells p.c 53) = V at *
  all_goals have b2 : ∀ e : Later V, e.x.cell? ⟨w.heap.size, 2, none⟩ = some (.int .i64 p.d.sch) := HB.out.cellL 2 rfl
  all_goals have b3 : ∀ e : Later V, e.x.cell? ⟨w.heap.size, 3, none⟩ = some (str p.d.name) := HB.out.cellL 3 rfl
  all_goals have b4 : ∀ e : Later V, e.x.cell? ⟨w.heap.size, 4, none⟩ = some (.int .u64 (p.d.node : Int)) := HB.out.cellL 4 rfl
  all_goals have b5 : ∀ e : Later V, e.x.cell? ⟨w.heap.size, 5, none⟩ = some (.int .u64 (p.d.svc : Int)) := HB.out.cellL 5 rfl
  all_goals have b6 : ∀ e : Later V, e.x.cell? ⟨w.heap.size, 6, none⟩ = some (.int .i64 p.s.sch) := HB.out.cellL 6 rfl
  all_goals have b7 : ∀ e : Later V, e.x.cell? ⟨w.heap.size, 7, none⟩ = some (str p.s.name) := HB.out.cellL 7 rfl
  all_goals have b8 : ∀ e : Later V, e.x.cell? ⟨w.heap.size, 8, none⟩ = some (.int .u64 (p.s.node : Int)) := HB.out.cellL 8 rfl
  all_goals have b9 : ∀ e : Later V, e.x.cell? ⟨w.heap.size, 9, none⟩ = some (.int .u64 (p.s.svc : Int)) := HB.out.cellL 9 rfl
  all_goals have b10 : ∀ e : Later V, e.x.cell? ⟨w.heap.size, 10, none⟩ = some (.int .i64 p.r.sch) := HB.out.cellL 10 rfl
  all_goals have b11 : ∀ e : Later V, e.x.cell? ⟨w.heap.size, 11, none⟩ = some (str p.r.name) := HB.out.cellL 11 rfl
  all_goals have b12 : ∀ e : Later V, e.x.cell? ⟨w.heap.size, 12, none⟩ = some (.int .u64 (p.r.node : Int)) := HB.out.cellL 12 rfl
  all_goals have b13 : ∀ e : Later V, e.x.cell? ⟨w.heap.size, 13, none⟩ = some (.int .u64 (p.r.svc : Int)) := HB.out.cellL 13 rfl
  all_goals obtain ⟨e0, he0⟩ := Later.self V
  all_goals rw [he0]
  all_goals clear he0
  all_goals go_wp2_with (go_at_call 8; first | ((with_reducible refine (Ret.later (K1.out _)).mono ?_); rintro x _ ⟨rfl, e1, rfl⟩) | ((with_reducible refine (Ret.later (K2.out _)).mono ?_); rintro x _ ⟨rfl, e1, rfl⟩) | ((with_reducible refine (Ret.later (K3.out _)).mono ?_); rintro x _ ⟨rfl, e1, rfl⟩))
  all_goals go_ret
  all_goals exact Ret.mk (by rw [HF.out]; rfl) (HE.out.trans e1.h)
def bsFew (bs : Nat → BV) (i : Nat) : Bool := decide (4100 < (bs i).data.length)
def bunFew (p : PV) (bs : Nat → BV) (k : Nat) : Bool := decide (k ≤ 20) && ((firstOf (bsFew bs) k).isNone && p.few)
theorem bunFew_spec {p : PV} {bs : Nat → BV} {k : Nat} (h : bunFew p bs k = true) : k ≤ 20 ∧ p.few = true ∧ ∀ i, i < k → (bs i).data.length ≤ 4100 := by
  unfold bunFew at h
  simp only [Bool.and_eq_true, decide_eq_true_eq] at h
  refine ⟨h.1, h.2.2, fun i hi => ?_⟩
  cases hf : firstOf (bsFew bs) k with
  | some x => rw [hf] at h; simp at h
  | none =>
    have := firstOf_no hf i hi
    unfold bsFew at this
    simp at this
    exact this
theorem bunFew_long {p : PV} {bs : Nat → BV} {k i : Nat} (hi : i < k) (h : 4100 < (bs i).data.length) : bunFew p bs k = false := by
  cases hb : bunFew p bs k with
  | false => rfl
  | true => have := (bunFew_spec hb).2.2 i hi; omega
set_option maxRecDepth 20000 in
set_option maxHeartbeats 800000 in
theorem few13_any (p : PV) (bs : Nat → BV) (k c : Nat) (A : Option Addr) (hk : k < 4611686018427387904) (w : World) (h : BsL w A k bs) : Calls Try.prog 22 #[bunV p A k c] w (Ret (.bool (bunFew p bs k)) w) := by
  have KF := hid (fun W => few11P_any p W)
  have HE := hid ((Mod.refl [] w).alloc (.cells (bunC p A k c) 56))
  have HB := hid (Blk.new w 56 (bunC p A k c))
  have HL := hid (BsL.ext h HE.out)
  have k1 : (k : Int) < 4611686018427387904 := by omega
  have HK := hid hk
  clear h hk
  go_enter Try.func22, Try.ntmps22
  go_wp2_with fail
  generalize w.alloc (.cells (bunC p A k c) 56) = V at *
  have b19 : ∀ e : Later V, e.x.cell? ⟨w.heap.size, 19, none⟩ = some (.slice A k c) := HB.out.cellL 19 rfl
  obtain ⟨e0, he0⟩ := Later.self V
  go_loopw [3] (fun s3 wr => ∃ i : Nat, s3 = .int .i64 (i : Int) ∧ Hid (i ≤ k ∧ i ≤ 30 ∧ ∀ j, j < i → (bs j).data.length ≤ 4100) ∧ ∃ e : Later V, wr = e.x) (fun s3 _ => 30 - (intOf s3).toNat)
  case atStart => exact ⟨0, rfl, (show Hid _ from ⟨by omega, by omega, fun j hj => by omega⟩), e0, he0⟩
  case round =>
    clear he0 e0
    obtain ⟨i, rfl, hi, e, rfl⟩ := hrel
    have i0 : (0 : Int) ≤ (i : Int) := by omega
    by_cases hlt : i < k ∧ i < 30
    · obtain ⟨hlt, hl30⟩ := hlt
      obtain ⟨b, o, rfl, hb, q0, q1, q2, q3, q4⟩ := HL.out.cells hlt
      have tc : decide (i < k) = true := by simp [hlt]
      have tc3 : decide ((i : Int) < 30) = true := by simp; omega
      have i1 : (i : Int) < (k : Int) := by omega
      have HLT := hid hlt
      have HL30 := hid hl30
      clear hlt hl30 q0 q1 q2 q3
      by_cases ht : 4100 < (bs i).data.length
      · have t1 : decide (4100 < ((bs i).data.length : Int)) = true := by simp; omega
        have t2 : (4100 < (bs i).data.length) = True := by simp; omega
        have HF := hid (bunFew_long (p := p) HLT.out ht)
        clear ht
        go_wp2_with fail
        go_ret
        exact Ret.mk (by rw [HF.out]; rfl) (HE.out.trans e.h)
      · have t1 : decide (4100 < ((bs i).data.length : Int)) = false := by simp; omega
        have t2 : (4100 < (bs i).data.length) = False := by simp; omega
        have HN := hid ht
        clear ht
        go_wp2_with fail
        go_roundw
        case rel => exact ⟨i + 1, by go_num, (show Hid _ from ⟨HLT.out, HL30.out, fun j hj => by
          by_cases hji : j = i
          · subst hji; have := HN.out; omega
          · exact hi.out.2.2 j (by omega)⟩), e, rfl⟩
        case measure => have := HL30.out; simp [intOf]; omega
    · by_cases hk20 : k ≤ 20
      · obtain rfl : i = k := by have := hi.out; omega
        have tc : decide (i < i) = false := by simp
        have t20 : decide ((i : Int) ≤ 20) = true := by simp; omega
        have HF : Hid (bunFew p bs i = p.few) := by
          unfold Hid bunFew
          rw [firstOf_none (fun j hj => by unfold bsFew; have := hi.out.2.2 j hj; simp; omega)]
          simp [hk20]
        clear hlt hk20
        have HPR : Hid (∀ e : Later V, e.x.rangeAt w.heap.size 0 p.c.toList) := HB.out.range 0 19 (by rw [Array.toList_extract]; rfl)
        go_wp2_with (first | (refine wpList_mid (by rfl) 53 _ rfl _ 0 rfl _ _ (HPR.out e) Try.underlying53 rfl (by kernel_rfl) ?_) | (go_at_call 48; refine (Ret.later (KF.out _)).mono ?_; rintro x _ ⟨rfl, e1, rfl⟩))
        go_ret
        exact Ret.mk (by rw [HF.out]; rfl) (HE.out.trans e1.h)
      · have t20 : decide ((k : Int) ≤ 20) = false := by simp; omega
        have HF : Hid (bunFew p bs k = false) := by unfold Hid bunFew; simp [hk20]
        by_cases hik : i < k
        · have tc : decide (i < k) = true := by simp [hik]
          have tc3 : decide ((i : Int) < 30) = false := by have := hi.out; simp; omega
          clear hlt hk20 hik
          go_wp2_with fail
          go_ret
          exact Ret.mk (by rw [HF.out]; rfl) (HE.out.trans e.h)
        · obtain rfl : i = k := by have := hi.out; omega
          have tc : decide (i < i) = false := by simp
          clear hlt hk20 hik
          go_wp2_with fail
          go_ret
          exact Ret.mk (by rw [HF.out]; rfl) (HE.out.trans e.h)
end Go.Proofs.Ytagjhkknefiieaa


namespace Go.Proofs.Ytagjhkknefiieaa
open Go.RowKit
set_option linter.unusedVariables false

set_option maxRecDepth 20000 in
theorem rFirst_any (p : PV) (bs : Nat → BV) (k c : Nat) (A : Option Addr) (typ : Int) (hk : k < 4611686018427387904) (w : World) (h : BsL w A k bs) : Calls Try.prog 49 #[bunV p A k c, .int .i64 typ] w (Ret (.int .i64 (firstI (tyB bs typ) k)) w) := by
  have HE := hid ((Mod.refl [] w).alloc (.cells (bunC p A k c) 56))
  have HB := hid (Blk.new w 56 (bunC p A k c))
  have HL := hid (BsL.ext h HE.out)
  have k1 : (k : Int) < 4611686018427387904 := by omega
  have HK := hid hk
  clear h hk
  go_enter Try.func49, Try.ntmps49
  go_wp2_with fail
  generalize w.alloc (.cells (bunC p A k c) 56) = V at *
  have b19 : ∀ e : Later V, e.x.cell? ⟨w.heap.size, 19, none⟩ = some (.slice A k c) := HB.out.cellL 19 rfl
  obtain ⟨e0, he0⟩ := Later.self V
  go_loopw [5] (fun s5 wr => ∃ i : Nat, s5 = .int .i64 (i : Int) ∧ Hid (i ≤ k ∧ ∀ j, j < i → tyB bs typ j = false) ∧ ∃ e : Later V, wr = e.x) (fun s5 _ => k - (intOf s5).toNat)
  case atStart => exact ⟨0, rfl, (show Hid _ from ⟨by omega, fun j hj => by omega⟩), e0, he0⟩
  case round =>
    clear he0 e0
    obtain ⟨i, rfl, hi, e, rfl⟩ := hrel
    have i0 : (0 : Int) ≤ (i : Int) := by omega
    by_cases hlt : i < k
    · obtain ⟨b, o, rfl, hb, q0, q1, q2, q3, q4⟩ := HL.out.cells hlt
      have tc : decide (i < k) = true := by simp [hlt]
      have i1 : (i : Int) < (k : Int) := by omega
      have HLT := hid hlt
      clear hlt
      by_cases ht : (bs i).ty = typ
      · have HF : Hid (firstI (tyB bs typ) k = (i : Int)) := by unfold Hid firstI; rw [firstOf_some HLT.out (tyB_yes ht) hi.out.2]
        rw [ht] at q0
        clear ht
        go_wp2_with fail
        go_ret
        exact Ret.mk (by rw [HF.out]; rfl) (HE.out.trans e.h)
      · have HN := hid (tyB_no ht)
        have t1 : ((bs i).ty == typ) = false := by simpa using ht
        have t2 : ((bs i).ty = typ) = False := by simpa using ht
        clear ht
        go_wp2_with fail
        go_roundw
        case rel => exact ⟨i + 1, by go_num, (show Hid _ from ⟨HLT.out, fun j hj => by
          by_cases hji : j = i
          · subst hji; exact HN.out
          · exact hi.out.2 j (by omega)⟩), e, rfl⟩
        case measure => have := HLT.out; simp [intOf]; omega
    · obtain rfl : i = k := by have := hi.out.1; omega
      have tc : decide (i < i) = false := by simp
      have HF : Hid (firstI (tyB bs typ) i = -1) := by unfold Hid firstI; rw [firstOf_none hi.out.2]
      go_wp2_with fail
      go_ret
      exact Ret.mk (by rw [HF.out]; rfl) (HE.out.trans e.h)
end Go.Proofs.Ytagjhkknefiieaa


namespace Go.Proofs.Ytagjhkknefiieaa
open Go.RowKit
set_option linter.unusedVariables false

noncomputable def extB (x : BV) : Bool := if x.ty = 6 then (prevO x.data).isSome else if x.ty = 7 then (ageO x.data).isSome else if x.ty = 10 then (hopsO x.data).isSome else true
noncomputable def extN (bs : Nat → BV) (i : Nat) : Bool := !extB (bs i)
noncomputable def extR (bs : Nat → BV) (k : Nat) : Int := if firstOf (extN bs) k = none then 0 else 2
theorem extR_no {bs : Nat → BV} {k i : Nat} (hi : i < k) (h : extB (bs i) = false) : extR bs k = 2 := by
  unfold extR
  rw [if_neg]
  intro hf
  have := firstOf_no hf i hi
  unfold extN at this
  rw [h] at this
  cases this
theorem extR_yes {bs : Nat → BV} {k : Nat} (h : ∀ j, j < k → extB (bs j) = true) : extR bs k = 0 := by
  unfold extR
  rw [if_pos]
  exact firstOf_none fun j hj => by unfold extN; rw [h j hj]; rfl
set_option maxRecDepth 20000 in
set_option maxHeartbeats 800000 in
theorem r14Right_any (p : PV) (bs : Nat → BV) (k c : Nat) (A : Option Addr) (hk : k < 4611686018427387904) (hd : ∀ i, i < k → (bs i).data.length ≤ 10000) (w : World) (h : BsL w A k bs) : Calls Try.prog 25 #[bunV p A k c] w (Ret (.int .i64 (extR bs k)) w) := by
  have KP : Hid (∀ i, i < k → ∀ W, Calls Try.prog 17 #[str (bs i).data] W (QPrev (bs i).data W)) := fun i hi W => qPrev_any _ (hd i hi) W
  have KA : Hid (∀ i, i < k → ∀ W, Calls Try.prog 19 #[str (bs i).data] W (QAge (bs i).data W)) := fun i hi W => qAge_any _ W
  have KH : Hid (∀ i, i < k → ∀ W, Calls Try.prog 21 #[str (bs i).data] W (QHops (bs i).data W)) := fun i hi W => qHops_any _ (by have := hd i hi; omega) W
  have HE := hid ((Mod.refl [] w).alloc (.cells (bunC p A k c) 56))
  have HB := hid (Blk.new w 56 (bunC p A k c))
  have HL := hid (BsL.ext h HE.out)
  have k1 : (k : Int) < 4611686018427387904 := by omega
  have HK := hid hk
  clear hd
  clear h hk
  go_enter Try.func25, Try.ntmps25
  go_wp2_with fail
  generalize w.alloc (.cells (bunC p A k c) 56) = V at *
  have b19 : ∀ e : Later V, e.x.cell? ⟨w.heap.size, 19, none⟩ = some (.slice A k c) := HB.out.cellL 19 rfl
  have b19a : ∀ (e : Later V) (o : Obj), (e.x.alloc o).cell? ⟨w.heap.size, 19, none⟩ = some (.slice A k c) := fun e o => ((HB.out.later e).alloc o).cell 19
  obtain ⟨e0, he0⟩ := Later.self V
  go_loopw [3] (fun s3 wr => ∃ i : Nat, s3 = .int .i64 (i : Int) ∧ Hid (i ≤ k ∧ ∀ j, j < i → extB (bs j) = true) ∧ ∃ e : Later V, wr = e.x) (fun s3 _ => k - (intOf s3).toNat)
  case atStart => exact ⟨0, rfl, (show Hid _ from ⟨by omega, fun j hj => by omega⟩), e0, he0⟩
  case round =>
    clear he0 e0
    obtain ⟨i, rfl, hi, e, rfl⟩ := hrel
    have i0 : (0 : Int) ≤ (i : Int) := by omega
    by_cases hlt : i < k
    · obtain ⟨b, o, rfl, hb, q0, q1, q2, q3, q4⟩ := HL.out.cells hlt
      have q0a : ∀ (e : Later V) (ob : Obj), (e.x.alloc ob).cell? ⟨b, o + i * 5, none⟩ = some (.int .i64 (bs i).ty) := fun e ob => (((Mod.refl [] e.x).alloc ob).cell (Nat.lt_of_lt_of_le hb e.h.size) (by simp)).trans (q0 e)
      have tc : decide (i < k) = true := by simp [hlt]
      have i1 : (i : Int) < (k : Int) := by omega
      have KP1 := hid (KP.out i hlt)
      have KA1 := hid (KA.out i hlt)
      have KH1 := hid (KH.out i hlt)
      have HLT := hid hlt
      clear hlt q1 q2 q3
      by_cases t6 : (bs i).ty = 6
      · have HXB : Hid (extB (bs i) = (prevO (bs i).data).isSome) := by unfold Hid extB; rw [if_pos t6]
        rw [t6] at q0 q0a
        clear t6
        unfold QPrev at KP1
        cases hB : (prevO (bs i).data).isSome
        all_goals rw [hB] at KP1 HXB
        all_goals clear hB
        all_goals have HX := hid HXB.out
        · go_wp2_with fail
          refine (Ret.later (KP1.out _)).mono ?_
          rintro x _ ⟨rfl, e1, rfl⟩
          have HR := hid (extR_no HLT.out HX.out)
          go_wp2_with fail
          go_ret
          exact Ret.mk (by rw [HR.out]; rfl) (HE.out.trans ((Later.h e1).alloc _))
        · go_wp2_with fail
          refine (Ret.later (KP1.out _)).mono ?_
          rintro x _ ⟨rfl, e1, rfl⟩
          go_wp2_with fail
          go_roundw
          case rel => exact ⟨i + 1, by go_num, (show Hid _ from ⟨HLT.out, fun j hj => by
            by_cases hji : j = i
            · subst hji; exact HX.out
            · exact hi.out.2 j (by omega)⟩), Later.go e1 ((Mod.refl [] _).alloc _)⟩
          case measure => have := HLT.out; simp [intOf]; omega
      by_cases t7 : (bs i).ty = 7
      · have HXB : Hid (extB (bs i) = (ageO (bs i).data).isSome) := by unfold Hid extB; rw [if_neg t6]; rw [if_pos t7]
        rw [t7] at q0 q0a
        clear t7 t6
        unfold QAge at KA1
        cases hB : (ageO (bs i).data).isSome
        all_goals rw [hB] at KA1 HXB
        all_goals clear hB
        all_goals have HX := hid HXB.out
        · go_wp2_with fail
          refine (Ret.later (KA1.out _)).mono ?_
          rintro x _ ⟨rfl, e1, rfl⟩
          have HR := hid (extR_no HLT.out HX.out)
          go_wp2_with fail
          go_ret
          exact Ret.mk (by rw [HR.out]; rfl) (HE.out.trans e1.h)
        · go_wp2_with fail
          refine (Ret.later (KA1.out _)).mono ?_
          rintro x _ ⟨rfl, e1, rfl⟩
          go_wp2_with fail
          go_roundw
          case rel => exact ⟨i + 1, by go_num, (show Hid _ from ⟨HLT.out, fun j hj => by
            by_cases hji : j = i
            · subst hji; exact HX.out
            · exact hi.out.2 j (by omega)⟩), e1, rfl⟩
          case measure => have := HLT.out; simp [intOf]; omega
      by_cases t10 : (bs i).ty = 10
      · have HXB : Hid (extB (bs i) = (hopsO (bs i).data).isSome) := by unfold Hid extB; rw [if_neg t6, if_neg t7]; rw [if_pos t10]
        rw [t10] at q0 q0a
        clear t10 t6 t7
        unfold QHops at KH1
        cases hB : (hopsO (bs i).data).isSome
        all_goals rw [hB] at KH1 HXB
        all_goals clear hB
        all_goals have HX := hid HXB.out
        · go_wp2_with fail
          refine (Ret.later (KH1.out _)).mono ?_
          rintro x _ ⟨rfl, e1, rfl⟩
          have HR := hid (extR_no HLT.out HX.out)
          go_wp2_with fail
          go_ret
          exact Ret.mk (by rw [HR.out]; rfl) (HE.out.trans e1.h)
        · go_wp2_with fail
          refine (Ret.later (KH1.out _)).mono ?_
          rintro x _ ⟨rfl, e1, rfl⟩
          go_wp2_with fail
          go_roundw
          case rel => exact ⟨i + 1, by go_num, (show Hid _ from ⟨HLT.out, fun j hj => by
            by_cases hji : j = i
            · subst hji; exact HX.out
            · exact hi.out.2 j (by omega)⟩), e1, rfl⟩
          case measure => have := HLT.out; simp [intOf]; omega
      have HX : Hid (extB (bs i) = true) := by unfold Hid extB; rw [if_neg t6, if_neg t7, if_neg t10]
      have n6 : ((bs i).ty == 6) = false := by simpa using t6
      have m6 : ((bs i).ty = 6) = False := by simpa using t6
      have n7 : ((bs i).ty == 7) = false := by simpa using t7
      have m7 : ((bs i).ty = 7) = False := by simpa using t7
      have n10 : ((bs i).ty == 10) = false := by simpa using t10
      have m10 : ((bs i).ty = 10) = False := by simpa using t10
      clear t6 t7 t10
      go_wp2_with fail
      go_roundw
      case rel => exact ⟨i + 1, by go_num, (show Hid _ from ⟨HLT.out, fun j hj => by
        by_cases hji : j = i
        · subst hji; exact HX.out
        · exact hi.out.2 j (by omega)⟩), e, rfl⟩
      case measure => have := HLT.out; simp [intOf]; omega
    · obtain rfl : i = k := by have := hi.out.1; omega
      have tc : decide (i < i) = false := by simp
      have HR := hid (extR_yes hi.out.2)
      go_wp2_with fail
      go_ret
      exact Ret.mk (by rw [HR.out]; rfl) (HE.out.trans e.h)
end Go.Proofs.Ytagjhkknefiieaa


namespace Go.Proofs.Ytagjhkknefiieaa
open Go.RowKit
set_option linter.unusedVariables false

noncomputable def livedN (t : Nat) (bs : Nat → BV) (k now : Nat) : Nat := match firstOf (tyB bs 7) k with | some i => (match ageO (bs i).data with | some n => n | none => now - t) | none => now - t
theorem lived_age {t : Nat} {bs : Nat → BV} {k now i n : Nat} (h : firstOf (tyB bs 7) k = some i) (ha : ageO (bs i).data = some n) : livedN t bs k now = n := by unfold livedN; rw [h]; dsimp only; rw [ha]
theorem lived_bad {t : Nat} {bs : Nat → BV} {k now i : Nat} (h : firstOf (tyB bs 7) k = some i) (ha : ageO (bs i).data = none) : livedN t bs k now = now - t := by unfold livedN; rw [h]; dsimp only; rw [ha]
theorem lived_none {t : Nat} {bs : Nat → BV} {k now : Nat} (h : firstOf (tyB bs 7) k = none) : livedN t bs k now = now - t := by unfold livedN; rw [h]
set_option maxRecDepth 20000 in
set_option maxHeartbeats 800000 in
theorem rLived_any (p : PV) (bs : Nat → BV) (k c : Nat) (A : Option Addr) (now : Nat) (hk : k < 4611686018427387904) (hd : ∀ i, i < k → (bs i).data.length ≤ 10000) (hnow : now < 18446744073709551616) (w : World) (h : BsL w A k bs) : Calls Try.prog 23 #[bunV p A k c, .int .u64 (now : Int)] w (Ret (.int .u64 ((livedN p.t bs k now : Nat) : Int)) w) := by
  have n0 : (0 : Int) ≤ (now : Int) := by omega
  have n1 : (now : Int) ≤ 18446744073709551615 := by omega
  have t0 : (0 : Int) ≤ (p.t : Int) := by omega
  have KF := hid (fun W (hW : BsL W A k bs) => rFirst_any p bs k c A 7 hk W hW)
  have KA := hid (fun i W => qAge_any (bs i).data W)
  have HE := hid ((Mod.refl [] w).alloc (.cells (bunC p A k c) 56))
  have HB := hid (Blk.new w 56 (bunC p A k c))
  have HL := hid (BsL.ext h HE.out)
  have k1 : (k : Int) < 4611686018427387904 := by omega
  have HK := hid hk
  clear hd hnow
  clear h hk
  go_enter Try.func23, Try.ntmps23
  go_upto_region 1 with fail
  generalize w.alloc (.cells (bunC p A k c) 56) = V at *
  have b14 : ∀ e : Later V, e.x.cell? ⟨w.heap.size, 14, none⟩ = some (.int .u64 (p.t : Int)) := HB.out.cellL 14 rfl
  have b19 : ∀ e : Later V, e.x.cell? ⟨w.heap.size, 19, none⟩ = some (.slice A k c) := HB.out.cellL 19 rfl
  have HBV := HB
  go_upto_region 2 with (first | (refine wpList_row (by rfl) 56 _ rfl _ rfl HBV.out Try.underlying56 rfl (by kernel_rfl) ?_) | (go_at_call 49; refine (Ret.laterW (Mod.refl _ _) (KF.out _ HL.out)).mono ?_; rintro x _ ⟨rfl, e, rfl⟩))
  cases hf : firstOf (tyB bs 7) k with
  | none =>
    have HLV := hid (lived_none (t := p.t) (now := now) hf)
    have hI : firstI (tyB bs 7) k = -1 := by unfold firstI; rw [hf]
    rw [hI]
    clear hI hf
    have HT := hid (e.h)
    by_cases hn : now ≤ p.t
    · have g1 : decide (now ≤ p.t) = true := by simp [hn]
      have g2 : (now ≤ p.t) = True := by simp [hn]
      have HZ : Hid (livedN p.t bs k now = 0) := by unfold Hid; rw [HLV.out]; omega
      clear hn
      go_wp2_with fail
      go_ret
      exact Ret.mk (by rw [HZ.out]; rfl) (HE.out.trans HT.out)
    · have g1 : decide (now ≤ p.t) = false := by simp; omega
      have g2 : (now ≤ p.t) = False := by simp; omega
      have g3 : (p.t : Int) ≤ (now : Int) := by omega
      have HZ : Hid ((now : Int) - (p.t : Int) = ((livedN p.t bs k now : Nat) : Int)) := by unfold Hid; rw [HLV.out]; omega
      clear hn
      go_wp2_with fail
      go_ret
      exact Ret.mk (by rw [← HZ.out]; rfl) (HE.out.trans HT.out)
  | some i =>
    have hI : firstI (tyB bs 7) k = (i : Int) := by unfold firstI; rw [hf]
    rw [hI]
    obtain ⟨hlt, _, _⟩ := firstOf_spec hf
    obtain ⟨b, o, rfl, hb, q0, q1, q2, q3, q4⟩ := HL.out.cells hlt
    have i0 : (0 : Int) ≤ (i : Int) := by omega
    have i1 : (i : Int) < (k : Int) := by omega
    have KA1 := hid (KA.out i)
    have HF := hid hf
    clear hI hf hlt q0 q1 q2 q3
    cases ha : ageO (bs i).data with
    | none =>
      have HLV := hid (lived_bad (t := p.t) (now := now) HF.out ha)
      unfold QAge at KA1
      rw [ha] at KA1
      clear ha
      go_upto_region 4 with (go_at_call 19; refine (Ret.later (KA1.out _)).mono ?_; rintro x _ ⟨rfl, e1, rfl⟩)
      have HT := hid (e1.h)
      by_cases hn : now ≤ p.t
      · have g1 : decide (now ≤ p.t) = true := by simp [hn]
        have g2 : (now ≤ p.t) = True := by simp [hn]
        have HZ : Hid (livedN p.t bs k now = 0) := by unfold Hid; rw [HLV.out]; omega
        clear hn
        go_wp2_with fail
        go_ret
        exact Ret.mk (by rw [HZ.out]; rfl) (HE.out.trans HT.out)
      · have g1 : decide (now ≤ p.t) = false := by simp; omega
        have g2 : (now ≤ p.t) = False := by simp; omega
        have g3 : (p.t : Int) ≤ (now : Int) := by omega
        have HZ : Hid ((now : Int) - (p.t : Int) = ((livedN p.t bs k now : Nat) : Int)) := by unfold Hid; rw [HLV.out]; omega
        clear hn
        go_wp2_with fail
        go_ret
        exact Ret.mk (by rw [← HZ.out]; rfl) (HE.out.trans HT.out)
    | some n =>
      have HLV := hid (lived_age (t := p.t) (now := now) HF.out ha)
      unfold QAge at KA1
      rw [ha] at KA1
      clear ha
      go_upto_region 4 with (go_at_call 19; refine (Ret.later (KA1.out _)).mono ?_; rintro x _ ⟨rfl, e1, rfl⟩)
      go_wp2_with fail
      go_ret
      exact Ret.mk (by rw [HLV.out]; rfl) (HE.out.trans e1.h)
set_option maxRecDepth 20000 in
set_option maxHeartbeats 800000 in
theorem cLived_any (p : PV) (bs : Nat → BV) (k c : Nat) (A : Option Addr) (now : Nat) (hk : k < 4611686018427387904) (hd : ∀ i, i < k → (bs i).data.length ≤ 10000) (hnow : now < 18446744073709551616) (w : World) (h : BsL w A k bs) : Calls Try.prog 26 #[bunV p A k c, .int .u64 (now : Int)] w (Ret (.int .u64 ((livedN p.t bs k now : Nat) : Int)) w) := by
  have n0 : (0 : Int) ≤ (now : Int) := by omega
  have n1 : (now : Int) ≤ 18446744073709551615 := by omega
  have t0 : (0 : Int) ≤ (p.t : Int) := by omega
  have KF := hid (fun W (hW : BsL W A k bs) => Find_any p bs k c A 7 hk W hW)
  have KA := hid (fun i (hi : i < k) W => ReadAge_any (bs i).data (by have := hd i hi; omega) W)
  have HE := hid ((Mod.refl [] w).alloc (.cells (bunC p A k c) 56))
  have HB := hid (Blk.new w 56 (bunC p A k c))
  have HL := hid (BsL.ext h HE.out)
  have k1 : (k : Int) < 4611686018427387904 := by omega
  have HK := hid hk
  clear hd hnow
  clear h hk
  go_enter Try.func26, Try.ntmps26
  go_upto_region 1 with fail
  generalize w.alloc (.cells (bunC p A k c) 56) = V at *
  have b14 : ∀ e : Later V, e.x.cell? ⟨w.heap.size, 14, none⟩ = some (.int .u64 (p.t : Int)) := HB.out.cellL 14 rfl
  have b14a : ∀ (e : Later V) (o : Obj), (e.x.alloc o).cell? ⟨w.heap.size, 14, none⟩ = some (.int .u64 (p.t : Int)) := fun e o => ((HB.out.later e).alloc o).cell 14
  have HBV := HB
  cases hf : firstOf (tyB bs 7) k with
  | none =>
    have HLV := hid (lived_none (t := p.t) (now := now) hf)
    have hI : findV bs 7 k = .tuple #[zeroB.v, .bool false] := by unfold findV; rw [hf]
    rw [hI] at KF
    clear hI hf
    go_upto_region 2 with (first | (refine wpList_row (by rfl) 56 _ rfl _ rfl HBV.out Try.underlying56 rfl (by kernel_rfl) ?_) | (go_at_call 51; refine (Ret.laterW (Mod.refl _ _) (KF.out _ HL.out)).mono ?_; rintro x _ ⟨rfl, e, rfl⟩))
    have HT := hid ((Later.h e).alloc (.cells zeroB.c 90))
    by_cases hn : now < p.t
    · have g3 : decide (now < p.t) = true := by simp; omega
      have g4 : (now < p.t) = True := by simp; omega
      have HZ : Hid (livedN p.t bs k now = 0) := by unfold Hid; rw [HLV.out]; omega
      clear hn
      go_wp2_with fail
      go_ret
      exact Ret.mk (by rw [HZ.out]; rfl) (HE.out.trans HT.out)
    · have g2 : (now < p.t) = False := by simp; omega
      have g3 : (p.t : Int) ≤ (now : Int) := by omega
      have g4 : decide (now < p.t) = false := by simp; omega
      have HZ : Hid ((now : Int) - (p.t : Int) = ((livedN p.t bs k now : Nat) : Int)) := by unfold Hid; rw [HLV.out]; omega
      clear hn
      go_wp2_with fail
      go_ret
      exact Ret.mk (by rw [← HZ.out]; rfl) (HE.out.trans HT.out)
  | some i =>
    have hI : findV bs 7 k = .tuple #[(bs i).v, .bool true] := by unfold findV; rw [hf]
    rw [hI] at KF
    obtain ⟨hlt, _, _⟩ := firstOf_spec hf
    have KA1 := hid (KA.out i hlt)
    have HF := hid hf
    clear hI hf hlt
    cases ha : ageO (bs i).data with
    | none =>
      have HLV := hid (lived_bad (t := p.t) (now := now) HF.out ha)
      unfold AgePost at KA1
      rw [ha] at KA1
      clear ha
      go_upto_region 2 with (first | (refine wpList_row (by rfl) 56 _ rfl _ rfl HBV.out Try.underlying56 rfl (by kernel_rfl) ?_) | (go_at_call 51; refine (Ret.laterW (Mod.refl _ _) (KF.out _ HL.out)).mono ?_; rintro x _ ⟨rfl, e, rfl⟩))
      go_upto_region 4 with (go_at_call 18; refine (Ret.laterW ((Later.h e).alloc _) (KA1.out _)).mono ?_; rintro x _ ⟨rfl, e1, rfl⟩)
      have HT := hid (e1.h)
      by_cases hn : now < p.t
      · have g3 : decide (now < p.t) = true := by simp; omega
        have g4 : (now < p.t) = True := by simp; omega
        have HZ : Hid (livedN p.t bs k now = 0) := by unfold Hid; rw [HLV.out]; omega
        clear hn
        go_wp2_with fail
        go_ret
        exact Ret.mk (by rw [HZ.out]; rfl) (HE.out.trans HT.out)
      · have g2 : (now < p.t) = False := by simp; omega
        have g3 : (p.t : Int) ≤ (now : Int) := by omega
        have g4 : decide (now < p.t) = false := by simp; omega
        have HZ : Hid ((now : Int) - (p.t : Int) = ((livedN p.t bs k now : Nat) : Int)) := by unfold Hid; rw [HLV.out]; omega
        clear hn
        go_wp2_with fail
        go_ret
        exact Ret.mk (by rw [← HZ.out]; rfl) (HE.out.trans HT.out)
    | some n =>
      have HLV := hid (lived_age (t := p.t) (now := now) HF.out ha)
      unfold AgePost at KA1
      rw [ha] at KA1
      clear ha
      go_upto_region 2 with (first | (refine wpList_row (by rfl) 56 _ rfl _ rfl HBV.out Try.underlying56 rfl (by kernel_rfl) ?_) | (go_at_call 51; refine (Ret.laterW (Mod.refl _ _) (KF.out _ HL.out)).mono ?_; rintro x _ ⟨rfl, e, rfl⟩))
      go_upto_region 4 with (go_at_call 18; refine (Ret.laterW ((Later.h e).alloc _) (KA1.out _)).mono ?_; rintro x _ ⟨rfl, e1, rfl⟩)
      go_wp2_with fail
      go_ret
      exact Ret.mk (by rw [HLV.out]; rfl) (HE.out.trans e1.h)
end Go.Proofs.Ytagjhkknefiieaa


namespace Go.Proofs.Ytagjhkknefiieaa
open Go.RowKit
set_option linter.unusedVariables false

theorem extB_6 {x : BV} (h : x.ty = 6) : extB x = (prevO x.data).isSome := by unfold extB; rw [if_pos h]
theorem extB_7 {x : BV} (h : x.ty = 7) : extB x = (ageO x.data).isSome := by unfold extB; rw [if_neg (by omega), if_pos h]
theorem extB_10 {x : BV} (h : x.ty = 10) : extB x = (hopsO x.data).isSome := by unfold extB; rw [if_neg (by omega), if_neg (by omega), if_pos h]
set_option maxRecDepth 20000 in
theorem cright_any (x : BV) (hd : x.data.length ≤ 1073741824) (w : World) : Calls Try.prog 50 #[x.v] w (Ret (.int .i64 (if extB x then 0 else 2)) w) := by
  obtain ⟨ty, num, fl, crc, data⟩ := x
  have KP := hid (fun W => (ReadPrev_any data hd W).mono fun _ _ h => h.1)
  have KA := hid (fun W => ReadAge_any data hd W)
  have KH := hid (fun W => readHops_any data hd W)
  have HE := hid ((Mod.refl [] w).alloc (.cells (BV.c ⟨ty, num, fl, crc, data⟩) 90))
  clear hd
  by_cases t6 : ty = 6
  · rw [extB_6 t6]
    subst t6
    dsimp only at KP ⊢
    generalize (if (prevO data).isSome = true then (0 : Int) else 2) = N at *
    go_enter Try.func50, Try.ntmps50
    go_wp2_with fail
    refine (KP.out _).mono ?_
    rintro e w1 ⟨rfl, hb1⟩
    have HE1 := hid (HE.out.trans hb1)
    clear hb1
    go_wp2_with fail
    go_ret
    exact Ret.mk rfl HE1.out
  by_cases t7 : ty = 7
  · rw [extB_7 t7]
    unfold AgePost at KA
    subst t7
    dsimp only at KA ⊢
    generalize (if (ageO data).isSome = true then (0 : Int) else 2) = N at *
    go_enter Try.func50, Try.ntmps50
    go_wp2_with fail
    refine (KA.out _).mono ?_
    rintro e w1 ⟨rfl, hb1⟩
    have HE1 := hid (HE.out.trans hb1)
    clear hb1
    go_wp2_with fail
    go_ret
    exact Ret.mk rfl HE1.out
  by_cases t10 : ty = 10
  · rw [extB_10 t10]
    unfold HopsPost at KH
    subst t10
    dsimp only at KH ⊢
    generalize (if (hopsO data).isSome = true then (0 : Int) else 2) = N at *
    go_enter Try.func50, Try.ntmps50
    go_wp2_with fail
    refine (KH.out _).mono ?_
    rintro e w1 ⟨rfl, hb1⟩
    have HE1 := hid (HE.out.trans hb1)
    clear hb1
    go_wp2_with fail
    go_ret
    exact Ret.mk rfl HE1.out
  have HX : extB ⟨ty, num, fl, crc, data⟩ = true := by unfold extB; rw [if_neg t6, if_neg t7, if_neg t10]
  rw [HX]
  have n6 : (ty == 6) = false := by simpa using t6
  have m6 : (ty = 6) = False := by simpa using t6
  have n7 : (ty == 7) = false := by simpa using t7
  have m7 : (ty = 7) = False := by simpa using t7
  have n10 : (ty == 10) = false := by simpa using t10
  have m10 : (ty = 10) = False := by simpa using t10
  clear t6 t7 t10 HX
  go_enter Try.func50, Try.ntmps50
  go_wp2_with fail
  go_ret
  exact Ret.mk rfl HE.out
set_option maxRecDepth 20000 in
set_option maxHeartbeats 800000 in
theorem cRightX_any (p : PV) (bs : Nat → BV) (k c : Nat) (A : Option Addr) (hk : k < 4611686018427387904) (hd : ∀ i, i < k → (bs i).data.length ≤ 1073741824) (w : World) (h : BsL w A k bs) : Calls Try.prog 24 #[bunV p A k c] w (Ret (.int .i64 (extR bs k)) w) := by
  have KR : Hid (∀ i, i < k → ∀ W, Calls Try.prog 50 #[(bs i).v] W (Ret (.int .i64 (if extB (bs i) then 0 else 2)) W)) := fun i hi W => cright_any (bs i) (hd i hi) W
  have HE := hid ((Mod.refl [] w).alloc (.cells (bunC p A k c) 56))
  have HB := hid (Blk.new w 56 (bunC p A k c))
  have HL := hid (BsL.ext h HE.out)
  have k1 : (k : Int) < 4611686018427387904 := by omega
  have HK := hid hk
  clear hd
  clear h hk
  go_enter Try.func24, Try.ntmps24
  go_upto_region 1 with fail
  generalize w.alloc (.cells (bunC p A k c) 56) = V at *
  have b19v : V.cell? ⟨w.heap.size, 19, none⟩ = some (.slice A k c) := HB.out.cell 19
  go_wp2_with fail
  clear b19v
  obtain ⟨e0, he0⟩ := Later.self V
  go_loopw [9] (fun s9 wr => ∃ i : Nat, s9 = .int .i64 (i : Int) ∧ Hid (i ≤ k ∧ ∀ j, j < i → extB (bs j) = true) ∧ ∃ e : Later V, wr = e.x) (fun s9 _ => k - (intOf s9).toNat)
  case atStart => exact ⟨0, rfl, (show Hid _ from ⟨by omega, fun j hj => by omega⟩), e0, he0⟩
  case round =>
    clear he0 e0
    obtain ⟨i, rfl, hi, e, rfl⟩ := hrel
    have i0 : (0 : Int) ≤ (i : Int) := by omega
    by_cases hlt : i < k
    · obtain ⟨b, o, rfl, hb, q0, q1, q2, q3, q4⟩ := HL.out.cells hlt
      have tc : decide (i < k) = true := by simp [hlt]
      have i1 : (i : Int) < (k : Int) := by omega
      have HLT := hid hlt
      have KR1 := hid (KR.out i hlt)
      clear hlt
      cases hX : extB (bs i) with
      | true =>
        have HX := hid hX
        rw [hX] at KR1
        clear hX
        go_upto_region 5 with (go_at_call 50; refine (Ret.laterW ((Later.h e).alloc _) (KR1.out _)).mono ?_; rintro x _ ⟨rfl, e1, rfl⟩)
        go_wp2_with fail
        go_roundw
        case rel => exact ⟨i + 1, by go_num, (show Hid _ from ⟨HLT.out, fun j hj => by
          by_cases hji : j = i
          · subst hji; exact HX.out
          · exact hi.out.2 j (by omega)⟩), e1, rfl⟩
        case measure => have := HLT.out; simp [intOf]; omega
      | false =>
        have HR := hid (extR_no HLT.out hX)
        rw [hX] at KR1
        clear hX
        go_upto_region 5 with (go_at_call 50; refine (Ret.laterW ((Later.h e).alloc _) (KR1.out _)).mono ?_; rintro x _ ⟨rfl, e1, rfl⟩)
        go_wp2_with fail
        go_ret
        exact Ret.mk (by rw [HR.out]; rfl) (HE.out.trans e1.h)
    · obtain rfl : i = k := by have := hi.out.1; omega
      have tc : decide (i < i) = false := by simp
      have HR := hid (extR_yes hi.out.2)
      go_wp2_with fail
      go_ret
      exact Ret.mk (by rw [HR.out]; rfl) (HE.out.trans e.h)
set_option maxRecDepth 20000 in
set_option maxHeartbeats 800000 in
theorem Expired_any (p : PV) (bs : Nat → BV) (k c : Nat) (A : Option Addr) (now : Nat) (hk : k < 4611686018427387904) (hd : ∀ i, i < k → (bs i).data.length ≤ 10000) (hnow : now < 18446744073709551616) (w : World) (h : BsL w A k bs) : Calls Try.prog 27 #[bunV p A k c, .int .u64 (now : Int)] w (Ret (.bool (decide (p.l < livedN p.t bs k now))) w) := by
  have KL := hid (fun W (hW : BsL W A k bs) => cLived_any p bs k c A now hk hd hnow W hW)
  generalize livedN p.t bs k now = N at *
  have HE := hid ((Mod.refl [] w).alloc (.cells (bunC p A k c) 56))
  have HB := hid (Blk.new w 56 (bunC p A k c))
  have HL := hid (BsL.ext h HE.out)
  have k1 : (k : Int) < 4611686018427387904 := by omega
  have HK := hid hk
  clear hd hnow
  clear h hk
  go_enter Try.func27, Try.ntmps27
  go_wp2_with fail
  generalize w.alloc (.cells (bunC p A k c) 56) = V at *
  have b16 : ∀ e : Later V, e.x.cell? ⟨w.heap.size, 16, none⟩ = some (.int .u64 (p.l : Int)) := HB.out.cellL 16 rfl
  obtain ⟨e0, he0⟩ := Later.self V
  rw [he0]
  refine wp_region_later (by kernel_rfl) (by kernel_rfl) ?_
  refine later_row (by rfl) 56 _ rfl _ rfl (fun e => HB.out.later e) Try.underlying56 rfl (by kernel_rfl) ?_
  simp only [Act.put, List.setIfInBounds_toArray, List.set_cons_zero, List.set_cons_succ]
  repeat (go_big_quiet_step ((go_at_call 26; exact Ret.later (KL.out _ (HL.out.ext (Later.h _))))))
  refine wpQuiet_nil ?_
  rintro _ ⟨e2, rfl⟩
  go_wp2_with fail
  go_ret
  exact Ret.mk (by simp) (HE.out.trans e2.h)
end Go.Proofs.Ytagjhkknefiieaa


namespace Go.Proofs.Ytagjhkknefiieaa
open Go.RowKit
set_option linter.unusedVariables false

set_option maxRecDepth 20000 in
set_option maxHeartbeats 1600000 in
theorem lawLives_any (p : PV) (bs : Nat → BV) (k c : Nat) (A : Option Addr) (now : Nat) (hk : k < 4611686018427387904) (hnow : now < 18446744073709551616) (w : World) (h : BsL w A k bs) : Calls Try.prog 6 #[bunV p A k c, .int .u64 (now : Int)] w (Ret (.bool true) w) := by
  have KA := hid (fun W => awake14_any W)
  have KF := hid (fun W (hW : BsL W A k bs) => few13_any p bs k c A hk W hW)
  have HKK := hid hk
  have HNN := hid hnow
  have HE := hid ((Mod.refl [] w).alloc (.cells (bunC p A k c) 56))
  have HB := hid (Blk.new w 56 (bunC p A k c))
  have HL := hid (BsL.ext h HE.out)
  clear h hk hnow
  go_enter Try.func6, Try.ntmps6
  go_upto_region 1 with fail
  generalize w.alloc (.cells (bunC p A k c) 56) = V at *
  have HBL : Hid (∀ e : Later V, Blk e.x w.heap.size 56 (bunC p A k c)) := fun e => HB.out.later e
  have HLL : Hid (∀ e : Later V, BsL e.x A k bs) := fun e => HL.out.ext e.h
  obtain ⟨e0, he0⟩ := Later.self V
  rw [he0]
  clear he0
  cases hF : bunFew p bs k with
  | false =>
    rw [hF] at KF
    clear hF
    go_wp2_with (first | (refine wpList_row (by rfl) 56 _ rfl _ rfl (HBL.out _) Try.underlying56 rfl (by kernel_rfl) ?_) | (go_at_call 7; refine (Ret.later (KA.out _)).mono ?_; rintro x _ ⟨rfl, e1, rfl⟩) | (go_at_call 22; refine (Ret.later (KF.out _ (HLL.out _))).mono ?_; rintro x _ ⟨rfl, e1, rfl⟩))
    go_ret
    exact Ret.mk rfl (HE.out.trans e1.h)
  | true =>
    obtain ⟨h20, _, hd⟩ := bunFew_spec hF
    have hd2 : ∀ i, i < k → (bs i).data.length ≤ 10000 := fun i hi => by have := hd i hi; omega
    have K1 := hid (fun W (hW : BsL W A k bs) => cRightX_any p bs k c A HKK.out (fun i hi => by have := hd i hi; omega) W hW)
    have K2 := hid (fun W (hW : BsL W A k bs) => r14Right_any p bs k c A HKK.out hd2 W hW)
    have K3 := hid (fun W (hW : BsL W A k bs) => cLived_any p bs k c A now HKK.out hd2 HNN.out W hW)
    have K4 := hid (fun W (hW : BsL W A k bs) => rLived_any p bs k c A now HKK.out hd2 HNN.out W hW)
    have K5 := hid (fun W (hW : BsL W A k bs) => Expired_any p bs k c A now HKK.out hd2 HNN.out W hW)
    rw [hF] at KF
    clear hF h20 hd hd2
    generalize livedN p.t bs k now = N at *
    generalize extR bs k = R at *
    have b16 : ∀ e : Later V, e.x.cell? ⟨w.heap.size, 16, none⟩ = some (.int .u64 (p.l : Int)) := HB.out.cellL 16 rfl
    go_upto_region 4 with (first | (refine wpList_row (by rfl) 56 _ rfl _ rfl (HBL.out _) Try.underlying56 rfl (by kernel_rfl) ?_) | (go_at_call 7; refine (Ret.later (KA.out _)).mono ?_; rintro x _ ⟨rfl, e1, rfl⟩) | (go_at_call 22; refine (Ret.later (KF.out _ (HLL.out _))).mono ?_; rintro x _ ⟨rfl, e1, rfl⟩) | (go_at_call 23; refine (Ret.later (K4.out _ (HLL.out _))).mono ?_; rintro x _ ⟨rfl, e1, rfl⟩))
    refine wp_region_later (by kernel_rfl) (by kernel_rfl) ?_
    repeat (first | (refine later_row (by rfl) 56 _ rfl _ rfl HBL.out Try.underlying56 rfl (by kernel_rfl) ?_; simp only [Act.put, List.setIfInBounds_toArray, List.set_cons_zero, List.set_cons_succ]) | go_big_quiet_step ((first | (go_at_call 24; exact Ret.later (K1.out _ (HLL.out _))) | (go_at_call 25; exact Ret.later (K2.out _ (HLL.out _))) | (go_at_call 26; exact Ret.later (K3.out _ (HLL.out _))) | (go_at_call 27; exact Ret.later (K5.out _ (HLL.out _))))))
    refine wpQuiet_nil ?_
    rintro _ ⟨e2, rfl⟩
    go_wp2_with fail
    go_ret
    exact Ret.mk (by simp) (HE.out.trans e2.h)
end Go.Proofs.Ytagjhkknefiieaa
