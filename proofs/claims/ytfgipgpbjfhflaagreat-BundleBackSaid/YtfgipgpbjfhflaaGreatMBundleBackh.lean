/-
 What stands behind the names (primary's rest).
-/
import Derived.Test.YtfgipgpbjfhflaaGreatMBundleBackg

namespace Go.Proofs.YtfgipgpbjfhflaaGreat
open Go.RowKit
set_option linter.unusedVariables false
set_option linter.unusedSimpArgs false

/-- An item's items. -/
def kidT : T → Nat → T
 | T.nil, _ => T.nil
 | T.mk _ _ _ _ _ ch, i => ch i
/-- What rest reads where a sum may stand. -/
def sumR (p : PV) (s : List UInt8) (k : Nat) (t : T) : PV × List UInt8 × Bool :=
 if k = 0 then (p, s, false) else (p, t.s, !(decide (t.kind = 2) && decide ((t.s.length : Int) = 2 * p.crc)))
def whenR (t : T) : Bool := decide (t.kind = 4) && !t.op && decide (t.k = 2)
def tqlR (p : PV) (ch : Nat → T) : PV := { p with t := (kidT (ch 0) 0).n, q := (kidT (ch 0) 1).n, l := (ch 1).n }
def fragR (p : PV) (ch : Nat → T) : PV := { p with o := (ch 2).n, n := (ch 3).n }
/-- What rest reads: the primary, the sum, whether it is bad. -/
def restR (p : PV) (s : List UInt8) (k : Nat) (ch : Nat → T) : PV × List UInt8 × Bool :=
 if whenR (ch 0) = false then (p, s, true) else
 if ¬ ((kidT (ch 0) 0).kind = 0 ∧ (kidT (ch 0) 1).kind = 0 ∧ (ch 1).kind = 0) then (p, s, true) else
 if p.fl % 2 = 1 then
  if ¬ ((ch 2).kind = 0 ∧ (ch 3).kind = 0) then (tqlR p ch, s, true) else sumR (fragR (tqlR p ch) ch) s (k - 4) (ch 4)
 else sumR (tqlR p ch) s (k - 2) (ch 2)
def RestPost (R : Nat) (r : PV × List UInt8 × Bool) (w : World) (e : Ending) (w' : World) : Prop := e = .returned (.tuple #[]) ∧ Mod [R] w w' ∧ Blk w' R 97 (rdC r.1 r.2.1 r.2.2)
theorem nums_cells {W : World} {base : Nat} {A : Option Addr} {c k : Nat} {f : Nat → Nat} (hk : 0 < k) (h : W.ownsRow base 22 1 (.slice A k c) k (flatN f k)) : ∃ g, A = some ⟨g, 0, none⟩ ∧ base ≤ g ∧ ∀ i, i < k → W.cell? ⟨g, i, none⟩ = some (.int .u64 (f i : Int)) := by
 rcases h.2 with ⟨_, h0⟩ | ⟨g, c', cs, e, hb, _⟩
 · omega
 ·
  obtain ⟨rfl, _⟩ : A = some ⟨g, 0, none⟩ ∧ c = c' := by simpa using e
  exact ⟨g, rfl, hb, fun i hi => own_cells h (flatN_get f k i hi)⟩
set_option maxRecDepth 4000 in
theorem nums3_yes (X0 : T) (A0 : Option Addr) (c0 : Nat) (X1 : T) (A1 : Option Addr) (c1 : Nat) (X2 : T) (A2 : Option Addr) (c2 : Nat) (h : X0.kind = 0 ∧ X1.kind = 0 ∧ X2.kind = 0) (W : World) : Calls Tryz.prog 91 #[.slice (some ⟨W.heap.size, 0, none⟩) 3 3] (W.alloc (.cells #[.int .i64 X0.kind, .int .u64 (X0.n : Int), str X0.s, .slice A0 X0.k c0, .bool X0.op, .int .i64 X1.kind, .int .u64 (X1.n : Int), str X1.s, .slice A1 X1.k c1, .bool X1.op, .int .i64 X2.kind, .int .u64 (X2.n : Int), str X2.s, .slice A2 X2.k c2, .bool X2.op] 52)) (fun e w' => ∃ g c, e = .returned (.tuple #[.slice (some ⟨g, 0, none⟩) 3 c, .bool true]) ∧ Hid (Ext W w' ∧ W.heap.size < g ∧ w'.cell? ⟨g, 0, none⟩ = some (.int .u64 (X0.n : Int)) ∧ w'.cell? ⟨g, 1, none⟩ = some (.int .u64 (X1.n : Int)) ∧ w'.cell? ⟨g, 2, none⟩ = some (.int .u64 (X2.n : Int)))) := by
 have B := Blk.new W 52 #[.int .i64 X0.kind, .int .u64 (X0.n : Int), str X0.s, .slice A0 X0.k c0, .bool X0.op, .int .i64 X1.kind, .int .u64 (X1.n : Int), str X1.s, .slice A1 X1.k c1, .bool X1.op, .int .i64 X2.kind, .int .u64 (X2.n : Int), str X2.s, .slice A2 X2.k c2, .bool X2.op]
 refine (pnums (fun i => if i = 0 then X0 else if i = 1 then X1 else X2) (fun i => if i = 0 then (A0, c0) else if i = 1 then (A1, c1) else (A2, c2)) 3 3 W.heap.size 0 (by decide) _ (by simp) (fun i hi => by (match i, hi with | 0, _ => exact ⟨B.cell 0, B.cell 1, B.cell 2, B.cell 3, B.cell 4⟩ | 1, _ => exact ⟨B.cell 5, B.cell 6, B.cell 7, B.cell 8, B.cell 9⟩ | 2, _ => exact ⟨B.cell 10, B.cell 11, B.cell 12, B.cell 13, B.cell 14⟩))).mono ?_
 rintro e w' ⟨hE, (⟨hall, A, c, rfl, ho⟩ | ⟨⟨i, hi, hne⟩, rfl⟩)⟩
 ·
  obtain ⟨g, rfl, hg, hc⟩ := nums_cells (by decide) ho
  exact ⟨g, c, rfl, hid ⟨((Mod.refl _ _).alloc _).trans hE, by simp at hg; omega, hc 0 (by decide), hc 1 (by decide), hc 2 (by decide)⟩⟩
 ·
  exfalso
  match i, hi with | 0, _ => exact hne h.1 | 1, _ => exact hne h.2.1 | 2, _ => exact hne h.2.2
set_option maxRecDepth 4000 in
theorem nums3_no (X0 : T) (A0 : Option Addr) (c0 : Nat) (X1 : T) (A1 : Option Addr) (c1 : Nat) (X2 : T) (A2 : Option Addr) (c2 : Nat) (h : ¬ (X0.kind = 0 ∧ X1.kind = 0 ∧ X2.kind = 0)) (W : World) : Calls Tryz.prog 91 #[.slice (some ⟨W.heap.size, 0, none⟩) 3 3] (W.alloc (.cells #[.int .i64 X0.kind, .int .u64 (X0.n : Int), str X0.s, .slice A0 X0.k c0, .bool X0.op, .int .i64 X1.kind, .int .u64 (X1.n : Int), str X1.s, .slice A1 X1.k c1, .bool X1.op, .int .i64 X2.kind, .int .u64 (X2.n : Int), str X2.s, .slice A2 X2.k c2, .bool X2.op] 52)) (fun e w' => e = .returned (.tuple #[.slice none 0 0, .bool false]) ∧ Hid (Ext W w')) := by
 have B := Blk.new W 52 #[.int .i64 X0.kind, .int .u64 (X0.n : Int), str X0.s, .slice A0 X0.k c0, .bool X0.op, .int .i64 X1.kind, .int .u64 (X1.n : Int), str X1.s, .slice A1 X1.k c1, .bool X1.op, .int .i64 X2.kind, .int .u64 (X2.n : Int), str X2.s, .slice A2 X2.k c2, .bool X2.op]
 refine (pnums (fun i => if i = 0 then X0 else if i = 1 then X1 else X2) (fun i => if i = 0 then (A0, c0) else if i = 1 then (A1, c1) else (A2, c2)) 3 3 W.heap.size 0 (by decide) _ (by simp) (fun i hi => by (match i, hi with | 0, _ => exact ⟨B.cell 0, B.cell 1, B.cell 2, B.cell 3, B.cell 4⟩ | 1, _ => exact ⟨B.cell 5, B.cell 6, B.cell 7, B.cell 8, B.cell 9⟩ | 2, _ => exact ⟨B.cell 10, B.cell 11, B.cell 12, B.cell 13, B.cell 14⟩))).mono ?_
 rintro e w' ⟨hE, (⟨hall, A, c, rfl, ho⟩ | ⟨⟨i, hi, hne⟩, rfl⟩)⟩
 · exact absurd ⟨hall 0 (by decide), hall 1 (by decide), hall 2 (by decide)⟩ h
 · exact ⟨rfl, hid (((Mod.refl _ _).alloc _).trans hE)⟩
set_option maxRecDepth 4000 in
theorem nums2_yes (X0 : T) (A0 : Option Addr) (c0 : Nat) (X1 : T) (A1 : Option Addr) (c1 : Nat) (h : X0.kind = 0 ∧ X1.kind = 0) (W : World) : Calls Tryz.prog 91 #[.slice (some ⟨W.heap.size, 0, none⟩) 2 2] (W.alloc (.cells #[.int .i64 X0.kind, .int .u64 (X0.n : Int), str X0.s, .slice A0 X0.k c0, .bool X0.op, .int .i64 X1.kind, .int .u64 (X1.n : Int), str X1.s, .slice A1 X1.k c1, .bool X1.op] 52)) (fun e w' => ∃ g c, e = .returned (.tuple #[.slice (some ⟨g, 0, none⟩) 2 c, .bool true]) ∧ Hid (Ext W w' ∧ W.heap.size < g ∧ w'.cell? ⟨g, 0, none⟩ = some (.int .u64 (X0.n : Int)) ∧ w'.cell? ⟨g, 1, none⟩ = some (.int .u64 (X1.n : Int)))) := by
 have B := Blk.new W 52 #[.int .i64 X0.kind, .int .u64 (X0.n : Int), str X0.s, .slice A0 X0.k c0, .bool X0.op, .int .i64 X1.kind, .int .u64 (X1.n : Int), str X1.s, .slice A1 X1.k c1, .bool X1.op]
 refine (pnums (fun i => if i = 0 then X0 else X1) (fun i => if i = 0 then (A0, c0) else (A1, c1)) 2 2 W.heap.size 0 (by decide) _ (by simp) (fun i hi => by (match i, hi with | 0, _ => exact ⟨B.cell 0, B.cell 1, B.cell 2, B.cell 3, B.cell 4⟩ | 1, _ => exact ⟨B.cell 5, B.cell 6, B.cell 7, B.cell 8, B.cell 9⟩))).mono ?_
 rintro e w' ⟨hE, (⟨hall, A, c, rfl, ho⟩ | ⟨⟨i, hi, hne⟩, rfl⟩)⟩
 ·
  obtain ⟨g, rfl, hg, hc⟩ := nums_cells (by decide) ho
  exact ⟨g, c, rfl, hid ⟨((Mod.refl _ _).alloc _).trans hE, by simp at hg; omega, hc 0 (by decide), hc 1 (by decide)⟩⟩
 ·
  exfalso
  match i, hi with | 0, _ => exact hne h.1 | 1, _ => exact hne h.2
set_option maxRecDepth 4000 in
theorem nums2_no (X0 : T) (A0 : Option Addr) (c0 : Nat) (X1 : T) (A1 : Option Addr) (c1 : Nat) (h : ¬ (X0.kind = 0 ∧ X1.kind = 0)) (W : World) : Calls Tryz.prog 91 #[.slice (some ⟨W.heap.size, 0, none⟩) 2 2] (W.alloc (.cells #[.int .i64 X0.kind, .int .u64 (X0.n : Int), str X0.s, .slice A0 X0.k c0, .bool X0.op, .int .i64 X1.kind, .int .u64 (X1.n : Int), str X1.s, .slice A1 X1.k c1, .bool X1.op] 52)) (fun e w' => e = .returned (.tuple #[.slice none 0 0, .bool false]) ∧ Hid (Ext W w')) := by
 have B := Blk.new W 52 #[.int .i64 X0.kind, .int .u64 (X0.n : Int), str X0.s, .slice A0 X0.k c0, .bool X0.op, .int .i64 X1.kind, .int .u64 (X1.n : Int), str X1.s, .slice A1 X1.k c1, .bool X1.op]
 refine (pnums (fun i => if i = 0 then X0 else X1) (fun i => if i = 0 then (A0, c0) else (A1, c1)) 2 2 W.heap.size 0 (by decide) _ (by simp) (fun i hi => by (match i, hi with | 0, _ => exact ⟨B.cell 0, B.cell 1, B.cell 2, B.cell 3, B.cell 4⟩ | 1, _ => exact ⟨B.cell 5, B.cell 6, B.cell 7, B.cell 8, B.cell 9⟩))).mono ?_
 rintro e w' ⟨hE, (⟨hall, A, c, rfl, ho⟩ | ⟨⟨i, hi, hne⟩, rfl⟩)⟩
 · exact absurd ⟨hall 0 (by decide), hall 1 (by decide)⟩ h
 · exact ⟨rfl, hid (((Mod.refl _ _).alloc _).trans hE)⟩
set_option maxRecDepth 20000 in
set_option maxHeartbeats 16000000 in
theorem prest (R : Nat) (p : PV) (s : List UInt8) (k m c : Nat) (hk : k = (if p.fl % 2 = 1 then 4 else 2) + m) (hm : m ≤ 1) (hkc : k ≤ c) (hcr : m = 1 → ∃ cr : Nat, p.crc = cr ∧ (cr = 1 ∨ cr = 2)) (hfl : p.fl < 18446744073709551616) (ch : Nat → T) (ac : Nat → Option Addr × Nat) (b o : Nat) (w : World) (h : Blk w R 97 (rdC p s false)) (hb : b < w.heap.size) (hbR : b ≠ R) (hc : ∀ i, i < k → At5 w b (o + i * 5) (ch i) (ac i).1 (ac i).2) (hl : IsL w (fun n => n ≠ R) (ch 0) (ac 0).1) : Calls Tryz.prog 94 #[.pointer (some ⟨R, 0, none⟩), .slice (some ⟨b, o, none⟩) k c] w (RestPost R (restR p s k ch) w) := by
 have HC := hid (fun (W : World) (hW : Mod [R] w W) i (hi : i < k) => (hc i hi).mod hW hb (by simpa using hbR))
 have k2 : 2 ≤ k := by rw [hk]; split <;> omega
 have k0 : (1 : Int) < (k : Int) := by omega
 have k1 : (0 : Int) < (k : Int) := by omega
 have HI : Hid ((ch 0).k = 2 → ∀ W, Mod [R] w W → ∃ b2 o2, (ac 0).1 = some ⟨b2, o2, none⟩ ∧ b2 < w.heap.size ∧ b2 ≠ R ∧ ∀ i, i < 2 → ∃ Ai ci, At5 W b2 (o2 + i * 5) (kidT (ch 0) i) Ai ci) := hid (by
  intro hk2 W hW
  cases h0 : ch 0 with
  | nil => rw [h0] at hl; exact absurd hl (by simp [IsL])
  | mk kd n s op kk cw =>
   rw [h0] at hl hk2
   obtain ⟨b2, o2, e, hb2, hq, hh⟩ := hl (by show 0 < kk; have : kk = 2 := hk2; omega)
   refine ⟨b2, o2, e, hb2, hq, fun i hi => ?_⟩
   obtain ⟨Ai, ci, ha, _⟩ := hh i (by have : kk = 2 := hk2; omega)
   exact ⟨Ai, ci, ha.mod hW hb2 (by simpa using hq)⟩)
 obtain ⟨q0, q1, q2, q3, q4⟩ := hc 0 (by omega)
 simp only [Nat.zero_mul, Nat.add_zero] at q0 q1 q2 q3 q4
 have HR := hid h
 have HKM := hid (And.intro hk (And.intro hm hcr))
 have HFL := hid hfl
 have HKC := hid hkc
 have K2 : Hid (1 < k) := hid (by omega)
 clear h hb hbR hc hl hk hm hcr k2 hfl hkc
 go_enter Tryz.func94, Tryz.ntmps94
 go_upto_region 1 with fail
 generalize hZ : World.alloc w _ = Z
 have BV : Hid (Blk Z w.heap.size 52 (itemC (ch 0) (ac 0).1 (ac 0).2)) := hid (by rw [← hZ]; exact Blk.new _ _ _)
 have HE : Hid (Ext w Z) := hid (by rw [← hZ]; exact (Mod.refl _ _).alloc _)
 have HR1 : Hid (Blk Z R 97 (rdC p s false)) := hid (HR.out.ext HE.out)
 have HNV : Hid (w.heap.size ≠ R) := hid (by have := HR.out.lt; omega)
 clear hZ q0 q1 q2 q3 q4 HR
 generalize hNV : w.heap.size = NV at *
 have HNVe := hid hNV
 clear hNV
 have z0 : Z.cell? ⟨NV, 0, none⟩ = some (.int .i64 (ch 0).kind) := BV.out.cell 0
 have z3 : Z.cell? ⟨NV, 3, none⟩ = some (.slice (ac 0).1 (ch 0).k (ac 0).2) := BV.out.cell 3
 have z4 : Z.cell? ⟨NV, 4, none⟩ = some (.bool (ch 0).op) := BV.out.cell 4
 by_cases hkd : (ch 0).kind = 4
 case neg =>
  have HW : Hid (whenR (ch 0) = false) := hid (by unfold whenR; rw [decide_eq_false hkd]; rfl)
  have tka : (((ch 0).kind) == (4)) = false := by rw [beq_eq_false_iff_ne]; exact hkd
  have tkb : (((ch 0).kind) = (4)) = False := eq_false (by exact hkd)
  have tkc : (((ch 0).kind) != (4)) = true := by rw [bne_iff_ne]; exact hkd
  clear hkd
  go_upto_region 2 with (go_at_call 90; refine (pchk R p s false _ _ HR1.out).mono ?_; rintro x w2 ⟨rfl, hm, hB⟩; have HM := hid hm; have HB := hid hB; clear hm hB)
  have HBk : Hid (Blk w2 R 97 (rdC p s true)) := hid HB.out
  have HMk : Hid (Mod [R] w w2) := hid ((HE.out.mono (by simp)).trans HM.out)
  clear HB HM
  have c20 : w2.cell? ⟨R, 20, none⟩ = some (.bool true) := HBk.out.cell 20
  go_wp2_with fail
  refine bodyPost_ret (results_none rfl _ _ _) rfl ?_
  have hr : restR p s k ch = (p, s, true) := by unfold restR; rw [if_pos HW.out]
  rw [hr]
  exact ⟨rfl, HMk.out, HBk.out⟩
 have HKD := hid hkd
 have tka : (((ch 0).kind) == (4)) = true := by rw [beq_iff_eq]; exact hkd
 have tkb : (((ch 0).kind) = (4)) = True := eq_true (by exact hkd)
 have tkc : (((ch 0).kind) != (4)) = false := by rw [bne_eq_false_iff_eq]; exact hkd
 clear hkd
 by_cases hop : (ch 0).op = true
 case pos =>
  have HW : Hid (whenR (ch 0) = false) := hid (by unfold whenR; rw [hop]; simp)
  rw [hop] at z4
  clear hop HKD
  go_upto_region 2 with (go_at_call 90; refine (pchk R p s false _ _ HR1.out).mono ?_; rintro x w2 ⟨rfl, hm, hB⟩; have HM := hid hm; have HB := hid hB; clear hm hB)
  have HBk : Hid (Blk w2 R 97 (rdC p s true)) := hid HB.out
  have HMk : Hid (Mod [R] w w2) := hid ((HE.out.mono (by simp)).trans HM.out)
  clear HB HM
  have c20 : w2.cell? ⟨R, 20, none⟩ = some (.bool true) := HBk.out.cell 20
  go_wp2_with fail
  refine bodyPost_ret (results_none rfl _ _ _) rfl ?_
  have hr : restR p s k ch = (p, s, true) := by unfold restR; rw [if_pos HW.out]
  rw [hr]
  exact ⟨rfl, HMk.out, HBk.out⟩
 have hop' : (ch 0).op = false := by simpa using hop
 rw [hop'] at z4
 have HOP := hid hop'
 clear hop hop'
 by_cases hk2 : (ch 0).k = 2
 case neg =>
  have HW : Hid (whenR (ch 0) = false) := hid (by unfold whenR; rw [decide_eq_false hk2]; simp)
  have tla : (((ch 0).k) == (2)) = false := by rw [beq_eq_false_iff_ne]; exact hk2
  have tlb : (((ch 0).k) = (2)) = False := eq_false (by exact hk2)
  have tlc : (((ch 0).k) != (2)) = true := by rw [bne_iff_ne]; exact hk2
  have tma : ((((ch 0).k : Int)) == (2)) = false := by rw [beq_eq_false_iff_ne]; omega
  have tmb : ((((ch 0).k : Int)) = (2)) = False := eq_false (by omega)
  have tmc : ((((ch 0).k : Int)) != (2)) = true := by rw [bne_iff_ne]; omega
  clear hk2 HKD HOP
  go_upto_region 2 with (go_at_call 90; refine (pchk R p s false _ _ HR1.out).mono ?_; rintro x w2 ⟨rfl, hm, hB⟩; have HM := hid hm; have HB := hid hB; clear hm hB)
  have HBk : Hid (Blk w2 R 97 (rdC p s true)) := hid HB.out
  have HMk : Hid (Mod [R] w w2) := hid ((HE.out.mono (by simp)).trans HM.out)
  clear HB HM
  have c20 : w2.cell? ⟨R, 20, none⟩ = some (.bool true) := HBk.out.cell 20
  go_wp2_with fail
  refine bodyPost_ret (results_none rfl _ _ _) rfl ?_
  have hr : restR p s k ch = (p, s, true) := by unfold restR; rw [if_pos HW.out]
  rw [hr]
  exact ⟨rfl, HMk.out, HBk.out⟩
 have HW : Hid (whenR (ch 0) = true) := hid (by unfold whenR; rw [HKD.out, HOP.out, hk2]; rfl)
 have HK2 := hid hk2
 have tla : (((ch 0).k) == (2)) = true := by rw [beq_iff_eq]; exact hk2
 have tlb : (((ch 0).k) = (2)) = True := eq_true (by exact hk2)
 have tlc : (((ch 0).k) != (2)) = false := by rw [bne_eq_false_iff_eq]; exact hk2
 have tma : ((((ch 0).k : Int)) == (2)) = true := by rw [beq_iff_eq]; omega
 have tmb : ((((ch 0).k : Int)) = (2)) = True := eq_true (by omega)
 have tmc : ((((ch 0).k : Int)) != (2)) = false := by rw [bne_eq_false_iff_eq]; omega
 clear hk2 HKD HOP
 go_upto_region 2 with (go_at_call 90; refine (pchk R p s false _ _ HR1.out).mono ?_; rintro x w2 ⟨rfl, hm, hB⟩; have HM := hid hm; have HB := hid hB; clear hm hB)
 have HBk : Hid (Blk w2 R 97 (rdC p s false)) := hid HB.out
 have HMk : Hid (Mod [R] w w2) := hid ((HE.out.mono (by simp)).trans HM.out)
 have BV2 := hid (BV.out.mod HM.out (by simpa using HNV.out))
 clear HB HM
 have c20 : w2.cell? ⟨R, 20, none⟩ = some (.bool false) := HBk.out.cell 20
 go_upto_region 3 with fail
 clear z0 z3 z4 HR1 HE BV c20
 obtain ⟨b2, o2, ha, hb2, hbR2, hkk⟩ := HI.out HK2.out w2 HMk.out
 obtain ⟨A0, c0, at0⟩ := hkk 0 (by decide)
 obtain ⟨A1, c1, at1⟩ := hkk 1 (by decide)
 have HSZ : Hid (NV ≤ w2.heap.size) := hid (by rw [← HNVe.out]; exact HMk.out.size)
 have HQ0 : Hid (∀ W, Ext w2 W → At5 W b2 o2 (kidT (ch 0) 0) A0 c0) := hid (fun W hM => (by simpa using at0 : At5 w2 b2 o2 (kidT (ch 0) 0) A0 c0).mod hM (Nat.lt_of_lt_of_le hb2 HSZ.out) (by simp))
 have HQ1 : Hid (∀ W, Ext w2 W → At5 W b2 (o2 + 5) (kidT (ch 0) 1) A1 c1) := hid (fun W hM => (by simpa using at1 : At5 w2 b2 (o2 + 5) (kidT (ch 0) 1) A1 c1).mod hM (Nat.lt_of_lt_of_le hb2 HSZ.out) (by simp))
 have HQ2 : Hid (∀ W, Ext w2 W → At5 W b (o + 5) (ch 1) (ac 1).1 (ac 1).2) := hid (fun W hM => by have := HC.out W (HMk.out.trans (hM.mono (by simp))) 1 K2.out; simpa using this)
 have HZ3 : Hid (∀ W, Ext w2 W → W.cell? ⟨NV, 3, none⟩ = some (.slice (some ⟨b2, o2, none⟩) 2 (ac 0).2)) := hid (fun W hM => by have h3 : W.cell? ⟨NV, 3, none⟩ = some (.slice (ac 0).1 (ch 0).k (ac 0).2) := (BV2.out.ext hM).cell 3; rw [ha, HK2.out] at h3; exact h3)
 clear hkk hb2 hbR2 HI BV2 at0 at1
 by_cases hN : (kidT (ch 0) 0).kind = 0 ∧ (kidT (ch 0) 1).kind = 0 ∧ (ch 1).kind = 0
 case neg =>
  have K3 := hid (fun W => nums3_no (kidT (ch 0) 0) A0 c0 (kidT (ch 0) 1) A1 c1 (ch 1) (ac 1).1 (ac 1).2 hN W)
  have HN := hid hN
  clear hN
  refine wp_region_held_drew (S := fun w' => Ext w2 w') (by kernel_rfl) (Mod.refl _ _).drew (fun hHeld => ?_)
  generalize w2.drew = u0 at *
  have hH0 := hHeld
  refine' wpAnyH_take (i := 0) (v := _) rfl (by kernel_rfl) (by kernel_rfl) (by kernel_rfl) (fun _ _ _ h => h) (Or.inl ⟨by rfl, ?hy201⟩) hHeld ?rest201
  case hy201 => (rintro W hM; go_simp; (try with_reducible rfl))
  case rest201 =>
  (try simp only [Act.put, gTl, g0l, gSl, sTl, s0l, sSl])
  refine' wpAnyH_take (i := 1) (v := _) rfl (by kernel_rfl) (by kernel_rfl) (by kernel_rfl) (fun _ _ _ h => h) (Or.inl ⟨by rfl, ?hy202⟩) hHeld ?rest202
  case hy202 => (rintro W hM; have z3 := HZ3.out W hM; go_simp; (try with_reducible rfl))
  case rest202 =>
  (try simp only [Act.put, gTl, g0l, gSl, sTl, s0l, sSl])
  refine' wpAnyH_take (i := 2) (v := _) rfl (by kernel_rfl) (by kernel_rfl) (by kernel_rfl) (fun _ _ _ h => h) (Or.inl ⟨by rfl, ?hy203⟩) hHeld ?rest203
  case hy203 => (rintro W hM; go_simp; (try with_reducible rfl))
  case rest203 =>
  (try simp only [Act.put, gTl, g0l, gSl, sTl, s0l, sSl])
  refine' wpAnyH_take (i := 3) (v := _) rfl (by kernel_rfl) (by kernel_rfl) (by kernel_rfl) (fun _ _ _ h => h) (Or.inl ⟨by rfl, ?hy204⟩) hHeld ?rest204
  case hy204 => (rintro W hM; obtain ⟨q0, q1, q2, q3, q4⟩ := HQ0.out W hM; go_simp; (try with_reducible rfl))
  case rest204 =>
  (try simp only [Act.put, gTl, g0l, gSl, sTl, s0l, sSl])
  refine' wpAnyH_take (i := 4) (v := _) rfl (by kernel_rfl) (by kernel_rfl) (by kernel_rfl) (fun _ _ _ h => h) (Or.inl ⟨by rfl, ?hy205⟩) hHeld ?rest205
  case hy205 => (rintro W hM; go_simp; (try with_reducible rfl))
  case rest205 =>
  (try simp only [Act.put, gTl, g0l, gSl, sTl, s0l, sSl])
  refine' wpAnyH_take (i := 5) (v := _) rfl (by kernel_rfl) (by kernel_rfl) (by kernel_rfl) (fun _ _ _ h => h) (Or.inl ⟨by rfl, ?hy206⟩) hHeld ?rest206
  case hy206 => (rintro W hM; have z3 := HZ3.out W hM; go_simp; (try with_reducible rfl))
  case rest206 =>
  (try simp only [Act.put, gTl, g0l, gSl, sTl, s0l, sSl])
  refine' wpAnyH_take (i := 6) (v := _) rfl (by kernel_rfl) (by kernel_rfl) (by kernel_rfl) (fun _ _ _ h => h) (Or.inl ⟨by rfl, ?hy207⟩) hHeld ?rest207
  case hy207 => (rintro W hM; go_simp; (try with_reducible rfl))
  case rest207 =>
  (try simp only [Act.put, gTl, g0l, gSl, sTl, s0l, sSl])
  refine' wpAnyH_take (i := 7) (v := _) rfl (by kernel_rfl) (by kernel_rfl) (by kernel_rfl) (fun _ _ _ h => h) (Or.inl ⟨by rfl, ?hy208⟩) hHeld ?rest208
  case hy208 => (rintro W hM; obtain ⟨q0, q1, q2, q3, q4⟩ := HQ1.out W hM; go_simp; (try with_reducible rfl))
  case rest208 =>
  (try simp only [Act.put, gTl, g0l, gSl, sTl, s0l, sSl])
  refine' wpAnyH_take (i := 8) (v := _) rfl (by kernel_rfl) (by kernel_rfl) (by kernel_rfl) (fun _ _ _ h => h) (Or.inl ⟨by rfl, ?hy209⟩) hHeld ?rest209
  case hy209 => (rintro W hM; go_simp; (try with_reducible rfl))
  case rest209 =>
  (try simp only [Act.put, gTl, g0l, gSl, sTl, s0l, sSl])
  refine' wpAnyH_take (i := 9) (v := _) rfl (by kernel_rfl) (by kernel_rfl) (by kernel_rfl) (fun _ _ _ h => h) (Or.inl ⟨by rfl, ?hy210⟩) hHeld ?rest210
  case hy210 => (rintro W hM; go_simp; (try with_reducible rfl))
  case rest210 =>
  (try simp only [Act.put, gTl, g0l, gSl, sTl, s0l, sSl])
  refine' wpAnyH_take (i := 10) (v := _) rfl (by kernel_rfl) (by kernel_rfl) (by kernel_rfl) (fun _ _ _ h => h) (Or.inl ⟨by rfl, ?hy211⟩) hHeld ?rest211
  case hy211 => (rintro W hM; obtain ⟨q0, q1, q2, q3, q4⟩ := HQ2.out W hM; go_simp; (try with_reducible rfl))
  case rest211 =>
  (try simp only [Act.put, gTl, g0l, gSl, sTl, s0l, sSl])
  refine wpAnyH_ready (rs := [11]) (by kernel_rfl) (by simp) ?_
  refine AllReadyH.cons rfl (fun K hK => ?_) AllReadyH.nil
  go_simp
  refine hK.out _ _ (hHeld.alloc _) (fun hHeld => ?_)
  clear hK K
  (try simp only [Act.put, gTl, g0l, gSl, sTl, s0l, sSl])
  refine wpAnyH_ready (rs := [12]) (by kernel_rfl) (by simp) ?_
  refine AllReadyH.cons rfl (fun K hK => ?_) AllReadyH.nil
  go_simp
  go_at_call 91
  refine (K3.out _).mono ?_
  rintro e w3 ⟨rfl, HE3⟩
  refine hK.out _ _ (hH0.trans HE3.out) (fun hHeld => ?_)
  clear hK K
  (try simp only [Act.put, gTl, g0l, gSl, sTl, s0l, sSl])
  refine' wpAnyH_take (i := 13) (v := _) rfl (by kernel_rfl) (by kernel_rfl) (by kernel_rfl) (fun _ _ _ h => h) (Or.inl ⟨by rfl, ?hy212⟩) hHeld ?rest212
  case hy212 => (rintro W hM; go_simp; (try with_reducible rfl))
  case rest212 =>
  (try simp only [Act.put, gTl, g0l, gSl, sTl, s0l, sSl])
  refine' wpAnyH_take (i := 14) (v := _) rfl (by kernel_rfl) (by kernel_rfl) (by kernel_rfl) (fun _ _ _ h => h) (Or.inl ⟨by rfl, ?hy213⟩) hHeld ?rest213
  case hy213 => (rintro W hM; go_simp; (try with_reducible rfl))
  case rest213 =>
  (try simp only [Act.put, gTl, g0l, gSl, sTl, s0l, sSl])
  refine' wpAnyH_take (i := 15) (v := _) rfl (by kernel_rfl) (by kernel_rfl) (by kernel_rfl) (fun _ _ _ h => h) (Or.inl ⟨by rfl, ?hy214⟩) hHeld ?rest214
  case hy214 => (rintro W hM; go_simp; (try with_reducible rfl))
  case rest214 =>
  (try simp only [Act.put, gTl, g0l, gSl, sTl, s0l, sSl])
  refine' wpAnyH_take (i := 16) (v := _) rfl (by kernel_rfl) (by kernel_rfl) (by kernel_rfl) (fun _ _ _ h => h) (Or.inl ⟨by rfl, ?hy215⟩) hHeld ?rest215
  case hy215 => (rintro W hM; go_simp; (try with_reducible rfl))
  case rest215 =>
  (try simp only [Act.put, gTl, g0l, gSl, sTl, s0l, sSl])
  refine' wpAnyH_take (i := 17) (v := _) rfl (by kernel_rfl) (by kernel_rfl) (by kernel_rfl) (fun _ _ _ h => h) (Or.inl ⟨by rfl, ?hy216⟩) hHeld ?rest216
  case hy216 => (rintro W hM; go_simp; (try with_reducible rfl))
  case rest216 =>
  (try simp only [Act.put, gTl, g0l, gSl, sTl, s0l, sSl])
  refine wpAnyH_done (by kernel_rfl) ?_ _
  have BR3 := hid (HBk.out.ext hHeld)
  have HM3 : Hid (Mod [R] w w3) := hid (HMk.out.trans (hHeld.mono (by simp)))
  clear hHeld HE3 hH0 HQ0 HQ1 HQ2 HZ3 K3 HBk HMk
  go_upto_region 5 with (go_at_call 90; refine (pchk R p s false _ _ BR3.out).mono ?_; rintro x w2 ⟨rfl, hm, hB⟩; have HM := hid hm; have HB := hid hB; clear hm hB)
  have HBk : Hid (Blk w2 R 97 (rdC p s true)) := hid HB.out
  have HMk : Hid (Mod [R] w w2) := hid (HM3.out.trans HM.out)
  clear HB HM
  have c20 : w2.cell? ⟨R, 20, none⟩ = some (.bool true) := HBk.out.cell 20
  go_wp2_with fail
  refine bodyPost_ret (results_none rfl _ _ _) rfl ?_
  have hr : restR p s k ch = (p, s, true) := by unfold restR; rw [if_neg (by rw [HW.out]; decide), if_pos HN.out]
  rw [hr]
  exact ⟨rfl, HMk.out, HBk.out⟩
 have HN := hid hN
 have K3 := hid (fun W => nums3_yes (kidT (ch 0) 0) A0 c0 (kidT (ch 0) 1) A1 c1 (ch 1) (ac 1).1 (ac 1).2 hN W)
 clear hN
 refine wp_region_held_drew (S := fun w' => Ext w2 w') (by kernel_rfl) (Mod.refl _ _).drew (fun hHeld => ?_)
 generalize w2.drew = u0 at *
 have hH0 := hHeld
 refine' wpAnyH_take (i := 0) (v := _) rfl (by kernel_rfl) (by kernel_rfl) (by kernel_rfl) (fun _ _ _ h => h) (Or.inl ⟨by rfl, ?hy217⟩) hHeld ?rest217
 case hy217 => (rintro W hM; go_simp; (try with_reducible rfl))
 case rest217 =>
 (try simp only [Act.put, gTl, g0l, gSl, sTl, s0l, sSl])
 refine' wpAnyH_take (i := 1) (v := _) rfl (by kernel_rfl) (by kernel_rfl) (by kernel_rfl) (fun _ _ _ h => h) (Or.inl ⟨by rfl, ?hy218⟩) hHeld ?rest218
 case hy218 => (rintro W hM; have z3 := HZ3.out W hM; go_simp; (try with_reducible rfl))
 case rest218 =>
 (try simp only [Act.put, gTl, g0l, gSl, sTl, s0l, sSl])
 refine' wpAnyH_take (i := 2) (v := _) rfl (by kernel_rfl) (by kernel_rfl) (by kernel_rfl) (fun _ _ _ h => h) (Or.inl ⟨by rfl, ?hy219⟩) hHeld ?rest219
 case hy219 => (rintro W hM; go_simp; (try with_reducible rfl))
 case rest219 =>
 (try simp only [Act.put, gTl, g0l, gSl, sTl, s0l, sSl])
 refine' wpAnyH_take (i := 3) (v := _) rfl (by kernel_rfl) (by kernel_rfl) (by kernel_rfl) (fun _ _ _ h => h) (Or.inl ⟨by rfl, ?hy220⟩) hHeld ?rest220
 case hy220 => (rintro W hM; obtain ⟨q0, q1, q2, q3, q4⟩ := HQ0.out W hM; go_simp; (try with_reducible rfl))
 case rest220 =>
 (try simp only [Act.put, gTl, g0l, gSl, sTl, s0l, sSl])
 refine' wpAnyH_take (i := 4) (v := _) rfl (by kernel_rfl) (by kernel_rfl) (by kernel_rfl) (fun _ _ _ h => h) (Or.inl ⟨by rfl, ?hy221⟩) hHeld ?rest221
 case hy221 => (rintro W hM; go_simp; (try with_reducible rfl))
 case rest221 =>
 (try simp only [Act.put, gTl, g0l, gSl, sTl, s0l, sSl])
 refine' wpAnyH_take (i := 5) (v := _) rfl (by kernel_rfl) (by kernel_rfl) (by kernel_rfl) (fun _ _ _ h => h) (Or.inl ⟨by rfl, ?hy222⟩) hHeld ?rest222
 case hy222 => (rintro W hM; have z3 := HZ3.out W hM; go_simp; (try with_reducible rfl))
 case rest222 =>
 (try simp only [Act.put, gTl, g0l, gSl, sTl, s0l, sSl])
 refine' wpAnyH_take (i := 6) (v := _) rfl (by kernel_rfl) (by kernel_rfl) (by kernel_rfl) (fun _ _ _ h => h) (Or.inl ⟨by rfl, ?hy223⟩) hHeld ?rest223
 case hy223 => (rintro W hM; go_simp; (try with_reducible rfl))
 case rest223 =>
 (try simp only [Act.put, gTl, g0l, gSl, sTl, s0l, sSl])
 refine' wpAnyH_take (i := 7) (v := _) rfl (by kernel_rfl) (by kernel_rfl) (by kernel_rfl) (fun _ _ _ h => h) (Or.inl ⟨by rfl, ?hy224⟩) hHeld ?rest224
 case hy224 => (rintro W hM; obtain ⟨q0, q1, q2, q3, q4⟩ := HQ1.out W hM; go_simp; (try with_reducible rfl))
 case rest224 =>
 (try simp only [Act.put, gTl, g0l, gSl, sTl, s0l, sSl])
 refine' wpAnyH_take (i := 8) (v := _) rfl (by kernel_rfl) (by kernel_rfl) (by kernel_rfl) (fun _ _ _ h => h) (Or.inl ⟨by rfl, ?hy225⟩) hHeld ?rest225
 case hy225 => (rintro W hM; go_simp; (try with_reducible rfl))
 case rest225 =>
 (try simp only [Act.put, gTl, g0l, gSl, sTl, s0l, sSl])
 refine' wpAnyH_take (i := 9) (v := _) rfl (by kernel_rfl) (by kernel_rfl) (by kernel_rfl) (fun _ _ _ h => h) (Or.inl ⟨by rfl, ?hy226⟩) hHeld ?rest226
 case hy226 => (rintro W hM; go_simp; (try with_reducible rfl))
 case rest226 =>
 (try simp only [Act.put, gTl, g0l, gSl, sTl, s0l, sSl])
 refine' wpAnyH_take (i := 10) (v := _) rfl (by kernel_rfl) (by kernel_rfl) (by kernel_rfl) (fun _ _ _ h => h) (Or.inl ⟨by rfl, ?hy227⟩) hHeld ?rest227
 case hy227 => (rintro W hM; obtain ⟨q0, q1, q2, q3, q4⟩ := HQ2.out W hM; go_simp; (try with_reducible rfl))
 case rest227 =>
 (try simp only [Act.put, gTl, g0l, gSl, sTl, s0l, sSl])
 refine wpAnyH_ready (rs := [11]) (by kernel_rfl) (by simp) ?_
 refine AllReadyH.cons rfl (fun K hK => ?_) AllReadyH.nil
 go_simp
 refine hK.out _ _ (hHeld.alloc _) (fun hHeld => ?_)
 clear hK K
 (try simp only [Act.put, gTl, g0l, gSl, sTl, s0l, sSl])
 refine wpAnyH_ready (rs := [12]) (by kernel_rfl) (by simp) ?_
 refine AllReadyH.cons rfl (fun K hK => ?_) AllReadyH.nil
 go_simp
 go_at_call 91
 refine (K3.out _).mono ?_
 rintro e w3 ⟨g, cg, rfl, HE3⟩
 refine hK.out _ _ (hH0.trans HE3.out.1) (fun hHeld => ?_)
 clear hK K
 (try simp only [Act.put, gTl, g0l, gSl, sTl, s0l, sSl])
 refine' wpAnyH_take (i := 13) (v := _) rfl (by kernel_rfl) (by kernel_rfl) (by kernel_rfl) (fun _ _ _ h => h) (Or.inl ⟨by rfl, ?hy228⟩) hHeld ?rest228
 case hy228 => (rintro W hM; go_simp; (try with_reducible rfl))
 case rest228 =>
 (try simp only [Act.put, gTl, g0l, gSl, sTl, s0l, sSl])
 refine' wpAnyH_take (i := 14) (v := _) rfl (by kernel_rfl) (by kernel_rfl) (by kernel_rfl) (fun _ _ _ h => h) (Or.inl ⟨by rfl, ?hy229⟩) hHeld ?rest229
 case hy229 => (rintro W hM; go_simp; (try with_reducible rfl))
 case rest229 =>
 (try simp only [Act.put, gTl, g0l, gSl, sTl, s0l, sSl])
 refine' wpAnyH_take (i := 15) (v := _) rfl (by kernel_rfl) (by kernel_rfl) (by kernel_rfl) (fun _ _ _ h => h) (Or.inl ⟨by rfl, ?hy230⟩) hHeld ?rest230
 case hy230 => (rintro W hM; go_simp; (try with_reducible rfl))
 case rest230 =>
 (try simp only [Act.put, gTl, g0l, gSl, sTl, s0l, sSl])
 refine' wpAnyH_take (i := 16) (v := _) rfl (by kernel_rfl) (by kernel_rfl) (by kernel_rfl) (fun _ _ _ h => h) (Or.inl ⟨by rfl, ?hy231⟩) hHeld ?rest231
 case hy231 => (rintro W hM; go_simp; (try with_reducible rfl))
 case rest231 =>
 (try simp only [Act.put, gTl, g0l, gSl, sTl, s0l, sSl])
 refine' wpAnyH_take (i := 17) (v := _) rfl (by kernel_rfl) (by kernel_rfl) (by kernel_rfl) (fun _ _ _ h => h) (Or.inl ⟨by rfl, ?hy232⟩) hHeld ?rest232
 case hy232 => (rintro W hM; go_simp; (try with_reducible rfl))
 case rest232 =>
 (try simp only [Act.put, gTl, g0l, gSl, sTl, s0l, sSl])
 refine wpAnyH_done (by kernel_rfl) ?_ _
 have BR3 := hid (HBk.out.ext hHeld)
 have HM3 : Hid (Mod [R] w w3) := hid (HMk.out.trans (hHeld.mono (by simp)))
 have HGR : Hid (g ≠ R) := hid (by have h1 := HE3.out.2.1; have h2 := hH0.size; have h3 := HBk.out.lt; omega)
 have HG3 := hid HE3.out.2.2
 clear hHeld HE3 hH0 HQ0 HQ1 HQ2 HZ3 K3 HBk HMk
 go_upto_region 5 with (go_at_call 90; refine (pchk R p s false _ _ BR3.out).mono ?_; rintro x w2 ⟨rfl, hm, hB⟩; have HM := hid hm; have HB := hid hB; clear hm hB)
 have HBk : Hid (Blk w2 R 97 (rdC p s false)) := hid HB.out
 have HMk : Hid (Mod [R] w w2) := hid (HM3.out.trans HM.out)
 have HG4 := hid (fun (W : World) (hW : Mod [R] w2 W) i (v : Value) (h : w3.cell? ⟨g, i, none⟩ = some v) => (((HM.out.trans hW).cell (World.block_lt_of_cell? w3 _ h) (by simpa using HGR.out)).trans h : W.cell? ⟨g, i, none⟩ = some v))
 clear HB HM
 have c20 : w2.cell? ⟨R, 20, none⟩ = some (.bool false) := HBk.out.cell 20
 go_upto_region 6 with fail
 have hB0 : Blk w2.drew R 97 (rdC p s false) := HBk.out
 refine wp_region_held_drew (S := fun w' => Mod [R] w2 w') (by kernel_rfl) (Mod.refl _ _).drew (fun hHeld => ?_)
 generalize w2.drew = u1 at *
 refine' wpAnyH_take (i := 0) (v := _) rfl (by kernel_rfl) (by kernel_rfl) (by kernel_rfl) (fun _ _ _ h => h) (Or.inl ⟨by rfl, ?hy233⟩) hHeld ?rest233
 case hy233 => (rintro W hM; go_simp; (try with_reducible rfl))
 case rest233 =>
 (try simp only [Act.put, gTl, g0l, gSl, sTl, s0l, sSl])
 refine' wpAnyH_take (i := 1) (v := _) rfl (by kernel_rfl) (by kernel_rfl) (by kernel_rfl) (fun _ _ _ h => h) (Or.inl ⟨by rfl, ?hy234⟩) hHeld ?rest234
 case hy234 => (rintro W hM; go_simp; (try with_reducible rfl))
 case rest234 =>
 (try simp only [Act.put, gTl, g0l, gSl, sTl, s0l, sSl])
 refine' wpAnyH_take (i := 2) (v := _) rfl (by kernel_rfl) (by kernel_rfl) (by kernel_rfl) (fun _ _ _ h => h) (Or.inl ⟨by rfl, ?hy235⟩) hHeld ?rest235
 case hy235 => (rintro W hM; go_simp; (try with_reducible rfl))
 case rest235 =>
 (try simp only [Act.put, gTl, g0l, gSl, sTl, s0l, sSl])
 refine' wpAnyH_take (i := 3) (v := _) rfl (by kernel_rfl) (by kernel_rfl) (by kernel_rfl) (fun _ _ _ h => h) (Or.inl ⟨by rfl, ?hy236⟩) hHeld ?rest236
 case hy236 => (rintro W hM; go_simp; (try with_reducible rfl))
 case rest236 =>
 (try simp only [Act.put, gTl, g0l, gSl, sTl, s0l, sSl])
 refine' wpAnyH_take (i := 4) (v := _) rfl (by kernel_rfl) (by kernel_rfl) (by kernel_rfl) (fun _ _ _ h => h) (Or.inl ⟨by rfl, ?hy237⟩) hHeld ?rest237
 case hy237 => (rintro W hM; go_simp; (try with_reducible rfl))
 case rest237 =>
 (try simp only [Act.put, gTl, g0l, gSl, sTl, s0l, sSl])
 refine' wpAnyH_take (i := 5) (v := _) rfl (by kernel_rfl) (by kernel_rfl) (by kernel_rfl) (fun _ _ _ h => h) (Or.inl ⟨by rfl, ?hy238⟩) hHeld ?rest238
 case hy238 => (rintro W hM; have y0 := HG4.out W hM 0 _ HG3.out.1; go_simp; (try with_reducible rfl))
 case rest238 =>
 (try simp only [Act.put, gTl, g0l, gSl, sTl, s0l, sSl])
 refine' wpAnyH_take (i := 6) (v := _) rfl (by kernel_rfl) (by kernel_rfl) (by kernel_rfl) (fun _ _ _ h => h) (Or.inl ⟨by rfl, ?hy239⟩) hHeld ?rest239
 case hy239 => (rintro W hM; go_simp; (try with_reducible rfl))
 case rest239 =>
 (try simp only [Act.put, gTl, g0l, gSl, sTl, s0l, sSl])
 refine' wpAnyH_take (i := 7) (v := _) rfl (by kernel_rfl) (by kernel_rfl) (by kernel_rfl) (fun _ _ _ h => h) (Or.inl ⟨by rfl, ?hy240⟩) hHeld ?rest240
 case hy240 => (rintro W hM; go_simp; (try with_reducible rfl))
 case rest240 =>
 (try simp only [Act.put, gTl, g0l, gSl, sTl, s0l, sSl])
 refine' wpAnyH_take (i := 8) (v := _) rfl (by kernel_rfl) (by kernel_rfl) (by kernel_rfl) (fun _ _ _ h => h) (Or.inl ⟨by rfl, ?hy241⟩) hHeld ?rest241
 case hy241 => (rintro W hM; have y1 := HG4.out W hM 1 _ HG3.out.2.1; go_simp; (try with_reducible rfl))
 case rest241 =>
 (try simp only [Act.put, gTl, g0l, gSl, sTl, s0l, sSl])
 refine' wpAnyH_take (i := 9) (v := _) rfl (by kernel_rfl) (by kernel_rfl) (by kernel_rfl) (fun _ _ _ h => h) (Or.inl ⟨by rfl, ?hy242⟩) hHeld ?rest242
 case hy242 => (rintro W hM; go_simp; (try with_reducible rfl))
 case rest242 =>
 (try simp only [Act.put, gTl, g0l, gSl, sTl, s0l, sSl])
 refine' wpAnyH_take (i := 10) (v := _) rfl (by kernel_rfl) (by kernel_rfl) (by kernel_rfl) (fun _ _ _ h => h) (Or.inl ⟨by rfl, ?hy243⟩) hHeld ?rest243
 case hy243 => (rintro W hM; go_simp; (try with_reducible rfl))
 case rest243 =>
 (try simp only [Act.put, gTl, g0l, gSl, sTl, s0l, sSl])
 refine' wpAnyH_take (i := 11) (v := _) rfl (by kernel_rfl) (by kernel_rfl) (by kernel_rfl) (fun _ _ _ h => h) (Or.inl ⟨by rfl, ?hy244⟩) hHeld ?rest244
 case hy244 => (rintro W hM; have y2 := HG4.out W hM 2 _ HG3.out.2.2; go_simp; (try with_reducible rfl))
 case rest244 =>
 (try simp only [Act.put, gTl, g0l, gSl, sTl, s0l, sSl])
 refine' wpAnyH_take (i := 12) (v := _) rfl (by kernel_rfl) (by kernel_rfl) (by kernel_rfl) (fun _ _ _ h => h) (Or.inl ⟨by rfl, ?hy245⟩) hHeld ?rest245
 case hy245 => (rintro W hM; go_simp; (try with_reducible rfl))
 case rest245 =>
 (try simp only [Act.put, gTl, g0l, gSl, sTl, s0l, sSl])
 refine' wpAnyH_take (i := 13) (v := _) rfl (by kernel_rfl) (by kernel_rfl) (by kernel_rfl) (fun _ _ _ h => h) (Or.inl ⟨by rfl, ?hy246⟩) hHeld ?rest246
 case hy246 => (rintro W hM; go_simp; (try with_reducible rfl))
 case rest246 =>
 (try simp only [Act.put, gTl, g0l, gSl, sTl, s0l, sSl])
 refine' wpAnyH_take (i := 14) (v := _) rfl (by kernel_rfl) (by kernel_rfl) (by kernel_rfl) (fun _ _ _ h => h) (Or.inl ⟨by rfl, ?hy247⟩) hHeld ?rest247
 case hy247 => (rintro W hM; go_simp; (try with_reducible rfl))
 case rest247 =>
 (try simp only [Act.put, gTl, g0l, gSl, sTl, s0l, sSl])
 refine wpAnyH_ready (rs := [15]) (by kernel_rfl) (by simp) ?_
 refine AllReadyH.cons rfl (fun K hK => ?_) AllReadyH.nil
 have c0 : u1.cell? ⟨R, 14, none⟩ = some (.int .u64 (p.t : Int)) := hB0.cell 14
 have f0 : u1.frozen? ⟨R, 14, none⟩ = false := hB0.frozen 14
 go_simp
 have hB1 := hB0.set_ 14 (.int .u64 ((kidT (ch 0) 0).n : Int))
 have hM1 := Mod.setCell hHeld (p := ⟨R, 14, none⟩) (.inl (by simp)) (.int .u64 ((kidT (ch 0) 0).n : Int))
 generalize World.setCell u1 ⟨R, 14, none⟩ (.int .u64 ((kidT (ch 0) 0).n : Int)) = u2 at hB1 hM1 ⊢
 refine hK.out _ _ hM1 (fun hHeld => ?_)
 clear hK K c0 f0 hM1 hB0
 (try simp only [Act.put, gTl, g0l, gSl, sTl, s0l, sSl])
 refine' wpAnyH_take (i := 16) (v := _) rfl (by kernel_rfl) (by kernel_rfl) (by kernel_rfl) (fun _ _ _ h => h) (Or.inl ⟨by rfl, ?hy248⟩) hHeld ?rest248
 case hy248 => (rintro W hM; go_simp; (try with_reducible rfl))
 case rest248 =>
 (try simp only [Act.put, gTl, g0l, gSl, sTl, s0l, sSl])
 refine' wpAnyH_take (i := 17) (v := _) rfl (by kernel_rfl) (by kernel_rfl) (by kernel_rfl) (fun _ _ _ h => h) (Or.inl ⟨by rfl, ?hy249⟩) hHeld ?rest249
 case hy249 => (rintro W hM; go_simp; (try with_reducible rfl))
 case rest249 =>
 (try simp only [Act.put, gTl, g0l, gSl, sTl, s0l, sSl])
 refine' wpAnyH_take (i := 18) (v := _) rfl (by kernel_rfl) (by kernel_rfl) (by kernel_rfl) (fun _ _ _ h => h) (Or.inl ⟨by rfl, ?hy250⟩) hHeld ?rest250
 case hy250 => (rintro W hM; go_simp; (try with_reducible rfl))
 case rest250 =>
 (try simp only [Act.put, gTl, g0l, gSl, sTl, s0l, sSl])
 refine wpAnyH_ready (rs := [19]) (by kernel_rfl) (by simp) ?_
 refine AllReadyH.cons rfl (fun K hK => ?_) AllReadyH.nil
 have c0 : u2.cell? ⟨R, 15, none⟩ = some (.int .u64 (p.q : Int)) := hB1.cell 15
 have f0 : u2.frozen? ⟨R, 15, none⟩ = false := hB1.frozen 15
 go_simp
 have hB2 := hB1.set_ 15 (.int .u64 ((kidT (ch 0) 1).n : Int))
 have hM1 := Mod.setCell hHeld (p := ⟨R, 15, none⟩) (.inl (by simp)) (.int .u64 ((kidT (ch 0) 1).n : Int))
 generalize World.setCell u2 ⟨R, 15, none⟩ (.int .u64 ((kidT (ch 0) 1).n : Int)) = u3 at hB2 hM1 ⊢
 refine hK.out _ _ hM1 (fun hHeld => ?_)
 clear hK K c0 f0 hM1 hB1
 (try simp only [Act.put, gTl, g0l, gSl, sTl, s0l, sSl])
 refine' wpAnyH_take (i := 20) (v := _) rfl (by kernel_rfl) (by kernel_rfl) (by kernel_rfl) (fun _ _ _ h => h) (Or.inl ⟨by rfl, ?hy251⟩) hHeld ?rest251
 case hy251 => (rintro W hM; go_simp; (try with_reducible rfl))
 case rest251 =>
 (try simp only [Act.put, gTl, g0l, gSl, sTl, s0l, sSl])
 refine' wpAnyH_take (i := 21) (v := _) rfl (by kernel_rfl) (by kernel_rfl) (by kernel_rfl) (fun _ _ _ h => h) (Or.inl ⟨by rfl, ?hy252⟩) hHeld ?rest252
 case hy252 => (rintro W hM; go_simp; (try with_reducible rfl))
 case rest252 =>
 (try simp only [Act.put, gTl, g0l, gSl, sTl, s0l, sSl])
 refine' wpAnyH_take (i := 22) (v := _) rfl (by kernel_rfl) (by kernel_rfl) (by kernel_rfl) (fun _ _ _ h => h) (Or.inl ⟨by rfl, ?hy253⟩) hHeld ?rest253
 case hy253 => (rintro W hM; go_simp; (try with_reducible rfl))
 case rest253 =>
 (try simp only [Act.put, gTl, g0l, gSl, sTl, s0l, sSl])
 refine wpAnyH_ready (rs := [23]) (by kernel_rfl) (by simp) ?_
 refine AllReadyH.cons rfl (fun K hK => ?_) AllReadyH.nil
 have c0 : u3.cell? ⟨R, 16, none⟩ = some (.int .u64 (p.l : Int)) := hB2.cell 16
 have f0 : u3.frozen? ⟨R, 16, none⟩ = false := hB2.frozen 16
 go_simp
 have hB3 := hB2.set_ 16 (.int .u64 ((ch 1).n : Int))
 have hM1 := Mod.setCell hHeld (p := ⟨R, 16, none⟩) (.inl (by simp)) (.int .u64 ((ch 1).n : Int))
 generalize World.setCell u3 ⟨R, 16, none⟩ (.int .u64 ((ch 1).n : Int)) = u4 at hB3 hM1 ⊢
 refine hK.out _ _ hM1 (fun hHeld => ?_)
 clear hK K c0 f0 hM1 hB2
 (try simp only [Act.put, gTl, g0l, gSl, sTl, s0l, sSl])
 refine wpAnyH_done (by kernel_rfl) ?_ _
 have BR4 : Hid (Blk u4 R 97 (rdC (tqlR p ch) s false)) := hid hB3
 have HM4 : Hid (Mod [R] w u4) := hid (HMk.out.trans hHeld)
 clear hHeld HG3 HG4 hB3 HGR HBk HMk c20 BR3 HM3
 have hbits : bits .and .u64 (p.fl : Int) 1 = if p.fl % 2 = 1 then 1 else 0 := by
  have hb := u64_and_powP p.fl 0 HFL.out (by decide)
  rw [Nat.pow_zero, Nat.div_one] at hb
  exact hb
 by_cases hfr : p.fl % 2 = 1
 case neg =>
  have HFR := hid hfr
  obtain ⟨hk, hm, hcr⟩ := HKM.out
  rw [if_neg hfr] at hk
  have h01 : m = 0 ∨ m = 1 := by omega
  rcases h01 with rfl | rfl
  ·
   obtain rfl : k = 2 := hk
   clear hfr hm hcr HKM
   by_cases hc2 : c = 2
   case pos =>
    have hb' : bits .and .u64 (p.fl : Int) 1 = 0 := by rw [hbits, if_neg HFR.out]
    have x0 : u4.cell? ⟨R, 0, none⟩ = some (.int .u64 (p.fl : Int)) := BR4.out.cell 0
    have BR := BR4
    have HMT := HM4
    clear hbits BR4 HM4
    have hce : (c = 2) = True := eq_true hc2
    clear hc2
    go_wp2_with fail
    refine bodyPost_ret (results_none rfl _ _ _) rfl ?_
    have hr : restR p s 2 ch = ((tqlR p ch), s, false) := by unfold restR; rw [if_neg (by rw [HW.out]; decide), if_neg (fun h => h HN.out), if_neg HFR.out]; exact rfl
    rw [hr]
    exact ⟨rfl, HMT.out, BR.out⟩
   have hb' : bits .and .u64 (p.fl : Int) 1 = 0 := by rw [hbits, if_neg HFR.out]
   have x0 : u4.cell? ⟨R, 0, none⟩ = some (.int .u64 (p.fl : Int)) := BR4.out.cell 0
   have BR := BR4
   have HMT := HM4
   clear hbits BR4 HM4
   have hce : (c = 2) = False := eq_false hc2
   clear hc2
   go_wp2_with fail
   refine bodyPost_ret (results_none rfl _ _ _) rfl ?_
   have hr : restR p s 2 ch = ((tqlR p ch), s, false) := by unfold restR; rw [if_neg (by rw [HW.out]; decide), if_neg (fun h => h HN.out), if_neg HFR.out]; exact rfl
   rw [hr]
   exact ⟨rfl, HMT.out, BR.out⟩
  ·
   obtain rfl : k = 3 := hk
   have HCR := hid (hcr rfl)
   clear hfr hm hcr HKM
   have hb' : bits .and .u64 (p.fl : Int) 1 = 0 := by rw [hbits, if_neg HFR.out]
   have x0 : u4.cell? ⟨R, 0, none⟩ = some (.int .u64 (p.fl : Int)) := BR4.out.cell 0
   have BR := BR4
   have HMT := HM4
   clear hbits BR4 HM4
   have hce : (c = 2) = False := eq_false (by have := HKC.out; omega)
   go_upto_region 15 with fail
   have HQS : Hid (∀ W, Mod [R] u4 W → At5 W b (o + 10) (ch 2) (ac 2).1 (ac 2).2) := hid (fun W hM => by have := HC.out W (HMT.out.trans hM) 2 (by decide); simpa using this)
   obtain ⟨cr, hcr, hcr2⟩ := HCR.out
   obtain ⟨N2, hN2⟩ : ∃ N, N = 2 * cr := ⟨_, rfl⟩
   have KS : Hid (∀ W, Calls Tryz.prog 105 #[.int .i64 (cr : Int)] W (Ret (.int .i64 (N2 : Int)) W)) := hid (fun W => by rw [hN2]; exact Size_any cr (by omega) W)
   have HCRE := hid hcr
   have HNE := hid hN2
   clear hcr hcr2 hN2
   by_cases hkS : (ch 2).kind = 2
   case neg =>
    have HBAD : Hid ((!(decide ((ch 2).kind = 2) && decide (((ch 2).s.length : Int) = 2 * (tqlR p ch).crc))) = true) := hid (by rw [decide_eq_false hkS]; rfl)
    have tua : (((ch 2).kind) == (2)) = false := by rw [beq_eq_false_iff_ne]; exact hkS
    have tub : (((ch 2).kind) = (2)) = False := eq_false (by exact hkS)
    have tuc : (((ch 2).kind) != (2)) = true := by rw [bne_iff_ne]; exact hkS
    clear hkS
    have hB0 : Blk u4.drew R 97 (rdC (tqlR p ch) s false) := BR.out
    refine wp_region_held_drew (S := fun w' => Mod [R] u4 w') (by kernel_rfl) (Mod.refl _ _).drew (fun hHeld => ?_)
    generalize u4.drew = v0 at *
    refine' wpAnyH_take (i := 0) (v := _) rfl (by kernel_rfl) (by kernel_rfl) (by kernel_rfl) (fun _ _ _ h => h) (Or.inl ⟨by rfl, ?hy1⟩) hHeld ?rest1
    case hy1 => (rintro W hM; go_simp; (try with_reducible rfl))
    case rest1 =>
    (try simp only [Act.put, gTl, g0l, gSl, sTl, s0l, sSl])
    refine' wpAnyH_take (i := 1) (v := _) rfl (by kernel_rfl) (by kernel_rfl) (by kernel_rfl) (fun _ _ _ h => h) (Or.inl ⟨by rfl, ?hy2⟩) hHeld ?rest2
    case hy2 => (rintro W hM; go_simp; (try with_reducible rfl))
    case rest2 =>
    (try simp only [Act.put, gTl, g0l, gSl, sTl, s0l, sSl])
    refine' wpAnyH_take (i := 2) (v := _) rfl (by kernel_rfl) (by kernel_rfl) (by kernel_rfl) (fun _ _ _ h => h) (Or.inl ⟨by rfl, ?hy3⟩) hHeld ?rest3
    case hy3 => (rintro W hM; go_simp; (try with_reducible rfl))
    case rest3 =>
    (try simp only [Act.put, gTl, g0l, gSl, sTl, s0l, sSl])
    refine' wpAnyH_take (i := 3) (v := _) rfl (by kernel_rfl) (by kernel_rfl) (by kernel_rfl) (fun _ _ _ h => h) (Or.inl ⟨by rfl, ?hy4⟩) hHeld ?rest4
    case hy4 => (rintro W hM; go_simp; (try with_reducible rfl))
    case rest4 =>
    (try simp only [Act.put, gTl, g0l, gSl, sTl, s0l, sSl])
    refine' wpAnyH_take (i := 4) (v := _) rfl (by kernel_rfl) (by kernel_rfl) (by kernel_rfl) (fun _ _ _ h => h) (Or.inl ⟨by rfl, ?hy5⟩) hHeld ?rest5
    case hy5 => (rintro W hM; obtain ⟨q0, q1, q2, q3, q4⟩ := HQS.out W hM; go_simp; (try with_reducible rfl))
    case rest5 =>
    (try simp only [Act.put, gTl, g0l, gSl, sTl, s0l, sSl])
    refine' wpAnyH_take (i := 5) (v := _) rfl (by kernel_rfl) (by kernel_rfl) (by kernel_rfl) (fun _ _ _ h => h) (Or.inl ⟨by rfl, ?hy6⟩) hHeld ?rest6
    case hy6 => (rintro W hM; go_simp; (try with_reducible rfl))
    case rest6 =>
    (try simp only [Act.put, gTl, g0l, gSl, sTl, s0l, sSl])
    refine' wpAnyH_take (i := 6) (v := _) rfl (by kernel_rfl) (by kernel_rfl) (by kernel_rfl) (fun _ _ _ h => h) (Or.inl ⟨by rfl, ?hy7⟩) hHeld ?rest7
    case hy7 => (rintro W hM; go_simp; (try with_reducible rfl))
    case rest7 =>
    (try simp only [Act.put, gTl, g0l, gSl, sTl, s0l, sSl])
    refine wpAnyH_take (i := 7) (v := undef) rfl (by kernel_rfl) (by kernel_rfl) (by kernel_rfl) (fun _ _ _ h => h) (Or.inr ⟨by rfl, rfl⟩) hHeld ?_
    (try simp only [Act.put, gTl, g0l, gSl, sTl, s0l, sSl])
    refine wpAnyH_take (i := 8) (v := undef) rfl (by kernel_rfl) (by kernel_rfl) (by kernel_rfl) (fun _ _ _ h => h) (Or.inr ⟨by rfl, rfl⟩) hHeld ?_
    (try simp only [Act.put, gTl, g0l, gSl, sTl, s0l, sSl])
    refine wpAnyH_take (i := 9) (v := undef) rfl (by kernel_rfl) (by kernel_rfl) (by kernel_rfl) (fun _ _ _ h => h) (Or.inr ⟨by rfl, rfl⟩) hHeld ?_
    (try simp only [Act.put, gTl, g0l, gSl, sTl, s0l, sSl])
    refine wpAnyH_take (i := 10) (v := undef) rfl (by kernel_rfl) (by kernel_rfl) (by kernel_rfl) (fun _ _ _ h => h) (Or.inr ⟨by rfl, rfl⟩) hHeld ?_
    (try simp only [Act.put, gTl, g0l, gSl, sTl, s0l, sSl])
    refine wpAnyH_take (i := 11) (v := undef) rfl (by kernel_rfl) (by kernel_rfl) (by kernel_rfl) (fun _ _ _ h => h) (Or.inr ⟨by rfl, rfl⟩) hHeld ?_
    (try simp only [Act.put, gTl, g0l, gSl, sTl, s0l, sSl])
    refine wpAnyH_take (i := 12) (v := undef) rfl (by kernel_rfl) (by kernel_rfl) (by kernel_rfl) (fun _ _ _ h => h) (Or.inr ⟨by rfl, rfl⟩) hHeld ?_
    (try simp only [Act.put, gTl, g0l, gSl, sTl, s0l, sSl])
    refine wpAnyH_take (i := 13) (v := undef) rfl (by kernel_rfl) (by kernel_rfl) (by kernel_rfl) (fun _ _ _ h => h) (Or.inr ⟨by rfl, rfl⟩) hHeld ?_
    (try simp only [Act.put, gTl, g0l, gSl, sTl, s0l, sSl])
    refine wpAnyH_take (i := 14) (v := undef) rfl (by kernel_rfl) (by kernel_rfl) (by kernel_rfl) (fun _ _ _ h => h) (Or.inr ⟨by rfl, rfl⟩) hHeld ?_
    (try simp only [Act.put, gTl, g0l, gSl, sTl, s0l, sSl])
    refine wpAnyH_take (i := 15) (v := undef) rfl (by kernel_rfl) (by kernel_rfl) (by kernel_rfl) (fun _ _ _ h => h) (Or.inr ⟨by rfl, rfl⟩) hHeld ?_
    (try simp only [Act.put, gTl, g0l, gSl, sTl, s0l, sSl])
    refine wpAnyH_take (i := 16) (v := undef) rfl (by kernel_rfl) (by kernel_rfl) (by kernel_rfl) (fun _ _ _ h => h) (Or.inr ⟨by rfl, rfl⟩) hHeld ?_
    (try simp only [Act.put, gTl, g0l, gSl, sTl, s0l, sSl])
    refine wpAnyH_take (i := 17) (v := undef) rfl (by kernel_rfl) (by kernel_rfl) (by kernel_rfl) (fun _ _ _ h => h) (Or.inr ⟨by rfl, rfl⟩) hHeld ?_
    (try simp only [Act.put, gTl, g0l, gSl, sTl, s0l, sSl])
    refine wpAnyH_take (i := 18) (v := undef) rfl (by kernel_rfl) (by kernel_rfl) (by kernel_rfl) (fun _ _ _ h => h) (Or.inr ⟨by rfl, rfl⟩) hHeld ?_
    (try simp only [Act.put, gTl, g0l, gSl, sTl, s0l, sSl])
    refine' wpAnyH_take (i := 19) (v := _) rfl (by kernel_rfl) (by kernel_rfl) (by kernel_rfl) (fun _ _ _ h => h) (Or.inl ⟨by rfl, ?hy8⟩) hHeld ?rest8
    case hy8 => (rintro W hM; go_simp; (try with_reducible rfl))
    case rest8 =>
    (try simp only [Act.put, gTl, g0l, gSl, sTl, s0l, sSl])
    refine wpAnyH_ready (rs := [20]) (by kernel_rfl) (by simp) ?_
    refine AllReadyH.cons rfl (fun K hK => ?_) AllReadyH.nil
    go_simp
    go_at_call 90
    refine (pchk R (tqlR p ch) s false _ _ hB0).mono ?_
    rintro e v2 ⟨rfl, hm, hB⟩
    refine hK.out _ _ (hHeld.trans hm) (fun hHeld => ?_)
    clear hK K
    (try simp only [Act.put, gTl, g0l, gSl, sTl, s0l, sSl])
    refine wpAnyH_done (by kernel_rfl) ?_ _
    have BC : Hid (Blk v2 R 97 (rdC (tqlR p ch) s true)) := hid hB
    have HQ2 := hid (HQS.out v2 hHeld)
    have HM5 : Hid (Mod [R] w v2) := hid (HMT.out.trans hHeld)
    clear hHeld hm hB hB0 HQS BR HMT
    obtain ⟨q0, q1, q2, q3, q4⟩ := HQ2.out
    have c19 : v2.cell? ⟨R, 19, none⟩ = some (str s) := BC.out.cell 19
    have f19 : v2.frozen? ⟨R, 19, none⟩ = false := BC.out.frozen 19
    have BT : Hid (Blk (v2.setCell ⟨R, 19, none⟩ (str (ch 2).s)) R 97 (rdC (tqlR p ch) (ch 2).s true)) := hid (BC.out.set_ 19 _)
    have HMT : Hid (Mod [R] w (v2.setCell ⟨R, 19, none⟩ (str (ch 2).s))) := hid (HM5.out.setCell (.inl (by simp)) _)
    clear BC HM5 HQ2
    go_wp2_with fail
    refine bodyPost_ret (results_none rfl _ _ _) rfl ?_
    have hr : restR p s 3 ch = ((tqlR p ch), (ch 2).s, true) := by unfold restR; rw [if_neg (by rw [HW.out]; decide), if_neg (fun h => h HN.out), if_neg HFR.out]; exact (by unfold sumR; rw [if_neg (by decide)]; simp only [Prod.mk.injEq, true_and]; exact HBAD.out)
    rw [hr]
    exact ⟨rfl, HMT.out, BT.out⟩
   by_cases hlS : (ch 2).s.length = N2
   case neg =>
    have HBAD : Hid ((!(decide ((ch 2).kind = 2) && decide (((ch 2).s.length : Int) = 2 * (tqlR p ch).crc))) = true) := hid (by rw [decide_eq_false (show ¬ ((ch 2).s.length : Int) = 2 * (tqlR p ch).crc from fun h => hlS (by have h1 := HCRE.out; have h2 := HNE.out; have h3 : (tqlR p ch).crc = p.crc := rfl; omega))]; simp)
    have tua : (((ch 2).kind) == (2)) = true := by rw [beq_iff_eq]; exact hkS
    have tub : (((ch 2).kind) = (2)) = True := eq_true (by exact hkS)
    have tuc : (((ch 2).kind) != (2)) = false := by rw [bne_eq_false_iff_eq]; exact hkS
    have tva : (((ch 2).s.length) == (N2)) = false := by rw [beq_eq_false_iff_ne]; exact hlS
    have tvb : (((ch 2).s.length) = (N2)) = False := eq_false (by exact hlS)
    have tvc : (((ch 2).s.length) != (N2)) = true := by rw [bne_iff_ne]; exact hlS
    have twa : ((((ch 2).s.length : Int)) == ((N2 : Int))) = false := by rw [beq_eq_false_iff_ne]; omega
    have twb : ((((ch 2).s.length : Int)) = ((N2 : Int))) = False := eq_false (by omega)
    have twc : ((((ch 2).s.length : Int)) != ((N2 : Int))) = true := by rw [bne_iff_ne]; omega
    clear hkS hlS
    have hB0 : Blk u4.drew R 97 (rdC (tqlR p ch) s false) := BR.out
    refine wp_region_held_drew (S := fun w' => Mod [R] u4 w' ∧ w'.cell? ⟨R, 1, none⟩ = some (.int .i64 (cr : Int))) (by kernel_rfl) ⟨(Mod.refl _ _).drew, (by have h1 : _ = some (Value.int .i64 p.crc) := (hB0).cell 1; rw [HCRE.out] at h1; exact h1)⟩ (fun hHeld => ?_)
    generalize u4.drew = v0 at *
    refine' wpAnyH_take (i := 0) (v := _) rfl (by kernel_rfl) (by kernel_rfl) (by kernel_rfl) (fun _ _ _ h => h) (Or.inl ⟨by rfl, ?hy9⟩) hHeld ?rest9
    case hy9 => (rintro W ⟨hM, x1⟩; go_simp; (try with_reducible rfl))
    case rest9 =>
    (try simp only [Act.put, gTl, g0l, gSl, sTl, s0l, sSl])
    refine' wpAnyH_take (i := 1) (v := _) rfl (by kernel_rfl) (by kernel_rfl) (by kernel_rfl) (fun _ _ _ h => h) (Or.inl ⟨by rfl, ?hy10⟩) hHeld ?rest10
    case hy10 => (rintro W ⟨hM, x1⟩; go_simp; (try with_reducible rfl))
    case rest10 =>
    (try simp only [Act.put, gTl, g0l, gSl, sTl, s0l, sSl])
    refine' wpAnyH_take (i := 2) (v := _) rfl (by kernel_rfl) (by kernel_rfl) (by kernel_rfl) (fun _ _ _ h => h) (Or.inl ⟨by rfl, ?hy11⟩) hHeld ?rest11
    case hy11 => (rintro W ⟨hM, x1⟩; go_simp; (try with_reducible rfl))
    case rest11 =>
    (try simp only [Act.put, gTl, g0l, gSl, sTl, s0l, sSl])
    refine' wpAnyH_take (i := 3) (v := _) rfl (by kernel_rfl) (by kernel_rfl) (by kernel_rfl) (fun _ _ _ h => h) (Or.inl ⟨by rfl, ?hy12⟩) hHeld ?rest12
    case hy12 => (rintro W ⟨hM, x1⟩; go_simp; (try with_reducible rfl))
    case rest12 =>
    (try simp only [Act.put, gTl, g0l, gSl, sTl, s0l, sSl])
    refine' wpAnyH_take (i := 4) (v := _) rfl (by kernel_rfl) (by kernel_rfl) (by kernel_rfl) (fun _ _ _ h => h) (Or.inl ⟨by rfl, ?hy13⟩) hHeld ?rest13
    case hy13 => (rintro W ⟨hM, x1⟩; obtain ⟨q0, q1, q2, q3, q4⟩ := HQS.out W hM; go_simp; (try with_reducible rfl))
    case rest13 =>
    (try simp only [Act.put, gTl, g0l, gSl, sTl, s0l, sSl])
    refine' wpAnyH_take (i := 5) (v := _) rfl (by kernel_rfl) (by kernel_rfl) (by kernel_rfl) (fun _ _ _ h => h) (Or.inl ⟨by rfl, ?hy14⟩) hHeld ?rest14
    case hy14 => (rintro W ⟨hM, x1⟩; go_simp; (try with_reducible rfl))
    case rest14 =>
    (try simp only [Act.put, gTl, g0l, gSl, sTl, s0l, sSl])
    refine' wpAnyH_take (i := 6) (v := _) rfl (by kernel_rfl) (by kernel_rfl) (by kernel_rfl) (fun _ _ _ h => h) (Or.inl ⟨by rfl, ?hy15⟩) hHeld ?rest15
    case hy15 => (rintro W ⟨hM, x1⟩; go_simp; (try with_reducible rfl))
    case rest15 =>
    (try simp only [Act.put, gTl, g0l, gSl, sTl, s0l, sSl])
    refine' wpAnyH_take (i := 7) (v := _) rfl (by kernel_rfl) (by kernel_rfl) (by kernel_rfl) (fun _ _ _ h => h) (Or.inl ⟨by rfl, ?hy16⟩) hHeld ?rest16
    case hy16 => (rintro W ⟨hM, x1⟩; go_simp; (try with_reducible rfl))
    case rest16 =>
    (try simp only [Act.put, gTl, g0l, gSl, sTl, s0l, sSl])
    refine' wpAnyH_take (i := 8) (v := _) rfl (by kernel_rfl) (by kernel_rfl) (by kernel_rfl) (fun _ _ _ h => h) (Or.inl ⟨by rfl, ?hy17⟩) hHeld ?rest17
    case hy17 => (rintro W ⟨hM, x1⟩; go_simp; (try with_reducible rfl))
    case rest17 =>
    (try simp only [Act.put, gTl, g0l, gSl, sTl, s0l, sSl])
    refine' wpAnyH_take (i := 9) (v := _) rfl (by kernel_rfl) (by kernel_rfl) (by kernel_rfl) (fun _ _ _ h => h) (Or.inl ⟨by rfl, ?hy18⟩) hHeld ?rest18
    case hy18 => (rintro W ⟨hM, x1⟩; go_simp; (try with_reducible rfl))
    case rest18 =>
    (try simp only [Act.put, gTl, g0l, gSl, sTl, s0l, sSl])
    refine' wpAnyH_take (i := 10) (v := _) rfl (by kernel_rfl) (by kernel_rfl) (by kernel_rfl) (fun _ _ _ h => h) (Or.inl ⟨by rfl, ?hy19⟩) hHeld ?rest19
    case hy19 => (rintro W ⟨hM, x1⟩; obtain ⟨q0, q1, q2, q3, q4⟩ := HQS.out W hM; go_simp; (try with_reducible rfl))
    case rest19 =>
    (try simp only [Act.put, gTl, g0l, gSl, sTl, s0l, sSl])
    refine' wpAnyH_take (i := 11) (v := _) rfl (by kernel_rfl) (by kernel_rfl) (by kernel_rfl) (fun _ _ _ h => h) (Or.inl ⟨by rfl, ?hy20⟩) hHeld ?rest20
    case hy20 => (rintro W ⟨hM, x1⟩; go_simp; (try with_reducible rfl))
    case rest20 =>
    (try simp only [Act.put, gTl, g0l, gSl, sTl, s0l, sSl])
    refine' wpAnyH_take (i := 12) (v := _) rfl (by kernel_rfl) (by kernel_rfl) (by kernel_rfl) (fun _ _ _ h => h) (Or.inl ⟨by rfl, ?hy21⟩) hHeld ?rest21
    case hy21 => (rintro W ⟨hM, x1⟩; go_simp; (try with_reducible rfl))
    case rest21 =>
    (try simp only [Act.put, gTl, g0l, gSl, sTl, s0l, sSl])
    refine' wpAnyH_take (i := 13) (v := _) rfl (by kernel_rfl) (by kernel_rfl) (by kernel_rfl) (fun _ _ _ h => h) (Or.inl ⟨by rfl, ?hy22⟩) hHeld ?rest22
    case hy22 => (rintro W ⟨hM, x1⟩; go_simp; (try with_reducible rfl))
    case rest22 =>
    (try simp only [Act.put, gTl, g0l, gSl, sTl, s0l, sSl])
    refine' wpAnyH_take (i := 14) (v := _) rfl (by kernel_rfl) (by kernel_rfl) (by kernel_rfl) (fun _ _ _ h => h) (Or.inl ⟨by rfl, ?hy23⟩) hHeld ?rest23
    case hy23 => (rintro W ⟨hM, x1⟩; go_simp; (try with_reducible rfl))
    case rest23 =>
    (try simp only [Act.put, gTl, g0l, gSl, sTl, s0l, sSl])
    refine' wpAnyH_take (i := 15) (v := _) rfl (by kernel_rfl) (by kernel_rfl) (by kernel_rfl) (fun _ _ _ h => h) (Or.inl ⟨by rfl, ?hy24⟩) hHeld ?rest24
    case hy24 => (rintro W ⟨hM, x1⟩; go_simp; (try with_reducible rfl))
    case rest24 =>
    (try simp only [Act.put, gTl, g0l, gSl, sTl, s0l, sSl])
    refine' wpAnyH_take (i := 16) (v := _) rfl (by kernel_rfl) (by kernel_rfl) (by kernel_rfl) (fun _ _ _ h => h) (Or.inl ⟨by rfl, ?hy25⟩) hHeld ?rest25
    case hy25 => (rintro W ⟨hM, x1⟩; go_simp; (try with_reducible rfl))
    case rest25 =>
    (try simp only [Act.put, gTl, g0l, gSl, sTl, s0l, sSl])
    refine wpAnyH_ready (rs := [17]) (by kernel_rfl) (by simp) ?_
    refine AllReadyH.cons rfl (fun K hK => ?_) AllReadyH.nil
    go_simp
    go_at_call 105
    refine (KS.out _).mono ?_
    rintro e v1 ⟨rfl, hE⟩
    have hB1 := hB0.ext hE
    refine hK.out _ _ ⟨hHeld.1.trans (hE.mono (by simp)), (by have h1 : _ = some (Value.int .i64 p.crc) := (hB1).cell 1; rw [HCRE.out] at h1; exact h1)⟩ (fun hHeld => ?_)
    clear hK K
    (try simp only [Act.put, gTl, g0l, gSl, sTl, s0l, sSl])
    refine' wpAnyH_take (i := 18) (v := _) rfl (by kernel_rfl) (by kernel_rfl) (by kernel_rfl) (fun _ _ _ h => h) (Or.inl ⟨by rfl, ?hy26⟩) hHeld ?rest26
    case hy26 => (rintro W ⟨hM, x1⟩; go_simp; (try with_reducible rfl))
    case rest26 =>
    (try simp only [Act.put, gTl, g0l, gSl, sTl, s0l, sSl])
    refine' wpAnyH_take (i := 19) (v := _) rfl (by kernel_rfl) (by kernel_rfl) (by kernel_rfl) (fun _ _ _ h => h) (Or.inl ⟨by rfl, ?hy27⟩) hHeld ?rest27
    case hy27 => (rintro W ⟨hM, x1⟩; go_simp; (try with_reducible rfl))
    case rest27 =>
    (try simp only [Act.put, gTl, g0l, gSl, sTl, s0l, sSl])
    refine wpAnyH_ready (rs := [20]) (by kernel_rfl) (by simp) ?_
    refine AllReadyH.cons rfl (fun K hK => ?_) AllReadyH.nil
    go_simp
    go_at_call 90
    refine (pchk R (tqlR p ch) s false _ _ hB1).mono ?_
    rintro e v2 ⟨rfl, hm, hB⟩
    refine hK.out _ _ ⟨hHeld.1.trans hm, (by have h1 : _ = some (Value.int .i64 p.crc) := (hB).cell 1; rw [HCRE.out] at h1; exact h1)⟩ (fun hHeld => ?_)
    clear hK K
    (try simp only [Act.put, gTl, g0l, gSl, sTl, s0l, sSl])
    refine wpAnyH_done (by kernel_rfl) ?_ _
    have hHeld := hHeld.1
    have BC : Hid (Blk v2 R 97 (rdC (tqlR p ch) s true)) := hid hB
    have HQ2 := hid (HQS.out v2 hHeld)
    have HM5 : Hid (Mod [R] w v2) := hid (HMT.out.trans hHeld)
    clear hHeld hm hB hB1 HQS BR HMT hB0 hE
    obtain ⟨q0, q1, q2, q3, q4⟩ := HQ2.out
    have c19 : v2.cell? ⟨R, 19, none⟩ = some (str s) := BC.out.cell 19
    have f19 : v2.frozen? ⟨R, 19, none⟩ = false := BC.out.frozen 19
    have BT : Hid (Blk (v2.setCell ⟨R, 19, none⟩ (str (ch 2).s)) R 97 (rdC (tqlR p ch) (ch 2).s true)) := hid (BC.out.set_ 19 _)
    have HMT : Hid (Mod [R] w (v2.setCell ⟨R, 19, none⟩ (str (ch 2).s))) := hid (HM5.out.setCell (.inl (by simp)) _)
    clear BC HM5 HQ2
    go_wp2_with fail
    refine bodyPost_ret (results_none rfl _ _ _) rfl ?_
    have hr : restR p s 3 ch = ((tqlR p ch), (ch 2).s, true) := by unfold restR; rw [if_neg (by rw [HW.out]; decide), if_neg (fun h => h HN.out), if_neg HFR.out]; exact (by unfold sumR; rw [if_neg (by decide)]; simp only [Prod.mk.injEq, true_and]; exact HBAD.out)
    rw [hr]
    exact ⟨rfl, HMT.out, BT.out⟩
   have HBAD : Hid ((!(decide ((ch 2).kind = 2) && decide (((ch 2).s.length : Int) = 2 * (tqlR p ch).crc))) = false) := hid (by rw [decide_eq_true hkS, decide_eq_true (show ((ch 2).s.length : Int) = 2 * (tqlR p ch).crc by have h1 := HCRE.out; have h2 := HNE.out; have h3 : (tqlR p ch).crc = p.crc := rfl; omega)]; rfl)
   have tua : (((ch 2).kind) == (2)) = true := by rw [beq_iff_eq]; exact hkS
   have tub : (((ch 2).kind) = (2)) = True := eq_true (by exact hkS)
   have tuc : (((ch 2).kind) != (2)) = false := by rw [bne_eq_false_iff_eq]; exact hkS
   have tva : (((ch 2).s.length) == (N2)) = true := by rw [beq_iff_eq]; exact hlS
   have tvb : (((ch 2).s.length) = (N2)) = True := eq_true (by exact hlS)
   have tvc : (((ch 2).s.length) != (N2)) = false := by rw [bne_eq_false_iff_eq]; exact hlS
   have twa : ((((ch 2).s.length : Int)) == ((N2 : Int))) = true := by rw [beq_iff_eq]; omega
   have twb : ((((ch 2).s.length : Int)) = ((N2 : Int))) = True := eq_true (by omega)
   have twc : ((((ch 2).s.length : Int)) != ((N2 : Int))) = false := by rw [bne_eq_false_iff_eq]; omega
   clear hkS hlS
   have hB0 : Blk u4.drew R 97 (rdC (tqlR p ch) s false) := BR.out
   refine wp_region_held_drew (S := fun w' => Mod [R] u4 w' ∧ w'.cell? ⟨R, 1, none⟩ = some (.int .i64 (cr : Int))) (by kernel_rfl) ⟨(Mod.refl _ _).drew, (by have h1 : _ = some (Value.int .i64 p.crc) := (hB0).cell 1; rw [HCRE.out] at h1; exact h1)⟩ (fun hHeld => ?_)
   generalize u4.drew = v0 at *
   refine' wpAnyH_take (i := 0) (v := _) rfl (by kernel_rfl) (by kernel_rfl) (by kernel_rfl) (fun _ _ _ h => h) (Or.inl ⟨by rfl, ?hy28⟩) hHeld ?rest28
   case hy28 => (rintro W ⟨hM, x1⟩; go_simp; (try with_reducible rfl))
   case rest28 =>
   (try simp only [Act.put, gTl, g0l, gSl, sTl, s0l, sSl])
   refine' wpAnyH_take (i := 1) (v := _) rfl (by kernel_rfl) (by kernel_rfl) (by kernel_rfl) (fun _ _ _ h => h) (Or.inl ⟨by rfl, ?hy29⟩) hHeld ?rest29
   case hy29 => (rintro W ⟨hM, x1⟩; go_simp; (try with_reducible rfl))
   case rest29 =>
   (try simp only [Act.put, gTl, g0l, gSl, sTl, s0l, sSl])
   refine' wpAnyH_take (i := 2) (v := _) rfl (by kernel_rfl) (by kernel_rfl) (by kernel_rfl) (fun _ _ _ h => h) (Or.inl ⟨by rfl, ?hy30⟩) hHeld ?rest30
   case hy30 => (rintro W ⟨hM, x1⟩; go_simp; (try with_reducible rfl))
   case rest30 =>
   (try simp only [Act.put, gTl, g0l, gSl, sTl, s0l, sSl])
   refine' wpAnyH_take (i := 3) (v := _) rfl (by kernel_rfl) (by kernel_rfl) (by kernel_rfl) (fun _ _ _ h => h) (Or.inl ⟨by rfl, ?hy31⟩) hHeld ?rest31
   case hy31 => (rintro W ⟨hM, x1⟩; go_simp; (try with_reducible rfl))
   case rest31 =>
   (try simp only [Act.put, gTl, g0l, gSl, sTl, s0l, sSl])
   refine' wpAnyH_take (i := 4) (v := _) rfl (by kernel_rfl) (by kernel_rfl) (by kernel_rfl) (fun _ _ _ h => h) (Or.inl ⟨by rfl, ?hy32⟩) hHeld ?rest32
   case hy32 => (rintro W ⟨hM, x1⟩; obtain ⟨q0, q1, q2, q3, q4⟩ := HQS.out W hM; go_simp; (try with_reducible rfl))
   case rest32 =>
   (try simp only [Act.put, gTl, g0l, gSl, sTl, s0l, sSl])
   refine' wpAnyH_take (i := 5) (v := _) rfl (by kernel_rfl) (by kernel_rfl) (by kernel_rfl) (fun _ _ _ h => h) (Or.inl ⟨by rfl, ?hy33⟩) hHeld ?rest33
   case hy33 => (rintro W ⟨hM, x1⟩; go_simp; (try with_reducible rfl))
   case rest33 =>
   (try simp only [Act.put, gTl, g0l, gSl, sTl, s0l, sSl])
   refine' wpAnyH_take (i := 6) (v := _) rfl (by kernel_rfl) (by kernel_rfl) (by kernel_rfl) (fun _ _ _ h => h) (Or.inl ⟨by rfl, ?hy34⟩) hHeld ?rest34
   case hy34 => (rintro W ⟨hM, x1⟩; go_simp; (try with_reducible rfl))
   case rest34 =>
   (try simp only [Act.put, gTl, g0l, gSl, sTl, s0l, sSl])
   refine' wpAnyH_take (i := 7) (v := _) rfl (by kernel_rfl) (by kernel_rfl) (by kernel_rfl) (fun _ _ _ h => h) (Or.inl ⟨by rfl, ?hy35⟩) hHeld ?rest35
   case hy35 => (rintro W ⟨hM, x1⟩; go_simp; (try with_reducible rfl))
   case rest35 =>
   (try simp only [Act.put, gTl, g0l, gSl, sTl, s0l, sSl])
   refine' wpAnyH_take (i := 8) (v := _) rfl (by kernel_rfl) (by kernel_rfl) (by kernel_rfl) (fun _ _ _ h => h) (Or.inl ⟨by rfl, ?hy36⟩) hHeld ?rest36
   case hy36 => (rintro W ⟨hM, x1⟩; go_simp; (try with_reducible rfl))
   case rest36 =>
   (try simp only [Act.put, gTl, g0l, gSl, sTl, s0l, sSl])
   refine' wpAnyH_take (i := 9) (v := _) rfl (by kernel_rfl) (by kernel_rfl) (by kernel_rfl) (fun _ _ _ h => h) (Or.inl ⟨by rfl, ?hy37⟩) hHeld ?rest37
   case hy37 => (rintro W ⟨hM, x1⟩; go_simp; (try with_reducible rfl))
   case rest37 =>
   (try simp only [Act.put, gTl, g0l, gSl, sTl, s0l, sSl])
   refine' wpAnyH_take (i := 10) (v := _) rfl (by kernel_rfl) (by kernel_rfl) (by kernel_rfl) (fun _ _ _ h => h) (Or.inl ⟨by rfl, ?hy38⟩) hHeld ?rest38
   case hy38 => (rintro W ⟨hM, x1⟩; obtain ⟨q0, q1, q2, q3, q4⟩ := HQS.out W hM; go_simp; (try with_reducible rfl))
   case rest38 =>
   (try simp only [Act.put, gTl, g0l, gSl, sTl, s0l, sSl])
   refine' wpAnyH_take (i := 11) (v := _) rfl (by kernel_rfl) (by kernel_rfl) (by kernel_rfl) (fun _ _ _ h => h) (Or.inl ⟨by rfl, ?hy39⟩) hHeld ?rest39
   case hy39 => (rintro W ⟨hM, x1⟩; go_simp; (try with_reducible rfl))
   case rest39 =>
   (try simp only [Act.put, gTl, g0l, gSl, sTl, s0l, sSl])
   refine' wpAnyH_take (i := 12) (v := _) rfl (by kernel_rfl) (by kernel_rfl) (by kernel_rfl) (fun _ _ _ h => h) (Or.inl ⟨by rfl, ?hy40⟩) hHeld ?rest40
   case hy40 => (rintro W ⟨hM, x1⟩; go_simp; (try with_reducible rfl))
   case rest40 =>
   (try simp only [Act.put, gTl, g0l, gSl, sTl, s0l, sSl])
   refine' wpAnyH_take (i := 13) (v := _) rfl (by kernel_rfl) (by kernel_rfl) (by kernel_rfl) (fun _ _ _ h => h) (Or.inl ⟨by rfl, ?hy41⟩) hHeld ?rest41
   case hy41 => (rintro W ⟨hM, x1⟩; go_simp; (try with_reducible rfl))
   case rest41 =>
   (try simp only [Act.put, gTl, g0l, gSl, sTl, s0l, sSl])
   refine' wpAnyH_take (i := 14) (v := _) rfl (by kernel_rfl) (by kernel_rfl) (by kernel_rfl) (fun _ _ _ h => h) (Or.inl ⟨by rfl, ?hy42⟩) hHeld ?rest42
   case hy42 => (rintro W ⟨hM, x1⟩; go_simp; (try with_reducible rfl))
   case rest42 =>
   (try simp only [Act.put, gTl, g0l, gSl, sTl, s0l, sSl])
   refine' wpAnyH_take (i := 15) (v := _) rfl (by kernel_rfl) (by kernel_rfl) (by kernel_rfl) (fun _ _ _ h => h) (Or.inl ⟨by rfl, ?hy43⟩) hHeld ?rest43
   case hy43 => (rintro W ⟨hM, x1⟩; go_simp; (try with_reducible rfl))
   case rest43 =>
   (try simp only [Act.put, gTl, g0l, gSl, sTl, s0l, sSl])
   refine' wpAnyH_take (i := 16) (v := _) rfl (by kernel_rfl) (by kernel_rfl) (by kernel_rfl) (fun _ _ _ h => h) (Or.inl ⟨by rfl, ?hy44⟩) hHeld ?rest44
   case hy44 => (rintro W ⟨hM, x1⟩; go_simp; (try with_reducible rfl))
   case rest44 =>
   (try simp only [Act.put, gTl, g0l, gSl, sTl, s0l, sSl])
   refine wpAnyH_ready (rs := [17]) (by kernel_rfl) (by simp) ?_
   refine AllReadyH.cons rfl (fun K hK => ?_) AllReadyH.nil
   go_simp
   go_at_call 105
   refine (KS.out _).mono ?_
   rintro e v1 ⟨rfl, hE⟩
   have hB1 := hB0.ext hE
   refine hK.out _ _ ⟨hHeld.1.trans (hE.mono (by simp)), (by have h1 : _ = some (Value.int .i64 p.crc) := (hB1).cell 1; rw [HCRE.out] at h1; exact h1)⟩ (fun hHeld => ?_)
   clear hK K
   (try simp only [Act.put, gTl, g0l, gSl, sTl, s0l, sSl])
   refine' wpAnyH_take (i := 18) (v := _) rfl (by kernel_rfl) (by kernel_rfl) (by kernel_rfl) (fun _ _ _ h => h) (Or.inl ⟨by rfl, ?hy45⟩) hHeld ?rest45
   case hy45 => (rintro W ⟨hM, x1⟩; go_simp; (try with_reducible rfl))
   case rest45 =>
   (try simp only [Act.put, gTl, g0l, gSl, sTl, s0l, sSl])
   refine' wpAnyH_take (i := 19) (v := _) rfl (by kernel_rfl) (by kernel_rfl) (by kernel_rfl) (fun _ _ _ h => h) (Or.inl ⟨by rfl, ?hy46⟩) hHeld ?rest46
   case hy46 => (rintro W ⟨hM, x1⟩; go_simp; (try with_reducible rfl))
   case rest46 =>
   (try simp only [Act.put, gTl, g0l, gSl, sTl, s0l, sSl])
   refine wpAnyH_ready (rs := [20]) (by kernel_rfl) (by simp) ?_
   refine AllReadyH.cons rfl (fun K hK => ?_) AllReadyH.nil
   go_simp
   go_at_call 90
   refine (pchk R (tqlR p ch) s false _ _ hB1).mono ?_
   rintro e v2 ⟨rfl, hm, hB⟩
   refine hK.out _ _ ⟨hHeld.1.trans hm, (by have h1 : _ = some (Value.int .i64 p.crc) := (hB).cell 1; rw [HCRE.out] at h1; exact h1)⟩ (fun hHeld => ?_)
   clear hK K
   (try simp only [Act.put, gTl, g0l, gSl, sTl, s0l, sSl])
   refine wpAnyH_done (by kernel_rfl) ?_ _
   have hHeld := hHeld.1
   have BC : Hid (Blk v2 R 97 (rdC (tqlR p ch) s false)) := hid hB
   have HQ2 := hid (HQS.out v2 hHeld)
   have HM5 : Hid (Mod [R] w v2) := hid (HMT.out.trans hHeld)
   clear hHeld hm hB hB1 HQS BR HMT hB0 hE
   obtain ⟨q0, q1, q2, q3, q4⟩ := HQ2.out
   have c19 : v2.cell? ⟨R, 19, none⟩ = some (str s) := BC.out.cell 19
   have f19 : v2.frozen? ⟨R, 19, none⟩ = false := BC.out.frozen 19
   have BT : Hid (Blk (v2.setCell ⟨R, 19, none⟩ (str (ch 2).s)) R 97 (rdC (tqlR p ch) (ch 2).s false)) := hid (BC.out.set_ 19 _)
   have HMT : Hid (Mod [R] w (v2.setCell ⟨R, 19, none⟩ (str (ch 2).s))) := hid (HM5.out.setCell (.inl (by simp)) _)
   clear BC HM5 HQ2
   go_wp2_with fail
   refine bodyPost_ret (results_none rfl _ _ _) rfl ?_
   have hr : restR p s 3 ch = ((tqlR p ch), (ch 2).s, false) := by unfold restR; rw [if_neg (by rw [HW.out]; decide), if_neg (fun h => h HN.out), if_neg HFR.out]; exact (by unfold sumR; rw [if_neg (by decide)]; simp only [Prod.mk.injEq, true_and]; exact HBAD.out)
   rw [hr]
   exact ⟨rfl, HMT.out, BT.out⟩
 have HFR := hid hfr
 obtain ⟨hk, hm, hcr⟩ := HKM.out
 rw [if_pos hfr] at hk
 have h01 : m = 0 ∨ m = 1 := by omega
 rcases h01 with rfl | rfl
 ·
  obtain rfl : k = 4 := hk
  clear hfr hm hcr HKM
  by_cases hc2 : c - 2 = 2
  case pos =>
   have hb' : bits .and .u64 (p.fl : Int) 1 = 1 := by rw [hbits, if_pos HFR.out]
   have x0 : u4.cell? ⟨R, 0, none⟩ = some (.int .u64 (p.fl : Int)) := BR4.out.cell 0
   have hce : (c = 2) = False := eq_false (by have := HKC.out; omega)
   have hcf : (c - 2 = 2) = True := eq_true hc2
   clear hc2
   clear hbits
   go_upto_region 9 with fail
   clear x0
   have HQA : Hid (∀ W, Ext u4 W → At5 W b (o + 10) (ch 2) (ac 2).1 (ac 2).2) := hid (fun W hM => by have := HC.out W (HM4.out.trans (hM.mono (by simp))) 2 (by decide); simpa using this)
   have HQB : Hid (∀ W, Ext u4 W → At5 W b (o + 10 + 5) (ch 3) (ac 3).1 (ac 3).2) := hid (fun W hM => by have := HC.out W (HM4.out.trans (hM.mono (by simp))) 3 (by decide); simpa [Nat.add_assoc] using this)
   by_cases hNF : (ch 2).kind = 0 ∧ (ch 3).kind = 0
   case neg =>
    have K2N := hid (fun W => nums2_no (ch 2) (ac 2).1 (ac 2).2 (ch 3) (ac 3).1 (ac 3).2 hNF W)
    have HNF := hid hNF
    clear hNF
    refine wp_region_held_drew (S := fun w' => Ext u4 w') (by kernel_rfl) (Mod.refl _ _).drew (fun hHeld => ?_)
    generalize u4.drew = u5 at *
    have hH0 := hHeld
    refine' wpAnyH_take (i := 0) (v := _) rfl (by kernel_rfl) (by kernel_rfl) (by kernel_rfl) (fun _ _ _ h => h) (Or.inl ⟨by rfl, ?hy47⟩) hHeld ?rest47
    case hy47 => (rintro W hM; go_simp; (try with_reducible rfl))
    case rest47 =>
    (try simp only [Act.put, gTl, g0l, gSl, sTl, s0l, sSl])
    refine' wpAnyH_take (i := 1) (v := _) rfl (by kernel_rfl) (by kernel_rfl) (by kernel_rfl) (fun _ _ _ h => h) (Or.inl ⟨by rfl, ?hy48⟩) hHeld ?rest48
    case hy48 => (rintro W hM; go_simp; (try with_reducible rfl))
    case rest48 =>
    (try simp only [Act.put, gTl, g0l, gSl, sTl, s0l, sSl])
    refine' wpAnyH_take (i := 2) (v := _) rfl (by kernel_rfl) (by kernel_rfl) (by kernel_rfl) (fun _ _ _ h => h) (Or.inl ⟨by rfl, ?hy49⟩) hHeld ?rest49
    case hy49 => (rintro W hM; obtain ⟨q0, q1, q2, q3, q4⟩ := HQA.out W hM; go_simp; (try with_reducible rfl))
    case rest49 =>
    (try simp only [Act.put, gTl, g0l, gSl, sTl, s0l, sSl])
    refine' wpAnyH_take (i := 3) (v := _) rfl (by kernel_rfl) (by kernel_rfl) (by kernel_rfl) (fun _ _ _ h => h) (Or.inl ⟨by rfl, ?hy50⟩) hHeld ?rest50
    case hy50 => (rintro W hM; go_simp; (try with_reducible rfl))
    case rest50 =>
    (try simp only [Act.put, gTl, g0l, gSl, sTl, s0l, sSl])
    refine' wpAnyH_take (i := 4) (v := _) rfl (by kernel_rfl) (by kernel_rfl) (by kernel_rfl) (fun _ _ _ h => h) (Or.inl ⟨by rfl, ?hy51⟩) hHeld ?rest51
    case hy51 => (rintro W hM; go_simp; (try with_reducible rfl))
    case rest51 =>
    (try simp only [Act.put, gTl, g0l, gSl, sTl, s0l, sSl])
    refine' wpAnyH_take (i := 5) (v := _) rfl (by kernel_rfl) (by kernel_rfl) (by kernel_rfl) (fun _ _ _ h => h) (Or.inl ⟨by rfl, ?hy52⟩) hHeld ?rest52
    case hy52 => (rintro W hM; obtain ⟨q0, q1, q2, q3, q4⟩ := HQB.out W hM; go_simp; (try with_reducible rfl))
    case rest52 =>
    (try simp only [Act.put, gTl, g0l, gSl, sTl, s0l, sSl])
    refine wpAnyH_ready (rs := [6]) (by kernel_rfl) (by simp) ?_
    refine AllReadyH.cons rfl (fun K hK => ?_) AllReadyH.nil
    go_simp
    refine hK.out _ _ (hHeld.alloc _) (fun hHeld => ?_)
    clear hK K
    (try simp only [Act.put, gTl, g0l, gSl, sTl, s0l, sSl])
    refine wpAnyH_ready (rs := [7]) (by kernel_rfl) (by simp) ?_
    refine AllReadyH.cons rfl (fun K hK => ?_) AllReadyH.nil
    go_simp
    go_at_call 91
    refine (K2N.out _).mono ?_
    rintro e w5 ⟨rfl, HE5⟩
    refine hK.out _ _ (hH0.trans HE5.out) (fun hHeld => ?_)
    clear hK K
    (try simp only [Act.put, gTl, g0l, gSl, sTl, s0l, sSl])
    refine' wpAnyH_take (i := 8) (v := _) rfl (by kernel_rfl) (by kernel_rfl) (by kernel_rfl) (fun _ _ _ h => h) (Or.inl ⟨by rfl, ?hy53⟩) hHeld ?rest53
    case hy53 => (rintro W hM; go_simp; (try with_reducible rfl))
    case rest53 =>
    (try simp only [Act.put, gTl, g0l, gSl, sTl, s0l, sSl])
    refine' wpAnyH_take (i := 9) (v := _) rfl (by kernel_rfl) (by kernel_rfl) (by kernel_rfl) (fun _ _ _ h => h) (Or.inl ⟨by rfl, ?hy54⟩) hHeld ?rest54
    case hy54 => (rintro W hM; go_simp; (try with_reducible rfl))
    case rest54 =>
    (try simp only [Act.put, gTl, g0l, gSl, sTl, s0l, sSl])
    refine' wpAnyH_take (i := 10) (v := _) rfl (by kernel_rfl) (by kernel_rfl) (by kernel_rfl) (fun _ _ _ h => h) (Or.inl ⟨by rfl, ?hy55⟩) hHeld ?rest55
    case hy55 => (rintro W hM; go_simp; (try with_reducible rfl))
    case rest55 =>
    (try simp only [Act.put, gTl, g0l, gSl, sTl, s0l, sSl])
    refine' wpAnyH_take (i := 11) (v := _) rfl (by kernel_rfl) (by kernel_rfl) (by kernel_rfl) (fun _ _ _ h => h) (Or.inl ⟨by rfl, ?hy56⟩) hHeld ?rest56
    case hy56 => (rintro W hM; go_simp; (try with_reducible rfl))
    case rest56 =>
    (try simp only [Act.put, gTl, g0l, gSl, sTl, s0l, sSl])
    refine' wpAnyH_take (i := 12) (v := _) rfl (by kernel_rfl) (by kernel_rfl) (by kernel_rfl) (fun _ _ _ h => h) (Or.inl ⟨by rfl, ?hy57⟩) hHeld ?rest57
    case hy57 => (rintro W hM; go_simp; (try with_reducible rfl))
    case rest57 =>
    (try simp only [Act.put, gTl, g0l, gSl, sTl, s0l, sSl])
    refine wpAnyH_done (by kernel_rfl) ?_ _
    have BR5 := hid (BR4.out.ext hHeld)
    have HM5 : Hid (Mod [R] w w5) := hid (HM4.out.trans (hHeld.mono (by simp)))
    clear hHeld HE5 hH0 HQA HQB K2N BR4 HM4
    go_upto_region 11 with (go_at_call 90; refine (pchk R (tqlR p ch) s false _ _ BR5.out).mono ?_; rintro x w2 ⟨rfl, hm, hB⟩; have HM := hid hm; have HB := hid hB; clear hm hB)
    have HBk : Hid (Blk w2 R 97 (rdC (tqlR p ch) s true)) := hid HB.out
    have HMk : Hid (Mod [R] w w2) := hid (HM5.out.trans HM.out)
    clear HB HM
    have c20 : w2.cell? ⟨R, 20, none⟩ = some (.bool true) := HBk.out.cell 20
    go_wp2_with fail
    refine bodyPost_ret (results_none rfl _ _ _) rfl ?_
    have hr : restR p s 4 ch = (tqlR p ch, s, true) := by unfold restR; rw [if_neg (by rw [HW.out]; decide), if_neg (fun h => h HN.out), if_pos HFR.out, if_pos HNF.out]
    rw [hr]
    exact ⟨rfl, HMk.out, HBk.out⟩
   have K2N := hid (fun W => nums2_yes (ch 2) (ac 2).1 (ac 2).2 (ch 3) (ac 3).1 (ac 3).2 hNF W)
   have HNF := hid hNF
   clear hNF
   refine wp_region_held_drew (S := fun w' => Ext u4 w') (by kernel_rfl) (Mod.refl _ _).drew (fun hHeld => ?_)
   generalize u4.drew = u5 at *
   have hH0 := hHeld
   refine' wpAnyH_take (i := 0) (v := _) rfl (by kernel_rfl) (by kernel_rfl) (by kernel_rfl) (fun _ _ _ h => h) (Or.inl ⟨by rfl, ?hy58⟩) hHeld ?rest58
   case hy58 => (rintro W hM; go_simp; (try with_reducible rfl))
   case rest58 =>
   (try simp only [Act.put, gTl, g0l, gSl, sTl, s0l, sSl])
   refine' wpAnyH_take (i := 1) (v := _) rfl (by kernel_rfl) (by kernel_rfl) (by kernel_rfl) (fun _ _ _ h => h) (Or.inl ⟨by rfl, ?hy59⟩) hHeld ?rest59
   case hy59 => (rintro W hM; go_simp; (try with_reducible rfl))
   case rest59 =>
   (try simp only [Act.put, gTl, g0l, gSl, sTl, s0l, sSl])
   refine' wpAnyH_take (i := 2) (v := _) rfl (by kernel_rfl) (by kernel_rfl) (by kernel_rfl) (fun _ _ _ h => h) (Or.inl ⟨by rfl, ?hy60⟩) hHeld ?rest60
   case hy60 => (rintro W hM; obtain ⟨q0, q1, q2, q3, q4⟩ := HQA.out W hM; go_simp; (try with_reducible rfl))
   case rest60 =>
   (try simp only [Act.put, gTl, g0l, gSl, sTl, s0l, sSl])
   refine' wpAnyH_take (i := 3) (v := _) rfl (by kernel_rfl) (by kernel_rfl) (by kernel_rfl) (fun _ _ _ h => h) (Or.inl ⟨by rfl, ?hy61⟩) hHeld ?rest61
   case hy61 => (rintro W hM; go_simp; (try with_reducible rfl))
   case rest61 =>
   (try simp only [Act.put, gTl, g0l, gSl, sTl, s0l, sSl])
   refine' wpAnyH_take (i := 4) (v := _) rfl (by kernel_rfl) (by kernel_rfl) (by kernel_rfl) (fun _ _ _ h => h) (Or.inl ⟨by rfl, ?hy62⟩) hHeld ?rest62
   case hy62 => (rintro W hM; go_simp; (try with_reducible rfl))
   case rest62 =>
   (try simp only [Act.put, gTl, g0l, gSl, sTl, s0l, sSl])
   refine' wpAnyH_take (i := 5) (v := _) rfl (by kernel_rfl) (by kernel_rfl) (by kernel_rfl) (fun _ _ _ h => h) (Or.inl ⟨by rfl, ?hy63⟩) hHeld ?rest63
   case hy63 => (rintro W hM; obtain ⟨q0, q1, q2, q3, q4⟩ := HQB.out W hM; go_simp; (try with_reducible rfl))
   case rest63 =>
   (try simp only [Act.put, gTl, g0l, gSl, sTl, s0l, sSl])
   refine wpAnyH_ready (rs := [6]) (by kernel_rfl) (by simp) ?_
   refine AllReadyH.cons rfl (fun K hK => ?_) AllReadyH.nil
   go_simp
   refine hK.out _ _ (hHeld.alloc _) (fun hHeld => ?_)
   clear hK K
   (try simp only [Act.put, gTl, g0l, gSl, sTl, s0l, sSl])
   refine wpAnyH_ready (rs := [7]) (by kernel_rfl) (by simp) ?_
   refine AllReadyH.cons rfl (fun K hK => ?_) AllReadyH.nil
   go_simp
   go_at_call 91
   refine (K2N.out _).mono ?_
   rintro e w5 ⟨g, cg2, rfl, HE5⟩
   refine hK.out _ _ (hH0.trans HE5.out.1) (fun hHeld => ?_)
   clear hK K
   (try simp only [Act.put, gTl, g0l, gSl, sTl, s0l, sSl])
   refine' wpAnyH_take (i := 8) (v := _) rfl (by kernel_rfl) (by kernel_rfl) (by kernel_rfl) (fun _ _ _ h => h) (Or.inl ⟨by rfl, ?hy64⟩) hHeld ?rest64
   case hy64 => (rintro W hM; go_simp; (try with_reducible rfl))
   case rest64 =>
   (try simp only [Act.put, gTl, g0l, gSl, sTl, s0l, sSl])
   refine' wpAnyH_take (i := 9) (v := _) rfl (by kernel_rfl) (by kernel_rfl) (by kernel_rfl) (fun _ _ _ h => h) (Or.inl ⟨by rfl, ?hy65⟩) hHeld ?rest65
   case hy65 => (rintro W hM; go_simp; (try with_reducible rfl))
   case rest65 =>
   (try simp only [Act.put, gTl, g0l, gSl, sTl, s0l, sSl])
   refine' wpAnyH_take (i := 10) (v := _) rfl (by kernel_rfl) (by kernel_rfl) (by kernel_rfl) (fun _ _ _ h => h) (Or.inl ⟨by rfl, ?hy66⟩) hHeld ?rest66
   case hy66 => (rintro W hM; go_simp; (try with_reducible rfl))
   case rest66 =>
   (try simp only [Act.put, gTl, g0l, gSl, sTl, s0l, sSl])
   refine' wpAnyH_take (i := 11) (v := _) rfl (by kernel_rfl) (by kernel_rfl) (by kernel_rfl) (fun _ _ _ h => h) (Or.inl ⟨by rfl, ?hy67⟩) hHeld ?rest67
   case hy67 => (rintro W hM; go_simp; (try with_reducible rfl))
   case rest67 =>
   (try simp only [Act.put, gTl, g0l, gSl, sTl, s0l, sSl])
   refine' wpAnyH_take (i := 12) (v := _) rfl (by kernel_rfl) (by kernel_rfl) (by kernel_rfl) (fun _ _ _ h => h) (Or.inl ⟨by rfl, ?hy68⟩) hHeld ?rest68
   case hy68 => (rintro W hM; go_simp; (try with_reducible rfl))
   case rest68 =>
   (try simp only [Act.put, gTl, g0l, gSl, sTl, s0l, sSl])
   refine wpAnyH_done (by kernel_rfl) ?_ _
   have BR5 := hid (BR4.out.ext hHeld)
   have HM5 : Hid (Mod [R] w w5) := hid (HM4.out.trans (hHeld.mono (by simp)))
   have HGR : Hid (g ≠ R) := hid (by have h1 := HE5.out.2.1; have h2 := hH0.size; have h3 := BR4.out.lt; omega)
   have HG3 := hid HE5.out.2.2
   clear hHeld HE5 hH0 HQA HQB K2N BR4 HM4
   go_upto_region 11 with (go_at_call 90; refine (pchk R (tqlR p ch) s false _ _ BR5.out).mono ?_; rintro x w2 ⟨rfl, hm, hB⟩; have HM := hid hm; have HB := hid hB; clear hm hB)
   have HBk : Hid (Blk w2 R 97 (rdC (tqlR p ch) s false)) := hid HB.out
   have HMk : Hid (Mod [R] w w2) := hid (HM5.out.trans HM.out)
   have HG4 := hid (fun (W : World) (hW : Mod [R] w2 W) i (v : Value) (h : w5.cell? ⟨g, i, none⟩ = some v) => (((HM.out.trans hW).cell (World.block_lt_of_cell? w5 _ h) (by simpa using HGR.out)).trans h : W.cell? ⟨g, i, none⟩ = some v))
   clear HB HM
   have c20 : w2.cell? ⟨R, 20, none⟩ = some (.bool false) := HBk.out.cell 20
   go_upto_region 12 with fail
   have hB0 : Blk w2.drew R 97 (rdC (tqlR p ch) s false) := HBk.out
   refine wp_region_held_drew (S := fun w' => Mod [R] w2 w') (by kernel_rfl) (Mod.refl _ _).drew (fun hHeld => ?_)
   generalize w2.drew = u6 at *
   refine' wpAnyH_take (i := 0) (v := _) rfl (by kernel_rfl) (by kernel_rfl) (by kernel_rfl) (fun _ _ _ h => h) (Or.inl ⟨by rfl, ?hy69⟩) hHeld ?rest69
   case hy69 => (rintro W hM; go_simp; (try with_reducible rfl))
   case rest69 =>
   (try simp only [Act.put, gTl, g0l, gSl, sTl, s0l, sSl])
   refine' wpAnyH_take (i := 1) (v := _) rfl (by kernel_rfl) (by kernel_rfl) (by kernel_rfl) (fun _ _ _ h => h) (Or.inl ⟨by rfl, ?hy70⟩) hHeld ?rest70
   case hy70 => (rintro W hM; go_simp; (try with_reducible rfl))
   case rest70 =>
   (try simp only [Act.put, gTl, g0l, gSl, sTl, s0l, sSl])
   refine' wpAnyH_take (i := 2) (v := _) rfl (by kernel_rfl) (by kernel_rfl) (by kernel_rfl) (fun _ _ _ h => h) (Or.inl ⟨by rfl, ?hy71⟩) hHeld ?rest71
   case hy71 => (rintro W hM; go_simp; (try with_reducible rfl))
   case rest71 =>
   (try simp only [Act.put, gTl, g0l, gSl, sTl, s0l, sSl])
   refine' wpAnyH_take (i := 3) (v := _) rfl (by kernel_rfl) (by kernel_rfl) (by kernel_rfl) (fun _ _ _ h => h) (Or.inl ⟨by rfl, ?hy72⟩) hHeld ?rest72
   case hy72 => (rintro W hM; go_simp; (try with_reducible rfl))
   case rest72 =>
   (try simp only [Act.put, gTl, g0l, gSl, sTl, s0l, sSl])
   refine' wpAnyH_take (i := 4) (v := _) rfl (by kernel_rfl) (by kernel_rfl) (by kernel_rfl) (fun _ _ _ h => h) (Or.inl ⟨by rfl, ?hy73⟩) hHeld ?rest73
   case hy73 => (rintro W hM; have y0 := HG4.out W hM 0 _ HG3.out.1; go_simp; (try with_reducible rfl))
   case rest73 =>
   (try simp only [Act.put, gTl, g0l, gSl, sTl, s0l, sSl])
   refine' wpAnyH_take (i := 5) (v := _) rfl (by kernel_rfl) (by kernel_rfl) (by kernel_rfl) (fun _ _ _ h => h) (Or.inl ⟨by rfl, ?hy74⟩) hHeld ?rest74
   case hy74 => (rintro W hM; go_simp; (try with_reducible rfl))
   case rest74 =>
   (try simp only [Act.put, gTl, g0l, gSl, sTl, s0l, sSl])
   refine' wpAnyH_take (i := 6) (v := _) rfl (by kernel_rfl) (by kernel_rfl) (by kernel_rfl) (fun _ _ _ h => h) (Or.inl ⟨by rfl, ?hy75⟩) hHeld ?rest75
   case hy75 => (rintro W hM; go_simp; (try with_reducible rfl))
   case rest75 =>
   (try simp only [Act.put, gTl, g0l, gSl, sTl, s0l, sSl])
   refine' wpAnyH_take (i := 7) (v := _) rfl (by kernel_rfl) (by kernel_rfl) (by kernel_rfl) (fun _ _ _ h => h) (Or.inl ⟨by rfl, ?hy76⟩) hHeld ?rest76
   case hy76 => (rintro W hM; have y1 := HG4.out W hM 1 _ HG3.out.2; go_simp; (try with_reducible rfl))
   case rest76 =>
   (try simp only [Act.put, gTl, g0l, gSl, sTl, s0l, sSl])
   refine' wpAnyH_take (i := 8) (v := _) rfl (by kernel_rfl) (by kernel_rfl) (by kernel_rfl) (fun _ _ _ h => h) (Or.inl ⟨by rfl, ?hy77⟩) hHeld ?rest77
   case hy77 => (rintro W hM; go_simp; (try with_reducible rfl))
   case rest77 =>
   (try simp only [Act.put, gTl, g0l, gSl, sTl, s0l, sSl])
   refine' wpAnyH_take (i := 9) (v := _) rfl (by kernel_rfl) (by kernel_rfl) (by kernel_rfl) (fun _ _ _ h => h) (Or.inl ⟨by rfl, ?hy78⟩) hHeld ?rest78
   case hy78 => (rintro W hM; go_simp; (try with_reducible rfl))
   case rest78 =>
   (try simp only [Act.put, gTl, g0l, gSl, sTl, s0l, sSl])
   refine' wpAnyH_take (i := 10) (v := _) rfl (by kernel_rfl) (by kernel_rfl) (by kernel_rfl) (fun _ _ _ h => h) (Or.inl ⟨by rfl, ?hy79⟩) hHeld ?rest79
   case hy79 => (rintro W hM; go_simp; (try with_reducible rfl))
   case rest79 =>
   (try simp only [Act.put, gTl, g0l, gSl, sTl, s0l, sSl])
   refine wpAnyH_ready (rs := [11]) (by kernel_rfl) (by simp) ?_
   refine AllReadyH.cons rfl (fun K hK => ?_) AllReadyH.nil
   have c0 : u6.cell? ⟨R, 17, none⟩ = some (.int .u64 (p.o : Int)) := hB0.cell 17
   have f0 : u6.frozen? ⟨R, 17, none⟩ = false := hB0.frozen 17
   go_simp
   have hB1 := hB0.set_ 17 (.int .u64 ((ch 2).n : Int))
   have hM1 := Mod.setCell hHeld (p := ⟨R, 17, none⟩) (.inl (by simp)) (.int .u64 ((ch 2).n : Int))
   generalize World.setCell u6 ⟨R, 17, none⟩ (.int .u64 ((ch 2).n : Int)) = u7 at hB1 hM1 ⊢
   refine hK.out _ _ hM1 (fun hHeld => ?_)
   clear hK K c0 f0 hM1 hB0
   (try simp only [Act.put, gTl, g0l, gSl, sTl, s0l, sSl])
   refine' wpAnyH_take (i := 12) (v := _) rfl (by kernel_rfl) (by kernel_rfl) (by kernel_rfl) (fun _ _ _ h => h) (Or.inl ⟨by rfl, ?hy80⟩) hHeld ?rest80
   case hy80 => (rintro W hM; go_simp; (try with_reducible rfl))
   case rest80 =>
   (try simp only [Act.put, gTl, g0l, gSl, sTl, s0l, sSl])
   refine' wpAnyH_take (i := 13) (v := _) rfl (by kernel_rfl) (by kernel_rfl) (by kernel_rfl) (fun _ _ _ h => h) (Or.inl ⟨by rfl, ?hy81⟩) hHeld ?rest81
   case hy81 => (rintro W hM; go_simp; (try with_reducible rfl))
   case rest81 =>
   (try simp only [Act.put, gTl, g0l, gSl, sTl, s0l, sSl])
   refine' wpAnyH_take (i := 14) (v := _) rfl (by kernel_rfl) (by kernel_rfl) (by kernel_rfl) (fun _ _ _ h => h) (Or.inl ⟨by rfl, ?hy82⟩) hHeld ?rest82
   case hy82 => (rintro W hM; go_simp; (try with_reducible rfl))
   case rest82 =>
   (try simp only [Act.put, gTl, g0l, gSl, sTl, s0l, sSl])
   refine wpAnyH_ready (rs := [15]) (by kernel_rfl) (by simp) ?_
   refine AllReadyH.cons rfl (fun K hK => ?_) AllReadyH.nil
   have c0 : u7.cell? ⟨R, 18, none⟩ = some (.int .u64 (p.n : Int)) := hB1.cell 18
   have f0 : u7.frozen? ⟨R, 18, none⟩ = false := hB1.frozen 18
   go_simp
   have hB2 := hB1.set_ 18 (.int .u64 ((ch 3).n : Int))
   have hM1 := Mod.setCell hHeld (p := ⟨R, 18, none⟩) (.inl (by simp)) (.int .u64 ((ch 3).n : Int))
   generalize World.setCell u7 ⟨R, 18, none⟩ (.int .u64 ((ch 3).n : Int)) = u8 at hB2 hM1 ⊢
   refine hK.out _ _ hM1 (fun hHeld => ?_)
   clear hK K c0 f0 hM1 hB1
   (try simp only [Act.put, gTl, g0l, gSl, sTl, s0l, sSl])
   refine wpAnyH_done (by kernel_rfl) ?_ _
   have BR : Hid (Blk u8 R 97 (rdC (fragR (tqlR p ch) ch) s false)) := hid hB2
   have HMT : Hid (Mod [R] w u8) := hid (HMk.out.trans hHeld)
   clear hHeld HG3 HG4 hB2 HGR HBk HMk c20 BR5 HM5
   go_wp2_with fail
   refine bodyPost_ret (results_none rfl _ _ _) rfl ?_
   have hr : restR p s 4 ch = ((fragR (tqlR p ch) ch), s, false) := by unfold restR; rw [if_neg (by rw [HW.out]; decide), if_neg (fun h => h HN.out), if_pos HFR.out, if_neg (fun h => h HNF.out)]; exact rfl
   rw [hr]
   exact ⟨rfl, HMT.out, BR.out⟩
  have hb' : bits .and .u64 (p.fl : Int) 1 = 1 := by rw [hbits, if_pos HFR.out]
  have x0 : u4.cell? ⟨R, 0, none⟩ = some (.int .u64 (p.fl : Int)) := BR4.out.cell 0
  have hce : (c = 2) = False := eq_false (by have := HKC.out; omega)
  have hcf : (c - 2 = 2) = False := eq_false hc2
  clear hc2
  clear hbits
  go_upto_region 9 with fail
  clear x0
  have HQA : Hid (∀ W, Ext u4 W → At5 W b (o + 10) (ch 2) (ac 2).1 (ac 2).2) := hid (fun W hM => by have := HC.out W (HM4.out.trans (hM.mono (by simp))) 2 (by decide); simpa using this)
  have HQB : Hid (∀ W, Ext u4 W → At5 W b (o + 10 + 5) (ch 3) (ac 3).1 (ac 3).2) := hid (fun W hM => by have := HC.out W (HM4.out.trans (hM.mono (by simp))) 3 (by decide); simpa [Nat.add_assoc] using this)
  by_cases hNF : (ch 2).kind = 0 ∧ (ch 3).kind = 0
  case neg =>
   have K2N := hid (fun W => nums2_no (ch 2) (ac 2).1 (ac 2).2 (ch 3) (ac 3).1 (ac 3).2 hNF W)
   have HNF := hid hNF
   clear hNF
   refine wp_region_held_drew (S := fun w' => Ext u4 w') (by kernel_rfl) (Mod.refl _ _).drew (fun hHeld => ?_)
   generalize u4.drew = u5 at *
   have hH0 := hHeld
   refine' wpAnyH_take (i := 0) (v := _) rfl (by kernel_rfl) (by kernel_rfl) (by kernel_rfl) (fun _ _ _ h => h) (Or.inl ⟨by rfl, ?hy83⟩) hHeld ?rest83
   case hy83 => (rintro W hM; go_simp; (try with_reducible rfl))
   case rest83 =>
   (try simp only [Act.put, gTl, g0l, gSl, sTl, s0l, sSl])
   refine' wpAnyH_take (i := 1) (v := _) rfl (by kernel_rfl) (by kernel_rfl) (by kernel_rfl) (fun _ _ _ h => h) (Or.inl ⟨by rfl, ?hy84⟩) hHeld ?rest84
   case hy84 => (rintro W hM; go_simp; (try with_reducible rfl))
   case rest84 =>
   (try simp only [Act.put, gTl, g0l, gSl, sTl, s0l, sSl])
   refine' wpAnyH_take (i := 2) (v := _) rfl (by kernel_rfl) (by kernel_rfl) (by kernel_rfl) (fun _ _ _ h => h) (Or.inl ⟨by rfl, ?hy85⟩) hHeld ?rest85
   case hy85 => (rintro W hM; obtain ⟨q0, q1, q2, q3, q4⟩ := HQA.out W hM; go_simp; (try with_reducible rfl))
   case rest85 =>
   (try simp only [Act.put, gTl, g0l, gSl, sTl, s0l, sSl])
   refine' wpAnyH_take (i := 3) (v := _) rfl (by kernel_rfl) (by kernel_rfl) (by kernel_rfl) (fun _ _ _ h => h) (Or.inl ⟨by rfl, ?hy86⟩) hHeld ?rest86
   case hy86 => (rintro W hM; go_simp; (try with_reducible rfl))
   case rest86 =>
   (try simp only [Act.put, gTl, g0l, gSl, sTl, s0l, sSl])
   refine' wpAnyH_take (i := 4) (v := _) rfl (by kernel_rfl) (by kernel_rfl) (by kernel_rfl) (fun _ _ _ h => h) (Or.inl ⟨by rfl, ?hy87⟩) hHeld ?rest87
   case hy87 => (rintro W hM; go_simp; (try with_reducible rfl))
   case rest87 =>
   (try simp only [Act.put, gTl, g0l, gSl, sTl, s0l, sSl])
   refine' wpAnyH_take (i := 5) (v := _) rfl (by kernel_rfl) (by kernel_rfl) (by kernel_rfl) (fun _ _ _ h => h) (Or.inl ⟨by rfl, ?hy88⟩) hHeld ?rest88
   case hy88 => (rintro W hM; obtain ⟨q0, q1, q2, q3, q4⟩ := HQB.out W hM; go_simp; (try with_reducible rfl))
   case rest88 =>
   (try simp only [Act.put, gTl, g0l, gSl, sTl, s0l, sSl])
   refine wpAnyH_ready (rs := [6]) (by kernel_rfl) (by simp) ?_
   refine AllReadyH.cons rfl (fun K hK => ?_) AllReadyH.nil
   go_simp
   refine hK.out _ _ (hHeld.alloc _) (fun hHeld => ?_)
   clear hK K
   (try simp only [Act.put, gTl, g0l, gSl, sTl, s0l, sSl])
   refine wpAnyH_ready (rs := [7]) (by kernel_rfl) (by simp) ?_
   refine AllReadyH.cons rfl (fun K hK => ?_) AllReadyH.nil
   go_simp
   go_at_call 91
   refine (K2N.out _).mono ?_
   rintro e w5 ⟨rfl, HE5⟩
   refine hK.out _ _ (hH0.trans HE5.out) (fun hHeld => ?_)
   clear hK K
   (try simp only [Act.put, gTl, g0l, gSl, sTl, s0l, sSl])
   refine' wpAnyH_take (i := 8) (v := _) rfl (by kernel_rfl) (by kernel_rfl) (by kernel_rfl) (fun _ _ _ h => h) (Or.inl ⟨by rfl, ?hy89⟩) hHeld ?rest89
   case hy89 => (rintro W hM; go_simp; (try with_reducible rfl))
   case rest89 =>
   (try simp only [Act.put, gTl, g0l, gSl, sTl, s0l, sSl])
   refine' wpAnyH_take (i := 9) (v := _) rfl (by kernel_rfl) (by kernel_rfl) (by kernel_rfl) (fun _ _ _ h => h) (Or.inl ⟨by rfl, ?hy90⟩) hHeld ?rest90
   case hy90 => (rintro W hM; go_simp; (try with_reducible rfl))
   case rest90 =>
   (try simp only [Act.put, gTl, g0l, gSl, sTl, s0l, sSl])
   refine' wpAnyH_take (i := 10) (v := _) rfl (by kernel_rfl) (by kernel_rfl) (by kernel_rfl) (fun _ _ _ h => h) (Or.inl ⟨by rfl, ?hy91⟩) hHeld ?rest91
   case hy91 => (rintro W hM; go_simp; (try with_reducible rfl))
   case rest91 =>
   (try simp only [Act.put, gTl, g0l, gSl, sTl, s0l, sSl])
   refine' wpAnyH_take (i := 11) (v := _) rfl (by kernel_rfl) (by kernel_rfl) (by kernel_rfl) (fun _ _ _ h => h) (Or.inl ⟨by rfl, ?hy92⟩) hHeld ?rest92
   case hy92 => (rintro W hM; go_simp; (try with_reducible rfl))
   case rest92 =>
   (try simp only [Act.put, gTl, g0l, gSl, sTl, s0l, sSl])
   refine' wpAnyH_take (i := 12) (v := _) rfl (by kernel_rfl) (by kernel_rfl) (by kernel_rfl) (fun _ _ _ h => h) (Or.inl ⟨by rfl, ?hy93⟩) hHeld ?rest93
   case hy93 => (rintro W hM; go_simp; (try with_reducible rfl))
   case rest93 =>
   (try simp only [Act.put, gTl, g0l, gSl, sTl, s0l, sSl])
   refine wpAnyH_done (by kernel_rfl) ?_ _
   have BR5 := hid (BR4.out.ext hHeld)
   have HM5 : Hid (Mod [R] w w5) := hid (HM4.out.trans (hHeld.mono (by simp)))
   clear hHeld HE5 hH0 HQA HQB K2N BR4 HM4
   go_upto_region 11 with (go_at_call 90; refine (pchk R (tqlR p ch) s false _ _ BR5.out).mono ?_; rintro x w2 ⟨rfl, hm, hB⟩; have HM := hid hm; have HB := hid hB; clear hm hB)
   have HBk : Hid (Blk w2 R 97 (rdC (tqlR p ch) s true)) := hid HB.out
   have HMk : Hid (Mod [R] w w2) := hid (HM5.out.trans HM.out)
   clear HB HM
   have c20 : w2.cell? ⟨R, 20, none⟩ = some (.bool true) := HBk.out.cell 20
   go_wp2_with fail
   refine bodyPost_ret (results_none rfl _ _ _) rfl ?_
   have hr : restR p s 4 ch = (tqlR p ch, s, true) := by unfold restR; rw [if_neg (by rw [HW.out]; decide), if_neg (fun h => h HN.out), if_pos HFR.out, if_pos HNF.out]
   rw [hr]
   exact ⟨rfl, HMk.out, HBk.out⟩
  have K2N := hid (fun W => nums2_yes (ch 2) (ac 2).1 (ac 2).2 (ch 3) (ac 3).1 (ac 3).2 hNF W)
  have HNF := hid hNF
  clear hNF
  refine wp_region_held_drew (S := fun w' => Ext u4 w') (by kernel_rfl) (Mod.refl _ _).drew (fun hHeld => ?_)
  generalize u4.drew = u5 at *
  have hH0 := hHeld
  refine' wpAnyH_take (i := 0) (v := _) rfl (by kernel_rfl) (by kernel_rfl) (by kernel_rfl) (fun _ _ _ h => h) (Or.inl ⟨by rfl, ?hy94⟩) hHeld ?rest94
  case hy94 => (rintro W hM; go_simp; (try with_reducible rfl))
  case rest94 =>
  (try simp only [Act.put, gTl, g0l, gSl, sTl, s0l, sSl])
  refine' wpAnyH_take (i := 1) (v := _) rfl (by kernel_rfl) (by kernel_rfl) (by kernel_rfl) (fun _ _ _ h => h) (Or.inl ⟨by rfl, ?hy95⟩) hHeld ?rest95
  case hy95 => (rintro W hM; go_simp; (try with_reducible rfl))
  case rest95 =>
  (try simp only [Act.put, gTl, g0l, gSl, sTl, s0l, sSl])
  refine' wpAnyH_take (i := 2) (v := _) rfl (by kernel_rfl) (by kernel_rfl) (by kernel_rfl) (fun _ _ _ h => h) (Or.inl ⟨by rfl, ?hy96⟩) hHeld ?rest96
  case hy96 => (rintro W hM; obtain ⟨q0, q1, q2, q3, q4⟩ := HQA.out W hM; go_simp; (try with_reducible rfl))
  case rest96 =>
  (try simp only [Act.put, gTl, g0l, gSl, sTl, s0l, sSl])
  refine' wpAnyH_take (i := 3) (v := _) rfl (by kernel_rfl) (by kernel_rfl) (by kernel_rfl) (fun _ _ _ h => h) (Or.inl ⟨by rfl, ?hy97⟩) hHeld ?rest97
  case hy97 => (rintro W hM; go_simp; (try with_reducible rfl))
  case rest97 =>
  (try simp only [Act.put, gTl, g0l, gSl, sTl, s0l, sSl])
  refine' wpAnyH_take (i := 4) (v := _) rfl (by kernel_rfl) (by kernel_rfl) (by kernel_rfl) (fun _ _ _ h => h) (Or.inl ⟨by rfl, ?hy98⟩) hHeld ?rest98
  case hy98 => (rintro W hM; go_simp; (try with_reducible rfl))
  case rest98 =>
  (try simp only [Act.put, gTl, g0l, gSl, sTl, s0l, sSl])
  refine' wpAnyH_take (i := 5) (v := _) rfl (by kernel_rfl) (by kernel_rfl) (by kernel_rfl) (fun _ _ _ h => h) (Or.inl ⟨by rfl, ?hy99⟩) hHeld ?rest99
  case hy99 => (rintro W hM; obtain ⟨q0, q1, q2, q3, q4⟩ := HQB.out W hM; go_simp; (try with_reducible rfl))
  case rest99 =>
  (try simp only [Act.put, gTl, g0l, gSl, sTl, s0l, sSl])
  refine wpAnyH_ready (rs := [6]) (by kernel_rfl) (by simp) ?_
  refine AllReadyH.cons rfl (fun K hK => ?_) AllReadyH.nil
  go_simp
  refine hK.out _ _ (hHeld.alloc _) (fun hHeld => ?_)
  clear hK K
  (try simp only [Act.put, gTl, g0l, gSl, sTl, s0l, sSl])
  refine wpAnyH_ready (rs := [7]) (by kernel_rfl) (by simp) ?_
  refine AllReadyH.cons rfl (fun K hK => ?_) AllReadyH.nil
  go_simp
  go_at_call 91
  refine (K2N.out _).mono ?_
  rintro e w5 ⟨g, cg2, rfl, HE5⟩
  refine hK.out _ _ (hH0.trans HE5.out.1) (fun hHeld => ?_)
  clear hK K
  (try simp only [Act.put, gTl, g0l, gSl, sTl, s0l, sSl])
  refine' wpAnyH_take (i := 8) (v := _) rfl (by kernel_rfl) (by kernel_rfl) (by kernel_rfl) (fun _ _ _ h => h) (Or.inl ⟨by rfl, ?hy100⟩) hHeld ?rest100
  case hy100 => (rintro W hM; go_simp; (try with_reducible rfl))
  case rest100 =>
  (try simp only [Act.put, gTl, g0l, gSl, sTl, s0l, sSl])
  refine' wpAnyH_take (i := 9) (v := _) rfl (by kernel_rfl) (by kernel_rfl) (by kernel_rfl) (fun _ _ _ h => h) (Or.inl ⟨by rfl, ?hy101⟩) hHeld ?rest101
  case hy101 => (rintro W hM; go_simp; (try with_reducible rfl))
  case rest101 =>
  (try simp only [Act.put, gTl, g0l, gSl, sTl, s0l, sSl])
  refine' wpAnyH_take (i := 10) (v := _) rfl (by kernel_rfl) (by kernel_rfl) (by kernel_rfl) (fun _ _ _ h => h) (Or.inl ⟨by rfl, ?hy102⟩) hHeld ?rest102
  case hy102 => (rintro W hM; go_simp; (try with_reducible rfl))
  case rest102 =>
  (try simp only [Act.put, gTl, g0l, gSl, sTl, s0l, sSl])
  refine' wpAnyH_take (i := 11) (v := _) rfl (by kernel_rfl) (by kernel_rfl) (by kernel_rfl) (fun _ _ _ h => h) (Or.inl ⟨by rfl, ?hy103⟩) hHeld ?rest103
  case hy103 => (rintro W hM; go_simp; (try with_reducible rfl))
  case rest103 =>
  (try simp only [Act.put, gTl, g0l, gSl, sTl, s0l, sSl])
  refine' wpAnyH_take (i := 12) (v := _) rfl (by kernel_rfl) (by kernel_rfl) (by kernel_rfl) (fun _ _ _ h => h) (Or.inl ⟨by rfl, ?hy104⟩) hHeld ?rest104
  case hy104 => (rintro W hM; go_simp; (try with_reducible rfl))
  case rest104 =>
  (try simp only [Act.put, gTl, g0l, gSl, sTl, s0l, sSl])
  refine wpAnyH_done (by kernel_rfl) ?_ _
  have BR5 := hid (BR4.out.ext hHeld)
  have HM5 : Hid (Mod [R] w w5) := hid (HM4.out.trans (hHeld.mono (by simp)))
  have HGR : Hid (g ≠ R) := hid (by have h1 := HE5.out.2.1; have h2 := hH0.size; have h3 := BR4.out.lt; omega)
  have HG3 := hid HE5.out.2.2
  clear hHeld HE5 hH0 HQA HQB K2N BR4 HM4
  go_upto_region 11 with (go_at_call 90; refine (pchk R (tqlR p ch) s false _ _ BR5.out).mono ?_; rintro x w2 ⟨rfl, hm, hB⟩; have HM := hid hm; have HB := hid hB; clear hm hB)
  have HBk : Hid (Blk w2 R 97 (rdC (tqlR p ch) s false)) := hid HB.out
  have HMk : Hid (Mod [R] w w2) := hid (HM5.out.trans HM.out)
  have HG4 := hid (fun (W : World) (hW : Mod [R] w2 W) i (v : Value) (h : w5.cell? ⟨g, i, none⟩ = some v) => (((HM.out.trans hW).cell (World.block_lt_of_cell? w5 _ h) (by simpa using HGR.out)).trans h : W.cell? ⟨g, i, none⟩ = some v))
  clear HB HM
  have c20 : w2.cell? ⟨R, 20, none⟩ = some (.bool false) := HBk.out.cell 20
  go_upto_region 12 with fail
  have hB0 : Blk w2.drew R 97 (rdC (tqlR p ch) s false) := HBk.out
  refine wp_region_held_drew (S := fun w' => Mod [R] w2 w') (by kernel_rfl) (Mod.refl _ _).drew (fun hHeld => ?_)
  generalize w2.drew = u6 at *
  refine' wpAnyH_take (i := 0) (v := _) rfl (by kernel_rfl) (by kernel_rfl) (by kernel_rfl) (fun _ _ _ h => h) (Or.inl ⟨by rfl, ?hy105⟩) hHeld ?rest105
  case hy105 => (rintro W hM; go_simp; (try with_reducible rfl))
  case rest105 =>
  (try simp only [Act.put, gTl, g0l, gSl, sTl, s0l, sSl])
  refine' wpAnyH_take (i := 1) (v := _) rfl (by kernel_rfl) (by kernel_rfl) (by kernel_rfl) (fun _ _ _ h => h) (Or.inl ⟨by rfl, ?hy106⟩) hHeld ?rest106
  case hy106 => (rintro W hM; go_simp; (try with_reducible rfl))
  case rest106 =>
  (try simp only [Act.put, gTl, g0l, gSl, sTl, s0l, sSl])
  refine' wpAnyH_take (i := 2) (v := _) rfl (by kernel_rfl) (by kernel_rfl) (by kernel_rfl) (fun _ _ _ h => h) (Or.inl ⟨by rfl, ?hy107⟩) hHeld ?rest107
  case hy107 => (rintro W hM; go_simp; (try with_reducible rfl))
  case rest107 =>
  (try simp only [Act.put, gTl, g0l, gSl, sTl, s0l, sSl])
  refine' wpAnyH_take (i := 3) (v := _) rfl (by kernel_rfl) (by kernel_rfl) (by kernel_rfl) (fun _ _ _ h => h) (Or.inl ⟨by rfl, ?hy108⟩) hHeld ?rest108
  case hy108 => (rintro W hM; go_simp; (try with_reducible rfl))
  case rest108 =>
  (try simp only [Act.put, gTl, g0l, gSl, sTl, s0l, sSl])
  refine' wpAnyH_take (i := 4) (v := _) rfl (by kernel_rfl) (by kernel_rfl) (by kernel_rfl) (fun _ _ _ h => h) (Or.inl ⟨by rfl, ?hy109⟩) hHeld ?rest109
  case hy109 => (rintro W hM; have y0 := HG4.out W hM 0 _ HG3.out.1; go_simp; (try with_reducible rfl))
  case rest109 =>
  (try simp only [Act.put, gTl, g0l, gSl, sTl, s0l, sSl])
  refine' wpAnyH_take (i := 5) (v := _) rfl (by kernel_rfl) (by kernel_rfl) (by kernel_rfl) (fun _ _ _ h => h) (Or.inl ⟨by rfl, ?hy110⟩) hHeld ?rest110
  case hy110 => (rintro W hM; go_simp; (try with_reducible rfl))
  case rest110 =>
  (try simp only [Act.put, gTl, g0l, gSl, sTl, s0l, sSl])
  refine' wpAnyH_take (i := 6) (v := _) rfl (by kernel_rfl) (by kernel_rfl) (by kernel_rfl) (fun _ _ _ h => h) (Or.inl ⟨by rfl, ?hy111⟩) hHeld ?rest111
  case hy111 => (rintro W hM; go_simp; (try with_reducible rfl))
  case rest111 =>
  (try simp only [Act.put, gTl, g0l, gSl, sTl, s0l, sSl])
  refine' wpAnyH_take (i := 7) (v := _) rfl (by kernel_rfl) (by kernel_rfl) (by kernel_rfl) (fun _ _ _ h => h) (Or.inl ⟨by rfl, ?hy112⟩) hHeld ?rest112
  case hy112 => (rintro W hM; have y1 := HG4.out W hM 1 _ HG3.out.2; go_simp; (try with_reducible rfl))
  case rest112 =>
  (try simp only [Act.put, gTl, g0l, gSl, sTl, s0l, sSl])
  refine' wpAnyH_take (i := 8) (v := _) rfl (by kernel_rfl) (by kernel_rfl) (by kernel_rfl) (fun _ _ _ h => h) (Or.inl ⟨by rfl, ?hy113⟩) hHeld ?rest113
  case hy113 => (rintro W hM; go_simp; (try with_reducible rfl))
  case rest113 =>
  (try simp only [Act.put, gTl, g0l, gSl, sTl, s0l, sSl])
  refine' wpAnyH_take (i := 9) (v := _) rfl (by kernel_rfl) (by kernel_rfl) (by kernel_rfl) (fun _ _ _ h => h) (Or.inl ⟨by rfl, ?hy114⟩) hHeld ?rest114
  case hy114 => (rintro W hM; go_simp; (try with_reducible rfl))
  case rest114 =>
  (try simp only [Act.put, gTl, g0l, gSl, sTl, s0l, sSl])
  refine' wpAnyH_take (i := 10) (v := _) rfl (by kernel_rfl) (by kernel_rfl) (by kernel_rfl) (fun _ _ _ h => h) (Or.inl ⟨by rfl, ?hy115⟩) hHeld ?rest115
  case hy115 => (rintro W hM; go_simp; (try with_reducible rfl))
  case rest115 =>
  (try simp only [Act.put, gTl, g0l, gSl, sTl, s0l, sSl])
  refine wpAnyH_ready (rs := [11]) (by kernel_rfl) (by simp) ?_
  refine AllReadyH.cons rfl (fun K hK => ?_) AllReadyH.nil
  have c0 : u6.cell? ⟨R, 17, none⟩ = some (.int .u64 (p.o : Int)) := hB0.cell 17
  have f0 : u6.frozen? ⟨R, 17, none⟩ = false := hB0.frozen 17
  go_simp
  have hB1 := hB0.set_ 17 (.int .u64 ((ch 2).n : Int))
  have hM1 := Mod.setCell hHeld (p := ⟨R, 17, none⟩) (.inl (by simp)) (.int .u64 ((ch 2).n : Int))
  generalize World.setCell u6 ⟨R, 17, none⟩ (.int .u64 ((ch 2).n : Int)) = u7 at hB1 hM1 ⊢
  refine hK.out _ _ hM1 (fun hHeld => ?_)
  clear hK K c0 f0 hM1 hB0
  (try simp only [Act.put, gTl, g0l, gSl, sTl, s0l, sSl])
  refine' wpAnyH_take (i := 12) (v := _) rfl (by kernel_rfl) (by kernel_rfl) (by kernel_rfl) (fun _ _ _ h => h) (Or.inl ⟨by rfl, ?hy116⟩) hHeld ?rest116
  case hy116 => (rintro W hM; go_simp; (try with_reducible rfl))
  case rest116 =>
  (try simp only [Act.put, gTl, g0l, gSl, sTl, s0l, sSl])
  refine' wpAnyH_take (i := 13) (v := _) rfl (by kernel_rfl) (by kernel_rfl) (by kernel_rfl) (fun _ _ _ h => h) (Or.inl ⟨by rfl, ?hy117⟩) hHeld ?rest117
  case hy117 => (rintro W hM; go_simp; (try with_reducible rfl))
  case rest117 =>
  (try simp only [Act.put, gTl, g0l, gSl, sTl, s0l, sSl])
  refine' wpAnyH_take (i := 14) (v := _) rfl (by kernel_rfl) (by kernel_rfl) (by kernel_rfl) (fun _ _ _ h => h) (Or.inl ⟨by rfl, ?hy118⟩) hHeld ?rest118
  case hy118 => (rintro W hM; go_simp; (try with_reducible rfl))
  case rest118 =>
  (try simp only [Act.put, gTl, g0l, gSl, sTl, s0l, sSl])
  refine wpAnyH_ready (rs := [15]) (by kernel_rfl) (by simp) ?_
  refine AllReadyH.cons rfl (fun K hK => ?_) AllReadyH.nil
  have c0 : u7.cell? ⟨R, 18, none⟩ = some (.int .u64 (p.n : Int)) := hB1.cell 18
  have f0 : u7.frozen? ⟨R, 18, none⟩ = false := hB1.frozen 18
  go_simp
  have hB2 := hB1.set_ 18 (.int .u64 ((ch 3).n : Int))
  have hM1 := Mod.setCell hHeld (p := ⟨R, 18, none⟩) (.inl (by simp)) (.int .u64 ((ch 3).n : Int))
  generalize World.setCell u7 ⟨R, 18, none⟩ (.int .u64 ((ch 3).n : Int)) = u8 at hB2 hM1 ⊢
  refine hK.out _ _ hM1 (fun hHeld => ?_)
  clear hK K c0 f0 hM1 hB1
  (try simp only [Act.put, gTl, g0l, gSl, sTl, s0l, sSl])
  refine wpAnyH_done (by kernel_rfl) ?_ _
  have BR : Hid (Blk u8 R 97 (rdC (fragR (tqlR p ch) ch) s false)) := hid hB2
  have HMT : Hid (Mod [R] w u8) := hid (HMk.out.trans hHeld)
  clear hHeld HG3 HG4 hB2 HGR HBk HMk c20 BR5 HM5
  go_wp2_with fail
  refine bodyPost_ret (results_none rfl _ _ _) rfl ?_
  have hr : restR p s 4 ch = ((fragR (tqlR p ch) ch), s, false) := by unfold restR; rw [if_neg (by rw [HW.out]; decide), if_neg (fun h => h HN.out), if_pos HFR.out, if_neg (fun h => h HNF.out)]; exact rfl
  rw [hr]
  exact ⟨rfl, HMT.out, BR.out⟩
 ·
  obtain rfl : k = 5 := hk
  have HCR := hid (hcr rfl)
  clear hfr hm hcr HKM
  have hb' : bits .and .u64 (p.fl : Int) 1 = 1 := by rw [hbits, if_pos HFR.out]
  have x0 : u4.cell? ⟨R, 0, none⟩ = some (.int .u64 (p.fl : Int)) := BR4.out.cell 0
  have hce : (c = 2) = False := eq_false (by have := HKC.out; omega)
  have hcf : (c - 2 = 2) = False := eq_false (by have := HKC.out; omega)
  clear hbits
  go_upto_region 9 with fail
  clear x0
  have HQA : Hid (∀ W, Ext u4 W → At5 W b (o + 10) (ch 2) (ac 2).1 (ac 2).2) := hid (fun W hM => by have := HC.out W (HM4.out.trans (hM.mono (by simp))) 2 (by decide); simpa using this)
  have HQB : Hid (∀ W, Ext u4 W → At5 W b (o + 10 + 5) (ch 3) (ac 3).1 (ac 3).2) := hid (fun W hM => by have := HC.out W (HM4.out.trans (hM.mono (by simp))) 3 (by decide); simpa [Nat.add_assoc] using this)
  by_cases hNF : (ch 2).kind = 0 ∧ (ch 3).kind = 0
  case neg =>
   have K2N := hid (fun W => nums2_no (ch 2) (ac 2).1 (ac 2).2 (ch 3) (ac 3).1 (ac 3).2 hNF W)
   have HNF := hid hNF
   clear hNF
   refine wp_region_held_drew (S := fun w' => Ext u4 w') (by kernel_rfl) (Mod.refl _ _).drew (fun hHeld => ?_)
   generalize u4.drew = u5 at *
   have hH0 := hHeld
   refine' wpAnyH_take (i := 0) (v := _) rfl (by kernel_rfl) (by kernel_rfl) (by kernel_rfl) (fun _ _ _ h => h) (Or.inl ⟨by rfl, ?hy119⟩) hHeld ?rest119
   case hy119 => (rintro W hM; go_simp; (try with_reducible rfl))
   case rest119 =>
   (try simp only [Act.put, gTl, g0l, gSl, sTl, s0l, sSl])
   refine' wpAnyH_take (i := 1) (v := _) rfl (by kernel_rfl) (by kernel_rfl) (by kernel_rfl) (fun _ _ _ h => h) (Or.inl ⟨by rfl, ?hy120⟩) hHeld ?rest120
   case hy120 => (rintro W hM; go_simp; (try with_reducible rfl))
   case rest120 =>
   (try simp only [Act.put, gTl, g0l, gSl, sTl, s0l, sSl])
   refine' wpAnyH_take (i := 2) (v := _) rfl (by kernel_rfl) (by kernel_rfl) (by kernel_rfl) (fun _ _ _ h => h) (Or.inl ⟨by rfl, ?hy121⟩) hHeld ?rest121
   case hy121 => (rintro W hM; obtain ⟨q0, q1, q2, q3, q4⟩ := HQA.out W hM; go_simp; (try with_reducible rfl))
   case rest121 =>
   (try simp only [Act.put, gTl, g0l, gSl, sTl, s0l, sSl])
   refine' wpAnyH_take (i := 3) (v := _) rfl (by kernel_rfl) (by kernel_rfl) (by kernel_rfl) (fun _ _ _ h => h) (Or.inl ⟨by rfl, ?hy122⟩) hHeld ?rest122
   case hy122 => (rintro W hM; go_simp; (try with_reducible rfl))
   case rest122 =>
   (try simp only [Act.put, gTl, g0l, gSl, sTl, s0l, sSl])
   refine' wpAnyH_take (i := 4) (v := _) rfl (by kernel_rfl) (by kernel_rfl) (by kernel_rfl) (fun _ _ _ h => h) (Or.inl ⟨by rfl, ?hy123⟩) hHeld ?rest123
   case hy123 => (rintro W hM; go_simp; (try with_reducible rfl))
   case rest123 =>
   (try simp only [Act.put, gTl, g0l, gSl, sTl, s0l, sSl])
   refine' wpAnyH_take (i := 5) (v := _) rfl (by kernel_rfl) (by kernel_rfl) (by kernel_rfl) (fun _ _ _ h => h) (Or.inl ⟨by rfl, ?hy124⟩) hHeld ?rest124
   case hy124 => (rintro W hM; obtain ⟨q0, q1, q2, q3, q4⟩ := HQB.out W hM; go_simp; (try with_reducible rfl))
   case rest124 =>
   (try simp only [Act.put, gTl, g0l, gSl, sTl, s0l, sSl])
   refine wpAnyH_ready (rs := [6]) (by kernel_rfl) (by simp) ?_
   refine AllReadyH.cons rfl (fun K hK => ?_) AllReadyH.nil
   go_simp
   refine hK.out _ _ (hHeld.alloc _) (fun hHeld => ?_)
   clear hK K
   (try simp only [Act.put, gTl, g0l, gSl, sTl, s0l, sSl])
   refine wpAnyH_ready (rs := [7]) (by kernel_rfl) (by simp) ?_
   refine AllReadyH.cons rfl (fun K hK => ?_) AllReadyH.nil
   go_simp
   go_at_call 91
   refine (K2N.out _).mono ?_
   rintro e w5 ⟨rfl, HE5⟩
   refine hK.out _ _ (hH0.trans HE5.out) (fun hHeld => ?_)
   clear hK K
   (try simp only [Act.put, gTl, g0l, gSl, sTl, s0l, sSl])
   refine' wpAnyH_take (i := 8) (v := _) rfl (by kernel_rfl) (by kernel_rfl) (by kernel_rfl) (fun _ _ _ h => h) (Or.inl ⟨by rfl, ?hy125⟩) hHeld ?rest125
   case hy125 => (rintro W hM; go_simp; (try with_reducible rfl))
   case rest125 =>
   (try simp only [Act.put, gTl, g0l, gSl, sTl, s0l, sSl])
   refine' wpAnyH_take (i := 9) (v := _) rfl (by kernel_rfl) (by kernel_rfl) (by kernel_rfl) (fun _ _ _ h => h) (Or.inl ⟨by rfl, ?hy126⟩) hHeld ?rest126
   case hy126 => (rintro W hM; go_simp; (try with_reducible rfl))
   case rest126 =>
   (try simp only [Act.put, gTl, g0l, gSl, sTl, s0l, sSl])
   refine' wpAnyH_take (i := 10) (v := _) rfl (by kernel_rfl) (by kernel_rfl) (by kernel_rfl) (fun _ _ _ h => h) (Or.inl ⟨by rfl, ?hy127⟩) hHeld ?rest127
   case hy127 => (rintro W hM; go_simp; (try with_reducible rfl))
   case rest127 =>
   (try simp only [Act.put, gTl, g0l, gSl, sTl, s0l, sSl])
   refine' wpAnyH_take (i := 11) (v := _) rfl (by kernel_rfl) (by kernel_rfl) (by kernel_rfl) (fun _ _ _ h => h) (Or.inl ⟨by rfl, ?hy128⟩) hHeld ?rest128
   case hy128 => (rintro W hM; go_simp; (try with_reducible rfl))
   case rest128 =>
   (try simp only [Act.put, gTl, g0l, gSl, sTl, s0l, sSl])
   refine' wpAnyH_take (i := 12) (v := _) rfl (by kernel_rfl) (by kernel_rfl) (by kernel_rfl) (fun _ _ _ h => h) (Or.inl ⟨by rfl, ?hy129⟩) hHeld ?rest129
   case hy129 => (rintro W hM; go_simp; (try with_reducible rfl))
   case rest129 =>
   (try simp only [Act.put, gTl, g0l, gSl, sTl, s0l, sSl])
   refine wpAnyH_done (by kernel_rfl) ?_ _
   have BR5 := hid (BR4.out.ext hHeld)
   have HM5 : Hid (Mod [R] w w5) := hid (HM4.out.trans (hHeld.mono (by simp)))
   clear hHeld HE5 hH0 HQA HQB K2N BR4 HM4
   go_upto_region 11 with (go_at_call 90; refine (pchk R (tqlR p ch) s false _ _ BR5.out).mono ?_; rintro x w2 ⟨rfl, hm, hB⟩; have HM := hid hm; have HB := hid hB; clear hm hB)
   have HBk : Hid (Blk w2 R 97 (rdC (tqlR p ch) s true)) := hid HB.out
   have HMk : Hid (Mod [R] w w2) := hid (HM5.out.trans HM.out)
   clear HB HM
   have c20 : w2.cell? ⟨R, 20, none⟩ = some (.bool true) := HBk.out.cell 20
   go_wp2_with fail
   refine bodyPost_ret (results_none rfl _ _ _) rfl ?_
   have hr : restR p s 5 ch = (tqlR p ch, s, true) := by unfold restR; rw [if_neg (by rw [HW.out]; decide), if_neg (fun h => h HN.out), if_pos HFR.out, if_pos HNF.out]
   rw [hr]
   exact ⟨rfl, HMk.out, HBk.out⟩
  have K2N := hid (fun W => nums2_yes (ch 2) (ac 2).1 (ac 2).2 (ch 3) (ac 3).1 (ac 3).2 hNF W)
  have HNF := hid hNF
  clear hNF
  refine wp_region_held_drew (S := fun w' => Ext u4 w') (by kernel_rfl) (Mod.refl _ _).drew (fun hHeld => ?_)
  generalize u4.drew = u5 at *
  have hH0 := hHeld
  refine' wpAnyH_take (i := 0) (v := _) rfl (by kernel_rfl) (by kernel_rfl) (by kernel_rfl) (fun _ _ _ h => h) (Or.inl ⟨by rfl, ?hy130⟩) hHeld ?rest130
  case hy130 => (rintro W hM; go_simp; (try with_reducible rfl))
  case rest130 =>
  (try simp only [Act.put, gTl, g0l, gSl, sTl, s0l, sSl])
  refine' wpAnyH_take (i := 1) (v := _) rfl (by kernel_rfl) (by kernel_rfl) (by kernel_rfl) (fun _ _ _ h => h) (Or.inl ⟨by rfl, ?hy131⟩) hHeld ?rest131
  case hy131 => (rintro W hM; go_simp; (try with_reducible rfl))
  case rest131 =>
  (try simp only [Act.put, gTl, g0l, gSl, sTl, s0l, sSl])
  refine' wpAnyH_take (i := 2) (v := _) rfl (by kernel_rfl) (by kernel_rfl) (by kernel_rfl) (fun _ _ _ h => h) (Or.inl ⟨by rfl, ?hy132⟩) hHeld ?rest132
  case hy132 => (rintro W hM; obtain ⟨q0, q1, q2, q3, q4⟩ := HQA.out W hM; go_simp; (try with_reducible rfl))
  case rest132 =>
  (try simp only [Act.put, gTl, g0l, gSl, sTl, s0l, sSl])
  refine' wpAnyH_take (i := 3) (v := _) rfl (by kernel_rfl) (by kernel_rfl) (by kernel_rfl) (fun _ _ _ h => h) (Or.inl ⟨by rfl, ?hy133⟩) hHeld ?rest133
  case hy133 => (rintro W hM; go_simp; (try with_reducible rfl))
  case rest133 =>
  (try simp only [Act.put, gTl, g0l, gSl, sTl, s0l, sSl])
  refine' wpAnyH_take (i := 4) (v := _) rfl (by kernel_rfl) (by kernel_rfl) (by kernel_rfl) (fun _ _ _ h => h) (Or.inl ⟨by rfl, ?hy134⟩) hHeld ?rest134
  case hy134 => (rintro W hM; go_simp; (try with_reducible rfl))
  case rest134 =>
  (try simp only [Act.put, gTl, g0l, gSl, sTl, s0l, sSl])
  refine' wpAnyH_take (i := 5) (v := _) rfl (by kernel_rfl) (by kernel_rfl) (by kernel_rfl) (fun _ _ _ h => h) (Or.inl ⟨by rfl, ?hy135⟩) hHeld ?rest135
  case hy135 => (rintro W hM; obtain ⟨q0, q1, q2, q3, q4⟩ := HQB.out W hM; go_simp; (try with_reducible rfl))
  case rest135 =>
  (try simp only [Act.put, gTl, g0l, gSl, sTl, s0l, sSl])
  refine wpAnyH_ready (rs := [6]) (by kernel_rfl) (by simp) ?_
  refine AllReadyH.cons rfl (fun K hK => ?_) AllReadyH.nil
  go_simp
  refine hK.out _ _ (hHeld.alloc _) (fun hHeld => ?_)
  clear hK K
  (try simp only [Act.put, gTl, g0l, gSl, sTl, s0l, sSl])
  refine wpAnyH_ready (rs := [7]) (by kernel_rfl) (by simp) ?_
  refine AllReadyH.cons rfl (fun K hK => ?_) AllReadyH.nil
  go_simp
  go_at_call 91
  refine (K2N.out _).mono ?_
  rintro e w5 ⟨g, cg2, rfl, HE5⟩
  refine hK.out _ _ (hH0.trans HE5.out.1) (fun hHeld => ?_)
  clear hK K
  (try simp only [Act.put, gTl, g0l, gSl, sTl, s0l, sSl])
  refine' wpAnyH_take (i := 8) (v := _) rfl (by kernel_rfl) (by kernel_rfl) (by kernel_rfl) (fun _ _ _ h => h) (Or.inl ⟨by rfl, ?hy136⟩) hHeld ?rest136
  case hy136 => (rintro W hM; go_simp; (try with_reducible rfl))
  case rest136 =>
  (try simp only [Act.put, gTl, g0l, gSl, sTl, s0l, sSl])
  refine' wpAnyH_take (i := 9) (v := _) rfl (by kernel_rfl) (by kernel_rfl) (by kernel_rfl) (fun _ _ _ h => h) (Or.inl ⟨by rfl, ?hy137⟩) hHeld ?rest137
  case hy137 => (rintro W hM; go_simp; (try with_reducible rfl))
  case rest137 =>
  (try simp only [Act.put, gTl, g0l, gSl, sTl, s0l, sSl])
  refine' wpAnyH_take (i := 10) (v := _) rfl (by kernel_rfl) (by kernel_rfl) (by kernel_rfl) (fun _ _ _ h => h) (Or.inl ⟨by rfl, ?hy138⟩) hHeld ?rest138
  case hy138 => (rintro W hM; go_simp; (try with_reducible rfl))
  case rest138 =>
  (try simp only [Act.put, gTl, g0l, gSl, sTl, s0l, sSl])
  refine' wpAnyH_take (i := 11) (v := _) rfl (by kernel_rfl) (by kernel_rfl) (by kernel_rfl) (fun _ _ _ h => h) (Or.inl ⟨by rfl, ?hy139⟩) hHeld ?rest139
  case hy139 => (rintro W hM; go_simp; (try with_reducible rfl))
  case rest139 =>
  (try simp only [Act.put, gTl, g0l, gSl, sTl, s0l, sSl])
  refine' wpAnyH_take (i := 12) (v := _) rfl (by kernel_rfl) (by kernel_rfl) (by kernel_rfl) (fun _ _ _ h => h) (Or.inl ⟨by rfl, ?hy140⟩) hHeld ?rest140
  case hy140 => (rintro W hM; go_simp; (try with_reducible rfl))
  case rest140 =>
  (try simp only [Act.put, gTl, g0l, gSl, sTl, s0l, sSl])
  refine wpAnyH_done (by kernel_rfl) ?_ _
  have BR5 := hid (BR4.out.ext hHeld)
  have HM5 : Hid (Mod [R] w w5) := hid (HM4.out.trans (hHeld.mono (by simp)))
  have HGR : Hid (g ≠ R) := hid (by have h1 := HE5.out.2.1; have h2 := hH0.size; have h3 := BR4.out.lt; omega)
  have HG3 := hid HE5.out.2.2
  clear hHeld HE5 hH0 HQA HQB K2N BR4 HM4
  go_upto_region 11 with (go_at_call 90; refine (pchk R (tqlR p ch) s false _ _ BR5.out).mono ?_; rintro x w2 ⟨rfl, hm, hB⟩; have HM := hid hm; have HB := hid hB; clear hm hB)
  have HBk : Hid (Blk w2 R 97 (rdC (tqlR p ch) s false)) := hid HB.out
  have HMk : Hid (Mod [R] w w2) := hid (HM5.out.trans HM.out)
  have HG4 := hid (fun (W : World) (hW : Mod [R] w2 W) i (v : Value) (h : w5.cell? ⟨g, i, none⟩ = some v) => (((HM.out.trans hW).cell (World.block_lt_of_cell? w5 _ h) (by simpa using HGR.out)).trans h : W.cell? ⟨g, i, none⟩ = some v))
  clear HB HM
  have c20 : w2.cell? ⟨R, 20, none⟩ = some (.bool false) := HBk.out.cell 20
  go_upto_region 12 with fail
  have hB0 : Blk w2.drew R 97 (rdC (tqlR p ch) s false) := HBk.out
  refine wp_region_held_drew (S := fun w' => Mod [R] w2 w') (by kernel_rfl) (Mod.refl _ _).drew (fun hHeld => ?_)
  generalize w2.drew = u6 at *
  refine' wpAnyH_take (i := 0) (v := _) rfl (by kernel_rfl) (by kernel_rfl) (by kernel_rfl) (fun _ _ _ h => h) (Or.inl ⟨by rfl, ?hy141⟩) hHeld ?rest141
  case hy141 => (rintro W hM; go_simp; (try with_reducible rfl))
  case rest141 =>
  (try simp only [Act.put, gTl, g0l, gSl, sTl, s0l, sSl])
  refine' wpAnyH_take (i := 1) (v := _) rfl (by kernel_rfl) (by kernel_rfl) (by kernel_rfl) (fun _ _ _ h => h) (Or.inl ⟨by rfl, ?hy142⟩) hHeld ?rest142
  case hy142 => (rintro W hM; go_simp; (try with_reducible rfl))
  case rest142 =>
  (try simp only [Act.put, gTl, g0l, gSl, sTl, s0l, sSl])
  refine' wpAnyH_take (i := 2) (v := _) rfl (by kernel_rfl) (by kernel_rfl) (by kernel_rfl) (fun _ _ _ h => h) (Or.inl ⟨by rfl, ?hy143⟩) hHeld ?rest143
  case hy143 => (rintro W hM; go_simp; (try with_reducible rfl))
  case rest143 =>
  (try simp only [Act.put, gTl, g0l, gSl, sTl, s0l, sSl])
  refine' wpAnyH_take (i := 3) (v := _) rfl (by kernel_rfl) (by kernel_rfl) (by kernel_rfl) (fun _ _ _ h => h) (Or.inl ⟨by rfl, ?hy144⟩) hHeld ?rest144
  case hy144 => (rintro W hM; go_simp; (try with_reducible rfl))
  case rest144 =>
  (try simp only [Act.put, gTl, g0l, gSl, sTl, s0l, sSl])
  refine' wpAnyH_take (i := 4) (v := _) rfl (by kernel_rfl) (by kernel_rfl) (by kernel_rfl) (fun _ _ _ h => h) (Or.inl ⟨by rfl, ?hy145⟩) hHeld ?rest145
  case hy145 => (rintro W hM; have y0 := HG4.out W hM 0 _ HG3.out.1; go_simp; (try with_reducible rfl))
  case rest145 =>
  (try simp only [Act.put, gTl, g0l, gSl, sTl, s0l, sSl])
  refine' wpAnyH_take (i := 5) (v := _) rfl (by kernel_rfl) (by kernel_rfl) (by kernel_rfl) (fun _ _ _ h => h) (Or.inl ⟨by rfl, ?hy146⟩) hHeld ?rest146
  case hy146 => (rintro W hM; go_simp; (try with_reducible rfl))
  case rest146 =>
  (try simp only [Act.put, gTl, g0l, gSl, sTl, s0l, sSl])
  refine' wpAnyH_take (i := 6) (v := _) rfl (by kernel_rfl) (by kernel_rfl) (by kernel_rfl) (fun _ _ _ h => h) (Or.inl ⟨by rfl, ?hy147⟩) hHeld ?rest147
  case hy147 => (rintro W hM; go_simp; (try with_reducible rfl))
  case rest147 =>
  (try simp only [Act.put, gTl, g0l, gSl, sTl, s0l, sSl])
  refine' wpAnyH_take (i := 7) (v := _) rfl (by kernel_rfl) (by kernel_rfl) (by kernel_rfl) (fun _ _ _ h => h) (Or.inl ⟨by rfl, ?hy148⟩) hHeld ?rest148
  case hy148 => (rintro W hM; have y1 := HG4.out W hM 1 _ HG3.out.2; go_simp; (try with_reducible rfl))
  case rest148 =>
  (try simp only [Act.put, gTl, g0l, gSl, sTl, s0l, sSl])
  refine' wpAnyH_take (i := 8) (v := _) rfl (by kernel_rfl) (by kernel_rfl) (by kernel_rfl) (fun _ _ _ h => h) (Or.inl ⟨by rfl, ?hy149⟩) hHeld ?rest149
  case hy149 => (rintro W hM; go_simp; (try with_reducible rfl))
  case rest149 =>
  (try simp only [Act.put, gTl, g0l, gSl, sTl, s0l, sSl])
  refine' wpAnyH_take (i := 9) (v := _) rfl (by kernel_rfl) (by kernel_rfl) (by kernel_rfl) (fun _ _ _ h => h) (Or.inl ⟨by rfl, ?hy150⟩) hHeld ?rest150
  case hy150 => (rintro W hM; go_simp; (try with_reducible rfl))
  case rest150 =>
  (try simp only [Act.put, gTl, g0l, gSl, sTl, s0l, sSl])
  refine' wpAnyH_take (i := 10) (v := _) rfl (by kernel_rfl) (by kernel_rfl) (by kernel_rfl) (fun _ _ _ h => h) (Or.inl ⟨by rfl, ?hy151⟩) hHeld ?rest151
  case hy151 => (rintro W hM; go_simp; (try with_reducible rfl))
  case rest151 =>
  (try simp only [Act.put, gTl, g0l, gSl, sTl, s0l, sSl])
  refine wpAnyH_ready (rs := [11]) (by kernel_rfl) (by simp) ?_
  refine AllReadyH.cons rfl (fun K hK => ?_) AllReadyH.nil
  have c0 : u6.cell? ⟨R, 17, none⟩ = some (.int .u64 (p.o : Int)) := hB0.cell 17
  have f0 : u6.frozen? ⟨R, 17, none⟩ = false := hB0.frozen 17
  go_simp
  have hB1 := hB0.set_ 17 (.int .u64 ((ch 2).n : Int))
  have hM1 := Mod.setCell hHeld (p := ⟨R, 17, none⟩) (.inl (by simp)) (.int .u64 ((ch 2).n : Int))
  generalize World.setCell u6 ⟨R, 17, none⟩ (.int .u64 ((ch 2).n : Int)) = u7 at hB1 hM1 ⊢
  refine hK.out _ _ hM1 (fun hHeld => ?_)
  clear hK K c0 f0 hM1 hB0
  (try simp only [Act.put, gTl, g0l, gSl, sTl, s0l, sSl])
  refine' wpAnyH_take (i := 12) (v := _) rfl (by kernel_rfl) (by kernel_rfl) (by kernel_rfl) (fun _ _ _ h => h) (Or.inl ⟨by rfl, ?hy152⟩) hHeld ?rest152
  case hy152 => (rintro W hM; go_simp; (try with_reducible rfl))
  case rest152 =>
  (try simp only [Act.put, gTl, g0l, gSl, sTl, s0l, sSl])
  refine' wpAnyH_take (i := 13) (v := _) rfl (by kernel_rfl) (by kernel_rfl) (by kernel_rfl) (fun _ _ _ h => h) (Or.inl ⟨by rfl, ?hy153⟩) hHeld ?rest153
  case hy153 => (rintro W hM; go_simp; (try with_reducible rfl))
  case rest153 =>
  (try simp only [Act.put, gTl, g0l, gSl, sTl, s0l, sSl])
  refine' wpAnyH_take (i := 14) (v := _) rfl (by kernel_rfl) (by kernel_rfl) (by kernel_rfl) (fun _ _ _ h => h) (Or.inl ⟨by rfl, ?hy154⟩) hHeld ?rest154
  case hy154 => (rintro W hM; go_simp; (try with_reducible rfl))
  case rest154 =>
  (try simp only [Act.put, gTl, g0l, gSl, sTl, s0l, sSl])
  refine wpAnyH_ready (rs := [15]) (by kernel_rfl) (by simp) ?_
  refine AllReadyH.cons rfl (fun K hK => ?_) AllReadyH.nil
  have c0 : u7.cell? ⟨R, 18, none⟩ = some (.int .u64 (p.n : Int)) := hB1.cell 18
  have f0 : u7.frozen? ⟨R, 18, none⟩ = false := hB1.frozen 18
  go_simp
  have hB2 := hB1.set_ 18 (.int .u64 ((ch 3).n : Int))
  have hM1 := Mod.setCell hHeld (p := ⟨R, 18, none⟩) (.inl (by simp)) (.int .u64 ((ch 3).n : Int))
  generalize World.setCell u7 ⟨R, 18, none⟩ (.int .u64 ((ch 3).n : Int)) = u8 at hB2 hM1 ⊢
  refine hK.out _ _ hM1 (fun hHeld => ?_)
  clear hK K c0 f0 hM1 hB1
  (try simp only [Act.put, gTl, g0l, gSl, sTl, s0l, sSl])
  refine wpAnyH_done (by kernel_rfl) ?_ _
  have BR : Hid (Blk u8 R 97 (rdC (fragR (tqlR p ch) ch) s false)) := hid hB2
  have HMT : Hid (Mod [R] w u8) := hid (HMk.out.trans hHeld)
  clear hHeld HG3 HG4 hB2 HGR HBk HMk c20 BR5 HM5
  go_upto_region 15 with fail
  have HQS : Hid (∀ W, Mod [R] u8 W → At5 W b (o + 20) (ch 4) (ac 4).1 (ac 4).2) := hid (fun W hM => by have := HC.out W (HMT.out.trans hM) 4 (by decide); simpa using this)
  obtain ⟨cr, hcr, hcr2⟩ := HCR.out
  obtain ⟨N2, hN2⟩ : ∃ N, N = 2 * cr := ⟨_, rfl⟩
  have KS : Hid (∀ W, Calls Tryz.prog 105 #[.int .i64 (cr : Int)] W (Ret (.int .i64 (N2 : Int)) W)) := hid (fun W => by rw [hN2]; exact Size_any cr (by omega) W)
  have HCRE := hid hcr
  have HNE := hid hN2
  clear hcr hcr2 hN2
  by_cases hkS : (ch 4).kind = 2
  case neg =>
   have HBAD : Hid ((!(decide ((ch 4).kind = 2) && decide (((ch 4).s.length : Int) = 2 * (fragR (tqlR p ch) ch).crc))) = true) := hid (by rw [decide_eq_false hkS]; rfl)
   have tua : (((ch 4).kind) == (2)) = false := by rw [beq_eq_false_iff_ne]; exact hkS
   have tub : (((ch 4).kind) = (2)) = False := eq_false (by exact hkS)
   have tuc : (((ch 4).kind) != (2)) = true := by rw [bne_iff_ne]; exact hkS
   clear hkS
   have hB0 : Blk u8.drew R 97 (rdC (fragR (tqlR p ch) ch) s false) := BR.out
   refine wp_region_held_drew (S := fun w' => Mod [R] u8 w') (by kernel_rfl) (Mod.refl _ _).drew (fun hHeld => ?_)
   generalize u8.drew = v0 at *
   refine' wpAnyH_take (i := 0) (v := _) rfl (by kernel_rfl) (by kernel_rfl) (by kernel_rfl) (fun _ _ _ h => h) (Or.inl ⟨by rfl, ?hy155⟩) hHeld ?rest155
   case hy155 => (rintro W hM; go_simp; (try with_reducible rfl))
   case rest155 =>
   (try simp only [Act.put, gTl, g0l, gSl, sTl, s0l, sSl])
   refine' wpAnyH_take (i := 1) (v := _) rfl (by kernel_rfl) (by kernel_rfl) (by kernel_rfl) (fun _ _ _ h => h) (Or.inl ⟨by rfl, ?hy156⟩) hHeld ?rest156
   case hy156 => (rintro W hM; go_simp; (try with_reducible rfl))
   case rest156 =>
   (try simp only [Act.put, gTl, g0l, gSl, sTl, s0l, sSl])
   refine' wpAnyH_take (i := 2) (v := _) rfl (by kernel_rfl) (by kernel_rfl) (by kernel_rfl) (fun _ _ _ h => h) (Or.inl ⟨by rfl, ?hy157⟩) hHeld ?rest157
   case hy157 => (rintro W hM; go_simp; (try with_reducible rfl))
   case rest157 =>
   (try simp only [Act.put, gTl, g0l, gSl, sTl, s0l, sSl])
   refine' wpAnyH_take (i := 3) (v := _) rfl (by kernel_rfl) (by kernel_rfl) (by kernel_rfl) (fun _ _ _ h => h) (Or.inl ⟨by rfl, ?hy158⟩) hHeld ?rest158
   case hy158 => (rintro W hM; go_simp; (try with_reducible rfl))
   case rest158 =>
   (try simp only [Act.put, gTl, g0l, gSl, sTl, s0l, sSl])
   refine' wpAnyH_take (i := 4) (v := _) rfl (by kernel_rfl) (by kernel_rfl) (by kernel_rfl) (fun _ _ _ h => h) (Or.inl ⟨by rfl, ?hy159⟩) hHeld ?rest159
   case hy159 => (rintro W hM; obtain ⟨q0, q1, q2, q3, q4⟩ := HQS.out W hM; go_simp; (try with_reducible rfl))
   case rest159 =>
   (try simp only [Act.put, gTl, g0l, gSl, sTl, s0l, sSl])
   refine' wpAnyH_take (i := 5) (v := _) rfl (by kernel_rfl) (by kernel_rfl) (by kernel_rfl) (fun _ _ _ h => h) (Or.inl ⟨by rfl, ?hy160⟩) hHeld ?rest160
   case hy160 => (rintro W hM; go_simp; (try with_reducible rfl))
   case rest160 =>
   (try simp only [Act.put, gTl, g0l, gSl, sTl, s0l, sSl])
   refine' wpAnyH_take (i := 6) (v := _) rfl (by kernel_rfl) (by kernel_rfl) (by kernel_rfl) (fun _ _ _ h => h) (Or.inl ⟨by rfl, ?hy161⟩) hHeld ?rest161
   case hy161 => (rintro W hM; go_simp; (try with_reducible rfl))
   case rest161 =>
   (try simp only [Act.put, gTl, g0l, gSl, sTl, s0l, sSl])
   refine wpAnyH_take (i := 7) (v := undef) rfl (by kernel_rfl) (by kernel_rfl) (by kernel_rfl) (fun _ _ _ h => h) (Or.inr ⟨by rfl, rfl⟩) hHeld ?_
   (try simp only [Act.put, gTl, g0l, gSl, sTl, s0l, sSl])
   refine wpAnyH_take (i := 8) (v := undef) rfl (by kernel_rfl) (by kernel_rfl) (by kernel_rfl) (fun _ _ _ h => h) (Or.inr ⟨by rfl, rfl⟩) hHeld ?_
   (try simp only [Act.put, gTl, g0l, gSl, sTl, s0l, sSl])
   refine wpAnyH_take (i := 9) (v := undef) rfl (by kernel_rfl) (by kernel_rfl) (by kernel_rfl) (fun _ _ _ h => h) (Or.inr ⟨by rfl, rfl⟩) hHeld ?_
   (try simp only [Act.put, gTl, g0l, gSl, sTl, s0l, sSl])
   refine wpAnyH_take (i := 10) (v := undef) rfl (by kernel_rfl) (by kernel_rfl) (by kernel_rfl) (fun _ _ _ h => h) (Or.inr ⟨by rfl, rfl⟩) hHeld ?_
   (try simp only [Act.put, gTl, g0l, gSl, sTl, s0l, sSl])
   refine wpAnyH_take (i := 11) (v := undef) rfl (by kernel_rfl) (by kernel_rfl) (by kernel_rfl) (fun _ _ _ h => h) (Or.inr ⟨by rfl, rfl⟩) hHeld ?_
   (try simp only [Act.put, gTl, g0l, gSl, sTl, s0l, sSl])
   refine wpAnyH_take (i := 12) (v := undef) rfl (by kernel_rfl) (by kernel_rfl) (by kernel_rfl) (fun _ _ _ h => h) (Or.inr ⟨by rfl, rfl⟩) hHeld ?_
   (try simp only [Act.put, gTl, g0l, gSl, sTl, s0l, sSl])
   refine wpAnyH_take (i := 13) (v := undef) rfl (by kernel_rfl) (by kernel_rfl) (by kernel_rfl) (fun _ _ _ h => h) (Or.inr ⟨by rfl, rfl⟩) hHeld ?_
   (try simp only [Act.put, gTl, g0l, gSl, sTl, s0l, sSl])
   refine wpAnyH_take (i := 14) (v := undef) rfl (by kernel_rfl) (by kernel_rfl) (by kernel_rfl) (fun _ _ _ h => h) (Or.inr ⟨by rfl, rfl⟩) hHeld ?_
   (try simp only [Act.put, gTl, g0l, gSl, sTl, s0l, sSl])
   refine wpAnyH_take (i := 15) (v := undef) rfl (by kernel_rfl) (by kernel_rfl) (by kernel_rfl) (fun _ _ _ h => h) (Or.inr ⟨by rfl, rfl⟩) hHeld ?_
   (try simp only [Act.put, gTl, g0l, gSl, sTl, s0l, sSl])
   refine wpAnyH_take (i := 16) (v := undef) rfl (by kernel_rfl) (by kernel_rfl) (by kernel_rfl) (fun _ _ _ h => h) (Or.inr ⟨by rfl, rfl⟩) hHeld ?_
   (try simp only [Act.put, gTl, g0l, gSl, sTl, s0l, sSl])
   refine wpAnyH_take (i := 17) (v := undef) rfl (by kernel_rfl) (by kernel_rfl) (by kernel_rfl) (fun _ _ _ h => h) (Or.inr ⟨by rfl, rfl⟩) hHeld ?_
   (try simp only [Act.put, gTl, g0l, gSl, sTl, s0l, sSl])
   refine wpAnyH_take (i := 18) (v := undef) rfl (by kernel_rfl) (by kernel_rfl) (by kernel_rfl) (fun _ _ _ h => h) (Or.inr ⟨by rfl, rfl⟩) hHeld ?_
   (try simp only [Act.put, gTl, g0l, gSl, sTl, s0l, sSl])
   refine' wpAnyH_take (i := 19) (v := _) rfl (by kernel_rfl) (by kernel_rfl) (by kernel_rfl) (fun _ _ _ h => h) (Or.inl ⟨by rfl, ?hy162⟩) hHeld ?rest162
   case hy162 => (rintro W hM; go_simp; (try with_reducible rfl))
   case rest162 =>
   (try simp only [Act.put, gTl, g0l, gSl, sTl, s0l, sSl])
   refine wpAnyH_ready (rs := [20]) (by kernel_rfl) (by simp) ?_
   refine AllReadyH.cons rfl (fun K hK => ?_) AllReadyH.nil
   go_simp
   go_at_call 90
   refine (pchk R (fragR (tqlR p ch) ch) s false _ _ hB0).mono ?_
   rintro e v2 ⟨rfl, hm, hB⟩
   refine hK.out _ _ (hHeld.trans hm) (fun hHeld => ?_)
   clear hK K
   (try simp only [Act.put, gTl, g0l, gSl, sTl, s0l, sSl])
   refine wpAnyH_done (by kernel_rfl) ?_ _
   have BC : Hid (Blk v2 R 97 (rdC (fragR (tqlR p ch) ch) s true)) := hid hB
   have HQ2 := hid (HQS.out v2 hHeld)
   have HM5 : Hid (Mod [R] w v2) := hid (HMT.out.trans hHeld)
   clear hHeld hm hB hB0 HQS BR HMT
   obtain ⟨q0, q1, q2, q3, q4⟩ := HQ2.out
   have c19 : v2.cell? ⟨R, 19, none⟩ = some (str s) := BC.out.cell 19
   have f19 : v2.frozen? ⟨R, 19, none⟩ = false := BC.out.frozen 19
   have BT : Hid (Blk (v2.setCell ⟨R, 19, none⟩ (str (ch 4).s)) R 97 (rdC (fragR (tqlR p ch) ch) (ch 4).s true)) := hid (BC.out.set_ 19 _)
   have HMT : Hid (Mod [R] w (v2.setCell ⟨R, 19, none⟩ (str (ch 4).s))) := hid (HM5.out.setCell (.inl (by simp)) _)
   clear BC HM5 HQ2
   go_wp2_with fail
   refine bodyPost_ret (results_none rfl _ _ _) rfl ?_
   have hr : restR p s 5 ch = ((fragR (tqlR p ch) ch), (ch 4).s, true) := by unfold restR; rw [if_neg (by rw [HW.out]; decide), if_neg (fun h => h HN.out), if_pos HFR.out, if_neg (fun h => h HNF.out)]; exact (by unfold sumR; rw [if_neg (by decide)]; simp only [Prod.mk.injEq, true_and]; exact HBAD.out)
   rw [hr]
   exact ⟨rfl, HMT.out, BT.out⟩
  by_cases hlS : (ch 4).s.length = N2
  case neg =>
   have HBAD : Hid ((!(decide ((ch 4).kind = 2) && decide (((ch 4).s.length : Int) = 2 * (fragR (tqlR p ch) ch).crc))) = true) := hid (by rw [decide_eq_false (show ¬ ((ch 4).s.length : Int) = 2 * (fragR (tqlR p ch) ch).crc from fun h => hlS (by have h1 := HCRE.out; have h2 := HNE.out; have h3 : (fragR (tqlR p ch) ch).crc = p.crc := rfl; omega))]; simp)
   have tua : (((ch 4).kind) == (2)) = true := by rw [beq_iff_eq]; exact hkS
   have tub : (((ch 4).kind) = (2)) = True := eq_true (by exact hkS)
   have tuc : (((ch 4).kind) != (2)) = false := by rw [bne_eq_false_iff_eq]; exact hkS
   have tva : (((ch 4).s.length) == (N2)) = false := by rw [beq_eq_false_iff_ne]; exact hlS
   have tvb : (((ch 4).s.length) = (N2)) = False := eq_false (by exact hlS)
   have tvc : (((ch 4).s.length) != (N2)) = true := by rw [bne_iff_ne]; exact hlS
   have twa : ((((ch 4).s.length : Int)) == ((N2 : Int))) = false := by rw [beq_eq_false_iff_ne]; omega
   have twb : ((((ch 4).s.length : Int)) = ((N2 : Int))) = False := eq_false (by omega)
   have twc : ((((ch 4).s.length : Int)) != ((N2 : Int))) = true := by rw [bne_iff_ne]; omega
   clear hkS hlS
   have hB0 : Blk u8.drew R 97 (rdC (fragR (tqlR p ch) ch) s false) := BR.out
   refine wp_region_held_drew (S := fun w' => Mod [R] u8 w' ∧ w'.cell? ⟨R, 1, none⟩ = some (.int .i64 (cr : Int))) (by kernel_rfl) ⟨(Mod.refl _ _).drew, (by have h1 : _ = some (Value.int .i64 p.crc) := (hB0).cell 1; rw [HCRE.out] at h1; exact h1)⟩ (fun hHeld => ?_)
   generalize u8.drew = v0 at *
   refine' wpAnyH_take (i := 0) (v := _) rfl (by kernel_rfl) (by kernel_rfl) (by kernel_rfl) (fun _ _ _ h => h) (Or.inl ⟨by rfl, ?hy163⟩) hHeld ?rest163
   case hy163 => (rintro W ⟨hM, x1⟩; go_simp; (try with_reducible rfl))
   case rest163 =>
   (try simp only [Act.put, gTl, g0l, gSl, sTl, s0l, sSl])
   refine' wpAnyH_take (i := 1) (v := _) rfl (by kernel_rfl) (by kernel_rfl) (by kernel_rfl) (fun _ _ _ h => h) (Or.inl ⟨by rfl, ?hy164⟩) hHeld ?rest164
   case hy164 => (rintro W ⟨hM, x1⟩; go_simp; (try with_reducible rfl))
   case rest164 =>
   (try simp only [Act.put, gTl, g0l, gSl, sTl, s0l, sSl])
   refine' wpAnyH_take (i := 2) (v := _) rfl (by kernel_rfl) (by kernel_rfl) (by kernel_rfl) (fun _ _ _ h => h) (Or.inl ⟨by rfl, ?hy165⟩) hHeld ?rest165
   case hy165 => (rintro W ⟨hM, x1⟩; go_simp; (try with_reducible rfl))
   case rest165 =>
   (try simp only [Act.put, gTl, g0l, gSl, sTl, s0l, sSl])
   refine' wpAnyH_take (i := 3) (v := _) rfl (by kernel_rfl) (by kernel_rfl) (by kernel_rfl) (fun _ _ _ h => h) (Or.inl ⟨by rfl, ?hy166⟩) hHeld ?rest166
   case hy166 => (rintro W ⟨hM, x1⟩; go_simp; (try with_reducible rfl))
   case rest166 =>
   (try simp only [Act.put, gTl, g0l, gSl, sTl, s0l, sSl])
   refine' wpAnyH_take (i := 4) (v := _) rfl (by kernel_rfl) (by kernel_rfl) (by kernel_rfl) (fun _ _ _ h => h) (Or.inl ⟨by rfl, ?hy167⟩) hHeld ?rest167
   case hy167 => (rintro W ⟨hM, x1⟩; obtain ⟨q0, q1, q2, q3, q4⟩ := HQS.out W hM; go_simp; (try with_reducible rfl))
   case rest167 =>
   (try simp only [Act.put, gTl, g0l, gSl, sTl, s0l, sSl])
   refine' wpAnyH_take (i := 5) (v := _) rfl (by kernel_rfl) (by kernel_rfl) (by kernel_rfl) (fun _ _ _ h => h) (Or.inl ⟨by rfl, ?hy168⟩) hHeld ?rest168
   case hy168 => (rintro W ⟨hM, x1⟩; go_simp; (try with_reducible rfl))
   case rest168 =>
   (try simp only [Act.put, gTl, g0l, gSl, sTl, s0l, sSl])
   refine' wpAnyH_take (i := 6) (v := _) rfl (by kernel_rfl) (by kernel_rfl) (by kernel_rfl) (fun _ _ _ h => h) (Or.inl ⟨by rfl, ?hy169⟩) hHeld ?rest169
   case hy169 => (rintro W ⟨hM, x1⟩; go_simp; (try with_reducible rfl))
   case rest169 =>
   (try simp only [Act.put, gTl, g0l, gSl, sTl, s0l, sSl])
   refine' wpAnyH_take (i := 7) (v := _) rfl (by kernel_rfl) (by kernel_rfl) (by kernel_rfl) (fun _ _ _ h => h) (Or.inl ⟨by rfl, ?hy170⟩) hHeld ?rest170
   case hy170 => (rintro W ⟨hM, x1⟩; go_simp; (try with_reducible rfl))
   case rest170 =>
   (try simp only [Act.put, gTl, g0l, gSl, sTl, s0l, sSl])
   refine' wpAnyH_take (i := 8) (v := _) rfl (by kernel_rfl) (by kernel_rfl) (by kernel_rfl) (fun _ _ _ h => h) (Or.inl ⟨by rfl, ?hy171⟩) hHeld ?rest171
   case hy171 => (rintro W ⟨hM, x1⟩; go_simp; (try with_reducible rfl))
   case rest171 =>
   (try simp only [Act.put, gTl, g0l, gSl, sTl, s0l, sSl])
   refine' wpAnyH_take (i := 9) (v := _) rfl (by kernel_rfl) (by kernel_rfl) (by kernel_rfl) (fun _ _ _ h => h) (Or.inl ⟨by rfl, ?hy172⟩) hHeld ?rest172
   case hy172 => (rintro W ⟨hM, x1⟩; go_simp; (try with_reducible rfl))
   case rest172 =>
   (try simp only [Act.put, gTl, g0l, gSl, sTl, s0l, sSl])
   refine' wpAnyH_take (i := 10) (v := _) rfl (by kernel_rfl) (by kernel_rfl) (by kernel_rfl) (fun _ _ _ h => h) (Or.inl ⟨by rfl, ?hy173⟩) hHeld ?rest173
   case hy173 => (rintro W ⟨hM, x1⟩; obtain ⟨q0, q1, q2, q3, q4⟩ := HQS.out W hM; go_simp; (try with_reducible rfl))
   case rest173 =>
   (try simp only [Act.put, gTl, g0l, gSl, sTl, s0l, sSl])
   refine' wpAnyH_take (i := 11) (v := _) rfl (by kernel_rfl) (by kernel_rfl) (by kernel_rfl) (fun _ _ _ h => h) (Or.inl ⟨by rfl, ?hy174⟩) hHeld ?rest174
   case hy174 => (rintro W ⟨hM, x1⟩; go_simp; (try with_reducible rfl))
   case rest174 =>
   (try simp only [Act.put, gTl, g0l, gSl, sTl, s0l, sSl])
   refine' wpAnyH_take (i := 12) (v := _) rfl (by kernel_rfl) (by kernel_rfl) (by kernel_rfl) (fun _ _ _ h => h) (Or.inl ⟨by rfl, ?hy175⟩) hHeld ?rest175
   case hy175 => (rintro W ⟨hM, x1⟩; go_simp; (try with_reducible rfl))
   case rest175 =>
   (try simp only [Act.put, gTl, g0l, gSl, sTl, s0l, sSl])
   refine' wpAnyH_take (i := 13) (v := _) rfl (by kernel_rfl) (by kernel_rfl) (by kernel_rfl) (fun _ _ _ h => h) (Or.inl ⟨by rfl, ?hy176⟩) hHeld ?rest176
   case hy176 => (rintro W ⟨hM, x1⟩; go_simp; (try with_reducible rfl))
   case rest176 =>
   (try simp only [Act.put, gTl, g0l, gSl, sTl, s0l, sSl])
   refine' wpAnyH_take (i := 14) (v := _) rfl (by kernel_rfl) (by kernel_rfl) (by kernel_rfl) (fun _ _ _ h => h) (Or.inl ⟨by rfl, ?hy177⟩) hHeld ?rest177
   case hy177 => (rintro W ⟨hM, x1⟩; go_simp; (try with_reducible rfl))
   case rest177 =>
   (try simp only [Act.put, gTl, g0l, gSl, sTl, s0l, sSl])
   refine' wpAnyH_take (i := 15) (v := _) rfl (by kernel_rfl) (by kernel_rfl) (by kernel_rfl) (fun _ _ _ h => h) (Or.inl ⟨by rfl, ?hy178⟩) hHeld ?rest178
   case hy178 => (rintro W ⟨hM, x1⟩; go_simp; (try with_reducible rfl))
   case rest178 =>
   (try simp only [Act.put, gTl, g0l, gSl, sTl, s0l, sSl])
   refine' wpAnyH_take (i := 16) (v := _) rfl (by kernel_rfl) (by kernel_rfl) (by kernel_rfl) (fun _ _ _ h => h) (Or.inl ⟨by rfl, ?hy179⟩) hHeld ?rest179
   case hy179 => (rintro W ⟨hM, x1⟩; go_simp; (try with_reducible rfl))
   case rest179 =>
   (try simp only [Act.put, gTl, g0l, gSl, sTl, s0l, sSl])
   refine wpAnyH_ready (rs := [17]) (by kernel_rfl) (by simp) ?_
   refine AllReadyH.cons rfl (fun K hK => ?_) AllReadyH.nil
   go_simp
   go_at_call 105
   refine (KS.out _).mono ?_
   rintro e v1 ⟨rfl, hE⟩
   have hB1 := hB0.ext hE
   refine hK.out _ _ ⟨hHeld.1.trans (hE.mono (by simp)), (by have h1 : _ = some (Value.int .i64 p.crc) := (hB1).cell 1; rw [HCRE.out] at h1; exact h1)⟩ (fun hHeld => ?_)
   clear hK K
   (try simp only [Act.put, gTl, g0l, gSl, sTl, s0l, sSl])
   refine' wpAnyH_take (i := 18) (v := _) rfl (by kernel_rfl) (by kernel_rfl) (by kernel_rfl) (fun _ _ _ h => h) (Or.inl ⟨by rfl, ?hy180⟩) hHeld ?rest180
   case hy180 => (rintro W ⟨hM, x1⟩; go_simp; (try with_reducible rfl))
   case rest180 =>
   (try simp only [Act.put, gTl, g0l, gSl, sTl, s0l, sSl])
   refine' wpAnyH_take (i := 19) (v := _) rfl (by kernel_rfl) (by kernel_rfl) (by kernel_rfl) (fun _ _ _ h => h) (Or.inl ⟨by rfl, ?hy181⟩) hHeld ?rest181
   case hy181 => (rintro W ⟨hM, x1⟩; go_simp; (try with_reducible rfl))
   case rest181 =>
   (try simp only [Act.put, gTl, g0l, gSl, sTl, s0l, sSl])
   refine wpAnyH_ready (rs := [20]) (by kernel_rfl) (by simp) ?_
   refine AllReadyH.cons rfl (fun K hK => ?_) AllReadyH.nil
   go_simp
   go_at_call 90
   refine (pchk R (fragR (tqlR p ch) ch) s false _ _ hB1).mono ?_
   rintro e v2 ⟨rfl, hm, hB⟩
   refine hK.out _ _ ⟨hHeld.1.trans hm, (by have h1 : _ = some (Value.int .i64 p.crc) := (hB).cell 1; rw [HCRE.out] at h1; exact h1)⟩ (fun hHeld => ?_)
   clear hK K
   (try simp only [Act.put, gTl, g0l, gSl, sTl, s0l, sSl])
   refine wpAnyH_done (by kernel_rfl) ?_ _
   have hHeld := hHeld.1
   have BC : Hid (Blk v2 R 97 (rdC (fragR (tqlR p ch) ch) s true)) := hid hB
   have HQ2 := hid (HQS.out v2 hHeld)
   have HM5 : Hid (Mod [R] w v2) := hid (HMT.out.trans hHeld)
   clear hHeld hm hB hB1 HQS BR HMT hB0 hE
   obtain ⟨q0, q1, q2, q3, q4⟩ := HQ2.out
   have c19 : v2.cell? ⟨R, 19, none⟩ = some (str s) := BC.out.cell 19
   have f19 : v2.frozen? ⟨R, 19, none⟩ = false := BC.out.frozen 19
   have BT : Hid (Blk (v2.setCell ⟨R, 19, none⟩ (str (ch 4).s)) R 97 (rdC (fragR (tqlR p ch) ch) (ch 4).s true)) := hid (BC.out.set_ 19 _)
   have HMT : Hid (Mod [R] w (v2.setCell ⟨R, 19, none⟩ (str (ch 4).s))) := hid (HM5.out.setCell (.inl (by simp)) _)
   clear BC HM5 HQ2
   go_wp2_with fail
   refine bodyPost_ret (results_none rfl _ _ _) rfl ?_
   have hr : restR p s 5 ch = ((fragR (tqlR p ch) ch), (ch 4).s, true) := by unfold restR; rw [if_neg (by rw [HW.out]; decide), if_neg (fun h => h HN.out), if_pos HFR.out, if_neg (fun h => h HNF.out)]; exact (by unfold sumR; rw [if_neg (by decide)]; simp only [Prod.mk.injEq, true_and]; exact HBAD.out)
   rw [hr]
   exact ⟨rfl, HMT.out, BT.out⟩
  have HBAD : Hid ((!(decide ((ch 4).kind = 2) && decide (((ch 4).s.length : Int) = 2 * (fragR (tqlR p ch) ch).crc))) = false) := hid (by rw [decide_eq_true hkS, decide_eq_true (show ((ch 4).s.length : Int) = 2 * (fragR (tqlR p ch) ch).crc by have h1 := HCRE.out; have h2 := HNE.out; have h3 : (fragR (tqlR p ch) ch).crc = p.crc := rfl; omega)]; rfl)
  have tua : (((ch 4).kind) == (2)) = true := by rw [beq_iff_eq]; exact hkS
  have tub : (((ch 4).kind) = (2)) = True := eq_true (by exact hkS)
  have tuc : (((ch 4).kind) != (2)) = false := by rw [bne_eq_false_iff_eq]; exact hkS
  have tva : (((ch 4).s.length) == (N2)) = true := by rw [beq_iff_eq]; exact hlS
  have tvb : (((ch 4).s.length) = (N2)) = True := eq_true (by exact hlS)
  have tvc : (((ch 4).s.length) != (N2)) = false := by rw [bne_eq_false_iff_eq]; exact hlS
  have twa : ((((ch 4).s.length : Int)) == ((N2 : Int))) = true := by rw [beq_iff_eq]; omega
  have twb : ((((ch 4).s.length : Int)) = ((N2 : Int))) = True := eq_true (by omega)
  have twc : ((((ch 4).s.length : Int)) != ((N2 : Int))) = false := by rw [bne_eq_false_iff_eq]; omega
  clear hkS hlS
  have hB0 : Blk u8.drew R 97 (rdC (fragR (tqlR p ch) ch) s false) := BR.out
  refine wp_region_held_drew (S := fun w' => Mod [R] u8 w' ∧ w'.cell? ⟨R, 1, none⟩ = some (.int .i64 (cr : Int))) (by kernel_rfl) ⟨(Mod.refl _ _).drew, (by have h1 : _ = some (Value.int .i64 p.crc) := (hB0).cell 1; rw [HCRE.out] at h1; exact h1)⟩ (fun hHeld => ?_)
  generalize u8.drew = v0 at *
  refine' wpAnyH_take (i := 0) (v := _) rfl (by kernel_rfl) (by kernel_rfl) (by kernel_rfl) (fun _ _ _ h => h) (Or.inl ⟨by rfl, ?hy182⟩) hHeld ?rest182
  case hy182 => (rintro W ⟨hM, x1⟩; go_simp; (try with_reducible rfl))
  case rest182 =>
  (try simp only [Act.put, gTl, g0l, gSl, sTl, s0l, sSl])
  refine' wpAnyH_take (i := 1) (v := _) rfl (by kernel_rfl) (by kernel_rfl) (by kernel_rfl) (fun _ _ _ h => h) (Or.inl ⟨by rfl, ?hy183⟩) hHeld ?rest183
  case hy183 => (rintro W ⟨hM, x1⟩; go_simp; (try with_reducible rfl))
  case rest183 =>
  (try simp only [Act.put, gTl, g0l, gSl, sTl, s0l, sSl])
  refine' wpAnyH_take (i := 2) (v := _) rfl (by kernel_rfl) (by kernel_rfl) (by kernel_rfl) (fun _ _ _ h => h) (Or.inl ⟨by rfl, ?hy184⟩) hHeld ?rest184
  case hy184 => (rintro W ⟨hM, x1⟩; go_simp; (try with_reducible rfl))
  case rest184 =>
  (try simp only [Act.put, gTl, g0l, gSl, sTl, s0l, sSl])
  refine' wpAnyH_take (i := 3) (v := _) rfl (by kernel_rfl) (by kernel_rfl) (by kernel_rfl) (fun _ _ _ h => h) (Or.inl ⟨by rfl, ?hy185⟩) hHeld ?rest185
  case hy185 => (rintro W ⟨hM, x1⟩; go_simp; (try with_reducible rfl))
  case rest185 =>
  (try simp only [Act.put, gTl, g0l, gSl, sTl, s0l, sSl])
  refine' wpAnyH_take (i := 4) (v := _) rfl (by kernel_rfl) (by kernel_rfl) (by kernel_rfl) (fun _ _ _ h => h) (Or.inl ⟨by rfl, ?hy186⟩) hHeld ?rest186
  case hy186 => (rintro W ⟨hM, x1⟩; obtain ⟨q0, q1, q2, q3, q4⟩ := HQS.out W hM; go_simp; (try with_reducible rfl))
  case rest186 =>
  (try simp only [Act.put, gTl, g0l, gSl, sTl, s0l, sSl])
  refine' wpAnyH_take (i := 5) (v := _) rfl (by kernel_rfl) (by kernel_rfl) (by kernel_rfl) (fun _ _ _ h => h) (Or.inl ⟨by rfl, ?hy187⟩) hHeld ?rest187
  case hy187 => (rintro W ⟨hM, x1⟩; go_simp; (try with_reducible rfl))
  case rest187 =>
  (try simp only [Act.put, gTl, g0l, gSl, sTl, s0l, sSl])
  refine' wpAnyH_take (i := 6) (v := _) rfl (by kernel_rfl) (by kernel_rfl) (by kernel_rfl) (fun _ _ _ h => h) (Or.inl ⟨by rfl, ?hy188⟩) hHeld ?rest188
  case hy188 => (rintro W ⟨hM, x1⟩; go_simp; (try with_reducible rfl))
  case rest188 =>
  (try simp only [Act.put, gTl, g0l, gSl, sTl, s0l, sSl])
  refine' wpAnyH_take (i := 7) (v := _) rfl (by kernel_rfl) (by kernel_rfl) (by kernel_rfl) (fun _ _ _ h => h) (Or.inl ⟨by rfl, ?hy189⟩) hHeld ?rest189
  case hy189 => (rintro W ⟨hM, x1⟩; go_simp; (try with_reducible rfl))
  case rest189 =>
  (try simp only [Act.put, gTl, g0l, gSl, sTl, s0l, sSl])
  refine' wpAnyH_take (i := 8) (v := _) rfl (by kernel_rfl) (by kernel_rfl) (by kernel_rfl) (fun _ _ _ h => h) (Or.inl ⟨by rfl, ?hy190⟩) hHeld ?rest190
  case hy190 => (rintro W ⟨hM, x1⟩; go_simp; (try with_reducible rfl))
  case rest190 =>
  (try simp only [Act.put, gTl, g0l, gSl, sTl, s0l, sSl])
  refine' wpAnyH_take (i := 9) (v := _) rfl (by kernel_rfl) (by kernel_rfl) (by kernel_rfl) (fun _ _ _ h => h) (Or.inl ⟨by rfl, ?hy191⟩) hHeld ?rest191
  case hy191 => (rintro W ⟨hM, x1⟩; go_simp; (try with_reducible rfl))
  case rest191 =>
  (try simp only [Act.put, gTl, g0l, gSl, sTl, s0l, sSl])
  refine' wpAnyH_take (i := 10) (v := _) rfl (by kernel_rfl) (by kernel_rfl) (by kernel_rfl) (fun _ _ _ h => h) (Or.inl ⟨by rfl, ?hy192⟩) hHeld ?rest192
  case hy192 => (rintro W ⟨hM, x1⟩; obtain ⟨q0, q1, q2, q3, q4⟩ := HQS.out W hM; go_simp; (try with_reducible rfl))
  case rest192 =>
  (try simp only [Act.put, gTl, g0l, gSl, sTl, s0l, sSl])
  refine' wpAnyH_take (i := 11) (v := _) rfl (by kernel_rfl) (by kernel_rfl) (by kernel_rfl) (fun _ _ _ h => h) (Or.inl ⟨by rfl, ?hy193⟩) hHeld ?rest193
  case hy193 => (rintro W ⟨hM, x1⟩; go_simp; (try with_reducible rfl))
  case rest193 =>
  (try simp only [Act.put, gTl, g0l, gSl, sTl, s0l, sSl])
  refine' wpAnyH_take (i := 12) (v := _) rfl (by kernel_rfl) (by kernel_rfl) (by kernel_rfl) (fun _ _ _ h => h) (Or.inl ⟨by rfl, ?hy194⟩) hHeld ?rest194
  case hy194 => (rintro W ⟨hM, x1⟩; go_simp; (try with_reducible rfl))
  case rest194 =>
  (try simp only [Act.put, gTl, g0l, gSl, sTl, s0l, sSl])
  refine' wpAnyH_take (i := 13) (v := _) rfl (by kernel_rfl) (by kernel_rfl) (by kernel_rfl) (fun _ _ _ h => h) (Or.inl ⟨by rfl, ?hy195⟩) hHeld ?rest195
  case hy195 => (rintro W ⟨hM, x1⟩; go_simp; (try with_reducible rfl))
  case rest195 =>
  (try simp only [Act.put, gTl, g0l, gSl, sTl, s0l, sSl])
  refine' wpAnyH_take (i := 14) (v := _) rfl (by kernel_rfl) (by kernel_rfl) (by kernel_rfl) (fun _ _ _ h => h) (Or.inl ⟨by rfl, ?hy196⟩) hHeld ?rest196
  case hy196 => (rintro W ⟨hM, x1⟩; go_simp; (try with_reducible rfl))
  case rest196 =>
  (try simp only [Act.put, gTl, g0l, gSl, sTl, s0l, sSl])
  refine' wpAnyH_take (i := 15) (v := _) rfl (by kernel_rfl) (by kernel_rfl) (by kernel_rfl) (fun _ _ _ h => h) (Or.inl ⟨by rfl, ?hy197⟩) hHeld ?rest197
  case hy197 => (rintro W ⟨hM, x1⟩; go_simp; (try with_reducible rfl))
  case rest197 =>
  (try simp only [Act.put, gTl, g0l, gSl, sTl, s0l, sSl])
  refine' wpAnyH_take (i := 16) (v := _) rfl (by kernel_rfl) (by kernel_rfl) (by kernel_rfl) (fun _ _ _ h => h) (Or.inl ⟨by rfl, ?hy198⟩) hHeld ?rest198
  case hy198 => (rintro W ⟨hM, x1⟩; go_simp; (try with_reducible rfl))
  case rest198 =>
  (try simp only [Act.put, gTl, g0l, gSl, sTl, s0l, sSl])
  refine wpAnyH_ready (rs := [17]) (by kernel_rfl) (by simp) ?_
  refine AllReadyH.cons rfl (fun K hK => ?_) AllReadyH.nil
  go_simp
  go_at_call 105
  refine (KS.out _).mono ?_
  rintro e v1 ⟨rfl, hE⟩
  have hB1 := hB0.ext hE
  refine hK.out _ _ ⟨hHeld.1.trans (hE.mono (by simp)), (by have h1 : _ = some (Value.int .i64 p.crc) := (hB1).cell 1; rw [HCRE.out] at h1; exact h1)⟩ (fun hHeld => ?_)
  clear hK K
  (try simp only [Act.put, gTl, g0l, gSl, sTl, s0l, sSl])
  refine' wpAnyH_take (i := 18) (v := _) rfl (by kernel_rfl) (by kernel_rfl) (by kernel_rfl) (fun _ _ _ h => h) (Or.inl ⟨by rfl, ?hy199⟩) hHeld ?rest199
  case hy199 => (rintro W ⟨hM, x1⟩; go_simp; (try with_reducible rfl))
  case rest199 =>
  (try simp only [Act.put, gTl, g0l, gSl, sTl, s0l, sSl])
  refine' wpAnyH_take (i := 19) (v := _) rfl (by kernel_rfl) (by kernel_rfl) (by kernel_rfl) (fun _ _ _ h => h) (Or.inl ⟨by rfl, ?hy200⟩) hHeld ?rest200
  case hy200 => (rintro W ⟨hM, x1⟩; go_simp; (try with_reducible rfl))
  case rest200 =>
  (try simp only [Act.put, gTl, g0l, gSl, sTl, s0l, sSl])
  refine wpAnyH_ready (rs := [20]) (by kernel_rfl) (by simp) ?_
  refine AllReadyH.cons rfl (fun K hK => ?_) AllReadyH.nil
  go_simp
  go_at_call 90
  refine (pchk R (fragR (tqlR p ch) ch) s false _ _ hB1).mono ?_
  rintro e v2 ⟨rfl, hm, hB⟩
  refine hK.out _ _ ⟨hHeld.1.trans hm, (by have h1 : _ = some (Value.int .i64 p.crc) := (hB).cell 1; rw [HCRE.out] at h1; exact h1)⟩ (fun hHeld => ?_)
  clear hK K
  (try simp only [Act.put, gTl, g0l, gSl, sTl, s0l, sSl])
  refine wpAnyH_done (by kernel_rfl) ?_ _
  have hHeld := hHeld.1
  have BC : Hid (Blk v2 R 97 (rdC (fragR (tqlR p ch) ch) s false)) := hid hB
  have HQ2 := hid (HQS.out v2 hHeld)
  have HM5 : Hid (Mod [R] w v2) := hid (HMT.out.trans hHeld)
  clear hHeld hm hB hB1 HQS BR HMT hB0 hE
  obtain ⟨q0, q1, q2, q3, q4⟩ := HQ2.out
  have c19 : v2.cell? ⟨R, 19, none⟩ = some (str s) := BC.out.cell 19
  have f19 : v2.frozen? ⟨R, 19, none⟩ = false := BC.out.frozen 19
  have BT : Hid (Blk (v2.setCell ⟨R, 19, none⟩ (str (ch 4).s)) R 97 (rdC (fragR (tqlR p ch) ch) (ch 4).s false)) := hid (BC.out.set_ 19 _)
  have HMT : Hid (Mod [R] w (v2.setCell ⟨R, 19, none⟩ (str (ch 4).s))) := hid (HM5.out.setCell (.inl (by simp)) _)
  clear BC HM5 HQ2
  go_wp2_with fail
  refine bodyPost_ret (results_none rfl _ _ _) rfl ?_
  have hr : restR p s 5 ch = ((fragR (tqlR p ch) ch), (ch 4).s, false) := by unfold restR; rw [if_neg (by rw [HW.out]; decide), if_neg (fun h => h HN.out), if_pos HFR.out, if_neg (fun h => h HNF.out)]; exact (by unfold sumR; rw [if_neg (by decide)]; simp only [Prod.mk.injEq, true_and]; exact HBAD.out)
  rw [hr]
  exact ⟨rfl, HMT.out, BT.out⟩
end Go.Proofs.YtfgipgpbjfhflaaGreat
