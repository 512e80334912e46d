/-
 What a primary's reader reads (primary's read).
 An argument api.EID, opened; two numbers in a row.
 An argument api.Bundle, opened: its primary's cells; its blocks lie in memory.
 Two primaries compared.
 What a primary is read of (primary's Of), plainly.
 Primary's Of, of any item.
 What is made is read again: numbers, hops.
 What is made is read again: hops, whole.
 What data tell, by their bytes alone: a name, an age, hops.
-/
import Derived.Test.YtfgipgpbjfhflaaGreatMBundleBackh
import Derived.OpenShut
import Derived.DeepKeys

namespace Go.Proofs.YtfgipgpbjfhflaaGreat
open Go.RowKit
set_option linter.unusedVariables false
set_option linter.unusedSimpArgs false

def headR (t : T) : Bool := t.right 8 && decide (t.kind = 4) && !t.op && decide (8 ≤ t.k)
def numsR (t : T) : Prop := ((kidT t 0).kind = 0 ∧ (kidT t 1).kind = 0 ∧ (kidT t 2).kind = 0) ∧ (kidT t 0).n = 7 ∧ t.k = cntN (kidT t 1).n (kidT t 2).n
instance (t : T) : Decidable (numsR t) := by unfold numsR; infer_instance
def flcR (p : PV) (t : T) : PV := { p with fl := (kidT t 1).n, crc := ((min (kidT t 2).n 3 : Nat) : Int) }
/-- What read reads. -/
def readR (p : PV) (s : List UInt8) (t : T) : PV × List UInt8 × Bool :=
 if headR t = false then (p, s, true) else
 if ¬ numsR t then (p, s, true) else
 if nmB false (fun i => kidT t (i + 3)) 3 = true then (nmP (flcR p t) (fun i => kidT t (i + 3)) 3, s, true)
 else restR (nmP (flcR p t) (fun i => kidT t (i + 3)) 3) s (t.k - 6) (fun i => kidT t (i + 6))
theorem nums_first (ch : Nat → T) (ac : Nat → Option Addr × Nat) (c b o : Nat) (w : World) (hb : b < w.heap.size) (hc : ∀ i, i < 3 → At5 w b (o + i * 5) (ch i) (ac i).1 (ac i).2) (h : (ch 0).kind = 0 ∧ (ch 1).kind = 0 ∧ (ch 2).kind = 0) : Calls Tryz.prog 91 #[.slice (some ⟨b, o, none⟩) 3 c] w (fun e w' => ∃ g cg, e = .returned (.tuple #[.slice (some ⟨g, 0, none⟩) 3 cg, .bool true]) ∧ Hid (Ext w w' ∧ w.heap.size ≤ g ∧ w'.cell? ⟨g, 0, none⟩ = some (.int .u64 ((ch 0).n : Int)) ∧ w'.cell? ⟨g, 1, none⟩ = some (.int .u64 ((ch 1).n : Int)) ∧ w'.cell? ⟨g, 2, none⟩ = some (.int .u64 ((ch 2).n : Int)))) := by
 refine (pnums ch ac 3 c b o (by decide) w hb hc).mono ?_
 rintro e w' ⟨hE, (⟨hall, A, c', rfl, ho⟩ | ⟨⟨i, hi, hne⟩, rfl⟩)⟩
 ·
  obtain ⟨g, rfl, hg, hcs⟩ := nums_cells (by decide) ho
  exact ⟨g, c', rfl, hid ⟨hE, hg, hcs 0 (by decide), hcs 1 (by decide), hcs 2 (by decide)⟩⟩
 ·
  exfalso
  match i, hi with | 0, _ => exact hne h.1 | 1, _ => exact hne h.2.1 | 2, _ => exact hne h.2.2
theorem nums_first_no (ch : Nat → T) (ac : Nat → Option Addr × Nat) (c b o : Nat) (w : World) (hb : b < w.heap.size) (hc : ∀ i, i < 3 → At5 w b (o + i * 5) (ch i) (ac i).1 (ac i).2) (h : ¬ ((ch 0).kind = 0 ∧ (ch 1).kind = 0 ∧ (ch 2).kind = 0)) : Calls Tryz.prog 91 #[.slice (some ⟨b, o, none⟩) 3 c] w (fun e w' => e = .returned (.tuple #[.slice none 0 0, .bool false]) ∧ Hid (Ext w w')) := by
 refine (pnums ch ac 3 c b o (by decide) w hb hc).mono ?_
 rintro e w' ⟨hE, (⟨hall, A, c', rfl, ho⟩ | ⟨⟨i, hi, hne⟩, rfl⟩)⟩
 · exact absurd ⟨hall 0 (by decide), hall 1 (by decide), hall 2 (by decide)⟩ h
 · exact ⟨rfl, hid hE⟩
/-- An item's items, all at once. -/
theorem kids_of {w : World} {Q : Nat → Prop} {t : T} {A : Option Addr} (hk : 0 < t.k) (h : IsL w Q t A) : ∃ (b o : Nat) (ac : Nat → Option Addr × Nat), A = some ⟨b, o, none⟩ ∧ b < w.heap.size ∧ Q b ∧ ∀ i, i < t.k → At5 w b (o + i * 5) (kidT t i) (ac i).1 (ac i).2 ∧ IsL w Q (kidT t i) (ac i).1 := by
 cases t with
 | nil => exact absurd h (by simp [IsL])
 | mk kd n s op kk cw =>
  obtain ⟨b, o, e, hb, hq, hh⟩ := h hk
  have key : ∀ i, ∃ x : Option Addr × Nat, i < kk → At5 w b (o + i * 5) (cw i) x.1 x.2 ∧ IsL w Q (cw i) x.1 := fun i => by
   by_cases hi : i < kk
   ·
    obtain ⟨Ai, ci, h1, h2⟩ := hh i hi
    exact ⟨(Ai, ci), fun _ => ⟨h1, h2⟩⟩
   · exact ⟨(none, 0), fun h => absurd h hi⟩
  exact ⟨b, o, fun i => Classical.choose (key i), e, hb, hq, fun i hi => Classical.choose_spec (key i) hi⟩
theorem kid_ok {t : T} (h : t.ok) {i : Nat} (hi : i < t.k) : (kidT t i).ok := by
 cases t with
 | nil => exact absurd hi (Nat.not_lt_zero _)
 | mk kd n s op k ch => unfold T.ok at h; exact h.2.2.2.2 i hi
theorem nlt_of {t : T} (h : t.ok) : t.n < 18446744073709551616 := by
 cases t with
 | nil => decide
 | mk kd n s op k ch => unfold T.ok at h; exact h.2.1
set_option maxRecDepth 20000 in
set_option maxHeartbeats 16000000 in
theorem pread (R : Nat) (p : PV) (s : List UInt8) (t : T) (hok : t.ok) (A : Option Addr) (c : Nat) (hkc : t.k ≤ c) (w : World) (h : Blk w R 97 (rdC p s false)) (hl : IsL w (fun n => n ≠ R) t A) : Calls Tryz.prog 61 #[.pointer (some ⟨R, 0, none⟩), itemV t A c] w (RestPost R (readR p s t) w) := by
 have KR := hid (fun W (hW : IsL W (fun _ => True) t A) => iRight_any t hok A c W hW)
 have HL := hid hl
 have HR := hid h
 have HKC := hid hkc
 have HOK := hid hok
 have HE := hid ((Mod.refl [] w).alloc (.cells (itemC t A c) 52))
 have HB0 := hid (Blk.new w 52 (itemC t A c))
 clear h hl hkc hok
 go_enter Tryz.func61, Tryz.ntmps61
 go_upto_region 1 with fail
 have HNV : Hid (w.heap.size ≠ R) := hid (by have := HR.out.lt; omega)
 have HR1 := hid (HR.out.ext HE.out)
 have HLZ := hid (HL.out.ext HE.out)
 have HLT := hid (IsL.weak (R := fun _ => True) (fun _ _ _ => trivial) _ HLZ.out)
 have HM1 : Hid (Mod [R] w (w.alloc (.cells (itemC t A c) 52))) := hid (HE.out.mono (by simp))
 generalize hZ : w.alloc (.cells (itemC t A c) 52) = Z at *
 clear hZ HR
 have z0 : ∀ e : Later Z, e.x.cell? ⟨w.heap.size, 0, none⟩ = some (.int .i64 t.kind) := HB0.out.cellL 0 rfl
 have z1 : ∀ e : Later Z, e.x.cell? ⟨w.heap.size, 1, none⟩ = some (.int .u64 (t.n : Int)) := HB0.out.cellL 1 rfl
 have z2 : ∀ e : Later Z, e.x.cell? ⟨w.heap.size, 2, none⟩ = some (str t.s) := HB0.out.cellL 2 rfl
 have z3 : ∀ e : Later Z, e.x.cell? ⟨w.heap.size, 3, none⟩ = some (.slice A t.k c) := HB0.out.cellL 3 rfl
 have z4 : ∀ e : Later Z, e.x.cell? ⟨w.heap.size, 4, none⟩ = some (.bool t.op) := HB0.out.cellL 4 rfl
 have HW8 : Hid (headR t = headR t) := hid rfl
 obtain ⟨e, he⟩ := Later.self Z
 rw [he]
 clear he
 cases hrt : t.right 8 with
 | false =>
  rw [hrt] at KR
  have HW : Hid (headR t = false) := hid (by unfold headR; rw [hrt]; rfl)
  clear hrt
  go_upto_region 2 with (first | (go_at_call 70; refine (Ret.later (KR.out _ (HLT.out.ext (Later.h _)))).mono ?_; rintro x _ ⟨rfl, e, rfl⟩) | (go_at_call 90; refine (pchk R p s false _ _ (HR1.out.later _)).mono ?_; rintro x w2 ⟨rfl, hm, hB⟩; have HM := hid (Mod.trans (Mod.mono (Later.h _) (by simp)) hm); have HB := hid hB; clear hm hB))
  have HBk : Hid (Blk w2 R 97 (rdC p s true)) := hid HB.out
  have HMk : Hid (Mod [R] w w2) := hid (HM1.out.trans HM.out)
  have c20 : w2.cell? ⟨R, 20, none⟩ = some (.bool true) := HBk.out.cell 20
  clear HB HM
  go_wp2_with fail
  refine bodyPost_ret (results_none rfl _ _ _) rfl ?_
  have hr : readR p s t = (p, s, true) := by unfold readR; rw [if_pos HW.out]
  rw [hr]
  exact ⟨rfl, HMk.out, HBk.out⟩
 | true =>
 rw [hrt] at KR
 have HRT := hid hrt
 clear hrt
 by_cases hkd : t.kind = 4
 case neg =>
  have HW : Hid (headR t = false) := hid (by unfold headR; rw [decide_eq_false hkd]; simp)
  have tka : ((t.kind) == (4)) = false := by rw [beq_eq_false_iff_ne]; exact hkd
  have tkb : ((t.kind) = (4)) = False := eq_false (by exact hkd)
  have tkc : ((t.kind) != (4)) = true := by rw [bne_iff_ne]; exact hkd
  clear hkd
  go_upto_region 2 with (first | (go_at_call 70; refine (Ret.later (KR.out _ (HLT.out.ext (Later.h _)))).mono ?_; rintro x _ ⟨rfl, e, rfl⟩) | (go_at_call 90; refine (pchk R p s false _ _ (HR1.out.later _)).mono ?_; rintro x w2 ⟨rfl, hm, hB⟩; have HM := hid (Mod.trans (Mod.mono (Later.h _) (by simp)) hm); have HB := hid hB; clear hm hB))
  have HBk : Hid (Blk w2 R 97 (rdC p s true)) := hid HB.out
  have HMk : Hid (Mod [R] w w2) := hid (HM1.out.trans HM.out)
  have c20 : w2.cell? ⟨R, 20, none⟩ = some (.bool true) := HBk.out.cell 20
  clear HB HM
  go_wp2_with fail
  refine bodyPost_ret (results_none rfl _ _ _) rfl ?_
  have hr : readR p s t = (p, s, true) := by unfold readR; rw [if_pos HW.out]
  rw [hr]
  exact ⟨rfl, HMk.out, HBk.out⟩
 have HKD := hid hkd
 have tka : ((t.kind) == (4)) = true := by rw [beq_iff_eq]; exact hkd
 have tkb : ((t.kind) = (4)) = True := eq_true (by exact hkd)
 have tkc : ((t.kind) != (4)) = false := by rw [bne_eq_false_iff_eq]; exact hkd
 clear hkd
 by_cases hop : t.op = true
 case pos =>
  have HW : Hid (headR t = false) := hid (by unfold headR; rw [hop]; simp)
  rw [hop] at z4
  have KR : Hid (∀ W, IsL W (fun _ => True) t A → Calls Tryz.prog 70 #[.agg #[.int .i64 t.kind, .int .u64 (t.n : Int), str t.s, .slice A t.k c, .bool true]] W (Ret (.bool true) W)) := hid (fun W hW => by
   have h : Calls Tryz.prog 70 #[.agg #[.int .i64 t.kind, .int .u64 (t.n : Int), str t.s, .slice A t.k c, .bool t.op]] W (Ret (.bool true) W) := KR.out W hW
   rw [hop] at h; exact h)
  clear hop HKD
  go_upto_region 2 with (first | (go_at_call 70; refine (Ret.later (KR.out _ (HLT.out.ext (Later.h _)))).mono ?_; rintro x _ ⟨rfl, e, rfl⟩) | (go_at_call 90; refine (pchk R p s false _ _ (HR1.out.later _)).mono ?_; rintro x w2 ⟨rfl, hm, hB⟩; have HM := hid (Mod.trans (Mod.mono (Later.h _) (by simp)) hm); have HB := hid hB; clear hm hB))
  have HBk : Hid (Blk w2 R 97 (rdC p s true)) := hid HB.out
  have HMk : Hid (Mod [R] w w2) := hid (HM1.out.trans HM.out)
  have c20 : w2.cell? ⟨R, 20, none⟩ = some (.bool true) := HBk.out.cell 20
  clear HB HM
  go_wp2_with fail
  refine bodyPost_ret (results_none rfl _ _ _) rfl ?_
  have hr : readR p s t = (p, s, true) := by unfold readR; rw [if_pos HW.out]
  rw [hr]
  exact ⟨rfl, HMk.out, HBk.out⟩
 have hop' : t.op = false := by simpa using hop
 rw [hop'] at z4
 have KR : Hid (∀ W, IsL W (fun _ => True) t A → Calls Tryz.prog 70 #[.agg #[.int .i64 t.kind, .int .u64 (t.n : Int), str t.s, .slice A t.k c, .bool false]] W (Ret (.bool true) W)) := hid (fun W hW => by
  have h : Calls Tryz.prog 70 #[.agg #[.int .i64 t.kind, .int .u64 (t.n : Int), str t.s, .slice A t.k c, .bool t.op]] W (Ret (.bool true) W) := KR.out W hW
  rw [hop'] at h; exact h)
 have HOP := hid hop'
 clear hop hop'
 by_cases hk8 : 8 ≤ t.k
 case neg =>
  have HW : Hid (headR t = false) := hid (by unfold headR; rw [decide_eq_false hk8]; simp)
  have tla : decide (8 ≤ t.k) = false := decide_eq_false (by omega)
  have tlb : (8 ≤ t.k) = False := eq_false (by omega)
  have tma : decide ((8 : Int) ≤ (t.k : Int)) = false := decide_eq_false (by omega)
  have tmb : ((8 : Int) ≤ (t.k : Int)) = False := eq_false (by omega)
  clear hk8 HKD HOP
  go_upto_region 2 with (first | (go_at_call 70; refine (Ret.later (KR.out _ (HLT.out.ext (Later.h _)))).mono ?_; rintro x _ ⟨rfl, e, rfl⟩) | (go_at_call 90; refine (pchk R p s false _ _ (HR1.out.later _)).mono ?_; rintro x w2 ⟨rfl, hm, hB⟩; have HM := hid (Mod.trans (Mod.mono (Later.h _) (by simp)) hm); have HB := hid hB; clear hm hB))
  have HBk : Hid (Blk w2 R 97 (rdC p s true)) := hid HB.out
  have HMk : Hid (Mod [R] w w2) := hid (HM1.out.trans HM.out)
  have c20 : w2.cell? ⟨R, 20, none⟩ = some (.bool true) := HBk.out.cell 20
  clear HB HM
  go_wp2_with fail
  refine bodyPost_ret (results_none rfl _ _ _) rfl ?_
  have hr : readR p s t = (p, s, true) := by unfold readR; rw [if_pos HW.out]
  rw [hr]
  exact ⟨rfl, HMk.out, HBk.out⟩
 have HW : Hid (headR t = true) := hid (by unfold headR; rw [HRT.out, HKD.out, HOP.out, decide_eq_true hk8]; rfl)
 have tla : decide (8 ≤ t.k) = true := decide_eq_true (by omega)
 have tlb : (8 ≤ t.k) = True := eq_true (by omega)
 have tma : decide ((8 : Int) ≤ (t.k : Int)) = true := decide_eq_true (by omega)
 have tmb : ((8 : Int) ≤ (t.k : Int)) = True := eq_true (by omega)
 have HK8 := hid hk8
 clear hk8
 go_upto_region 2 with (first | (go_at_call 70; refine (Ret.later (KR.out _ (HLT.out.ext (Later.h _)))).mono ?_; rintro x _ ⟨rfl, e, rfl⟩) | (go_at_call 90; refine (pchk R p s false _ _ (HR1.out.later _)).mono ?_; rintro x w2 ⟨rfl, hm, hB⟩; have HM := hid (Mod.trans (Mod.mono (Later.h _) (by simp)) hm); have HB := hid hB; clear hm hB))
 have HBk : Hid (Blk w2 R 97 (rdC p s false)) := hid HB.out
 have HMk : Hid (Mod [R] w w2) := hid (HM1.out.trans HM.out)
 have c20 : w2.cell? ⟨R, 20, none⟩ = some (.bool false) := HBk.out.cell 20
 have HBV : Hid (Blk w2 w.heap.size 52 (itemC t A c)) := hid (HB0.out.mod HM.out (by simpa using HNV.out))
 have HLR := hid (IsL.mod (Q := fun n => n ≠ R) HM.out (fun k hk _ => by simpa using hk) _ HLZ.out)
 go_upto_region 3 with fail
 clear z0 z1 z2 z3 z4 HM HB c20 HB0 HR1 HLZ HLT e
 obtain ⟨b2, o2, ac, rfl, hb2, hbR, hkids⟩ := kids_of (by have := HK8.out; omega) HLR.out
 have HKD3 := hid hkids
 have HBB := hid (And.intro hb2 hbR)
 have q3 : w2.cell? ⟨w.heap.size, 3, none⟩ = some (.slice (some ⟨b2, o2, none⟩) t.k c) := HBV.out.cell 3
 have e3 : (3 : Int) ≤ (c : Int) := by have := HK8.out; have := HKC.out; omega
 have e3n : 3 ≤ c := by omega
 by_cases hN : (kidT t 0).kind = 0 ∧ (kidT t 1).kind = 0 ∧ (kidT t 2).kind = 0
 case neg =>
  have KN := hid (nums_first_no (kidT t) ac c b2 o2 w2 hb2 (fun i hi => (hkids i (by have := HK8.out; omega)).1) hN)
  have HN := hid hN
  clear hN hkids hb2 hbR
  go_upto_region 4 with (go_at_call 91; refine KN.out.mono ?_; rintro x w3 ⟨rfl, HE3⟩)
  clear q3 KN
  have HNR : Hid (¬ numsR t) := hid (fun h => HN.out h.1)
  have hB0 : Blk w3.drew R 97 (rdC p s false) := (HBk.out.ext HE3.out).drew
  refine wp_region_held_drew (S := fun w' => Mod [R] w3 w') (by kernel_rfl) (Mod.refl _ _).drew (fun hHeld => ?_)
  generalize w3.drew = v0 at *
  refine' wpAnyH_take (i := 0) (v := _) rfl (by kernel_rfl) (by kernel_rfl) (by kernel_rfl) (fun _ _ _ h => h) (Or.inl ⟨by rfl, ?hy1⟩) hHeld ?rest1
  case hy1 => (rintro W hM; go_simp; (try with_reducible rfl))
  case rest1 =>
  (try simp only [Act.put, gTl, g0l, gSl, sTl, s0l, sSl])
  refine' wpAnyH_take (i := 1) (v := _) rfl (by kernel_rfl) (by kernel_rfl) (by kernel_rfl) (fun _ _ _ h => h) (Or.inl ⟨by rfl, ?hy2⟩) hHeld ?rest2
  case hy2 => (rintro W hM; go_simp; (try with_reducible rfl))
  case rest2 =>
  (try simp only [Act.put, gTl, g0l, gSl, sTl, s0l, sSl])
  refine' wpAnyH_take (i := 2) (v := _) rfl (by kernel_rfl) (by kernel_rfl) (by kernel_rfl) (fun _ _ _ h => h) (Or.inl ⟨by rfl, ?hy3⟩) hHeld ?rest3
  case hy3 => (rintro W hM; go_simp; (try with_reducible rfl))
  case rest3 =>
  (try simp only [Act.put, gTl, g0l, gSl, sTl, s0l, sSl])
  refine wpAnyH_take (i := 3) (v := undef) rfl (by kernel_rfl) (by kernel_rfl) (by kernel_rfl) (fun _ _ _ h => h) (Or.inr ⟨by rfl, rfl⟩) hHeld ?_
  (try simp only [Act.put, gTl, g0l, gSl, sTl, s0l, sSl])
  refine wpAnyH_take (i := 4) (v := undef) rfl (by kernel_rfl) (by kernel_rfl) (by kernel_rfl) (fun _ _ _ h => h) (Or.inr ⟨by rfl, rfl⟩) hHeld ?_
  (try simp only [Act.put, gTl, g0l, gSl, sTl, s0l, sSl])
  refine wpAnyH_take (i := 5) (v := undef) rfl (by kernel_rfl) (by kernel_rfl) (by kernel_rfl) (fun _ _ _ h => h) (Or.inr ⟨by rfl, rfl⟩) hHeld ?_
  (try simp only [Act.put, gTl, g0l, gSl, sTl, s0l, sSl])
  refine wpAnyH_take (i := 6) (v := undef) rfl (by kernel_rfl) (by kernel_rfl) (by kernel_rfl) (fun _ _ _ h => h) (Or.inr ⟨by rfl, rfl⟩) hHeld ?_
  (try simp only [Act.put, gTl, g0l, gSl, sTl, s0l, sSl])
  refine' wpAnyH_take (i := 7) (v := _) rfl (by kernel_rfl) (by kernel_rfl) (by kernel_rfl) (fun _ _ _ h => h) (Or.inl ⟨by rfl, ?hy4⟩) hHeld ?rest4
  case hy4 => (rintro W hM; go_simp; (try with_reducible rfl))
  case rest4 =>
  (try simp only [Act.put, gTl, g0l, gSl, sTl, s0l, sSl])
  refine' wpAnyH_take (i := 8) (v := _) rfl (by kernel_rfl) (by kernel_rfl) (by kernel_rfl) (fun _ _ _ h => h) (Or.inl ⟨by rfl, ?hy5⟩) hHeld ?rest5
  case hy5 => (rintro W hM; go_simp; (try with_reducible rfl))
  case rest5 =>
  (try simp only [Act.put, gTl, g0l, gSl, sTl, s0l, sSl])
  refine wpAnyH_take (i := 9) (v := undef) rfl (by kernel_rfl) (by kernel_rfl) (by kernel_rfl) (fun _ _ _ h => h) (Or.inr ⟨by rfl, rfl⟩) hHeld ?_
  (try simp only [Act.put, gTl, g0l, gSl, sTl, s0l, sSl])
  refine wpAnyH_take (i := 10) (v := undef) rfl (by kernel_rfl) (by kernel_rfl) (by kernel_rfl) (fun _ _ _ h => h) (Or.inr ⟨by rfl, rfl⟩) hHeld ?_
  (try simp only [Act.put, gTl, g0l, gSl, sTl, s0l, sSl])
  refine wpAnyH_take (i := 11) (v := undef) rfl (by kernel_rfl) (by kernel_rfl) (by kernel_rfl) (fun _ _ _ h => h) (Or.inr ⟨by rfl, rfl⟩) hHeld ?_
  (try simp only [Act.put, gTl, g0l, gSl, sTl, s0l, sSl])
  refine wpAnyH_take (i := 12) (v := undef) rfl (by kernel_rfl) (by kernel_rfl) (by kernel_rfl) (fun _ _ _ h => h) (Or.inr ⟨by rfl, rfl⟩) hHeld ?_
  (try simp only [Act.put, gTl, g0l, gSl, sTl, s0l, sSl])
  refine wpAnyH_take (i := 13) (v := undef) rfl (by kernel_rfl) (by kernel_rfl) (by kernel_rfl) (fun _ _ _ h => h) (Or.inr ⟨by rfl, rfl⟩) hHeld ?_
  (try simp only [Act.put, gTl, g0l, gSl, sTl, s0l, sSl])
  refine wpAnyH_take (i := 14) (v := undef) rfl (by kernel_rfl) (by kernel_rfl) (by kernel_rfl) (fun _ _ _ h => h) (Or.inr ⟨by rfl, rfl⟩) hHeld ?_
  (try simp only [Act.put, gTl, g0l, gSl, sTl, s0l, sSl])
  refine wpAnyH_take (i := 15) (v := undef) rfl (by kernel_rfl) (by kernel_rfl) (by kernel_rfl) (fun _ _ _ h => h) (Or.inr ⟨by rfl, rfl⟩) hHeld ?_
  (try simp only [Act.put, gTl, g0l, gSl, sTl, s0l, sSl])
  refine wpAnyH_take (i := 16) (v := undef) rfl (by kernel_rfl) (by kernel_rfl) (by kernel_rfl) (fun _ _ _ h => h) (Or.inr ⟨by rfl, rfl⟩) hHeld ?_
  (try simp only [Act.put, gTl, g0l, gSl, sTl, s0l, sSl])
  refine wpAnyH_take (i := 17) (v := undef) rfl (by kernel_rfl) (by kernel_rfl) (by kernel_rfl) (fun _ _ _ h => h) (Or.inr ⟨by rfl, rfl⟩) hHeld ?_
  (try simp only [Act.put, gTl, g0l, gSl, sTl, s0l, sSl])
  refine wpAnyH_take (i := 18) (v := undef) rfl (by kernel_rfl) (by kernel_rfl) (by kernel_rfl) (fun _ _ _ h => h) (Or.inr ⟨by rfl, rfl⟩) hHeld ?_
  (try simp only [Act.put, gTl, g0l, gSl, sTl, s0l, sSl])
  refine wpAnyH_take (i := 19) (v := undef) rfl (by kernel_rfl) (by kernel_rfl) (by kernel_rfl) (fun _ _ _ h => h) (Or.inr ⟨by rfl, rfl⟩) hHeld ?_
  (try simp only [Act.put, gTl, g0l, gSl, sTl, s0l, sSl])
  refine' wpAnyH_take (i := 20) (v := _) rfl (by kernel_rfl) (by kernel_rfl) (by kernel_rfl) (fun _ _ _ h => h) (Or.inl ⟨by rfl, ?hy6⟩) hHeld ?rest6
  case hy6 => (rintro W hM; go_simp; (try with_reducible rfl))
  case rest6 =>
  (try simp only [Act.put, gTl, g0l, gSl, sTl, s0l, sSl])
  refine wpAnyH_ready (rs := [21]) (by kernel_rfl) (by simp) ?_
  refine AllReadyH.cons rfl (fun K hK => ?_) AllReadyH.nil
  go_simp
  go_at_call 90
  refine (pchk R p s false _ _ hB0).mono ?_
  rintro e v2 ⟨rfl, hm, hB⟩
  refine hK.out _ _ (hHeld.trans hm) (fun hHeld => ?_)
  clear hK K
  (try simp only [Act.put, gTl, g0l, gSl, sTl, s0l, sSl])
  refine wpAnyH_done (by kernel_rfl) ?_ _
  have BC : Hid (Blk v2 R 97 (rdC p s true)) := hid hB
  have HM5 : Hid (Mod [R] w v2) := hid (HMk.out.trans ((HE3.out.mono (by simp)).trans hHeld))
  clear hHeld hm hB hB0
  have c20 : v2.cell? ⟨R, 20, none⟩ = some (.bool true) := BC.out.cell 20
  go_wp2_with fail
  refine bodyPost_ret (results_none rfl _ _ _) rfl ?_
  have hr : readR p s t = (p, s, true) := by unfold readR; rw [if_neg (by rw [HW.out]; decide), if_pos HNR.out]
  rw [hr]
  exact ⟨rfl, HM5.out, BC.out⟩
 have HKN : Hid (∀ i, i < t.k → (kidT t i).ok) := hid (fun i hi => kid_ok HOK.out hi)
 have KN := hid (nums_first (kidT t) ac c b2 o2 w2 hb2 (fun i hi => (hkids i (by have := HK8.out; omega)).1) hN)
 have HN := hid hN
 clear hN hkids hb2 hbR
 go_upto_region 4 with (go_at_call 91; refine KN.out.mono ?_; rintro x w3 ⟨g, cg, rfl, H3⟩)
 clear q3 KN
 have HGR : Hid (g ≠ R) := hid (by have h1 := H3.out.2.1; have h2 := HBk.out.lt; omega)
 have HG4 := hid (fun (W : World) (hW : Mod [R] w3 W) i (v : Value) (h : w3.cell? ⟨g, i, none⟩ = some v) => ((hW.cell (World.block_lt_of_cell? w3 _ h) (by simpa using HGR.out)).trans h : W.cell? ⟨g, i, none⟩ = some v))
 have HBV3 : Hid (∀ W, Mod [R] w3 W → W.cell? ⟨w.heap.size, 3, none⟩ = some (.slice (some ⟨b2, o2, none⟩) t.k c)) := hid (fun W hW => ((HBV.out.ext H3.out.1).mod hW (by simpa using HNV.out)).cell 3)
 have HG3 := hid H3.out.2.2
 by_cases h7 : (kidT t 0).n = 7
 case neg =>
  have HNR : Hid (¬ numsR t) := hid (fun h => h7 h.2.1)
  have taa : ((((kidT t 0).n : Int)) == (7)) = false := by rw [beq_eq_false_iff_ne]; omega
  have tab : ((((kidT t 0).n : Int)) = (7)) = False := eq_false (by omega)
  have tac : ((((kidT t 0).n : Int)) != (7)) = true := by rw [bne_iff_ne]; omega
  have tba : (((kidT t 0).n) == (7)) = false := by rw [beq_eq_false_iff_ne]; exact h7
  have tbb : (((kidT t 0).n) = (7)) = False := eq_false (by exact h7)
  have tbc : (((kidT t 0).n) != (7)) = true := by rw [bne_iff_ne]; exact h7
  clear h7
  have hB0 : Blk w3.drew R 97 (rdC p s false) := (HBk.out.ext H3.out.1).drew
  refine wp_region_held_drew (S := fun w' => Mod [R] w3 w') (by kernel_rfl) (Mod.refl _ _).drew (fun hHeld => ?_)
  generalize w3.drew = v0 at *
  refine' wpAnyH_take (i := 0) (v := _) rfl (by kernel_rfl) (by kernel_rfl) (by kernel_rfl) (fun _ _ _ h => h) (Or.inl ⟨by rfl, ?hy7⟩) hHeld ?rest7
  case hy7 => (rintro W hM; go_simp; (try with_reducible rfl))
  case rest7 =>
  (try simp only [Act.put, gTl, g0l, gSl, sTl, s0l, sSl])
  refine' wpAnyH_take (i := 1) (v := _) rfl (by kernel_rfl) (by kernel_rfl) (by kernel_rfl) (fun _ _ _ h => h) (Or.inl ⟨by rfl, ?hy8⟩) hHeld ?rest8
  case hy8 => (rintro W hM; go_simp; (try with_reducible rfl))
  case rest8 =>
  (try simp only [Act.put, gTl, g0l, gSl, sTl, s0l, sSl])
  refine' wpAnyH_take (i := 2) (v := _) rfl (by kernel_rfl) (by kernel_rfl) (by kernel_rfl) (fun _ _ _ h => h) (Or.inl ⟨by rfl, ?hy9⟩) hHeld ?rest9
  case hy9 => (rintro W hM; go_simp; (try with_reducible rfl))
  case rest9 =>
  (try simp only [Act.put, gTl, g0l, gSl, sTl, s0l, sSl])
  refine' wpAnyH_take (i := 3) (v := _) rfl (by kernel_rfl) (by kernel_rfl) (by kernel_rfl) (fun _ _ _ h => h) (Or.inl ⟨by rfl, ?hy10⟩) hHeld ?rest10
  case hy10 => (rintro W hM; go_simp; (try with_reducible rfl))
  case rest10 =>
  (try simp only [Act.put, gTl, g0l, gSl, sTl, s0l, sSl])
  refine' wpAnyH_take (i := 4) (v := _) rfl (by kernel_rfl) (by kernel_rfl) (by kernel_rfl) (fun _ _ _ h => h) (Or.inl ⟨by rfl, ?hy11⟩) hHeld ?rest11
  case hy11 => (rintro W hM; go_simp; (try with_reducible rfl))
  case rest11 =>
  (try simp only [Act.put, gTl, g0l, gSl, sTl, s0l, sSl])
  refine' wpAnyH_take (i := 5) (v := _) rfl (by kernel_rfl) (by kernel_rfl) (by kernel_rfl) (fun _ _ _ h => h) (Or.inl ⟨by rfl, ?hy12⟩) hHeld ?rest12
  case hy12 => (rintro W hM; have y0 := HG4.out W hM 0 _ HG3.out.1; go_simp; (try with_reducible rfl))
  case rest12 =>
  (try simp only [Act.put, gTl, g0l, gSl, sTl, s0l, sSl])
  refine' wpAnyH_take (i := 6) (v := _) rfl (by kernel_rfl) (by kernel_rfl) (by kernel_rfl) (fun _ _ _ h => h) (Or.inl ⟨by rfl, ?hy13⟩) hHeld ?rest13
  case hy13 => (rintro W hM; go_simp; (try with_reducible rfl))
  case rest13 =>
  (try simp only [Act.put, gTl, g0l, gSl, sTl, s0l, sSl])
  refine' wpAnyH_take (i := 7) (v := _) rfl (by kernel_rfl) (by kernel_rfl) (by kernel_rfl) (fun _ _ _ h => h) (Or.inl ⟨by rfl, ?hy14⟩) hHeld ?rest14
  case hy14 => (rintro W hM; go_simp; (try with_reducible rfl))
  case rest14 =>
  (try simp only [Act.put, gTl, g0l, gSl, sTl, s0l, sSl])
  refine' wpAnyH_take (i := 8) (v := _) rfl (by kernel_rfl) (by kernel_rfl) (by kernel_rfl) (fun _ _ _ h => h) (Or.inl ⟨by rfl, ?hy15⟩) hHeld ?rest15
  case hy15 => (rintro W hM; go_simp; (try with_reducible rfl))
  case rest15 =>
  (try simp only [Act.put, gTl, g0l, gSl, sTl, s0l, sSl])
  refine wpAnyH_take (i := 9) (v := undef) rfl (by kernel_rfl) (by kernel_rfl) (by kernel_rfl) (fun _ _ _ h => h) (Or.inr ⟨by rfl, rfl⟩) hHeld ?_
  (try simp only [Act.put, gTl, g0l, gSl, sTl, s0l, sSl])
  refine wpAnyH_take (i := 10) (v := undef) rfl (by kernel_rfl) (by kernel_rfl) (by kernel_rfl) (fun _ _ _ h => h) (Or.inr ⟨by rfl, rfl⟩) hHeld ?_
  (try simp only [Act.put, gTl, g0l, gSl, sTl, s0l, sSl])
  refine wpAnyH_take (i := 11) (v := undef) rfl (by kernel_rfl) (by kernel_rfl) (by kernel_rfl) (fun _ _ _ h => h) (Or.inr ⟨by rfl, rfl⟩) hHeld ?_
  (try simp only [Act.put, gTl, g0l, gSl, sTl, s0l, sSl])
  refine wpAnyH_take (i := 12) (v := undef) rfl (by kernel_rfl) (by kernel_rfl) (by kernel_rfl) (fun _ _ _ h => h) (Or.inr ⟨by rfl, rfl⟩) hHeld ?_
  (try simp only [Act.put, gTl, g0l, gSl, sTl, s0l, sSl])
  refine wpAnyH_take (i := 13) (v := undef) rfl (by kernel_rfl) (by kernel_rfl) (by kernel_rfl) (fun _ _ _ h => h) (Or.inr ⟨by rfl, rfl⟩) hHeld ?_
  (try simp only [Act.put, gTl, g0l, gSl, sTl, s0l, sSl])
  refine wpAnyH_take (i := 14) (v := undef) rfl (by kernel_rfl) (by kernel_rfl) (by kernel_rfl) (fun _ _ _ h => h) (Or.inr ⟨by rfl, rfl⟩) hHeld ?_
  (try simp only [Act.put, gTl, g0l, gSl, sTl, s0l, sSl])
  refine wpAnyH_take (i := 15) (v := undef) rfl (by kernel_rfl) (by kernel_rfl) (by kernel_rfl) (fun _ _ _ h => h) (Or.inr ⟨by rfl, rfl⟩) hHeld ?_
  (try simp only [Act.put, gTl, g0l, gSl, sTl, s0l, sSl])
  refine wpAnyH_take (i := 16) (v := undef) rfl (by kernel_rfl) (by kernel_rfl) (by kernel_rfl) (fun _ _ _ h => h) (Or.inr ⟨by rfl, rfl⟩) hHeld ?_
  (try simp only [Act.put, gTl, g0l, gSl, sTl, s0l, sSl])
  refine wpAnyH_take (i := 17) (v := undef) rfl (by kernel_rfl) (by kernel_rfl) (by kernel_rfl) (fun _ _ _ h => h) (Or.inr ⟨by rfl, rfl⟩) hHeld ?_
  (try simp only [Act.put, gTl, g0l, gSl, sTl, s0l, sSl])
  refine wpAnyH_take (i := 18) (v := undef) rfl (by kernel_rfl) (by kernel_rfl) (by kernel_rfl) (fun _ _ _ h => h) (Or.inr ⟨by rfl, rfl⟩) hHeld ?_
  (try simp only [Act.put, gTl, g0l, gSl, sTl, s0l, sSl])
  refine wpAnyH_take (i := 19) (v := undef) rfl (by kernel_rfl) (by kernel_rfl) (by kernel_rfl) (fun _ _ _ h => h) (Or.inr ⟨by rfl, rfl⟩) hHeld ?_
  (try simp only [Act.put, gTl, g0l, gSl, sTl, s0l, sSl])
  refine' wpAnyH_take (i := 20) (v := _) rfl (by kernel_rfl) (by kernel_rfl) (by kernel_rfl) (fun _ _ _ h => h) (Or.inl ⟨by rfl, ?hy16⟩) hHeld ?rest16
  case hy16 => (rintro W hM; go_simp; (try with_reducible rfl))
  case rest16 =>
  (try simp only [Act.put, gTl, g0l, gSl, sTl, s0l, sSl])
  refine wpAnyH_ready (rs := [21]) (by kernel_rfl) (by simp) ?_
  refine AllReadyH.cons rfl (fun K hK => ?_) AllReadyH.nil
  go_simp
  go_at_call 90
  refine (pchk R p s false _ _ hB0).mono ?_
  rintro e v2 ⟨rfl, hm, hB⟩
  refine hK.out _ _ (hHeld.trans hm) (fun hHeld => ?_)
  clear hK K
  (try simp only [Act.put, gTl, g0l, gSl, sTl, s0l, sSl])
  refine wpAnyH_done (by kernel_rfl) ?_ _
  have BC : Hid (Blk v2 R 97 (rdC p s true)) := hid hB
  have HM35 : Hid (Mod [R] w3 v2) := hid hHeld
  have HM5 : Hid (Mod [R] w v2) := hid (HMk.out.trans ((H3.out.1.mono (by simp)).trans hHeld))
  clear hHeld hm hB hB0
  have c20 : v2.cell? ⟨R, 20, none⟩ = some (.bool true) := BC.out.cell 20
  go_wp2_with fail
  refine bodyPost_ret (results_none rfl _ _ _) rfl ?_
  have hr : readR p s t = (p, s, true) := by unfold readR; rw [if_neg (by rw [HW.out]; decide), if_pos HNR.out]
  rw [hr]
  exact ⟨rfl, HM5.out, BC.out⟩
 have taa : ((((kidT t 0).n : Int)) == (7)) = true := by rw [beq_iff_eq]; omega
 have tab : ((((kidT t 0).n : Int)) = (7)) = True := eq_true (by omega)
 have tac : ((((kidT t 0).n : Int)) != (7)) = false := by rw [bne_eq_false_iff_eq]; omega
 have tba : (((kidT t 0).n) == (7)) = true := by rw [beq_iff_eq]; exact h7
 have tbb : (((kidT t 0).n) = (7)) = True := eq_true (by exact h7)
 have tbc : (((kidT t 0).n) != (7)) = false := by rw [bne_eq_false_iff_eq]; exact h7
 have H7 := hid h7
 clear h7
 have KC := hid (fun W => pcount (kidT t 1).n (kidT t 2).n (nlt_of (HKN.out 1 (by have := HK8.out; omega))) (nlt_of (HKN.out 2 (by have := HK8.out; omega))) W)
 by_cases hcn : t.k = cntN (kidT t 1).n (kidT t 2).n
 case neg =>
  have HNR : Hid (¬ numsR t) := hid (fun h => hcn h.2.2)
  have tca : (((t.k : Int)) == (((cntN (kidT t 1).n (kidT t 2).n : Nat) : Int))) = false := by rw [beq_eq_false_iff_ne]; omega
  have tcb : (((t.k : Int)) = (((cntN (kidT t 1).n (kidT t 2).n : Nat) : Int))) = False := eq_false (by omega)
  have tcc : (((t.k : Int)) != (((cntN (kidT t 1).n (kidT t 2).n : Nat) : Int))) = true := by rw [bne_iff_ne]; omega
  have tda : ((t.k) == (cntN (kidT t 1).n (kidT t 2).n)) = false := by rw [beq_eq_false_iff_ne]; exact hcn
  have tdb : ((t.k) = (cntN (kidT t 1).n (kidT t 2).n)) = False := eq_false (by exact hcn)
  have tdc : ((t.k) != (cntN (kidT t 1).n (kidT t 2).n)) = true := by rw [bne_iff_ne]; exact hcn
  clear hcn
  have hB0 : Blk w3.drew R 97 (rdC p s false) := (HBk.out.ext H3.out.1).drew
  refine wp_region_held_drew (S := fun w' => Mod [R] w3 w') (by kernel_rfl) (Mod.refl _ _).drew (fun hHeld => ?_)
  generalize w3.drew = v0 at *
  refine' wpAnyH_take (i := 0) (v := _) rfl (by kernel_rfl) (by kernel_rfl) (by kernel_rfl) (fun _ _ _ h => h) (Or.inl ⟨by rfl, ?hy17⟩) hHeld ?rest17
  case hy17 => (rintro W hM; go_simp; (try with_reducible rfl))
  case rest17 =>
  (try simp only [Act.put, gTl, g0l, gSl, sTl, s0l, sSl])
  refine' wpAnyH_take (i := 1) (v := _) rfl (by kernel_rfl) (by kernel_rfl) (by kernel_rfl) (fun _ _ _ h => h) (Or.inl ⟨by rfl, ?hy18⟩) hHeld ?rest18
  case hy18 => (rintro W hM; go_simp; (try with_reducible rfl))
  case rest18 =>
  (try simp only [Act.put, gTl, g0l, gSl, sTl, s0l, sSl])
  refine' wpAnyH_take (i := 2) (v := _) rfl (by kernel_rfl) (by kernel_rfl) (by kernel_rfl) (fun _ _ _ h => h) (Or.inl ⟨by rfl, ?hy19⟩) hHeld ?rest19
  case hy19 => (rintro W hM; go_simp; (try with_reducible rfl))
  case rest19 =>
  (try simp only [Act.put, gTl, g0l, gSl, sTl, s0l, sSl])
  refine' wpAnyH_take (i := 3) (v := _) rfl (by kernel_rfl) (by kernel_rfl) (by kernel_rfl) (fun _ _ _ h => h) (Or.inl ⟨by rfl, ?hy20⟩) hHeld ?rest20
  case hy20 => (rintro W hM; go_simp; (try with_reducible rfl))
  case rest20 =>
  (try simp only [Act.put, gTl, g0l, gSl, sTl, s0l, sSl])
  refine' wpAnyH_take (i := 4) (v := _) rfl (by kernel_rfl) (by kernel_rfl) (by kernel_rfl) (fun _ _ _ h => h) (Or.inl ⟨by rfl, ?hy21⟩) hHeld ?rest21
  case hy21 => (rintro W hM; go_simp; (try with_reducible rfl))
  case rest21 =>
  (try simp only [Act.put, gTl, g0l, gSl, sTl, s0l, sSl])
  refine' wpAnyH_take (i := 5) (v := _) rfl (by kernel_rfl) (by kernel_rfl) (by kernel_rfl) (fun _ _ _ h => h) (Or.inl ⟨by rfl, ?hy22⟩) hHeld ?rest22
  case hy22 => (rintro W hM; have y0 := HG4.out W hM 0 _ HG3.out.1; go_simp; (try with_reducible rfl))
  case rest22 =>
  (try simp only [Act.put, gTl, g0l, gSl, sTl, s0l, sSl])
  refine' wpAnyH_take (i := 6) (v := _) rfl (by kernel_rfl) (by kernel_rfl) (by kernel_rfl) (fun _ _ _ h => h) (Or.inl ⟨by rfl, ?hy23⟩) hHeld ?rest23
  case hy23 => (rintro W hM; go_simp; (try with_reducible rfl))
  case rest23 =>
  (try simp only [Act.put, gTl, g0l, gSl, sTl, s0l, sSl])
  refine' wpAnyH_take (i := 7) (v := _) rfl (by kernel_rfl) (by kernel_rfl) (by kernel_rfl) (fun _ _ _ h => h) (Or.inl ⟨by rfl, ?hy24⟩) hHeld ?rest24
  case hy24 => (rintro W hM; go_simp; (try with_reducible rfl))
  case rest24 =>
  (try simp only [Act.put, gTl, g0l, gSl, sTl, s0l, sSl])
  refine' wpAnyH_take (i := 8) (v := _) rfl (by kernel_rfl) (by kernel_rfl) (by kernel_rfl) (fun _ _ _ h => h) (Or.inl ⟨by rfl, ?hy25⟩) hHeld ?rest25
  case hy25 => (rintro W hM; go_simp; (try with_reducible rfl))
  case rest25 =>
  (try simp only [Act.put, gTl, g0l, gSl, sTl, s0l, sSl])
  refine' wpAnyH_take (i := 9) (v := _) rfl (by kernel_rfl) (by kernel_rfl) (by kernel_rfl) (fun _ _ _ h => h) (Or.inl ⟨by rfl, ?hy26⟩) hHeld ?rest26
  case hy26 => (rintro W hM; go_simp; (try with_reducible rfl))
  case rest26 =>
  (try simp only [Act.put, gTl, g0l, gSl, sTl, s0l, sSl])
  refine' wpAnyH_take (i := 10) (v := _) rfl (by kernel_rfl) (by kernel_rfl) (by kernel_rfl) (fun _ _ _ h => h) (Or.inl ⟨by rfl, ?hy27⟩) hHeld ?rest27
  case hy27 => (rintro W hM; have y3 := HBV3.out W hM; go_simp; (try with_reducible rfl))
  case rest27 =>
  (try simp only [Act.put, gTl, g0l, gSl, sTl, s0l, sSl])
  refine' wpAnyH_take (i := 11) (v := _) rfl (by kernel_rfl) (by kernel_rfl) (by kernel_rfl) (fun _ _ _ h => h) (Or.inl ⟨by rfl, ?hy28⟩) hHeld ?rest28
  case hy28 => (rintro W hM; go_simp; (try with_reducible rfl))
  case rest28 =>
  (try simp only [Act.put, gTl, g0l, gSl, sTl, s0l, sSl])
  refine' wpAnyH_take (i := 12) (v := _) rfl (by kernel_rfl) (by kernel_rfl) (by kernel_rfl) (fun _ _ _ h => h) (Or.inl ⟨by rfl, ?hy29⟩) hHeld ?rest29
  case hy29 => (rintro W hM; go_simp; (try with_reducible rfl))
  case rest29 =>
  (try simp only [Act.put, gTl, g0l, gSl, sTl, s0l, sSl])
  refine' wpAnyH_take (i := 13) (v := _) rfl (by kernel_rfl) (by kernel_rfl) (by kernel_rfl) (fun _ _ _ h => h) (Or.inl ⟨by rfl, ?hy30⟩) hHeld ?rest30
  case hy30 => (rintro W hM; go_simp; (try with_reducible rfl))
  case rest30 =>
  (try simp only [Act.put, gTl, g0l, gSl, sTl, s0l, sSl])
  refine' wpAnyH_take (i := 14) (v := _) rfl (by kernel_rfl) (by kernel_rfl) (by kernel_rfl) (fun _ _ _ h => h) (Or.inl ⟨by rfl, ?hy31⟩) hHeld ?rest31
  case hy31 => (rintro W hM; have y1 := HG4.out W hM 1 _ HG3.out.2.1; go_simp; (try with_reducible rfl))
  case rest31 =>
  (try simp only [Act.put, gTl, g0l, gSl, sTl, s0l, sSl])
  refine' wpAnyH_take (i := 15) (v := _) rfl (by kernel_rfl) (by kernel_rfl) (by kernel_rfl) (fun _ _ _ h => h) (Or.inl ⟨by rfl, ?hy32⟩) hHeld ?rest32
  case hy32 => (rintro W hM; go_simp; (try with_reducible rfl))
  case rest32 =>
  (try simp only [Act.put, gTl, g0l, gSl, sTl, s0l, sSl])
  refine' wpAnyH_take (i := 16) (v := _) rfl (by kernel_rfl) (by kernel_rfl) (by kernel_rfl) (fun _ _ _ h => h) (Or.inl ⟨by rfl, ?hy33⟩) hHeld ?rest33
  case hy33 => (rintro W hM; go_simp; (try with_reducible rfl))
  case rest33 =>
  (try simp only [Act.put, gTl, g0l, gSl, sTl, s0l, sSl])
  refine' wpAnyH_take (i := 17) (v := _) rfl (by kernel_rfl) (by kernel_rfl) (by kernel_rfl) (fun _ _ _ h => h) (Or.inl ⟨by rfl, ?hy34⟩) hHeld ?rest34
  case hy34 => (rintro W hM; have y2 := HG4.out W hM 2 _ HG3.out.2.2; go_simp; (try with_reducible rfl))
  case rest34 =>
  (try simp only [Act.put, gTl, g0l, gSl, sTl, s0l, sSl])
  refine wpAnyH_ready (rs := [18]) (by kernel_rfl) (by simp) ?_
  refine AllReadyH.cons rfl (fun K hK => ?_) AllReadyH.nil
  go_simp
  go_at_call 92
  refine (KC.out _).mono ?_
  rintro e v1 ⟨rfl, hb⟩
  have hB0 := hB0.ext hb
  refine hK.out _ _ (hHeld.trans (hb.mono (by simp))) (fun hHeld => ?_)
  clear hK K
  (try simp only [Act.put, gTl, g0l, gSl, sTl, s0l, sSl])
  refine' wpAnyH_take (i := 19) (v := _) rfl (by kernel_rfl) (by kernel_rfl) (by kernel_rfl) (fun _ _ _ h => h) (Or.inl ⟨by rfl, ?hy35⟩) hHeld ?rest35
  case hy35 => (rintro W hM; go_simp; (try with_reducible rfl))
  case rest35 =>
  (try simp only [Act.put, gTl, g0l, gSl, sTl, s0l, sSl])
  refine' wpAnyH_take (i := 20) (v := _) rfl (by kernel_rfl) (by kernel_rfl) (by kernel_rfl) (fun _ _ _ h => h) (Or.inl ⟨by rfl, ?hy36⟩) hHeld ?rest36
  case hy36 => (rintro W hM; go_simp; (try with_reducible rfl))
  case rest36 =>
  (try simp only [Act.put, gTl, g0l, gSl, sTl, s0l, sSl])
  refine wpAnyH_ready (rs := [21]) (by kernel_rfl) (by simp) ?_
  refine AllReadyH.cons rfl (fun K hK => ?_) AllReadyH.nil
  go_simp
  go_at_call 90
  refine (pchk R p s false _ _ hB0).mono ?_
  rintro e v2 ⟨rfl, hm, hB⟩
  refine hK.out _ _ (hHeld.trans hm) (fun hHeld => ?_)
  clear hK K
  (try simp only [Act.put, gTl, g0l, gSl, sTl, s0l, sSl])
  refine wpAnyH_done (by kernel_rfl) ?_ _
  have BC : Hid (Blk v2 R 97 (rdC p s true)) := hid hB
  have HM35 : Hid (Mod [R] w3 v2) := hid hHeld
  have HM5 : Hid (Mod [R] w v2) := hid (HMk.out.trans ((H3.out.1.mono (by simp)).trans hHeld))
  clear hHeld hm hB hB0
  have c20 : v2.cell? ⟨R, 20, none⟩ = some (.bool true) := BC.out.cell 20
  go_wp2_with fail
  refine bodyPost_ret (results_none rfl _ _ _) rfl ?_
  have hr : readR p s t = (p, s, true) := by unfold readR; rw [if_neg (by rw [HW.out]; decide), if_pos HNR.out]
  rw [hr]
  exact ⟨rfl, HM5.out, BC.out⟩
 have HCN := hid hcn
 have tca : (((t.k : Int)) == (((cntN (kidT t 1).n (kidT t 2).n : Nat) : Int))) = true := by rw [beq_iff_eq]; omega
 have tcb : (((t.k : Int)) = (((cntN (kidT t 1).n (kidT t 2).n : Nat) : Int))) = True := eq_true (by omega)
 have tcc : (((t.k : Int)) != (((cntN (kidT t 1).n (kidT t 2).n : Nat) : Int))) = false := by rw [bne_eq_false_iff_eq]; omega
 have tda : ((t.k) == (cntN (kidT t 1).n (kidT t 2).n)) = true := by rw [beq_iff_eq]; exact hcn
 have tdb : ((t.k) = (cntN (kidT t 1).n (kidT t 2).n)) = True := eq_true (by exact hcn)
 have tdc : ((t.k) != (cntN (kidT t 1).n (kidT t 2).n)) = false := by rw [bne_eq_false_iff_eq]; exact hcn
 clear hcn
 have hB0 : Blk w3.drew R 97 (rdC p s false) := (HBk.out.ext H3.out.1).drew
 refine wp_region_held_drew (S := fun w' => Mod [R] w3 w') (by kernel_rfl) (Mod.refl _ _).drew (fun hHeld => ?_)
 generalize w3.drew = v0 at *
 refine' wpAnyH_take (i := 0) (v := _) rfl (by kernel_rfl) (by kernel_rfl) (by kernel_rfl) (fun _ _ _ h => h) (Or.inl ⟨by rfl, ?hy37⟩) hHeld ?rest37
 case hy37 => (rintro W hM; go_simp; (try with_reducible rfl))
 case rest37 =>
 (try simp only [Act.put, gTl, g0l, gSl, sTl, s0l, sSl])
 refine' wpAnyH_take (i := 1) (v := _) rfl (by kernel_rfl) (by kernel_rfl) (by kernel_rfl) (fun _ _ _ h => h) (Or.inl ⟨by rfl, ?hy38⟩) hHeld ?rest38
 case hy38 => (rintro W hM; go_simp; (try with_reducible rfl))
 case rest38 =>
 (try simp only [Act.put, gTl, g0l, gSl, sTl, s0l, sSl])
 refine' wpAnyH_take (i := 2) (v := _) rfl (by kernel_rfl) (by kernel_rfl) (by kernel_rfl) (fun _ _ _ h => h) (Or.inl ⟨by rfl, ?hy39⟩) hHeld ?rest39
 case hy39 => (rintro W hM; go_simp; (try with_reducible rfl))
 case rest39 =>
 (try simp only [Act.put, gTl, g0l, gSl, sTl, s0l, sSl])
 refine' wpAnyH_take (i := 3) (v := _) rfl (by kernel_rfl) (by kernel_rfl) (by kernel_rfl) (fun _ _ _ h => h) (Or.inl ⟨by rfl, ?hy40⟩) hHeld ?rest40
 case hy40 => (rintro W hM; go_simp; (try with_reducible rfl))
 case rest40 =>
 (try simp only [Act.put, gTl, g0l, gSl, sTl, s0l, sSl])
 refine' wpAnyH_take (i := 4) (v := _) rfl (by kernel_rfl) (by kernel_rfl) (by kernel_rfl) (fun _ _ _ h => h) (Or.inl ⟨by rfl, ?hy41⟩) hHeld ?rest41
 case hy41 => (rintro W hM; go_simp; (try with_reducible rfl))
 case rest41 =>
 (try simp only [Act.put, gTl, g0l, gSl, sTl, s0l, sSl])
 refine' wpAnyH_take (i := 5) (v := _) rfl (by kernel_rfl) (by kernel_rfl) (by kernel_rfl) (fun _ _ _ h => h) (Or.inl ⟨by rfl, ?hy42⟩) hHeld ?rest42
 case hy42 => (rintro W hM; have y0 := HG4.out W hM 0 _ HG3.out.1; go_simp; (try with_reducible rfl))
 case rest42 =>
 (try simp only [Act.put, gTl, g0l, gSl, sTl, s0l, sSl])
 refine' wpAnyH_take (i := 6) (v := _) rfl (by kernel_rfl) (by kernel_rfl) (by kernel_rfl) (fun _ _ _ h => h) (Or.inl ⟨by rfl, ?hy43⟩) hHeld ?rest43
 case hy43 => (rintro W hM; go_simp; (try with_reducible rfl))
 case rest43 =>
 (try simp only [Act.put, gTl, g0l, gSl, sTl, s0l, sSl])
 refine' wpAnyH_take (i := 7) (v := _) rfl (by kernel_rfl) (by kernel_rfl) (by kernel_rfl) (fun _ _ _ h => h) (Or.inl ⟨by rfl, ?hy44⟩) hHeld ?rest44
 case hy44 => (rintro W hM; go_simp; (try with_reducible rfl))
 case rest44 =>
 (try simp only [Act.put, gTl, g0l, gSl, sTl, s0l, sSl])
 refine' wpAnyH_take (i := 8) (v := _) rfl (by kernel_rfl) (by kernel_rfl) (by kernel_rfl) (fun _ _ _ h => h) (Or.inl ⟨by rfl, ?hy45⟩) hHeld ?rest45
 case hy45 => (rintro W hM; go_simp; (try with_reducible rfl))
 case rest45 =>
 (try simp only [Act.put, gTl, g0l, gSl, sTl, s0l, sSl])
 refine' wpAnyH_take (i := 9) (v := _) rfl (by kernel_rfl) (by kernel_rfl) (by kernel_rfl) (fun _ _ _ h => h) (Or.inl ⟨by rfl, ?hy46⟩) hHeld ?rest46
 case hy46 => (rintro W hM; go_simp; (try with_reducible rfl))
 case rest46 =>
 (try simp only [Act.put, gTl, g0l, gSl, sTl, s0l, sSl])
 refine' wpAnyH_take (i := 10) (v := _) rfl (by kernel_rfl) (by kernel_rfl) (by kernel_rfl) (fun _ _ _ h => h) (Or.inl ⟨by rfl, ?hy47⟩) hHeld ?rest47
 case hy47 => (rintro W hM; have y3 := HBV3.out W hM; go_simp; (try with_reducible rfl))
 case rest47 =>
 (try simp only [Act.put, gTl, g0l, gSl, sTl, s0l, sSl])
 refine' wpAnyH_take (i := 11) (v := _) rfl (by kernel_rfl) (by kernel_rfl) (by kernel_rfl) (fun _ _ _ h => h) (Or.inl ⟨by rfl, ?hy48⟩) hHeld ?rest48
 case hy48 => (rintro W hM; go_simp; (try with_reducible rfl))
 case rest48 =>
 (try simp only [Act.put, gTl, g0l, gSl, sTl, s0l, sSl])
 refine' wpAnyH_take (i := 12) (v := _) rfl (by kernel_rfl) (by kernel_rfl) (by kernel_rfl) (fun _ _ _ h => h) (Or.inl ⟨by rfl, ?hy49⟩) hHeld ?rest49
 case hy49 => (rintro W hM; go_simp; (try with_reducible rfl))
 case rest49 =>
 (try simp only [Act.put, gTl, g0l, gSl, sTl, s0l, sSl])
 refine' wpAnyH_take (i := 13) (v := _) rfl (by kernel_rfl) (by kernel_rfl) (by kernel_rfl) (fun _ _ _ h => h) (Or.inl ⟨by rfl, ?hy50⟩) hHeld ?rest50
 case hy50 => (rintro W hM; go_simp; (try with_reducible rfl))
 case rest50 =>
 (try simp only [Act.put, gTl, g0l, gSl, sTl, s0l, sSl])
 refine' wpAnyH_take (i := 14) (v := _) rfl (by kernel_rfl) (by kernel_rfl) (by kernel_rfl) (fun _ _ _ h => h) (Or.inl ⟨by rfl, ?hy51⟩) hHeld ?rest51
 case hy51 => (rintro W hM; have y1 := HG4.out W hM 1 _ HG3.out.2.1; go_simp; (try with_reducible rfl))
 case rest51 =>
 (try simp only [Act.put, gTl, g0l, gSl, sTl, s0l, sSl])
 refine' wpAnyH_take (i := 15) (v := _) rfl (by kernel_rfl) (by kernel_rfl) (by kernel_rfl) (fun _ _ _ h => h) (Or.inl ⟨by rfl, ?hy52⟩) hHeld ?rest52
 case hy52 => (rintro W hM; go_simp; (try with_reducible rfl))
 case rest52 =>
 (try simp only [Act.put, gTl, g0l, gSl, sTl, s0l, sSl])
 refine' wpAnyH_take (i := 16) (v := _) rfl (by kernel_rfl) (by kernel_rfl) (by kernel_rfl) (fun _ _ _ h => h) (Or.inl ⟨by rfl, ?hy53⟩) hHeld ?rest53
 case hy53 => (rintro W hM; go_simp; (try with_reducible rfl))
 case rest53 =>
 (try simp only [Act.put, gTl, g0l, gSl, sTl, s0l, sSl])
 refine' wpAnyH_take (i := 17) (v := _) rfl (by kernel_rfl) (by kernel_rfl) (by kernel_rfl) (fun _ _ _ h => h) (Or.inl ⟨by rfl, ?hy54⟩) hHeld ?rest54
 case hy54 => (rintro W hM; have y2 := HG4.out W hM 2 _ HG3.out.2.2; go_simp; (try with_reducible rfl))
 case rest54 =>
 (try simp only [Act.put, gTl, g0l, gSl, sTl, s0l, sSl])
 refine wpAnyH_ready (rs := [18]) (by kernel_rfl) (by simp) ?_
 refine AllReadyH.cons rfl (fun K hK => ?_) AllReadyH.nil
 go_simp
 go_at_call 92
 refine (KC.out _).mono ?_
 rintro e v1 ⟨rfl, hb⟩
 have hB0 := hB0.ext hb
 refine hK.out _ _ (hHeld.trans (hb.mono (by simp))) (fun hHeld => ?_)
 clear hK K
 (try simp only [Act.put, gTl, g0l, gSl, sTl, s0l, sSl])
 refine' wpAnyH_take (i := 19) (v := _) rfl (by kernel_rfl) (by kernel_rfl) (by kernel_rfl) (fun _ _ _ h => h) (Or.inl ⟨by rfl, ?hy55⟩) hHeld ?rest55
 case hy55 => (rintro W hM; go_simp; (try with_reducible rfl))
 case rest55 =>
 (try simp only [Act.put, gTl, g0l, gSl, sTl, s0l, sSl])
 refine' wpAnyH_take (i := 20) (v := _) rfl (by kernel_rfl) (by kernel_rfl) (by kernel_rfl) (fun _ _ _ h => h) (Or.inl ⟨by rfl, ?hy56⟩) hHeld ?rest56
 case hy56 => (rintro W hM; go_simp; (try with_reducible rfl))
 case rest56 =>
 (try simp only [Act.put, gTl, g0l, gSl, sTl, s0l, sSl])
 refine wpAnyH_ready (rs := [21]) (by kernel_rfl) (by simp) ?_
 refine AllReadyH.cons rfl (fun K hK => ?_) AllReadyH.nil
 go_simp
 go_at_call 90
 refine (pchk R p s false _ _ hB0).mono ?_
 rintro e v2 ⟨rfl, hm, hB⟩
 refine hK.out _ _ (hHeld.trans hm) (fun hHeld => ?_)
 clear hK K
 (try simp only [Act.put, gTl, g0l, gSl, sTl, s0l, sSl])
 refine wpAnyH_done (by kernel_rfl) ?_ _
 have BC : Hid (Blk v2 R 97 (rdC p s false)) := hid hB
 have HM35 : Hid (Mod [R] w3 v2) := hid hHeld
 have HM5 : Hid (Mod [R] w v2) := hid (HMk.out.trans ((H3.out.1.mono (by simp)).trans hHeld))
 clear hHeld hm hB hB0
 have c20 : v2.cell? ⟨R, 20, none⟩ = some (.bool false) := BC.out.cell 20
 have HNR : Hid (numsR t) := hid ⟨HN.out, H7.out, HCN.out⟩
 clear KC taa tab tac tba tbb tbc tca tcb tcc tda tdb tdc
 go_upto_region 6 with fail
 have hB0 : Blk v2.drew R 97 (rdC p s false) := BC.out.drew
 refine wp_region_held_drew (S := fun w' => Mod [R] w3 w') (by kernel_rfl) (HM35.out).drew (fun hHeld => ?_)
 generalize v2.drew = u1 at *
 refine' wpAnyH_take (i := 0) (v := _) rfl (by kernel_rfl) (by kernel_rfl) (by kernel_rfl) (fun _ _ _ h => h) (Or.inl ⟨by rfl, ?hy57⟩) hHeld ?rest57
 case hy57 => (rintro W hM; go_simp; (try with_reducible rfl))
 case rest57 =>
 (try simp only [Act.put, gTl, g0l, gSl, sTl, s0l, sSl])
 refine' wpAnyH_take (i := 1) (v := _) rfl (by kernel_rfl) (by kernel_rfl) (by kernel_rfl) (fun _ _ _ h => h) (Or.inl ⟨by rfl, ?hy58⟩) hHeld ?rest58
 case hy58 => (rintro W hM; go_simp; (try with_reducible rfl))
 case rest58 =>
 (try simp only [Act.put, gTl, g0l, gSl, sTl, s0l, sSl])
 refine' wpAnyH_take (i := 2) (v := _) rfl (by kernel_rfl) (by kernel_rfl) (by kernel_rfl) (fun _ _ _ h => h) (Or.inl ⟨by rfl, ?hy59⟩) hHeld ?rest59
 case hy59 => (rintro W hM; go_simp; (try with_reducible rfl))
 case rest59 =>
 (try simp only [Act.put, gTl, g0l, gSl, sTl, s0l, sSl])
 refine' wpAnyH_take (i := 3) (v := _) rfl (by kernel_rfl) (by kernel_rfl) (by kernel_rfl) (fun _ _ _ h => h) (Or.inl ⟨by rfl, ?hy60⟩) hHeld ?rest60
 case hy60 => (rintro W hM; go_simp; (try with_reducible rfl))
 case rest60 =>
 (try simp only [Act.put, gTl, g0l, gSl, sTl, s0l, sSl])
 refine' wpAnyH_take (i := 4) (v := _) rfl (by kernel_rfl) (by kernel_rfl) (by kernel_rfl) (fun _ _ _ h => h) (Or.inl ⟨by rfl, ?hy61⟩) hHeld ?rest61
 case hy61 => (rintro W hM; have y1 := HG4.out W hM 1 _ HG3.out.2.1; go_simp; (try with_reducible rfl))
 case rest61 =>
 (try simp only [Act.put, gTl, g0l, gSl, sTl, s0l, sSl])
 refine' wpAnyH_take (i := 5) (v := _) rfl (by kernel_rfl) (by kernel_rfl) (by kernel_rfl) (fun _ _ _ h => h) (Or.inl ⟨by rfl, ?hy62⟩) hHeld ?rest62
 case hy62 => (rintro W hM; go_simp; (try with_reducible rfl))
 case rest62 =>
 (try simp only [Act.put, gTl, g0l, gSl, sTl, s0l, sSl])
 refine' wpAnyH_take (i := 6) (v := _) rfl (by kernel_rfl) (by kernel_rfl) (by kernel_rfl) (fun _ _ _ h => h) (Or.inl ⟨by rfl, ?hy63⟩) hHeld ?rest63
 case hy63 => (rintro W hM; go_simp; (try with_reducible rfl))
 case rest63 =>
 (try simp only [Act.put, gTl, g0l, gSl, sTl, s0l, sSl])
 refine' wpAnyH_take (i := 7) (v := _) rfl (by kernel_rfl) (by kernel_rfl) (by kernel_rfl) (fun _ _ _ h => h) (Or.inl ⟨by rfl, ?hy64⟩) hHeld ?rest64
 case hy64 => (rintro W hM; have y2 := HG4.out W hM 2 _ HG3.out.2.2; go_simp; (try with_reducible rfl))
 case rest64 =>
 (try simp only [Act.put, gTl, g0l, gSl, sTl, s0l, sSl])
 refine' wpAnyH_take (i := 8) (v := _) rfl (by kernel_rfl) (by kernel_rfl) (by kernel_rfl) (fun _ _ _ h => h) (Or.inl ⟨by rfl, ?hy65⟩) hHeld ?rest65
 case hy65 => (rintro W hM; go_simp; (try with_reducible rfl))
 case rest65 =>
 (try simp only [Act.put, gTl, g0l, gSl, sTl, s0l, sSl])
 refine' wpAnyH_take (i := 9) (v := _) rfl (by kernel_rfl) (by kernel_rfl) (by kernel_rfl) (fun _ _ _ h => h) (Or.inl ⟨by rfl, ?hy66⟩) hHeld ?rest66
 case hy66 => (rintro W hM; go_simp; (try with_reducible rfl))
 case rest66 =>
 (try simp only [Act.put, gTl, g0l, gSl, sTl, s0l, sSl])
 refine' wpAnyH_take (i := 10) (v := _) rfl (by kernel_rfl) (by kernel_rfl) (by kernel_rfl) (fun _ _ _ h => h) (Or.inl ⟨by rfl, ?hy67⟩) hHeld ?rest67
 case hy67 => (rintro W hM; go_simp; (try with_reducible rfl))
 case rest67 =>
 (try simp only [Act.put, gTl, g0l, gSl, sTl, s0l, sSl])
 refine' wpAnyH_take (i := 11) (v := _) rfl (by kernel_rfl) (by kernel_rfl) (by kernel_rfl) (fun _ _ _ h => h) (Or.inl ⟨by rfl, ?hy68⟩) hHeld ?rest68
 case hy68 => (rintro W hM; go_simp; (try with_reducible rfl))
 case rest68 =>
 (try simp only [Act.put, gTl, g0l, gSl, sTl, s0l, sSl])
 refine' wpAnyH_take (i := 12) (v := _) rfl (by kernel_rfl) (by kernel_rfl) (by kernel_rfl) (fun _ _ _ h => h) (Or.inl ⟨by rfl, ?hy69⟩) hHeld ?rest69
 case hy69 => (rintro W hM; go_simp; (try with_reducible rfl))
 case rest69 =>
 (try simp only [Act.put, gTl, g0l, gSl, sTl, s0l, sSl])
 refine wpAnyH_ready (rs := [13]) (by kernel_rfl) (by simp) ?_
 refine AllReadyH.cons rfl (fun K hK => ?_) AllReadyH.nil
 have c0 : u1.cell? ⟨R, 0, none⟩ = some (.int .u64 (p.fl : Int)) := hB0.cell 0
 have f0 : u1.frozen? ⟨R, 0, none⟩ = false := hB0.frozen 0
 go_simp
 have hB1 := hB0.set_ 0 (.int .u64 ((kidT t 1).n : Int))
 have hM1 := Mod.setCell hHeld (p := ⟨R, 0, none⟩) (.inl (by simp)) (.int .u64 ((kidT t 1).n : Int))
 generalize World.setCell u1 ⟨R, 0, none⟩ (.int .u64 ((kidT t 1).n : Int)) = u2 at hB1 hM1 ⊢
 refine hK.out _ _ hM1 (fun hHeld => ?_)
 clear hK K c0 f0 hM1 hB0
 (try simp only [Act.put, gTl, g0l, gSl, sTl, s0l, sSl])
 refine' wpAnyH_take (i := 14) (v := _) rfl (by kernel_rfl) (by kernel_rfl) (by kernel_rfl) (fun _ _ _ h => h) (Or.inl ⟨by rfl, ?hy70⟩) hHeld ?rest70
 case hy70 => (rintro W hM; go_simp; (try with_reducible rfl))
 case rest70 =>
 (try simp only [Act.put, gTl, g0l, gSl, sTl, s0l, sSl])
 refine' wpAnyH_take (i := 15) (v := _) rfl (by kernel_rfl) (by kernel_rfl) (by kernel_rfl) (fun _ _ _ h => h) (Or.inl ⟨by rfl, ?hy71⟩) hHeld ?rest71
 case hy71 => (rintro W hM; go_simp; (try with_reducible rfl))
 case rest71 =>
 (try simp only [Act.put, gTl, g0l, gSl, sTl, s0l, sSl])
 refine' wpAnyH_take (i := 16) (v := _) rfl (by kernel_rfl) (by kernel_rfl) (by kernel_rfl) (fun _ _ _ h => h) (Or.inl ⟨by rfl, ?hy72⟩) hHeld ?rest72
 case hy72 => (rintro W hM; go_simp; (try with_reducible rfl))
 case rest72 =>
 (try simp only [Act.put, gTl, g0l, gSl, sTl, s0l, sSl])
 refine wpAnyH_ready (rs := [17]) (by kernel_rfl) (by simp) ?_
 refine AllReadyH.cons rfl (fun K hK => ?_) AllReadyH.nil
 have c0 : u2.cell? ⟨R, 1, none⟩ = some (.int .i64 p.crc) := hB1.cell 1
 have f0 : u2.frozen? ⟨R, 1, none⟩ = false := hB1.frozen 1
 go_simp
 have hB2 := hB1.set_ 1 (.int .i64 (IntKind.i64.wrap (min ((kidT t 2).n : Int) 3)))
 have hM1 := Mod.setCell hHeld (p := ⟨R, 1, none⟩) (.inl (by simp)) (.int .i64 (IntKind.i64.wrap (min ((kidT t 2).n : Int) 3)))
 generalize World.setCell u2 ⟨R, 1, none⟩ (.int .i64 (IntKind.i64.wrap (min ((kidT t 2).n : Int) 3))) = u3 at hB2 hM1 ⊢
 refine hK.out _ _ hM1 (fun hHeld => ?_)
 clear hK K c0 f0 hM1 hB1
 (try simp only [Act.put, gTl, g0l, gSl, sTl, s0l, sSl])
 refine wpAnyH_done (by kernel_rfl) ?_ _
 have hmin : ((min (kidT t 2).n 3 : Nat) : Int) = IntKind.i64.wrap (min ((kidT t 2).n : Int) 3) := by rw [IntWalk.i64_in _ (by omega)]; omega
 obtain ⟨P6, hP6⟩ : ∃ P6, flcR p t = P6 := ⟨_, rfl⟩
 have HP6 := hid hP6
 have BR : Hid (Blk u3 R 97 (rdC P6 s false)) := hid (by rw [← hP6]; unfold flcR; rw [hmin]; exact hB2)
 have HM2 : Hid (Mod [R] w2 u3) := hid ((H3.out.1.mono (by simp)).trans hHeld)
 have q3 := HBV3.out u3 hHeld
 have HMT : Hid (Mod [R] w u3) := hid (HMk.out.trans HM2.out)
 clear hHeld hB2 hmin hP6 BC HM35 HM5 c20 HG3 HG4 H3 HGR HBV HBV3 HBk HMk
 have e6 : (6 : Int) ≤ (t.k : Int) := by have := HK8.out; omega
 have e6c : (6 : Int) ≤ (c : Int) := by have := HK8.out; have := HKC.out; omega
 have e6n : 6 ≤ c := by omega
 have e6k : 6 ≤ t.k := by omega
 have ekc : (t.k : Int) ≤ (c : Int) := by have := HKC.out; omega
 have HKU : Hid (∀ i, i < t.k → At5 u3 b2 (o2 + i * 5) (kidT t i) (ac i).1 (ac i).2 ∧ IsL u3 (fun n => n ≠ R) (kidT t i) (ac i).1) := hid (fun i hi => ⟨(HKD3.out i hi).1.mod HM2.out HBB.out.1 (by simpa using HBB.out.2), IsL.mod HM2.out (fun k hk _ => by simpa using hk) _ (HKD3.out i hi).2⟩)
 have HBU : Hid (b2 < u3.heap.size) := hid (Nat.lt_of_lt_of_le HBB.out.1 HM2.out.size)
 obtain ⟨ch3, hch3⟩ : ∃ ch : Nat → T, (fun i => kidT t (i + 3)) = ch := ⟨_, rfl⟩
 have HCH3 := hid hch3
 have KNM : Hid (∀ k c o, k = 3 → o = o2 + 15 → Calls Tryz.prog 93 #[.pointer (some ⟨R, 0, none⟩), .slice (some ⟨b2, o, none⟩) k c] u3 (Chk R (nmP P6 ch3 3) s (nmB false ch3 3) u3)) := hid (fun k c o hk ho => by
  rw [← hch3]
  have h8 := HK8.out
  exact pnames R P6 s false (fun i => kidT t (i + 3)) (fun i => ac (i + 3)) b2 o k c hk u3 BR.out (fun i hi => HKN.out (i + 3) (by omega)) HBU.out HBB.out.2 (fun i hi => by have := (HKU.out (i + 3) (by omega)).1; rw [show o2 + (i + 3) * 5 = o + i * 5 by omega] at this; exact this) (fun i hi => (HKU.out (i + 3) (by omega)).2))
 clear hch3
 obtain ⟨BB, hBB⟩ : ∃ BB, nmB false ch3 3 = BB := ⟨_, rfl⟩
 obtain ⟨P7, hP7⟩ : ∃ P7, nmP P6 ch3 3 = P7 := ⟨_, rfl⟩
 have HBB7 := hid hBB
 have HP7 := hid hP7
 rw [hBB, hP7] at KNM
 clear hBB hP7
 have HF7 : Hid (P7.fl = (kidT t 1).n ∧ P7.crc = ((min (kidT t 2).n 3 : Nat) : Int)) := hid (by rw [← HP7.out, ← HP6.out]; exact ⟨rfl, rfl⟩)
 go_upto_region 8 with (go_at_call 93; refine (KNM.out _ _ _ (by omega) (by omega)).mono ?_; rintro x w7 ⟨rfl, hm7, hb7⟩; have HM7 := hid hm7; have HB7 := hid hb7; clear hm7 hb7)
 have c20 : w7.cell? ⟨R, 20, none⟩ = some (.bool BB) := HB7.out.cell 20
 have HMT7 := hid (HMT.out.trans HM7.out)
 cases BB with
 | true =>
  go_wp2_with fail
  refine bodyPost_ret (results_none rfl _ _ _) rfl ?_
  have hr : readR p s t = (P7, s, true) := by unfold readR; rw [if_neg (by rw [HW.out]; decide), if_neg (fun h => h HNR.out), HCH3.out, HP6.out, HBB7.out, if_pos rfl, HP7.out]
  rw [hr]
  exact ⟨rfl, HMT7.out, HB7.out⟩
 | false =>
  have q3' : w7.cell? ⟨w.heap.size, 3, none⟩ = some (.slice (some ⟨b2, o2, none⟩) t.k c) := (HM7.out.cell (World.block_lt_of_cell? u3 _ q3) (by simpa using HNV.out)).trans q3
  have KRS : Hid (∀ k c' o, k = t.k - 6 → k ≤ c' → o = o2 + 30 → Calls Tryz.prog 94 #[.pointer (some ⟨R, 0, none⟩), .slice (some ⟨b2, o, none⟩) k c'] w7 (RestPost R (restR P7 s (t.k - 6) (fun i => kidT t (i + 6))) w7)) := hid (fun k c' o hk hkc ho => by
   have h8 := HK8.out
   have hC := HNR.out.2.2
   rw [← hk]
   refine prest R P7 s k (if (kidT t 2).n = 1 ∨ (kidT t 2).n = 2 then 1 else 0) c' (by rw [HF7.out.1, hk, hC]; unfold cntN; by_cases h1 : (kidT t 1).n % 2 = 1 <;> by_cases h2 : (kidT t 2).n = 1 ∨ (kidT t 2).n = 2 <;> simp only [h1, h2, if_true, if_false]) (by split <;> omega) hkc (fun hm => ⟨(kidT t 2).n, by rw [HF7.out.2]; split at hm <;> omega, by split at hm <;> omega⟩) (by rw [HF7.out.1]; exact nlt_of (HKN.out 1 (by omega))) (fun i => kidT t (i + 6)) (fun i => ac (i + 6)) b2 o w7 HB7.out (Nat.lt_of_lt_of_le HBU.out HM7.out.size) HBB.out.2 (fun i hi => ?_) ?_
   ·
    have := ((HKU.out (i + 6) (by omega)).1).mod HM7.out HBU.out (by simpa using HBB.out.2)
    rw [show o2 + (i + 6) * 5 = o + i * 5 by omega] at this
    exact this
   · exact IsL.mod HM7.out (fun k hk _ => by simpa using hk) _ (HKU.out 6 (by omega)).2)
  clear q3
  have ekcn : t.k ≤ c := HKC.out
  have ec6a : (c = 6) = False := eq_false (by have := HK8.out; omega)
  have ec6b : (c == 6) = false := by rw [beq_eq_false_iff_ne]; have := HK8.out; omega
  go_wp2_with (go_at_call 94; refine (KRS.out _ _ _ (by omega) (by omega) (by omega)).mono ?_; rintro x w9 ⟨rfl, hm9, hb9⟩; have HM9 := hid hm9; have HB9 := hid hb9; clear hm9 hb9)
  refine bodyPost_ret (results_none rfl _ _ _) rfl ?_
  have hr : readR p s t = restR P7 s (t.k - 6) (fun i => kidT t (i + 6)) := by unfold readR; rw [if_neg (by rw [HW.out]; decide), if_neg (fun h => h HNR.out), HCH3.out, HP6.out, HBB7.out, if_neg (by decide), HP7.out]
  rw [hr]
  exact ⟨rfl, HMT7.out.trans HM9.out, HB9.out⟩
end Go.Proofs.YtfgipgpbjfhflaaGreat


namespace Go.Proofs.YtfgipgpbjfhflaaGreat
open Go.ChangeShapes Go.WideShapes Go.ChangeAt Go.RowKit Go.Deep
set_option linter.unusedVariables false
set_option linter.unusedSimpArgs false

section
variable {H : Type} {enc : TypeId × Value → H} {w : World} {base b0 : Nat} {spare : Nat → Bool} {held : Bool} {r : Reach}
set_option maxRecDepth 100000 in
theorem trod_eid {fuel : Nat} {cs : List Value} {x : DataW H × List MemPlace} (h : DataW.trod enc Tryz.prog w base spare held fuel 24 cs = some x) :
  ∃ e : EV, cs = [.int .i64 e.sch, str e.name, .int .u64 (e.node : Int), .int .u64 (e.svc : Int)] ∧ e.node < 18446744073709551616 ∧ e.svc < 18446744073709551616 ∧ (-9223372036854775808 ≤ e.sch ∧ e.sch ≤ 9223372036854775807) := by
 obtain ⟨ys, n', hn', hy, hlen, hyl, hfl⟩ := DataW.trod_struct Tryz.underlying24 h
 match cs, hlen with
 | [c0, c1, c2, c3], _ =>
  have h0 := field_at (by kernel_rfl) hfl (i := 0) rfl rfl
  have h1 := field_at (by kernel_rfl) hfl (i := 1) rfl rfl
  have h2 := field_at (by kernel_rfl) hfl (i := 2) rfl rfl
  have h3 := field_at (by kernel_rfl) hfl (i := 3) rfl rfl
  clear hfl h
  match ys, hyl with
  | [y0, y1, y2, y3], _ =>
   obtain ⟨sch, e0, _, w0⟩ := DataW.trod_int (k := .i64) (by kernel_rfl) h0
   obtain ⟨s, e1, _, _⟩ := DataW.trod_string (by kernel_rfl) h1
   obtain ⟨a, e2, _, w2⟩ := DataW.trod_int (k := .u64) (by kernel_rfl) h2
   obtain ⟨b, e3, _, w3⟩ := DataW.trod_int (k := .u64) (by kernel_rfl) h3
   have q0 : c0 = .int .i64 sch := by have : [c0] = [Value.int .i64 sch] := e0; simpa using this
   have q1 : c1 = .string s := by have : [c1] = [Value.string s] := e1; simpa using this
   have q2 : c2 = .int .u64 a := by have : [c2] = [Value.int .u64 a] := e2; simpa using this
   have q3 : c3 = .int .u64 b := by have : [c3] = [Value.int .u64 b] := e3; simpa using this
   subst q0 q1 q2 q3
   have b0 : -9223372036854775808 ≤ sch ∧ sch ≤ 9223372036854775807 := by simpa [Lit.wf, IntKind.min, IntKind.max, IntKind.signed, IntKind.bits] using w0
   have b2 : 0 ≤ a ∧ a ≤ 18446744073709551615 := by simpa [Lit.wf, IntKind.min, IntKind.max, IntKind.signed, IntKind.bits] using w2
   have b3 : 0 ≤ b ∧ b ≤ 18446744073709551615 := by simpa [Lit.wf, IntKind.min, IntKind.max, IntKind.signed, IntKind.bits] using w3
   obtain ⟨a, rfl⟩ := Int.eq_ofNat_of_zero_le b2.1
   obtain ⟨b, rfl⟩ := Int.eq_ofNat_of_zero_le b3.1
   exact ⟨⟨sch, s.data.toList, a, b⟩, rfl, by show a < _; omega, by show b < _; omega, b0⟩

end
end Go.Proofs.YtfgipgpbjfhflaaGreat


namespace Go.Proofs.YtfgipgpbjfhflaaGreat
open Go.ChangeShapes Go.WideShapes Go.ChangeAt Go.RowKit Go.Deep
set_option linter.unusedVariables false
set_option linter.unusedSimpArgs false

/-- What every slice's shape obeys. -/
def SlA (A : Option Addr) (k c : Nat) : Prop := (A = none → k = 0 ∧ c = 0) ∧ k ≤ c ∧ c ≤ maxLen
def EV.wf (e : EV) : Prop := (-9223372036854775808 ≤ e.sch ∧ e.sch ≤ 9223372036854775807) ∧ e.node < 18446744073709551616 ∧ e.svc < 18446744073709551616
def PV.wf (p : PV) : Prop := p.fl < 18446744073709551616 ∧ (-9223372036854775808 ≤ p.crc ∧ p.crc ≤ 9223372036854775807) ∧ p.d.wf ∧ p.s.wf ∧ p.r.wf ∧ p.t < 18446744073709551616 ∧ p.q < 18446744073709551616 ∧ p.l < 18446744073709551616 ∧ p.o < 18446744073709551616 ∧ p.n < 18446744073709551616
def BV.wf (b : BV) : Prop := (-9223372036854775808 ≤ b.ty ∧ b.ty ≤ 9223372036854775807) ∧ (-9223372036854775808 ≤ b.num ∧ b.num ≤ 9223372036854775807) ∧ b.fl < 18446744073709551616 ∧ (-9223372036854775808 ≤ b.crc ∧ b.crc ≤ 9223372036854775807)
section
variable {H : Type} {enc : TypeId × Value → H} {w : World} {base b0 : Nat} {spare : Nat → Bool} {held : Bool} {r : Reach}
theorem fldB {P : Program} {n k : Nat} {ty : TypeId} {l : List Value} {off : Nat} {y : Option (DataW H × List MemPlace)} (hk : P.cellsOf ty = k) (h : DataW.trod enc P w base spare held n ty ((l.drop off).take (P.cellsOf ty)) = y) : DataW.trod enc P w base spare held n ty ((l.drop off).take k) = y := by rw [hk] at h; exact h
set_option maxRecDepth 100000 in
theorem trod_blkC {fuel : Nat} {L : List Value} {x : DataW H × List MemPlace} (h : DataW.trod enc Tryz.prog w base spare held fuel 42 L = some x) : ∃ b : BV, L = [.int .i64 b.ty, .int .i64 b.num, .int .u64 (b.fl : Int), .int .i64 b.crc, str b.data] ∧ b.wf := by
 obtain ⟨ys, n', hn', hy, hlen, hyl, hfl⟩ := DataW.trod_struct Tryz.underlying42 h
 clear h
 match L, hlen with
 | [c0, c1, c2, c3, c4], _ =>
  have h0 := field_at (by kernel_rfl) hfl (i := 0) rfl rfl
  have h1 := field_at (by kernel_rfl) hfl (i := 1) rfl rfl
  have h2 := field_at (by kernel_rfl) hfl (i := 2) rfl rfl
  have h3 := field_at (by kernel_rfl) hfl (i := 3) rfl rfl
  have h4 := field_at (by kernel_rfl) hfl (i := 4) rfl rfl
  clear hfl
  match ys, hyl with
  | [y0, y1, y2, y3, y4], _ =>
   obtain ⟨ty, e0, _, w0⟩ := DataW.trod_int (k := .i64) (by kernel_rfl) h0
   obtain ⟨num, e1, _, w1⟩ := DataW.trod_int (k := .i64) (by kernel_rfl) h1
   obtain ⟨fl, e2, _, w2⟩ := DataW.trod_int (k := .u64) (by kernel_rfl) h2
   obtain ⟨crc, e3, _, w3⟩ := DataW.trod_int (k := .i64) (by kernel_rfl) h3
   obtain ⟨s, e4, _, _⟩ := DataW.trod_string (by kernel_rfl) h4
   have q0 : c0 = .int .i64 ty := by have : [c0] = [Value.int .i64 ty] := e0; simpa using this
   have q1 : c1 = .int .i64 num := by have : [c1] = [Value.int .i64 num] := e1; simpa using this
   have q2 : c2 = .int .u64 fl := by have : [c2] = [Value.int .u64 fl] := e2; simpa using this
   have q3 : c3 = .int .i64 crc := by have : [c3] = [Value.int .i64 crc] := e3; simpa using this
   have q4 : c4 = .string s := by have : [c4] = [Value.string s] := e4; simpa using this
   subst q0 q1 q2 q3 q4
   have b0 : -9223372036854775808 ≤ ty ∧ ty ≤ 9223372036854775807 := by simpa [Lit.wf, IntKind.min, IntKind.max, IntKind.signed, IntKind.bits] using w0
   have b1 : -9223372036854775808 ≤ num ∧ num ≤ 9223372036854775807 := by simpa [Lit.wf, IntKind.min, IntKind.max, IntKind.signed, IntKind.bits] using w1
   have b2 : 0 ≤ fl ∧ fl ≤ 18446744073709551615 := by simpa [Lit.wf, IntKind.min, IntKind.max, IntKind.signed, IntKind.bits] using w2
   have b3 : -9223372036854775808 ≤ crc ∧ crc ≤ 9223372036854775807 := by simpa [Lit.wf, IntKind.min, IntKind.max, IntKind.signed, IntKind.bits] using w3
   obtain ⟨fl, rfl⟩ := Int.eq_ofNat_of_zero_le b2.1
   exact ⟨⟨ty, num, fl, crc, s.data.toList⟩, rfl, b0, b1, by show fl < _; omega, b3⟩
set_option maxRecDepth 100000 in
theorem trod_priC {fuel : Nat} {L : List Value} {x : DataW H × List MemPlace} (h : DataW.trod enc Tryz.prog w base spare held fuel 26 L = some x) : ∃ p : PV, L = p.c.toList ∧ p.wf := by
 obtain ⟨ys, n', hn', hy, hlen, hyl, hfl⟩ := DataW.trod_struct Tryz.underlying26 h
 clear h
 have k1 : Tryz.prog.cellsOf 22 = 1 := by kernel_rfl
 have k2 : Tryz.prog.cellsOf 3 = 1 := by kernel_rfl
 have k3 : Tryz.prog.cellsOf 24 = 4 := by kernel_rfl
 match L, hlen with
 | [c0, c1, c2, c3, c4, c5, c6, c7, c8, c9, c10, c11, c12, c13, c14, c15, c16, c17, c18], _ =>
  match ys, hyl with
  | [y0, y1, y2, y3, y4, y5, y6, y7, y8, y9], _ =>
   have h0 : DataW.trod enc Tryz.prog w base spare held n' 22 [c0] = some y0 := fldB k1 (hfl 0 _ rfl)
   have h1 : DataW.trod enc Tryz.prog w base spare held n' 3 [c1] = some y1 := fldB k2 (hfl 1 _ rfl)
   have h2 : DataW.trod enc Tryz.prog w base spare held n' 24 [c2, c3, c4, c5] = some y2 := fldB k3 (hfl 2 _ rfl)
   have h3 : DataW.trod enc Tryz.prog w base spare held n' 24 [c6, c7, c8, c9] = some y3 := fldB k3 (hfl 3 _ rfl)
   have h4 : DataW.trod enc Tryz.prog w base spare held n' 24 [c10, c11, c12, c13] = some y4 := fldB k3 (hfl 4 _ rfl)
   have h5 : DataW.trod enc Tryz.prog w base spare held n' 22 [c14] = some y5 := fldB k1 (hfl 5 _ rfl)
   have h6 : DataW.trod enc Tryz.prog w base spare held n' 22 [c15] = some y6 := fldB k1 (hfl 6 _ rfl)
   have h7 : DataW.trod enc Tryz.prog w base spare held n' 22 [c16] = some y7 := fldB k1 (hfl 7 _ rfl)
   have h8 : DataW.trod enc Tryz.prog w base spare held n' 22 [c17] = some y8 := fldB k1 (hfl 8 _ rfl)
   have h9 : DataW.trod enc Tryz.prog w base spare held n' 22 [c18] = some y9 := fldB k1 (hfl 9 _ rfl)
   clear hfl
   obtain ⟨z1, e1, _, w1⟩ := DataW.trod_int (k := .i64) (by kernel_rfl) h1
   have b1 : -9223372036854775808 ≤ z1 ∧ z1 ≤ 9223372036854775807 := by simpa [Lit.wf, IntKind.min, IntKind.max, IntKind.signed, IntKind.bits] using w1
   obtain ⟨E2, e2, n2, s2, x2⟩ := trod_eid h2
   obtain ⟨E3, e3, n3, s3, x3⟩ := trod_eid h3
   obtain ⟨E4, e4, n4, s4, x4⟩ := trod_eid h4
   obtain ⟨z0, e0, _, w0⟩ := DataW.trod_int (k := .u64) (by kernel_rfl) h0
   have b0 : 0 ≤ z0 ∧ z0 ≤ 18446744073709551615 := by simpa [Lit.wf, IntKind.min, IntKind.max, IntKind.signed, IntKind.bits] using w0
   obtain ⟨z0, rfl⟩ := Int.eq_ofNat_of_zero_le b0.1
   obtain ⟨z5, e5, _, w5⟩ := DataW.trod_int (k := .u64) (by kernel_rfl) h5
   have b5 : 0 ≤ z5 ∧ z5 ≤ 18446744073709551615 := by simpa [Lit.wf, IntKind.min, IntKind.max, IntKind.signed, IntKind.bits] using w5
   obtain ⟨z5, rfl⟩ := Int.eq_ofNat_of_zero_le b5.1
   obtain ⟨z6, e6, _, w6⟩ := DataW.trod_int (k := .u64) (by kernel_rfl) h6
   have b6 : 0 ≤ z6 ∧ z6 ≤ 18446744073709551615 := by simpa [Lit.wf, IntKind.min, IntKind.max, IntKind.signed, IntKind.bits] using w6
   obtain ⟨z6, rfl⟩ := Int.eq_ofNat_of_zero_le b6.1
   obtain ⟨z7, e7, _, w7⟩ := DataW.trod_int (k := .u64) (by kernel_rfl) h7
   have b7 : 0 ≤ z7 ∧ z7 ≤ 18446744073709551615 := by simpa [Lit.wf, IntKind.min, IntKind.max, IntKind.signed, IntKind.bits] using w7
   obtain ⟨z7, rfl⟩ := Int.eq_ofNat_of_zero_le b7.1
   obtain ⟨z8, e8, _, w8⟩ := DataW.trod_int (k := .u64) (by kernel_rfl) h8
   have b8 : 0 ≤ z8 ∧ z8 ≤ 18446744073709551615 := by simpa [Lit.wf, IntKind.min, IntKind.max, IntKind.signed, IntKind.bits] using w8
   obtain ⟨z8, rfl⟩ := Int.eq_ofNat_of_zero_le b8.1
   obtain ⟨z9, e9, _, w9⟩ := DataW.trod_int (k := .u64) (by kernel_rfl) h9
   have b9 : 0 ≤ z9 ∧ z9 ≤ 18446744073709551615 := by simpa [Lit.wf, IntKind.min, IntKind.max, IntKind.signed, IntKind.bits] using w9
   obtain ⟨z9, rfl⟩ := Int.eq_ofNat_of_zero_le b9.1
   simp only [List.cons.injEq, and_true] at e0 e1 e2 e3 e4 e5 e6 e7 e8 e9
   obtain ⟨rfl, rfl, rfl, rfl⟩ := e2
   obtain ⟨rfl, rfl, rfl, rfl⟩ := e3
   obtain ⟨rfl, rfl, rfl, rfl⟩ := e4
   subst e0 e1 e5 e6 e7 e8 e9
   exact ⟨⟨z0, z1, E2, E3, E4, z5, z6, z7, z8, z9⟩, rfl, by show z0 < _; omega, b1, ⟨x2, n2, s2⟩, ⟨x3, n3, s3⟩, ⟨x4, n4, s4⟩, by show z5 < _; omega, by show z6 < _; omega, by show z7 < _; omega, by show z8 < _; omega, by show z9 < _; omega⟩
/-- A slice of blocks. -/
theorem trod_blksS {fuel : Nat} {c3 : Value} {y : DataW H × List MemPlace} (h3 : DataW.trod enc Tryz.prog w base spare held fuel 27 [c3] = some y) (hz : ∀ n ∈ y.1.weights Tryz.prog 27, n ≤ reachBytes) :
  ∃ (A : Option Addr) (k c : Nat) (bs : Nat → BV), c3 = .slice A k c ∧ k < 4611686018427387904 ∧ BsL w A k bs ∧ (∀ i, i < k → (bs i).wf) ∧ SlA A k c := by
 have hR : reachBytes < 140737488355328 := by decide
 rcases DataW.trod_slice (e := 42) (by kernel_rfl) h3 with ⟨hcs, _⟩ | ⟨a, len, cap', elems, rest, f, hf, hcs, hx, hb, hl, hm, hlen, hel, _, _⟩
 ·
  have e3 : c3 = .slice none 0 0 := by simpa using hcs
  subst e3
  exact ⟨none, 0, 0, fun _ => zeroB, rfl, by omega, fun h => by omega, fun i hi => by omega, fun _ => ⟨rfl, rfl⟩, Nat.le_refl _, Nat.zero_le _⟩
 ·
  have e3 : c3 = .slice (some a) len cap' := by simpa using hcs
  subst e3
  have hC : Tryz.prog.cellsOf 42 = 5 := by kernel_rfl
  have hBy : Tryz.prog.bytesOf 42 = 48 := by kernel_rfl
  have hzs := hz
  rw [hx] at hzs
  simp only [DataW.weights, Tryz.underlying27] at hzs
  have bl : len < 4611686018427387904 := by
   have h8 := hzs _ List.mem_cons_self
   rw [hBy, List.length_map, hlen] at h8
   have h9 : len * 48 ≤ (len + (List.map (fun x => x.1) rest).length) * 48 := Nat.mul_le_mul_right _ (Nat.le_add_right _ _)
   omega
  have key : ∀ i, i < len → ∃ t : BV, (w.cell? ((a.add (i * 5)).add 0) = some (.int .i64 t.ty) ∧ w.cell? ((a.add (i * 5)).add 1) = some (.int .i64 t.num) ∧ w.cell? ((a.add (i * 5)).add 2) = some (.int .u64 (t.fl : Int)) ∧ w.cell? ((a.add (i * 5)).add 3) = some (.int .i64 t.crc) ∧ w.cell? ((a.add (i * 5)).add 4) = some (str t.data)) ∧ t.wf := by
   intro i hin
   have hi := hel i hin
   rw [List.getElem?_eq_getElem (by omega)] at hi
   obtain ⟨cs', hc, ht⟩ := Option.bind_eq_some_iff.1 hi
   obtain ⟨t, rfl, hw⟩ := trod_blkC ht
   rw [hC] at hc
   obtain ⟨_, hcl, hat⟩ := World.cells?_some hc
   exact ⟨t, ⟨hat 0 (by simp), hat 1 (by simp), hat 2 (by simp), hat 3 (by simp), hat 4 (by simp)⟩, hw⟩
  have key2 : ∀ i, ∃ t : BV, i < len → (w.cell? ((a.add (i * 5)).add 0) = some (.int .i64 t.ty) ∧ w.cell? ((a.add (i * 5)).add 1) = some (.int .i64 t.num) ∧ w.cell? ((a.add (i * 5)).add 2) = some (.int .u64 (t.fl : Int)) ∧ w.cell? ((a.add (i * 5)).add 3) = some (.int .i64 t.crc) ∧ w.cell? ((a.add (i * 5)).add 4) = some (str t.data)) ∧ t.wf := fun i => by
   by_cases hin : i < len
   ·
    obtain ⟨t, h5⟩ := key i hin
    exact ⟨t, fun _ => h5⟩
   · exact ⟨zeroB, fun h => absurd h hin⟩
  obtain ⟨g, hg⟩ : ∃ g : Nat → BV, ∀ i, i < len → (w.cell? ((a.add (i * 5)).add 0) = some (.int .i64 (g i).ty) ∧ w.cell? ((a.add (i * 5)).add 1) = some (.int .i64 (g i).num) ∧ w.cell? ((a.add (i * 5)).add 2) = some (.int .u64 ((g i).fl : Int)) ∧ w.cell? ((a.add (i * 5)).add 3) = some (.int .i64 (g i).crc) ∧ w.cell? ((a.add (i * 5)).add 4) = some (str (g i).data)) ∧ (g i).wf :=
   ⟨fun i => Classical.choose (key2 i), fun i => Classical.choose_spec (key2 i)⟩
  refine ⟨some a, len, cap', g, rfl, bl, fun h0 => ?_, fun i hi => (hg i hi).2, (fun h => by cases h), hl, hm⟩
  obtain ⟨⟨z0, _⟩, _⟩ := hg 0 h0
  have z1 : w.cell? a = some (.int .i64 (g 0).ty) := by simpa [Addr.add] using z0
  have hsp := World.cell?_spot z1
  obtain ⟨ab, ao, sp⟩ := a
  simp only at hsp
  subst hsp
  refine ⟨ab, ao, rfl, World.block_lt_of_cell? w _ z1, fun i hin => ?_⟩
  obtain ⟨⟨g0, g1, g2, g3, g4⟩, _⟩ := hg i hin
  rw [addr_add, addr_add] at g0 g1 g2 g3 g4
  exact ⟨g0, g1, g2, g3, g4⟩
set_option maxRecDepth 100000 in
theorem open_bundleS {v : Value} {d : DataW H} {q : List MemPlace} (hval : Value.okWide Tryz.prog w r b0 29 v) (h : DataW.Trod enc Tryz.prog w base spare held 29 v d q) (hz : ∀ n ∈ d.weights Tryz.prog 29, n ≤ reachBytes) :
  ∃ (p : PV) (A : Option Addr) (k c : Nat) (bs : Nat → BV), v = bunV p A k c ∧ p.wf ∧ k < 4611686018427387904 ∧ BsL w A k bs ∧ (∀ i, i < k → (bs i).wf) ∧ SlA A k c := by
 obtain ⟨cs, rfl, hsz⟩ := okWide_struct Tryz.underlying29 hval
 obtain ⟨fuel, hf⟩ := h
 obtain ⟨ys, n', hn', hy, hlen, hyl, hfl⟩ := DataW.trod_struct Tryz.underlying29 hf
 have hcs : (Value.agg cs).cells.toList = cs.toList := rfl
 rw [hcs] at hlen hfl
 obtain ⟨L, hL⟩ : ∃ L, L = cs.toList := ⟨_, rfl⟩
 rw [← hL] at hlen hfl
 have hcsL : cs = L.toArray := by rw [hL]
 subst hcsL
 have hd : d = .agg (ys.map (·.1)) := by simpa using congrArg Prod.fst hy
 have hz' : ∀ n ∈ DataW.weightsEach Tryz.prog [26, 27] (ys.map (·.1)), n ≤ reachBytes := by
  intro n hn
  apply hz
  rw [hd]
  simp only [DataW.weights, Tryz.underlying29]
  exact hn
 clear hL hcs hf hval hsz hz
 have k1 : Tryz.prog.cellsOf 26 = 19 := by kernel_rfl
 have k2 : Tryz.prog.cellsOf 27 = 1 := by kernel_rfl
 match L, hlen with
 | [c0, c1, c2, c3, c4, c5, c6, c7, c8, c9, c10, c11, c12, c13, c14, c15, c16, c17, c18, c19], _ =>
  obtain ⟨y0, y1, rfl⟩ : ∃ y0 y1, ys = [y0, y1] := by clear hd hz' hy hfl; match ys, hyl with | [a, b], _ => exact ⟨a, b, rfl⟩
  ·
   have h0 : DataW.trod enc Tryz.prog w base spare held n' 26 [c0, c1, c2, c3, c4, c5, c6, c7, c8, c9, c10, c11, c12, c13, c14, c15, c16, c17, c18] = some y0 := fldB k1 (hfl 0 _ rfl)
   have h1 : DataW.trod enc Tryz.prog w base spare held n' 27 [c19] = some y1 := fldB k2 (hfl 1 _ rfl)
   clear hfl
   obtain ⟨p, hp, hw⟩ := trod_priC h0
   obtain ⟨A, k, c, bs, rfl, hk, hL, hbw⟩ := trod_blksS h1 (fun n hn => hz' n (DataW.weights_mem_each (j := 1) rfl rfl n hn))
   refine ⟨p, A, k, c, bs, ?_, hw, hk, hL, hbw⟩
   simp only [PV.c, List.cons.injEq, and_true] at hp
   obtain ⟨rfl, rfl, rfl, rfl, rfl, rfl, rfl, rfl, rfl, rfl, rfl, rfl, rfl, rfl, rfl, rfl, rfl, rfl, rfl⟩ := hp
   rfl
set_option maxRecDepth 100000 in
theorem open_bundle {v : Value} {d : DataW H} {q : List MemPlace} (hval : Value.okWide Tryz.prog w r b0 29 v) (h : DataW.Trod enc Tryz.prog w base spare held 29 v d q) (hz : ∀ n ∈ d.weights Tryz.prog 29, n ≤ reachBytes) :
  ∃ (p : PV) (A : Option Addr) (k c : Nat) (bs : Nat → BV), v = bunV p A k c ∧ p.wf ∧ k < 4611686018427387904 ∧ BsL w A k bs ∧ ∀ i, i < k → (bs i).wf := by
 obtain ⟨p, A, k, c, bs, h1, h2, h3, h4, h5, _⟩ := open_bundleS hval h hz
 exact ⟨p, A, k, c, bs, h1, h2, h3, h4, h5⟩
end
end Go.Proofs.YtfgipgpbjfhflaaGreat


namespace Go.Proofs.YtfgipgpbjfhflaaGreat
open Go.RowKit
set_option linter.unusedVariables false
set_option linter.unusedSimpArgs false

section
end
end Go.Proofs.YtfgipgpbjfhflaaGreat


namespace Go.Proofs.YtfgipgpbjfhflaaGreat
open Go.RowKit
set_option linter.unusedVariables false
set_option linter.unusedSimpArgs false

def nilP : PV := ⟨0, 0, zeroE, zeroE, zeroE, 0, 0, 0, 0, 0⟩
def nilPC : Array Value := #[.int .u64 0, .int .i64 0, .int .i64 0, .string ⟨#[]⟩, .int .u64 0, .int .u64 0, .int .i64 0, .string ⟨#[]⟩, .int .u64 0, .int .u64 0, .int .i64 0, .string ⟨#[]⟩, .int .u64 0, .int .u64 0, .int .u64 0, .int .u64 0, .int .u64 0, .int .u64 0, .int .u64 0]
/-- An item's items but the last. -/
def frontL (t : T) : List T := (List.range (t.k - 1)).map t.ch
def lastZ (t : T) (Z : List UInt8) : T := listT (frontL t ++ [strT Z])
/-- The item with the sum that it should have. -/
def sumTr (t : T) (cr : Nat) : T := lastZ t (Crc.sumL cr (lastZ t (List.replicate (2 * cr) 0)).bytes)
/-- What Of tells: the primary, or zero, and the error. -/
def ofP (t : T) : PV × Int :=
 let r := readR nilP [] t
 if r.2.2 = true then (nilP, 2) else
 if r.2.1 ≠ [] ∧ (sumTr t r.1.crc.toNat).same t = false then (nilP, 5) else
 if r.1.right ≠ 0 then (nilP, r.1.right) else (r.1, 0)
theorem T.eta {t : T} (h : t.ok) : t = T.mk t.kind t.n t.s t.op t.k t.ch := by
 cases t with
 | nil => exact absurd h T.not_nil
 | mk kd n s op k ch => rfl
theorem kidT_eq (t : T) : kidT t = t.ch := by
 cases t <;> rfl
theorem frontL_length (t : T) : (frontL t).length = t.k - 1 := by simp [frontL]
theorem lastZ_k {t : T} (h : 0 < t.k) (Z : List UInt8) : (lastZ t Z).k = t.k := by
 show (frontL t ++ [strT Z]).length = t.k
 rw [List.length_append, frontL_length]; simp; omega
theorem lastZ_ch {t : T} {i : Nat} (h : i < t.k) (Z : List UInt8) : (lastZ t Z).ch i = if i = t.k - 1 then strT Z else t.ch i := by
 show ((frontL t ++ [strT Z])[i]?).getD T.nil = _
 by_cases e : i = t.k - 1
 · rw [if_pos e, List.getElem?_append_right (by rw [frontL_length]; omega), frontL_length, e]; simp
 ·
  rw [if_neg e, List.getElem?_append_left (by rw [frontL_length]; omega)]
  simp [frontL, show i < t.k - 1 by omega]
theorem frontL_mem {t x : T} (h : x ∈ frontL t) : ∃ i, i < t.k - 1 ∧ x = t.ch i := by
 simp [frontL] at h
 obtain ⟨i, hi, rfl⟩ := h
 exact ⟨i, hi, rfl⟩
theorem chk_ok {t : T} (h : t.ok) {i : Nat} (hi : i < t.k) : (t.ch i).ok := by rw [← kidT_eq]; exact kid_ok h hi
theorem chk_right {t : T} {d : Nat} (h : t.right (d + 1) = true) {i : Nat} (hi : i < t.k) : (t.ch i).right d = true := by
 cases t with
 | nil => simp [T.right] at h
 | mk kd n s op k ch =>
  unfold T.right at h
  rw [if_neg (by omega), Bool.and_eq_true, T.all_iff] at h
  exact h.2 i hi
theorem chk_size {t : T} {i : Nat} (hi : i < t.k) : (t.ch i).size ≤ t.size := by
 cases t with
 | nil => exact absurd hi (Nat.not_lt_zero _)
 | mk kd n s op k ch => exact T.size_ch hi
theorem lastZ_all {t : T} (hok : t.ok) (hr : t.right 8 = true) (hk : t.k ≤ 11) (h0 : 0 < t.k) (hs : t.size ≤ 5000) {Z : List UInt8} (hz : Z.length ≤ 90) : (lastZ t Z).ok ∧ (lastZ t Z).right 8 = true ∧ (lastZ t Z).size ≤ 100000 ∧ (lastZ t Z).bytes.length < 1000000 := by
 obtain ⟨z1, z2, z3, _⟩ := strT_all hz
 have hl : (frontL t ++ [strT Z]).length = t.k := by rw [List.length_append, frontL_length]; simp; omega
 have hm : ∀ x ∈ frontL t ++ [strT Z], x.ok ∧ x.right 7 = true ∧ x.size ≤ 5000 := by
  intro x hx
  rw [List.mem_append] at hx
  rcases hx with hx | hx
  ·
   obtain ⟨i, hi, rfl⟩ := frontL_mem hx
   exact ⟨chk_ok hok (by omega), chk_right hr (by omega), Nat.le_trans (chk_size (by omega)) hs⟩
  ·
   rw [List.mem_singleton] at hx
   subst hx
   exact ⟨z1, z2 7 (by omega), by omega⟩
 have hsz : (lastZ t Z).size ≤ 60000 := by
  have := listT_size (L := frontL t ++ [strT Z]) (B := 5000) (fun x hx => (hm x hx).2.2)
  unfold lastZ
  rw [hl] at this
  have h2 : t.k * 5000 ≤ 11 * 5000 := Nat.mul_le_mul_right _ hk
  omega
 refine ⟨listT_ok (by rw [hl]; omega) (fun x hx => (hm x hx).1), listT_right (by omega) (by rw [hl]; omega) (fun x hx => (hm x hx).2.1), by omega, ?_⟩
 have := T.bytes_le (lastZ t Z)
 omega
theorem IsL.congr {W : World} {Q : Nat → Prop} {t u : T} {A : Option Addr} (hu : u.ok) (hk : t.k = u.k) (hc : ∀ i, i < t.k → t.ch i = u.ch i) (h : IsL W Q t A) : IsL W Q u A := by
 cases t with
 | nil => exact absurd h (by simp [IsL])
 | mk kd n s op k ch =>
  cases u with
  | nil => exact absurd hu T.not_nil
  | mk kd' n' s' op' k' ch' =>
   have hk : k = k' := hk
   subst hk
   intro h0
   obtain ⟨b, o, hA, hb, hq, hh⟩ := h h0
   refine ⟨b, o, hA, hb, hq, fun i hi => ?_⟩
   have e : ch i = ch' i := hc i hi
   rw [← e]
   exact hh i hi
theorem nmE_len (t : T) : (nmE t).name.length ≤ 60 := by
 unfold nmE
 by_cases h : ofB t = true
 ·
  rw [if_pos h]
  unfold ofB at h
  simp only [Bool.and_eq_true] at h
  rcases EV.ok_cases h.1 with e | ⟨name, e, _, hl⟩ | ⟨node, svc, e, _, _⟩
  · rw [e]; simp
  · rw [e]; exact hl
  · rw [e]; simp
 · rw [if_neg h]; simp [zeroE]
/-- What is read is a primary in memory. -/
def PV.sm (p : PV) : Prop := p.fl < 18446744073709551616 ∧ p.d.name.length ≤ 60 ∧ p.s.name.length ≤ 60 ∧ p.r.name.length ≤ 60
theorem sumR_sm {p : PV} (h : p.sm) (s : List UInt8) (k : Nat) (t : T) : (sumR p s k t).1.sm := by
 unfold sumR; split <;> exact h
theorem readR_sm {t : T} (h : t.ok) : (readR nilP [] t).1.sm := by
 have hz : nilP.sm := ⟨by decide, by decide, by decide, by decide⟩
 unfold readR
 by_cases h1 : headR t = false
 · rw [if_pos h1]; exact hz
 rw [if_neg h1]
 by_cases h2 : ¬ numsR t
 · rw [if_pos h2]; exact hz
 rw [if_neg h2]
 have h8 : 8 ≤ t.k := by
  have h1 : headR t = true := by simpa using h1
  unfold headR at h1
  simp only [Bool.and_eq_true, decide_eq_true_eq] at h1
  exact h1.2
 have hP : (nmP (flcR nilP t) (fun i => kidT t (i + 3)) 3).sm := ⟨nlt_of (kid_ok h (i := 1) (by omega)), nmE_len _, nmE_len _, nmE_len _⟩
 generalize nmP (flcR nilP t) (fun i => kidT t (i + 3)) 3 = P at *
 by_cases h3 : nmB false (fun i => kidT t (i + 3)) 3 = true
 · rw [if_pos h3]; exact hP
 rw [if_neg h3]
 unfold restR
 by_cases g1 : whenR ((fun i => kidT t (i + 6)) 0) = false
 · rw [if_pos g1]; exact hP
 rw [if_neg g1]
 split
 · exact hP
 ·
  have hT : (tqlR P (fun i => kidT t (i + 6))).sm := hP
  split
  ·
   split
   · exact hT
   · exact sumR_sm (p := fragR (tqlR P (fun i => kidT t (i + 6))) (fun i => kidT t (i + 6))) hT _ _ _
  · exact sumR_sm hT _ _ _
/-- Where there is a sum. -/
theorem sumR_has {p : PV} {k : Nat} {t : T} (h : (sumR p [] k t).2.2 = false) (hs : (sumR p [] k t).2.1 ≠ []) : k ≠ 0 ∧ (sumR p [] k t).1 = p ∧ (sumR p [] k t).2.1 = t.s ∧ t.kind = 2 ∧ (t.s.length : Int) = 2 * p.crc := by
 unfold sumR at h hs ⊢
 by_cases h0 : k = 0
 · rw [if_pos h0] at hs; exact absurd rfl hs
 ·
  rw [if_neg h0] at h hs ⊢
  simp only [Bool.not_eq_false', Bool.and_eq_true, decide_eq_true_eq] at h
  exact ⟨h0, rfl, rfl, h.1, h.2⟩
theorem readR_has {t : T} (h : (readR nilP [] t).2.2 = false) (hs : (readR nilP [] t).2.1 ≠ []) : t.right 8 = true ∧ t.kind = 4 ∧ t.op = false ∧ 8 ≤ t.k ∧ t.k ≤ 11 ∧ ∃ cr : Nat, (readR nilP [] t).1.crc = (cr : Int) ∧ (cr = 1 ∨ cr = 2) ∧ (readR nilP [] t).2.1.length = 2 * cr := by
 unfold readR at h hs ⊢
 by_cases h1 : headR t = false
 · rw [if_pos h1] at h; exact absurd h (by simp)
 rw [if_neg h1] at h hs ⊢
 have h1 : headR t = true := by simpa using h1
 unfold headR at h1
 simp only [Bool.and_eq_true, decide_eq_true_eq, Bool.not_eq_true'] at h1
 obtain ⟨⟨⟨g1, g2⟩, g3⟩, g4⟩ := h1
 by_cases h2 : ¬ numsR t
 · rw [if_pos h2] at h; exact absurd h (by simp)
 rw [if_neg h2] at h hs ⊢
 have hN : numsR t := by simpa using h2
 have hk := hN.2.2
 have hk11 : t.k ≤ 11 := by rw [hk]; unfold cntN; split <;> split <;> omega
 refine ⟨g1, g2, g3, g4, hk11, ?_⟩
 have hP : (nmP (flcR nilP t) (fun i => kidT t (i + 3)) 3).crc = ((min (kidT t 2).n 3 : Nat) : Int) ∧ (nmP (flcR nilP t) (fun i => kidT t (i + 3)) 3).fl = (kidT t 1).n := ⟨rfl, rfl⟩
 generalize nmP (flcR nilP t) (fun i => kidT t (i + 3)) 3 = P at *
 by_cases h3 : nmB false (fun i => kidT t (i + 3)) 3 = true
 · rw [if_pos h3] at h; exact absurd h (by simp)
 rw [if_neg h3] at h hs ⊢
 unfold restR at h hs ⊢
 by_cases q1 : whenR ((fun i => kidT t (i + 6)) 0) = false
 · rw [if_pos q1] at h; exact absurd h (by simp)
 rw [if_neg q1] at h hs ⊢
 by_cases q2 : ¬ ((kidT ((fun i => kidT t (i + 6)) 0) 0).kind = 0 ∧ (kidT ((fun i => kidT t (i + 6)) 0) 1).kind = 0 ∧ ((fun i => kidT t (i + 6)) 1).kind = 0)
 · rw [if_pos q2] at h; exact absurd h (by simp)
 rw [if_neg q2] at h hs ⊢
 have key : ∀ (Q : PV) (k : Nat) (u : T), Q.crc = ((min (kidT t 2).n 3 : Nat) : Int) → k ≠ 0 → t.k = (if (kidT t 1).n % 2 = 1 then 10 else 8) + k → (u.s.length : Int) = 2 * Q.crc → ∃ cr : Nat, Q.crc = (cr : Int) ∧ (cr = 1 ∨ cr = 2) ∧ u.s.length = 2 * cr := by
  intro Q k u hQ hk0 htk hl
  have h12 : (kidT t 2).n = 1 ∨ (kidT t 2).n = 2 := by
   rw [hk] at htk
   unfold cntN at htk
   by_cases e1 : (kidT t 1).n % 2 = 1 <;> by_cases e2 : (kidT t 2).n = 1 ∨ (kidT t 2).n = 2 <;> simp only [e1, e2, if_true, if_false] at htk <;> omega
  exact ⟨(kidT t 2).n, by rw [hQ]; omega, h12, by rw [hQ] at hl; omega⟩
 by_cases q3 : P.fl % 2 = 1
 ·
  rw [if_pos q3] at h hs ⊢
  by_cases q4 : ¬ (((fun i => kidT t (i + 6)) 2).kind = 0 ∧ ((fun i => kidT t (i + 6)) 3).kind = 0)
  · rw [if_pos q4] at h; exact absurd h (by simp)
  rw [if_neg q4] at h hs ⊢
  obtain ⟨a1, a2, a3, a4, a5⟩ := sumR_has h hs
  rw [a2, a3]
  exact key _ _ _ hP.1 a1 (by rw [← hP.2, if_pos q3]; omega) a5
 ·
  rw [if_neg q3] at h hs ⊢
  obtain ⟨a1, a2, a3, a4, a5⟩ := sumR_has h hs
  rw [a2, a3]
  exact key _ _ _ hP.1 a1 (by rw [← hP.2, if_neg q3]; omega) a5
end Go.Proofs.YtfgipgpbjfhflaaGreat


namespace Go.Proofs.YtfgipgpbjfhflaaGreat
open Go.RowKit
set_option linter.unusedVariables false
set_option linter.unusedSimpArgs false

def ofPV (t : T) : Value := .tuple #[.agg (ofP t).1.c, .int .i64 (ofP t).2]
set_option maxRecDepth 20000 in
set_option maxHeartbeats 8000000 in
theorem pof_bad (t : T) (hok : t.ok) (hsz : t.size ≤ 5000) (A : Option Addr) (c : Nat) (hkc : t.k ≤ c) (w : World) (h : IsL w (fun _ => True) t A) (P : PV) (s : List UInt8) (hrd : readR nilP [] t = (P, s, true)) : Calls Tryz.prog 33 #[itemV t A c] w (Ret (.tuple #[.agg nilP.c, .int .i64 2]) w) := by
 have HRD := hid hrd
 clear hrd
 have HIL : Hid (IsL w (fun b => b < w.heap.size) t A) := hid (IsL.weak (fun b hb _ => hb) _ h)
 have HOK := hid hok
 have HKC := hid hkc
 have HSZ := hid hsz
 have HE := hid (((Mod.refl [] w).alloc (.cells (itemC t A c) 52)).alloc (.cells #[.int .u64 0, .int .i64 0, .int .i64 0, .string ⟨#[]⟩, .int .u64 0, .int .u64 0, .int .i64 0, .string ⟨#[]⟩, .int .u64 0, .int .u64 0, .int .i64 0, .string ⟨#[]⟩, .int .u64 0, .int .u64 0, .int .u64 0, .int .u64 0, .int .u64 0, .int .u64 0, .int .u64 0] 26))
 have HB0 : Hid (Blk ((w.alloc (.cells (itemC t A c) 52)).alloc (.cells #[.int .u64 0, .int .i64 0, .int .i64 0, .string ⟨#[]⟩, .int .u64 0, .int .u64 0, .int .i64 0, .string ⟨#[]⟩, .int .u64 0, .int .u64 0, .int .i64 0, .string ⟨#[]⟩, .int .u64 0, .int .u64 0, .int .u64 0, .int .u64 0, .int .u64 0, .int .u64 0, .int .u64 0] 26)) w.heap.size 52 (itemC t A c)) := hid ((Blk.new w 52 (itemC t A c)).alloc (.cells #[.int .u64 0, .int .i64 0, .int .i64 0, .string ⟨#[]⟩, .int .u64 0, .int .u64 0, .int .i64 0, .string ⟨#[]⟩, .int .u64 0, .int .u64 0, .int .i64 0, .string ⟨#[]⟩, .int .u64 0, .int .u64 0, .int .u64 0, .int .u64 0, .int .u64 0, .int .u64 0, .int .u64 0] 26))
 have HB1 : Hid (Blk ((w.alloc (.cells (itemC t A c) 52)).alloc (.cells #[.int .u64 0, .int .i64 0, .int .i64 0, .string ⟨#[]⟩, .int .u64 0, .int .u64 0, .int .i64 0, .string ⟨#[]⟩, .int .u64 0, .int .u64 0, .int .i64 0, .string ⟨#[]⟩, .int .u64 0, .int .u64 0, .int .u64 0, .int .u64 0, .int .u64 0, .int .u64 0, .int .u64 0] 26)) (w.heap.size + 1) 26 #[.int .u64 0, .int .i64 0, .int .i64 0, .string ⟨#[]⟩, .int .u64 0, .int .u64 0, .int .i64 0, .string ⟨#[]⟩, .int .u64 0, .int .u64 0, .int .i64 0, .string ⟨#[]⟩, .int .u64 0, .int .u64 0, .int .u64 0, .int .u64 0, .int .u64 0, .int .u64 0, .int .u64 0]) := by unfold Hid; exact Blk.newL _ _ _ (by simp)
 have HP2 : Hid (Ext w ((((w.alloc (.cells (itemC t A c) 52)).alloc (.cells #[.int .u64 0, .int .i64 0, .int .i64 0, .string ⟨#[]⟩, .int .u64 0, .int .u64 0, .int .i64 0, .string ⟨#[]⟩, .int .u64 0, .int .u64 0, .int .i64 0, .string ⟨#[]⟩, .int .u64 0, .int .u64 0, .int .u64 0, .int .u64 0, .int .u64 0, .int .u64 0, .int .u64 0] 26))).alloc (.cells (rdC nilP [] false) 97))) := hid (HE.out.alloc _)
 have HBR : Hid (Blk ((((w.alloc (.cells (itemC t A c) 52)).alloc (.cells #[.int .u64 0, .int .i64 0, .int .i64 0, .string ⟨#[]⟩, .int .u64 0, .int .u64 0, .int .i64 0, .string ⟨#[]⟩, .int .u64 0, .int .u64 0, .int .i64 0, .string ⟨#[]⟩, .int .u64 0, .int .u64 0, .int .u64 0, .int .u64 0, .int .u64 0, .int .u64 0, .int .u64 0] 26))).alloc (.cells (rdC nilP [] false) 97)) (w.heap.size + 2) 97 (rdC nilP [] false)) := Blk.newL _ _ _ (by simp)
 have HB0 := hid (HB0.out.alloc (.cells (rdC nilP [] false) 97))
 have HB1 := hid (HB1.out.alloc (.cells (rdC nilP [] false) 97))
 clear h hok hkc hsz HE
 go_enter Tryz.func33, Tryz.ntmps33
 go_upto_region 2 with fail
 show Code.wp _ _ _ _ ((((w.alloc (.cells (itemC t A c) 52)).alloc (.cells #[.int .u64 0, .int .i64 0, .int .i64 0, .string ⟨#[]⟩, .int .u64 0, .int .u64 0, .int .i64 0, .string ⟨#[]⟩, .int .u64 0, .int .u64 0, .int .i64 0, .string ⟨#[]⟩, .int .u64 0, .int .u64 0, .int .u64 0, .int .u64 0, .int .u64 0, .int .u64 0, .int .u64 0] 26))).alloc (.cells (rdC nilP [] false) 97))
 generalize (((w.alloc (.cells (itemC t A c) 52)).alloc (.cells #[.int .u64 0, .int .i64 0, .int .i64 0, .string ⟨#[]⟩, .int .u64 0, .int .u64 0, .int .i64 0, .string ⟨#[]⟩, .int .u64 0, .int .u64 0, .int .i64 0, .string ⟨#[]⟩, .int .u64 0, .int .u64 0, .int .u64 0, .int .u64 0, .int .u64 0, .int .u64 0, .int .u64 0] 26))).alloc (.cells (rdC nilP [] false) 97) = V at *
 have HIV := hid (HIL.out.ext HP2.out)
 have KRD : Hid (∀ e : Later V, Calls Tryz.prog 61 #[.pointer (some ⟨(w.heap.size + 2), 0, none⟩), itemV t A c] e.x (RestPost (w.heap.size + 2) (P, s, true) e.x)) := hid (fun e => by rw [← HRD.out]; exact pread (w.heap.size + 2) nilP [] t HOK.out A c HKC.out e.x (HBR.out.later e) (IsL.weak (fun b _ hb => by have hb : b < w.heap.size := hb; omega) _ (HIV.out.ext e.h)))
 have HBL : Hid (∀ e : Later V, Blk e.x w.heap.size 52 (itemC t A c)) := hid (fun e => HB0.out.later e)
 obtain ⟨e, he⟩ := Later.self V
 rw [he]
 clear he
 have tk1 : True := trivial
 go_upto_region 3 with (first | (clear tk1; refine wpList_row (by rfl) 52 _ rfl _ rfl (HBL.out _) Tryz.underlying52 rfl (by kernel_rfl) ?_) | (go_at_call 61; refine (KRD.out e).mono ?_; rintro x w2 ⟨rfl, hm, hb⟩; have HM2 := hid ((e.h.mono (by simp)).trans hm : Mod [(w.heap.size + 2)] V w2); have HB2 := hid hb; clear hm hb))
 have HE2 : Hid (Ext w w2) := hid ((HP2.out.of_ext.trans HM2.out).new (fun k hk => .inr (by rw [List.mem_singleton] at hk; omega)))
 have HB0 := hid (HB0.out.mod HM2.out (by simp))
 have HB1 := hid (HB1.out.mod HM2.out (by simp))
 have HIV : Hid (IsL w2 (fun b => b < w.heap.size) t A) := hid (IsL.mod HM2.out (fun k hk _ => by have hk : k < w.heap.size := hk; simp; omega) _ HIV.out)
 have hVS : (w.heap.size + 2) < w2.heap.size := HB2.out.lt
 clear KRD HBL HM2 HP2 HBR HIL e
 have c20 : ∀ e : Later w2, e.x.cell? ⟨(w.heap.size + 2), 20, none⟩ = some (.bool true) := HB2.out.cellL 20 rfl
 have c19 : ∀ e : Later w2, e.x.cell? ⟨(w.heap.size + 2), 19, none⟩ = some (str s) := HB2.out.cellL 19 rfl
 obtain ⟨e, he⟩ := Later.self w2
 rw [he]
 clear he
 go_wp2_with (first | (refine wpList_store_mid rfl 26 _ _ rfl (w.heap.size + 1) 0 nilPC (by rfl) (by rfl) ((HB1.out.later e).there (Nat.le_refl 19)) (by kernel_rfl) (by simp [nilPC, Value.oneCell']) ?_))
 generalize hZZ : World.setCells _ _ _ _ = ZZ
 have HZB : Hid (Blk ZZ (w.heap.size + 1) 26 nilPC) := hid (by rw [← hZZ]; exact setCells_all (ds := nilPC) (HB1.out.later e) rfl)
 have HZM : Hid (Ext w ZZ) := hid (by rw [← hZZ]; exact setCells_mod _ _ (HE2.out.trans e.h) (.inr (by omega)))
 clear hZZ
 refine bodyPost_ret (results_cell2 rfl _ (by rfl) rfl HZB.out Tryz.underlying26 rfl (by kernel_rfl)) rfl (Ret.mk rfl HZM.out)
set_option maxRecDepth 20000 in
set_option maxHeartbeats 8000000 in
theorem pof_nosum (t : T) (hok : t.ok) (hsz : t.size ≤ 5000) (A : Option Addr) (c : Nat) (hkc : t.k ≤ c) (w : World) (h : IsL w (fun _ => True) t A) (P : PV) (hrd : readR nilP [] t = (P, [], false)) (v : Value) (hv : (P.right = 0 → v = .tuple #[.agg P.c, .int .i64 0]) ∧ (P.right ≠ 0 → v = .tuple #[.agg nilP.c, .int .i64 P.right])) : Calls Tryz.prog 33 #[itemV t A c] w (Ret (v) w) := by
 have hsm : P.sm := by have := readR_sm hok; rw [hrd] at this; exact this
 have KRG := hid (fun W => cPriRight_any P (hid ⟨by have := hsm.2.1; omega, by have := hsm.2.2.1; omega, by have := hsm.2.2.2; omega⟩) hsm.1 W)
 have HRD := hid hrd
 have HV := hid hv
 clear hrd hv hsm
 have HIL : Hid (IsL w (fun b => b < w.heap.size) t A) := hid (IsL.weak (fun b hb _ => hb) _ h)
 have HOK := hid hok
 have HKC := hid hkc
 have HSZ := hid hsz
 have HE := hid (((Mod.refl [] w).alloc (.cells (itemC t A c) 52)).alloc (.cells #[.int .u64 0, .int .i64 0, .int .i64 0, .string ⟨#[]⟩, .int .u64 0, .int .u64 0, .int .i64 0, .string ⟨#[]⟩, .int .u64 0, .int .u64 0, .int .i64 0, .string ⟨#[]⟩, .int .u64 0, .int .u64 0, .int .u64 0, .int .u64 0, .int .u64 0, .int .u64 0, .int .u64 0] 26))
 have HB0 : Hid (Blk ((w.alloc (.cells (itemC t A c) 52)).alloc (.cells #[.int .u64 0, .int .i64 0, .int .i64 0, .string ⟨#[]⟩, .int .u64 0, .int .u64 0, .int .i64 0, .string ⟨#[]⟩, .int .u64 0, .int .u64 0, .int .i64 0, .string ⟨#[]⟩, .int .u64 0, .int .u64 0, .int .u64 0, .int .u64 0, .int .u64 0, .int .u64 0, .int .u64 0] 26)) w.heap.size 52 (itemC t A c)) := hid ((Blk.new w 52 (itemC t A c)).alloc (.cells #[.int .u64 0, .int .i64 0, .int .i64 0, .string ⟨#[]⟩, .int .u64 0, .int .u64 0, .int .i64 0, .string ⟨#[]⟩, .int .u64 0, .int .u64 0, .int .i64 0, .string ⟨#[]⟩, .int .u64 0, .int .u64 0, .int .u64 0, .int .u64 0, .int .u64 0, .int .u64 0, .int .u64 0] 26))
 have HB1 : Hid (Blk ((w.alloc (.cells (itemC t A c) 52)).alloc (.cells #[.int .u64 0, .int .i64 0, .int .i64 0, .string ⟨#[]⟩, .int .u64 0, .int .u64 0, .int .i64 0, .string ⟨#[]⟩, .int .u64 0, .int .u64 0, .int .i64 0, .string ⟨#[]⟩, .int .u64 0, .int .u64 0, .int .u64 0, .int .u64 0, .int .u64 0, .int .u64 0, .int .u64 0] 26)) (w.heap.size + 1) 26 #[.int .u64 0, .int .i64 0, .int .i64 0, .string ⟨#[]⟩, .int .u64 0, .int .u64 0, .int .i64 0, .string ⟨#[]⟩, .int .u64 0, .int .u64 0, .int .i64 0, .string ⟨#[]⟩, .int .u64 0, .int .u64 0, .int .u64 0, .int .u64 0, .int .u64 0, .int .u64 0, .int .u64 0]) := by unfold Hid; exact Blk.newL _ _ _ (by simp)
 have HP2 : Hid (Ext w ((((w.alloc (.cells (itemC t A c) 52)).alloc (.cells #[.int .u64 0, .int .i64 0, .int .i64 0, .string ⟨#[]⟩, .int .u64 0, .int .u64 0, .int .i64 0, .string ⟨#[]⟩, .int .u64 0, .int .u64 0, .int .i64 0, .string ⟨#[]⟩, .int .u64 0, .int .u64 0, .int .u64 0, .int .u64 0, .int .u64 0, .int .u64 0, .int .u64 0] 26))).alloc (.cells (rdC nilP [] false) 97))) := hid (HE.out.alloc _)
 have HBR : Hid (Blk ((((w.alloc (.cells (itemC t A c) 52)).alloc (.cells #[.int .u64 0, .int .i64 0, .int .i64 0, .string ⟨#[]⟩, .int .u64 0, .int .u64 0, .int .i64 0, .string ⟨#[]⟩, .int .u64 0, .int .u64 0, .int .i64 0, .string ⟨#[]⟩, .int .u64 0, .int .u64 0, .int .u64 0, .int .u64 0, .int .u64 0, .int .u64 0, .int .u64 0] 26))).alloc (.cells (rdC nilP [] false) 97)) (w.heap.size + 2) 97 (rdC nilP [] false)) := Blk.newL _ _ _ (by simp)
 have HB0 := hid (HB0.out.alloc (.cells (rdC nilP [] false) 97))
 have HB1 := hid (HB1.out.alloc (.cells (rdC nilP [] false) 97))
 clear h hok hkc hsz HE
 go_enter Tryz.func33, Tryz.ntmps33
 go_upto_region 2 with fail
 show Code.wp _ _ _ _ ((((w.alloc (.cells (itemC t A c) 52)).alloc (.cells #[.int .u64 0, .int .i64 0, .int .i64 0, .string ⟨#[]⟩, .int .u64 0, .int .u64 0, .int .i64 0, .string ⟨#[]⟩, .int .u64 0, .int .u64 0, .int .i64 0, .string ⟨#[]⟩, .int .u64 0, .int .u64 0, .int .u64 0, .int .u64 0, .int .u64 0, .int .u64 0, .int .u64 0] 26))).alloc (.cells (rdC nilP [] false) 97))
 generalize (((w.alloc (.cells (itemC t A c) 52)).alloc (.cells #[.int .u64 0, .int .i64 0, .int .i64 0, .string ⟨#[]⟩, .int .u64 0, .int .u64 0, .int .i64 0, .string ⟨#[]⟩, .int .u64 0, .int .u64 0, .int .i64 0, .string ⟨#[]⟩, .int .u64 0, .int .u64 0, .int .u64 0, .int .u64 0, .int .u64 0, .int .u64 0, .int .u64 0] 26))).alloc (.cells (rdC nilP [] false) 97) = V at *
 have HIV := hid (HIL.out.ext HP2.out)
 have KRD : Hid (∀ e : Later V, Calls Tryz.prog 61 #[.pointer (some ⟨(w.heap.size + 2), 0, none⟩), itemV t A c] e.x (RestPost (w.heap.size + 2) (P, [], false) e.x)) := hid (fun e => by rw [← HRD.out]; exact pread (w.heap.size + 2) nilP [] t HOK.out A c HKC.out e.x (HBR.out.later e) (IsL.weak (fun b _ hb => by have hb : b < w.heap.size := hb; omega) _ (HIV.out.ext e.h)))
 have HBL : Hid (∀ e : Later V, Blk e.x w.heap.size 52 (itemC t A c)) := hid (fun e => HB0.out.later e)
 obtain ⟨e, he⟩ := Later.self V
 rw [he]
 clear he
 have tk1 : True := trivial
 go_upto_region 3 with (first | (clear tk1; refine wpList_row (by rfl) 52 _ rfl _ rfl (HBL.out _) Tryz.underlying52 rfl (by kernel_rfl) ?_) | (go_at_call 61; refine (KRD.out e).mono ?_; rintro x w2 ⟨rfl, hm, hb⟩; have HM2 := hid ((e.h.mono (by simp)).trans hm : Mod [(w.heap.size + 2)] V w2); have HB2 := hid hb; clear hm hb))
 have HE2 : Hid (Ext w w2) := hid ((HP2.out.of_ext.trans HM2.out).new (fun k hk => .inr (by rw [List.mem_singleton] at hk; omega)))
 have HB0 := hid (HB0.out.mod HM2.out (by simp))
 have HB1 := hid (HB1.out.mod HM2.out (by simp))
 have HIV : Hid (IsL w2 (fun b => b < w.heap.size) t A) := hid (IsL.mod HM2.out (fun k hk _ => by have hk : k < w.heap.size := hk; simp; omega) _ HIV.out)
 have hVS : (w.heap.size + 2) < w2.heap.size := HB2.out.lt
 clear KRD HBL HM2 HP2 HBR HIL e
 have c20 : ∀ e : Later w2, e.x.cell? ⟨(w.heap.size + 2), 20, none⟩ = some (.bool false) := HB2.out.cellL 20 rfl
 have c19 : ∀ e : Later w2, e.x.cell? ⟨(w.heap.size + 2), 19, none⟩ = some (str []) := HB2.out.cellL 19 rfl
 obtain ⟨e, he⟩ := Later.self w2
 rw [he]
 clear he
 go_upto_region 10 with fail
 have HPX : Hid (∀ e : Later w2, e.x.rangeAt (w.heap.size + 2) 0 [.int .u64 (P.fl : Int), .int .i64 P.crc, .int .i64 P.d.sch, str P.d.name, .int .u64 (P.d.node : Int), .int .u64 (P.d.svc : Int), .int .i64 P.s.sch, str P.s.name, .int .u64 (P.s.node : Int), .int .u64 (P.s.svc : Int), .int .i64 P.r.sch, str P.r.name, .int .u64 (P.r.node : Int), .int .u64 (P.r.svc : Int), .int .u64 (P.t : Int), .int .u64 (P.q : Int), .int .u64 (P.l : Int), .int .u64 (P.o : Int), .int .u64 (P.n : Int)]) := HB2.out.range 0 19 (by rw [Array.toList_extract]; rfl)
 have tk1 : True := trivial
 have tk2 : True := trivial
 go_upto_region 11 with (first | (clear tk1; refine wpList_mid (by rfl) 26 _ rfl _ 0 rfl _ _ (HPX.out _) Tryz.underlying26 rfl (by kernel_rfl) ?_) | (go_at_call 44; refine (Ret.later (KRG.out _)).mono ?_; rintro x _ ⟨rfl, e, rfl⟩))
 by_cases hR : P.right = 0
 ·
  have HR := hid hR
  have HV0 := hid (HV.out.1 hR)
  have t1a : ((P.right) == (0)) = true := by rw [beq_iff_eq]; exact hR
  have t1b : ((P.right) = (0)) = True := eq_true (by exact hR)
  have t1c : ((P.right) != (0)) = false := by rw [bne_eq_false_iff_eq]; exact hR
  clear hR
  go_upto_region 13 with fail
  go_wp2_with (first | (clear tk2; refine wpList_mid (by rfl) 26 _ rfl _ 0 rfl _ _ (HPX.out _) Tryz.underlying26 rfl (by kernel_rfl) ?_) | (refine wpList_store_mid rfl 26 _ _ rfl (w.heap.size + 1) 0 #[.int .u64 (P.fl : Int), .int .i64 P.crc, .int .i64 P.d.sch, str P.d.name, .int .u64 (P.d.node : Int), .int .u64 (P.d.svc : Int), .int .i64 P.s.sch, str P.s.name, .int .u64 (P.s.node : Int), .int .u64 (P.s.svc : Int), .int .i64 P.r.sch, str P.r.name, .int .u64 (P.r.node : Int), .int .u64 (P.r.svc : Int), .int .u64 (P.t : Int), .int .u64 (P.q : Int), .int .u64 (P.l : Int), .int .u64 (P.o : Int), .int .u64 (P.n : Int)] (by rfl) (by rfl) ((HB1.out.later e).there (Nat.le_refl 19)) (by kernel_rfl) (by simp [Value.oneCell']) ?_))
  generalize hZZ : World.setCells _ _ _ _ = ZZ
  have HZB : Hid (Blk ZZ (w.heap.size + 1) 26 #[.int .u64 (P.fl : Int), .int .i64 P.crc, .int .i64 P.d.sch, str P.d.name, .int .u64 (P.d.node : Int), .int .u64 (P.d.svc : Int), .int .i64 P.s.sch, str P.s.name, .int .u64 (P.s.node : Int), .int .u64 (P.s.svc : Int), .int .i64 P.r.sch, str P.r.name, .int .u64 (P.r.node : Int), .int .u64 (P.r.svc : Int), .int .u64 (P.t : Int), .int .u64 (P.q : Int), .int .u64 (P.l : Int), .int .u64 (P.o : Int), .int .u64 (P.n : Int)]) := hid (by rw [← hZZ]; exact setCells_all (ds := #[.int .u64 (P.fl : Int), .int .i64 P.crc, .int .i64 P.d.sch, str P.d.name, .int .u64 (P.d.node : Int), .int .u64 (P.d.svc : Int), .int .i64 P.s.sch, str P.s.name, .int .u64 (P.s.node : Int), .int .u64 (P.s.svc : Int), .int .i64 P.r.sch, str P.r.name, .int .u64 (P.r.node : Int), .int .u64 (P.r.svc : Int), .int .u64 (P.t : Int), .int .u64 (P.q : Int), .int .u64 (P.l : Int), .int .u64 (P.o : Int), .int .u64 (P.n : Int)]) (HB1.out.later e) rfl)
  have HZM : Hid (Ext w ZZ) := hid (by rw [← hZZ]; exact setCells_mod _ _ (HE2.out.trans e.h) (.inr (by omega)))
  clear hZZ
  refine bodyPost_ret (results_cell2 rfl _ (by rfl) rfl HZB.out Tryz.underlying26 rfl (by kernel_rfl)) rfl (Ret.mk (by rw [HV0.out]; rfl) HZM.out)
 ·
  have HV0 := hid (HV.out.2 hR)
  have t1a : ((P.right) == (0)) = false := by rw [beq_eq_false_iff_ne]; exact hR
  have t1b : ((P.right) = (0)) = False := eq_false (by exact hR)
  have t1c : ((P.right) != (0)) = true := by rw [bne_iff_ne]; exact hR
  clear hR
  generalize P.right = RR at *
  go_wp2_with (first | (refine wpList_store_mid rfl 26 _ _ rfl (w.heap.size + 1) 0 nilPC (by rfl) (by rfl) ((HB1.out.later e).there (Nat.le_refl 19)) (by kernel_rfl) (by simp [nilPC, Value.oneCell']) ?_))
  generalize hZZ : World.setCells _ _ _ _ = ZZ
  have HZB : Hid (Blk ZZ (w.heap.size + 1) 26 nilPC) := hid (by rw [← hZZ]; exact setCells_all (ds := nilPC) (HB1.out.later e) rfl)
  have HZM : Hid (Ext w ZZ) := hid (by rw [← hZZ]; exact setCells_mod _ _ (HE2.out.trans e.h) (.inr (by omega)))
  clear hZZ
  refine bodyPost_ret (results_cell2 rfl _ (by rfl) rfl HZB.out Tryz.underlying26 rfl (by kernel_rfl)) rfl (Ret.mk (by rw [HV0.out]; rfl) HZM.out)
set_option maxRecDepth 20000 in
set_option maxHeartbeats 8000000 in
theorem pof_sum (t : T) (hok : t.ok) (hsz : t.size ≤ 5000) (A : Option Addr) (c : Nat) (hkc : t.k ≤ c) (w : World) (h : IsL w (fun _ => True) t A) (P : PV) (s : List UInt8) (cr : Nat) (hcr : P.crc = (cr : Int) ∧ (cr = 1 ∨ cr = 2) ∧ s.length = 2 * cr) (hk11 : 8 ≤ t.k ∧ t.k ≤ 11) (hr8 : t.right 8 = true) (hrd : readR nilP [] t = (P, s, false)) (v : Value) (B : Bool) (hB : (sumTr t cr).same t = B) (hv : (B = false → v = .tuple #[.agg nilP.c, .int .i64 5]) ∧ (B = true → P.right = 0 → v = .tuple #[.agg P.c, .int .i64 0]) ∧ (B = true → P.right ≠ 0 → v = .tuple #[.agg nilP.c, .int .i64 P.right])) : Calls Tryz.prog 33 #[itemV t A c] w (Ret (v) w) := by
 have hsm : P.sm := by have := readR_sm hok; rw [hrd] at this; exact this
 have KRG := hid (fun W => cPriRight_any P (hid ⟨by have := hsm.2.1; omega, by have := hsm.2.2.1; omega, by have := hsm.2.2.2; omega⟩) hsm.1 W)
 have HRD := hid hrd
 have hs0 : s ≠ [] := by intro e; rw [e] at hcr; have := hcr.2.2; simp at this; omega
 have tsa : ((s) == ([])) = false := by rw [beq_eq_false_iff_ne]; exact hs0
 have tsb : ((s) = ([])) = False := eq_false (by exact hs0)
 have tsc : ((s) != ([])) = true := by rw [bne_iff_ne]; exact hs0
 obtain ⟨n, hn⟩ : ∃ n, t.k = n + 1 := ⟨t.k - 1, by omega⟩
 have hcr2 : cr ≤ 2 := by omega
 have heta : t = T.mk t.kind t.n t.s t.op (n + 1) t.ch := by rw [← hn]; exact T.eta hok
 have KT : Hid (∀ W, Calls Tryz.prog 64 #[.string ⟨#[0]⟩, .int .i64 (s.length : Int)] W (Ret (str (List.replicate s.length 0)) W)) := hid (fun W => Repeat_zero s.length (by omega) W)
 have hZl : (List.replicate s.length (0 : UInt8)).length ≤ 90 := by simp; omega
 have hZe : List.replicate (2 * cr) (0 : UInt8) = List.replicate s.length 0 := by rw [hcr.2.2]
 obtain ⟨Z, hZ⟩ : ∃ Z, List.replicate s.length (0 : UInt8) = Z := ⟨_, rfl⟩
 rw [hZ] at KT hZl hZe
 obtain ⟨a1, a2, a3, a4⟩ := lastZ_all hok hr8 hk11.2 (by omega) hsz hZl
 have hSl : (Crc.sumL cr (lastZ t Z).bytes).length ≤ 90 := by rw [Crc.sumL_length (by omega) hcr2]; omega
 obtain ⟨b1, b2, b3, b4⟩ := lastZ_all hok hr8 hk11.2 (by omega) hsz hSl
 have hSt : sumTr t cr = lastZ t (Crc.sumL cr (lastZ t Z).bytes) := by unfold sumTr; rw [hZe]
 rw [← hSt] at b1 b2
 obtain ⟨U, hU⟩ : ∃ U, sumTr t cr = U := ⟨_, rfl⟩
 rw [hU] at b1 b2 hB hSt
 have KS : Hid (∀ W g c, IsL W (fun _ => True) (lastZ t Z) (some ⟨g, 0, none⟩) → Calls Tryz.prog 66 #[.int .i64 (cr : Int), .agg #[.int .i64 4, .int .u64 0, str [], .slice (some ⟨g, 0, none⟩) (n + 1) c, .bool false]] W (fun e w' => ∃ A c, e = .returned (itemV U A c) ∧ Ext W w' ∧ IsL w' (fun _ => True) U A)) := hid (fun W g c hL => by
  have hkz : (lastZ t Z).k = n + 1 := by rw [lastZ_k (by omega), hn]
  have h := psummed_cap (frontL t) Z cr (by omega) hcr2 (by rw [frontL_length]; omega) a1 a3 a2 a4 0 (some ⟨g, 0, none⟩) c W (Nat.zero_le _) (IsL.weak (fun _ _ _ => Nat.zero_le _) _ hL)
  have e1 : itemV (listT (frontL t ++ [strT Z])) (some ⟨g, 0, none⟩) c = .agg #[.int .i64 4, .int .u64 0, str [], .slice (some ⟨g, 0, none⟩) (n + 1) c, .bool false] := by
   show Value.agg #[_, _, _, .slice _ (lastZ t Z).k c, _] = _
   rw [hkz]; rfl
  rw [e1] at h
  refine h.mono fun e w' ⟨A, c, h1, h2, h3, _⟩ => ⟨A, c, ?_, h2, ?_⟩
  · rw [hSt]; exact h1
  · rw [hSt]; exact IsL.weak (fun _ _ _ => trivial) _ h3)
 have KSM : Hid (∀ W A1 c1, IsL W (fun _ => True) U A1 → IsL W (fun _ => True) t A → Calls Tryz.prog 65 #[itemV U A1 c1, itemV t A c] W (Ret (.bool B) W)) := hid (fun W A1 c1 h1 h2 => by
  have hbb : (U.right 8 && t.right 8 && U.same t) = B := by rw [b2, hr8, hB]; rfl
  have h := Same_any U t b1 hok A1 A c1 c W h1 h2
  rw [hbb] at h
  exact h)
 have hIc : ∀ W, IsL W (fun b => b < w.heap.size) t A → IsL W (fun b => b < w.heap.size) (T.mk t.kind t.n t.s t.op (n + 1) t.ch) A := fun W hW => by rw [← heta]; exact hW
 have hkk : Hid (0 < n + 1 ∧ n + 1 ≤ 1000) := hid (by omega)
 have KC := hid (fun W (hW : IsL W (fun b => b < w.heap.size) t A) => CloneI_any (Q := fun b => b < w.heap.size) (kind := t.kind) (n := t.n) (s := t.s) (op := t.op) t.ch (n + 1) hkk A c W (hIc W hW))
 have HCRC := hid hcr.1
 have HV := hid hv
 have HN := hid hn
 have n0 : (0 : Int) ≤ (n : Int) := by omega
 have n1 : (n : Int) ≤ 20 := by omega
 have HA1 := hid a1
 have HKZ : Hid ((lastZ t Z).k = n + 1) := hid (by rw [lastZ_k (by omega), hn])
 clear hrd hv hsm hcr hk11 hr8 hB hs0 hcr2 hZl hZe hZ a2 a3 a4 hSl b1 b2 b3 b4 hSt heta hIc hkk hU
 have HIL : Hid (IsL w (fun b => b < w.heap.size) t A) := hid (IsL.weak (fun b hb _ => hb) _ h)
 have HOK := hid hok
 have HKC := hid hkc
 have HSZ := hid hsz
 have HE := hid (((Mod.refl [] w).alloc (.cells (itemC t A c) 52)).alloc (.cells #[.int .u64 0, .int .i64 0, .int .i64 0, .string ⟨#[]⟩, .int .u64 0, .int .u64 0, .int .i64 0, .string ⟨#[]⟩, .int .u64 0, .int .u64 0, .int .i64 0, .string ⟨#[]⟩, .int .u64 0, .int .u64 0, .int .u64 0, .int .u64 0, .int .u64 0, .int .u64 0, .int .u64 0] 26))
 have HB0 : Hid (Blk ((w.alloc (.cells (itemC t A c) 52)).alloc (.cells #[.int .u64 0, .int .i64 0, .int .i64 0, .string ⟨#[]⟩, .int .u64 0, .int .u64 0, .int .i64 0, .string ⟨#[]⟩, .int .u64 0, .int .u64 0, .int .i64 0, .string ⟨#[]⟩, .int .u64 0, .int .u64 0, .int .u64 0, .int .u64 0, .int .u64 0, .int .u64 0, .int .u64 0] 26)) w.heap.size 52 (itemC t A c)) := hid ((Blk.new w 52 (itemC t A c)).alloc (.cells #[.int .u64 0, .int .i64 0, .int .i64 0, .string ⟨#[]⟩, .int .u64 0, .int .u64 0, .int .i64 0, .string ⟨#[]⟩, .int .u64 0, .int .u64 0, .int .i64 0, .string ⟨#[]⟩, .int .u64 0, .int .u64 0, .int .u64 0, .int .u64 0, .int .u64 0, .int .u64 0, .int .u64 0] 26))
 have HB1 : Hid (Blk ((w.alloc (.cells (itemC t A c) 52)).alloc (.cells #[.int .u64 0, .int .i64 0, .int .i64 0, .string ⟨#[]⟩, .int .u64 0, .int .u64 0, .int .i64 0, .string ⟨#[]⟩, .int .u64 0, .int .u64 0, .int .i64 0, .string ⟨#[]⟩, .int .u64 0, .int .u64 0, .int .u64 0, .int .u64 0, .int .u64 0, .int .u64 0, .int .u64 0] 26)) (w.heap.size + 1) 26 #[.int .u64 0, .int .i64 0, .int .i64 0, .string ⟨#[]⟩, .int .u64 0, .int .u64 0, .int .i64 0, .string ⟨#[]⟩, .int .u64 0, .int .u64 0, .int .i64 0, .string ⟨#[]⟩, .int .u64 0, .int .u64 0, .int .u64 0, .int .u64 0, .int .u64 0, .int .u64 0, .int .u64 0]) := by unfold Hid; exact Blk.newL _ _ _ (by simp)
 have HP2 : Hid (Ext w ((((w.alloc (.cells (itemC t A c) 52)).alloc (.cells #[.int .u64 0, .int .i64 0, .int .i64 0, .string ⟨#[]⟩, .int .u64 0, .int .u64 0, .int .i64 0, .string ⟨#[]⟩, .int .u64 0, .int .u64 0, .int .i64 0, .string ⟨#[]⟩, .int .u64 0, .int .u64 0, .int .u64 0, .int .u64 0, .int .u64 0, .int .u64 0, .int .u64 0] 26))).alloc (.cells (rdC nilP [] false) 97))) := hid (HE.out.alloc _)
 have HBR : Hid (Blk ((((w.alloc (.cells (itemC t A c) 52)).alloc (.cells #[.int .u64 0, .int .i64 0, .int .i64 0, .string ⟨#[]⟩, .int .u64 0, .int .u64 0, .int .i64 0, .string ⟨#[]⟩, .int .u64 0, .int .u64 0, .int .i64 0, .string ⟨#[]⟩, .int .u64 0, .int .u64 0, .int .u64 0, .int .u64 0, .int .u64 0, .int .u64 0, .int .u64 0] 26))).alloc (.cells (rdC nilP [] false) 97)) (w.heap.size + 2) 97 (rdC nilP [] false)) := Blk.newL _ _ _ (by simp)
 have HB0 := hid (HB0.out.alloc (.cells (rdC nilP [] false) 97))
 have HB1 := hid (HB1.out.alloc (.cells (rdC nilP [] false) 97))
 clear h hok hkc hsz HE hn a1
 go_enter Tryz.func33, Tryz.ntmps33
 go_upto_region 2 with fail
 show Code.wp _ _ _ _ ((((w.alloc (.cells (itemC t A c) 52)).alloc (.cells #[.int .u64 0, .int .i64 0, .int .i64 0, .string ⟨#[]⟩, .int .u64 0, .int .u64 0, .int .i64 0, .string ⟨#[]⟩, .int .u64 0, .int .u64 0, .int .i64 0, .string ⟨#[]⟩, .int .u64 0, .int .u64 0, .int .u64 0, .int .u64 0, .int .u64 0, .int .u64 0, .int .u64 0] 26))).alloc (.cells (rdC nilP [] false) 97))
 generalize (((w.alloc (.cells (itemC t A c) 52)).alloc (.cells #[.int .u64 0, .int .i64 0, .int .i64 0, .string ⟨#[]⟩, .int .u64 0, .int .u64 0, .int .i64 0, .string ⟨#[]⟩, .int .u64 0, .int .u64 0, .int .i64 0, .string ⟨#[]⟩, .int .u64 0, .int .u64 0, .int .u64 0, .int .u64 0, .int .u64 0, .int .u64 0, .int .u64 0] 26))).alloc (.cells (rdC nilP [] false) 97) = V at *
 have HIV := hid (HIL.out.ext HP2.out)
 have KRD : Hid (∀ e : Later V, Calls Tryz.prog 61 #[.pointer (some ⟨(w.heap.size + 2), 0, none⟩), itemV t A c] e.x (RestPost (w.heap.size + 2) (P, s, false) e.x)) := hid (fun e => by rw [← HRD.out]; exact pread (w.heap.size + 2) nilP [] t HOK.out A c HKC.out e.x (HBR.out.later e) (IsL.weak (fun b _ hb => by have hb : b < w.heap.size := hb; omega) _ (HIV.out.ext e.h)))
 have HBL : Hid (∀ e : Later V, Blk e.x w.heap.size 52 (itemC t A c)) := hid (fun e => HB0.out.later e)
 obtain ⟨e, he⟩ := Later.self V
 rw [he]
 clear he
 have tk1 : True := trivial
 go_upto_region 3 with (first | (clear tk1; refine wpList_row (by rfl) 52 _ rfl _ rfl (HBL.out _) Tryz.underlying52 rfl (by kernel_rfl) ?_) | (go_at_call 61; refine (KRD.out e).mono ?_; rintro x w2 ⟨rfl, hm, hb⟩; have HM2 := hid ((e.h.mono (by simp)).trans hm : Mod [(w.heap.size + 2)] V w2); have HB2 := hid hb; clear hm hb))
 have HE2 : Hid (Ext w w2) := hid ((HP2.out.of_ext.trans HM2.out).new (fun k hk => .inr (by rw [List.mem_singleton] at hk; omega)))
 have HB0 := hid (HB0.out.mod HM2.out (by simp))
 have HB1 := hid (HB1.out.mod HM2.out (by simp))
 have HIV : Hid (IsL w2 (fun b => b < w.heap.size) t A) := hid (IsL.mod HM2.out (fun k hk _ => by have hk : k < w.heap.size := hk; simp; omega) _ HIV.out)
 have hVS : (w.heap.size + 2) < w2.heap.size := HB2.out.lt
 clear KRD HBL HM2 HP2 HBR HIL e
 have c20 : ∀ e : Later w2, e.x.cell? ⟨(w.heap.size + 2), 20, none⟩ = some (.bool false) := HB2.out.cellL 20 rfl
 have c19 : ∀ e : Later w2, e.x.cell? ⟨(w.heap.size + 2), 19, none⟩ = some (str s) := HB2.out.cellL 19 rfl
 have z3 : ∀ e : Later w2, e.x.cell? ⟨w.heap.size, 3, none⟩ = some (.slice A (n + 1) c) := HN.out ▸ HB0.out.cellL 3 rfl
 obtain ⟨e, he⟩ := Later.self w2
 rw [he]
 clear he
 go_upto_region 7 with (go_at_call 62; refine (KC.out _ (HIV.out.ext e.h)).mono ?_; rintro x w3 ⟨g, c', ac, rfl, hb, hg, hlt, hown, hk⟩; have HX := hid (e.h.trans hb); have HGN : Hid (w2.heap.size ≤ g ∧ g < w3.heap.size) := hid ⟨Nat.le_trans e.h.size hg, hlt⟩; have HO1 := hid hown; have HK1 := hid hk; clear hb hg hlt hown hk)
 clear tsa tsb tsc z3 c20 c19 KC
 have HR3 := hid (HB2.out.ext HX.out)
 obtain ⟨x0, x1, x2, x3, x4⟩ := flatC_get t.ch ac (n + 1) n (by omega)
 have y0 : ∀ e : Later w3, e.x.cell? ⟨g, n * 5, none⟩ = _ := cellL (own_cells HO1.out x0)
 have y1 : ∀ e : Later w3, e.x.cell? ⟨g, n * 5 + 1, none⟩ = _ := cellL (own_cells HO1.out x1)
 have y2 : ∀ e : Later w3, e.x.cell? ⟨g, n * 5 + 2, none⟩ = _ := cellL (own_cells HO1.out x2)
 have y3 : ∀ e : Later w3, e.x.cell? ⟨g, n * 5 + 3, none⟩ = _ := cellL (own_cells HO1.out x3)
 have y4 : ∀ e : Later w3, e.x.cell? ⟨g, n * 5 + 4, none⟩ = _ := cellL (own_cells HO1.out x4)
 have HOE : Hid (∀ e : Later w3, e.x.ownsRow _ 52 5 (.slice (some ⟨g, 0, none⟩) (n + 1) c') (n + 1) (flatC t.ch ac (n + 1))) := hid (fun e => ownsRow_mod HO1.out e.h (fun _ _ => by simp))
 have z : ∀ (e : Later w3) (j : Nat), e.x.frozen? ⟨g, j, none⟩ = false := fun e j => (HOE.out e).frozenAt j
 have c19 : ∀ e : Later w3, e.x.cell? ⟨(w.heap.size + 2), 19, none⟩ = some (str s) := HR3.out.cellL 19 rfl
 clear x0 x1 x2 x3 x4
 obtain ⟨e, he⟩ := Later.self w3
 rw [he]
 clear he
 go_upto_region 8 with (first | (go_at_call 64; refine (Ret.later (KT.out _)).mono ?_; rintro x _ ⟨rfl, e, rfl⟩) | (go_at_call 63; refine (Ret.later (StrV_any _ _)).mono ?_; rintro x _ ⟨rfl, e, rfl⟩))
 generalize hW : World.setCell _ _ _ = W2
 have HO2 : Hid (W2.ownsRow _ 52 5 (.slice (some ⟨g, 0, none⟩) (n + 1) c') (n + 1) (flatC (fun i => if i = n then strT Z else t.ch i) (fun i => if i = n then ((none : Option Addr), 0) else ac i) (n + 1))) := hid (by rw [← hW]; exact own_last (n := n) (strT Z) none 0 (HOE.out e))
 have HM : Hid (Mod [g] e.x W2) := hid (by rw [← hW]; exact (((((Mod.refl [g] e.x).setCell (.inl (by simp)) _).setCell (.inl (by simp)) _).setCell (.inl (by simp)) _).setCell (.inl (by simp)) _).setCell (.inl (by simp)) _)
 have HMW : Hid (Mod [g] w2 W2) := hid (((HX.out.trans e.h).mono (by simp)).trans HM.out)
 clear hW y0 y1 y2 y3 y4 z c19
 have HLZ : Hid (IsL W2 (fun _ => True) (lastZ t Z) (some ⟨g, 0, none⟩)) := hid (by
  have h0 : IsL W2 (fun _ => True) (T.mk 4 0 [] false (n + 1) (fun i => if i = n then strT Z else t.ch i)) (some ⟨g, 0, none⟩) := own_IsL (by have := HGN.out.2; have := e.h.size; have := HM.out.size; omega) trivial HO2.out (fun i hi => by
   by_cases h : i = n
   · subst h; simp only [if_true]; exact str_IsL
   ·
    simp only [if_neg h]
    exact IsL.weak (fun _ _ _ => trivial) _ (IsL.mod HM.out (fun b hb _ hs => by rw [List.mem_singleton] at hs; subst hs; have hb : _ < w.heap.size := hb; have := HGN.out.1; omega) _ ((HK1.out i hi).ext e.h)))
  refine IsL.congr (t := T.mk 4 0 [] false (n + 1) (fun i => if i = n then strT Z else t.ch i)) HA1.out HKZ.out.symm (fun i hi => ?_) h0
  have hi : i < n + 1 := hi
  rw [lastZ_ch (by rw [HN.out]; exact hi), HN.out]
  rfl)
 have HIW : Hid (IsL W2 (fun _ => True) t A) := hid (IsL.weak (fun _ _ _ => trivial) _ (IsL.mod HMW.out (fun b hb _ hs => by rw [List.mem_singleton] at hs; subst hs; have hb : _ < w.heap.size := hb; have := HGN.out.1; omega) _ HIV.out))
 have HB0 := hid (HB0.out.mod HMW.out (by have := HGN.out.1; simp; omega))
 have HB1 := hid (HB1.out.mod HMW.out (by have := HGN.out.1; simp; omega))
 have HB2 := hid (HB2.out.mod HMW.out (by have := HGN.out.1; simp; omega))
 have HE2 : Hid (Ext w W2) := hid ((HE2.out.of_ext.trans HMW.out).new (fun k hk => .inr (by have := HGN.out.1; rw [List.mem_singleton] at hk; omega)))
 clear HK1 HO1 HO2 HOE HM HMW HR3 HIV HX e
 refine wp_region_held_drew (S := fun w' => Ext W2 w') (by kernel_rfl) (Mod.refl _ _).drew (fun hHeld => ?_)
 generalize W2.drew = u0 at *
 refine' wpAnyH_take (i := 0) (v := _) rfl (by kernel_rfl) (by kernel_rfl) (by kernel_rfl) (fun _ _ _ h => h) (Or.inl ⟨by rfl, ?hy1⟩) hHeld ?rest1
 case hy1 => (rintro W hM; go_simp; (try with_reducible rfl))
 case rest1 =>
 (try simp only [Act.put, gTl, g0l, gSl, sTl, s0l, sSl])
 refine' wpAnyH_take (i := 1) (v := _) rfl (by kernel_rfl) (by kernel_rfl) (by kernel_rfl) (fun _ _ _ h => h) (Or.inl ⟨by rfl, ?hy2⟩) hHeld ?rest2
 case hy2 => (rintro W hM; go_simp; (try with_reducible rfl))
 case rest2 =>
 (try simp only [Act.put, gTl, g0l, gSl, sTl, s0l, sSl])
 refine' wpAnyH_take (i := 2) (v := _) rfl (by kernel_rfl) (by kernel_rfl) (by kernel_rfl) (fun _ _ _ h => h) (Or.inl ⟨by rfl, ?hy3⟩) hHeld ?rest3
 case hy3 => (rintro W hM; go_simp; (try with_reducible rfl))
 case rest3 =>
 (try simp only [Act.put, gTl, g0l, gSl, sTl, s0l, sSl])
 refine' wpAnyH_take (i := 3) (v := _) rfl (by kernel_rfl) (by kernel_rfl) (by kernel_rfl) (fun _ _ _ h => h) (Or.inl ⟨by rfl, ?hy4⟩) hHeld ?rest4
 case hy4 => (rintro W hM; go_simp; (try with_reducible rfl))
 case rest4 =>
 (try simp only [Act.put, gTl, g0l, gSl, sTl, s0l, sSl])
 refine' wpAnyH_take (i := 4) (v := _) rfl (by kernel_rfl) (by kernel_rfl) (by kernel_rfl) (fun _ _ _ h => h) (Or.inl ⟨by rfl, ?hy5⟩) hHeld ?rest5
 case hy5 => (rintro W hM; have y1 : W.cell? ⟨w.heap.size + 2, 1, none⟩ = some (.int .i64 (cr : Int)) := HCRC.out ▸ (HB2.out.ext hM).cell 1; go_simp; (try with_reducible rfl))
 case rest5 =>
 (try simp only [Act.put, gTl, g0l, gSl, sTl, s0l, sSl])
 refine' wpAnyH_take (i := 5) (v := _) rfl (by kernel_rfl) (by kernel_rfl) (by kernel_rfl) (fun _ _ _ h => h) (Or.inl ⟨by rfl, ?hy6⟩) hHeld ?rest6
 case hy6 => (rintro W hM; go_simp; (try with_reducible rfl))
 case rest6 =>
 (try simp only [Act.put, gTl, g0l, gSl, sTl, s0l, sSl])
 refine wpAnyH_take (i := 8) rfl (by kernel_rfl) (by kernel_rfl) (by kernel_rfl) (fun _ _ _ h => h) (yieldsIf_row (by rfl) 52 _ rfl _ rfl (fun W hM => HB0.out.ext hM) Tryz.underlying52 rfl (by kernel_rfl)) hHeld ?_
 (try simp only [Act.put, gTl, g0l, gSl, sTl, s0l, sSl])
 refine wpAnyH_ready (rs := [6]) (by kernel_rfl) (by simp) ?_
 refine AllReadyH.cons rfl (fun K hK => ?_) AllReadyH.nil
 go_simp
 go_at_call 67
 refine (ListV_any _ _ _ _).mono ?_
 rintro x u1 ⟨rfl, hb⟩
 refine hK.out _ _ (hHeld.trans hb) (fun hHeld => ?_)
 clear hK K
 (try simp only [Act.put, gTl, g0l, gSl, sTl, s0l, sSl])
 refine wpAnyH_ready (rs := [7]) (by kernel_rfl) (by simp) ?_
 refine AllReadyH.cons rfl (fun K hK => ?_) AllReadyH.nil
 go_simp
 go_at_call 66
 refine (KS.out _ _ _ (HLZ.out.ext hHeld)).mono ?_
 rintro x u2 ⟨A2, c2, rfl, hb, hl⟩
 refine hK.out _ _ (hHeld.trans hb) (fun hHeld => ?_)
 clear hK K
 (try simp only [Act.put, gTl, g0l, gSl, sTl, s0l, sSl])
 refine wpAnyH_ready (rs := [9]) (by kernel_rfl) (by simp) ?_
 refine AllReadyH.cons rfl (fun K hK => ?_) AllReadyH.nil
 go_simp
 go_at_call 65
 refine (KSM.out _ _ _ hl (HIW.out.ext hHeld)).mono ?_
 rintro x u3 ⟨rfl, hb⟩
 refine hK.out _ _ (hHeld.trans hb) (fun hHeld => ?_)
 clear hK K
 (try simp only [Act.put, gTl, g0l, gSl, sTl, s0l, sSl])
 refine' wpAnyH_take (i := 10) (v := _) rfl (by kernel_rfl) (by kernel_rfl) (by kernel_rfl) (fun _ _ _ h => h) (Or.inl ⟨by rfl, ?hy7⟩) hHeld ?rest7
 case hy7 => (rintro W hM; go_simp; (try with_reducible rfl))
 case rest7 =>
 (try simp only [Act.put, gTl, g0l, gSl, sTl, s0l, sSl])
 refine wpAnyH_done (by kernel_rfl) ?_ _
 have HX3 : Hid (Ext W2 u3) := hid hHeld
 clear hHeld hb hl KS KSM HLZ HIW HB0 KT
 have HB1 := hid (HB1.out.ext HX3.out)
 have HB2 := hid (HB2.out.ext HX3.out)
 have HE2 := hid (HE2.out.trans HX3.out)
 clear HX3
 obtain ⟨e, he⟩ := Later.self u3
 rw [he]
 clear he
 cases B with
 | false =>
  have HV0 := hid (HV.out.1 rfl)
  go_wp2_with (first | (refine wpList_store_mid rfl 26 _ _ rfl (w.heap.size + 1) 0 nilPC (by rfl) (by rfl) ((HB1.out.later e).there (Nat.le_refl 19)) (by kernel_rfl) (by simp [nilPC, Value.oneCell']) ?_))
  generalize hZZ : World.setCells _ _ _ _ = ZZ
  have HZB : Hid (Blk ZZ (w.heap.size + 1) 26 nilPC) := hid (by rw [← hZZ]; exact setCells_all (ds := nilPC) (HB1.out.later e) rfl)
  have HZM : Hid (Ext w ZZ) := hid (by rw [← hZZ]; exact setCells_mod _ _ (HE2.out.trans e.h) (.inr (by omega)))
  clear hZZ
  refine bodyPost_ret (results_cell2 rfl _ (by rfl) rfl HZB.out Tryz.underlying26 rfl (by kernel_rfl)) rfl (Ret.mk (by rw [HV0.out]; rfl) HZM.out)
 | true =>
  have HVV : Hid ((P.right = 0 → v = .tuple #[.agg P.c, .int .i64 0]) ∧ (P.right ≠ 0 → v = .tuple #[.agg nilP.c, .int .i64 P.right])) := hid ⟨HV.out.2.1 rfl, HV.out.2.2 rfl⟩
  clear HV
  go_upto_region 10 with fail
  have HPX : Hid (∀ e : Later u3, e.x.rangeAt (w.heap.size + 2) 0 [.int .u64 (P.fl : Int), .int .i64 P.crc, .int .i64 P.d.sch, str P.d.name, .int .u64 (P.d.node : Int), .int .u64 (P.d.svc : Int), .int .i64 P.s.sch, str P.s.name, .int .u64 (P.s.node : Int), .int .u64 (P.s.svc : Int), .int .i64 P.r.sch, str P.r.name, .int .u64 (P.r.node : Int), .int .u64 (P.r.svc : Int), .int .u64 (P.t : Int), .int .u64 (P.q : Int), .int .u64 (P.l : Int), .int .u64 (P.o : Int), .int .u64 (P.n : Int)]) := HB2.out.range 0 19 (by rw [Array.toList_extract]; rfl)
  have tk1 : True := trivial
  have tk2 : True := trivial
  go_upto_region 11 with (first | (clear tk1; refine wpList_mid (by rfl) 26 _ rfl _ 0 rfl _ _ (HPX.out _) Tryz.underlying26 rfl (by kernel_rfl) ?_) | (go_at_call 44; refine (Ret.later (KRG.out _)).mono ?_; rintro x _ ⟨rfl, e, rfl⟩))
  by_cases hR : P.right = 0
  ·
   have HR := hid hR
   have HV0 := hid (HVV.out.1 hR)
   have t1a : ((P.right) == (0)) = true := by rw [beq_iff_eq]; exact hR
   have t1b : ((P.right) = (0)) = True := eq_true (by exact hR)
   have t1c : ((P.right) != (0)) = false := by rw [bne_eq_false_iff_eq]; exact hR
   clear hR
   go_upto_region 13 with fail
   go_wp2_with (first | (clear tk2; refine wpList_mid (by rfl) 26 _ rfl _ 0 rfl _ _ (HPX.out _) Tryz.underlying26 rfl (by kernel_rfl) ?_) | (refine wpList_store_mid rfl 26 _ _ rfl (w.heap.size + 1) 0 #[.int .u64 (P.fl : Int), .int .i64 P.crc, .int .i64 P.d.sch, str P.d.name, .int .u64 (P.d.node : Int), .int .u64 (P.d.svc : Int), .int .i64 P.s.sch, str P.s.name, .int .u64 (P.s.node : Int), .int .u64 (P.s.svc : Int), .int .i64 P.r.sch, str P.r.name, .int .u64 (P.r.node : Int), .int .u64 (P.r.svc : Int), .int .u64 (P.t : Int), .int .u64 (P.q : Int), .int .u64 (P.l : Int), .int .u64 (P.o : Int), .int .u64 (P.n : Int)] (by rfl) (by rfl) ((HB1.out.later e).there (Nat.le_refl 19)) (by kernel_rfl) (by simp [Value.oneCell']) ?_))
   generalize hZZ : World.setCells _ _ _ _ = ZZ
   have HZB : Hid (Blk ZZ (w.heap.size + 1) 26 #[.int .u64 (P.fl : Int), .int .i64 P.crc, .int .i64 P.d.sch, str P.d.name, .int .u64 (P.d.node : Int), .int .u64 (P.d.svc : Int), .int .i64 P.s.sch, str P.s.name, .int .u64 (P.s.node : Int), .int .u64 (P.s.svc : Int), .int .i64 P.r.sch, str P.r.name, .int .u64 (P.r.node : Int), .int .u64 (P.r.svc : Int), .int .u64 (P.t : Int), .int .u64 (P.q : Int), .int .u64 (P.l : Int), .int .u64 (P.o : Int), .int .u64 (P.n : Int)]) := hid (by rw [← hZZ]; exact setCells_all (ds := #[.int .u64 (P.fl : Int), .int .i64 P.crc, .int .i64 P.d.sch, str P.d.name, .int .u64 (P.d.node : Int), .int .u64 (P.d.svc : Int), .int .i64 P.s.sch, str P.s.name, .int .u64 (P.s.node : Int), .int .u64 (P.s.svc : Int), .int .i64 P.r.sch, str P.r.name, .int .u64 (P.r.node : Int), .int .u64 (P.r.svc : Int), .int .u64 (P.t : Int), .int .u64 (P.q : Int), .int .u64 (P.l : Int), .int .u64 (P.o : Int), .int .u64 (P.n : Int)]) (HB1.out.later e) rfl)
   have HZM : Hid (Ext w ZZ) := hid (by rw [← hZZ]; exact setCells_mod _ _ (HE2.out.trans e.h) (.inr (by omega)))
   clear hZZ
   refine bodyPost_ret (results_cell2 rfl _ (by rfl) rfl HZB.out Tryz.underlying26 rfl (by kernel_rfl)) rfl (Ret.mk (by rw [HV0.out]; rfl) HZM.out)
  ·
   have HV0 := hid (HVV.out.2 hR)
   have t1a : ((P.right) == (0)) = false := by rw [beq_eq_false_iff_ne]; exact hR
   have t1b : ((P.right) = (0)) = False := eq_false (by exact hR)
   have t1c : ((P.right) != (0)) = true := by rw [bne_iff_ne]; exact hR
   clear hR
   generalize P.right = RR at *
   go_wp2_with (first | (refine wpList_store_mid rfl 26 _ _ rfl (w.heap.size + 1) 0 nilPC (by rfl) (by rfl) ((HB1.out.later e).there (Nat.le_refl 19)) (by kernel_rfl) (by simp [nilPC, Value.oneCell']) ?_))
   generalize hZZ : World.setCells _ _ _ _ = ZZ
   have HZB : Hid (Blk ZZ (w.heap.size + 1) 26 nilPC) := hid (by rw [← hZZ]; exact setCells_all (ds := nilPC) (HB1.out.later e) rfl)
   have HZM : Hid (Ext w ZZ) := hid (by rw [← hZZ]; exact setCells_mod _ _ (HE2.out.trans e.h) (.inr (by omega)))
   clear hZZ
   refine bodyPost_ret (results_cell2 rfl _ (by rfl) rfl HZB.out Tryz.underlying26 rfl (by kernel_rfl)) rfl (Ret.mk (by rw [HV0.out]; rfl) HZM.out)
theorem pof_any (t : T) (hok : t.ok) (hsz : t.size ≤ 5000) (A : Option Addr) (c : Nat) (hkc : t.k ≤ c) (w : World) (h : IsL w (fun _ => True) t A) : Calls Tryz.prog 33 #[itemV t A c] w (Ret (ofPV t) w) := by
 obtain ⟨P, s, bad, hrd⟩ : ∃ P s bad, readR nilP [] t = (P, s, bad) := ⟨_, _, _, rfl⟩
 cases bad with
 | true =>
  have e : ofPV t = .tuple #[.agg nilP.c, .int .i64 2] := by unfold ofPV ofP; rw [hrd]; rfl
  rw [e]
  exact pof_bad t hok hsz A c hkc w h P s hrd
 | false =>
  by_cases hs : s = []
  ·
   subst hs
   refine pof_nosum t hok hsz A c hkc w h P hrd _ ⟨fun h0 => ?_, fun h0 => ?_⟩
   · unfold ofPV ofP; rw [hrd]; simp [h0]
   · unfold ofPV ofP; rw [hrd]; simp [h0]
  ·
   have hh := readR_has (t := t) (by rw [hrd]) (by rw [hrd]; exact hs)
   rw [hrd] at hh
   obtain ⟨h1, h2, h3, h4, h5, cr, h6, h7, h8⟩ := hh
   have h6' : P.crc = (cr : Int) := h6
   have hcn : P.crc.toNat = cr := by rw [h6']; rfl
   refine pof_sum t hok hsz A c hkc w h P s cr ⟨h6, h7, h8⟩ ⟨h4, h5⟩ h1 hrd _ _ rfl ⟨fun h0 => ?_, fun h0 h9 => ?_, fun h0 h9 => ?_⟩
   · unfold ofPV ofP; rw [hrd]; simp [hcn, h0, hs]
   · unfold ofPV ofP; rw [hrd]; simp [hcn, h0, hs, h9]
   · unfold ofPV ofP; rw [hrd]; simp [hcn, h0, hs, h9]
end Go.Proofs.YtfgipgpbjfhflaaGreat


namespace Go.Proofs.YtfgipgpbjfhflaaGreat
open Go.RowKit
set_option linter.unusedVariables false
set_option linter.unusedSimpArgs false

end Go.Proofs.YtfgipgpbjfhflaaGreat


namespace Go.Proofs.YtfgipgpbjfhflaaGreat
open Go.RowKit
set_option linter.unusedVariables false
set_option linter.unusedSimpArgs false

end Go.Proofs.YtfgipgpbjfhflaaGreat


namespace Go.Proofs.YtfgipgpbjfhflaaGreat
open Go.RowKit
set_option linter.unusedVariables false
set_option linter.unusedSimpArgs false

theorem T.plain_of {t : T} {d : Nat} (h : t.right d = true) : t.plain = true := by
 rw [T.right_eq, Bool.and_eq_true] at h; exact h.2
theorem bytes_same {a b : T} (ha : a.plain = true) (hb : b.plain = true) (oa : a.ok) (ob : b.ok) (h : a.bytes = b.bytes) : a.same b = true := (T.bytes_inj a b ha hb oa ob [] [] (by rw [h])).1

def isPrev (s : List UInt8) (e : EV) : Prop := e.ok = true ∧ (eidT e).bytes = s
open Classical in
/-- Of a right tree the name that it may be. -/
theorem prev_tree {t : T} (hr : t.right 8 = true) (hok : t.ok) {e : EV} (h : isPrev t.bytes e) : readE t = e ∧ ofB t = true := by
 obtain ⟨g1, g2, g3, g4⟩ := eidT_ok h.1
 have p := T.plain_of hr
 have s1 := bytes_same g3 p g1 hok h.2
 have s2 := bytes_same p g3 hok g1 h.2.symm
 have e1 := readE_same h.1 s1
 refine ⟨e1, ?_⟩
 unfold ofB
 rw [e1, h.1, hr, s2]; rfl
end Go.Proofs.YtfgipgpbjfhflaaGreat
