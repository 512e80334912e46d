/-
  What a primary's reader reads (primary's read).
  Primaries: their items, made.
  Primaries: the sum put in.
  Primaries: the item and the bytes, as the code makes them.
-/
import Derived.Test.YtogjghmoankleaaMPrimaryBitsg
import Derived.Deep.AppendLies
import Derived.Deep.RegionLaw

namespace Go.Proofs.Ytogjghmoankleaa
open Go.RowKit
set_option linter.unusedVariables false
set_option linter.unusedSimpArgs false

def headR (t : T) : Bool := t.right 8 && decide (t.kind = 4) && !t.op && decide (8 ≤ t.k)
def numsR (t : T) : Prop := ((kidT t 0).kind = 0 ∧ (kidT t 1).kind = 0 ∧ (kidT t 2).kind = 0) ∧ (kidT t 0).n = 7 ∧ t.k = cntN (kidT t 1).n (kidT t 2).n
instance (t : T) : Decidable (numsR t) := by unfold numsR; infer_instance
def flcR (p : PV) (t : T) : PV := { p with fl := (kidT t 1).n, crc := ((min (kidT t 2).n 3 : Nat) : Int) }
/-- What read reads. -/
def readR (p : PV) (s : List UInt8) (t : T) : PV × List UInt8 × Bool :=
  if headR t = false then (p, s, true) else
  if ¬ numsR t then (p, s, true) else
  if nmB false (fun i => kidT t (i + 3)) 3 = true then (nmP (flcR p t) (fun i => kidT t (i + 3)) 3, s, true)
  else restR (nmP (flcR p t) (fun i => kidT t (i + 3)) 3) s (t.k - 6) (fun i => kidT t (i + 6))
theorem nums_first (ch : Nat → T) (ac : Nat → Option Addr × Nat) (c b o : Nat) (w : World) (hb : b < w.heap.size) (hc : ∀ i, i < 3 → At5 w b (o + i * 5) (ch i) (ac i).1 (ac i).2) (h : (ch 0).kind = 0 ∧ (ch 1).kind = 0 ∧ (ch 2).kind = 0) : Calls Try.prog 106 #[.slice (some ⟨b, o, none⟩) 3 c] w (fun e w' => ∃ g cg, e = .returned (.tuple #[.slice (some ⟨g, 0, none⟩) 3 cg, .bool true]) ∧ Hid (Ext w w' ∧ w.heap.size ≤ g ∧ w'.cell? ⟨g, 0, none⟩ = some (.int .u64 ((ch 0).n : Int)) ∧ w'.cell? ⟨g, 1, none⟩ = some (.int .u64 ((ch 1).n : Int)) ∧ w'.cell? ⟨g, 2, none⟩ = some (.int .u64 ((ch 2).n : Int)))) := by
  refine (pnums ch ac 3 c b o (by decide) w hb hc).mono ?_
  rintro e w' ⟨hE, (⟨hall, A, c', rfl, ho⟩ | ⟨⟨i, hi, hne⟩, rfl⟩)⟩
  · obtain ⟨g, rfl, hg, hcs⟩ := nums_cells (by decide) ho
    exact ⟨g, c', rfl, hid ⟨hE, hg, hcs 0 (by decide), hcs 1 (by decide), hcs 2 (by decide)⟩⟩
  · exfalso
    match i, hi with | 0, _ => exact hne h.1 | 1, _ => exact hne h.2.1 | 2, _ => exact hne h.2.2
theorem nums_first_no (ch : Nat → T) (ac : Nat → Option Addr × Nat) (c b o : Nat) (w : World) (hb : b < w.heap.size) (hc : ∀ i, i < 3 → At5 w b (o + i * 5) (ch i) (ac i).1 (ac i).2) (h : ¬ ((ch 0).kind = 0 ∧ (ch 1).kind = 0 ∧ (ch 2).kind = 0)) : Calls Try.prog 106 #[.slice (some ⟨b, o, none⟩) 3 c] w (fun e w' => e = .returned (.tuple #[.slice none 0 0, .bool false]) ∧ Hid (Ext w w')) := by
  refine (pnums ch ac 3 c b o (by decide) w hb hc).mono ?_
  rintro e w' ⟨hE, (⟨hall, A, c', rfl, ho⟩ | ⟨⟨i, hi, hne⟩, rfl⟩)⟩
  · exact absurd ⟨hall 0 (by decide), hall 1 (by decide), hall 2 (by decide)⟩ h
  · exact ⟨rfl, hid hE⟩
/-- An item's items, all at once. -/
theorem kids_of {w : World} {Q : Nat → Prop} {t : T} {A : Option Addr} (hk : 0 < t.k) (h : IsL w Q t A) : ∃ (b o : Nat) (ac : Nat → Option Addr × Nat), A = some ⟨b, o, none⟩ ∧ b < w.heap.size ∧ Q b ∧ ∀ i, i < t.k → At5 w b (o + i * 5) (kidT t i) (ac i).1 (ac i).2 ∧ IsL w Q (kidT t i) (ac i).1 := by
  cases t with
  | nil => exact absurd h (by simp [IsL])
  | mk kd n s op kk cw =>
    obtain ⟨b, o, e, hb, hq, hh⟩ := h hk
    have key : ∀ i, ∃ x : Option Addr × Nat, i < kk → At5 w b (o + i * 5) (cw i) x.1 x.2 ∧ IsL w Q (cw i) x.1 := fun i => by
      by_cases hi : i < kk
      · obtain ⟨Ai, ci, h1, h2⟩ := hh i hi
        exact ⟨(Ai, ci), fun _ => ⟨h1, h2⟩⟩
      · exact ⟨(none, 0), fun h => absurd h hi⟩
    exact ⟨b, o, fun i => Classical.choose (key i), e, hb, hq, fun i hi => Classical.choose_spec (key i) hi⟩
theorem kid_ok {t : T} (h : t.ok) {i : Nat} (hi : i < t.k) : (kidT t i).ok := by
  cases t with
  | nil => exact absurd hi (Nat.not_lt_zero _)
  | mk kd n s op k ch => unfold T.ok at h; exact h.2.2.2.2 i hi
theorem nlt_of {t : T} (h : t.ok) : t.n < 18446744073709551616 := by
  cases t with
  | nil => decide
  | mk kd n s op k ch => unfold T.ok at h; exact h.2.1
set_option maxRecDepth 20000 in
set_option maxHeartbeats 16000000 in
theorem pread (R : Nat) (p : PV) (s : List UInt8) (t : T) (hok : t.ok) (A : Option Addr) (c : Nat) (hkc : t.k ≤ c) (w : World) (h : Blk w R 116 (rdC p s false)) (hl : IsL w (fun n => n ≠ R) t A) : Calls Try.prog 68 #[.pointer (some ⟨R, 0, none⟩), itemV t A c] w (RestPost R (readR p s t) w) := by
  have KR := hid (fun W (hW : IsL W (fun _ => True) t A) => iRight_any t hok A c W hW)
  have HL := hid hl
  have HR := hid h
  have HKC := hid hkc
  have HOK := hid hok
  have HE := hid ((Mod.refl [] w).alloc (.cells (itemC t A c) 38))
  have HB0 := hid (Blk.new w 38 (itemC t A c))
  clear h hl hkc hok
  go_enter Try.func68, Try.ntmps68
  go_upto_region 1 with fail
  have HNV : Hid (w.heap.size ≠ R) := hid (by have := HR.out.lt; omega)
  have HR1 := hid (HR.out.ext HE.out)
  have HLZ := hid (HL.out.ext HE.out)
  have HLT := hid (IsL.weak (R := fun _ => True) (fun _ _ _ => trivial) _ HLZ.out)
  have HM1 : Hid (Mod [R] w (w.alloc (.cells (itemC t A c) 38))) := hid (HE.out.mono (by simp))
  generalize hZ : w.alloc (.cells (itemC t A c) 38) = Z at *
  clear hZ HR
  have z0 : ∀ e : Later Z, e.x.cell? ⟨w.heap.size, 0, none⟩ = some (.int .i64 t.kind) := HB0.out.cellL 0 rfl
  have z1 : ∀ e : Later Z, e.x.cell? ⟨w.heap.size, 1, none⟩ = some (.int .u64 (t.n : Int)) := HB0.out.cellL 1 rfl
  have z2 : ∀ e : Later Z, e.x.cell? ⟨w.heap.size, 2, none⟩ = some (str t.s) := HB0.out.cellL 2 rfl
  have z3 : ∀ e : Later Z, e.x.cell? ⟨w.heap.size, 3, none⟩ = some (.slice A t.k c) := HB0.out.cellL 3 rfl
  have z4 : ∀ e : Later Z, e.x.cell? ⟨w.heap.size, 4, none⟩ = some (.bool t.op) := HB0.out.cellL 4 rfl
  have HW8 : Hid (headR t = headR t) := hid rfl
  obtain ⟨e, he⟩ := Later.self Z
  rw [he]
  clear he
  cases hrt : t.right 8 with
  | false =>
    rw [hrt] at KR
    have HW : Hid (headR t = false) := hid (by unfold headR; rw [hrt]; rfl)
    clear hrt
    go_upto_region 2 with (first | (go_at_call 85; refine (Ret.later (KR.out _ (HLT.out.ext (Later.h _)))).mono ?_; rintro x _ ⟨rfl, e, rfl⟩) | (go_at_call 105; refine (pchk R p s false _ _ (HR1.out.later _)).mono ?_; rintro x w2 ⟨rfl, hm, hB⟩; have HM := hid (Mod.trans (Mod.mono (Later.h _) (by simp)) hm); have HB := hid hB; clear hm hB))
    have HBk : Hid (Blk w2 R 116 (rdC p s true)) := hid HB.out
    have HMk : Hid (Mod [R] w w2) := hid (HM1.out.trans HM.out)
    have c20 : w2.cell? ⟨R, 20, none⟩ = some (.bool true) := HBk.out.cell 20
    clear HB HM
    go_wp2_with fail
    refine bodyPost_ret (results_none rfl _ _ _) rfl ?_
    have hr : readR p s t = (p, s, true) := by unfold readR; rw [if_pos HW.out]
    rw [hr]
    exact ⟨rfl, HMk.out, HBk.out⟩
  | true =>
  rw [hrt] at KR
  have HRT := hid hrt
  clear hrt
  by_cases hkd : t.kind = 4
  case neg =>
    have HW : Hid (headR t = false) := hid (by unfold headR; rw [decide_eq_false hkd]; simp)
    have tka : ((t.kind) == (4)) = false := by rw [beq_eq_false_iff_ne]; exact hkd
    have tkb : ((t.kind) = (4)) = False := eq_false (by exact hkd)
    have tkc : ((t.kind) != (4)) = true := by rw [bne_iff_ne]; exact hkd
    clear hkd
    go_upto_region 2 with (first | (go_at_call 85; refine (Ret.later (KR.out _ (HLT.out.ext (Later.h _)))).mono ?_; rintro x _ ⟨rfl, e, rfl⟩) | (go_at_call 105; refine (pchk R p s false _ _ (HR1.out.later _)).mono ?_; rintro x w2 ⟨rfl, hm, hB⟩; have HM := hid (Mod.trans (Mod.mono (Later.h _) (by simp)) hm); have HB := hid hB; clear hm hB))
    have HBk : Hid (Blk w2 R 116 (rdC p s true)) := hid HB.out
    have HMk : Hid (Mod [R] w w2) := hid (HM1.out.trans HM.out)
    have c20 : w2.cell? ⟨R, 20, none⟩ = some (.bool true) := HBk.out.cell 20
    clear HB HM
    go_wp2_with fail
    refine bodyPost_ret (results_none rfl _ _ _) rfl ?_
    have hr : readR p s t = (p, s, true) := by unfold readR; rw [if_pos HW.out]
    rw [hr]
    exact ⟨rfl, HMk.out, HBk.out⟩
  have HKD := hid hkd
  have tka : ((t.kind) == (4)) = true := by rw [beq_iff_eq]; exact hkd
  have tkb : ((t.kind) = (4)) = True := eq_true (by exact hkd)
  have tkc : ((t.kind) != (4)) = false := by rw [bne_eq_false_iff_eq]; exact hkd
  clear hkd
  by_cases hop : t.op = true
  case pos =>
    have HW : Hid (headR t = false) := hid (by unfold headR; rw [hop]; simp)
    rw [hop] at z4
    have KR : Hid (∀ W, IsL W (fun _ => True) t A → Calls Try.prog 85 #[.agg #[.int .i64 t.kind, .int .u64 (t.n : Int), str t.s, .slice A t.k c, .bool true]] W (Ret (.bool true) W)) := hid (fun W hW => by
      have h : Calls Try.prog 85 #[.agg #[.int .i64 t.kind, .int .u64 (t.n : Int), str t.s, .slice A t.k c, .bool t.op]] W (Ret (.bool true) W) := KR.out W hW
      rw [hop] at h; exact h)
    clear hop HKD
    go_upto_region 2 with (first | (go_at_call 85; refine (Ret.later (KR.out _ (HLT.out.ext (Later.h _)))).mono ?_; rintro x _ ⟨rfl, e, rfl⟩) | (go_at_call 105; refine (pchk R p s false _ _ (HR1.out.later _)).mono ?_; rintro x w2 ⟨rfl, hm, hB⟩; have HM := hid (Mod.trans (Mod.mono (Later.h _) (by simp)) hm); have HB := hid hB; clear hm hB))
    have HBk : Hid (Blk w2 R 116 (rdC p s true)) := hid HB.out
    have HMk : Hid (Mod [R] w w2) := hid (HM1.out.trans HM.out)
    have c20 : w2.cell? ⟨R, 20, none⟩ = some (.bool true) := HBk.out.cell 20
    clear HB HM
    go_wp2_with fail
    refine bodyPost_ret (results_none rfl _ _ _) rfl ?_
    have hr : readR p s t = (p, s, true) := by unfold readR; rw [if_pos HW.out]
    rw [hr]
    exact ⟨rfl, HMk.out, HBk.out⟩
  have hop' : t.op = false := by simpa using hop
  rw [hop'] at z4
  have KR : Hid (∀ W, IsL W (fun _ => True) t A → Calls Try.prog 85 #[.agg #[.int .i64 t.kind, .int .u64 (t.n : Int), str t.s, .slice A t.k c, .bool false]] W (Ret (.bool true) W)) := hid (fun W hW => by
    have h : Calls Try.prog 85 #[.agg #[.int .i64 t.kind, .int .u64 (t.n : Int), str t.s, .slice A t.k c, .bool t.op]] W (Ret (.bool true) W) := KR.out W hW
    rw [hop'] at h; exact h)
  have HOP := hid hop'
  clear hop hop'
  by_cases hk8 : 8 ≤ t.k
  case neg =>
    have HW : Hid (headR t = false) := hid (by unfold headR; rw [decide_eq_false hk8]; simp)
    have tla : decide (8 ≤ t.k) = false := decide_eq_false (by omega)
    have tlb : (8 ≤ t.k) = False := eq_false (by omega)
    have tma : decide ((8 : Int) ≤ (t.k : Int)) = false := decide_eq_false (by omega)
    have tmb : ((8 : Int) ≤ (t.k : Int)) = False := eq_false (by omega)
    clear hk8 HKD HOP
    go_upto_region 2 with (first | (go_at_call 85; refine (Ret.later (KR.out _ (HLT.out.ext (Later.h _)))).mono ?_; rintro x _ ⟨rfl, e, rfl⟩) | (go_at_call 105; refine (pchk R p s false _ _ (HR1.out.later _)).mono ?_; rintro x w2 ⟨rfl, hm, hB⟩; have HM := hid (Mod.trans (Mod.mono (Later.h _) (by simp)) hm); have HB := hid hB; clear hm hB))
    have HBk : Hid (Blk w2 R 116 (rdC p s true)) := hid HB.out
    have HMk : Hid (Mod [R] w w2) := hid (HM1.out.trans HM.out)
    have c20 : w2.cell? ⟨R, 20, none⟩ = some (.bool true) := HBk.out.cell 20
    clear HB HM
    go_wp2_with fail
    refine bodyPost_ret (results_none rfl _ _ _) rfl ?_
    have hr : readR p s t = (p, s, true) := by unfold readR; rw [if_pos HW.out]
    rw [hr]
    exact ⟨rfl, HMk.out, HBk.out⟩
  have HW : Hid (headR t = true) := hid (by unfold headR; rw [HRT.out, HKD.out, HOP.out, decide_eq_true hk8]; rfl)
  have tla : decide (8 ≤ t.k) = true := decide_eq_true (by omega)
  have tlb : (8 ≤ t.k) = True := eq_true (by omega)
  have tma : decide ((8 : Int) ≤ (t.k : Int)) = true := decide_eq_true (by omega)
  have tmb : ((8 : Int) ≤ (t.k : Int)) = True := eq_true (by omega)
  have HK8 := hid hk8
  clear hk8
  go_upto_region 2 with (first | (go_at_call 85; refine (Ret.later (KR.out _ (HLT.out.ext (Later.h _)))).mono ?_; rintro x _ ⟨rfl, e, rfl⟩) | (go_at_call 105; refine (pchk R p s false _ _ (HR1.out.later _)).mono ?_; rintro x w2 ⟨rfl, hm, hB⟩; have HM := hid (Mod.trans (Mod.mono (Later.h _) (by simp)) hm); have HB := hid hB; clear hm hB))
  have HBk : Hid (Blk w2 R 116 (rdC p s false)) := hid HB.out
  have HMk : Hid (Mod [R] w w2) := hid (HM1.out.trans HM.out)
  have c20 : w2.cell? ⟨R, 20, none⟩ = some (.bool false) := HBk.out.cell 20
  have HBV : Hid (Blk w2 w.heap.size 38 (itemC t A c)) := hid (HB0.out.mod HM.out (by simpa using HNV.out))
  have HLR := hid (IsL.mod (Q := fun n => n ≠ R) HM.out (fun k hk _ => by simpa using hk) _ HLZ.out)
  go_upto_region 3 with fail
  clear z0 z1 z2 z3 z4 HM HB c20 HB0 HR1 HLZ HLT e
  obtain ⟨b2, o2, ac, rfl, hb2, hbR, hkids⟩ := kids_of (by have := HK8.out; omega) HLR.out
  have HKD3 := hid hkids
  have HBB := hid (And.intro hb2 hbR)
  have q3 : w2.cell? ⟨w.heap.size, 3, none⟩ = some (.slice (some ⟨b2, o2, none⟩) t.k c) := HBV.out.cell 3
  have e3 : (3 : Int) ≤ (c : Int) := by have := HK8.out; have := HKC.out; omega
  have e3n : 3 ≤ c := by omega
  by_cases hN : (kidT t 0).kind = 0 ∧ (kidT t 1).kind = 0 ∧ (kidT t 2).kind = 0
  case neg =>
    have KN := hid (nums_first_no (kidT t) ac c b2 o2 w2 hb2 (fun i hi => (hkids i (by have := HK8.out; omega)).1) hN)
    have HN := hid hN
    clear hN hkids hb2 hbR
    go_upto_region 4 with (go_at_call 106; refine KN.out.mono ?_; rintro x w3 ⟨rfl, HE3⟩)
    clear q3 KN
    have HNR : Hid (¬ numsR t) := hid (fun h => HN.out h.1)
    have hB0 : Blk w3.drew R 116 (rdC p s false) := (HBk.out.ext HE3.out).drew
    refine wp_region_held_drew (S := fun w' => Mod [R] w3 w') (by kernel_rfl) (Mod.refl _ _).drew (fun hHeld => ?_)
    generalize w3.drew = v0 at *
    refine' wpAnyH_take (i := 0) (v := _) rfl (by kernel_rfl) (by kernel_rfl) (by kernel_rfl) (fun _ _ _ h => h) (Or.inl ⟨by rfl, ?hy1⟩) hHeld ?rest1
    case hy1 => (rintro W hM; go_simp; (try with_reducible rfl))
    case rest1 =>
    (try simp only [Act.put, List.getElem_toArray, List.getElem_cons_zero, List.getElem_cons_succ, List.setIfInBounds_toArray, List.set_cons_zero, List.set_cons_succ])
    refine' wpAnyH_take (i := 1) (v := _) rfl (by kernel_rfl) (by kernel_rfl) (by kernel_rfl) (fun _ _ _ h => h) (Or.inl ⟨by rfl, ?hy2⟩) hHeld ?rest2
    case hy2 => (rintro W hM; go_simp; (try with_reducible rfl))
    case rest2 =>
    (try simp only [Act.put, List.getElem_toArray, List.getElem_cons_zero, List.getElem_cons_succ, List.setIfInBounds_toArray, List.set_cons_zero, List.set_cons_succ])
    refine' wpAnyH_take (i := 2) (v := _) rfl (by kernel_rfl) (by kernel_rfl) (by kernel_rfl) (fun _ _ _ h => h) (Or.inl ⟨by rfl, ?hy3⟩) hHeld ?rest3
    case hy3 => (rintro W hM; go_simp; (try with_reducible rfl))
    case rest3 =>
    (try simp only [Act.put, List.getElem_toArray, List.getElem_cons_zero, List.getElem_cons_succ, List.setIfInBounds_toArray, List.set_cons_zero, List.set_cons_succ])
    refine wpAnyH_take (i := 3) (v := undef) rfl (by kernel_rfl) (by kernel_rfl) (by kernel_rfl) (fun _ _ _ h => h) (Or.inr ⟨by rfl, rfl⟩) hHeld ?_
    (try simp only [Act.put, List.getElem_toArray, List.getElem_cons_zero, List.getElem_cons_succ, List.setIfInBounds_toArray, List.set_cons_zero, List.set_cons_succ])
    refine wpAnyH_take (i := 4) (v := undef) rfl (by kernel_rfl) (by kernel_rfl) (by kernel_rfl) (fun _ _ _ h => h) (Or.inr ⟨by rfl, rfl⟩) hHeld ?_
    (try simp only [Act.put, List.getElem_toArray, List.getElem_cons_zero, List.getElem_cons_succ, List.setIfInBounds_toArray, List.set_cons_zero, List.set_cons_succ])
    refine wpAnyH_take (i := 5) (v := undef) rfl (by kernel_rfl) (by kernel_rfl) (by kernel_rfl) (fun _ _ _ h => h) (Or.inr ⟨by rfl, rfl⟩) hHeld ?_
    (try simp only [Act.put, List.getElem_toArray, List.getElem_cons_zero, List.getElem_cons_succ, List.setIfInBounds_toArray, List.set_cons_zero, List.set_cons_succ])
    refine wpAnyH_take (i := 6) (v := undef) rfl (by kernel_rfl) (by kernel_rfl) (by kernel_rfl) (fun _ _ _ h => h) (Or.inr ⟨by rfl, rfl⟩) hHeld ?_
    (try simp only [Act.put, List.getElem_toArray, List.getElem_cons_zero, List.getElem_cons_succ, List.setIfInBounds_toArray, List.set_cons_zero, List.set_cons_succ])
    refine' wpAnyH_take (i := 7) (v := _) rfl (by kernel_rfl) (by kernel_rfl) (by kernel_rfl) (fun _ _ _ h => h) (Or.inl ⟨by rfl, ?hy4⟩) hHeld ?rest4
    case hy4 => (rintro W hM; go_simp; (try with_reducible rfl))
    case rest4 =>
    (try simp only [Act.put, List.getElem_toArray, List.getElem_cons_zero, List.getElem_cons_succ, List.setIfInBounds_toArray, List.set_cons_zero, List.set_cons_succ])
    refine' wpAnyH_take (i := 8) (v := _) rfl (by kernel_rfl) (by kernel_rfl) (by kernel_rfl) (fun _ _ _ h => h) (Or.inl ⟨by rfl, ?hy5⟩) hHeld ?rest5
    case hy5 => (rintro W hM; go_simp; (try with_reducible rfl))
    case rest5 =>
    (try simp only [Act.put, List.getElem_toArray, List.getElem_cons_zero, List.getElem_cons_succ, List.setIfInBounds_toArray, List.set_cons_zero, List.set_cons_succ])
    refine wpAnyH_take (i := 9) (v := undef) rfl (by kernel_rfl) (by kernel_rfl) (by kernel_rfl) (fun _ _ _ h => h) (Or.inr ⟨by rfl, rfl⟩) hHeld ?_
    (try simp only [Act.put, List.getElem_toArray, List.getElem_cons_zero, List.getElem_cons_succ, List.setIfInBounds_toArray, List.set_cons_zero, List.set_cons_succ])
    refine wpAnyH_take (i := 10) (v := undef) rfl (by kernel_rfl) (by kernel_rfl) (by kernel_rfl) (fun _ _ _ h => h) (Or.inr ⟨by rfl, rfl⟩) hHeld ?_
    (try simp only [Act.put, List.getElem_toArray, List.getElem_cons_zero, List.getElem_cons_succ, List.setIfInBounds_toArray, List.set_cons_zero, List.set_cons_succ])
    refine wpAnyH_take (i := 11) (v := undef) rfl (by kernel_rfl) (by kernel_rfl) (by kernel_rfl) (fun _ _ _ h => h) (Or.inr ⟨by rfl, rfl⟩) hHeld ?_
    (try simp only [Act.put, List.getElem_toArray, List.getElem_cons_zero, List.getElem_cons_succ, List.setIfInBounds_toArray, List.set_cons_zero, List.set_cons_succ])
    refine wpAnyH_take (i := 12) (v := undef) rfl (by kernel_rfl) (by kernel_rfl) (by kernel_rfl) (fun _ _ _ h => h) (Or.inr ⟨by rfl, rfl⟩) hHeld ?_
    (try simp only [Act.put, List.getElem_toArray, List.getElem_cons_zero, List.getElem_cons_succ, List.setIfInBounds_toArray, List.set_cons_zero, List.set_cons_succ])
    refine wpAnyH_take (i := 13) (v := undef) rfl (by kernel_rfl) (by kernel_rfl) (by kernel_rfl) (fun _ _ _ h => h) (Or.inr ⟨by rfl, rfl⟩) hHeld ?_
    (try simp only [Act.put, List.getElem_toArray, List.getElem_cons_zero, List.getElem_cons_succ, List.setIfInBounds_toArray, List.set_cons_zero, List.set_cons_succ])
    refine wpAnyH_take (i := 14) (v := undef) rfl (by kernel_rfl) (by kernel_rfl) (by kernel_rfl) (fun _ _ _ h => h) (Or.inr ⟨by rfl, rfl⟩) hHeld ?_
    (try simp only [Act.put, List.getElem_toArray, List.getElem_cons_zero, List.getElem_cons_succ, List.setIfInBounds_toArray, List.set_cons_zero, List.set_cons_succ])
    refine wpAnyH_take (i := 15) (v := undef) rfl (by kernel_rfl) (by kernel_rfl) (by kernel_rfl) (fun _ _ _ h => h) (Or.inr ⟨by rfl, rfl⟩) hHeld ?_
    (try simp only [Act.put, List.getElem_toArray, List.getElem_cons_zero, List.getElem_cons_succ, List.setIfInBounds_toArray, List.set_cons_zero, List.set_cons_succ])
    refine wpAnyH_take (i := 16) (v := undef) rfl (by kernel_rfl) (by kernel_rfl) (by kernel_rfl) (fun _ _ _ h => h) (Or.inr ⟨by rfl, rfl⟩) hHeld ?_
    (try simp only [Act.put, List.getElem_toArray, List.getElem_cons_zero, List.getElem_cons_succ, List.setIfInBounds_toArray, List.set_cons_zero, List.set_cons_succ])
    refine wpAnyH_take (i := 17) (v := undef) rfl (by kernel_rfl) (by kernel_rfl) (by kernel_rfl) (fun _ _ _ h => h) (Or.inr ⟨by rfl, rfl⟩) hHeld ?_
    (try simp only [Act.put, List.getElem_toArray, List.getElem_cons_zero, List.getElem_cons_succ, List.setIfInBounds_toArray, List.set_cons_zero, List.set_cons_succ])
    refine wpAnyH_take (i := 18) (v := undef) rfl (by kernel_rfl) (by kernel_rfl) (by kernel_rfl) (fun _ _ _ h => h) (Or.inr ⟨by rfl, rfl⟩) hHeld ?_
    (try simp only [Act.put, List.getElem_toArray, List.getElem_cons_zero, List.getElem_cons_succ, List.setIfInBounds_toArray, List.set_cons_zero, List.set_cons_succ])
    refine wpAnyH_take (i := 19) (v := undef) rfl (by kernel_rfl) (by kernel_rfl) (by kernel_rfl) (fun _ _ _ h => h) (Or.inr ⟨by rfl, rfl⟩) hHeld ?_
    (try simp only [Act.put, List.getElem_toArray, List.getElem_cons_zero, List.getElem_cons_succ, List.setIfInBounds_toArray, List.set_cons_zero, List.set_cons_succ])
    refine' wpAnyH_take (i := 20) (v := _) rfl (by kernel_rfl) (by kernel_rfl) (by kernel_rfl) (fun _ _ _ h => h) (Or.inl ⟨by rfl, ?hy6⟩) hHeld ?rest6
    case hy6 => (rintro W hM; go_simp; (try with_reducible rfl))
    case rest6 =>
    (try simp only [Act.put, List.getElem_toArray, List.getElem_cons_zero, List.getElem_cons_succ, List.setIfInBounds_toArray, List.set_cons_zero, List.set_cons_succ])
    refine wpAnyH_ready (rs := [21]) (by kernel_rfl) (by simp) ?_
    refine AllReadyH.cons rfl (fun K hK => ?_) AllReadyH.nil
    go_simp
    go_at_call 105
    refine (pchk R p s false _ _ hB0).mono ?_
    rintro e v2 ⟨rfl, hm, hB⟩
    refine hK.out _ _ (hHeld.trans hm) (fun hHeld => ?_)
    clear hK K
    (try simp only [Act.put, List.getElem_toArray, List.getElem_cons_zero, List.getElem_cons_succ, List.setIfInBounds_toArray, List.set_cons_zero, List.set_cons_succ])
    refine wpAnyH_done (by kernel_rfl) ?_ _
    have BC : Hid (Blk v2 R 116 (rdC p s true)) := hid hB
    have HM5 : Hid (Mod [R] w v2) := hid (HMk.out.trans ((HE3.out.mono (by simp)).trans hHeld))
    clear hHeld hm hB hB0
    have c20 : v2.cell? ⟨R, 20, none⟩ = some (.bool true) := BC.out.cell 20
    go_wp2_with fail
    refine bodyPost_ret (results_none rfl _ _ _) rfl ?_
    have hr : readR p s t = (p, s, true) := by unfold readR; rw [if_neg (by rw [HW.out]; decide), if_pos HNR.out]
    rw [hr]
    exact ⟨rfl, HM5.out, BC.out⟩
  have HKN : Hid (∀ i, i < t.k → (kidT t i).ok) := hid (fun i hi => kid_ok HOK.out hi)
  have KN := hid (nums_first (kidT t) ac c b2 o2 w2 hb2 (fun i hi => (hkids i (by have := HK8.out; omega)).1) hN)
  have HN := hid hN
  clear hN hkids hb2 hbR
  go_upto_region 4 with (go_at_call 106; refine KN.out.mono ?_; rintro x w3 ⟨g, cg, rfl, H3⟩)
  clear q3 KN
  have HGR : Hid (g ≠ R) := hid (by have h1 := H3.out.2.1; have h2 := HBk.out.lt; omega)
  have HG4 := hid (fun (W : World) (hW : Mod [R] w3 W) i (v : Value) (h : w3.cell? ⟨g, i, none⟩ = some v) => ((hW.cell (World.block_lt_of_cell? w3 _ h) (by simpa using HGR.out)).trans h : W.cell? ⟨g, i, none⟩ = some v))
  have HBV3 : Hid (∀ W, Mod [R] w3 W → W.cell? ⟨w.heap.size, 3, none⟩ = some (.slice (some ⟨b2, o2, none⟩) t.k c)) := hid (fun W hW => ((HBV.out.ext H3.out.1).mod hW (by simpa using HNV.out)).cell 3)
  have HG3 := hid H3.out.2.2
  by_cases h7 : (kidT t 0).n = 7
  case neg =>
    have HNR : Hid (¬ numsR t) := hid (fun h => h7 h.2.1)
    have taa : ((((kidT t 0).n : Int)) == (7)) = false := by rw [beq_eq_false_iff_ne]; omega
    have tab : ((((kidT t 0).n : Int)) = (7)) = False := eq_false (by omega)
    have tac : ((((kidT t 0).n : Int)) != (7)) = true := by rw [bne_iff_ne]; omega
    have tba : (((kidT t 0).n) == (7)) = false := by rw [beq_eq_false_iff_ne]; exact h7
    have tbb : (((kidT t 0).n) = (7)) = False := eq_false (by exact h7)
    have tbc : (((kidT t 0).n) != (7)) = true := by rw [bne_iff_ne]; exact h7
    clear h7
    have hB0 : Blk w3.drew R 116 (rdC p s false) := (HBk.out.ext H3.out.1).drew
    refine wp_region_held_drew (S := fun w' => Mod [R] w3 w') (by kernel_rfl) (Mod.refl _ _).drew (fun hHeld => ?_)
    generalize w3.drew = v0 at *
    refine' wpAnyH_take (i := 0) (v := _) rfl (by kernel_rfl) (by kernel_rfl) (by kernel_rfl) (fun _ _ _ h => h) (Or.inl ⟨by rfl, ?hy7⟩) hHeld ?rest7
    case hy7 => (rintro W hM; go_simp; (try with_reducible rfl))
    case rest7 =>
    (try simp only [Act.put, List.getElem_toArray, List.getElem_cons_zero, List.getElem_cons_succ, List.setIfInBounds_toArray, List.set_cons_zero, List.set_cons_succ])
    refine' wpAnyH_take (i := 1) (v := _) rfl (by kernel_rfl) (by kernel_rfl) (by kernel_rfl) (fun _ _ _ h => h) (Or.inl ⟨by rfl, ?hy8⟩) hHeld ?rest8
    case hy8 => (rintro W hM; go_simp; (try with_reducible rfl))
    case rest8 =>
    (try simp only [Act.put, List.getElem_toArray, List.getElem_cons_zero, List.getElem_cons_succ, List.setIfInBounds_toArray, List.set_cons_zero, List.set_cons_succ])
    refine' wpAnyH_take (i := 2) (v := _) rfl (by kernel_rfl) (by kernel_rfl) (by kernel_rfl) (fun _ _ _ h => h) (Or.inl ⟨by rfl, ?hy9⟩) hHeld ?rest9
    case hy9 => (rintro W hM; go_simp; (try with_reducible rfl))
    case rest9 =>
    (try simp only [Act.put, List.getElem_toArray, List.getElem_cons_zero, List.getElem_cons_succ, List.setIfInBounds_toArray, List.set_cons_zero, List.set_cons_succ])
    refine' wpAnyH_take (i := 3) (v := _) rfl (by kernel_rfl) (by kernel_rfl) (by kernel_rfl) (fun _ _ _ h => h) (Or.inl ⟨by rfl, ?hy10⟩) hHeld ?rest10
    case hy10 => (rintro W hM; go_simp; (try with_reducible rfl))
    case rest10 =>
    (try simp only [Act.put, List.getElem_toArray, List.getElem_cons_zero, List.getElem_cons_succ, List.setIfInBounds_toArray, List.set_cons_zero, List.set_cons_succ])
    refine' wpAnyH_take (i := 4) (v := _) rfl (by kernel_rfl) (by kernel_rfl) (by kernel_rfl) (fun _ _ _ h => h) (Or.inl ⟨by rfl, ?hy11⟩) hHeld ?rest11
    case hy11 => (rintro W hM; go_simp; (try with_reducible rfl))
    case rest11 =>
    (try simp only [Act.put, List.getElem_toArray, List.getElem_cons_zero, List.getElem_cons_succ, List.setIfInBounds_toArray, List.set_cons_zero, List.set_cons_succ])
    refine' wpAnyH_take (i := 5) (v := _) rfl (by kernel_rfl) (by kernel_rfl) (by kernel_rfl) (fun _ _ _ h => h) (Or.inl ⟨by rfl, ?hy12⟩) hHeld ?rest12
    case hy12 => (rintro W hM; have y0 := HG4.out W hM 0 _ HG3.out.1; go_simp; (try with_reducible rfl))
    case rest12 =>
    (try simp only [Act.put, List.getElem_toArray, List.getElem_cons_zero, List.getElem_cons_succ, List.setIfInBounds_toArray, List.set_cons_zero, List.set_cons_succ])
    refine' wpAnyH_take (i := 6) (v := _) rfl (by kernel_rfl) (by kernel_rfl) (by kernel_rfl) (fun _ _ _ h => h) (Or.inl ⟨by rfl, ?hy13⟩) hHeld ?rest13
    case hy13 => (rintro W hM; go_simp; (try with_reducible rfl))
    case rest13 =>
    (try simp only [Act.put, List.getElem_toArray, List.getElem_cons_zero, List.getElem_cons_succ, List.setIfInBounds_toArray, List.set_cons_zero, List.set_cons_succ])
    refine' wpAnyH_take (i := 7) (v := _) rfl (by kernel_rfl) (by kernel_rfl) (by kernel_rfl) (fun _ _ _ h => h) (Or.inl ⟨by rfl, ?hy14⟩) hHeld ?rest14
    case hy14 => (rintro W hM; go_simp; (try with_reducible rfl))
    case rest14 =>
    (try simp only [Act.put, List.getElem_toArray, List.getElem_cons_zero, List.getElem_cons_succ, List.setIfInBounds_toArray, List.set_cons_zero, List.set_cons_succ])
    refine' wpAnyH_take (i := 8) (v := _) rfl (by kernel_rfl) (by kernel_rfl) (by kernel_rfl) (fun _ _ _ h => h) (Or.inl ⟨by rfl, ?hy15⟩) hHeld ?rest15
    case hy15 => (rintro W hM; go_simp; (try with_reducible rfl))
    case rest15 =>
    (try simp only [Act.put, List.getElem_toArray, List.getElem_cons_zero, List.getElem_cons_succ, List.setIfInBounds_toArray, List.set_cons_zero, List.set_cons_succ])
    refine wpAnyH_take (i := 9) (v := undef) rfl (by kernel_rfl) (by kernel_rfl) (by kernel_rfl) (fun _ _ _ h => h) (Or.inr ⟨by rfl, rfl⟩) hHeld ?_
    (try simp only [Act.put, List.getElem_toArray, List.getElem_cons_zero, List.getElem_cons_succ, List.setIfInBounds_toArray, List.set_cons_zero, List.set_cons_succ])
    refine wpAnyH_take (i := 10) (v := undef) rfl (by kernel_rfl) (by kernel_rfl) (by kernel_rfl) (fun _ _ _ h => h) (Or.inr ⟨by rfl, rfl⟩) hHeld ?_
    (try simp only [Act.put, List.getElem_toArray, List.getElem_cons_zero, List.getElem_cons_succ, List.setIfInBounds_toArray, List.set_cons_zero, List.set_cons_succ])
    refine wpAnyH_take (i := 11) (v := undef) rfl (by kernel_rfl) (by kernel_rfl) (by kernel_rfl) (fun _ _ _ h => h) (Or.inr ⟨by rfl, rfl⟩) hHeld ?_
    (try simp only [Act.put, List.getElem_toArray, List.getElem_cons_zero, List.getElem_cons_succ, List.setIfInBounds_toArray, List.set_cons_zero, List.set_cons_succ])
    refine wpAnyH_take (i := 12) (v := undef) rfl (by kernel_rfl) (by kernel_rfl) (by kernel_rfl) (fun _ _ _ h => h) (Or.inr ⟨by rfl, rfl⟩) hHeld ?_
    (try simp only [Act.put, List.getElem_toArray, List.getElem_cons_zero, List.getElem_cons_succ, List.setIfInBounds_toArray, List.set_cons_zero, List.set_cons_succ])
    refine wpAnyH_take (i := 13) (v := undef) rfl (by kernel_rfl) (by kernel_rfl) (by kernel_rfl) (fun _ _ _ h => h) (Or.inr ⟨by rfl, rfl⟩) hHeld ?_
    (try simp only [Act.put, List.getElem_toArray, List.getElem_cons_zero, List.getElem_cons_succ, List.setIfInBounds_toArray, List.set_cons_zero, List.set_cons_succ])
    refine wpAnyH_take (i := 14) (v := undef) rfl (by kernel_rfl) (by kernel_rfl) (by kernel_rfl) (fun _ _ _ h => h) (Or.inr ⟨by rfl, rfl⟩) hHeld ?_
    (try simp only [Act.put, List.getElem_toArray, List.getElem_cons_zero, List.getElem_cons_succ, List.setIfInBounds_toArray, List.set_cons_zero, List.set_cons_succ])
    refine wpAnyH_take (i := 15) (v := undef) rfl (by kernel_rfl) (by kernel_rfl) (by kernel_rfl) (fun _ _ _ h => h) (Or.inr ⟨by rfl, rfl⟩) hHeld ?_
    (try simp only [Act.put, List.getElem_toArray, List.getElem_cons_zero, List.getElem_cons_succ, List.setIfInBounds_toArray, List.set_cons_zero, List.set_cons_succ])
    refine wpAnyH_take (i := 16) (v := undef) rfl (by kernel_rfl) (by kernel_rfl) (by kernel_rfl) (fun _ _ _ h => h) (Or.inr ⟨by rfl, rfl⟩) hHeld ?_
    (try simp only [Act.put, List.getElem_toArray, List.getElem_cons_zero, List.getElem_cons_succ, List.setIfInBounds_toArray, List.set_cons_zero, List.set_cons_succ])
    refine wpAnyH_take (i := 17) (v := undef) rfl (by kernel_rfl) (by kernel_rfl) (by kernel_rfl) (fun _ _ _ h => h) (Or.inr ⟨by rfl, rfl⟩) hHeld ?_
    (try simp only [Act.put, List.getElem_toArray, List.getElem_cons_zero, List.getElem_cons_succ, List.setIfInBounds_toArray, List.set_cons_zero, List.set_cons_succ])
    refine wpAnyH_take (i := 18) (v := undef) rfl (by kernel_rfl) (by kernel_rfl) (by kernel_rfl) (fun _ _ _ h => h) (Or.inr ⟨by rfl, rfl⟩) hHeld ?_
    (try simp only [Act.put, List.getElem_toArray, List.getElem_cons_zero, List.getElem_cons_succ, List.setIfInBounds_toArray, List.set_cons_zero, List.set_cons_succ])
    refine wpAnyH_take (i := 19) (v := undef) rfl (by kernel_rfl) (by kernel_rfl) (by kernel_rfl) (fun _ _ _ h => h) (Or.inr ⟨by rfl, rfl⟩) hHeld ?_
    (try simp only [Act.put, List.getElem_toArray, List.getElem_cons_zero, List.getElem_cons_succ, List.setIfInBounds_toArray, List.set_cons_zero, List.set_cons_succ])
    refine' wpAnyH_take (i := 20) (v := _) rfl (by kernel_rfl) (by kernel_rfl) (by kernel_rfl) (fun _ _ _ h => h) (Or.inl ⟨by rfl, ?hy16⟩) hHeld ?rest16
    case hy16 => (rintro W hM; go_simp; (try with_reducible rfl))
    case rest16 =>
    (try simp only [Act.put, List.getElem_toArray, List.getElem_cons_zero, List.getElem_cons_succ, List.setIfInBounds_toArray, List.set_cons_zero, List.set_cons_succ])
    refine wpAnyH_ready (rs := [21]) (by kernel_rfl) (by simp) ?_
    refine AllReadyH.cons rfl (fun K hK => ?_) AllReadyH.nil
    go_simp
    go_at_call 105
    refine (pchk R p s false _ _ hB0).mono ?_
    rintro e v2 ⟨rfl, hm, hB⟩
    refine hK.out _ _ (hHeld.trans hm) (fun hHeld => ?_)
    clear hK K
    (try simp only [Act.put, List.getElem_toArray, List.getElem_cons_zero, List.getElem_cons_succ, List.setIfInBounds_toArray, List.set_cons_zero, List.set_cons_succ])
    refine wpAnyH_done (by kernel_rfl) ?_ _
    have BC : Hid (Blk v2 R 116 (rdC p s true)) := hid hB
    have HM35 : Hid (Mod [R] w3 v2) := hid hHeld
    have HM5 : Hid (Mod [R] w v2) := hid (HMk.out.trans ((H3.out.1.mono (by simp)).trans hHeld))
    clear hHeld hm hB hB0
    have c20 : v2.cell? ⟨R, 20, none⟩ = some (.bool true) := BC.out.cell 20
    go_wp2_with fail
    refine bodyPost_ret (results_none rfl _ _ _) rfl ?_
    have hr : readR p s t = (p, s, true) := by unfold readR; rw [if_neg (by rw [HW.out]; decide), if_pos HNR.out]
    rw [hr]
    exact ⟨rfl, HM5.out, BC.out⟩
  have taa : ((((kidT t 0).n : Int)) == (7)) = true := by rw [beq_iff_eq]; omega
  have tab : ((((kidT t 0).n : Int)) = (7)) = True := eq_true (by omega)
  have tac : ((((kidT t 0).n : Int)) != (7)) = false := by rw [bne_eq_false_iff_eq]; omega
  have tba : (((kidT t 0).n) == (7)) = true := by rw [beq_iff_eq]; exact h7
  have tbb : (((kidT t 0).n) = (7)) = True := eq_true (by exact h7)
  have tbc : (((kidT t 0).n) != (7)) = false := by rw [bne_eq_false_iff_eq]; exact h7
  have H7 := hid h7
  clear h7
  have KC := hid (fun W => pcount (kidT t 1).n (kidT t 2).n (nlt_of (HKN.out 1 (by have := HK8.out; omega))) (nlt_of (HKN.out 2 (by have := HK8.out; omega))) W)
  by_cases hcn : t.k = cntN (kidT t 1).n (kidT t 2).n
  case neg =>
    have HNR : Hid (¬ numsR t) := hid (fun h => hcn h.2.2)
    have tca : (((t.k : Int)) == (((cntN (kidT t 1).n (kidT t 2).n : Nat) : Int))) = false := by rw [beq_eq_false_iff_ne]; omega
    have tcb : (((t.k : Int)) = (((cntN (kidT t 1).n (kidT t 2).n : Nat) : Int))) = False := eq_false (by omega)
    have tcc : (((t.k : Int)) != (((cntN (kidT t 1).n (kidT t 2).n : Nat) : Int))) = true := by rw [bne_iff_ne]; omega
    have tda : ((t.k) == (cntN (kidT t 1).n (kidT t 2).n)) = false := by rw [beq_eq_false_iff_ne]; exact hcn
    have tdb : ((t.k) = (cntN (kidT t 1).n (kidT t 2).n)) = False := eq_false (by exact hcn)
    have tdc : ((t.k) != (cntN (kidT t 1).n (kidT t 2).n)) = true := by rw [bne_iff_ne]; exact hcn
    clear hcn
    have hB0 : Blk w3.drew R 116 (rdC p s false) := (HBk.out.ext H3.out.1).drew
    refine wp_region_held_drew (S := fun w' => Mod [R] w3 w') (by kernel_rfl) (Mod.refl _ _).drew (fun hHeld => ?_)
    generalize w3.drew = v0 at *
    refine' wpAnyH_take (i := 0) (v := _) rfl (by kernel_rfl) (by kernel_rfl) (by kernel_rfl) (fun _ _ _ h => h) (Or.inl ⟨by rfl, ?hy17⟩) hHeld ?rest17
    case hy17 => (rintro W hM; go_simp; (try with_reducible rfl))
    case rest17 =>
    (try simp only [Act.put, List.getElem_toArray, List.getElem_cons_zero, List.getElem_cons_succ, List.setIfInBounds_toArray, List.set_cons_zero, List.set_cons_succ])
    refine' wpAnyH_take (i := 1) (v := _) rfl (by kernel_rfl) (by kernel_rfl) (by kernel_rfl) (fun _ _ _ h => h) (Or.inl ⟨by rfl, ?hy18⟩) hHeld ?rest18
    case hy18 => (rintro W hM; go_simp; (try with_reducible rfl))
    case rest18 =>
    (try simp only [Act.put, List.getElem_toArray, List.getElem_cons_zero, List.getElem_cons_succ, List.setIfInBounds_toArray, List.set_cons_zero, List.set_cons_succ])
    refine' wpAnyH_take (i := 2) (v := _) rfl (by kernel_rfl) (by kernel_rfl) (by kernel_rfl) (fun _ _ _ h => h) (Or.inl ⟨by rfl, ?hy19⟩) hHeld ?rest19
    case hy19 => (rintro W hM; go_simp; (try with_reducible rfl))
    case rest19 =>
    (try simp only [Act.put, List.getElem_toArray, List.getElem_cons_zero, List.getElem_cons_succ, List.setIfInBounds_toArray, List.set_cons_zero, List.set_cons_succ])
    refine' wpAnyH_take (i := 3) (v := _) rfl (by kernel_rfl) (by kernel_rfl) (by kernel_rfl) (fun _ _ _ h => h) (Or.inl ⟨by rfl, ?hy20⟩) hHeld ?rest20
    case hy20 => (rintro W hM; go_simp; (try with_reducible rfl))
    case rest20 =>
    (try simp only [Act.put, List.getElem_toArray, List.getElem_cons_zero, List.getElem_cons_succ, List.setIfInBounds_toArray, List.set_cons_zero, List.set_cons_succ])
    refine' wpAnyH_take (i := 4) (v := _) rfl (by kernel_rfl) (by kernel_rfl) (by kernel_rfl) (fun _ _ _ h => h) (Or.inl ⟨by rfl, ?hy21⟩) hHeld ?rest21
    case hy21 => (rintro W hM; go_simp; (try with_reducible rfl))
    case rest21 =>
    (try simp only [Act.put, List.getElem_toArray, List.getElem_cons_zero, List.getElem_cons_succ, List.setIfInBounds_toArray, List.set_cons_zero, List.set_cons_succ])
    refine' wpAnyH_take (i := 5) (v := _) rfl (by kernel_rfl) (by kernel_rfl) (by kernel_rfl) (fun _ _ _ h => h) (Or.inl ⟨by rfl, ?hy22⟩) hHeld ?rest22
    case hy22 => (rintro W hM; have y0 := HG4.out W hM 0 _ HG3.out.1; go_simp; (try with_reducible rfl))
    case rest22 =>
    (try simp only [Act.put, List.getElem_toArray, List.getElem_cons_zero, List.getElem_cons_succ, List.setIfInBounds_toArray, List.set_cons_zero, List.set_cons_succ])
    refine' wpAnyH_take (i := 6) (v := _) rfl (by kernel_rfl) (by kernel_rfl) (by kernel_rfl) (fun _ _ _ h => h) (Or.inl ⟨by rfl, ?hy23⟩) hHeld ?rest23
    case hy23 => (rintro W hM; go_simp; (try with_reducible rfl))
    case rest23 =>
    (try simp only [Act.put, List.getElem_toArray, List.getElem_cons_zero, List.getElem_cons_succ, List.setIfInBounds_toArray, List.set_cons_zero, List.set_cons_succ])
    refine' wpAnyH_take (i := 7) (v := _) rfl (by kernel_rfl) (by kernel_rfl) (by kernel_rfl) (fun _ _ _ h => h) (Or.inl ⟨by rfl, ?hy24⟩) hHeld ?rest24
    case hy24 => (rintro W hM; go_simp; (try with_reducible rfl))
    case rest24 =>
    (try simp only [Act.put, List.getElem_toArray, List.getElem_cons_zero, List.getElem_cons_succ, List.setIfInBounds_toArray, List.set_cons_zero, List.set_cons_succ])
    refine' wpAnyH_take (i := 8) (v := _) rfl (by kernel_rfl) (by kernel_rfl) (by kernel_rfl) (fun _ _ _ h => h) (Or.inl ⟨by rfl, ?hy25⟩) hHeld ?rest25
    case hy25 => (rintro W hM; go_simp; (try with_reducible rfl))
    case rest25 =>
    (try simp only [Act.put, List.getElem_toArray, List.getElem_cons_zero, List.getElem_cons_succ, List.setIfInBounds_toArray, List.set_cons_zero, List.set_cons_succ])
    refine' wpAnyH_take (i := 9) (v := _) rfl (by kernel_rfl) (by kernel_rfl) (by kernel_rfl) (fun _ _ _ h => h) (Or.inl ⟨by rfl, ?hy26⟩) hHeld ?rest26
    case hy26 => (rintro W hM; go_simp; (try with_reducible rfl))
    case rest26 =>
    (try simp only [Act.put, List.getElem_toArray, List.getElem_cons_zero, List.getElem_cons_succ, List.setIfInBounds_toArray, List.set_cons_zero, List.set_cons_succ])
    refine' wpAnyH_take (i := 10) (v := _) rfl (by kernel_rfl) (by kernel_rfl) (by kernel_rfl) (fun _ _ _ h => h) (Or.inl ⟨by rfl, ?hy27⟩) hHeld ?rest27
    case hy27 => (rintro W hM; have y3 := HBV3.out W hM; go_simp; (try with_reducible rfl))
    case rest27 =>
    (try simp only [Act.put, List.getElem_toArray, List.getElem_cons_zero, List.getElem_cons_succ, List.setIfInBounds_toArray, List.set_cons_zero, List.set_cons_succ])
    refine' wpAnyH_take (i := 11) (v := _) rfl (by kernel_rfl) (by kernel_rfl) (by kernel_rfl) (fun _ _ _ h => h) (Or.inl ⟨by rfl, ?hy28⟩) hHeld ?rest28
    case hy28 => (rintro W hM; go_simp; (try with_reducible rfl))
    case rest28 =>
    (try simp only [Act.put, List.getElem_toArray, List.getElem_cons_zero, List.getElem_cons_succ, List.setIfInBounds_toArray, List.set_cons_zero, List.set_cons_succ])
    refine' wpAnyH_take (i := 12) (v := _) rfl (by kernel_rfl) (by kernel_rfl) (by kernel_rfl) (fun _ _ _ h => h) (Or.inl ⟨by rfl, ?hy29⟩) hHeld ?rest29
    case hy29 => (rintro W hM; go_simp; (try with_reducible rfl))
    case rest29 =>
    (try simp only [Act.put, List.getElem_toArray, List.getElem_cons_zero, List.getElem_cons_succ, List.setIfInBounds_toArray, List.set_cons_zero, List.set_cons_succ])
    refine' wpAnyH_take (i := 13) (v := _) rfl (by kernel_rfl) (by kernel_rfl) (by kernel_rfl) (fun _ _ _ h => h) (Or.inl ⟨by rfl, ?hy30⟩) hHeld ?rest30
    case hy30 => (rintro W hM; go_simp; (try with_reducible rfl))
    case rest30 =>
    (try simp only [Act.put, List.getElem_toArray, List.getElem_cons_zero, List.getElem_cons_succ, List.setIfInBounds_toArray, List.set_cons_zero, List.set_cons_succ])
    refine' wpAnyH_take (i := 14) (v := _) rfl (by kernel_rfl) (by kernel_rfl) (by kernel_rfl) (fun _ _ _ h => h) (Or.inl ⟨by rfl, ?hy31⟩) hHeld ?rest31
    case hy31 => (rintro W hM; have y1 := HG4.out W hM 1 _ HG3.out.2.1; go_simp; (try with_reducible rfl))
    case rest31 =>
    (try simp only [Act.put, List.getElem_toArray, List.getElem_cons_zero, List.getElem_cons_succ, List.setIfInBounds_toArray, List.set_cons_zero, List.set_cons_succ])
    refine' wpAnyH_take (i := 15) (v := _) rfl (by kernel_rfl) (by kernel_rfl) (by kernel_rfl) (fun _ _ _ h => h) (Or.inl ⟨by rfl, ?hy32⟩) hHeld ?rest32
    case hy32 => (rintro W hM; go_simp; (try with_reducible rfl))
    case rest32 =>
    (try simp only [Act.put, List.getElem_toArray, List.getElem_cons_zero, List.getElem_cons_succ, List.setIfInBounds_toArray, List.set_cons_zero, List.set_cons_succ])
    refine' wpAnyH_take (i := 16) (v := _) rfl (by kernel_rfl) (by kernel_rfl) (by kernel_rfl) (fun _ _ _ h => h) (Or.inl ⟨by rfl, ?hy33⟩) hHeld ?rest33
    case hy33 => (rintro W hM; go_simp; (try with_reducible rfl))
    case rest33 =>
    (try simp only [Act.put, List.getElem_toArray, List.getElem_cons_zero, List.getElem_cons_succ, List.setIfInBounds_toArray, List.set_cons_zero, List.set_cons_succ])
    refine' wpAnyH_take (i := 17) (v := _) rfl (by kernel_rfl) (by kernel_rfl) (by kernel_rfl) (fun _ _ _ h => h) (Or.inl ⟨by rfl, ?hy34⟩) hHeld ?rest34
    case hy34 => (rintro W hM; have y2 := HG4.out W hM 2 _ HG3.out.2.2; go_simp; (try with_reducible rfl))
    case rest34 =>
    (try simp only [Act.put, List.getElem_toArray, List.getElem_cons_zero, List.getElem_cons_succ, List.setIfInBounds_toArray, List.set_cons_zero, List.set_cons_succ])
    refine wpAnyH_ready (rs := [18]) (by kernel_rfl) (by simp) ?_
    refine AllReadyH.cons rfl (fun K hK => ?_) AllReadyH.nil
    go_simp
    go_at_call 107
    refine (KC.out _).mono ?_
    rintro e v1 ⟨rfl, hb⟩
    have hB0 := hB0.ext hb
    refine hK.out _ _ (hHeld.trans (hb.mono (by simp))) (fun hHeld => ?_)
    clear hK K
    (try simp only [Act.put, List.getElem_toArray, List.getElem_cons_zero, List.getElem_cons_succ, List.setIfInBounds_toArray, List.set_cons_zero, List.set_cons_succ])
    refine' wpAnyH_take (i := 19) (v := _) rfl (by kernel_rfl) (by kernel_rfl) (by kernel_rfl) (fun _ _ _ h => h) (Or.inl ⟨by rfl, ?hy35⟩) hHeld ?rest35
    case hy35 => (rintro W hM; go_simp; (try with_reducible rfl))
    case rest35 =>
    (try simp only [Act.put, List.getElem_toArray, List.getElem_cons_zero, List.getElem_cons_succ, List.setIfInBounds_toArray, List.set_cons_zero, List.set_cons_succ])
    refine' wpAnyH_take (i := 20) (v := _) rfl (by kernel_rfl) (by kernel_rfl) (by kernel_rfl) (fun _ _ _ h => h) (Or.inl ⟨by rfl, ?hy36⟩) hHeld ?rest36
    case hy36 => (rintro W hM; go_simp; (try with_reducible rfl))
    case rest36 =>
    (try simp only [Act.put, List.getElem_toArray, List.getElem_cons_zero, List.getElem_cons_succ, List.setIfInBounds_toArray, List.set_cons_zero, List.set_cons_succ])
    refine wpAnyH_ready (rs := [21]) (by kernel_rfl) (by simp) ?_
    refine AllReadyH.cons rfl (fun K hK => ?_) AllReadyH.nil
    go_simp
    go_at_call 105
    refine (pchk R p s false _ _ hB0).mono ?_
    rintro e v2 ⟨rfl, hm, hB⟩
    refine hK.out _ _ (hHeld.trans hm) (fun hHeld => ?_)
    clear hK K
    (try simp only [Act.put, List.getElem_toArray, List.getElem_cons_zero, List.getElem_cons_succ, List.setIfInBounds_toArray, List.set_cons_zero, List.set_cons_succ])
    refine wpAnyH_done (by kernel_rfl) ?_ _
    have BC : Hid (Blk v2 R 116 (rdC p s true)) := hid hB
    have HM35 : Hid (Mod [R] w3 v2) := hid hHeld
    have HM5 : Hid (Mod [R] w v2) := hid (HMk.out.trans ((H3.out.1.mono (by simp)).trans hHeld))
    clear hHeld hm hB hB0
    have c20 : v2.cell? ⟨R, 20, none⟩ = some (.bool true) := BC.out.cell 20
    go_wp2_with fail
    refine bodyPost_ret (results_none rfl _ _ _) rfl ?_
    have hr : readR p s t = (p, s, true) := by unfold readR; rw [if_neg (by rw [HW.out]; decide), if_pos HNR.out]
    rw [hr]
    exact ⟨rfl, HM5.out, BC.out⟩
  have HCN := hid hcn
  have tca : (((t.k : Int)) == (((cntN (kidT t 1).n (kidT t 2).n : Nat) : Int))) = true := by rw [beq_iff_eq]; omega
  have tcb : (((t.k : Int)) = (((cntN (kidT t 1).n (kidT t 2).n : Nat) : Int))) = True := eq_true (by omega)
  have tcc : (((t.k : Int)) != (((cntN (kidT t 1).n (kidT t 2).n : Nat) : Int))) = false := by rw [bne_eq_false_iff_eq]; omega
  have tda : ((t.k) == (cntN (kidT t 1).n (kidT t 2).n)) = true := by rw [beq_iff_eq]; exact hcn
  have tdb : ((t.k) = (cntN (kidT t 1).n (kidT t 2).n)) = True := eq_true (by exact hcn)
  have tdc : ((t.k) != (cntN (kidT t 1).n (kidT t 2).n)) = false := by rw [bne_eq_false_iff_eq]; exact hcn
  clear hcn
  have hB0 : Blk w3.drew R 116 (rdC p s false) := (HBk.out.ext H3.out.1).drew
  refine wp_region_held_drew (S := fun w' => Mod [R] w3 w') (by kernel_rfl) (Mod.refl _ _).drew (fun hHeld => ?_)
  generalize w3.drew = v0 at *
  refine' wpAnyH_take (i := 0) (v := _) rfl (by kernel_rfl) (by kernel_rfl) (by kernel_rfl) (fun _ _ _ h => h) (Or.inl ⟨by rfl, ?hy37⟩) hHeld ?rest37
  case hy37 => (rintro W hM; go_simp; (try with_reducible rfl))
  case rest37 =>
  (try simp only [Act.put, List.getElem_toArray, List.getElem_cons_zero, List.getElem_cons_succ, List.setIfInBounds_toArray, List.set_cons_zero, List.set_cons_succ])
  refine' wpAnyH_take (i := 1) (v := _) rfl (by kernel_rfl) (by kernel_rfl) (by kernel_rfl) (fun _ _ _ h => h) (Or.inl ⟨by rfl, ?hy38⟩) hHeld ?rest38
  case hy38 => (rintro W hM; go_simp; (try with_reducible rfl))
  case rest38 =>
  (try simp only [Act.put, List.getElem_toArray, List.getElem_cons_zero, List.getElem_cons_succ, List.setIfInBounds_toArray, List.set_cons_zero, List.set_cons_succ])
  refine' wpAnyH_take (i := 2) (v := _) rfl (by kernel_rfl) (by kernel_rfl) (by kernel_rfl) (fun _ _ _ h => h) (Or.inl ⟨by rfl, ?hy39⟩) hHeld ?rest39
  case hy39 => (rintro W hM; go_simp; (try with_reducible rfl))
  case rest39 =>
  (try simp only [Act.put, List.getElem_toArray, List.getElem_cons_zero, List.getElem_cons_succ, List.setIfInBounds_toArray, List.set_cons_zero, List.set_cons_succ])
  refine' wpAnyH_take (i := 3) (v := _) rfl (by kernel_rfl) (by kernel_rfl) (by kernel_rfl) (fun _ _ _ h => h) (Or.inl ⟨by rfl, ?hy40⟩) hHeld ?rest40
  case hy40 => (rintro W hM; go_simp; (try with_reducible rfl))
  case rest40 =>
  (try simp only [Act.put, List.getElem_toArray, List.getElem_cons_zero, List.getElem_cons_succ, List.setIfInBounds_toArray, List.set_cons_zero, List.set_cons_succ])
  refine' wpAnyH_take (i := 4) (v := _) rfl (by kernel_rfl) (by kernel_rfl) (by kernel_rfl) (fun _ _ _ h => h) (Or.inl ⟨by rfl, ?hy41⟩) hHeld ?rest41
  case hy41 => (rintro W hM; go_simp; (try with_reducible rfl))
  case rest41 =>
  (try simp only [Act.put, List.getElem_toArray, List.getElem_cons_zero, List.getElem_cons_succ, List.setIfInBounds_toArray, List.set_cons_zero, List.set_cons_succ])
  refine' wpAnyH_take (i := 5) (v := _) rfl (by kernel_rfl) (by kernel_rfl) (by kernel_rfl) (fun _ _ _ h => h) (Or.inl ⟨by rfl, ?hy42⟩) hHeld ?rest42
  case hy42 => (rintro W hM; have y0 := HG4.out W hM 0 _ HG3.out.1; go_simp; (try with_reducible rfl))
  case rest42 =>
  (try simp only [Act.put, List.getElem_toArray, List.getElem_cons_zero, List.getElem_cons_succ, List.setIfInBounds_toArray, List.set_cons_zero, List.set_cons_succ])
  refine' wpAnyH_take (i := 6) (v := _) rfl (by kernel_rfl) (by kernel_rfl) (by kernel_rfl) (fun _ _ _ h => h) (Or.inl ⟨by rfl, ?hy43⟩) hHeld ?rest43
  case hy43 => (rintro W hM; go_simp; (try with_reducible rfl))
  case rest43 =>
  (try simp only [Act.put, List.getElem_toArray, List.getElem_cons_zero, List.getElem_cons_succ, List.setIfInBounds_toArray, List.set_cons_zero, List.set_cons_succ])
  refine' wpAnyH_take (i := 7) (v := _) rfl (by kernel_rfl) (by kernel_rfl) (by kernel_rfl) (fun _ _ _ h => h) (Or.inl ⟨by rfl, ?hy44⟩) hHeld ?rest44
  case hy44 => (rintro W hM; go_simp; (try with_reducible rfl))
  case rest44 =>
  (try simp only [Act.put, List.getElem_toArray, List.getElem_cons_zero, List.getElem_cons_succ, List.setIfInBounds_toArray, List.set_cons_zero, List.set_cons_succ])
  refine' wpAnyH_take (i := 8) (v := _) rfl (by kernel_rfl) (by kernel_rfl) (by kernel_rfl) (fun _ _ _ h => h) (Or.inl ⟨by rfl, ?hy45⟩) hHeld ?rest45
  case hy45 => (rintro W hM; go_simp; (try with_reducible rfl))
  case rest45 =>
  (try simp only [Act.put, List.getElem_toArray, List.getElem_cons_zero, List.getElem_cons_succ, List.setIfInBounds_toArray, List.set_cons_zero, List.set_cons_succ])
  refine' wpAnyH_take (i := 9) (v := _) rfl (by kernel_rfl) (by kernel_rfl) (by kernel_rfl) (fun _ _ _ h => h) (Or.inl ⟨by rfl, ?hy46⟩) hHeld ?rest46
  case hy46 => (rintro W hM; go_simp; (try with_reducible rfl))
  case rest46 =>
  (try simp only [Act.put, List.getElem_toArray, List.getElem_cons_zero, List.getElem_cons_succ, List.setIfInBounds_toArray, List.set_cons_zero, List.set_cons_succ])
  refine' wpAnyH_take (i := 10) (v := _) rfl (by kernel_rfl) (by kernel_rfl) (by kernel_rfl) (fun _ _ _ h => h) (Or.inl ⟨by rfl, ?hy47⟩) hHeld ?rest47
  case hy47 => (rintro W hM; have y3 := HBV3.out W hM; go_simp; (try with_reducible rfl))
  case rest47 =>
  (try simp only [Act.put, List.getElem_toArray, List.getElem_cons_zero, List.getElem_cons_succ, List.setIfInBounds_toArray, List.set_cons_zero, List.set_cons_succ])
  refine' wpAnyH_take (i := 11) (v := _) rfl (by kernel_rfl) (by kernel_rfl) (by kernel_rfl) (fun _ _ _ h => h) (Or.inl ⟨by rfl, ?hy48⟩) hHeld ?rest48
  case hy48 => (rintro W hM; go_simp; (try with_reducible rfl))
  case rest48 =>
  (try simp only [Act.put, List.getElem_toArray, List.getElem_cons_zero, List.getElem_cons_succ, List.setIfInBounds_toArray, List.set_cons_zero, List.set_cons_succ])
  refine' wpAnyH_take (i := 12) (v := _) rfl (by kernel_rfl) (by kernel_rfl) (by kernel_rfl) (fun _ _ _ h => h) (Or.inl ⟨by rfl, ?hy49⟩) hHeld ?rest49
  case hy49 => (rintro W hM; go_simp; (try with_reducible rfl))
  case rest49 =>
  (try simp only [Act.put, List.getElem_toArray, List.getElem_cons_zero, List.getElem_cons_succ, List.setIfInBounds_toArray, List.set_cons_zero, List.set_cons_succ])
  refine' wpAnyH_take (i := 13) (v := _) rfl (by kernel_rfl) (by kernel_rfl) (by kernel_rfl) (fun _ _ _ h => h) (Or.inl ⟨by rfl, ?hy50⟩) hHeld ?rest50
  case hy50 => (rintro W hM; go_simp; (try with_reducible rfl))
  case rest50 =>
  (try simp only [Act.put, List.getElem_toArray, List.getElem_cons_zero, List.getElem_cons_succ, List.setIfInBounds_toArray, List.set_cons_zero, List.set_cons_succ])
  refine' wpAnyH_take (i := 14) (v := _) rfl (by kernel_rfl) (by kernel_rfl) (by kernel_rfl) (fun _ _ _ h => h) (Or.inl ⟨by rfl, ?hy51⟩) hHeld ?rest51
  case hy51 => (rintro W hM; have y1 := HG4.out W hM 1 _ HG3.out.2.1; go_simp; (try with_reducible rfl))
  case rest51 =>
  (try simp only [Act.put, List.getElem_toArray, List.getElem_cons_zero, List.getElem_cons_succ, List.setIfInBounds_toArray, List.set_cons_zero, List.set_cons_succ])
  refine' wpAnyH_take (i := 15) (v := _) rfl (by kernel_rfl) (by kernel_rfl) (by kernel_rfl) (fun _ _ _ h => h) (Or.inl ⟨by rfl, ?hy52⟩) hHeld ?rest52
  case hy52 => (rintro W hM; go_simp; (try with_reducible rfl))
  case rest52 =>
  (try simp only [Act.put, List.getElem_toArray, List.getElem_cons_zero, List.getElem_cons_succ, List.setIfInBounds_toArray, List.set_cons_zero, List.set_cons_succ])
  refine' wpAnyH_take (i := 16) (v := _) rfl (by kernel_rfl) (by kernel_rfl) (by kernel_rfl) (fun _ _ _ h => h) (Or.inl ⟨by rfl, ?hy53⟩) hHeld ?rest53
  case hy53 => (rintro W hM; go_simp; (try with_reducible rfl))
  case rest53 =>
  (try simp only [Act.put, List.getElem_toArray, List.getElem_cons_zero, List.getElem_cons_succ, List.setIfInBounds_toArray, List.set_cons_zero, List.set_cons_succ])
  refine' wpAnyH_take (i := 17) (v := _) rfl (by kernel_rfl) (by kernel_rfl) (by kernel_rfl) (fun _ _ _ h => h) (Or.inl ⟨by rfl, ?hy54⟩) hHeld ?rest54
  case hy54 => (rintro W hM; have y2 := HG4.out W hM 2 _ HG3.out.2.2; go_simp; (try with_reducible rfl))
  case rest54 =>
  (try simp only [Act.put, List.getElem_toArray, List.getElem_cons_zero, List.getElem_cons_succ, List.setIfInBounds_toArray, List.set_cons_zero, List.set_cons_succ])
  refine wpAnyH_ready (rs := [18]) (by kernel_rfl) (by simp) ?_
  refine AllReadyH.cons rfl (fun K hK => ?_) AllReadyH.nil
  go_simp
  go_at_call 107
  refine (KC.out _).mono ?_
  rintro e v1 ⟨rfl, hb⟩
  have hB0 := hB0.ext hb
  refine hK.out _ _ (hHeld.trans (hb.mono (by simp))) (fun hHeld => ?_)
  clear hK K
  (try simp only [Act.put, List.getElem_toArray, List.getElem_cons_zero, List.getElem_cons_succ, List.setIfInBounds_toArray, List.set_cons_zero, List.set_cons_succ])
  refine' wpAnyH_take (i := 19) (v := _) rfl (by kernel_rfl) (by kernel_rfl) (by kernel_rfl) (fun _ _ _ h => h) (Or.inl ⟨by rfl, ?hy55⟩) hHeld ?rest55
  case hy55 => (rintro W hM; go_simp; (try with_reducible rfl))
  case rest55 =>
  (try simp only [Act.put, List.getElem_toArray, List.getElem_cons_zero, List.getElem_cons_succ, List.setIfInBounds_toArray, List.set_cons_zero, List.set_cons_succ])
  refine' wpAnyH_take (i := 20) (v := _) rfl (by kernel_rfl) (by kernel_rfl) (by kernel_rfl) (fun _ _ _ h => h) (Or.inl ⟨by rfl, ?hy56⟩) hHeld ?rest56
  case hy56 => (rintro W hM; go_simp; (try with_reducible rfl))
  case rest56 =>
  (try simp only [Act.put, List.getElem_toArray, List.getElem_cons_zero, List.getElem_cons_succ, List.setIfInBounds_toArray, List.set_cons_zero, List.set_cons_succ])
  refine wpAnyH_ready (rs := [21]) (by kernel_rfl) (by simp) ?_
  refine AllReadyH.cons rfl (fun K hK => ?_) AllReadyH.nil
  go_simp
  go_at_call 105
  refine (pchk R p s false _ _ hB0).mono ?_
  rintro e v2 ⟨rfl, hm, hB⟩
  refine hK.out _ _ (hHeld.trans hm) (fun hHeld => ?_)
  clear hK K
  (try simp only [Act.put, List.getElem_toArray, List.getElem_cons_zero, List.getElem_cons_succ, List.setIfInBounds_toArray, List.set_cons_zero, List.set_cons_succ])
  refine wpAnyH_done (by kernel_rfl) ?_ _
  have BC : Hid (Blk v2 R 116 (rdC p s false)) := hid hB
  have HM35 : Hid (Mod [R] w3 v2) := hid hHeld
  have HM5 : Hid (Mod [R] w v2) := hid (HMk.out.trans ((H3.out.1.mono (by simp)).trans hHeld))
  clear hHeld hm hB hB0
  have c20 : v2.cell? ⟨R, 20, none⟩ = some (.bool false) := BC.out.cell 20
  have HNR : Hid (numsR t) := hid ⟨HN.out, H7.out, HCN.out⟩
  clear KC taa tab tac tba tbb tbc tca tcb tcc tda tdb tdc
  go_upto_region 6 with fail
  have hB0 : Blk v2.drew R 116 (rdC p s false) := BC.out.drew
  refine wp_region_held_drew (S := fun w' => Mod [R] w3 w') (by kernel_rfl) (HM35.out).drew (fun hHeld => ?_)
  generalize v2.drew = u1 at *
  refine' wpAnyH_take (i := 0) (v := _) rfl (by kernel_rfl) (by kernel_rfl) (by kernel_rfl) (fun _ _ _ h => h) (Or.inl ⟨by rfl, ?hy57⟩) hHeld ?rest57
  case hy57 => (rintro W hM; go_simp; (try with_reducible rfl))
  case rest57 =>
  (try simp only [Act.put, List.getElem_toArray, List.getElem_cons_zero, List.getElem_cons_succ, List.setIfInBounds_toArray, List.set_cons_zero, List.set_cons_succ])
  refine' wpAnyH_take (i := 1) (v := _) rfl (by kernel_rfl) (by kernel_rfl) (by kernel_rfl) (fun _ _ _ h => h) (Or.inl ⟨by rfl, ?hy58⟩) hHeld ?rest58
  case hy58 => (rintro W hM; go_simp; (try with_reducible rfl))
  case rest58 =>
  (try simp only [Act.put, List.getElem_toArray, List.getElem_cons_zero, List.getElem_cons_succ, List.setIfInBounds_toArray, List.set_cons_zero, List.set_cons_succ])
  refine' wpAnyH_take (i := 2) (v := _) rfl (by kernel_rfl) (by kernel_rfl) (by kernel_rfl) (fun _ _ _ h => h) (Or.inl ⟨by rfl, ?hy59⟩) hHeld ?rest59
  case hy59 => (rintro W hM; go_simp; (try with_reducible rfl))
  case rest59 =>
  (try simp only [Act.put, List.getElem_toArray, List.getElem_cons_zero, List.getElem_cons_succ, List.setIfInBounds_toArray, List.set_cons_zero, List.set_cons_succ])
  refine' wpAnyH_take (i := 3) (v := _) rfl (by kernel_rfl) (by kernel_rfl) (by kernel_rfl) (fun _ _ _ h => h) (Or.inl ⟨by rfl, ?hy60⟩) hHeld ?rest60
  case hy60 => (rintro W hM; go_simp; (try with_reducible rfl))
  case rest60 =>
  (try simp only [Act.put, List.getElem_toArray, List.getElem_cons_zero, List.getElem_cons_succ, List.setIfInBounds_toArray, List.set_cons_zero, List.set_cons_succ])
  refine' wpAnyH_take (i := 4) (v := _) rfl (by kernel_rfl) (by kernel_rfl) (by kernel_rfl) (fun _ _ _ h => h) (Or.inl ⟨by rfl, ?hy61⟩) hHeld ?rest61
  case hy61 => (rintro W hM; have y1 := HG4.out W hM 1 _ HG3.out.2.1; go_simp; (try with_reducible rfl))
  case rest61 =>
  (try simp only [Act.put, List.getElem_toArray, List.getElem_cons_zero, List.getElem_cons_succ, List.setIfInBounds_toArray, List.set_cons_zero, List.set_cons_succ])
  refine' wpAnyH_take (i := 5) (v := _) rfl (by kernel_rfl) (by kernel_rfl) (by kernel_rfl) (fun _ _ _ h => h) (Or.inl ⟨by rfl, ?hy62⟩) hHeld ?rest62
  case hy62 => (rintro W hM; go_simp; (try with_reducible rfl))
  case rest62 =>
  (try simp only [Act.put, List.getElem_toArray, List.getElem_cons_zero, List.getElem_cons_succ, List.setIfInBounds_toArray, List.set_cons_zero, List.set_cons_succ])
  refine' wpAnyH_take (i := 6) (v := _) rfl (by kernel_rfl) (by kernel_rfl) (by kernel_rfl) (fun _ _ _ h => h) (Or.inl ⟨by rfl, ?hy63⟩) hHeld ?rest63
  case hy63 => (rintro W hM; go_simp; (try with_reducible rfl))
  case rest63 =>
  (try simp only [Act.put, List.getElem_toArray, List.getElem_cons_zero, List.getElem_cons_succ, List.setIfInBounds_toArray, List.set_cons_zero, List.set_cons_succ])
  refine' wpAnyH_take (i := 7) (v := _) rfl (by kernel_rfl) (by kernel_rfl) (by kernel_rfl) (fun _ _ _ h => h) (Or.inl ⟨by rfl, ?hy64⟩) hHeld ?rest64
  case hy64 => (rintro W hM; have y2 := HG4.out W hM 2 _ HG3.out.2.2; go_simp; (try with_reducible rfl))
  case rest64 =>
  (try simp only [Act.put, List.getElem_toArray, List.getElem_cons_zero, List.getElem_cons_succ, List.setIfInBounds_toArray, List.set_cons_zero, List.set_cons_succ])
  refine' wpAnyH_take (i := 8) (v := _) rfl (by kernel_rfl) (by kernel_rfl) (by kernel_rfl) (fun _ _ _ h => h) (Or.inl ⟨by rfl, ?hy65⟩) hHeld ?rest65
  case hy65 => (rintro W hM; go_simp; (try with_reducible rfl))
  case rest65 =>
  (try simp only [Act.put, List.getElem_toArray, List.getElem_cons_zero, List.getElem_cons_succ, List.setIfInBounds_toArray, List.set_cons_zero, List.set_cons_succ])
  refine' wpAnyH_take (i := 9) (v := _) rfl (by kernel_rfl) (by kernel_rfl) (by kernel_rfl) (fun _ _ _ h => h) (Or.inl ⟨by rfl, ?hy66⟩) hHeld ?rest66
  case hy66 => (rintro W hM; go_simp; (try with_reducible rfl))
  case rest66 =>
  (try simp only [Act.put, List.getElem_toArray, List.getElem_cons_zero, List.getElem_cons_succ, List.setIfInBounds_toArray, List.set_cons_zero, List.set_cons_succ])
  refine' wpAnyH_take (i := 10) (v := _) rfl (by kernel_rfl) (by kernel_rfl) (by kernel_rfl) (fun _ _ _ h => h) (Or.inl ⟨by rfl, ?hy67⟩) hHeld ?rest67
  case hy67 => (rintro W hM; go_simp; (try with_reducible rfl))
  case rest67 =>
  (try simp only [Act.put, List.getElem_toArray, List.getElem_cons_zero, List.getElem_cons_succ, List.setIfInBounds_toArray, List.set_cons_zero, List.set_cons_succ])
  refine' wpAnyH_take (i := 11) (v := _) rfl (by kernel_rfl) (by kernel_rfl) (by kernel_rfl) (fun _ _ _ h => h) (Or.inl ⟨by rfl, ?hy68⟩) hHeld ?rest68
  case hy68 => (rintro W hM; go_simp; (try with_reducible rfl))
  case rest68 =>
  (try simp only [Act.put, List.getElem_toArray, List.getElem_cons_zero, List.getElem_cons_succ, List.setIfInBounds_toArray, List.set_cons_zero, List.set_cons_succ])
  refine' wpAnyH_take (i := 12) (v := _) rfl (by kernel_rfl) (by kernel_rfl) (by kernel_rfl) (fun _ _ _ h => h) (Or.inl ⟨by rfl, ?hy69⟩) hHeld ?rest69
  case hy69 => (rintro W hM; go_simp; (try with_reducible rfl))
  case rest69 =>
  (try simp only [Act.put, List.getElem_toArray, List.getElem_cons_zero, List.getElem_cons_succ, List.setIfInBounds_toArray, List.set_cons_zero, List.set_cons_succ])
  refine wpAnyH_ready (rs := [13]) (by kernel_rfl) (by simp) ?_
  refine AllReadyH.cons rfl (fun K hK => ?_) AllReadyH.nil
  have c0 : u1.cell? ⟨R, 0, none⟩ = some (.int .u64 (p.fl : Int)) := hB0.cell 0
  have f0 : u1.frozen? ⟨R, 0, none⟩ = false := hB0.frozen 0
  go_simp
  have hB1 := hB0.set_ 0 (.int .u64 ((kidT t 1).n : Int))
  have hM1 := Mod.setCell hHeld (p := ⟨R, 0, none⟩) (.inl (by simp)) (.int .u64 ((kidT t 1).n : Int))
  generalize World.setCell u1 ⟨R, 0, none⟩ (.int .u64 ((kidT t 1).n : Int)) = u2 at hB1 hM1 ⊢
  refine hK.out _ _ hM1 (fun hHeld => ?_)
  clear hK K c0 f0 hM1 hB0
  (try simp only [Act.put, List.getElem_toArray, List.getElem_cons_zero, List.getElem_cons_succ, List.setIfInBounds_toArray, List.set_cons_zero, List.set_cons_succ])
  refine' wpAnyH_take (i := 14) (v := _) rfl (by kernel_rfl) (by kernel_rfl) (by kernel_rfl) (fun _ _ _ h => h) (Or.inl ⟨by rfl, ?hy70⟩) hHeld ?rest70
  case hy70 => (rintro W hM; go_simp; (try with_reducible rfl))
  case rest70 =>
  (try simp only [Act.put, List.getElem_toArray, List.getElem_cons_zero, List.getElem_cons_succ, List.setIfInBounds_toArray, List.set_cons_zero, List.set_cons_succ])
  refine' wpAnyH_take (i := 15) (v := _) rfl (by kernel_rfl) (by kernel_rfl) (by kernel_rfl) (fun _ _ _ h => h) (Or.inl ⟨by rfl, ?hy71⟩) hHeld ?rest71
  case hy71 => (rintro W hM; go_simp; (try with_reducible rfl))
  case rest71 =>
  (try simp only [Act.put, List.getElem_toArray, List.getElem_cons_zero, List.getElem_cons_succ, List.setIfInBounds_toArray, List.set_cons_zero, List.set_cons_succ])
  refine' wpAnyH_take (i := 16) (v := _) rfl (by kernel_rfl) (by kernel_rfl) (by kernel_rfl) (fun _ _ _ h => h) (Or.inl ⟨by rfl, ?hy72⟩) hHeld ?rest72
  case hy72 => (rintro W hM; go_simp; (try with_reducible rfl))
  case rest72 =>
  (try simp only [Act.put, List.getElem_toArray, List.getElem_cons_zero, List.getElem_cons_succ, List.setIfInBounds_toArray, List.set_cons_zero, List.set_cons_succ])
  refine wpAnyH_ready (rs := [17]) (by kernel_rfl) (by simp) ?_
  refine AllReadyH.cons rfl (fun K hK => ?_) AllReadyH.nil
  have c0 : u2.cell? ⟨R, 1, none⟩ = some (.int .i64 p.crc) := hB1.cell 1
  have f0 : u2.frozen? ⟨R, 1, none⟩ = false := hB1.frozen 1
  go_simp
  have hB2 := hB1.set_ 1 (.int .i64 (IntKind.i64.wrap (min ((kidT t 2).n : Int) 3)))
  have hM1 := Mod.setCell hHeld (p := ⟨R, 1, none⟩) (.inl (by simp)) (.int .i64 (IntKind.i64.wrap (min ((kidT t 2).n : Int) 3)))
  generalize World.setCell u2 ⟨R, 1, none⟩ (.int .i64 (IntKind.i64.wrap (min ((kidT t 2).n : Int) 3))) = u3 at hB2 hM1 ⊢
  refine hK.out _ _ hM1 (fun hHeld => ?_)
  clear hK K c0 f0 hM1 hB1
  (try simp only [Act.put, List.getElem_toArray, List.getElem_cons_zero, List.getElem_cons_succ, List.setIfInBounds_toArray, List.set_cons_zero, List.set_cons_succ])
  refine wpAnyH_done (by kernel_rfl) ?_ _
  have hmin : ((min (kidT t 2).n 3 : Nat) : Int) = IntKind.i64.wrap (min ((kidT t 2).n : Int) 3) := by rw [IntWalk.i64_in _ (by omega)]; omega
  obtain ⟨P6, hP6⟩ : ∃ P6, flcR p t = P6 := ⟨_, rfl⟩
  have HP6 := hid hP6
  have BR : Hid (Blk u3 R 116 (rdC P6 s false)) := hid (by rw [← hP6]; unfold flcR; rw [hmin]; exact hB2)
  have HM2 : Hid (Mod [R] w2 u3) := hid ((H3.out.1.mono (by simp)).trans hHeld)
  have q3 := HBV3.out u3 hHeld
  have HMT : Hid (Mod [R] w u3) := hid (HMk.out.trans HM2.out)
  clear hHeld hB2 hmin hP6 BC HM35 HM5 c20 HG3 HG4 H3 HGR HBV HBV3 HBk HMk
  have e6 : (6 : Int) ≤ (t.k : Int) := by have := HK8.out; omega
  have e6c : (6 : Int) ≤ (c : Int) := by have := HK8.out; have := HKC.out; omega
  have e6n : 6 ≤ c := by omega
  have e6k : 6 ≤ t.k := by omega
  have ekc : (t.k : Int) ≤ (c : Int) := by have := HKC.out; omega
  have HKU : Hid (∀ i, i < t.k → At5 u3 b2 (o2 + i * 5) (kidT t i) (ac i).1 (ac i).2 ∧ IsL u3 (fun n => n ≠ R) (kidT t i) (ac i).1) := hid (fun i hi => ⟨(HKD3.out i hi).1.mod HM2.out HBB.out.1 (by simpa using HBB.out.2), IsL.mod HM2.out (fun k hk _ => by simpa using hk) _ (HKD3.out i hi).2⟩)
  have HBU : Hid (b2 < u3.heap.size) := hid (Nat.lt_of_lt_of_le HBB.out.1 HM2.out.size)
  obtain ⟨ch3, hch3⟩ : ∃ ch : Nat → T, (fun i => kidT t (i + 3)) = ch := ⟨_, rfl⟩
  have HCH3 := hid hch3
  have KNM : Hid (∀ k c o, k = 3 → o = o2 + 15 → Calls Try.prog 108 #[.pointer (some ⟨R, 0, none⟩), .slice (some ⟨b2, o, none⟩) k c] u3 (Chk R (nmP P6 ch3 3) s (nmB false ch3 3) u3)) := hid (fun k c o hk ho => by
    rw [← hch3]
    have h8 := HK8.out
    exact pnames R P6 s false (fun i => kidT t (i + 3)) (fun i => ac (i + 3)) b2 o k c hk u3 BR.out (fun i hi => HKN.out (i + 3) (by omega)) HBU.out HBB.out.2 (fun i hi => by have := (HKU.out (i + 3) (by omega)).1; rw [show o2 + (i + 3) * 5 = o + i * 5 by omega] at this; exact this) (fun i hi => (HKU.out (i + 3) (by omega)).2))
  clear hch3
  obtain ⟨BB, hBB⟩ : ∃ BB, nmB false ch3 3 = BB := ⟨_, rfl⟩
  obtain ⟨P7, hP7⟩ : ∃ P7, nmP P6 ch3 3 = P7 := ⟨_, rfl⟩
  have HBB7 := hid hBB
  have HP7 := hid hP7
  rw [hBB, hP7] at KNM
  clear hBB hP7
  have HF7 : Hid (P7.fl = (kidT t 1).n ∧ P7.crc = ((min (kidT t 2).n 3 : Nat) : Int)) := hid (by rw [← HP7.out, ← HP6.out]; exact ⟨rfl, rfl⟩)
  go_upto_region 8 with (go_at_call 108; refine (KNM.out _ _ _ (by omega) (by omega)).mono ?_; rintro x w7 ⟨rfl, hm7, hb7⟩; have HM7 := hid hm7; have HB7 := hid hb7; clear hm7 hb7)
  have c20 : w7.cell? ⟨R, 20, none⟩ = some (.bool BB) := HB7.out.cell 20
  have HMT7 := hid (HMT.out.trans HM7.out)
  cases BB with
  | true =>
    go_wp2_with fail
    refine bodyPost_ret (results_none rfl _ _ _) rfl ?_
    have hr : readR p s t = (P7, s, true) := by unfold readR; rw [if_neg (by rw [HW.out]; decide), if_neg (fun h => h HNR.out), HCH3.out, HP6.out, HBB7.out, if_pos rfl, HP7.out]
    rw [hr]
    exact ⟨rfl, HMT7.out, HB7.out⟩
  | false =>
    have q3' : w7.cell? ⟨w.heap.size, 3, none⟩ = some (.slice (some ⟨b2, o2, none⟩) t.k c) := (HM7.out.cell (World.block_lt_of_cell? u3 _ q3) (by simpa using HNV.out)).trans q3
    have KRS : Hid (∀ k c' o, k = t.k - 6 → k ≤ c' → o = o2 + 30 → Calls Try.prog 109 #[.pointer (some ⟨R, 0, none⟩), .slice (some ⟨b2, o, none⟩) k c'] w7 (RestPost R (restR P7 s (t.k - 6) (fun i => kidT t (i + 6))) w7)) := hid (fun k c' o hk hkc ho => by
      have h8 := HK8.out
      have hC := HNR.out.2.2
      rw [← hk]
      refine prest R P7 s k (if (kidT t 2).n = 1 ∨ (kidT t 2).n = 2 then 1 else 0) c' (by rw [HF7.out.1, hk, hC]; unfold cntN; by_cases h1 : (kidT t 1).n % 2 = 1 <;> by_cases h2 : (kidT t 2).n = 1 ∨ (kidT t 2).n = 2 <;> simp only [h1, h2, if_true, if_false]) (by split <;> omega) hkc (fun hm => ⟨(kidT t 2).n, by rw [HF7.out.2]; split at hm <;> omega, by split at hm <;> omega⟩) (by rw [HF7.out.1]; exact nlt_of (HKN.out 1 (by omega))) (fun i => kidT t (i + 6)) (fun i => ac (i + 6)) b2 o w7 HB7.out (Nat.lt_of_lt_of_le HBU.out HM7.out.size) HBB.out.2 (fun i hi => ?_) ?_
      · have := ((HKU.out (i + 6) (by omega)).1).mod HM7.out HBU.out (by simpa using HBB.out.2)
        rw [show o2 + (i + 6) * 5 = o + i * 5 by omega] at this
        exact this
      · exact IsL.mod HM7.out (fun k hk _ => by simpa using hk) _ (HKU.out 6 (by omega)).2)
    clear q3
    have ekcn : t.k ≤ c := HKC.out
    have ec6a : (c = 6) = False := eq_false (by have := HK8.out; omega)
    have ec6b : (c == 6) = false := by rw [beq_eq_false_iff_ne]; have := HK8.out; omega
    go_wp2_with (go_at_call 109; refine (KRS.out _ _ _ (by omega) (by omega) (by omega)).mono ?_; rintro x w9 ⟨rfl, hm9, hb9⟩; have HM9 := hid hm9; have HB9 := hid hb9; clear hm9 hb9)
    refine bodyPost_ret (results_none rfl _ _ _) rfl ?_
    have hr : readR p s t = restR P7 s (t.k - 6) (fun i => kidT t (i + 6)) := by unfold readR; rw [if_neg (by rw [HW.out]; decide), if_neg (fun h => h HNR.out), HCH3.out, HP6.out, HBB7.out, if_neg (by decide), HP7.out]
    rw [hr]
    exact ⟨rfl, HMT7.out.trans HM9.out, HB9.out⟩
end Go.Proofs.Ytogjghmoankleaa


namespace Go.Proofs.Ytogjghmoankleaa
open Go.RowKit
set_option linter.unusedVariables false
set_option linter.unusedSimpArgs false

/-- A list's items by number; where what hangs on them lies. -/
def chL (L : List T) (i : Nat) : T := (L[i]?).getD T.nil
def acL (a : List (Option Addr × Nat)) (i : Nat) : Option Addr × Nat := (a[i]?).getD (none, 0)
theorem list_IsL {W : World} {Q : Nat → Prop} {base g c : Nat} {L : List T} {a : List (Option Addr × Nat)} (hlt : g < W.heap.size) (q : Q g) (h : W.ownsRow base 38 5 (.slice (some ⟨g, 0, none⟩) L.length c) L.length (flatC (chL L) (acL a) L.length)) (hI : ∀ i, i < L.length → IsL W Q (chL L i) (acL a i).1) : IsL W Q (listT L) (some ⟨g, 0, none⟩) := own_IsL hlt q h hI
theorem num_IsL {W : World} {Q : Nat → Prop} {n : Nat} {A : Option Addr} : IsL W Q (numT n) A := IsL.leaf
theorem str_IsL {W : World} {Q : Nat → Prop} {s : List UInt8} {A : Option Addr} : IsL W Q (strT s) A := IsL.leaf
set_option maxRecDepth 20000 in
set_option maxHeartbeats 3200000 in
theorem parts_cap (p : PV) (k : Nat) (hc : p.crc = (k : Int)) (hk : k ≤ 2) (hr : p.ranged = true) (sum : List UInt8) (w : World) : Calls Try.prog 75 #[.agg p.c, str sum] w (fun e w' => ∃ A c, e = .returned (itemV (priT p k sum) A c) ∧ Ext w w' ∧ IsL w' (fun b => w.heap.size ≤ b) (priT p k sum) A ∧ (priT p k sum).k ≤ c) := by
  obtain ⟨h1, h2, h3, _, _, hfl, ht, hq, hl, ho, hn⟩ := PV.ranged_spec hr
  have KD := hid (fun W => eidItem_ok p.d h1 W)
  have KS := hid (fun W => eidItem_ok p.s h2 W)
  have KR := hid (fun W => eidItem_ok p.r h3 W)
  have HE := hid (((Mod.refl [] w).alloc (.cells p.c 68)).alloc (.cells #[.int .i64 0, .int .u64 0, .string ⟨#[]⟩, .slice none 0 0, .bool false] 38))
  have HB := hid ((Blk.new w 68 p.c).alloc (.cells #[.int .i64 0, .int .u64 0, .string ⟨#[]⟩, .slice none 0 0, .bool false] 38))
  have HR : Hid (Blk ((w.alloc (.cells p.c 68)).alloc (.cells #[.int .i64 0, .int .u64 0, .string ⟨#[]⟩, .slice none 0 0, .bool false] 38)) (w.heap.size + 1) 38 (itemC (numT 0) none 0)) := Blk.newL _ _ _ (by simp)
  have f0 : (0 : Int) ≤ (p.fl : Int) := by omega
  have HFL : Hid (p.fl < 18446744073709551616) := by unfold Hid; omega
  have t1 : IntKind.u64.wrap (k : Int) = (k : Int) := IntWalk.u64_in _ (by omega)
  have HK := hid hk
  have HC := hid hc
  clear h1 h2 h3 hfl ht hq hl ho hn hr hc hk
  go_enter Try.func75, Try.ntmps75
  go_upto_region 1 with fail
  generalize (w.alloc (.cells p.c 68)).alloc (.cells #[.int .i64 0, .int .u64 0, .string ⟨#[]⟩, .slice none 0 0, .bool false] 38) = V at *
  have HV : Hid (w.heap.size + 2 ≤ V.heap.size) := Nat.succ_le_of_lt HR.out.lt
  have c0 : V.cell? ⟨w.heap.size, 2, none⟩ = some (.int .i64 p.d.sch) := HB.out.cell 2
  have c1 : V.cell? ⟨w.heap.size, 3, none⟩ = some (str p.d.name) := HB.out.cell 3
  have c2 : V.cell? ⟨w.heap.size, 4, none⟩ = some (.int .u64 (p.d.node : Int)) := HB.out.cell 4
  have c3 : V.cell? ⟨w.heap.size, 5, none⟩ = some (.int .u64 (p.d.svc : Int)) := HB.out.cell 5
  go_upto_region 2 with (go_at_call 87; refine (KD.out _).mono ?_; rintro x wd ⟨Ad, rfl, hb, hl⟩)
  clear c0 c1 c2 c3
  have HE := hid ((HE.out.trans hb).alloc (.cells (itemC (eidT p.d) Ad 2) 38))
  have HB := hid ((HB.out.ext hb).alloc (.cells (itemC (eidT p.d) Ad 2) 38))
  have HR := hid ((HR.out.ext hb).alloc (.cells (itemC (eidT p.d) Ad 2) 38))
  have Dd := hid (Blk.new wd 38 (itemC (eidT p.d) Ad 2))
  have Nd : Hid (V.heap.size ≤ wd.heap.size) := hb.size
  have hl := IsL.weak (R := fun b => w.heap.size + 2 ≤ b ∧ b < wd.heap.size) (fun b h1 h2 => ⟨by have := HV.out; have h2 : V.heap.size ≤ b := h2; omega, h1⟩) _ hl
  have Ld := hid (IsL.ext hl ((Mod.refl [] wd).alloc (.cells (itemC (eidT p.d) Ad 2) 38)))
  clear hb hl
  generalize hGd : wd.alloc (.cells (itemC (eidT p.d) Ad 2) 38) = Vd at *
  have hSd : Hid (wd.heap.size < Vd.heap.size) := hid (by rw [← hGd]; simp)
  clear hGd
  have c0 : Vd.cell? ⟨w.heap.size, 6, none⟩ = some (.int .i64 p.s.sch) := HB.out.cell 6
  have c1 : Vd.cell? ⟨w.heap.size, 7, none⟩ = some (str p.s.name) := HB.out.cell 7
  have c2 : Vd.cell? ⟨w.heap.size, 8, none⟩ = some (.int .u64 (p.s.node : Int)) := HB.out.cell 8
  have c3 : Vd.cell? ⟨w.heap.size, 9, none⟩ = some (.int .u64 (p.s.svc : Int)) := HB.out.cell 9
  go_upto_region 3 with (go_at_call 87; refine (KS.out _).mono ?_; rintro x ws ⟨As, rfl, hb, hl⟩)
  clear c0 c1 c2 c3
  have HE := hid ((HE.out.trans hb).alloc (.cells (itemC (eidT p.s) As 2) 38))
  have HB := hid ((HB.out.ext hb).alloc (.cells (itemC (eidT p.s) As 2) 38))
  have HR := hid ((HR.out.ext hb).alloc (.cells (itemC (eidT p.s) As 2) 38))
  have Ds := hid (Blk.new ws 38 (itemC (eidT p.s) As 2))
  have Ns : Hid (Vd.heap.size ≤ ws.heap.size) := hb.size
  have hl := IsL.weak (R := fun b => w.heap.size + 2 ≤ b ∧ b < ws.heap.size) (fun b h1 h2 => ⟨by have := HV.out; have h2 : Vd.heap.size ≤ b := h2; have := hSd.out; have := Nd.out; omega, h1⟩) _ hl
  have Ls := hid (IsL.ext hl ((Mod.refl [] ws).alloc (.cells (itemC (eidT p.s) As 2) 38)))
  have Dd := hid ((Dd.out.ext hb).alloc (.cells (itemC (eidT p.s) As 2) 38))
  have Ld := hid (IsL.ext (Ld.out.ext hb) ((Mod.refl [] ws).alloc (.cells (itemC (eidT p.s) As 2) 38)))
  clear hb hl
  generalize hGs : ws.alloc (.cells (itemC (eidT p.s) As 2) 38) = Vs at *
  have hSs : Hid (ws.heap.size < Vs.heap.size) := hid (by rw [← hGs]; simp)
  clear hGs
  have c0 : Vs.cell? ⟨w.heap.size, 10, none⟩ = some (.int .i64 p.r.sch) := HB.out.cell 10
  have c1 : Vs.cell? ⟨w.heap.size, 11, none⟩ = some (str p.r.name) := HB.out.cell 11
  have c2 : Vs.cell? ⟨w.heap.size, 12, none⟩ = some (.int .u64 (p.r.node : Int)) := HB.out.cell 12
  have c3 : Vs.cell? ⟨w.heap.size, 13, none⟩ = some (.int .u64 (p.r.svc : Int)) := HB.out.cell 13
  go_upto_region 4 with (go_at_call 87; refine (KR.out _).mono ?_; rintro x wr ⟨Ar, rfl, hb, hl⟩)
  clear c0 c1 c2 c3
  have HE := hid ((HE.out.trans hb).alloc (.cells (itemC (eidT p.r) Ar 2) 38))
  have HB := hid ((HB.out.ext hb).alloc (.cells (itemC (eidT p.r) Ar 2) 38))
  have HR := hid ((HR.out.ext hb).alloc (.cells (itemC (eidT p.r) Ar 2) 38))
  have Dr := hid (Blk.new wr 38 (itemC (eidT p.r) Ar 2))
  have Nr : Hid (Vs.heap.size ≤ wr.heap.size) := hb.size
  have hl := IsL.weak (R := fun b => w.heap.size + 2 ≤ b ∧ b < wr.heap.size) (fun b h1 h2 => ⟨by have := HV.out; have h2 : Vs.heap.size ≤ b := h2; have := hSd.out; have := Nd.out; have := hSs.out; have := Ns.out; omega, h1⟩) _ hl
  have Lr := hid (IsL.ext hl ((Mod.refl [] wr).alloc (.cells (itemC (eidT p.r) Ar 2) 38)))
  have Dd := hid ((Dd.out.ext hb).alloc (.cells (itemC (eidT p.r) Ar 2) 38))
  have Ld := hid (IsL.ext (Ld.out.ext hb) ((Mod.refl [] wr).alloc (.cells (itemC (eidT p.r) Ar 2) 38)))
  have Ds := hid ((Ds.out.ext hb).alloc (.cells (itemC (eidT p.r) Ar 2) 38))
  have Ls := hid (IsL.ext (Ls.out.ext hb) ((Mod.refl [] wr).alloc (.cells (itemC (eidT p.r) Ar 2) 38)))
  clear hb hl
  generalize hGr : wr.alloc (.cells (itemC (eidT p.r) Ar 2) 38) = Vr at *
  have hSr : Hid (wr.heap.size < Vr.heap.size) := hid (by rw [← hGr]; simp)
  clear hGr
  have xf : ∀ e : Later Vr, e.x.cell? ⟨w.heap.size, 0, none⟩ = some (.int .u64 (p.fl : Int)) := HB.out.cellL 0 rfl
  have xg : ∀ e : Later Vr, e.x.cell? ⟨w.heap.size, 1, none⟩ = some (.int .i64 (k : Int)) := HB.out.cellL 1 (by show some (Value.int .i64 p.crc) = _; rw [HC.out])
  have xt : ∀ e : Later Vr, e.x.cell? ⟨w.heap.size, 14, none⟩ = some (.int .u64 (p.t : Int)) := HB.out.cellL 14 rfl
  have xq : ∀ e : Later Vr, e.x.cell? ⟨w.heap.size, 15, none⟩ = some (.int .u64 (p.q : Int)) := HB.out.cellL 15 rfl
  have xl : ∀ e : Later Vr, e.x.cell? ⟨w.heap.size, 16, none⟩ = some (.int .u64 (p.l : Int)) := HB.out.cellL 16 rfl
  have xd0 : ∀ e : Later Vr, e.x.cell? ⟨wd.heap.size, 0, none⟩ = some (.int .i64 (eidT p.d).kind) := Dd.out.cellL 0 rfl
  have xd1 : ∀ e : Later Vr, e.x.cell? ⟨wd.heap.size, 1, none⟩ = some (.int .u64 ((eidT p.d).n : Int)) := Dd.out.cellL 1 rfl
  have xd2 : ∀ e : Later Vr, e.x.cell? ⟨wd.heap.size, 2, none⟩ = some (str (eidT p.d).s) := Dd.out.cellL 2 rfl
  have xd3 : ∀ e : Later Vr, e.x.cell? ⟨wd.heap.size, 3, none⟩ = some (.slice Ad (eidT p.d).k 2) := Dd.out.cellL 3 rfl
  have xd4 : ∀ e : Later Vr, e.x.cell? ⟨wd.heap.size, 4, none⟩ = some (.bool (eidT p.d).op) := Dd.out.cellL 4 rfl
  have xs0 : ∀ e : Later Vr, e.x.cell? ⟨ws.heap.size, 0, none⟩ = some (.int .i64 (eidT p.s).kind) := Ds.out.cellL 0 rfl
  have xs1 : ∀ e : Later Vr, e.x.cell? ⟨ws.heap.size, 1, none⟩ = some (.int .u64 ((eidT p.s).n : Int)) := Ds.out.cellL 1 rfl
  have xs2 : ∀ e : Later Vr, e.x.cell? ⟨ws.heap.size, 2, none⟩ = some (str (eidT p.s).s) := Ds.out.cellL 2 rfl
  have xs3 : ∀ e : Later Vr, e.x.cell? ⟨ws.heap.size, 3, none⟩ = some (.slice As (eidT p.s).k 2) := Ds.out.cellL 3 rfl
  have xs4 : ∀ e : Later Vr, e.x.cell? ⟨ws.heap.size, 4, none⟩ = some (.bool (eidT p.s).op) := Ds.out.cellL 4 rfl
  have xr0 : ∀ e : Later Vr, e.x.cell? ⟨wr.heap.size, 0, none⟩ = some (.int .i64 (eidT p.r).kind) := Dr.out.cellL 0 rfl
  have xr1 : ∀ e : Later Vr, e.x.cell? ⟨wr.heap.size, 1, none⟩ = some (.int .u64 ((eidT p.r).n : Int)) := Dr.out.cellL 1 rfl
  have xr2 : ∀ e : Later Vr, e.x.cell? ⟨wr.heap.size, 2, none⟩ = some (str (eidT p.r).s) := Dr.out.cellL 2 rfl
  have xr3 : ∀ e : Later Vr, e.x.cell? ⟨wr.heap.size, 3, none⟩ = some (.slice Ar (eidT p.r).k 2) := Dr.out.cellL 3 rfl
  have xr4 : ∀ e : Later Vr, e.x.cell? ⟨wr.heap.size, 4, none⟩ = some (.bool (eidT p.r).op) := Dr.out.cellL 4 rfl
  obtain ⟨e, he⟩ := Later.self Vr
  have HTC : Hid (∀ L : List T, (listT L).k = L.length) := fun L => rfl
  rw [he]
  clear he
  go_region_held3 (fun w' => w'.cell? ⟨w.heap.size, 0, none⟩ = some (.int .u64 (p.fl : Int)) ∧ w'.cell? ⟨w.heap.size, 1, none⟩ = some (.int .i64 (k : Int)) ∧ w'.cell? ⟨w.heap.size, 14, none⟩ = some (.int .u64 (p.t : Int)) ∧ w'.cell? ⟨w.heap.size, 15, none⟩ = some (.int .u64 (p.q : Int)) ∧ w'.cell? ⟨w.heap.size, 16, none⟩ = some (.int .u64 (p.l : Int)) ∧ w'.cell? ⟨wd.heap.size, 0, none⟩ = some (.int .i64 (eidT p.d).kind) ∧ w'.cell? ⟨wd.heap.size, 1, none⟩ = some (.int .u64 ((eidT p.d).n : Int)) ∧ w'.cell? ⟨wd.heap.size, 2, none⟩ = some (str (eidT p.d).s) ∧ w'.cell? ⟨wd.heap.size, 3, none⟩ = some (.slice Ad (eidT p.d).k 2) ∧ w'.cell? ⟨wd.heap.size, 4, none⟩ = some (.bool (eidT p.d).op) ∧ w'.cell? ⟨ws.heap.size, 0, none⟩ = some (.int .i64 (eidT p.s).kind) ∧ w'.cell? ⟨ws.heap.size, 1, none⟩ = some (.int .u64 ((eidT p.s).n : Int)) ∧ w'.cell? ⟨ws.heap.size, 2, none⟩ = some (str (eidT p.s).s) ∧ w'.cell? ⟨ws.heap.size, 3, none⟩ = some (.slice As (eidT p.s).k 2) ∧ w'.cell? ⟨ws.heap.size, 4, none⟩ = some (.bool (eidT p.s).op) ∧ w'.cell? ⟨wr.heap.size, 0, none⟩ = some (.int .i64 (eidT p.r).kind) ∧ w'.cell? ⟨wr.heap.size, 1, none⟩ = some (.int .u64 ((eidT p.r).n : Int)) ∧ w'.cell? ⟨wr.heap.size, 2, none⟩ = some (str (eidT p.r).s) ∧ w'.cell? ⟨wr.heap.size, 3, none⟩ = some (.slice Ar (eidT p.r).k 2) ∧ w'.cell? ⟨wr.heap.size, 4, none⟩ = some (.bool (eidT p.r).op)) (go_keep)
    (first
      | (go_at_call 89; (try rw [t1]); refine (NumI_any _ _).mono ?_; rintro x w3 ⟨rfl, hb3⟩; (try have HP := hid (Blk.ext HP.out hb3)); obtain ⟨e, rfl⟩ : ∃ e' : Later Vr, w3 = e'.x := ⟨⟨w3, Mod.trans (by first | exact Later.h _ | exact (Later.h _).drew | exact (Later.h _).alloc _) hb3⟩, rfl⟩)
      | (go_at_call 74; have HP := hid (Blk.new e.x 38 #[.int .i64 0, .int .u64 (p.t : Int), str [], .slice none 0 0, .bool false, .int .i64 0, .int .u64 (p.q : Int), str [], .slice none 0 0, .bool false]); have HG2 : Hid (w.heap.size + 2 ≤ e.x.heap.size) := Nat.le_trans (Nat.succ_le_of_lt HR.out.lt) e.h.size; generalize e.x.heap.size = g2 at *; refine (ListV_any _ _ _ _).mono ?_; rintro x w3 ⟨rfl, hb3⟩; have HP := hid (Blk.ext HP.out hb3); obtain ⟨e, rfl⟩ : ∃ e' : Later Vr, w3 = e'.x := ⟨⟨w3, Mod.trans (by first | exact Later.h _ | exact (Later.h _).drew | exact (Later.h _).alloc _) hb3⟩, rfl⟩))
  go_upto_region 5 with fail
  clear xf xg xt xq xl xd0 xd1 xd2 xd3 xd4 xs0 xs1 xs2 xs3 xs4 xr0 xr1 xr2 xr3 xr4
  generalize hV8 : World.alloc e.x _ = V8
  have HE : Hid (Ext w V8) := hid (by rw [← hV8]; exact (HE.out.trans e.h).alloc _)
  have HB : Hid (Blk V8 w.heap.size 68 p.c) := hid (by rw [← hV8]; exact (HB.out.later e).alloc _)
  have HR : Hid (Blk V8 (w.heap.size + 1) 38 (itemC (numT 0) none 0)) := hid (by rw [← hV8]; exact (HR.out.later e).alloc _)
  have H8 : Hid (Blk V8 e.x.heap.size 38 #[.int .i64 0, .int .u64 7, str [], .slice none 0 0, .bool false, .int .i64 0, .int .u64 (p.fl : Int), str [], .slice none 0 0, .bool false, .int .i64 0, .int .u64 (k : Int), str [], .slice none 0 0, .bool false, .int .i64 (eidT p.d).kind, .int .u64 ((eidT p.d).n : Int), str (eidT p.d).s, .slice Ad (eidT p.d).k 2, .bool (eidT p.d).op, .int .i64 (eidT p.s).kind, .int .u64 ((eidT p.s).n : Int), str (eidT p.s).s, .slice As (eidT p.s).k 2, .bool (eidT p.s).op, .int .i64 (eidT p.r).kind, .int .u64 ((eidT p.r).n : Int), str (eidT p.r).s, .slice Ar (eidT p.r).k 2, .bool (eidT p.r).op, .int .i64 4, .int .u64 0, str [], .slice (some ⟨g2, 0, none⟩) 2 2, .bool false, .int .i64 0, .int .u64 (p.l : Int), str [], .slice none 0 0, .bool false]) := hid (by rw [← hV8]; exact Blk.new _ _ _)
  have HPG := hid HP.out.lt
  have HP : Hid (Blk V8 g2 38 #[.int .i64 0, .int .u64 (p.t : Int), str [], .slice none 0 0, .bool false, .int .i64 0, .int .u64 (p.q : Int), str [], .slice none 0 0, .bool false]) := hid (by rw [← hV8]; exact HP.out.alloc _)
  have Ld : Hid (IsL V8 (fun b => w.heap.size + 2 ≤ b ∧ b < wd.heap.size) (eidT p.d) Ad) := hid (by rw [← hV8]; exact IsL.ext (Ld.out.ext e.h) ((Mod.refl [] e.x).alloc _))
  have Ls : Hid (IsL V8 (fun b => w.heap.size + 2 ≤ b ∧ b < ws.heap.size) (eidT p.s) As) := hid (by rw [← hV8]; exact IsL.ext (Ls.out.ext e.h) ((Mod.refl [] e.x).alloc _))
  have Lr : Hid (IsL V8 (fun b => w.heap.size + 2 ≤ b ∧ b < wr.heap.size) (eidT p.r) Ar) := hid (by rw [← hV8]; exact IsL.ext (Lr.out.ext e.h) ((Mod.refl [] e.x).alloc _))
  have HG8 : Hid (Vr.heap.size ≤ e.x.heap.size) := e.h.size
  clear hV8 hb3
  generalize e.x.heap.size = g8 at *
  have HO : Hid (V8.ownsRow (w.heap.size + 2) 38 5 (.slice (some ⟨g8, 0, none⟩) 8 8) 8 (flatC (chL [numT 7, numT p.fl, numT k, eidT p.d, eidT p.s, eidT p.r, listT [numT p.t, numT p.q], numT p.l]) (acL [(none, 0), (none, 0), (none, 0), (Ad, 2), (As, 2), (Ar, 2), (some ⟨g2, 0, none⟩, 2), (none, 0)]) 8)) := own_of_blk H8.out (by have := HG8.out; have := hSr.out; have := Nr.out; have := hSs.out; have := Ns.out; have := hSd.out; have := Nd.out; have := HV.out; omega) (by decide) rfl
  have HGG : Hid (g8 ≤ g8) := Nat.le_refl _
  have HG8b : Hid (w.heap.size + 2 ≤ g8) := by have := HG8.out; have := hSr.out; have := Nr.out; have := hSs.out; have := Ns.out; have := hSd.out; have := Nd.out; have := HV.out; unfold Hid; omega
  have HLT8 := hid H8.out.lt
  have CH : Hid (∀ i, i < 8 → IsL V8 (fun b => w.heap.size + 2 ≤ b ∧ b < g8) (chL [numT 7, numT p.fl, numT k, eidT p.d, eidT p.s, eidT p.r, listT [numT p.t, numT p.q], numT p.l] i) (acL [(none, 0), (none, 0), (none, 0), (Ad, 2), (As, 2), (Ar, 2), (some ⟨g2, 0, none⟩, 2), (none, 0)] i).1) := fun i hi => by
    have q1 := HG8.out; have q2 := hSr.out; have q3 := Nr.out; have q4 := hSs.out; have q5 := Ns.out; have q6 := hSd.out; have q7 := Nd.out; have q8 := HV.out
    match i, hi with
    | 0, _ => exact num_IsL
    | 1, _ => exact num_IsL
    | 2, _ => exact num_IsL
    | 3, _ => exact IsL.weak (fun b _ h => ⟨h.1, by have := h.2; omega⟩) (eidT p.d) Ld.out
    | 4, _ => exact IsL.weak (fun b _ h => ⟨h.1, by have := h.2; omega⟩) (eidT p.s) Ls.out
    | 5, _ => exact IsL.weak (fun b _ h => ⟨h.1, by have := h.2; omega⟩) (eidT p.r) Lr.out
    | 6, _ => exact fun _ => ⟨g2, 0, rfl, HP.out.lt, ⟨HG2.out, HPG.out⟩, fun j hj => by
        have hj : j = 0 ∨ j = 1 := by have : j < 2 := hj; omega
        rcases hj with rfl | rfl
        · exact ⟨none, 0, ⟨HP.out.cell 0, HP.out.cell 1, HP.out.cell 2, HP.out.cell 3, HP.out.cell 4⟩, num_IsL⟩
        · exact ⟨none, 0, ⟨HP.out.cell 5, HP.out.cell 6, HP.out.cell 7, HP.out.cell 8, HP.out.cell 9⟩, num_IsL⟩⟩
    | 7, _ => exact num_IsL
  clear H8 HP Ld Ls Lr HG8 HPG hSr Nr hSs Ns hSd Nd KD KS KR Dd Ds Dr HG2
  have HW8 : Hid (w.heap.size + 2 ≤ g8) := by have := HG8b.out; unfold Hid; omega
  obtain ⟨i0, hi, hz0, hz1, hz2⟩ := info_parts infoItem
  have HINF := hid (And.intro hi (And.intro hz0 (And.intro hz1 hz2)))
  clear hi hz0 hz1 hz2
  have HLG := HLT8
  have y0 : ∀ e : Later V8, e.x.cell? ⟨w.heap.size, 0, none⟩ = some (.int .u64 (p.fl : Int)) := HB.out.cellL 0 rfl
  obtain ⟨e, he⟩ := Later.self V8
  rw [he]
  clear he
  by_cases hx : p.fl % 2 = 1
  · have a1 : bits .and .u64 (p.fl : Int) 1 = 1 := by have h := andP_yes (k := 0) HFL.out (by omega) (by simpa using hx); simpa using h
    have HX := hid hx
    clear hx
    have y17 : ∀ e : Later V8, e.x.cell? ⟨w.heap.size, 17, none⟩ = some (.int .u64 (p.o : Int)) := HB.out.cellL 17 rfl
    have y18 : ∀ e : Later V8, e.x.cell? ⟨w.heap.size, 18, none⟩ = some (.int .u64 (p.n : Int)) := HB.out.cellL 18 rfl
    have y18a : ∀ (e : Later V8) (ob : Obj), (e.x.alloc ob).cell? ⟨w.heap.size, 18, none⟩ = some (.int .u64 (p.n : Int)) := fun e ob => ((HB.out.later e).alloc ob).cell 18
    have y17a : ∀ (e : Later V8) (ob : Obj), (e.x.alloc ob).cell? ⟨w.heap.size, 17, none⟩ = some (.int .u64 (p.o : Int)) := fun e ob => ((HB.out.later e).alloc ob).cell 17
    have HOE : Hid (∀ e : Later V8, e.x.ownsRow (w.heap.size + 2) 38 5 (.slice (some ⟨g8, 0, none⟩) 8 8) 8 (flatC (chL [numT 7, numT p.fl, numT k, eidT p.d, eidT p.s, eidT p.r, listT [numT p.t, numT p.q], numT p.l]) (acL [(none, 0), (none, 0), (none, 0), (Ad, 2), (As, 2), (Ar, 2), (some ⟨g2, 0, none⟩, 2), (none, 0)]) 8)) := fun e => ownsRow_mod HO.out e.h (fun _ _ => by simp)
    obtain ⟨hi, hz0, hz1, hz2⟩ := HINF.out
    go_upto_region 6 with fail
    go_region_held3 (fun w' => w'.cell? ⟨w.heap.size, 17, none⟩ = some (.int .u64 (p.o : Int)) ∧ w'.cell? ⟨w.heap.size, 18, none⟩ = some (.int .u64 (p.n : Int))) (go_keep)
      (first
        | (go_at_call 89; refine (NumI_any _ _).mono ?_; rintro x w3 ⟨rfl, hb3⟩; obtain ⟨e, rfl⟩ : ∃ e' : Later V8, w3 = e'.x := ⟨⟨w3, Mod.trans (by first | exact Later.h _ | exact (Later.h _).drew | exact (Later.h _).alloc _) hb3⟩, rfl⟩)
        | (refine step_append_lies _ (by rfl) _ _ 36 (by rfl) (w.heap.size + 2) 38 i0 _ 5 64 Try.underlying36 hi hz0 hz1 hz2 (by rfl) (by decide) _ 8 _ (by rfl) ((HOE.out e).alloc _) ⟨e.x.heap.size, 0, none⟩ 2 2 [.int .i64 0, .int .u64 (p.o : Int), str [], .slice none 0 0, .bool false, .int .i64 0, .int .u64 (p.n : Int), str [], .slice none 0 0, .bool false] (by rfl) (by rfl) (World.news_of_block (heap_alloc_new _ _)) (fun u hu => by simp only [List.mem_cons, List.not_mem_nil, or_false] at hu; rcases hu with h | h | h | h | h | h | h | h | h | h <;> (subst h; rfl)) (by decide) (by decide) (by decide) (by have := HW8.out; have := HLT8.out; have := e.h.size; simp; omega) (e.x.heap.size + 1) (by simp) ?_; intro g9 c9 w9 hown hgrow hat hlt; have z17 : w9.cell? ⟨w.heap.size, 17, none⟩ = some (.int .u64 (p.o : Int)) := (hgrow.cell_far _ (by have := HW8.out; have := HLT8.out; have := e.h.size; simp; omega) (by simp [Value.ownBlock]; have := HW8.out; omega)).trans (y17a e _); have z18 : w9.cell? ⟨w.heap.size, 18, none⟩ = some (.int .u64 (p.n : Int)) := (hgrow.cell_far _ (by have := HW8.out; have := HLT8.out; have := e.h.size; simp; omega) (by simp [Value.ownBlock]; have := HW8.out; omega)).trans (y18a e _)))
    go_upto_region 7 with fail
    clear y17 y18 y17a y18a z17 z18 hi hz0 hz1 hz2 HOE y0
    have hm : Mod [g8] V8 w9 := Mod.grown (by first | exact (Mod.of_ext e.h).alloc _ | exact ((Mod.of_ext e.h).alloc _).drew | exact ((Mod.of_ext e.h).drew).alloc _) hgrow (fun b hb => by simp [Value.ownBlock] at hb; subst hb; exact .inl (by simp))
    have HGE : Hid (g8 ≤ g9) := by
      have h1 := HGG.out
      have h2 := HLT8.out
      have h3 := e.h.size
      rcases hat with h | h
      · simp [Value.ownBlock] at h; unfold Hid; omega
      · unfold Hid; omega
    have HO : Hid (w9.ownsRow (w.heap.size + 2) 38 5 (.slice (some ⟨g9, 0, none⟩) 10 c9) 10 (flatC (chL [numT 7, numT p.fl, numT k, eidT p.d, eidT p.s, eidT p.r, listT [numT p.t, numT p.q], numT p.l, numT p.o, numT p.n]) (acL [(none, 0), (none, 0), (none, 0), (Ad, 2), (As, 2), (Ar, 2), (some ⟨g2, 0, none⟩, 2), (none, 0), (none, 0), (none, 0)]) 10)) := hown
    have HE : Hid (Ext w w9) := (HE.out.of_ext.trans hm).new (fun b hb => .inr (by rw [List.mem_singleton] at hb; subst hb; have := HGG.out; have := HW8.out; omega))
    have HB : Hid (Blk w9 w.heap.size 68 p.c) := HB.out.mod hm (by have := HGG.out; have := HW8.out; simp; omega)
    have HR : Hid (Blk w9 (w.heap.size + 1) 38 (itemC (numT 0) none 0)) := HR.out.mod hm (by have := HGG.out; have := HW8.out; simp; omega)
    have CH : Hid (∀ i, i < 10 → IsL w9 (fun b => w.heap.size + 2 ≤ b ∧ b < g8) (chL [numT 7, numT p.fl, numT k, eidT p.d, eidT p.s, eidT p.r, listT [numT p.t, numT p.q], numT p.l, numT p.o, numT p.n] i) (acL [(none, 0), (none, 0), (none, 0), (Ad, 2), (As, 2), (Ar, 2), (some ⟨g2, 0, none⟩, 2), (none, 0), (none, 0), (none, 0)] i).1) := fun i hi => by
      by_cases h : i < 8
      · have q := IsL.mod hm (fun b hb _ hs => by rw [List.mem_singleton] at hs; subst hs; have := HGG.out; have := hb.2; omega) _ (CH.out i h)
        match i, h with
        | 0, _ => exact q
        | 1, _ => exact q
        | 2, _ => exact q
        | 3, _ => exact q
        | 4, _ => exact q
        | 5, _ => exact q
        | 6, _ => exact q
        | 7, _ => exact q
      · obtain ⟨j, rfl⟩ : ∃ j, i = 8 + j := ⟨i - 8, by omega⟩
        match j, hi with
        | 0, _ => exact num_IsL
        | 1, _ => exact num_IsL
        | j + 2, h => exact absurd h (by omega)
    have HLT8 : Hid (g8 < w9.heap.size) := by have := hm.size; have := HLT8.out; unfold Hid; omega
    have HLG := hid hlt
    clear hown hgrow hat hlt hm HGG
    have HGG := HGE
    clear HGE
    obtain ⟨e, he⟩ := Later.self w9
    rw [he]
    clear he
    have y1 : ∀ e : Later w9, e.x.cell? ⟨w.heap.size, 1, none⟩ = some (.int .i64 (k : Int)) := HB.out.cellL 1 (by show some (Value.int .i64 p.crc) = _; rw [HC.out])
    by_cases hk0 : k = 0
    · have kka : (((k : Int)) == (0)) = true := by rw [beq_iff_eq]; omega
      have kkb : (((k : Int)) = (0)) = True := eq_true (by omega)
      have kkc : (((k : Int)) != (0)) = false := by rw [bne_eq_false_iff_eq]; omega
      have kza : decide (k = 0) = true := decide_eq_true (by omega)
      have kzb : (k = 0) = True := eq_true (by omega)
      have HK0 := hid hk0
      clear hk0
      go_upto_region 9 with fail
      have HLL : Hid (priT p k sum = listT [numT 7, numT p.fl, numT k, eidT p.d, eidT p.s, eidT p.r, listT [numT p.t, numT p.q], numT p.l, numT p.o, numT p.n]) := by unfold Hid priT priL; rw [if_pos HX.out, if_pos HK0.out]; rfl
      go_wp2_with (go_at_call 74; refine (ListV_any _ _ _ _).mono ?_; rintro x w3 ⟨rfl, hb3⟩; obtain ⟨e, rfl⟩ : ∃ e' : Later w9, w3 = e'.x := ⟨⟨w3, Mod.trans (by first | exact Later.h _ | exact (Later.h _).drew | exact (Later.h _).alloc _) hb3⟩, rfl⟩; obtain ⟨c0, c1, c2, c3, c4⟩ := cells5 (HR.out.later e); have f0 := (HR.out.later e).frozen 0; have f1 := (HR.out.later e).frozen 1; have f2 := (HR.out.later e).frozen 2; have f3 := (HR.out.later e).frozen 3; have f4 := (HR.out.later e).frozen 4)
      obtain ⟨d0, d1, d2, d3, d4⟩ := cells5 (set5_blk (t := listT [numT 7, numT p.fl, numT k, eidT p.d, eidT p.s, eidT p.r, listT [numT p.t, numT p.q], numT p.l, numT p.o, numT p.n]) (A := some ⟨g9, 0, none⟩) (c := c9) (HR.out.later e))
      clear c0 c1 c2 c3 c4 f0 f1 f2 f3 f4
      show bodyPost _ _ _ _ _ (set5 e.x (w.heap.size + 1) (listT [numT 7, numT p.fl, numT k, eidT p.d, eidT p.s, eidT p.r, listT [numT p.t, numT p.q], numT p.l, numT p.o, numT p.n]) (some ⟨g9, 0, none⟩) c9)
      refine bodyPost_ret (v := itemV (listT [numT 7, numT p.fl, numT k, eidT p.d, eidT p.s, eidT p.r, listT [numT p.t, numT p.q], numT p.l, numT p.o, numT p.n]) (some ⟨g9, 0, none⟩) c9) (by simp [results, Try.results75, go_sem, d0, d1, d2, d3, d4]) rfl ⟨some ⟨g9, 0, none⟩, c9, by rw [HLL.out], set5_mod (HE.out.trans e.h) (by omega), ?_⟩
      rw [HLL.out]
      refine ⟨?_, room_cap HO.out⟩
      refine IsL.weak (fun _ _ h => by have : w.heap.size + 2 ≤ _ := h; omega) _ (IsL.mod (Q := fun b => w.heap.size + 2 ≤ b) set5_modb (fun b hb _ hs => by rw [List.mem_singleton] at hs; have : w.heap.size + 2 ≤ b := hb; omega) _ ?_)
      exact list_IsL (base := w.heap.size + 2) (c := c9) (by have := HLG.out; have := e.h.size; omega) (by have := HGG.out; have := HW8.out; omega) (ownsRow_mod HO.out e.h (fun _ _ => by simp)) (fun i hi => IsL.weak (fun b _ h => h.1) _ ((CH.out i hi).ext e.h))
    · have kka : (((k : Int)) == (0)) = false := by rw [beq_eq_false_iff_ne]; omega
      have kkb : (((k : Int)) = (0)) = False := eq_false (by omega)
      have kkc : (((k : Int)) != (0)) = true := by rw [bne_iff_ne]; omega
      have kza : decide (k = 0) = false := decide_eq_false (by omega)
      have kzb : (k = 0) = False := eq_false (by omega)
      have HK0 := hid hk0
      clear hk0
      have HOE : Hid (∀ e : Later w9, e.x.ownsRow (w.heap.size + 2) 38 5 (.slice (some ⟨g9, 0, none⟩) 10 c9) 10 (flatC (chL [numT 7, numT p.fl, numT k, eidT p.d, eidT p.s, eidT p.r, listT [numT p.t, numT p.q], numT p.l, numT p.o, numT p.n]) (acL [(none, 0), (none, 0), (none, 0), (Ad, 2), (As, 2), (Ar, 2), (some ⟨g2, 0, none⟩, 2), (none, 0), (none, 0), (none, 0)]) 10)) := fun e => ownsRow_mod HO.out e.h (fun _ _ => by simp)
      obtain ⟨hi, hz0, hz1, hz2⟩ := HINF.out
      go_upto_region 9 with (first | (go_at_call 70; refine (StrV_any _ _).mono ?_; rintro x w3 ⟨rfl, hb3⟩; obtain ⟨e, rfl⟩ : ∃ e' : Later w9, w3 = e'.x := ⟨⟨w3, Mod.trans (by first | exact Later.h _ | exact (Later.h _).drew | exact (Later.h _).alloc _) hb3⟩, rfl⟩) | (at_builtin; refine wpList_append_lies _ rfl _ _ 36 (by rfl) (w.heap.size + 2) 38 i0 _ 5 64 Try.underlying36 hi hz0 hz1 hz2 (by rfl) (by decide) _ 10 _ (by rfl) ((HOE.out e).alloc _) ⟨e.x.heap.size, 0, none⟩ 1 1 [.int .i64 (strT sum).kind, .int .u64 ((strT sum).n : Int), str (strT sum).s, .slice none (strT sum).k 0, .bool (strT sum).op] (by rfl) (by rfl) (World.news_of_block (heap_alloc_new _ _)) (fun u hu => by simp only [List.mem_cons, List.not_mem_nil, or_false] at hu; rcases hu with h | h | h | h | h <;> (subst h; rfl)) (by decide) (by decide) (by decide) (by have := HW8.out; have := HLT8.out; have := e.h.size; simp; omega) (e.x.heap.size + 1) (by simp) ?_; intro g' c' w' hown hgrow hat hlt))
      clear hi hz0 hz1 hz2 HOE y1
      have hm : Mod [g9] w9 w' := Mod.grown (by first | exact (Mod.of_ext e.h).alloc _ | exact ((Mod.of_ext e.h).alloc _).drew | exact ((Mod.of_ext e.h).drew).alloc _) hgrow (fun b hb => by simp [Value.ownBlock] at hb; subst hb; exact .inl (by simp))
      have HGE : Hid (g8 ≤ g') := by
        have h1 := HGG.out
        have h2 := HLT8.out
        have h3 := e.h.size
        rcases hat with h | h
        · simp [Value.ownBlock] at h; unfold Hid; omega
        · unfold Hid; omega
      have HO : Hid (w'.ownsRow (w.heap.size + 2) 38 5 (.slice (some ⟨g', 0, none⟩) 11 c') 11 (flatC (chL [numT 7, numT p.fl, numT k, eidT p.d, eidT p.s, eidT p.r, listT [numT p.t, numT p.q], numT p.l, numT p.o, numT p.n, strT sum]) (acL [(none, 0), (none, 0), (none, 0), (Ad, 2), (As, 2), (Ar, 2), (some ⟨g2, 0, none⟩, 2), (none, 0), (none, 0), (none, 0), (none, 0)]) 11)) := hown
      have HE : Hid (Ext w w') := (HE.out.of_ext.trans hm).new (fun b hb => .inr (by rw [List.mem_singleton] at hb; subst hb; have := HGG.out; have := HW8.out; omega))
      have HB : Hid (Blk w' w.heap.size 68 p.c) := HB.out.mod hm (by have := HGG.out; have := HW8.out; simp; omega)
      have HR : Hid (Blk w' (w.heap.size + 1) 38 (itemC (numT 0) none 0)) := HR.out.mod hm (by have := HGG.out; have := HW8.out; simp; omega)
      have CH : Hid (∀ i, i < 11 → IsL w' (fun b => w.heap.size + 2 ≤ b ∧ b < g8) (chL [numT 7, numT p.fl, numT k, eidT p.d, eidT p.s, eidT p.r, listT [numT p.t, numT p.q], numT p.l, numT p.o, numT p.n, strT sum] i) (acL [(none, 0), (none, 0), (none, 0), (Ad, 2), (As, 2), (Ar, 2), (some ⟨g2, 0, none⟩, 2), (none, 0), (none, 0), (none, 0), (none, 0)] i).1) := fun i hi => by
        by_cases h : i < 10
        · have q := IsL.mod hm (fun b hb _ hs => by rw [List.mem_singleton] at hs; subst hs; have := HGG.out; have := hb.2; omega) _ (CH.out i h)
          match i, h with
          | 0, _ => exact q
          | 1, _ => exact q
          | 2, _ => exact q
          | 3, _ => exact q
          | 4, _ => exact q
          | 5, _ => exact q
          | 6, _ => exact q
          | 7, _ => exact q
          | 8, _ => exact q
          | 9, _ => exact q
        · obtain ⟨j, rfl⟩ : ∃ j, i = 10 + j := ⟨i - 10, by omega⟩
          match j, hi with
          | 0, _ => exact str_IsL
          | j + 1, h => exact absurd h (by omega)
      have HLT8 : Hid (g8 < w'.heap.size) := by have := hm.size; have := HLT8.out; unfold Hid; omega
      have HLG := hid hlt
      clear hown hgrow hat hlt hm HGG
      have HGG := HGE
      clear HGE
      obtain ⟨e, he⟩ := Later.self w'
      rw [he]
      clear he
      have HLL : Hid (priT p k sum = listT [numT 7, numT p.fl, numT k, eidT p.d, eidT p.s, eidT p.r, listT [numT p.t, numT p.q], numT p.l, numT p.o, numT p.n, strT sum]) := by unfold Hid priT priL; rw [if_pos HX.out, if_neg HK0.out]; rfl
      go_wp2_with (go_at_call 74; refine (ListV_any _ _ _ _).mono ?_; rintro x w3 ⟨rfl, hb3⟩; obtain ⟨e, rfl⟩ : ∃ e' : Later w', w3 = e'.x := ⟨⟨w3, Mod.trans (by first | exact Later.h _ | exact (Later.h _).drew | exact (Later.h _).alloc _) hb3⟩, rfl⟩; obtain ⟨c0, c1, c2, c3, c4⟩ := cells5 (HR.out.later e); have f0 := (HR.out.later e).frozen 0; have f1 := (HR.out.later e).frozen 1; have f2 := (HR.out.later e).frozen 2; have f3 := (HR.out.later e).frozen 3; have f4 := (HR.out.later e).frozen 4)
      obtain ⟨d0, d1, d2, d3, d4⟩ := cells5 (set5_blk (t := listT [numT 7, numT p.fl, numT k, eidT p.d, eidT p.s, eidT p.r, listT [numT p.t, numT p.q], numT p.l, numT p.o, numT p.n, strT sum]) (A := some ⟨g', 0, none⟩) (c := c') (HR.out.later e))
      clear c0 c1 c2 c3 c4 f0 f1 f2 f3 f4
      show bodyPost _ _ _ _ _ (set5 e.x (w.heap.size + 1) (listT [numT 7, numT p.fl, numT k, eidT p.d, eidT p.s, eidT p.r, listT [numT p.t, numT p.q], numT p.l, numT p.o, numT p.n, strT sum]) (some ⟨g', 0, none⟩) c')
      refine bodyPost_ret (v := itemV (listT [numT 7, numT p.fl, numT k, eidT p.d, eidT p.s, eidT p.r, listT [numT p.t, numT p.q], numT p.l, numT p.o, numT p.n, strT sum]) (some ⟨g', 0, none⟩) c') (by simp [results, Try.results75, go_sem, d0, d1, d2, d3, d4]) rfl ⟨some ⟨g', 0, none⟩, c', by rw [HLL.out], set5_mod (HE.out.trans e.h) (by omega), ?_⟩
      rw [HLL.out]
      refine ⟨?_, room_cap HO.out⟩
      refine IsL.weak (fun _ _ h => by have : w.heap.size + 2 ≤ _ := h; omega) _ (IsL.mod (Q := fun b => w.heap.size + 2 ≤ b) set5_modb (fun b hb _ hs => by rw [List.mem_singleton] at hs; have : w.heap.size + 2 ≤ b := hb; omega) _ ?_)
      exact list_IsL (base := w.heap.size + 2) (c := c') (by have := HLG.out; have := e.h.size; omega) (by have := HGG.out; have := HW8.out; omega) (ownsRow_mod HO.out e.h (fun _ _ => by simp)) (fun i hi => IsL.weak (fun b _ h => h.1) _ ((CH.out i hi).ext e.h))
  · have a1 : bits .and .u64 (p.fl : Int) 1 = 0 := by have h := andP_no (k := 0) HFL.out (by omega) (by have : p.fl % 2 = 0 := (by omega); simpa using this); simpa using h
    have HX := hid hx
    clear hx
    go_upto_region 7 with fail
    have y1 : ∀ e : Later V8, e.x.cell? ⟨w.heap.size, 1, none⟩ = some (.int .i64 (k : Int)) := HB.out.cellL 1 (by show some (Value.int .i64 p.crc) = _; rw [HC.out])
    by_cases hk0 : k = 0
    · have kka : (((k : Int)) == (0)) = true := by rw [beq_iff_eq]; omega
      have kkb : (((k : Int)) = (0)) = True := eq_true (by omega)
      have kkc : (((k : Int)) != (0)) = false := by rw [bne_eq_false_iff_eq]; omega
      have kza : decide (k = 0) = true := decide_eq_true (by omega)
      have kzb : (k = 0) = True := eq_true (by omega)
      have HK0 := hid hk0
      clear hk0
      go_upto_region 9 with fail
      have HLL : Hid (priT p k sum = listT [numT 7, numT p.fl, numT k, eidT p.d, eidT p.s, eidT p.r, listT [numT p.t, numT p.q], numT p.l]) := by unfold Hid priT priL; rw [if_neg HX.out, if_pos HK0.out]; rfl
      go_wp2_with (go_at_call 74; refine (ListV_any _ _ _ _).mono ?_; rintro x w3 ⟨rfl, hb3⟩; obtain ⟨e, rfl⟩ : ∃ e' : Later V8, w3 = e'.x := ⟨⟨w3, Mod.trans (by first | exact Later.h _ | exact (Later.h _).drew | exact (Later.h _).alloc _) hb3⟩, rfl⟩; obtain ⟨c0, c1, c2, c3, c4⟩ := cells5 (HR.out.later e); have f0 := (HR.out.later e).frozen 0; have f1 := (HR.out.later e).frozen 1; have f2 := (HR.out.later e).frozen 2; have f3 := (HR.out.later e).frozen 3; have f4 := (HR.out.later e).frozen 4)
      obtain ⟨d0, d1, d2, d3, d4⟩ := cells5 (set5_blk (t := listT [numT 7, numT p.fl, numT k, eidT p.d, eidT p.s, eidT p.r, listT [numT p.t, numT p.q], numT p.l]) (A := some ⟨g8, 0, none⟩) (c := 8) (HR.out.later e))
      clear c0 c1 c2 c3 c4 f0 f1 f2 f3 f4
      show bodyPost _ _ _ _ _ (set5 e.x (w.heap.size + 1) (listT [numT 7, numT p.fl, numT k, eidT p.d, eidT p.s, eidT p.r, listT [numT p.t, numT p.q], numT p.l]) (some ⟨g8, 0, none⟩) 8)
      refine bodyPost_ret (v := itemV (listT [numT 7, numT p.fl, numT k, eidT p.d, eidT p.s, eidT p.r, listT [numT p.t, numT p.q], numT p.l]) (some ⟨g8, 0, none⟩) 8) (by simp [results, Try.results75, go_sem, d0, d1, d2, d3, d4]) rfl ⟨some ⟨g8, 0, none⟩, 8, by rw [HLL.out], set5_mod (HE.out.trans e.h) (by omega), ?_⟩
      rw [HLL.out]
      refine ⟨?_, room_cap HO.out⟩
      refine IsL.weak (fun _ _ h => by have : w.heap.size + 2 ≤ _ := h; omega) _ (IsL.mod (Q := fun b => w.heap.size + 2 ≤ b) set5_modb (fun b hb _ hs => by rw [List.mem_singleton] at hs; have : w.heap.size + 2 ≤ b := hb; omega) _ ?_)
      exact list_IsL (base := w.heap.size + 2) (c := 8) (by have := HLG.out; have := e.h.size; omega) (by have := HGG.out; have := HW8.out; omega) (ownsRow_mod HO.out e.h (fun _ _ => by simp)) (fun i hi => IsL.weak (fun b _ h => h.1) _ ((CH.out i hi).ext e.h))
    · have kka : (((k : Int)) == (0)) = false := by rw [beq_eq_false_iff_ne]; omega
      have kkb : (((k : Int)) = (0)) = False := eq_false (by omega)
      have kkc : (((k : Int)) != (0)) = true := by rw [bne_iff_ne]; omega
      have kza : decide (k = 0) = false := decide_eq_false (by omega)
      have kzb : (k = 0) = False := eq_false (by omega)
      have HK0 := hid hk0
      clear hk0
      have HOE : Hid (∀ e : Later V8, e.x.ownsRow (w.heap.size + 2) 38 5 (.slice (some ⟨g8, 0, none⟩) 8 8) 8 (flatC (chL [numT 7, numT p.fl, numT k, eidT p.d, eidT p.s, eidT p.r, listT [numT p.t, numT p.q], numT p.l]) (acL [(none, 0), (none, 0), (none, 0), (Ad, 2), (As, 2), (Ar, 2), (some ⟨g2, 0, none⟩, 2), (none, 0)]) 8)) := fun e => ownsRow_mod HO.out e.h (fun _ _ => by simp)
      obtain ⟨hi, hz0, hz1, hz2⟩ := HINF.out
      go_upto_region 9 with (first | (go_at_call 70; refine (StrV_any _ _).mono ?_; rintro x w3 ⟨rfl, hb3⟩; obtain ⟨e, rfl⟩ : ∃ e' : Later V8, w3 = e'.x := ⟨⟨w3, Mod.trans (by first | exact Later.h _ | exact (Later.h _).drew | exact (Later.h _).alloc _) hb3⟩, rfl⟩) | (at_builtin; refine wpList_append_lies _ rfl _ _ 36 (by rfl) (w.heap.size + 2) 38 i0 _ 5 64 Try.underlying36 hi hz0 hz1 hz2 (by rfl) (by decide) _ 8 _ (by rfl) ((HOE.out e).alloc _) ⟨e.x.heap.size, 0, none⟩ 1 1 [.int .i64 (strT sum).kind, .int .u64 ((strT sum).n : Int), str (strT sum).s, .slice none (strT sum).k 0, .bool (strT sum).op] (by rfl) (by rfl) (World.news_of_block (heap_alloc_new _ _)) (fun u hu => by simp only [List.mem_cons, List.not_mem_nil, or_false] at hu; rcases hu with h | h | h | h | h <;> (subst h; rfl)) (by decide) (by decide) (by decide) (by have := HW8.out; have := HLT8.out; have := e.h.size; simp; omega) (e.x.heap.size + 1) (by simp) ?_; intro g' c' w' hown hgrow hat hlt))
      clear hi hz0 hz1 hz2 HOE y1
      have hm : Mod [g8] V8 w' := Mod.grown (by first | exact (Mod.of_ext e.h).alloc _ | exact ((Mod.of_ext e.h).alloc _).drew | exact ((Mod.of_ext e.h).drew).alloc _) hgrow (fun b hb => by simp [Value.ownBlock] at hb; subst hb; exact .inl (by simp))
      have HGE : Hid (g8 ≤ g') := by
        have h1 := HGG.out
        have h2 := HLT8.out
        have h3 := e.h.size
        rcases hat with h | h
        · simp [Value.ownBlock] at h; unfold Hid; omega
        · unfold Hid; omega
      have HO : Hid (w'.ownsRow (w.heap.size + 2) 38 5 (.slice (some ⟨g', 0, none⟩) 9 c') 9 (flatC (chL [numT 7, numT p.fl, numT k, eidT p.d, eidT p.s, eidT p.r, listT [numT p.t, numT p.q], numT p.l, strT sum]) (acL [(none, 0), (none, 0), (none, 0), (Ad, 2), (As, 2), (Ar, 2), (some ⟨g2, 0, none⟩, 2), (none, 0), (none, 0)]) 9)) := hown
      have HE : Hid (Ext w w') := (HE.out.of_ext.trans hm).new (fun b hb => .inr (by rw [List.mem_singleton] at hb; subst hb; have := HGG.out; have := HW8.out; omega))
      have HB : Hid (Blk w' w.heap.size 68 p.c) := HB.out.mod hm (by have := HGG.out; have := HW8.out; simp; omega)
      have HR : Hid (Blk w' (w.heap.size + 1) 38 (itemC (numT 0) none 0)) := HR.out.mod hm (by have := HGG.out; have := HW8.out; simp; omega)
      have CH : Hid (∀ i, i < 9 → IsL w' (fun b => w.heap.size + 2 ≤ b ∧ b < g8) (chL [numT 7, numT p.fl, numT k, eidT p.d, eidT p.s, eidT p.r, listT [numT p.t, numT p.q], numT p.l, strT sum] i) (acL [(none, 0), (none, 0), (none, 0), (Ad, 2), (As, 2), (Ar, 2), (some ⟨g2, 0, none⟩, 2), (none, 0), (none, 0)] i).1) := fun i hi => by
        by_cases h : i < 8
        · have q := IsL.mod hm (fun b hb _ hs => by rw [List.mem_singleton] at hs; subst hs; have := HGG.out; have := hb.2; omega) _ (CH.out i h)
          match i, h with
          | 0, _ => exact q
          | 1, _ => exact q
          | 2, _ => exact q
          | 3, _ => exact q
          | 4, _ => exact q
          | 5, _ => exact q
          | 6, _ => exact q
          | 7, _ => exact q
        · obtain ⟨j, rfl⟩ : ∃ j, i = 8 + j := ⟨i - 8, by omega⟩
          match j, hi with
          | 0, _ => exact str_IsL
          | j + 1, h => exact absurd h (by omega)
      have HLT8 : Hid (g8 < w'.heap.size) := by have := hm.size; have := HLT8.out; unfold Hid; omega
      have HLG := hid hlt
      clear hown hgrow hat hlt hm HGG
      have HGG := HGE
      clear HGE
      obtain ⟨e, he⟩ := Later.self w'
      rw [he]
      clear he
      have HLL : Hid (priT p k sum = listT [numT 7, numT p.fl, numT k, eidT p.d, eidT p.s, eidT p.r, listT [numT p.t, numT p.q], numT p.l, strT sum]) := by unfold Hid priT priL; rw [if_neg HX.out, if_neg HK0.out]; rfl
      go_wp2_with (go_at_call 74; refine (ListV_any _ _ _ _).mono ?_; rintro x w3 ⟨rfl, hb3⟩; obtain ⟨e, rfl⟩ : ∃ e' : Later w', w3 = e'.x := ⟨⟨w3, Mod.trans (by first | exact Later.h _ | exact (Later.h _).drew | exact (Later.h _).alloc _) hb3⟩, rfl⟩; obtain ⟨c0, c1, c2, c3, c4⟩ := cells5 (HR.out.later e); have f0 := (HR.out.later e).frozen 0; have f1 := (HR.out.later e).frozen 1; have f2 := (HR.out.later e).frozen 2; have f3 := (HR.out.later e).frozen 3; have f4 := (HR.out.later e).frozen 4)
      obtain ⟨d0, d1, d2, d3, d4⟩ := cells5 (set5_blk (t := listT [numT 7, numT p.fl, numT k, eidT p.d, eidT p.s, eidT p.r, listT [numT p.t, numT p.q], numT p.l, strT sum]) (A := some ⟨g', 0, none⟩) (c := c') (HR.out.later e))
      clear c0 c1 c2 c3 c4 f0 f1 f2 f3 f4
      show bodyPost _ _ _ _ _ (set5 e.x (w.heap.size + 1) (listT [numT 7, numT p.fl, numT k, eidT p.d, eidT p.s, eidT p.r, listT [numT p.t, numT p.q], numT p.l, strT sum]) (some ⟨g', 0, none⟩) c')
      refine bodyPost_ret (v := itemV (listT [numT 7, numT p.fl, numT k, eidT p.d, eidT p.s, eidT p.r, listT [numT p.t, numT p.q], numT p.l, strT sum]) (some ⟨g', 0, none⟩) c') (by simp [results, Try.results75, go_sem, d0, d1, d2, d3, d4]) rfl ⟨some ⟨g', 0, none⟩, c', by rw [HLL.out], set5_mod (HE.out.trans e.h) (by omega), ?_⟩
      rw [HLL.out]
      refine ⟨?_, room_cap HO.out⟩
      refine IsL.weak (fun _ _ h => by have : w.heap.size + 2 ≤ _ := h; omega) _ (IsL.mod (Q := fun b => w.heap.size + 2 ≤ b) set5_modb (fun b hb _ hs => by rw [List.mem_singleton] at hs; have : w.heap.size + 2 ≤ b := hb; omega) _ ?_)
      exact list_IsL (base := w.heap.size + 2) (c := c') (by have := HLG.out; have := e.h.size; omega) (by have := HGG.out; have := HW8.out; omega) (ownsRow_mod HO.out e.h (fun _ _ => by simp)) (fun i hi => IsL.weak (fun b _ h => h.1) _ ((CH.out i hi).ext e.h))
theorem parts_any (p : PV) (k : Nat) (hc : p.crc = (k : Int)) (hk : k ≤ 2) (hr : p.ranged = true) (sum : List UInt8) (w : World) : Calls Try.prog 75 #[.agg p.c, str sum] w (fun e w' => ∃ A c, e = .returned (itemV (priT p k sum) A c) ∧ Ext w w' ∧ IsL w' (fun b => w.heap.size ≤ b) (priT p k sum) A) := (parts_cap p k hc hk hr sum w).mono fun _ _ ⟨A, c, h1, h2, h3, _⟩ => ⟨A, c, h1, h2, h3⟩
end Go.Proofs.Ytogjghmoankleaa


namespace Go.Proofs.Ytogjghmoankleaa
open Go.RowKit
set_option linter.unusedVariables false
set_option linter.unusedSimpArgs false

theorem chL_app {L : List T} {t : T} {i : Nat} (h : i < L.length) : chL (L ++ [t]) i = chL L i := by unfold chL; rw [List.getElem?_append_left h]
theorem chL_last (L : List T) (t : T) : chL (L ++ [t]) L.length = t := by unfold chL; simp
theorem listT_app (L : List T) (t : T) : listT (L ++ [t]) = T.mk 4 0 [] false (L.length + 1) (chL (L ++ [t])) := by
  unfold listT chL
  rw [List.length_append]; rfl
theorem last_ext (L : List T) (s t : T) : listT (L ++ [t]) = T.mk 4 0 [] false (L.length + 1) (fun i => if i = L.length then t else chL (L ++ [s]) i) := by
  rw [listT_app]
  congr 1
  funext i
  by_cases h : i = L.length
  · rw [if_pos h, h, chL_last]
  · rw [if_neg h]
    by_cases h2 : i < L.length
    · rw [chL_app h2, chL_app h2]
    · unfold chL
      rw [List.getElem?_eq_none (by simp; omega), List.getElem?_eq_none (by simp; omega)]
set_option maxRecDepth 20000 in
theorem psummed_0 (t : T) (A : Option Addr) (c : Nat) (w : World) : Calls Try.prog 73 #[.int .i64 0, itemV t A c] w (Ret (itemV t A c) w) := by
  have HB := hid (Blk.new w 38 (itemC t A c))
  go_enter Try.func73, Try.ntmps73
  go_wp2_with fail
  refine bodyPost_ret (v := itemV t A c) (by simp [results, Try.results73, go_sem]) rfl (Ret.mk rfl (((Mod.refl _ _).alloc _).alloc _))
set_option maxRecDepth 20000 in
set_option maxHeartbeats 1600000 in
theorem psummed_cap (L : List T) (Z : List UInt8) (kind : Nat) (k1 : 1 ≤ kind) (k2 : kind ≤ 2) (hn : L.length ≤ 20) (hok : (listT (L ++ [strT Z])).ok) (hsz : (listT (L ++ [strT Z])).size ≤ 100000) (hr : (listT (L ++ [strT Z])).right 8 = true) (hbl : (listT (L ++ [strT Z])).bytes.length < 1000000) (N : Nat) (A : Option Addr) (c : Nat) (w : World) (hN : N ≤ w.heap.size) (h : IsL w (fun b => N ≤ b) (listT (L ++ [strT Z])) A) :
    Calls Try.prog 73 #[.int .i64 (kind : Int), itemV (listT (L ++ [strT Z])) A c] w (fun e w' => ∃ A c, e = .returned (itemV (listT (L ++ [strT (Crc.sumL kind (listT (L ++ [strT Z])).bytes)])) A c) ∧ Ext w w' ∧ IsL w' (fun b => N ≤ b) (listT (L ++ [strT (Crc.sumL kind (listT (L ++ [strT Z])).bytes)])) A ∧ (listT (L ++ [strT (Crc.sumL kind (listT (L ++ [strT Z])).bytes)])).k ≤ c) := by
  have e1 : ((kind : Int) = 0) = False := by simp; omega
  have e2 : ((kind : Int) == 0) = false := by simp; omega
  have HI : Hid (IsL w (fun b => N ≤ b ∧ b < w.heap.size) (listT (L ++ [strT Z])) A) := IsL.weak (fun k hk hq => ⟨hq, hk⟩) _ h
  have KB : Hid (∀ A c W, IsL W (fun _ => True) (listT (L ++ [strT Z])) A → Calls Try.prog 51 #[itemV (listT (L ++ [strT Z])) A c] W (Ret (.tuple #[str (listT (L ++ [strT Z])).bytes, .int .i64 0]) W)) := fun A c W hW => by
    have := iBuild_any _ hok hsz A c W hW
    unfold buildV at this
    rwa [if_pos hr] at this
  have KS := hid (fun W => Sum_any kind k1 k2 (listT (L ++ [strT Z])).bytes hbl W)
  have HU := hid (last_ext L (strT Z) (strT (Crc.sumL kind (listT (L ++ [strT Z])).bytes)))
  rw [listT_app L (strT Z)] at KB KS HU HI ⊢
  have hK := CloneI_any (Q := fun b => N ≤ b ∧ b < w.heap.size) (kind := 4) (n := 0) (s := []) (op := false) (chL (L ++ [strT Z])) (L.length + 1) (by unfold Hid; omega) A c
  have KC := hid hK
  clear hK h hok hsz hr hbl
  generalize (T.mk 4 0 [] false (L.length + 1) (chL (L ++ [strT Z]))).bytes = B at *
  generalize listT (L ++ [strT (Crc.sumL kind B)]) = U at *
  generalize Crc.sumL kind B = S at *
  generalize chL (L ++ [strT Z]) = ch at *
  obtain ⟨n, hnn⟩ : ∃ n, n = L.length := ⟨_, rfl⟩
  rw [← hnn] at HI KB HU KC hn ⊢
  clear hnn
  have n0 : (0 : Int) ≤ (n : Int) := by omega
  have n1 : (n : Int) ≤ 20 := by omega
  have HN1 := hid hn
  have HNW := hid hN
  clear hn hN k1 k2
  have HE := hid (((Mod.refl [] w).alloc (.cells (itemC (T.mk 4 0 [] false (n + 1) ch) A c) 38)).alloc (.cells #[.int .i64 0, .int .u64 0, .string ⟨#[]⟩, .slice none 0 0, .bool false] 38))
  have HX := hid ((Blk.new w 38 (itemC (T.mk 4 0 [] false (n + 1) ch) A c)).alloc (.cells #[.int .i64 0, .int .u64 0, .string ⟨#[]⟩, .slice none 0 0, .bool false] 38))
  have HR : Hid (Blk ((w.alloc (.cells (itemC (T.mk 4 0 [] false (n + 1) ch) A c) 38)).alloc (.cells #[.int .i64 0, .int .u64 0, .string ⟨#[]⟩, .slice none 0 0, .bool false] 38)) (w.heap.size + 1) 38 (itemC (numT 0) none 0)) := Blk.newL _ _ _ (by simp)
  go_enter Try.func73, Try.ntmps73
  go_upto_region 3 with fail
  generalize hV : World.alloc _ _ = V
  rw [hV] at HE HX HR
  clear hV
  have HIV : Hid (∀ e : Later V, IsL e.x (fun b => N ≤ b ∧ b < w.heap.size) (T.mk 4 0 [] false (n + 1) ch) A) := fun e => HI.out.ext (HE.out.trans e.h)
  have q0 : ∀ e : Later V, e.x.cell? ⟨w.heap.size, 0, none⟩ = some (.int .i64 4) := HX.out.cellL 0 rfl
  have q1 : ∀ e : Later V, e.x.cell? ⟨w.heap.size, 1, none⟩ = some (.int .u64 0) := HX.out.cellL 1 rfl
  have q2 : ∀ e : Later V, e.x.cell? ⟨w.heap.size, 2, none⟩ = some (str []) := HX.out.cellL 2 rfl
  have q3 : ∀ e : Later V, e.x.cell? ⟨w.heap.size, 3, none⟩ = some (.slice A (n + 1) c) := HX.out.cellL 3 rfl
  have q4 : ∀ e : Later V, e.x.cell? ⟨w.heap.size, 4, none⟩ = some (.bool false) := HX.out.cellL 4 rfl
  obtain ⟨e, he⟩ := Later.self V
  rw [he]
  clear he
  have HVS : Hid (w.heap.size + 2 ≤ V.heap.size) := Nat.succ_le_of_lt HR.out.lt
  go_upto_region 5 with (first | (go_at_call 51; refine (Ret.later (KB.out _ _ _ (IsL.weak (fun _ _ _ => trivial) _ (HIV.out _)))).mono ?_; rintro x _ ⟨rfl, e, rfl⟩) | (go_at_call 69; refine (KC.out _ (HIV.out _)).mono ?_; rintro x w1 ⟨g, c', ac, rfl, hb1, hg1, hlt1, hown1, hk1⟩))
  have HO1 := hid hown1
  have HK1 := hid hk1
  have HG : Hid (w.heap.size + 2 ≤ g) := by have := HVS.out; have := e.h.size; unfold Hid; omega
  have HE1 := hid (HE.out.trans (e.h.trans hb1))
  have HR1 := hid (HR.out.ext (e.h.trans hb1))
  have HL1 := hid hlt1
  clear hb1 hg1 hlt1 hown1 hk1 HE HR HI q0 q1 q2 q3 q4 HIV HX HVS
  obtain ⟨x0, x1, x2, x3, x4⟩ := flatC_get ch ac (n + 1) n (by omega)
  have y0 : ∀ e : Later w1, e.x.cell? ⟨g, n * 5, none⟩ = _ := cellL (own_cells HO1.out x0)
  have y1 : ∀ e : Later w1, e.x.cell? ⟨g, n * 5 + 1, none⟩ = _ := cellL (own_cells HO1.out x1)
  have y2 : ∀ e : Later w1, e.x.cell? ⟨g, n * 5 + 2, none⟩ = _ := cellL (own_cells HO1.out x2)
  have y3 : ∀ e : Later w1, e.x.cell? ⟨g, n * 5 + 3, none⟩ = _ := cellL (own_cells HO1.out x3)
  have y4 : ∀ e : Later w1, e.x.cell? ⟨g, n * 5 + 4, none⟩ = _ := cellL (own_cells HO1.out x4)
  have HOE : Hid (∀ e : Later w1, e.x.ownsRow _ 38 5 (.slice (some ⟨g, 0, none⟩) (n + 1) c') (n + 1) (flatC ch ac (n + 1))) := fun e => ownsRow_mod HO1.out e.h (fun _ _ => by simp)
  have z : ∀ (e : Later w1) (j : Nat), e.x.frozen? ⟨g, j, none⟩ = false := fun e j => (HOE.out e).frozenAt j
  clear x0 x1 x2 x3 x4
  obtain ⟨e, he⟩ := Later.self w1
  rw [he]
  clear he
  go_upto_region 6 with (first | (go_at_call 117; refine (Ret.later (KS.out _)).mono ?_; rintro x _ ⟨rfl, e, rfl⟩) | (go_at_call 70; refine (Ret.later (StrV_any _ _)).mono ?_; rintro x _ ⟨rfl, e, rfl⟩))
  generalize hW : World.setCell _ _ _ = W2
  have HO2 : Hid (W2.ownsRow _ 38 5 (.slice (some ⟨g, 0, none⟩) (n + 1) c') (n + 1) (flatC (fun i => if i = n then strT S else ch i) (fun i => if i = n then ((none : Option Addr), 0) else ac i) (n + 1))) := hid (by rw [← hW]; exact own_last (n := n) (strT S) none 0 (HOE.out e))
  have HM : Hid (Mod [g] e.x W2) := hid (by rw [← hW]; exact (((((Mod.refl [g] e.x).setCell (.inl (by simp)) _).setCell (.inl (by simp)) _).setCell (.inl (by simp)) _).setCell (.inl (by simp)) _).setCell (.inl (by simp)) _)
  clear hW y0 y1 y2 y3 y4 z
  have HE2 : Hid (Ext w W2) := (((HE1.out.trans e.h).of_ext).trans HM.out).new (fun b hb => .inr (by rw [List.mem_singleton] at hb; subst hb; have := HG.out; omega))
  have HR2 : Hid (Blk W2 (w.heap.size + 1) 38 (itemC (numT 0) none 0)) := (HR1.out.later e).mod HM.out (by have := HG.out; simp; omega)
  have HK2 : Hid (∀ i, i < n + 1 → IsL W2 (fun b => N ≤ b ∧ b < w.heap.size) ((fun i => if i = n then strT S else ch i) i) ((fun i => if i = n then ((none : Option Addr), 0) else ac i) i).1) := fun i hi => by
    by_cases h : i = n
    · subst h; simp only [if_true]; exact str_IsL
    · simp only [if_neg h]
      exact (IsL.mod HM.out (fun b hb _ hs => by rw [List.mem_singleton] at hs; subst hs; have := hb.2; have := HG.out; omega) _ ((HK1.out i hi).ext e.h))
  have HL2 : Hid (g < W2.heap.size) := by have := HL1.out; have := e.h.size; have := HM.out.size; unfold Hid; omega
  obtain ⟨e, he⟩ := Later.self W2
  rw [he]
  clear he
  go_wp2_with (go_at_call 74; refine (Ret.later (ListV_any _ _ _ _)).mono ?_; rintro x _ ⟨rfl, e, rfl⟩; obtain ⟨c0, c1, c2, c3, c4⟩ := cells5 (HR2.out.later e); have f0 := (HR2.out.later e).frozen 0; have f1 := (HR2.out.later e).frozen 1; have f2 := (HR2.out.later e).frozen 2; have f3 := (HR2.out.later e).frozen 3; have f4 := (HR2.out.later e).frozen 4)
  obtain ⟨d0, d1, d2, d3, d4⟩ := cells5 (set5_blk (t := T.mk 4 0 [] false (n + 1) (fun i => if i = n then strT S else ch i)) (A := some ⟨g, 0, none⟩) (c := c') (HR2.out.later e))
  clear c0 c1 c2 c3 c4 f0 f1 f2 f3 f4
  show bodyPost _ _ _ _ _ (set5 e.x (w.heap.size + 1) (T.mk 4 0 [] false (n + 1) (fun i => if i = n then strT S else ch i)) (some ⟨g, 0, none⟩) c')
  refine bodyPost_ret (v := itemV (T.mk 4 0 [] false (n + 1) (fun i => if i = n then strT S else ch i)) (some ⟨g, 0, none⟩) c') (by simp [results, Try.results73, go_sem, d0, d1, d2, d3, d4]) rfl ⟨some ⟨g, 0, none⟩, c', by rw [HU.out], set5_mod (HE2.out.trans e.h) (by omega), ?_⟩
  rw [HU.out]
  refine ⟨?_, room_cap HO2.out⟩
  refine IsL.weak (fun _ _ h => h.1) _ (IsL.mod (Q := fun b => N ≤ b ∧ b ≠ w.heap.size + 1) set5_modb (fun b hb _ hs => by rw [List.mem_singleton] at hs; exact hb.2 hs) _ ?_)
  refine own_IsL (by have := HL2.out; have := e.h.size; omega) (by have := HG.out; have := HNW.out; exact ⟨by omega, by omega⟩) (ownsRow_mod HO2.out e.h (fun _ _ => by simp)) (fun i hi => IsL.weak (fun b _ hb => ⟨hb.1, by have := hb.2; omega⟩) _ ((HK2.out i hi).ext e.h))
theorem psummed_any (L : List T) (Z : List UInt8) (kind : Nat) (k1 : 1 ≤ kind) (k2 : kind ≤ 2) (hn : L.length ≤ 20) (hok : (listT (L ++ [strT Z])).ok) (hsz : (listT (L ++ [strT Z])).size ≤ 100000) (hr : (listT (L ++ [strT Z])).right 8 = true) (hbl : (listT (L ++ [strT Z])).bytes.length < 1000000) (N : Nat) (A : Option Addr) (c : Nat) (w : World) (hN : N ≤ w.heap.size) (h : IsL w (fun b => N ≤ b) (listT (L ++ [strT Z])) A) :
    Calls Try.prog 73 #[.int .i64 (kind : Int), itemV (listT (L ++ [strT Z])) A c] w (fun e w' => ∃ A c, e = .returned (itemV (listT (L ++ [strT (Crc.sumL kind (listT (L ++ [strT Z])).bytes)])) A c) ∧ Ext w w' ∧ IsL w' (fun b => N ≤ b) (listT (L ++ [strT (Crc.sumL kind (listT (L ++ [strT Z])).bytes)])) A) := (psummed_cap L Z kind k1 k2 hn hok hsz hr hbl N A c w hN h).mono fun _ _ ⟨A, c, h1, h2, h3, _⟩ => ⟨A, c, h1, h2, h3⟩
end Go.Proofs.Ytogjghmoankleaa


namespace Go.Proofs.Ytogjghmoankleaa
open Go.RowKit
set_option linter.unusedVariables false
set_option linter.unusedSimpArgs false

theorem priL_last (p : PV) {k : Nat} (hk : k ≠ 0) (s : List UInt8) : priL p k s = ([numT 7, numT p.fl, numT k, eidT p.d, eidT p.s, eidT p.r, listT [numT p.t, numT p.q], numT p.l] ++ (if p.fl % 2 = 1 then [numT p.o, numT p.n] else [])) ++ [strT s] := by
  unfold priL; rw [if_neg hk, List.append_assoc]
/-- The sum; the whole bytes. -/
def priSum (p : PV) (k : Nat) : List UInt8 := if k = 0 then [] else Crc.sumL k (priB p k (List.replicate (2 * k) 0))
def PV.bytes (p : PV) : List UInt8 := priB p p.crc.toNat (priSum p p.crc.toNat)
def PV.tree (p : PV) : T := priT p p.crc.toNat (priSum p p.crc.toNat)
theorem priSum_length (p : PV) {k : Nat} (hk : k ≤ 2) : (priSum p k).length = 2 * k := by
  unfold priSum
  by_cases h : k = 0
  · rw [if_pos h, h]; rfl
  · rw [if_neg h]; exact Crc.sumL_length (by omega) hk _
theorem PV.tree_all {p : PV} (h : p.ranged = true) : p.tree.ok ∧ (∀ d, 4 ≤ d → p.tree.right d = true) ∧ p.tree.size ≤ 4000 ∧ p.tree.bytes = p.bytes := by
  have hr := PV.ranged_spec h
  have hk : p.crc.toNat ≤ 2 := by omega
  obtain ⟨a, b, c⟩ := priT_all h hk (sum := priSum p p.crc.toNat) (by rw [priSum_length p hk]; omega)
  exact ⟨a, b, c, priT_bytes _ _ _⟩
theorem PV.bytes_length {p : PV} (h : p.ranged = true) : p.bytes.length ≤ 40000 := by
  obtain ⟨_, _, c, d⟩ := PV.tree_all h
  rw [← d]
  have := T.bytes_le p.tree
  omega
theorem psum_cap (p : PV) (h : p.ranged = true) (k : Nat) (hc : p.crc = (k : Int)) (N : Nat) (A : Option Addr) (c : Nat) (w : World) (hN : N ≤ w.heap.size) (hl : IsL w (fun b => N ≤ b) (priT p k (List.replicate (2 * k) 0)) A) (hkc : (priT p k (List.replicate (2 * k) 0)).k ≤ c) :
    Calls Try.prog 73 #[.int .i64 (k : Int), itemV (priT p k (List.replicate (2 * k) 0)) A c] w (fun e w' => ∃ A c, e = .returned (itemV p.tree A c) ∧ Ext w w' ∧ IsL w' (fun b => N ≤ b) p.tree A ∧ p.tree.k ≤ c) := by
  have hr := PV.ranged_spec h
  have hk : k ≤ 2 := by omega
  have ht : p.crc.toNat = k := by omega
  unfold PV.tree
  rw [ht]
  by_cases h0 : k = 0
  · subst h0
    have e : priT p 0 (priSum p 0) = priT p 0 (List.replicate (2 * 0) 0) := rfl
    rw [e]
    exact (psummed_0 _ A c w).mono fun x w' ⟨hx, hm⟩ => ⟨A, c, hx, hm, hl.ext hm, hkc⟩
  · obtain ⟨a, b, cc⟩ := priT_all h hk (sum := List.replicate (2 * k) 0) (by simp; omega)
    have hb : (priT p k (List.replicate (2 * k) 0)).bytes.length < 1000000 := by have := T.bytes_le (priT p k (List.replicate (2 * k) 0)); omega
    have hb2 : (priT p k (List.replicate (2 * k) 0)).bytes = priB p k (List.replicate (2 * k) 0) := priT_bytes _ _ _
    have hs : priSum p k = Crc.sumL k (priB p k (List.replicate (2 * k) 0)) := by unfold priSum; rw [if_neg h0]
    rw [hs, ← hb2]
    clear hkc
    unfold priT at a b cc hb hl ⊢
    rw [priL_last p h0] at a b cc hb hl ⊢
    rw [priL_last p h0 (Crc.sumL _ _)]
    refine psummed_cap _ _ k (by omega) hk ?_ a (by omega) (b 8 (by omega)) hb N A c w hN hl
    split <;> simp
set_option maxRecDepth 20000 in
set_option maxHeartbeats 800000 in
theorem cPriItem_bad (p : PV) (hnl : Hid (p.d.name.length < 4611686018427387904 ∧ p.s.name.length < 4611686018427387904 ∧ p.r.name.length < 4611686018427387904)) (hf : p.fl < 18446744073709551616) (hb : p.right ≠ 0) (w : World) : Calls Try.prog 36 #[.agg p.c] w (Ret (.tuple #[itemV (numT 0) none 0, .int .i64 p.right]) w) := by
  have KR := hid (fun W => cPriRight_any p hnl hf W)
  generalize p.right = r at *
  have r1 : (r == 0) = false := by simpa using hb
  have r2 : (r = 0) = False := by simpa using hb
  have r3 : (r != 0) = true := by simpa using hb
  have HE := hid (((Mod.refl [] w).alloc (.cells p.c 68)).alloc (.cells #[.int .i64 0, .int .u64 0, .string ⟨#[]⟩, .slice none 0 0, .bool false] 38))
  have HB := hid ((Blk.new w 68 p.c).alloc (.cells #[.int .i64 0, .int .u64 0, .string ⟨#[]⟩, .slice none 0 0, .bool false] 38))
  have HR : Hid (Blk ((w.alloc (.cells p.c 68)).alloc (.cells #[.int .i64 0, .int .u64 0, .string ⟨#[]⟩, .slice none 0 0, .bool false] 38)) (w.heap.size + 1) 38 (itemC (numT 0) none 0)) := Blk.newL _ _ _ (by simp)
  clear hb hf
  go_enter Try.func36, Try.ntmps36
  go_upto_region 1 with fail
  generalize (w.alloc (.cells p.c 68)).alloc (.cells #[.int .i64 0, .int .u64 0, .string ⟨#[]⟩, .slice none 0 0, .bool false] 38) = V at *
  have HBL : Hid (∀ e : Later V, Blk e.x w.heap.size 68 p.c) := fun e => HB.out.later e
  obtain ⟨e, he⟩ := Later.self V
  rw [he]
  clear he
  go_wp2_with (first | (refine wpList_row (by rfl) 68 _ rfl _ rfl (HBL.out _) Try.underlying68 rfl (by kernel_rfl) ?_) | (go_at_call 64; refine (Ret.later (KR.out _)).mono ?_; rintro x _ ⟨rfl, e, rfl⟩; obtain ⟨c0, c1, c2, c3, c4⟩ := cells5 (HR.out.later e); have f0 := (HR.out.later e).frozen 0; have f1 := (HR.out.later e).frozen 1; have f2 := (HR.out.later e).frozen 2; have f3 := (HR.out.later e).frozen 3; have f4 := (HR.out.later e).frozen 4))
  obtain ⟨d0, d1, d2, d3, d4⟩ := cells5 (set5_blk (t := numT 0) (A := none) (c := 0) (HR.out.later e))
  clear c0 c1 c2 c3 c4 f0 f1 f2 f3 f4
  show bodyPost _ _ _ _ _ (set5 e.x (w.heap.size + 1) (numT 0) none 0)
  refine bodyPost_ret (v := .tuple #[itemV (numT 0) none 0, .int .i64 r]) (by simp [results, Try.results36, go_sem, d0, d1, d2, d3, d4]) rfl (Ret.mk rfl (set5_mod (HE.out.trans e.h) (by omega)))
set_option maxRecDepth 20000 in
set_option maxHeartbeats 800000 in
theorem cPriItem_cap (p : PV) (hnl : Hid (p.d.name.length < 4611686018427387904 ∧ p.s.name.length < 4611686018427387904 ∧ p.r.name.length < 4611686018427387904)) (hf : p.fl < 18446744073709551616) (hb : p.right = 0) (w : World) : Calls Try.prog 36 #[.agg p.c] w (fun e w' => ∃ A c, e = .returned (.tuple #[itemV p.tree A c, .int .i64 0]) ∧ Ext w w' ∧ IsL w' (fun b => w.heap.size ≤ b) p.tree A ∧ p.tree.k ≤ c) := by
  have KR := hid (fun W => cPriRight_any p hnl hf W)
  have hr := PV.right_ranged hb
  have hrs := PV.ranged_spec hr
  rw [hb] at KR
  obtain ⟨k, hc⟩ := Int.eq_ofNat_of_zero_le hrs.2.2.2.1
  have hk : k ≤ 2 := by omega
  have KP := hid (fun W => parts_cap p k hc hk hr (List.replicate (2 * k) 0) W)
  have KZ : Hid (∀ W, Calls Try.prog 76 #[.int .i64 p.crc] W (Ret (.int .i64 (2 * (k : Int))) W)) := fun W => by rw [hc]; have := Size_any k hk W; simpa using this
  have KT : Hid (∀ W, Calls Try.prog 71 #[.string ⟨#[0]⟩, .int .i64 (2 * (k : Int))] W (Ret (str (List.replicate (2 * k) 0)) W)) := fun W => by have := Repeat_zero (2 * k) (by omega) W; simpa using this
  have KS : Hid (∀ N A c W, N ≤ W.heap.size → IsL W (fun b => N ≤ b) (priT p k (List.replicate (2 * k) 0)) A → (priT p k (List.replicate (2 * k) 0)).k ≤ c → Calls Try.prog 73 #[.int .i64 p.crc, itemV (priT p k (List.replicate (2 * k) 0)) A c] W (fun e w' => ∃ A c, e = .returned (itemV p.tree A c) ∧ Ext W w' ∧ IsL w' (fun b => N ≤ b) p.tree A ∧ p.tree.k ≤ c)) := fun N A c W h1 h2 h3 => by rw [hc]; exact psum_cap p hr k hc N A c W h1 h2 h3
  generalize List.replicate (2 * k) (0 : UInt8) = Z at *
  generalize priT p k Z = Y at *
  have k0 : (0 : Int) ≤ (k : Int) := by omega
  have k1 : (k : Int) ≤ 2 := by omega
  have HC := hid hc
  have HE := hid (((Mod.refl [] w).alloc (.cells p.c 68)).alloc (.cells #[.int .i64 0, .int .u64 0, .string ⟨#[]⟩, .slice none 0 0, .bool false] 38))
  have HB := hid ((Blk.new w 68 p.c).alloc (.cells #[.int .i64 0, .int .u64 0, .string ⟨#[]⟩, .slice none 0 0, .bool false] 38))
  have HR : Hid (Blk ((w.alloc (.cells p.c 68)).alloc (.cells #[.int .i64 0, .int .u64 0, .string ⟨#[]⟩, .slice none 0 0, .bool false] 38)) (w.heap.size + 1) 38 (itemC (numT 0) none 0)) := Blk.newL _ _ _ (by simp)
  clear hf hb hr hrs hc hk
  go_enter Try.func36, Try.ntmps36
  go_upto_region 1 with fail
  generalize (w.alloc (.cells p.c 68)).alloc (.cells #[.int .i64 0, .int .u64 0, .string ⟨#[]⟩, .slice none 0 0, .bool false] 38) = V at *
  have HBL : Hid (∀ e : Later V, Blk e.x w.heap.size 68 p.c) := fun e => HB.out.later e
  have HVS : Hid (w.heap.size + 2 ≤ V.heap.size) := Nat.succ_le_of_lt HR.out.lt
  obtain ⟨e, he⟩ := Later.self V
  rw [he]
  clear he
  go_upto_region 4 with (first | (refine wpList_row (by rfl) 68 _ rfl _ rfl (HBL.out _) Try.underlying68 rfl (by kernel_rfl) ?_) | (go_at_call 64; refine (Ret.later (KR.out _)).mono ?_; rintro x _ ⟨rfl, e, rfl⟩))
  have HS : Hid (∀ W, Mod [w.heap.size + 1] V W → W.cell? ⟨w.heap.size, 1, none⟩ = some (.int .i64 p.crc)) := fun W hW => (HB.out.mod hW (by simp)).cell 1
  have HRow : Hid (∀ W, Mod [w.heap.size + 1] V W → Blk W w.heap.size 68 p.c) := fun W hW => HB.out.mod hW (by simp)
  have g2 : max ((2 : Int) * (k : Int)) 0 = (2 * k : Int) := by omega
  refine wp_region_held_drew (S := fun w' => Mod [w.heap.size + 1] V w' ∧ ∃ t A c, Blk w' (w.heap.size + 1) 38 (itemC t A c)) (by kernel_rfl) ⟨((Later.h e).of_ext).drew, _, _, _, (HR.out.later e).drew⟩ (fun hHeld => ?_)
  refine' wpAnyH_take (i := 0) (v := _) rfl (by kernel_rfl) (by kernel_rfl) (by kernel_rfl) (fun _ _ _ h => h) (Or.inl ⟨by rfl, ?hy⟩) hHeld ?rest
  case hy => (rintro W ⟨hM, _⟩; go_simp; (try with_reducible rfl))
  case rest =>
  (try simp only [Act.put, List.setIfInBounds_toArray, List.set_cons_zero, List.set_cons_succ])
  refine' wpAnyH_take (i := 1) (v := _) rfl (by kernel_rfl) (by kernel_rfl) (by kernel_rfl) (fun _ _ _ h => h) (Or.inl ⟨by rfl, ?hy⟩) hHeld ?rest
  case hy => (rintro W ⟨hM, _⟩; have x1 := HS.out W hM; go_simp; (try with_reducible rfl))
  case rest =>
  (try simp only [Act.put, List.setIfInBounds_toArray, List.set_cons_zero, List.set_cons_succ])
  refine wpAnyH_take (i := 2) rfl (by kernel_rfl) (by kernel_rfl) (by kernel_rfl) (fun _ _ _ h => h) (yieldsIf_row (by rfl) 68 _ rfl _ rfl (fun W h => HRow.out W h.1) Try.underlying68 rfl (by kernel_rfl)) hHeld ?_
  (try simp only [Act.put, List.setIfInBounds_toArray, List.set_cons_zero, List.set_cons_succ])
  refine' wpAnyH_take (i := 3) (v := _) rfl (by kernel_rfl) (by kernel_rfl) (by kernel_rfl) (fun _ _ _ h => h) (Or.inl ⟨by rfl, ?hy⟩) hHeld ?rest
  case hy => (rintro W ⟨hM, _⟩; go_simp; (try with_reducible rfl))
  case rest =>
  (try simp only [Act.put, List.setIfInBounds_toArray, List.set_cons_zero, List.set_cons_succ])
  refine' wpAnyH_take (i := 4) (v := _) rfl (by kernel_rfl) (by kernel_rfl) (by kernel_rfl) (fun _ _ _ h => h) (Or.inl ⟨by rfl, ?hy⟩) hHeld ?rest
  case hy => (rintro W ⟨hM, _⟩; have x1 := HS.out W hM; go_simp; (try with_reducible rfl))
  case rest =>
  (try simp only [Act.put, List.setIfInBounds_toArray, List.set_cons_zero, List.set_cons_succ])
  refine wpAnyH_ready (rs := [5]) (by kernel_rfl) (by simp) ?_
  refine AllReadyH.cons rfl (fun K hK => ?_) AllReadyH.nil
  go_simp
  (go_at_call 76; refine (KZ.out _).mono ?_; rintro x w1 ⟨rfl, hb3⟩)
  refine hK.out _ _ ⟨hHeld.1.trans (Mod.of_ext hb3), let ⟨t, A, c, hb⟩ := hHeld.2; ⟨t, A, c, hb.ext hb3⟩⟩ (fun hHeld => ?_)
  clear hK K
  (try simp only [Act.put, List.setIfInBounds_toArray, List.set_cons_zero, List.set_cons_succ])
  refine' wpAnyH_take (i := 6) (v := _) rfl (by kernel_rfl) (by kernel_rfl) (by kernel_rfl) (fun _ _ _ h => h) (Or.inl ⟨by rfl, ?hy⟩) hHeld ?rest
  case hy => (rintro W ⟨hM, _⟩; go_simp; (try with_reducible rfl))
  case rest =>
  (try simp only [Act.put, List.setIfInBounds_toArray, List.set_cons_zero, List.set_cons_succ])
  refine wpAnyH_ready (rs := [7]) (by kernel_rfl) (by simp) ?_
  refine AllReadyH.cons rfl (fun K hK => ?_) AllReadyH.nil
  go_simp
  (go_at_call 71; refine (KT.out _).mono ?_; rintro x w2 ⟨rfl, hb3⟩)
  refine hK.out _ _ ⟨hHeld.1.trans (Mod.of_ext hb3), let ⟨t, A, c, hb⟩ := hHeld.2; ⟨t, A, c, hb.ext hb3⟩⟩ (fun hHeld => ?_)
  clear hK K
  (try simp only [Act.put, List.setIfInBounds_toArray, List.set_cons_zero, List.set_cons_succ])
  refine wpAnyH_ready (rs := [8]) (by kernel_rfl) (by simp) ?_
  refine AllReadyH.cons rfl (fun K hK => ?_) AllReadyH.nil
  go_simp
  (go_at_call 75; refine (KP.out _).mono ?_; rintro x w3 ⟨A, c, rfl, hb3, hl3, hc3⟩; have HL3 := hid hl3; have HC3 := hid hc3; clear hc3; have HN3 : Hid (w.heap.size + 2 ≤ w2.heap.size) := Nat.le_trans HVS.out hHeld.1.size)
  refine hK.out _ _ ⟨hHeld.1.trans (Mod.of_ext hb3), let ⟨t, A, c, hb⟩ := hHeld.2; ⟨t, A, c, hb.ext hb3⟩⟩ (fun hHeld => ?_)
  clear hK K
  (try simp only [Act.put, List.setIfInBounds_toArray, List.set_cons_zero, List.set_cons_succ])
  refine wpAnyH_ready (rs := [9]) (by kernel_rfl) (by simp) ?_
  refine AllReadyH.cons rfl (fun K hK => ?_) AllReadyH.nil
  go_simp
  (go_at_call 73; refine (KS.out (w.heap.size + 2) _ _ _ (Nat.le_trans HN3.out hb3.size) (IsL.weak (fun b _ hb => Nat.le_trans HN3.out hb) _ HL3.out) HC3.out).mono ?_; rintro x w4 ⟨A2, c2, rfl, hb4, hl4, hc4⟩; have HL4 := hid hl4; have HC4 := hid hc4; clear hc4)
  refine hK.out _ _ ⟨hHeld.1.trans (Mod.of_ext hb4), let ⟨t, A, c, hb⟩ := hHeld.2; ⟨t, A, c, hb.ext hb4⟩⟩ (fun hHeld => ?_)
  clear hK K
  (try simp only [Act.put, List.setIfInBounds_toArray, List.set_cons_zero, List.set_cons_succ])
  refine wpAnyH_ready (rs := [10]) (by kernel_rfl) (by simp) ?_
  refine AllReadyH.cons rfl (fun K hK => ?_) AllReadyH.nil
  obtain ⟨t0, A0, c0, hb0⟩ := hHeld.2
  obtain ⟨q0, q1, q2, q3, q4⟩ := cells5 hb0
  have f0 := hb0.frozen 0
  have f1 := hb0.frozen 1
  have f2 := hb0.frozen 2
  have f3 := hb0.frozen 3
  have f4 := hb0.frozen 4
  go_simp
  refine hK.out _ _ ⟨set5_modR hHeld.1, p.tree, A2, c2, set5_blk hb0⟩ (fun hHeld => ?_)
  clear hK K
  (try simp only [Act.put, List.setIfInBounds_toArray, List.set_cons_zero, List.set_cons_succ])
  refine wpAnyH_ready (rs := [11]) (by kernel_rfl) (by simp) ?_
  refine AllReadyH.cons rfl (fun K hK => ?_) AllReadyH.nil
  go_simp
  refine hK.out _ _ hHeld (fun hHeld => ?_)
  clear hK K
  (try simp only [Act.put, List.setIfInBounds_toArray, List.set_cons_zero, List.set_cons_succ])
  refine wpAnyH_done (by kernel_rfl) ?_ _
  go_wp2_with fail
  obtain ⟨d0, d1, d2, d3, d4⟩ := cells5 (set5_blk (t := p.tree) (A := A2) (c := c2) hb0)
  clear q0 q1 q2 q3 q4 f0 f1 f2 f3 f4
  show bodyPost _ _ _ _ _ (set5 w4 (w.heap.size + 1) p.tree A2 c2)
  refine bodyPost_ret (v := .tuple #[itemV p.tree A2 c2, .int .i64 0]) (by simp [results, Try.results36, go_sem, d0, d1, d2, d3, d4]) rfl ⟨A2, c2, rfl, (HE.out.of_ext.trans hHeld.1).new (fun b hb => .inr (by rw [List.mem_singleton] at hb; omega)), ?_, HC4.out⟩
  exact IsL.weak (fun _ _ h => by have : w.heap.size + 2 ≤ _ := h; omega) _ (IsL.mod (Q := fun b => w.heap.size + 2 ≤ b) set5_modb (fun b hb _ hs => by rw [List.mem_singleton] at hs; have : w.heap.size + 2 ≤ b := hb; omega) _ HL4.out)
theorem cPriItem_ok (p : PV) (hnl : Hid (p.d.name.length < 4611686018427387904 ∧ p.s.name.length < 4611686018427387904 ∧ p.r.name.length < 4611686018427387904)) (hf : p.fl < 18446744073709551616) (hb : p.right = 0) (w : World) : Calls Try.prog 36 #[.agg p.c] w (fun e w' => ∃ A c, e = .returned (.tuple #[itemV p.tree A c, .int .i64 0]) ∧ Ext w w' ∧ IsL w' (fun b => w.heap.size ≤ b) p.tree A) := (cPriItem_cap p hnl hf hb w).mono fun _ _ ⟨A, c, h1, h2, h3, _⟩ => ⟨A, c, h1, h2, h3⟩
set_option maxRecDepth 20000 in
theorem cPriBuild_bad (p : PV) (hnl : Hid (p.d.name.length < 4611686018427387904 ∧ p.s.name.length < 4611686018427387904 ∧ p.r.name.length < 4611686018427387904)) (hf : p.fl < 18446744073709551616) (hb : p.right ≠ 0) (w : World) : Calls Try.prog 33 #[.agg p.c] w (Ret (.tuple #[str [], .int .i64 p.right]) w) := by
  have KI := hid (fun W => cPriItem_bad p hnl hf hb W)
  generalize p.right = r at *
  have r1 : (r == 0) = false := by simpa using hb
  have r2 : (r = 0) = False := by simpa using hb
  have r3 : (r != 0) = true := by simpa using hb
  have HE := hid ((Mod.refl [] w).alloc (.cells p.c 68))
  have HB := hid (Blk.new w 68 p.c)
  clear hb hf
  go_enter Try.func33, Try.ntmps33
  go_upto_region 1 with fail
  generalize w.alloc (.cells p.c 68) = V at *
  have HBL : Hid (∀ e : Later V, Blk e.x w.heap.size 68 p.c) := fun e => HB.out.later e
  obtain ⟨e, he⟩ := Later.self V
  rw [he]
  clear he
  go_wp2_with (first | (refine wpList_row (by rfl) 68 _ rfl _ rfl (HBL.out _) Try.underlying68 rfl (by kernel_rfl) ?_) | (go_at_call 36; refine (Ret.later (KI.out _)).mono ?_; rintro x _ ⟨rfl, e, rfl⟩))
  go_ret2
  exact Ret.mk rfl (HE.out.trans ((Later.h e).alloc _))
set_option maxRecDepth 20000 in
theorem cPriBuild_ok (p : PV) (hnl : Hid (p.d.name.length < 4611686018427387904 ∧ p.s.name.length < 4611686018427387904 ∧ p.r.name.length < 4611686018427387904)) (hf : p.fl < 18446744073709551616) (hb : p.right = 0) (w : World) : Calls Try.prog 33 #[.agg p.c] w (Ret (.tuple #[str p.bytes, .int .i64 0]) w) := by
  have KI := hid (fun W => cPriItem_ok p hnl hf hb W)
  obtain ⟨t1, t2, t3, t4⟩ := PV.tree_all (PV.right_ranged hb)
  have KB : Hid (∀ A c W, IsL W (fun _ => True) p.tree A → Calls Try.prog 51 #[itemV p.tree A c] W (Ret (.tuple #[str p.bytes, .int .i64 0]) W)) := fun A c W hW => by
    have := iBuild_any p.tree t1 (by omega) A c W hW
    unfold buildV at this
    rwa [if_pos (t2 8 (by omega)), t4] at this
  generalize p.tree = Y at *
  generalize p.bytes = B at *
  have HE := hid ((Mod.refl [] w).alloc (.cells p.c 68))
  have HB := hid (Blk.new w 68 p.c)
  clear hb hf t1 t2 t3 t4
  go_enter Try.func33, Try.ntmps33
  go_upto_region 1 with fail
  generalize w.alloc (.cells p.c 68) = V at *
  have HBL : Hid (∀ e : Later V, Blk e.x w.heap.size 68 p.c) := fun e => HB.out.later e
  obtain ⟨e, he⟩ := Later.self V
  rw [he]
  clear he
  go_upto_region 2 with (first | (refine wpList_row (by rfl) 68 _ rfl _ rfl (HBL.out _) Try.underlying68 rfl (by kernel_rfl) ?_) | (go_at_call 36; refine (KI.out _).mono ?_; rintro x w1 ⟨A, c, rfl, hb1, hl1⟩))
  have HL1 := hid (IsL.ext (IsL.weak (R := fun _ => True) (fun _ _ _ => trivial) _ hl1) ((Mod.refl [] w1).alloc (.cells (itemC Y A c) 38)))
  have HX1 := hid (Blk.new w1 38 (itemC Y A c))
  have HE1 := hid ((HE.out.trans (e.h.trans hb1)).alloc (.cells (itemC Y A c) 38))
  obtain ⟨q0, q1, q2, q3, q4⟩ := cells5 HX1.out
  clear hb1 hl1
  go_wp2_with (go_at_call 51; refine (KB.out _ _ _ HL1.out).mono ?_; rintro x w2 ⟨rfl, hb2⟩)
  go_ret2
  exact Ret.mk rfl (HE1.out.trans hb2)
def PV.plain (p : PV) : PV := { p with crc := 0 }
theorem PV.plain_right {p : PV} (h : p.right = 0) : p.plain.right = 0 := by
  have hr := PV.right_ranged h
  have hr2 : p.plain.ranged = true := by
    have := PV.ranged_spec hr
    unfold PV.plain PV.ranged
    rw [this.1, this.2.1, this.2.2.1]
    simp; omega
  unfold PV.right at h ⊢
  rw [if_neg (by rw [hr]; decide)] at h
  rw [if_neg (by rw [hr2]; decide)]
  exact h
set_option maxRecDepth 20000 in
theorem cPriPlain_bad (p : PV) (hnl : Hid (p.d.name.length < 4611686018427387904 ∧ p.s.name.length < 4611686018427387904 ∧ p.r.name.length < 4611686018427387904)) (hf : p.fl < 18446744073709551616) (hb : p.right ≠ 0) (w : World) : Calls Try.prog 37 #[.agg p.c] w (Ret (.tuple #[str [], .int .i64 p.right]) w) := by
  have KR := hid (fun W => cPriRight_any p hnl hf W)
  generalize p.right = r at *
  have r1 : (r == 0) = false := by simpa using hb
  have r2 : (r = 0) = False := by simpa using hb
  have r3 : (r != 0) = true := by simpa using hb
  have HE := hid ((Mod.refl [] w).alloc (.cells p.c 68))
  have HB := hid (Blk.new w 68 p.c)
  clear hb hf
  go_enter Try.func37, Try.ntmps37
  go_upto_region 1 with fail
  generalize w.alloc (.cells p.c 68) = V at *
  have HBL : Hid (∀ e : Later V, Blk e.x w.heap.size 68 p.c) := fun e => HB.out.later e
  obtain ⟨e, he⟩ := Later.self V
  rw [he]
  clear he
  go_wp2_with (first | (refine wpList_row (by rfl) 68 _ rfl _ rfl (HBL.out _) Try.underlying68 rfl (by kernel_rfl) ?_) | (go_at_call 64; refine (Ret.later (KR.out _)).mono ?_; rintro x _ ⟨rfl, e, rfl⟩))
  go_ret2
  exact Ret.mk rfl (HE.out.trans e.h)
set_option maxRecDepth 20000 in
theorem cPriPlain_ok (p : PV) (hnl : Hid (p.d.name.length < 4611686018427387904 ∧ p.s.name.length < 4611686018427387904 ∧ p.r.name.length < 4611686018427387904)) (hf : p.fl < 18446744073709551616) (hb : p.right = 0) (w : World) : Calls Try.prog 37 #[.agg p.c] w (Ret (.tuple #[str p.plain.bytes, .int .i64 0]) w) := by
  have KR := hid (fun W => cPriRight_any p hnl hf W)
  have KB := hid (fun W => cPriBuild_ok p.plain hnl hf (PV.plain_right hb) W)
  rw [hb] at KR
  generalize p.plain.bytes = B at *
  have HE := hid ((Mod.refl [] w).alloc (.cells p.c 68))
  have HB := hid (Blk.new w 68 p.c)
  clear hb hf
  go_enter Try.func37, Try.ntmps37
  go_upto_region 1 with fail
  generalize w.alloc (.cells p.c 68) = V at *
  have HBL : Hid (∀ e : Later V, Blk e.x w.heap.size 68 p.c) := fun e => HB.out.later e
  have x1 : ∀ e : Later V, e.x.cell? ⟨w.heap.size, 1, none⟩ = some (.int .i64 p.crc) := HB.out.cellL 1 rfl
  have z1 : ∀ e : Later V, e.x.frozen? ⟨w.heap.size, 1, none⟩ = false := fun e => (HB.out.later e).frozen 1
  obtain ⟨e, he⟩ := Later.self V
  rw [he]
  clear he
  go_upto_region 5 with (first | (refine wpList_row (by rfl) 68 _ rfl _ rfl (HBL.out _) Try.underlying68 rfl (by kernel_rfl) ?_) | (go_at_call 64; refine (Ret.later (KR.out _)).mono ?_; rintro x _ ⟨rfl, e, rfl⟩))
  have HE2 : Hid (Ext w (e.x.setCell ⟨w.heap.size, 1, none⟩ (.int .i64 0))) := (HE.out.trans e.h).setCell (.inr (Nat.le_refl _)) _
  have HX2 : Hid (Blk (e.x.setCell ⟨w.heap.size, 1, none⟩ (.int .i64 0)) w.heap.size 68 p.plain.c) := (HB.out.later e).set_ 1 (.int .i64 0)
  generalize e.x.setCell ⟨w.heap.size, 1, none⟩ (.int .i64 0) = V2 at *
  go_wp2_with (first | (refine wpList_row (by rfl) 68 _ rfl _ rfl HX2.out Try.underlying68 rfl (by kernel_rfl) ?_) | (go_at_call 33; refine (KB.out _).mono ?_; rintro x w2 ⟨rfl, hb2⟩))
  go_ret2
  exact Ret.mk rfl (HE2.out.trans hb2)
end Go.Proofs.Ytogjghmoankleaa
