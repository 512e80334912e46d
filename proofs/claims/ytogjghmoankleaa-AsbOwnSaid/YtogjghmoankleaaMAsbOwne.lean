/-
  Security texts: a target's results; what is left without it.
-/
import Derived.Test.YtogjghmoankleaaMAsbOwnd

namespace Go.Proofs.Ytogjghmoankleaa
open Go.RowKit
set_option linter.unusedVariables false
set_option linter.unusedSimpArgs false

theorem infoPairs : (Try.prog.info? 22).map (fun i => (i.zero, i.size, i.bytes)) = some (some (.slice none 0 0), 1, 24) := by kernel_rfl
/-- No list is too long, and no value too great, to be copied. -/
def PL.fits (p : PL) : Prop := p.k ≤ 100000 ∧ ∀ i, i < p.k → (p.a i).t.size ≤ 100000
def AV.fits (a : AV) : Prop := a.tk ≤ 100000 ∧ a.ps.fits ∧ a.rk ≤ 100000 ∧ ∀ i, i < a.rk → (a.rs i).fits
def atT (a : AV) (t : Int) : Option Nat := firstOf (isN a.tg t) a.tk
theorem clone_fits {p : PL} (hw : p.wf) (hf : p.fits) (A : Option Addr) (c : Nat) (w : World) (h : PsL w anyQ A p) : Calls Try.prog 42 #[.slice A p.k c] w (fun e w' => ∃ A' c', e = .returned (.slice A' p.k c') ∧ Ext w w' ∧ PsL w' (fun b => w.heap.size ≤ b) A' p ∧ p.k ≤ c' ∧ softA w' (fun b => w.heap.size ≤ b) A') :=
  clone_any p hf.1 (fun i hi => (hw.2 i hi).1) hf.2 A c w h
theorem firstI_some {p : Nat → Bool} {k i : Nat} (h : firstOf p k = some i) : firstI p k = (i : Int) := by unfold firstI; rw [h]
theorem firstI_none {p : Nat → Bool} {k : Nat} (h : firstOf p k = none) : firstI p k = -1 := by unfold firstI; rw [h]
def ResPost (a : AV) (t : Int) (w : World) (e : Ending) (w' : World) : Prop :=
  Ext w w' ∧ match atT a t with
  | none => e = .returned (.tuple #[.slice none 0 0, .bool false])
  | some i => if i < a.rk then ∃ A' c', e = .returned (.tuple #[.slice A' (a.rs i).k c', .bool true]) ∧ PsL w' (fun b => w.heap.size ≤ b) A' (a.rs i) ∧ (a.rs i).k ≤ c' ∧ softA w' (fun b => w.heap.size ≤ b) A' else e = .returned (.tuple #[.slice none 0 0, .bool true])
set_option maxRecDepth 20000 in
set_option maxHeartbeats 4000000 in
theorem Result_any (a : AV) (hw : a.wf) (hf : a.fits) (t : Int) (m : AA) (w : World) (h : AsL w anyQ a m) : Calls Try.prog 15 #[asbV a m, .int .i64 t] w (ResPost a t w) := by
  have HW := hid hw
  have HF := hid hf
  have tk0 : (a.tk : Int) ≤ 100000 := by have := hf.1; omega
  have rk0 : (a.rk : Int) ≤ 100000 := by have := hf.2.2.1; omega
  have HE := hid ((Mod.refl [] w).alloc (.cells (asbC a m) 29))
  have HB0 := hid (Blk.new w 29 (asbC a m))
  have HL := hid (h.ext HE.out)
  have HP : Hid (∀ e w', ResPost a t w e w' = (Ext w w' ∧ match atT a t with
    | none => e = .returned (.tuple #[.slice none 0 0, .bool false])
    | some i => if i < a.rk then ∃ A' c', e = .returned (.tuple #[.slice A' (a.rs i).k c', .bool true]) ∧ PsL w' (fun b => w.heap.size ≤ b) A' (a.rs i) ∧ (a.rs i).k ≤ c' ∧ softA w' (fun b => w.heap.size ≤ b) A' else e = .returned (.tuple #[.slice none 0 0, .bool true]))) := fun _ _ => rfl
  clear hw hf h
  go_enter Try.func15, Try.ntmps15
  go_upto_region 1 with fail
  generalize w.alloc (.cells (asbC a m) 29) = V at *
  have b0 : ∀ e : Later V, e.x.cell? ⟨w.heap.size, 0, none⟩ = some (.slice m.t a.tk m.tc) := HB0.out.cellL 0 rfl
  have b7 : ∀ e : Later V, e.x.cell? ⟨w.heap.size, 7, none⟩ = some (.slice m.r a.rk m.rc) := HB0.out.cellL 7 rfl
  have KI := hid (fun e : Later V => IndexN_any m.t a.tg a.tk m.tc t HW.out.1.1 e.x (HL.out.t.ext e.h))
  obtain ⟨e, he⟩ := Later.self V
  rw [he]
  clear he
  cases hx : atT a t with
  | none =>
    have HX := hid (firstI_none hx)
    rw [HX.out] at KI
    have HQ : Hid (∀ w', Ext w w' → ResPost a t w (.returned (.tuple #[.slice none 0 0, .bool false])) w') := hid (fun w' h => by rw [HP.out, hx]; exact ⟨h, rfl⟩)
    clear hx HP
    go_wp2_with (first | (go_at_call 41; refine (Ret.later (KI.out _)).mono ?_; rintro x _ ⟨rfl, e, rfl⟩))
    refine bodyPost_ret (v := .tuple #[.slice none 0 0, .bool false]) (by simp [results, Try.results15, go_sem]) rfl (HQ.out _ (HE.out.trans e.h))
  | some i =>
    have HX := hid (firstI_some hx)
    rw [HX.out] at KI
    have i0 : (0 : Int) ≤ (i : Int) := by omega
    by_cases hir : i < a.rk
    · obtain ⟨b, o, Ai, ci, hmr, hb, q0, hkc, hPi⟩ := HL.out.r.at (Mod.refl [] V) hir
      rw [hmr] at b7
      have q0 : ∀ e : Later V, e.x.cell? ⟨b, o + i, none⟩ = some (.slice Ai (a.rs i).k ci) := fun e => cellL q0 e
      have KC := hid (fun e : Later V => clone_fits (HW.out.2.2.2.2.2 i hir) (HF.out.2.2.2 i hir) Ai ci e.x (hPi.ext e.h))
      have HQ : Hid (∀ w' A' c', Ext w w' → PsL w' (fun b => w.heap.size ≤ b) A' (a.rs i) → (a.rs i).k ≤ c' → softA w' (fun b => w.heap.size ≤ b) A' → ResPost a t w (.returned (.tuple #[.slice A' (a.rs i).k c', .bool true])) w') := hid (fun w' A' c' h h1 h2 h3 => by rw [HP.out, hx]; refine ⟨h, ?_⟩; dsimp only; rw [if_pos hir]; exact ⟨A', c', rfl, h1, h2, h3⟩)
      have iaa : decide (a.rk ≤ i) = false := decide_eq_false (by omega)
      have iab : (a.rk ≤ i) = False := eq_false (by omega)
      have iba : decide ((a.rk : Int) ≤ (i : Int)) = false := decide_eq_false (by omega)
      have ibb : ((a.rk : Int) ≤ (i : Int)) = False := eq_false (by omega)
      have ica : decide ((i : Int) < (a.rk : Int)) = true := decide_eq_true (by omega)
      have icb : ((i : Int) < (a.rk : Int)) = True := eq_true (by omega)
      clear hx HP hPi hkc hb hir
      go_wp2_with (first | (go_at_call 41; refine (Ret.later (KI.out _)).mono ?_; rintro x _ ⟨rfl, e, rfl⟩) | (go_at_call 42; refine (KC.out _).mono ?_; rintro x w5 ⟨A5, c5, rfl, hb5, hp5, hc5, hs5⟩; have H5 := hid (e.h.trans hb5); have HS5 := hid (hs5.weak (R := fun b => w.heap.size ≤ b) (fun b _ hb => by have := e.h.size; have := HE.out.size; have hb : e.x.heap.size ≤ b := hb; omega)); have HP5 := hid (hp5.weak (R := fun b => w.heap.size ≤ b) (fun b _ hb => by have := e.h.size; have := HE.out.size; have hb : e.x.heap.size ≤ b := hb; omega)); have HC5 := hid hc5; clear hb5 hp5 hc5 hs5))
      refine bodyPost_ret (v := .tuple #[.slice A5 (a.rs i).k c5, .bool true]) (by simp [results, Try.results15, go_sem]) rfl (HQ.out _ _ _ (HE.out.trans H5.out) HP5.out HC5.out HS5.out)
    · have HQ : Hid (∀ w', Ext w w' → ResPost a t w (.returned (.tuple #[.slice none 0 0, .bool true])) w') := hid (fun w' h => by rw [HP.out, hx]; refine ⟨h, ?_⟩; dsimp only; rw [if_neg hir])
      have iaa : decide (a.rk ≤ i) = true := decide_eq_true (by omega)
      have iab : (a.rk ≤ i) = True := eq_true (by omega)
      have iba : decide ((a.rk : Int) ≤ (i : Int)) = true := decide_eq_true (by omega)
      have ibb : ((a.rk : Int) ≤ (i : Int)) = True := eq_true (by omega)
      clear hx HP hir
      go_wp2_with (first | (go_at_call 41; refine (Ret.later (KI.out _)).mono ?_; rintro x _ ⟨rfl, e, rfl⟩))
      refine bodyPost_ret (v := .tuple #[.slice none 0 0, .bool true]) (by simp [results, Try.results15, go_sem]) rfl (HQ.out _ (HE.out.trans e.h))
/-- How many of the first j are left without i. -/
def cntW (i j : Nat) : Nat := if j ≤ i then j else j - 1
def woP (f : Nat → PL) (i j : Nat) : PL := if j < i then f j else f (j + 1)
/-- A text without its target at i. -/
def AV.wo (a : AV) (i : Nat) : AV := ⟨a.tk - 1, delN a.tg i, a.ctx, a.src, a.ps, cntW i a.rk, woP a.rs i⟩
def zeroA : AV := ⟨0, fun _ => 0, 0, ⟨0, [], 0, 0⟩, ⟨0, fun _ => ⟨0, T.nil⟩⟩, 0, fun _ => ⟨0, fun _ => ⟨0, T.nil⟩⟩⟩
def zeroM : AA := ⟨none, 0, none, 0, none, 0⟩
def WoPost (a : AV) (t : Int) (w : World) (e : Ending) (w' : World) : Prop :=
  Ext w w' ∧ match atT a t with
  | none => e = .returned (.tuple #[asbV zeroA zeroM, .bool false])
  | some i => ∃ m', e = .returned (.tuple #[asbV (a.wo i) m', .bool true]) ∧ AsL w' (fun b => w.heap.size ≤ b) (a.wo i) m'
set_option maxRecDepth 20000 in
set_option maxHeartbeats 16000000 in
theorem Without_none (a : AV) (hw : a.wf) (t : Int) (hx : atT a t = none) (m : AA) (w : World) (h : AsL w anyQ a m) : Calls Try.prog 16 #[asbV a m, .int .i64 t] w (Ret (.tuple #[asbV zeroA zeroM, .bool false]) w) := by
  have HE := hid (((Mod.refl [] w).alloc (.cells (asbC a m) 29)).alloc (.cells #[.slice none 0 0, .int .i64 0, .int .i64 0, .string ⟨#[]⟩, .int .u64 0, .int .u64 0, .slice none 0 0, .slice none 0 0] 29))
  have HB0 := hid ((Blk.new w 29 (asbC a m)).alloc (.cells #[.slice none 0 0, .int .i64 0, .int .i64 0, .string ⟨#[]⟩, .int .u64 0, .int .u64 0, .slice none 0 0, .slice none 0 0] 29))
  have HB1 : Hid (Blk ((w.alloc (.cells (asbC a m) 29)).alloc (.cells #[.slice none 0 0, .int .i64 0, .int .i64 0, .string ⟨#[]⟩, .int .u64 0, .int .u64 0, .slice none 0 0, .slice none 0 0] 29)) (w.heap.size + 1) 29 #[.slice none 0 0, .int .i64 0, .int .i64 0, .string ⟨#[]⟩, .int .u64 0, .int .u64 0, .slice none 0 0, .slice none 0 0]) := Blk.newL _ _ _ (by simp)
  have HL := hid (h.ext HE.out)
  have tk0 : (a.tk : Int) < 4611686018427387904 := by have := hw.1.1; omega
  have HTK := hid hw.1.1
  clear hw h
  go_enter Try.func16, Try.ntmps16
  go_upto_region 1 with fail
  show Code.wp _ _ _ _ ((w.alloc (.cells (asbC a m) 29)).alloc (.cells #[.slice none 0 0, .int .i64 0, .int .i64 0, .string ⟨#[]⟩, .int .u64 0, .int .u64 0, .slice none 0 0, .slice none 0 0] 29))
  generalize (w.alloc (.cells (asbC a m) 29)).alloc (.cells #[.slice none 0 0, .int .i64 0, .int .i64 0, .string ⟨#[]⟩, .int .u64 0, .int .u64 0, .slice none 0 0, .slice none 0 0] 29) = V at *
  have b0 : ∀ e : Later V, e.x.cell? ⟨w.heap.size, 0, none⟩ = some (.slice m.t a.tk m.tc) := HB0.out.cellL 0 rfl
  have KI := hid (fun e : Later V => IndexN_any m.t a.tg a.tk m.tc t HTK.out e.x (HL.out.t.ext e.h))
  have HX := hid (firstI_none hx)
  rw [HX.out] at KI
  clear hx
  obtain ⟨e, he⟩ := Later.self V
  rw [he]
  clear he
  have tk1 : True := trivial
  go_wp2_with (first | (go_at_call 41; refine (Ret.later (KI.out _)).mono ?_; rintro x _ ⟨rfl, e, rfl⟩) | (clear tk1; refine wpList_store_mid rfl 29 _ _ rfl (w.heap.size + 1) 0 #[.slice none 0 0, .int .i64 0, .int .i64 0, .string ⟨#[]⟩, .int .u64 0, .int .u64 0, .slice none 0 0, .slice none 0 0] (by rfl) (by rfl) ((HB1.out.later e).there (Nat.le_refl 8)) (by kernel_rfl) (by simp [Value.oneCell']) ?_))
  have hY := setCells_all (ds := #[.slice none 0 0, .int .i64 0, .int .i64 0, .string ⟨#[]⟩, .int .u64 0, .int .u64 0, .slice none 0 0, .slice none 0 0]) (HB1.out.later e) rfl
  have hM2 := setCells_mod (b := w.heap.size + 1) (#[.slice none 0 0, .int .i64 0, .int .i64 0, .string ⟨#[]⟩, .int .u64 0, .int .u64 0, .slice none 0 0, .slice none 0 0] : Array Value).toList 0 (HE.out.trans e.h) (.inr (by omega))
  generalize hZ2 : World.setCells e.x _ 0 _ = Z2 at *
  refine bodyPost_ret (results_cell2 rfl _ (by rfl) (by rfl) hY Try.underlying29 rfl (by kernel_rfl)) rfl ?_
  exact Ret.mk (by first | rfl | simp) hM2
set_option maxRecDepth 20000 in
set_option maxHeartbeats 64000000 in
theorem Without_some (a : AV) (hw : a.wf) (hf : a.fits) (t : Int) (i : Nat) (hx : atT a t = some i) (m : AA) (w : World) (h : AsL w anyQ a m) : Calls Try.prog 16 #[asbV a m, .int .i64 t] w (fun e w' => Ext w w' ∧ ∃ m', e = .returned (.tuple #[asbV (a.wo i) m', .bool true]) ∧ AsL w' (fun b => w.heap.size ≤ b) (a.wo i) m' ∧ ∃ Z0, w.heap.size ≤ Z0 ∧ softA w' (fun b => w.heap.size ≤ b ∧ b < Z0) m'.t ∧ softA w' (fun b => w.heap.size ≤ b ∧ b < Z0) m'.p ∧ RsS w' (fun b => Z0 ≤ b) m'.r (a.wo i).rk (a.wo i).rs) := by
  obtain ⟨mt, mtc, mp, mpc, mr, mrc⟩ := m
  obtain ⟨hi, _, _⟩ := firstOf_spec hx
  obtain ⟨bt, ot, hmt, hbt, hct⟩ := h.t (by omega)
  have hmt : mt = some ⟨bt, ot, none⟩ := hmt
  subst hmt
  by_cases hrk : a.rk = 0
  case pos =>
    have HW := hid hw
    have HF := hid hf
    have tk0 : (a.tk : Int) ≤ 100000 := by have := hf.1; omega
    have rk0 : (a.rk : Int) ≤ 100000 := by have := hf.2.2.1; omega
    have HE := hid (((Mod.refl [] w).alloc (.cells (asbC a ⟨some ⟨bt, ot, none⟩, mtc, mp, mpc, mr, mrc⟩) 29)).alloc (.cells #[.slice none 0 0, .int .i64 0, .int .i64 0, .string ⟨#[]⟩, .int .u64 0, .int .u64 0, .slice none 0 0, .slice none 0 0] 29))
    have HB0 := hid ((Blk.new w 29 (asbC a ⟨some ⟨bt, ot, none⟩, mtc, mp, mpc, mr, mrc⟩)).alloc (.cells #[.slice none 0 0, .int .i64 0, .int .i64 0, .string ⟨#[]⟩, .int .u64 0, .int .u64 0, .slice none 0 0, .slice none 0 0] 29))
    have HB1 : Hid (Blk ((w.alloc (.cells (asbC a ⟨some ⟨bt, ot, none⟩, mtc, mp, mpc, mr, mrc⟩) 29)).alloc (.cells #[.slice none 0 0, .int .i64 0, .int .i64 0, .string ⟨#[]⟩, .int .u64 0, .int .u64 0, .slice none 0 0, .slice none 0 0] 29)) (w.heap.size + 1) 29 #[.slice none 0 0, .int .i64 0, .int .i64 0, .string ⟨#[]⟩, .int .u64 0, .int .u64 0, .slice none 0 0, .slice none 0 0]) := Blk.newL _ _ _ (by simp)
    have HL := hid (h.ext HE.out)
    have HX := hid (firstI_some hx)
    have HI := hid hi
    have HK0 : Hid (0 < a.tk ∧ a.tk ≤ 100000) := hid ⟨by omega, hf.1⟩
    have i0 : (0 : Int) ≤ (i : Int) := by omega
    have i9 : (i : Int) ≤ 100000 := by have := hf.1; omega
    have hw1 : IntKind.i64.wrap ((i : Int) + 1) = (i : Int) + 1 := IntWalk.i64_in _ (by omega)
    clear hw hf h hbt hct hx hi
    go_enter Try.func16, Try.ntmps16
    go_upto_region 1 with fail
    show Code.wp _ _ _ _ ((w.alloc (.cells (asbC a ⟨some ⟨bt, ot, none⟩, mtc, mp, mpc, mr, mrc⟩) 29)).alloc (.cells #[.slice none 0 0, .int .i64 0, .int .i64 0, .string ⟨#[]⟩, .int .u64 0, .int .u64 0, .slice none 0 0, .slice none 0 0] 29))
    have HVS : Hid (w.heap.size + 2 = ((w.alloc (.cells (asbC a ⟨some ⟨bt, ot, none⟩, mtc, mp, mpc, mr, mrc⟩) 29)).alloc (.cells #[.slice none 0 0, .int .i64 0, .int .i64 0, .string ⟨#[]⟩, .int .u64 0, .int .u64 0, .slice none 0 0, .slice none 0 0] 29)).heap.size) := hid (by simp)
    generalize ((w.alloc (.cells (asbC a ⟨some ⟨bt, ot, none⟩, mtc, mp, mpc, mr, mrc⟩) 29)).alloc (.cells #[.slice none 0 0, .int .i64 0, .int .i64 0, .string ⟨#[]⟩, .int .u64 0, .int .u64 0, .slice none 0 0, .slice none 0 0] 29)) = V at *
    have b0 : ∀ e : Later V, e.x.cell? ⟨w.heap.size, 0, none⟩ = some (.slice (some ⟨bt, ot, none⟩) a.tk mtc) := HB0.out.cellL 0 rfl
    have b1 : ∀ e : Later V, e.x.cell? ⟨w.heap.size, 1, none⟩ = some (.int .i64 a.ctx) := HB0.out.cellL 1 rfl
    have b6 : ∀ e : Later V, e.x.cell? ⟨w.heap.size, 6, none⟩ = some (.slice mp a.ps.k mpc) := HB0.out.cellL 6 rfl
    have b7 : ∀ e : Later V, e.x.cell? ⟨w.heap.size, 7, none⟩ = some (.slice mr a.rk mrc) := HB0.out.cellL 7 rfl
    have HRE : Hid (∀ e : Later V, e.x.rangeAt w.heap.size 2 [.int .i64 a.src.sch, str a.src.name, .int .u64 (a.src.node : Int), .int .u64 (a.src.svc : Int)]) := HB0.out.range 2 4 (by rfl)
    have KI := hid (fun e : Later V => IndexN_any (some ⟨bt, ot, none⟩) a.tg a.tk mtc t HW.out.1.1 e.x (HL.out.t.ext e.h))
    rw [HX.out] at KI
    obtain ⟨e, he⟩ := Later.self V
    rw [he]
    clear he
    go_upto_region 4 with (first | (go_at_call 41; refine (Ret.later (KI.out _)).mono ?_; rintro x _ ⟨rfl, e, rfl⟩))
    have HNT := hid HL.out.t
    have HPA := hid HL.out.p
    refine wp_region_held_drew (S := fun w' => Ext V w') (by kernel_rfl) e.h.drew (fun hHeld => ?_)
    generalize e.x.drew = x0 at *
    refine' wpAnyH_take (i := 0) (v := _) rfl (by kernel_rfl) (by kernel_rfl) (by kernel_rfl) (fun _ _ _ h => h) (Or.inl ⟨by rfl, ?hy35⟩) hHeld ?rest35
    case hy35 => (rintro W hM; go_simp; (try with_reducible rfl))
    case rest35 =>
    (try simp only [Act.put, List.getElem_toArray, List.getElem_cons_zero, List.getElem_cons_succ, List.setIfInBounds_toArray, List.set_cons_zero, List.set_cons_succ])
    refine' wpAnyH_take (i := 1) (v := _) rfl (by kernel_rfl) (by kernel_rfl) (by kernel_rfl) (fun _ _ _ h => h) (Or.inl ⟨by rfl, ?hy36⟩) hHeld ?rest36
    case hy36 => (rintro W hM; have q := b0 ⟨W, hM⟩; dsimp only at q; go_simp; (try with_reducible rfl))
    case rest36 =>
    (try simp only [Act.put, List.getElem_toArray, List.getElem_cons_zero, List.getElem_cons_succ, List.setIfInBounds_toArray, List.set_cons_zero, List.set_cons_succ])
    refine' wpAnyH_take (i := 3) (v := _) rfl (by kernel_rfl) (by kernel_rfl) (by kernel_rfl) (fun _ _ _ h => h) (Or.inl ⟨by rfl, ?hy37⟩) hHeld ?rest37
    case hy37 => (rintro W hM; go_simp; (try with_reducible rfl))
    case rest37 =>
    (try simp only [Act.put, List.getElem_toArray, List.getElem_cons_zero, List.getElem_cons_succ, List.setIfInBounds_toArray, List.set_cons_zero, List.set_cons_succ])
    refine' wpAnyH_take (i := 4) (v := _) rfl (by kernel_rfl) (by kernel_rfl) (by kernel_rfl) (fun _ _ _ h => h) (Or.inl ⟨by rfl, ?hy38⟩) hHeld ?rest38
    case hy38 => (rintro W hM; go_simp; (try with_reducible rfl))
    case rest38 =>
    (try simp only [Act.put, List.getElem_toArray, List.getElem_cons_zero, List.getElem_cons_succ, List.setIfInBounds_toArray, List.set_cons_zero, List.set_cons_succ])
    refine' wpAnyH_take (i := 5) (v := _) rfl (by kernel_rfl) (by kernel_rfl) (by kernel_rfl) (fun _ _ _ h => h) (Or.inl ⟨by rfl, ?hy39⟩) hHeld ?rest39
    case hy39 => (rintro W hM; go_simp; (try with_reducible rfl))
    case rest39 =>
    (try simp only [Act.put, List.getElem_toArray, List.getElem_cons_zero, List.getElem_cons_succ, List.setIfInBounds_toArray, List.set_cons_zero, List.set_cons_succ])
    refine' wpAnyH_take (i := 7) (v := _) rfl (by kernel_rfl) (by kernel_rfl) (by kernel_rfl) (fun _ _ _ h => h) (Or.inl ⟨by rfl, ?hy40⟩) hHeld ?rest40
    case hy40 => (rintro W hM; go_simp; (try with_reducible rfl))
    case rest40 =>
    (try simp only [Act.put, List.getElem_toArray, List.getElem_cons_zero, List.getElem_cons_succ, List.setIfInBounds_toArray, List.set_cons_zero, List.set_cons_succ])
    refine' wpAnyH_take (i := 8) (v := _) rfl (by kernel_rfl) (by kernel_rfl) (by kernel_rfl) (fun _ _ _ h => h) (Or.inl ⟨by rfl, ?hy41⟩) hHeld ?rest41
    case hy41 => (rintro W hM; have q := b1 ⟨W, hM⟩; dsimp only at q; go_simp; (try with_reducible rfl))
    case rest41 =>
    (try simp only [Act.put, List.getElem_toArray, List.getElem_cons_zero, List.getElem_cons_succ, List.setIfInBounds_toArray, List.set_cons_zero, List.set_cons_succ])
    refine' wpAnyH_take (i := 9) (v := _) rfl (by kernel_rfl) (by kernel_rfl) (by kernel_rfl) (fun _ _ _ h => h) (Or.inl ⟨by rfl, ?hy42⟩) hHeld ?rest42
    case hy42 => (rintro W hM; go_simp; (try with_reducible rfl))
    case rest42 =>
    (try simp only [Act.put, List.getElem_toArray, List.getElem_cons_zero, List.getElem_cons_succ, List.setIfInBounds_toArray, List.set_cons_zero, List.set_cons_succ])
    refine wpAnyH_take (i := 10) rfl (by kernel_rfl) (by kernel_rfl) (by kernel_rfl) (fun _ _ _ h => h) (yieldsIf_mid (by rfl) 26 _ rfl w.heap.size 2 rfl [.int .i64 a.src.sch, str a.src.name, .int .u64 (a.src.node : Int), .int .u64 (a.src.svc : Int)] (fun W hM => HRE.out ⟨W, hM⟩) Try.underlying26 rfl (by kernel_rfl)) hHeld ?_
    (try simp only [Act.put, List.getElem_toArray, List.getElem_cons_zero, List.getElem_cons_succ, List.setIfInBounds_toArray, List.set_cons_zero, List.set_cons_succ])
    refine' wpAnyH_take (i := 11) (v := _) rfl (by kernel_rfl) (by kernel_rfl) (by kernel_rfl) (fun _ _ _ h => h) (Or.inl ⟨by rfl, ?hy43⟩) hHeld ?rest43
    case hy43 => (rintro W hM; go_simp; (try with_reducible rfl))
    case rest43 =>
    (try simp only [Act.put, List.getElem_toArray, List.getElem_cons_zero, List.getElem_cons_succ, List.setIfInBounds_toArray, List.set_cons_zero, List.set_cons_succ])
    refine' wpAnyH_take (i := 12) (v := _) rfl (by kernel_rfl) (by kernel_rfl) (by kernel_rfl) (fun _ _ _ h => h) (Or.inl ⟨by rfl, ?hy44⟩) hHeld ?rest44
    case hy44 => (rintro W hM; have q := b6 ⟨W, hM⟩; dsimp only at q; go_simp; (try with_reducible rfl))
    case rest44 =>
    (try simp only [Act.put, List.getElem_toArray, List.getElem_cons_zero, List.getElem_cons_succ, List.setIfInBounds_toArray, List.set_cons_zero, List.set_cons_succ])
    refine wpAnyH_ready (rs := [2, 15]) (by kernel_rfl) (by simp) ?_
    refine AllReadyH.cons rfl (fun K hK => ?_) (AllReadyH.cons rfl (fun K hK => ?_) AllReadyH.nil)
    · go_simp
      go_at_call 44
      refine (CloneN_any a.tg a.tk HK0.out (some ⟨bt, ot, none⟩) mtc x0 (HNT.out.ext hHeld)).mono ?_
      rintro x x58 ⟨g, cg, rfl, hb, hown⟩
      have hgl := hown.lt g rfl
      have hgV : V.heap.size ≤ g := Nat.le_trans hHeld.size hgl.1
      have hgu := hgl.2
      refine hK.out _ _ (hHeld.trans hb) (fun hHeld => ?_)
      clear hK K hb
      (try simp only [Act.put, List.getElem_toArray, List.getElem_cons_zero, List.getElem_cons_succ, List.setIfInBounds_toArray, List.set_cons_zero, List.set_cons_succ])
      refine wpAnyH_ready (rs := [6, 15]) (by kernel_rfl) (by simp) ?_
      refine AllReadyH.cons rfl (fun K hK => ?_) (AllReadyH.cons rfl (fun K hK => ?_) AllReadyH.nil)
      · go_simp
        (try rw [hw1])
        go_at_call 43
        refine (DelN_any a.tg _ g a.tk cg i HI.out HF.out.1 x58 hown).mono ?_
        rintro x x59 ⟨rfl, hm, _, hns, hfz⟩
        have hft : softA x59 (fun b => V.heap.size ≤ b) (some ⟨g, 0, none⟩) := fun g' hg' => by cases hg'; exact ⟨hgV, Nat.lt_of_lt_of_le hgu hm.size, hfz⟩
        replace hgu := Nat.lt_of_lt_of_le hgu hm.size
        refine hK.out _ _ (((Mod.of_ext (S := [g]) hHeld).trans hm).new (fun k hk => .inr (by rw [List.mem_singleton] at hk; subst hk; exact hgV))) (fun hHeld => ?_)
        clear hK K hm hown
        (try simp only [Act.put, List.getElem_toArray, List.getElem_cons_zero, List.getElem_cons_succ, List.setIfInBounds_toArray, List.set_cons_zero, List.set_cons_succ])
        refine wpAnyH_ready (rs := [13, 15]) (by kernel_rfl) (by simp) ?_
        refine AllReadyH.cons rfl (fun K hK => ?_) (AllReadyH.cons rfl (fun K hK => ?_) AllReadyH.nil)
        · go_simp
          go_at_call 42
          refine (clone_fits HW.out.2.2.2.1 HF.out.2.1 mp mpc x59 (HPA.out.ext hHeld)).mono ?_
          rintro x x60 ⟨Ap, cp, rfl, hb, hps, hpc, hsp⟩
          have hft := hft.mod hb (by simp)
          have hns := hns.ext hb
          replace hgu := Nat.lt_of_lt_of_le hgu hb.size
          have hps := hps.weak (R := (fun b => V.heap.size ≤ b)) (fun b _ hb => Nat.le_trans hHeld.size hb)
          have hsp := hsp.weak (R := (fun b => V.heap.size ≤ b)) (fun b _ hb => Nat.le_trans hHeld.size hb)
          refine hK.out _ _ (hHeld.trans hb) (fun hHeld => ?_)
          clear hK K hb
          (try simp only [Act.put, List.getElem_toArray, List.getElem_cons_zero, List.getElem_cons_succ, List.setIfInBounds_toArray, List.set_cons_zero, List.set_cons_succ])
          refine' wpAnyH_take (i := 14) (v := _) rfl (by kernel_rfl) (by kernel_rfl) (by kernel_rfl) (fun _ _ _ h => h) (Or.inl ⟨by rfl, ?hy45⟩) hHeld ?rest45
          case hy45 => (rintro W hM; go_simp; (try with_reducible rfl))
          case rest45 =>
          (try simp only [Act.put, List.getElem_toArray, List.getElem_cons_zero, List.getElem_cons_succ, List.setIfInBounds_toArray, List.set_cons_zero, List.set_cons_succ])
          refine wpAnyH_ready (rs := [15]) (by kernel_rfl) (by simp) ?_
          refine AllReadyH.cons rfl (fun K hK => ?_) AllReadyH.nil
          go_simp
          generalize hV : World.alloc x60 _ = x61
          have hBO : Blk x61 x60.heap.size 29 #[.slice none 0 0, .int .i64 0, .int .i64 0, .string ⟨#[]⟩, .int .u64 0, .int .u64 0, .slice none 0 0, .slice none 0 0] := by rw [← hV]; exact Blk.new _ _ _
          have hXX : Ext x60 x61 := by rw [← hV]; exact (Mod.refl [] _).alloc _
          have hOV : V.heap.size ≤ x60.heap.size := hHeld.size
          clear hV
          have hOg : x60.heap.size ≠ g := Nat.ne_of_gt hgu
          replace hgu := Nat.lt_of_lt_of_le hgu hXX.size
          have hns := hns.ext hXX
          have hft := hft.mod hXX (by simp)
          have hps := (hps.weak (R := fun b => V.heap.size ≤ b ∧ b ≠ x60.heap.size) (fun b hb hq => ⟨hq, Nat.ne_of_lt hb⟩)).ext hXX
          have hsp := (hsp.weak (R := fun b => V.heap.size ≤ b ∧ b ≠ x60.heap.size) (fun b hb hq => ⟨hq, Nat.ne_of_lt hb⟩)).mod hXX (by simp)
          refine hK.out _ _ (hHeld.trans hXX) (fun hHeld => ?_)
          clear hK K hXX
          (try simp only [Act.put, List.getElem_toArray, List.getElem_cons_zero, List.getElem_cons_succ, List.setIfInBounds_toArray, List.set_cons_zero, List.set_cons_succ])
          generalize x60.heap.size = O at *
          refine wpAnyH_ready (rs := [16]) (by kernel_rfl) (by simp) ?_
          refine AllReadyH.cons rfl (fun K hK => ?_) AllReadyH.nil
          refine wp_store_mid 29 _ _ rfl O 0 #[.slice (some ⟨g, 0, none⟩) (a.tk - 1) cg, .int .i64 a.ctx, .int .i64 a.src.sch, str a.src.name, .int .u64 (a.src.node : Int), .int .u64 (a.src.svc : Int), .slice Ap a.ps.k cp, .slice none 0 0] (by rfl) (by rfl) (hBO.there (Nat.le_refl 8)) (by kernel_rfl) (by simp [Value.oneCell']) ?_
          have hZB := setCells_all (ds := #[.slice (some ⟨g, 0, none⟩) (a.tk - 1) cg, .int .i64 a.ctx, .int .i64 a.src.sch, str a.src.name, .int .u64 (a.src.node : Int), .int .u64 (a.src.svc : Int), .slice Ap a.ps.k cp, .slice none 0 0]) hBO rfl
          have hZO := setCells_mod (w := x61) (W := x61) (S := [O]) (b := O) (#[.slice (some ⟨g, 0, none⟩) (a.tk - 1) cg, .int .i64 a.ctx, .int .i64 a.src.sch, str a.src.name, .int .u64 (a.src.node : Int), .int .u64 (a.src.svc : Int), .slice Ap a.ps.k cp, .slice none 0 0] : Array Value).toList 0 (Mod.refl _ _) (.inl (by simp))
          generalize hZ : World.setCells _ O 0 _ = z at *
          clear hZ
          have hZM : Ext V z := ((Mod.of_ext (S := [O]) hHeld).trans hZO).new (fun k hk => .inr (by rw [List.mem_singleton] at hk; subst hk; exact hOV))
          refine hK.out _ _ hZM (fun hHeld => ?_)
          clear hK K
          (try simp only [Act.put, List.getElem_toArray, List.getElem_cons_zero, List.getElem_cons_succ, List.setIfInBounds_toArray, List.set_cons_zero, List.set_cons_succ])
          refine wpAnyH_done (by kernel_rfl) ?_ _
          have HBO := hid hZB
          have HNS := hid (hns.mod hZO (fun b o h _ => by cases h; simp; exact fun h => hOg h.symm))
          have HPS := hid (hps.mod hZO (fun k hk _ => by simp; exact hk.2))
          have HSP := hid (hsp.mod hZO (fun k hk _ => by simp; exact hk.2))
          have HFT : Hid (softA z (fun b => V.heap.size ≤ b ∧ b ≠ O) (some ⟨g, 0, none⟩)) := hid ((softA.weak (R := fun b => V.heap.size ≤ b ∧ b ≠ O) (fun g' hg' => by obtain ⟨q1, q2, q3⟩ := hft g' hg'; exact ⟨⟨q1, by cases hg'; exact fun h => hOg h.symm⟩, q2, q3⟩) (fun _ _ h => h)).mod hZO (fun k hk _ => by simp; exact hk.2))
          have HVZ := hid hZM
          have HOG := hid hOg
          have HGV := hid hgV
          have HOV := hid hOV
          have HGZ := hid (Nat.lt_of_lt_of_le hgu hZO.size)
          clear hZB hns hps hsp hft hfz hZM hZO hHeld hBO hOg hOV hgV hgu hpc
          have c7z : z.cell? ⟨w.heap.size, 7, none⟩ = some (.slice mr a.rk mrc) := b7 ⟨z, HVZ.out⟩
          go_upto_region 6 with fail
          have t0a : decide (0 < a.rk) = false := decide_eq_false (by omega)
          have t0b : decide ((0 : Int) < (a.rk : Int)) = false := decide_eq_false (by omega)
          have t0c : ((0 : Int) < (a.rk : Int)) = False := eq_false (by omega)
          go_loopw [35] (fun s35 wr => s35 = .int .i64 0 ∧ wr = z) (fun s35 _ => 0)
          case atStart => exact ⟨rfl, rfl⟩
          case round =>
            obtain ⟨rfl, hz⟩ := hrel
            rw [hz]
            clear hz
            have HZS := hid HVZ.out.size
            have HRS : Hid (RsL z (fun b => V.heap.size ≤ b) none 0 (woP a.rs i)) := hid (fun h0 => absurd h0 (by omega))
            have HB1W := hid (HB1.out.ext HVZ.out)
            have tk1 : True := trivial
            have tk2 : True := trivial
            go_wp2_with (first | (clear tk1; refine wpList_row (by rfl) 29 _ rfl _ rfl HBO.out Try.underlying29 rfl (by kernel_rfl) ?_) | (clear tk2; refine wpList_store_mid rfl 29 _ _ rfl (w.heap.size + 1) 0 #[.slice (some ⟨g, 0, none⟩) (a.tk - 1) cg, .int .i64 a.ctx, .int .i64 a.src.sch, str a.src.name, .int .u64 (a.src.node : Int), .int .u64 (a.src.svc : Int), .slice Ap a.ps.k cp, .slice none 0 0] (by rfl) (by rfl) (HB1W.out.there (Nat.le_refl 8)) (by kernel_rfl) (by simp [Value.oneCell']) ?_))
            have hY := setCells_all (ds := #[.slice (some ⟨g, 0, none⟩) (a.tk - 1) cg, .int .i64 a.ctx, .int .i64 a.src.sch, str a.src.name, .int .u64 (a.src.node : Int), .int .u64 (a.src.svc : Int), .slice Ap a.ps.k cp, .slice none 0 0]) HB1W.out rfl
            have hM2 := setCells_mod (b := w.heap.size + 1) (#[.slice (some ⟨g, 0, none⟩) (a.tk - 1) cg, .int .i64 a.ctx, .int .i64 a.src.sch, str a.src.name, .int .u64 (a.src.node : Int), .int .u64 (a.src.svc : Int), .slice Ap a.ps.k cp, .slice none 0 0] : Array Value).toList 0 (Mod.refl [w.heap.size + 1] z) (.inl (by simp))
            generalize hZ2 : World.setCells z _ 0 _ = Z2 at *
            refine bodyPost_ret (results_cell2 rfl _ (by rfl) (by rfl) hY Try.underlying29 rfl (by kernel_rfl)) rfl ⟨?_, ⟨some ⟨g, 0, none⟩, cg, Ap, cp, none, 0⟩, ?_, ?_, ?_⟩
            · exact ((Mod.of_ext (S := [w.heap.size + 1]) (HE.out.trans HVZ.out)).trans hM2).new (fun k hk => .inr (by rw [List.mem_singleton] at hk; omega))
            · have e : (a.wo i).rk = 0 := by show cntW i a.rk = 0; rw [hrk]; unfold cntW; split <;> rfl
              simp [asbV, asbC, e]
              exact ⟨rfl, rfl, rfl, rfl, rfl, rfl, rfl⟩
            · have hv := HVS.out
              refine ⟨HNS.out.mod hM2 (fun b o h _ => by cases h; have := HGV.out; simp; omega), fun b o h _ => by cases h; have := HGV.out; show w.heap.size ≤ g; omega, (HPS.out.mod hM2 (fun k hk _ => by have := hk.1; simp; omega)).weak (fun b _ hb => by have := hb.1; show w.heap.size ≤ b; omega), fun h0 => ?_⟩
              have e : (a.wo i).rk = 0 := by show cntW i a.rk = 0; rw [hrk]; unfold cntW; split <;> rfl
              omega
            · have hv := HVS.out
              exact ⟨z.heap.size, by have := HZS.out; omega, ((HFT.out.weak (R := fun b => (V.heap.size ≤ b ∧ b ≠ O) ∧ b < z.heap.size) (fun b hb hq => ⟨hq, hb⟩)).mod hM2 (fun k hk _ => by have := hk.1.1; simp; omega)).weak (fun b _ hb => ⟨by have := hb.1.1; omega, hb.2⟩), ((HSP.out.weak (R := fun b => (V.heap.size ≤ b ∧ b ≠ O) ∧ b < z.heap.size) (fun b hb hq => ⟨hq, hb⟩)).mod hM2 (fun k hk _ => by have := hk.1.1; simp; omega)).weak (fun b _ hb => ⟨by have := hb.1.1; omega, hb.2⟩), fun h0 => absurd h0 (by rw [show (a.wo i).rk = 0 by (show cntW i a.rk = 0; rw [hrk]; unfold cntW; split <;> rfl)]; omega)⟩
        · go_simp
          generalize hV : World.alloc x59 _ = x62
          have hBO : Blk x62 x59.heap.size 29 #[.slice none 0 0, .int .i64 0, .int .i64 0, .string ⟨#[]⟩, .int .u64 0, .int .u64 0, .slice none 0 0, .slice none 0 0] := by rw [← hV]; exact Blk.new _ _ _
          have hXX : Ext x59 x62 := by rw [← hV]; exact (Mod.refl [] _).alloc _
          have hOV : V.heap.size ≤ x59.heap.size := hHeld.size
          clear hV
          have hOg : x59.heap.size ≠ g := Nat.ne_of_gt hgu
          replace hgu := Nat.lt_of_lt_of_le hgu hXX.size
          have hns := hns.ext hXX
          have hft := hft.mod hXX (by simp)
          refine hK.out _ _ (hHeld.trans hXX) (fun hHeld => ?_)
          clear hK K hXX
          (try simp only [Act.put, List.getElem_toArray, List.getElem_cons_zero, List.getElem_cons_succ, List.setIfInBounds_toArray, List.set_cons_zero, List.set_cons_succ])
          generalize x59.heap.size = O at *
          refine wpAnyH_ready (rs := [13]) (by kernel_rfl) (by simp) ?_
          refine AllReadyH.cons rfl (fun K hK => ?_) AllReadyH.nil
          go_simp
          go_at_call 42
          refine (clone_fits HW.out.2.2.2.1 HF.out.2.1 mp mpc x62 (HPA.out.ext hHeld)).mono ?_
          rintro x x63 ⟨Ap, cp, rfl, hb, hps, hpc, hsp⟩
          have hft := hft.mod hb (by simp)
          have hns := hns.ext hb
          replace hgu := Nat.lt_of_lt_of_le hgu hb.size
          have hps := hps.weak (R := (fun b => V.heap.size ≤ b ∧ b ≠ O)) (fun b _ hb => ⟨Nat.le_trans hHeld.size hb, by have hb : x62.heap.size ≤ b := hb; have := hBO.lt; omega⟩)
          have hsp := hsp.weak (R := (fun b => V.heap.size ≤ b ∧ b ≠ O)) (fun b _ hb => ⟨Nat.le_trans hHeld.size hb, by have hb : x62.heap.size ≤ b := hb; have := hBO.lt; omega⟩)
          have hBO := hBO.ext hb
          refine hK.out _ _ (hHeld.trans hb) (fun hHeld => ?_)
          clear hK K hb
          (try simp only [Act.put, List.getElem_toArray, List.getElem_cons_zero, List.getElem_cons_succ, List.setIfInBounds_toArray, List.set_cons_zero, List.set_cons_succ])
          refine' wpAnyH_take (i := 14) (v := _) rfl (by kernel_rfl) (by kernel_rfl) (by kernel_rfl) (fun _ _ _ h => h) (Or.inl ⟨by rfl, ?hy46⟩) hHeld ?rest46
          case hy46 => (rintro W hM; go_simp; (try with_reducible rfl))
          case rest46 =>
          (try simp only [Act.put, List.getElem_toArray, List.getElem_cons_zero, List.getElem_cons_succ, List.setIfInBounds_toArray, List.set_cons_zero, List.set_cons_succ])
          refine wpAnyH_ready (rs := [16]) (by kernel_rfl) (by simp) ?_
          refine AllReadyH.cons rfl (fun K hK => ?_) AllReadyH.nil
          refine wp_store_mid 29 _ _ rfl O 0 #[.slice (some ⟨g, 0, none⟩) (a.tk - 1) cg, .int .i64 a.ctx, .int .i64 a.src.sch, str a.src.name, .int .u64 (a.src.node : Int), .int .u64 (a.src.svc : Int), .slice Ap a.ps.k cp, .slice none 0 0] (by rfl) (by rfl) (hBO.there (Nat.le_refl 8)) (by kernel_rfl) (by simp [Value.oneCell']) ?_
          have hZB := setCells_all (ds := #[.slice (some ⟨g, 0, none⟩) (a.tk - 1) cg, .int .i64 a.ctx, .int .i64 a.src.sch, str a.src.name, .int .u64 (a.src.node : Int), .int .u64 (a.src.svc : Int), .slice Ap a.ps.k cp, .slice none 0 0]) hBO rfl
          have hZO := setCells_mod (w := x63) (W := x63) (S := [O]) (b := O) (#[.slice (some ⟨g, 0, none⟩) (a.tk - 1) cg, .int .i64 a.ctx, .int .i64 a.src.sch, str a.src.name, .int .u64 (a.src.node : Int), .int .u64 (a.src.svc : Int), .slice Ap a.ps.k cp, .slice none 0 0] : Array Value).toList 0 (Mod.refl _ _) (.inl (by simp))
          generalize hZ : World.setCells _ O 0 _ = z at *
          clear hZ
          have hZM : Ext V z := ((Mod.of_ext (S := [O]) hHeld).trans hZO).new (fun k hk => .inr (by rw [List.mem_singleton] at hk; subst hk; exact hOV))
          refine hK.out _ _ hZM (fun hHeld => ?_)
          clear hK K
          (try simp only [Act.put, List.getElem_toArray, List.getElem_cons_zero, List.getElem_cons_succ, List.setIfInBounds_toArray, List.set_cons_zero, List.set_cons_succ])
          refine wpAnyH_done (by kernel_rfl) ?_ _
          have HBO := hid hZB
          have HNS := hid (hns.mod hZO (fun b o h _ => by cases h; simp; exact fun h => hOg h.symm))
          have HPS := hid (hps.mod hZO (fun k hk _ => by simp; exact hk.2))
          have HSP := hid (hsp.mod hZO (fun k hk _ => by simp; exact hk.2))
          have HFT : Hid (softA z (fun b => V.heap.size ≤ b ∧ b ≠ O) (some ⟨g, 0, none⟩)) := hid ((softA.weak (R := fun b => V.heap.size ≤ b ∧ b ≠ O) (fun g' hg' => by obtain ⟨q1, q2, q3⟩ := hft g' hg'; exact ⟨⟨q1, by cases hg'; exact fun h => hOg h.symm⟩, q2, q3⟩) (fun _ _ h => h)).mod hZO (fun k hk _ => by simp; exact hk.2))
          have HVZ := hid hZM
          have HOG := hid hOg
          have HGV := hid hgV
          have HOV := hid hOV
          have HGZ := hid (Nat.lt_of_lt_of_le hgu hZO.size)
          clear hZB hns hps hsp hft hfz hZM hZO hHeld hBO hOg hOV hgV hgu hpc
          have c7z : z.cell? ⟨w.heap.size, 7, none⟩ = some (.slice mr a.rk mrc) := b7 ⟨z, HVZ.out⟩
          go_upto_region 6 with fail
          have t0a : decide (0 < a.rk) = false := decide_eq_false (by omega)
          have t0b : decide ((0 : Int) < (a.rk : Int)) = false := decide_eq_false (by omega)
          have t0c : ((0 : Int) < (a.rk : Int)) = False := eq_false (by omega)
          go_loopw [35] (fun s35 wr => s35 = .int .i64 0 ∧ wr = z) (fun s35 _ => 0)
          case atStart => exact ⟨rfl, rfl⟩
          case round =>
            obtain ⟨rfl, hz⟩ := hrel
            rw [hz]
            clear hz
            have HZS := hid HVZ.out.size
            have HRS : Hid (RsL z (fun b => V.heap.size ≤ b) none 0 (woP a.rs i)) := hid (fun h0 => absurd h0 (by omega))
            have HB1W := hid (HB1.out.ext HVZ.out)
            have tk1 : True := trivial
            have tk2 : True := trivial
            go_wp2_with (first | (clear tk1; refine wpList_row (by rfl) 29 _ rfl _ rfl HBO.out Try.underlying29 rfl (by kernel_rfl) ?_) | (clear tk2; refine wpList_store_mid rfl 29 _ _ rfl (w.heap.size + 1) 0 #[.slice (some ⟨g, 0, none⟩) (a.tk - 1) cg, .int .i64 a.ctx, .int .i64 a.src.sch, str a.src.name, .int .u64 (a.src.node : Int), .int .u64 (a.src.svc : Int), .slice Ap a.ps.k cp, .slice none 0 0] (by rfl) (by rfl) (HB1W.out.there (Nat.le_refl 8)) (by kernel_rfl) (by simp [Value.oneCell']) ?_))
            have hY := setCells_all (ds := #[.slice (some ⟨g, 0, none⟩) (a.tk - 1) cg, .int .i64 a.ctx, .int .i64 a.src.sch, str a.src.name, .int .u64 (a.src.node : Int), .int .u64 (a.src.svc : Int), .slice Ap a.ps.k cp, .slice none 0 0]) HB1W.out rfl
            have hM2 := setCells_mod (b := w.heap.size + 1) (#[.slice (some ⟨g, 0, none⟩) (a.tk - 1) cg, .int .i64 a.ctx, .int .i64 a.src.sch, str a.src.name, .int .u64 (a.src.node : Int), .int .u64 (a.src.svc : Int), .slice Ap a.ps.k cp, .slice none 0 0] : Array Value).toList 0 (Mod.refl [w.heap.size + 1] z) (.inl (by simp))
            generalize hZ2 : World.setCells z _ 0 _ = Z2 at *
            refine bodyPost_ret (results_cell2 rfl _ (by rfl) (by rfl) hY Try.underlying29 rfl (by kernel_rfl)) rfl ⟨?_, ⟨some ⟨g, 0, none⟩, cg, Ap, cp, none, 0⟩, ?_, ?_, ?_⟩
            · exact ((Mod.of_ext (S := [w.heap.size + 1]) (HE.out.trans HVZ.out)).trans hM2).new (fun k hk => .inr (by rw [List.mem_singleton] at hk; omega))
            · have e : (a.wo i).rk = 0 := by show cntW i a.rk = 0; rw [hrk]; unfold cntW; split <;> rfl
              simp [asbV, asbC, e]
              exact ⟨rfl, rfl, rfl, rfl, rfl, rfl, rfl⟩
            · have hv := HVS.out
              refine ⟨HNS.out.mod hM2 (fun b o h _ => by cases h; have := HGV.out; simp; omega), fun b o h _ => by cases h; have := HGV.out; show w.heap.size ≤ g; omega, (HPS.out.mod hM2 (fun k hk _ => by have := hk.1; simp; omega)).weak (fun b _ hb => by have := hb.1; show w.heap.size ≤ b; omega), fun h0 => ?_⟩
              have e : (a.wo i).rk = 0 := by show cntW i a.rk = 0; rw [hrk]; unfold cntW; split <;> rfl
              omega
            · have hv := HVS.out
              exact ⟨z.heap.size, by have := HZS.out; omega, ((HFT.out.weak (R := fun b => (V.heap.size ≤ b ∧ b ≠ O) ∧ b < z.heap.size) (fun b hb hq => ⟨hq, hb⟩)).mod hM2 (fun k hk _ => by have := hk.1.1; simp; omega)).weak (fun b _ hb => ⟨by have := hb.1.1; omega, hb.2⟩), ((HSP.out.weak (R := fun b => (V.heap.size ≤ b ∧ b ≠ O) ∧ b < z.heap.size) (fun b hb hq => ⟨hq, hb⟩)).mod hM2 (fun k hk _ => by have := hk.1.1; simp; omega)).weak (fun b _ hb => ⟨by have := hb.1.1; omega, hb.2⟩), fun h0 => absurd h0 (by rw [show (a.wo i).rk = 0 by (show cntW i a.rk = 0; rw [hrk]; unfold cntW; split <;> rfl)]; omega)⟩
      · go_simp
        generalize hV : World.alloc x58 _ = x64
        have hBO : Blk x64 x58.heap.size 29 #[.slice none 0 0, .int .i64 0, .int .i64 0, .string ⟨#[]⟩, .int .u64 0, .int .u64 0, .slice none 0 0, .slice none 0 0] := by rw [← hV]; exact Blk.new _ _ _
        have hXX : Ext x58 x64 := by rw [← hV]; exact (Mod.refl [] _).alloc _
        have hOV : V.heap.size ≤ x58.heap.size := hHeld.size
        clear hV
        have hOg : x58.heap.size ≠ g := Nat.ne_of_gt hgu
        replace hgu := Nat.lt_of_lt_of_le hgu hXX.size
        have hown := ownsRow_mod hown hXX (fun _ _ => by simp)
        refine hK.out _ _ (hHeld.trans hXX) (fun hHeld => ?_)
        clear hK K hXX
        (try simp only [Act.put, List.getElem_toArray, List.getElem_cons_zero, List.getElem_cons_succ, List.setIfInBounds_toArray, List.set_cons_zero, List.set_cons_succ])
        generalize x58.heap.size = O at *
        refine wpAnyH_ready (rs := [6]) (by kernel_rfl) (by simp) ?_
        refine AllReadyH.cons rfl (fun K hK => ?_) AllReadyH.nil
        go_simp
        (try rw [hw1])
        go_at_call 43
        refine (DelN_any a.tg _ g a.tk cg i HI.out HF.out.1 x64 hown).mono ?_
        rintro x x65 ⟨rfl, hm, _, hns, hfz⟩
        have hft : softA x65 (fun b => V.heap.size ≤ b) (some ⟨g, 0, none⟩) := fun g' hg' => by cases hg'; exact ⟨hgV, Nat.lt_of_lt_of_le hgu hm.size, hfz⟩
        replace hgu := Nat.lt_of_lt_of_le hgu hm.size
        have hBO := hBO.mod hm (by simpa using hOg)
        refine hK.out _ _ (((Mod.of_ext (S := [g]) hHeld).trans hm).new (fun k hk => .inr (by rw [List.mem_singleton] at hk; subst hk; exact hgV))) (fun hHeld => ?_)
        clear hK K hm hown
        (try simp only [Act.put, List.getElem_toArray, List.getElem_cons_zero, List.getElem_cons_succ, List.setIfInBounds_toArray, List.set_cons_zero, List.set_cons_succ])
        refine wpAnyH_ready (rs := [13]) (by kernel_rfl) (by simp) ?_
        refine AllReadyH.cons rfl (fun K hK => ?_) AllReadyH.nil
        go_simp
        go_at_call 42
        refine (clone_fits HW.out.2.2.2.1 HF.out.2.1 mp mpc x65 (HPA.out.ext hHeld)).mono ?_
        rintro x x66 ⟨Ap, cp, rfl, hb, hps, hpc, hsp⟩
        have hft := hft.mod hb (by simp)
        have hns := hns.ext hb
        replace hgu := Nat.lt_of_lt_of_le hgu hb.size
        have hps := hps.weak (R := (fun b => V.heap.size ≤ b ∧ b ≠ O)) (fun b _ hb => ⟨Nat.le_trans hHeld.size hb, by have hb : x65.heap.size ≤ b := hb; have := hBO.lt; omega⟩)
        have hsp := hsp.weak (R := (fun b => V.heap.size ≤ b ∧ b ≠ O)) (fun b _ hb => ⟨Nat.le_trans hHeld.size hb, by have hb : x65.heap.size ≤ b := hb; have := hBO.lt; omega⟩)
        have hBO := hBO.ext hb
        refine hK.out _ _ (hHeld.trans hb) (fun hHeld => ?_)
        clear hK K hb
        (try simp only [Act.put, List.getElem_toArray, List.getElem_cons_zero, List.getElem_cons_succ, List.setIfInBounds_toArray, List.set_cons_zero, List.set_cons_succ])
        refine' wpAnyH_take (i := 14) (v := _) rfl (by kernel_rfl) (by kernel_rfl) (by kernel_rfl) (fun _ _ _ h => h) (Or.inl ⟨by rfl, ?hy47⟩) hHeld ?rest47
        case hy47 => (rintro W hM; go_simp; (try with_reducible rfl))
        case rest47 =>
        (try simp only [Act.put, List.getElem_toArray, List.getElem_cons_zero, List.getElem_cons_succ, List.setIfInBounds_toArray, List.set_cons_zero, List.set_cons_succ])
        refine wpAnyH_ready (rs := [16]) (by kernel_rfl) (by simp) ?_
        refine AllReadyH.cons rfl (fun K hK => ?_) AllReadyH.nil
        refine wp_store_mid 29 _ _ rfl O 0 #[.slice (some ⟨g, 0, none⟩) (a.tk - 1) cg, .int .i64 a.ctx, .int .i64 a.src.sch, str a.src.name, .int .u64 (a.src.node : Int), .int .u64 (a.src.svc : Int), .slice Ap a.ps.k cp, .slice none 0 0] (by rfl) (by rfl) (hBO.there (Nat.le_refl 8)) (by kernel_rfl) (by simp [Value.oneCell']) ?_
        have hZB := setCells_all (ds := #[.slice (some ⟨g, 0, none⟩) (a.tk - 1) cg, .int .i64 a.ctx, .int .i64 a.src.sch, str a.src.name, .int .u64 (a.src.node : Int), .int .u64 (a.src.svc : Int), .slice Ap a.ps.k cp, .slice none 0 0]) hBO rfl
        have hZO := setCells_mod (w := x66) (W := x66) (S := [O]) (b := O) (#[.slice (some ⟨g, 0, none⟩) (a.tk - 1) cg, .int .i64 a.ctx, .int .i64 a.src.sch, str a.src.name, .int .u64 (a.src.node : Int), .int .u64 (a.src.svc : Int), .slice Ap a.ps.k cp, .slice none 0 0] : Array Value).toList 0 (Mod.refl _ _) (.inl (by simp))
        generalize hZ : World.setCells _ O 0 _ = z at *
        clear hZ
        have hZM : Ext V z := ((Mod.of_ext (S := [O]) hHeld).trans hZO).new (fun k hk => .inr (by rw [List.mem_singleton] at hk; subst hk; exact hOV))
        refine hK.out _ _ hZM (fun hHeld => ?_)
        clear hK K
        (try simp only [Act.put, List.getElem_toArray, List.getElem_cons_zero, List.getElem_cons_succ, List.setIfInBounds_toArray, List.set_cons_zero, List.set_cons_succ])
        refine wpAnyH_done (by kernel_rfl) ?_ _
        have HBO := hid hZB
        have HNS := hid (hns.mod hZO (fun b o h _ => by cases h; simp; exact fun h => hOg h.symm))
        have HPS := hid (hps.mod hZO (fun k hk _ => by simp; exact hk.2))
        have HSP := hid (hsp.mod hZO (fun k hk _ => by simp; exact hk.2))
        have HFT : Hid (softA z (fun b => V.heap.size ≤ b ∧ b ≠ O) (some ⟨g, 0, none⟩)) := hid ((softA.weak (R := fun b => V.heap.size ≤ b ∧ b ≠ O) (fun g' hg' => by obtain ⟨q1, q2, q3⟩ := hft g' hg'; exact ⟨⟨q1, by cases hg'; exact fun h => hOg h.symm⟩, q2, q3⟩) (fun _ _ h => h)).mod hZO (fun k hk _ => by simp; exact hk.2))
        have HVZ := hid hZM
        have HOG := hid hOg
        have HGV := hid hgV
        have HOV := hid hOV
        have HGZ := hid (Nat.lt_of_lt_of_le hgu hZO.size)
        clear hZB hns hps hsp hft hfz hZM hZO hHeld hBO hOg hOV hgV hgu hpc
        have c7z : z.cell? ⟨w.heap.size, 7, none⟩ = some (.slice mr a.rk mrc) := b7 ⟨z, HVZ.out⟩
        go_upto_region 6 with fail
        have t0a : decide (0 < a.rk) = false := decide_eq_false (by omega)
        have t0b : decide ((0 : Int) < (a.rk : Int)) = false := decide_eq_false (by omega)
        have t0c : ((0 : Int) < (a.rk : Int)) = False := eq_false (by omega)
        go_loopw [35] (fun s35 wr => s35 = .int .i64 0 ∧ wr = z) (fun s35 _ => 0)
        case atStart => exact ⟨rfl, rfl⟩
        case round =>
          obtain ⟨rfl, hz⟩ := hrel
          rw [hz]
          clear hz
          have HZS := hid HVZ.out.size
          have HRS : Hid (RsL z (fun b => V.heap.size ≤ b) none 0 (woP a.rs i)) := hid (fun h0 => absurd h0 (by omega))
          have HB1W := hid (HB1.out.ext HVZ.out)
          have tk1 : True := trivial
          have tk2 : True := trivial
          go_wp2_with (first | (clear tk1; refine wpList_row (by rfl) 29 _ rfl _ rfl HBO.out Try.underlying29 rfl (by kernel_rfl) ?_) | (clear tk2; refine wpList_store_mid rfl 29 _ _ rfl (w.heap.size + 1) 0 #[.slice (some ⟨g, 0, none⟩) (a.tk - 1) cg, .int .i64 a.ctx, .int .i64 a.src.sch, str a.src.name, .int .u64 (a.src.node : Int), .int .u64 (a.src.svc : Int), .slice Ap a.ps.k cp, .slice none 0 0] (by rfl) (by rfl) (HB1W.out.there (Nat.le_refl 8)) (by kernel_rfl) (by simp [Value.oneCell']) ?_))
          have hY := setCells_all (ds := #[.slice (some ⟨g, 0, none⟩) (a.tk - 1) cg, .int .i64 a.ctx, .int .i64 a.src.sch, str a.src.name, .int .u64 (a.src.node : Int), .int .u64 (a.src.svc : Int), .slice Ap a.ps.k cp, .slice none 0 0]) HB1W.out rfl
          have hM2 := setCells_mod (b := w.heap.size + 1) (#[.slice (some ⟨g, 0, none⟩) (a.tk - 1) cg, .int .i64 a.ctx, .int .i64 a.src.sch, str a.src.name, .int .u64 (a.src.node : Int), .int .u64 (a.src.svc : Int), .slice Ap a.ps.k cp, .slice none 0 0] : Array Value).toList 0 (Mod.refl [w.heap.size + 1] z) (.inl (by simp))
          generalize hZ2 : World.setCells z _ 0 _ = Z2 at *
          refine bodyPost_ret (results_cell2 rfl _ (by rfl) (by rfl) hY Try.underlying29 rfl (by kernel_rfl)) rfl ⟨?_, ⟨some ⟨g, 0, none⟩, cg, Ap, cp, none, 0⟩, ?_, ?_, ?_⟩
          · exact ((Mod.of_ext (S := [w.heap.size + 1]) (HE.out.trans HVZ.out)).trans hM2).new (fun k hk => .inr (by rw [List.mem_singleton] at hk; omega))
          · have e : (a.wo i).rk = 0 := by show cntW i a.rk = 0; rw [hrk]; unfold cntW; split <;> rfl
            simp [asbV, asbC, e]
            exact ⟨rfl, rfl, rfl, rfl, rfl, rfl, rfl⟩
          · have hv := HVS.out
            refine ⟨HNS.out.mod hM2 (fun b o h _ => by cases h; have := HGV.out; simp; omega), fun b o h _ => by cases h; have := HGV.out; show w.heap.size ≤ g; omega, (HPS.out.mod hM2 (fun k hk _ => by have := hk.1; simp; omega)).weak (fun b _ hb => by have := hb.1; show w.heap.size ≤ b; omega), fun h0 => ?_⟩
            have e : (a.wo i).rk = 0 := by show cntW i a.rk = 0; rw [hrk]; unfold cntW; split <;> rfl
            omega
          · have hv := HVS.out
            exact ⟨z.heap.size, by have := HZS.out; omega, ((HFT.out.weak (R := fun b => (V.heap.size ≤ b ∧ b ≠ O) ∧ b < z.heap.size) (fun b hb hq => ⟨hq, hb⟩)).mod hM2 (fun k hk _ => by have := hk.1.1; simp; omega)).weak (fun b _ hb => ⟨by have := hb.1.1; omega, hb.2⟩), ((HSP.out.weak (R := fun b => (V.heap.size ≤ b ∧ b ≠ O) ∧ b < z.heap.size) (fun b hb hq => ⟨hq, hb⟩)).mod hM2 (fun k hk _ => by have := hk.1.1; simp; omega)).weak (fun b _ hb => ⟨by have := hb.1.1; omega, hb.2⟩), fun h0 => absurd h0 (by rw [show (a.wo i).rk = 0 by (show cntW i a.rk = 0; rw [hrk]; unfold cntW; split <;> rfl)]; omega)⟩
    · go_simp
      generalize hV : World.alloc x0 _ = x67
      have hBO : Blk x67 x0.heap.size 29 #[.slice none 0 0, .int .i64 0, .int .i64 0, .string ⟨#[]⟩, .int .u64 0, .int .u64 0, .slice none 0 0, .slice none 0 0] := by rw [← hV]; exact Blk.new _ _ _
      have hXX : Ext x0 x67 := by rw [← hV]; exact (Mod.refl [] _).alloc _
      have hOV : V.heap.size ≤ x0.heap.size := hHeld.size
      clear hV
      refine hK.out _ _ (hHeld.trans hXX) (fun hHeld => ?_)
      clear hK K hXX
      (try simp only [Act.put, List.getElem_toArray, List.getElem_cons_zero, List.getElem_cons_succ, List.setIfInBounds_toArray, List.set_cons_zero, List.set_cons_succ])
      generalize x0.heap.size = O at *
      refine wpAnyH_ready (rs := [2]) (by kernel_rfl) (by simp) ?_
      refine AllReadyH.cons rfl (fun K hK => ?_) AllReadyH.nil
      go_simp
      go_at_call 44
      refine (CloneN_any a.tg a.tk HK0.out (some ⟨bt, ot, none⟩) mtc x67 (HNT.out.ext hHeld)).mono ?_
      rintro x x68 ⟨g, cg, rfl, hb, hown⟩
      have hgl := hown.lt g rfl
      have hgV : V.heap.size ≤ g := Nat.le_trans hHeld.size hgl.1
      have hgu := hgl.2
      have hOg : O ≠ g := by have := hBO.lt; omega
      have hBO := hBO.ext hb
      refine hK.out _ _ (hHeld.trans hb) (fun hHeld => ?_)
      clear hK K hb
      (try simp only [Act.put, List.getElem_toArray, List.getElem_cons_zero, List.getElem_cons_succ, List.setIfInBounds_toArray, List.set_cons_zero, List.set_cons_succ])
      refine wpAnyH_ready (rs := [6]) (by kernel_rfl) (by simp) ?_
      refine AllReadyH.cons rfl (fun K hK => ?_) AllReadyH.nil
      go_simp
      (try rw [hw1])
      go_at_call 43
      refine (DelN_any a.tg _ g a.tk cg i HI.out HF.out.1 x68 hown).mono ?_
      rintro x x69 ⟨rfl, hm, _, hns, hfz⟩
      have hft : softA x69 (fun b => V.heap.size ≤ b) (some ⟨g, 0, none⟩) := fun g' hg' => by cases hg'; exact ⟨hgV, Nat.lt_of_lt_of_le hgu hm.size, hfz⟩
      replace hgu := Nat.lt_of_lt_of_le hgu hm.size
      have hBO := hBO.mod hm (by simpa using hOg)
      refine hK.out _ _ (((Mod.of_ext (S := [g]) hHeld).trans hm).new (fun k hk => .inr (by rw [List.mem_singleton] at hk; subst hk; exact hgV))) (fun hHeld => ?_)
      clear hK K hm hown
      (try simp only [Act.put, List.getElem_toArray, List.getElem_cons_zero, List.getElem_cons_succ, List.setIfInBounds_toArray, List.set_cons_zero, List.set_cons_succ])
      refine wpAnyH_ready (rs := [13]) (by kernel_rfl) (by simp) ?_
      refine AllReadyH.cons rfl (fun K hK => ?_) AllReadyH.nil
      go_simp
      go_at_call 42
      refine (clone_fits HW.out.2.2.2.1 HF.out.2.1 mp mpc x69 (HPA.out.ext hHeld)).mono ?_
      rintro x x70 ⟨Ap, cp, rfl, hb, hps, hpc, hsp⟩
      have hft := hft.mod hb (by simp)
      have hns := hns.ext hb
      replace hgu := Nat.lt_of_lt_of_le hgu hb.size
      have hps := hps.weak (R := (fun b => V.heap.size ≤ b ∧ b ≠ O)) (fun b _ hb => ⟨Nat.le_trans hHeld.size hb, by have hb : x69.heap.size ≤ b := hb; have := hBO.lt; omega⟩)
      have hsp := hsp.weak (R := (fun b => V.heap.size ≤ b ∧ b ≠ O)) (fun b _ hb => ⟨Nat.le_trans hHeld.size hb, by have hb : x69.heap.size ≤ b := hb; have := hBO.lt; omega⟩)
      have hBO := hBO.ext hb
      refine hK.out _ _ (hHeld.trans hb) (fun hHeld => ?_)
      clear hK K hb
      (try simp only [Act.put, List.getElem_toArray, List.getElem_cons_zero, List.getElem_cons_succ, List.setIfInBounds_toArray, List.set_cons_zero, List.set_cons_succ])
      refine' wpAnyH_take (i := 14) (v := _) rfl (by kernel_rfl) (by kernel_rfl) (by kernel_rfl) (fun _ _ _ h => h) (Or.inl ⟨by rfl, ?hy48⟩) hHeld ?rest48
      case hy48 => (rintro W hM; go_simp; (try with_reducible rfl))
      case rest48 =>
      (try simp only [Act.put, List.getElem_toArray, List.getElem_cons_zero, List.getElem_cons_succ, List.setIfInBounds_toArray, List.set_cons_zero, List.set_cons_succ])
      refine wpAnyH_ready (rs := [16]) (by kernel_rfl) (by simp) ?_
      refine AllReadyH.cons rfl (fun K hK => ?_) AllReadyH.nil
      refine wp_store_mid 29 _ _ rfl O 0 #[.slice (some ⟨g, 0, none⟩) (a.tk - 1) cg, .int .i64 a.ctx, .int .i64 a.src.sch, str a.src.name, .int .u64 (a.src.node : Int), .int .u64 (a.src.svc : Int), .slice Ap a.ps.k cp, .slice none 0 0] (by rfl) (by rfl) (hBO.there (Nat.le_refl 8)) (by kernel_rfl) (by simp [Value.oneCell']) ?_
      have hZB := setCells_all (ds := #[.slice (some ⟨g, 0, none⟩) (a.tk - 1) cg, .int .i64 a.ctx, .int .i64 a.src.sch, str a.src.name, .int .u64 (a.src.node : Int), .int .u64 (a.src.svc : Int), .slice Ap a.ps.k cp, .slice none 0 0]) hBO rfl
      have hZO := setCells_mod (w := x70) (W := x70) (S := [O]) (b := O) (#[.slice (some ⟨g, 0, none⟩) (a.tk - 1) cg, .int .i64 a.ctx, .int .i64 a.src.sch, str a.src.name, .int .u64 (a.src.node : Int), .int .u64 (a.src.svc : Int), .slice Ap a.ps.k cp, .slice none 0 0] : Array Value).toList 0 (Mod.refl _ _) (.inl (by simp))
      generalize hZ : World.setCells _ O 0 _ = z at *
      clear hZ
      have hZM : Ext V z := ((Mod.of_ext (S := [O]) hHeld).trans hZO).new (fun k hk => .inr (by rw [List.mem_singleton] at hk; subst hk; exact hOV))
      refine hK.out _ _ hZM (fun hHeld => ?_)
      clear hK K
      (try simp only [Act.put, List.getElem_toArray, List.getElem_cons_zero, List.getElem_cons_succ, List.setIfInBounds_toArray, List.set_cons_zero, List.set_cons_succ])
      refine wpAnyH_done (by kernel_rfl) ?_ _
      have HBO := hid hZB
      have HNS := hid (hns.mod hZO (fun b o h _ => by cases h; simp; exact fun h => hOg h.symm))
      have HPS := hid (hps.mod hZO (fun k hk _ => by simp; exact hk.2))
      have HSP := hid (hsp.mod hZO (fun k hk _ => by simp; exact hk.2))
      have HFT : Hid (softA z (fun b => V.heap.size ≤ b ∧ b ≠ O) (some ⟨g, 0, none⟩)) := hid ((softA.weak (R := fun b => V.heap.size ≤ b ∧ b ≠ O) (fun g' hg' => by obtain ⟨q1, q2, q3⟩ := hft g' hg'; exact ⟨⟨q1, by cases hg'; exact fun h => hOg h.symm⟩, q2, q3⟩) (fun _ _ h => h)).mod hZO (fun k hk _ => by simp; exact hk.2))
      have HVZ := hid hZM
      have HOG := hid hOg
      have HGV := hid hgV
      have HOV := hid hOV
      have HGZ := hid (Nat.lt_of_lt_of_le hgu hZO.size)
      clear hZB hns hps hsp hft hfz hZM hZO hHeld hBO hOg hOV hgV hgu hpc
      have c7z : z.cell? ⟨w.heap.size, 7, none⟩ = some (.slice mr a.rk mrc) := b7 ⟨z, HVZ.out⟩
      go_upto_region 6 with fail
      have t0a : decide (0 < a.rk) = false := decide_eq_false (by omega)
      have t0b : decide ((0 : Int) < (a.rk : Int)) = false := decide_eq_false (by omega)
      have t0c : ((0 : Int) < (a.rk : Int)) = False := eq_false (by omega)
      go_loopw [35] (fun s35 wr => s35 = .int .i64 0 ∧ wr = z) (fun s35 _ => 0)
      case atStart => exact ⟨rfl, rfl⟩
      case round =>
        obtain ⟨rfl, hz⟩ := hrel
        rw [hz]
        clear hz
        have HZS := hid HVZ.out.size
        have HRS : Hid (RsL z (fun b => V.heap.size ≤ b) none 0 (woP a.rs i)) := hid (fun h0 => absurd h0 (by omega))
        have HB1W := hid (HB1.out.ext HVZ.out)
        have tk1 : True := trivial
        have tk2 : True := trivial
        go_wp2_with (first | (clear tk1; refine wpList_row (by rfl) 29 _ rfl _ rfl HBO.out Try.underlying29 rfl (by kernel_rfl) ?_) | (clear tk2; refine wpList_store_mid rfl 29 _ _ rfl (w.heap.size + 1) 0 #[.slice (some ⟨g, 0, none⟩) (a.tk - 1) cg, .int .i64 a.ctx, .int .i64 a.src.sch, str a.src.name, .int .u64 (a.src.node : Int), .int .u64 (a.src.svc : Int), .slice Ap a.ps.k cp, .slice none 0 0] (by rfl) (by rfl) (HB1W.out.there (Nat.le_refl 8)) (by kernel_rfl) (by simp [Value.oneCell']) ?_))
        have hY := setCells_all (ds := #[.slice (some ⟨g, 0, none⟩) (a.tk - 1) cg, .int .i64 a.ctx, .int .i64 a.src.sch, str a.src.name, .int .u64 (a.src.node : Int), .int .u64 (a.src.svc : Int), .slice Ap a.ps.k cp, .slice none 0 0]) HB1W.out rfl
        have hM2 := setCells_mod (b := w.heap.size + 1) (#[.slice (some ⟨g, 0, none⟩) (a.tk - 1) cg, .int .i64 a.ctx, .int .i64 a.src.sch, str a.src.name, .int .u64 (a.src.node : Int), .int .u64 (a.src.svc : Int), .slice Ap a.ps.k cp, .slice none 0 0] : Array Value).toList 0 (Mod.refl [w.heap.size + 1] z) (.inl (by simp))
        generalize hZ2 : World.setCells z _ 0 _ = Z2 at *
        refine bodyPost_ret (results_cell2 rfl _ (by rfl) (by rfl) hY Try.underlying29 rfl (by kernel_rfl)) rfl ⟨?_, ⟨some ⟨g, 0, none⟩, cg, Ap, cp, none, 0⟩, ?_, ?_, ?_⟩
        · exact ((Mod.of_ext (S := [w.heap.size + 1]) (HE.out.trans HVZ.out)).trans hM2).new (fun k hk => .inr (by rw [List.mem_singleton] at hk; omega))
        · have e : (a.wo i).rk = 0 := by show cntW i a.rk = 0; rw [hrk]; unfold cntW; split <;> rfl
          simp [asbV, asbC, e]
          exact ⟨rfl, rfl, rfl, rfl, rfl, rfl, rfl⟩
        · have hv := HVS.out
          refine ⟨HNS.out.mod hM2 (fun b o h _ => by cases h; have := HGV.out; simp; omega), fun b o h _ => by cases h; have := HGV.out; show w.heap.size ≤ g; omega, (HPS.out.mod hM2 (fun k hk _ => by have := hk.1; simp; omega)).weak (fun b _ hb => by have := hb.1; show w.heap.size ≤ b; omega), fun h0 => ?_⟩
          have e : (a.wo i).rk = 0 := by show cntW i a.rk = 0; rw [hrk]; unfold cntW; split <;> rfl
          omega
        · have hv := HVS.out
          exact ⟨z.heap.size, by have := HZS.out; omega, ((HFT.out.weak (R := fun b => (V.heap.size ≤ b ∧ b ≠ O) ∧ b < z.heap.size) (fun b hb hq => ⟨hq, hb⟩)).mod hM2 (fun k hk _ => by have := hk.1.1; simp; omega)).weak (fun b _ hb => ⟨by have := hb.1.1; omega, hb.2⟩), ((HSP.out.weak (R := fun b => (V.heap.size ≤ b ∧ b ≠ O) ∧ b < z.heap.size) (fun b hb hq => ⟨hq, hb⟩)).mod hM2 (fun k hk _ => by have := hk.1.1; simp; omega)).weak (fun b _ hb => ⟨by have := hb.1.1; omega, hb.2⟩), fun h0 => absurd h0 (by rw [show (a.wo i).rk = 0 by (show cntW i a.rk = 0; rw [hrk]; unfold cntW; split <;> rfl)]; omega)⟩
  obtain ⟨br, orr, hmr, _, _, _⟩ := h.r (by omega)
  have hmr : mr = some ⟨br, orr, none⟩ := hmr
  subst hmr
  clear hrk
  have HW := hid hw
  have HF := hid hf
  have tk0 : (a.tk : Int) ≤ 100000 := by have := hf.1; omega
  have rk0 : (a.rk : Int) ≤ 100000 := by have := hf.2.2.1; omega
  have HE := hid (((Mod.refl [] w).alloc (.cells (asbC a ⟨some ⟨bt, ot, none⟩, mtc, mp, mpc, (some ⟨br, orr, none⟩), mrc⟩) 29)).alloc (.cells #[.slice none 0 0, .int .i64 0, .int .i64 0, .string ⟨#[]⟩, .int .u64 0, .int .u64 0, .slice none 0 0, .slice none 0 0] 29))
  have HB0 := hid ((Blk.new w 29 (asbC a ⟨some ⟨bt, ot, none⟩, mtc, mp, mpc, (some ⟨br, orr, none⟩), mrc⟩)).alloc (.cells #[.slice none 0 0, .int .i64 0, .int .i64 0, .string ⟨#[]⟩, .int .u64 0, .int .u64 0, .slice none 0 0, .slice none 0 0] 29))
  have HB1 : Hid (Blk ((w.alloc (.cells (asbC a ⟨some ⟨bt, ot, none⟩, mtc, mp, mpc, (some ⟨br, orr, none⟩), mrc⟩) 29)).alloc (.cells #[.slice none 0 0, .int .i64 0, .int .i64 0, .string ⟨#[]⟩, .int .u64 0, .int .u64 0, .slice none 0 0, .slice none 0 0] 29)) (w.heap.size + 1) 29 #[.slice none 0 0, .int .i64 0, .int .i64 0, .string ⟨#[]⟩, .int .u64 0, .int .u64 0, .slice none 0 0, .slice none 0 0]) := Blk.newL _ _ _ (by simp)
  have HL := hid (h.ext HE.out)
  have HX := hid (firstI_some hx)
  have HI := hid hi
  have HK0 : Hid (0 < a.tk ∧ a.tk ≤ 100000) := hid ⟨by omega, hf.1⟩
  have i0 : (0 : Int) ≤ (i : Int) := by omega
  have i9 : (i : Int) ≤ 100000 := by have := hf.1; omega
  have hw1 : IntKind.i64.wrap ((i : Int) + 1) = (i : Int) + 1 := IntWalk.i64_in _ (by omega)
  clear hw hf h hbt hct hx hi
  go_enter Try.func16, Try.ntmps16
  go_upto_region 1 with fail
  show Code.wp _ _ _ _ ((w.alloc (.cells (asbC a ⟨some ⟨bt, ot, none⟩, mtc, mp, mpc, (some ⟨br, orr, none⟩), mrc⟩) 29)).alloc (.cells #[.slice none 0 0, .int .i64 0, .int .i64 0, .string ⟨#[]⟩, .int .u64 0, .int .u64 0, .slice none 0 0, .slice none 0 0] 29))
  have HVS : Hid (w.heap.size + 2 = ((w.alloc (.cells (asbC a ⟨some ⟨bt, ot, none⟩, mtc, mp, mpc, (some ⟨br, orr, none⟩), mrc⟩) 29)).alloc (.cells #[.slice none 0 0, .int .i64 0, .int .i64 0, .string ⟨#[]⟩, .int .u64 0, .int .u64 0, .slice none 0 0, .slice none 0 0] 29)).heap.size) := hid (by simp)
  generalize ((w.alloc (.cells (asbC a ⟨some ⟨bt, ot, none⟩, mtc, mp, mpc, (some ⟨br, orr, none⟩), mrc⟩) 29)).alloc (.cells #[.slice none 0 0, .int .i64 0, .int .i64 0, .string ⟨#[]⟩, .int .u64 0, .int .u64 0, .slice none 0 0, .slice none 0 0] 29)) = V at *
  have b0 : ∀ e : Later V, e.x.cell? ⟨w.heap.size, 0, none⟩ = some (.slice (some ⟨bt, ot, none⟩) a.tk mtc) := HB0.out.cellL 0 rfl
  have b1 : ∀ e : Later V, e.x.cell? ⟨w.heap.size, 1, none⟩ = some (.int .i64 a.ctx) := HB0.out.cellL 1 rfl
  have b6 : ∀ e : Later V, e.x.cell? ⟨w.heap.size, 6, none⟩ = some (.slice mp a.ps.k mpc) := HB0.out.cellL 6 rfl
  have b7 : ∀ e : Later V, e.x.cell? ⟨w.heap.size, 7, none⟩ = some (.slice (some ⟨br, orr, none⟩) a.rk mrc) := HB0.out.cellL 7 rfl
  have HRE : Hid (∀ e : Later V, e.x.rangeAt w.heap.size 2 [.int .i64 a.src.sch, str a.src.name, .int .u64 (a.src.node : Int), .int .u64 (a.src.svc : Int)]) := HB0.out.range 2 4 (by rfl)
  have KI := hid (fun e : Later V => IndexN_any (some ⟨bt, ot, none⟩) a.tg a.tk mtc t HW.out.1.1 e.x (HL.out.t.ext e.h))
  rw [HX.out] at KI
  obtain ⟨e, he⟩ := Later.self V
  rw [he]
  clear he
  go_upto_region 4 with (first | (go_at_call 41; refine (Ret.later (KI.out _)).mono ?_; rintro x _ ⟨rfl, e, rfl⟩))
  have HNT := hid HL.out.t
  have HPA := hid HL.out.p
  refine wp_region_held_drew (S := fun w' => Ext V w') (by kernel_rfl) e.h.drew (fun hHeld => ?_)
  generalize e.x.drew = x0 at *
  refine' wpAnyH_take (i := 0) (v := _) rfl (by kernel_rfl) (by kernel_rfl) (by kernel_rfl) (fun _ _ _ h => h) (Or.inl ⟨by rfl, ?hy1⟩) hHeld ?rest1
  case hy1 => (rintro W hM; go_simp; (try with_reducible rfl))
  case rest1 =>
  (try simp only [Act.put, List.getElem_toArray, List.getElem_cons_zero, List.getElem_cons_succ, List.setIfInBounds_toArray, List.set_cons_zero, List.set_cons_succ])
  refine' wpAnyH_take (i := 1) (v := _) rfl (by kernel_rfl) (by kernel_rfl) (by kernel_rfl) (fun _ _ _ h => h) (Or.inl ⟨by rfl, ?hy2⟩) hHeld ?rest2
  case hy2 => (rintro W hM; have q := b0 ⟨W, hM⟩; dsimp only at q; go_simp; (try with_reducible rfl))
  case rest2 =>
  (try simp only [Act.put, List.getElem_toArray, List.getElem_cons_zero, List.getElem_cons_succ, List.setIfInBounds_toArray, List.set_cons_zero, List.set_cons_succ])
  refine' wpAnyH_take (i := 3) (v := _) rfl (by kernel_rfl) (by kernel_rfl) (by kernel_rfl) (fun _ _ _ h => h) (Or.inl ⟨by rfl, ?hy3⟩) hHeld ?rest3
  case hy3 => (rintro W hM; go_simp; (try with_reducible rfl))
  case rest3 =>
  (try simp only [Act.put, List.getElem_toArray, List.getElem_cons_zero, List.getElem_cons_succ, List.setIfInBounds_toArray, List.set_cons_zero, List.set_cons_succ])
  refine' wpAnyH_take (i := 4) (v := _) rfl (by kernel_rfl) (by kernel_rfl) (by kernel_rfl) (fun _ _ _ h => h) (Or.inl ⟨by rfl, ?hy4⟩) hHeld ?rest4
  case hy4 => (rintro W hM; go_simp; (try with_reducible rfl))
  case rest4 =>
  (try simp only [Act.put, List.getElem_toArray, List.getElem_cons_zero, List.getElem_cons_succ, List.setIfInBounds_toArray, List.set_cons_zero, List.set_cons_succ])
  refine' wpAnyH_take (i := 5) (v := _) rfl (by kernel_rfl) (by kernel_rfl) (by kernel_rfl) (fun _ _ _ h => h) (Or.inl ⟨by rfl, ?hy5⟩) hHeld ?rest5
  case hy5 => (rintro W hM; go_simp; (try with_reducible rfl))
  case rest5 =>
  (try simp only [Act.put, List.getElem_toArray, List.getElem_cons_zero, List.getElem_cons_succ, List.setIfInBounds_toArray, List.set_cons_zero, List.set_cons_succ])
  refine' wpAnyH_take (i := 7) (v := _) rfl (by kernel_rfl) (by kernel_rfl) (by kernel_rfl) (fun _ _ _ h => h) (Or.inl ⟨by rfl, ?hy6⟩) hHeld ?rest6
  case hy6 => (rintro W hM; go_simp; (try with_reducible rfl))
  case rest6 =>
  (try simp only [Act.put, List.getElem_toArray, List.getElem_cons_zero, List.getElem_cons_succ, List.setIfInBounds_toArray, List.set_cons_zero, List.set_cons_succ])
  refine' wpAnyH_take (i := 8) (v := _) rfl (by kernel_rfl) (by kernel_rfl) (by kernel_rfl) (fun _ _ _ h => h) (Or.inl ⟨by rfl, ?hy7⟩) hHeld ?rest7
  case hy7 => (rintro W hM; have q := b1 ⟨W, hM⟩; dsimp only at q; go_simp; (try with_reducible rfl))
  case rest7 =>
  (try simp only [Act.put, List.getElem_toArray, List.getElem_cons_zero, List.getElem_cons_succ, List.setIfInBounds_toArray, List.set_cons_zero, List.set_cons_succ])
  refine' wpAnyH_take (i := 9) (v := _) rfl (by kernel_rfl) (by kernel_rfl) (by kernel_rfl) (fun _ _ _ h => h) (Or.inl ⟨by rfl, ?hy8⟩) hHeld ?rest8
  case hy8 => (rintro W hM; go_simp; (try with_reducible rfl))
  case rest8 =>
  (try simp only [Act.put, List.getElem_toArray, List.getElem_cons_zero, List.getElem_cons_succ, List.setIfInBounds_toArray, List.set_cons_zero, List.set_cons_succ])
  refine wpAnyH_take (i := 10) rfl (by kernel_rfl) (by kernel_rfl) (by kernel_rfl) (fun _ _ _ h => h) (yieldsIf_mid (by rfl) 26 _ rfl w.heap.size 2 rfl [.int .i64 a.src.sch, str a.src.name, .int .u64 (a.src.node : Int), .int .u64 (a.src.svc : Int)] (fun W hM => HRE.out ⟨W, hM⟩) Try.underlying26 rfl (by kernel_rfl)) hHeld ?_
  (try simp only [Act.put, List.getElem_toArray, List.getElem_cons_zero, List.getElem_cons_succ, List.setIfInBounds_toArray, List.set_cons_zero, List.set_cons_succ])
  refine' wpAnyH_take (i := 11) (v := _) rfl (by kernel_rfl) (by kernel_rfl) (by kernel_rfl) (fun _ _ _ h => h) (Or.inl ⟨by rfl, ?hy9⟩) hHeld ?rest9
  case hy9 => (rintro W hM; go_simp; (try with_reducible rfl))
  case rest9 =>
  (try simp only [Act.put, List.getElem_toArray, List.getElem_cons_zero, List.getElem_cons_succ, List.setIfInBounds_toArray, List.set_cons_zero, List.set_cons_succ])
  refine' wpAnyH_take (i := 12) (v := _) rfl (by kernel_rfl) (by kernel_rfl) (by kernel_rfl) (fun _ _ _ h => h) (Or.inl ⟨by rfl, ?hy10⟩) hHeld ?rest10
  case hy10 => (rintro W hM; have q := b6 ⟨W, hM⟩; dsimp only at q; go_simp; (try with_reducible rfl))
  case rest10 =>
  (try simp only [Act.put, List.getElem_toArray, List.getElem_cons_zero, List.getElem_cons_succ, List.setIfInBounds_toArray, List.set_cons_zero, List.set_cons_succ])
  refine wpAnyH_ready (rs := [2, 15]) (by kernel_rfl) (by simp) ?_
  refine AllReadyH.cons rfl (fun K hK => ?_) (AllReadyH.cons rfl (fun K hK => ?_) AllReadyH.nil)
  · go_simp
    go_at_call 44
    refine (CloneN_any a.tg a.tk HK0.out (some ⟨bt, ot, none⟩) mtc x0 (HNT.out.ext hHeld)).mono ?_
    rintro x x1 ⟨g, cg, rfl, hb, hown⟩
    have hgl := hown.lt g rfl
    have hgV : V.heap.size ≤ g := Nat.le_trans hHeld.size hgl.1
    have hgu := hgl.2
    refine hK.out _ _ (hHeld.trans hb) (fun hHeld => ?_)
    clear hK K hb
    (try simp only [Act.put, List.getElem_toArray, List.getElem_cons_zero, List.getElem_cons_succ, List.setIfInBounds_toArray, List.set_cons_zero, List.set_cons_succ])
    refine wpAnyH_ready (rs := [6, 15]) (by kernel_rfl) (by simp) ?_
    refine AllReadyH.cons rfl (fun K hK => ?_) (AllReadyH.cons rfl (fun K hK => ?_) AllReadyH.nil)
    · go_simp
      (try rw [hw1])
      go_at_call 43
      refine (DelN_any a.tg _ g a.tk cg i HI.out HF.out.1 x1 hown).mono ?_
      rintro x x2 ⟨rfl, hm, _, hns, hfz⟩
      have hft : softA x2 (fun b => V.heap.size ≤ b) (some ⟨g, 0, none⟩) := fun g' hg' => by cases hg'; exact ⟨hgV, Nat.lt_of_lt_of_le hgu hm.size, hfz⟩
      replace hgu := Nat.lt_of_lt_of_le hgu hm.size
      refine hK.out _ _ (((Mod.of_ext (S := [g]) hHeld).trans hm).new (fun k hk => .inr (by rw [List.mem_singleton] at hk; subst hk; exact hgV))) (fun hHeld => ?_)
      clear hK K hm hown
      (try simp only [Act.put, List.getElem_toArray, List.getElem_cons_zero, List.getElem_cons_succ, List.setIfInBounds_toArray, List.set_cons_zero, List.set_cons_succ])
      refine wpAnyH_ready (rs := [13, 15]) (by kernel_rfl) (by simp) ?_
      refine AllReadyH.cons rfl (fun K hK => ?_) (AllReadyH.cons rfl (fun K hK => ?_) AllReadyH.nil)
      · go_simp
        go_at_call 42
        refine (clone_fits HW.out.2.2.2.1 HF.out.2.1 mp mpc x2 (HPA.out.ext hHeld)).mono ?_
        rintro x x3 ⟨Ap, cp, rfl, hb, hps, hpc, hsp⟩
        have hft := hft.mod hb (by simp)
        have hns := hns.ext hb
        replace hgu := Nat.lt_of_lt_of_le hgu hb.size
        have hps := hps.weak (R := (fun b => V.heap.size ≤ b)) (fun b _ hb => Nat.le_trans hHeld.size hb)
        have hsp := hsp.weak (R := (fun b => V.heap.size ≤ b)) (fun b _ hb => Nat.le_trans hHeld.size hb)
        refine hK.out _ _ (hHeld.trans hb) (fun hHeld => ?_)
        clear hK K hb
        (try simp only [Act.put, List.getElem_toArray, List.getElem_cons_zero, List.getElem_cons_succ, List.setIfInBounds_toArray, List.set_cons_zero, List.set_cons_succ])
        refine' wpAnyH_take (i := 14) (v := _) rfl (by kernel_rfl) (by kernel_rfl) (by kernel_rfl) (fun _ _ _ h => h) (Or.inl ⟨by rfl, ?hy11⟩) hHeld ?rest11
        case hy11 => (rintro W hM; go_simp; (try with_reducible rfl))
        case rest11 =>
        (try simp only [Act.put, List.getElem_toArray, List.getElem_cons_zero, List.getElem_cons_succ, List.setIfInBounds_toArray, List.set_cons_zero, List.set_cons_succ])
        refine wpAnyH_ready (rs := [15]) (by kernel_rfl) (by simp) ?_
        refine AllReadyH.cons rfl (fun K hK => ?_) AllReadyH.nil
        go_simp
        generalize hV : World.alloc x3 _ = x4
        have hBO : Blk x4 x3.heap.size 29 #[.slice none 0 0, .int .i64 0, .int .i64 0, .string ⟨#[]⟩, .int .u64 0, .int .u64 0, .slice none 0 0, .slice none 0 0] := by rw [← hV]; exact Blk.new _ _ _
        have hXX : Ext x3 x4 := by rw [← hV]; exact (Mod.refl [] _).alloc _
        have hOV : V.heap.size ≤ x3.heap.size := hHeld.size
        clear hV
        have hOg : x3.heap.size ≠ g := Nat.ne_of_gt hgu
        replace hgu := Nat.lt_of_lt_of_le hgu hXX.size
        have hns := hns.ext hXX
        have hft := hft.mod hXX (by simp)
        have hps := (hps.weak (R := fun b => V.heap.size ≤ b ∧ b ≠ x3.heap.size) (fun b hb hq => ⟨hq, Nat.ne_of_lt hb⟩)).ext hXX
        have hsp := (hsp.weak (R := fun b => V.heap.size ≤ b ∧ b ≠ x3.heap.size) (fun b hb hq => ⟨hq, Nat.ne_of_lt hb⟩)).mod hXX (by simp)
        refine hK.out _ _ (hHeld.trans hXX) (fun hHeld => ?_)
        clear hK K hXX
        (try simp only [Act.put, List.getElem_toArray, List.getElem_cons_zero, List.getElem_cons_succ, List.setIfInBounds_toArray, List.set_cons_zero, List.set_cons_succ])
        generalize x3.heap.size = O at *
        refine wpAnyH_ready (rs := [16]) (by kernel_rfl) (by simp) ?_
        refine AllReadyH.cons rfl (fun K hK => ?_) AllReadyH.nil
        refine wp_store_mid 29 _ _ rfl O 0 #[.slice (some ⟨g, 0, none⟩) (a.tk - 1) cg, .int .i64 a.ctx, .int .i64 a.src.sch, str a.src.name, .int .u64 (a.src.node : Int), .int .u64 (a.src.svc : Int), .slice Ap a.ps.k cp, .slice none 0 0] (by rfl) (by rfl) (hBO.there (Nat.le_refl 8)) (by kernel_rfl) (by simp [Value.oneCell']) ?_
        have hZB := setCells_all (ds := #[.slice (some ⟨g, 0, none⟩) (a.tk - 1) cg, .int .i64 a.ctx, .int .i64 a.src.sch, str a.src.name, .int .u64 (a.src.node : Int), .int .u64 (a.src.svc : Int), .slice Ap a.ps.k cp, .slice none 0 0]) hBO rfl
        have hZO := setCells_mod (w := x4) (W := x4) (S := [O]) (b := O) (#[.slice (some ⟨g, 0, none⟩) (a.tk - 1) cg, .int .i64 a.ctx, .int .i64 a.src.sch, str a.src.name, .int .u64 (a.src.node : Int), .int .u64 (a.src.svc : Int), .slice Ap a.ps.k cp, .slice none 0 0] : Array Value).toList 0 (Mod.refl _ _) (.inl (by simp))
        generalize hZ : World.setCells _ O 0 _ = z at *
        clear hZ
        have hZM : Ext V z := ((Mod.of_ext (S := [O]) hHeld).trans hZO).new (fun k hk => .inr (by rw [List.mem_singleton] at hk; subst hk; exact hOV))
        refine hK.out _ _ hZM (fun hHeld => ?_)
        clear hK K
        (try simp only [Act.put, List.getElem_toArray, List.getElem_cons_zero, List.getElem_cons_succ, List.setIfInBounds_toArray, List.set_cons_zero, List.set_cons_succ])
        refine wpAnyH_done (by kernel_rfl) ?_ _
        have HBO := hid hZB
        have HNS := hid (hns.mod hZO (fun b o h _ => by cases h; simp; exact fun h => hOg h.symm))
        have HPS := hid (hps.mod hZO (fun k hk _ => by simp; exact hk.2))
        have HSP := hid (hsp.mod hZO (fun k hk _ => by simp; exact hk.2))
        have HFT : Hid (softA z (fun b => V.heap.size ≤ b ∧ b ≠ O) (some ⟨g, 0, none⟩)) := hid ((softA.weak (R := fun b => V.heap.size ≤ b ∧ b ≠ O) (fun g' hg' => by obtain ⟨q1, q2, q3⟩ := hft g' hg'; exact ⟨⟨q1, by cases hg'; exact fun h => hOg h.symm⟩, q2, q3⟩) (fun _ _ h => h)).mod hZO (fun k hk _ => by simp; exact hk.2))
        have HVZ := hid hZM
        have HOG := hid hOg
        have HGV := hid hgV
        have HOV := hid hOV
        have HGZ := hid (Nat.lt_of_lt_of_le hgu hZO.size)
        clear hZB hns hps hsp hft hfz hZM hZO hHeld hBO hOg hOV hgV hgu hpc
        have c7z : z.cell? ⟨w.heap.size, 7, none⟩ = some (.slice (some ⟨br, orr, none⟩) a.rk mrc) := b7 ⟨z, HVZ.out⟩
        go_upto_region 6 with fail
        have HZS : Hid (V.heap.size ≤ z.heap.size ∧ O < z.heap.size ∧ g < z.heap.size) := hid ⟨HVZ.out.size, HBO.out.lt, HGZ.out⟩
        go_loopw [35] (fun s35 wr => ∃ j : Nat, s35 = .int .i64 (j : Int) ∧ Hid (∃ A' c' ac, j ≤ a.rk ∧ Ext V wr ∧ z.heap.size ≤ wr.heap.size ∧ Blk wr O 29 #[.slice (some ⟨g, 0, none⟩) (a.tk - 1) cg, .int .i64 a.ctx, .int .i64 a.src.sch, str a.src.name, .int .u64 (a.src.node : Int), .int .u64 (a.src.svc : Int), .slice Ap a.ps.k cp, .slice A' (cntW i j) c'] ∧ RwG resS 22 wr (fun b => z.heap.size ≤ b) z.heap.size A' c' (cntW i j) (woP a.rs i) ac ∧ NsL wr (some ⟨g, 0, none⟩) (a.tk - 1) (delN a.tg i) ∧ PsL wr (fun b => (V.heap.size ≤ b ∧ b ≠ O) ∧ b < z.heap.size) Ap a.ps ∧ softA wr (fun b => (V.heap.size ≤ b ∧ b ≠ O) ∧ b < z.heap.size) Ap ∧ softA wr (fun b => (V.heap.size ≤ b ∧ b ≠ O) ∧ b < z.heap.size) (some ⟨g, 0, none⟩))) (fun s35 _ => a.rk - (intOf s35).toNat)
        case atStart => exact ⟨0, rfl, (show Hid _ from ⟨none, 0, fun _ => (none, 0), Nat.zero_le _, HVZ.out, Nat.le_refl _, HBO.out, RwG.nil, HNS.out, HPS.out.weak (fun b hb hq => ⟨hq, hb⟩), HSP.out.weak (fun b hb hq => ⟨hq, hb⟩), HFT.out.weak (fun b hb hq => ⟨hq, hb⟩)⟩)⟩
        case round =>
          obtain ⟨j, rfl, hS⟩ := hrel
          rename World => wr
          have j0 : (0 : Int) ≤ (j : Int) := by omega
          by_cases hlt : j < a.rk
          · obtain ⟨A', c', ac, hjk, HVW', hzw', hB', hR', hN', hP', hsp', hft'⟩ := hS.out
            have HSP' := hid hsp'
            have HFT' := hid hft'
            clear hsp' hft'
            have HWZ0 := hid hzw'
            obtain ⟨b', o', Aj, cj, hmr, hbr, q0, hkc, hPj⟩ := HL.out.r.at HVW' hlt
            have hmr : (some ⟨br, orr, none⟩ : Option Addr) = some ⟨b', o', none⟩ := hmr
            cases hmr
            have HVW := hid HVW'
            have HB := hid hB'
            have HR := hid hR'
            have HN := hid hN'
            have HP := hid hP'
            have HPJ := hid hPj
            have tc : decide (j < a.rk) = true := by simp [hlt]
            have j1 : (j : Int) < (a.rk : Int) := by omega
            have HLT := hid hlt
            clear hlt hjk HVW' hzw' hB' hR' hN' hP' hPj hkc hbr hS
            by_cases hji : j = i
            · subst hji
              have ea : ((j : Int) == (j : Int)) = true := by simp
              have eb : ((j : Int) != (j : Int)) = false := by simp
              go_wp2_with fail
              go_roundw
              case rel => exact ⟨j + 1, by go_num, (show Hid _ from ⟨A', c', ac, HLT.out, HVW.out, HWZ0.out, by rw [show cntW j (j + 1) = cntW j j by unfold cntW; rw [if_neg (by omega), if_pos (Nat.le_refl _)]; rfl]; exact HB.out, by rw [show cntW j (j + 1) = cntW j j by unfold cntW; rw [if_neg (by omega), if_pos (Nat.le_refl _)]; rfl]; exact HR.out, HN.out, HP.out, HSP'.out, HFT'.out⟩)⟩
              case measure => have := HLT.out; simp [intOf]; omega
            · have ea : ((j : Int) == (i : Int)) = false := by rw [beq_eq_false_iff_ne]; omega
              have eb : ((j : Int) != (i : Int)) = true := by rw [bne_iff_ne]; omega
              have ec : ((j : Int) = (i : Int)) = False := eq_false (by omega)
              have ed : (j = i) = False := eq_false hji
              have HCN : Hid (cntW i (j + 1) = cntW i j + 1) := hid (by unfold cntW; split <;> split <;> omega)
              have HWP : Hid (woP a.rs i (cntW i j) = a.rs j) := hid (by unfold cntW woP; split <;> split <;> first | rfl | (congr 1; omega) | (exfalso; omega))
              have HCB : Hid (cntW i j ≤ j) := hid (by unfold cntW; split <;> omega)
              have hkj : (a.rs j).k ≤ 100000 := (HF.out.2.2.2 j HLT.out).1
              clear hji
              generalize cntW i j = nn at *
              go_upto_region 9 with fail
              clear q0
              have HWZ : Hid (z.heap.size ≤ wr.heap.size) := hid HWZ0.out
              refine wp_region_held_drew (S := fun w' => Mod (O :: obs A') wr w') (by kernel_rfl) (Mod.refl _ _).drew (fun hHeld => ?_)
              have hO9 : Blk wr.drew O 29 #[.slice (some ⟨g, 0, none⟩) (a.tk - 1) cg, .int .i64 a.ctx, .int .i64 a.src.sch, str a.src.name, .int .u64 (a.src.node : Int), .int .u64 (a.src.svc : Int), .slice Ap a.ps.k cp, .slice A' nn c'] := HB.out.drew
              have hR9 := HR.out.ext ((Mod.refl [] wr).drew)
              have hJ9 : PsL wr.drew anyQ Aj (a.rs j) := HPJ.out.ext ((Mod.refl [] wr).drew)
              generalize wr.drew = y0 at *
              refine' wpAnyH_take (i := 0) (v := _) rfl (by kernel_rfl) (by kernel_rfl) (by kernel_rfl) (fun _ _ _ h => h) (Or.inl ⟨by rfl, ?hy12⟩) hHeld ?rest12
              case hy12 => (rintro W hM; go_simp; (try with_reducible rfl))
              case rest12 =>
              (try simp only [Act.put, List.getElem_toArray, List.getElem_cons_zero, List.getElem_cons_succ, List.setIfInBounds_toArray, List.set_cons_zero, List.set_cons_succ])
              refine' wpAnyH_take (i := 2) (v := _) rfl (by kernel_rfl) (by kernel_rfl) (by kernel_rfl) (fun _ _ _ h => h) (Or.inl ⟨by rfl, ?hy13⟩) hHeld ?rest13
              case hy13 => (rintro W hM; go_simp; (try with_reducible rfl))
              case rest13 =>
              (try simp only [Act.put, List.getElem_toArray, List.getElem_cons_zero, List.getElem_cons_succ, List.setIfInBounds_toArray, List.set_cons_zero, List.set_cons_succ])
              refine wpAnyH_ready (rs := [1, 3]) (by kernel_rfl) (by simp) ?_
              refine AllReadyH.cons rfl (fun K hK => ?_) (AllReadyH.cons rfl (fun K hK => ?_) AllReadyH.nil)
              · have c7 : y0.cell? ⟨O, 7, none⟩ = some (.slice A' nn c') := hO9.cell 7
                go_simp
                refine hK.out _ _ hHeld (fun hHeld => ?_)
                clear hK K c7
                (try simp only [Act.put, List.getElem_toArray, List.getElem_cons_zero, List.getElem_cons_succ, List.setIfInBounds_toArray, List.set_cons_zero, List.set_cons_succ])
                refine wpAnyH_ready (rs := [3]) (by kernel_rfl) (by simp) ?_
                refine AllReadyH.cons rfl (fun K hK => ?_) AllReadyH.nil
                go_simp
                go_at_call 42
                refine (clone_fits (HW.out.2.2.2.2.2 j HLT.out) (HF.out.2.2.2 j HLT.out) Aj cj y0 hJ9).mono ?_
                rintro x y6 ⟨A5, c5, rfl, hb, hp5, hc5, hs5⟩
                have hsz5 : wr.heap.size ≤ y0.heap.size := hHeld.size
                have hO9 := hO9.ext hb
                have hR9 := hR9.ext hb
                refine hK.out _ _ (hHeld.trans (hb.mono (by simp))) (fun hHeld => ?_)
                clear hK K
                (try simp only [Act.put, List.getElem_toArray, List.getElem_cons_zero, List.getElem_cons_succ, List.setIfInBounds_toArray, List.set_cons_zero, List.set_cons_succ])
                have hp5 : PsL y6 (fun b => wr.heap.size ≤ b) A5 (a.rs j) := hp5.weak (fun b _ h => Nat.le_trans hsz5 h)
                have hs5 : softA y6 (fun b => wr.heap.size ≤ b) A5 := hs5.weak (fun b _ h => Nat.le_trans hsz5 h)
                refine wpAnyH_ready (rs := [4]) (by kernel_rfl) (by simp) ?_
                refine AllReadyH.cons rfl (fun K hK => ?_) AllReadyH.nil
                go_simp
                have hQ2 : Blk (World.alloc y6 (.cells #[.slice A5 (a.rs j).k c5] 22)) y6.heap.size 22 #[.slice A5 (a.rs j).k c5] := Blk.new _ _ _
                have hXX : Ext y6 (World.alloc y6 (.cells #[.slice A5 (a.rs j).k c5] 22)) := (Mod.refl [] _).alloc _
                generalize World.alloc y6 (.cells #[.slice A5 (a.rs j).k c5] 22) = y7 at *
                have hO9 := hO9.ext hXX
                have hR9 := hR9.ext hXX
                have hp5 := hp5.ext hXX
                have hs5 := hs5.mod hXX (by simp)
                refine hK.out _ _ (hHeld.trans (hXX.mono (by simp))) (fun hHeld => ?_)
                clear hK K hXX
                (try simp only [Act.put, List.getElem_toArray, List.getElem_cons_zero, List.getElem_cons_succ, List.setIfInBounds_toArray, List.set_cons_zero, List.set_cons_succ])
                generalize y6.heap.size = gq at *
                refine wpAnyH_ready (rs := [5]) (by kernel_rfl) (by simp) ?_
                refine AllReadyH.cons rfl (fun K hK => ?_) AllReadyH.nil
                have hI : resS.hang y7 (fun b => z.heap.size ≤ b ∧ offA A' b) (a.rs j) (A5, c5) := ⟨⟨hp5.weak (fun b _ hb => ⟨by have := HWZ.out; have hb : wr.heap.size ≤ b := hb; omega, fun g' hg' => by have := (HR.out.off g' hg').2; have hb : wr.heap.size ≤ b := hb; omega⟩), hc5⟩, hs5.weak (fun b _ hb => ⟨by have := HWZ.out; have hb : wr.heap.size ≤ b := hb; omega, fun g' hg' => by have := (HR.out.off g' hg').2; have hb : wr.heap.size ≤ b := hb; omega⟩)⟩
                obtain ⟨ib, hi, hz0, hz1, hz2⟩ := info_parts infoPairs
                refine wp_append_lies _ _ _ 27 (by rfl) z.heap.size 22 ib _ 1 24 Try.underlying27 hi hz0 hz1 hz2 (by rfl) (by decide) _ nn _ (by rfl) hR9.own ⟨gq, 0, none⟩ 1 1 [.slice A5 (a.rs j).k c5] (by rfl) (by rfl) ?gnewy8 ?goney8 (by decide) ?gmy8 ?gby8 ?gbasey8 (y7.heap.size) rfl ?gky8
                case gnewy8 =>
                  intro j' u hu
                  rw [addr_add, Nat.zero_add, hQ2.cell j']
                  simpa using hu
                case goney8 => intro u hu; simp at hu; subst hu; rfl
                case gmy8 => have := HLT.out; have := HF.out.2.2.1; have := HCB.out; unfold maxLen; omega
                case gby8 => have := HLT.out; have := HF.out.2.2.1; have := HCB.out; omega
                case gbasey8 => have := HWZ.out; have := hHeld.size; omega
                intro g' cp' y8 hown' hgr' hat' hlt'
                obtain ⟨ac', hR5⟩ := hR9.append hI HWP.out hown' hgr' hat'
                have hOO : O ∉ obs A' := by
                  refine offA_obs (fun g' hg' => ?_)
                  have := (HR.out.off g' hg').1
                  have := HZS.out.2.1
                  omega
                have hO9 := hO9.mod (grown_obs hgr') hOO
                refine hK.out _ _ (hHeld.trans ((grown_obs hgr').mono (by simp; exact fun k hk => .inr hk))) (fun hHeld => ?_)
                clear hK K
                (try simp only [Act.put, List.getElem_toArray, List.getElem_cons_zero, List.getElem_cons_succ, List.setIfInBounds_toArray, List.set_cons_zero, List.set_cons_succ])
                refine' wpAnyH_take (i := 6) (v := _) rfl (by kernel_rfl) (by kernel_rfl) (by kernel_rfl) (fun _ _ _ h => h) (Or.inl ⟨by rfl, ?hy14⟩) hHeld ?rest14
                case hy14 => (rintro W hM; go_simp; (try with_reducible rfl))
                case rest14 =>
                (try simp only [Act.put, List.getElem_toArray, List.getElem_cons_zero, List.getElem_cons_succ, List.setIfInBounds_toArray, List.set_cons_zero, List.set_cons_succ])
                refine wpAnyH_ready (rs := [7]) (by kernel_rfl) (by simp) ?_
                refine AllReadyH.cons rfl (fun K hK => ?_) AllReadyH.nil
                have c7 : y8.cell? ⟨O, 7, none⟩ = some (.slice A' nn c') := hO9.cell 7
                have f7 := hO9.frozen 7
                go_simp
                have hOf := hO9.set_ 7 (.slice (some ⟨g', 0, none⟩) (nn + 1) cp')
                have hM7 := (Mod.refl [O] y8).setCell (p := ⟨O, 7, none⟩) (.inl (by simp)) (.slice (some ⟨g', 0, none⟩) (nn + 1) cp')
                generalize World.setCell y8 ⟨O, 7, none⟩ _ = yf at *
                refine hK.out _ _ (hHeld.trans (hM7.mono (by simp))) (fun hHeld => ?_)
                clear hK K c7 f7
                (try simp only [Act.put, List.getElem_toArray, List.getElem_cons_zero, List.getElem_cons_succ, List.setIfInBounds_toArray, List.set_cons_zero, List.set_cons_succ])
                refine wpAnyH_done (by kernel_rfl) ?_ _
                have hg'z : g' ≠ O := by
                  have h1 : z.heap.size ≤ g' := (hR5.off _ rfl).1
                  have := HZS.out.2.1
                  omega
                have HBF : Hid (Blk yf O 29 #[.slice (some ⟨g, 0, none⟩) (a.tk - 1) cg, .int .i64 a.ctx, .int .i64 a.src.sch, str a.src.name, .int .u64 (a.src.node : Int), .int .u64 (a.src.svc : Int), .slice Ap a.ps.k cp, .slice (some ⟨g', 0, none⟩) (nn + 1) cp']) := hid hOf
                have HRF := hid (hR5.modQ hM7 (fun g'' hg'' => by cases hg''; simpa using hg'z) (fun k hk _ => by have := HZS.out.2.1; have hk : z.heap.size ≤ k := hk; simp; omega))
                have HMF : Hid (Mod (O :: obs A') wr yf) := hid hHeld
                clear hOf hR5 hM7 hHeld hO9 hR9 hown' hgr' hat' hlt' hp5 hs5 hQ2 hI hOO hJ9
                go_wp2_with fail
                go_roundw
                case rel =>
                  refine ⟨j + 1, by go_num, (show Hid _ from ⟨some ⟨g', 0, none⟩, cp', ac', HLT.out, ?_, Nat.le_trans HWZ.out HMF.out.size, by rw [HCN.out]; exact HBF.out, by rw [HCN.out]; exact HRF.out, HN.out.mod HMF.out ?_, HP.out.mod HMF.out ?_, HSP'.out.mod HMF.out ?_, HFT'.out.mod HMF.out ?_⟩)⟩
                  · exact ((Mod.of_ext (S := O :: obs A') HVW.out).trans HMF.out).new (fun k hk => .inr (by
                      rcases List.mem_cons.1 hk with rfl | hk
                      · exact HOV.out
                      · cases A' with
                        | none => cases hk
                        | some g'' => have := (HR.out.off g'' rfl).1; have := HZS.out.1; simp [obs] at hk; omega))
                  · intro b o h _
                    cases h
                    refine fun hm => (List.mem_cons.1 hm).elim (fun h => HOG.out h.symm) (offA_obs (fun g'' hg'' => ?_))
                    have := (HR.out.off g'' hg'').1
                    have := HZS.out.2.2
                    show g ≠ g''.block
                    omega
                  · intro k hk _
                    refine fun hm => (List.mem_cons.1 hm).elim hk.1.2 (offA_obs (fun g'' hg'' => ?_))
                    have := (HR.out.off g'' hg'').1
                    have := hk.2
                    omega
                  · intro k hk _
                    refine fun hm => (List.mem_cons.1 hm).elim hk.1.2 (offA_obs (fun g'' hg'' => ?_))
                    have := (HR.out.off g'' hg'').1
                    have := hk.2
                    omega
                  · intro k hk _
                    refine fun hm => (List.mem_cons.1 hm).elim hk.1.2 (offA_obs (fun g'' hg'' => ?_))
                    have := (HR.out.off g'' hg'').1
                    have := hk.2
                    omega
                case measure => have := HLT.out; simp [intOf]; omega
              · go_simp
                go_at_call 42
                refine (clone_fits (HW.out.2.2.2.2.2 j HLT.out) (HF.out.2.2.2 j HLT.out) Aj cj y0 hJ9).mono ?_
                rintro x y9 ⟨A5, c5, rfl, hb, hp5, hc5, hs5⟩
                have hsz5 : wr.heap.size ≤ y0.heap.size := hHeld.size
                have hO9 := hO9.ext hb
                have hR9 := hR9.ext hb
                refine hK.out _ _ (hHeld.trans (hb.mono (by simp))) (fun hHeld => ?_)
                clear hK K
                (try simp only [Act.put, List.getElem_toArray, List.getElem_cons_zero, List.getElem_cons_succ, List.setIfInBounds_toArray, List.set_cons_zero, List.set_cons_succ])
                have hp5 : PsL y9 (fun b => wr.heap.size ≤ b) A5 (a.rs j) := hp5.weak (fun b _ h => Nat.le_trans hsz5 h)
                have hs5 : softA y9 (fun b => wr.heap.size ≤ b) A5 := hs5.weak (fun b _ h => Nat.le_trans hsz5 h)
                refine wpAnyH_ready (rs := [1, 4]) (by kernel_rfl) (by simp) ?_
                refine AllReadyH.cons rfl (fun K hK => ?_) (AllReadyH.cons rfl (fun K hK => ?_) AllReadyH.nil)
                · have c7 : y9.cell? ⟨O, 7, none⟩ = some (.slice A' nn c') := hO9.cell 7
                  go_simp
                  refine hK.out _ _ hHeld (fun hHeld => ?_)
                  clear hK K c7
                  (try simp only [Act.put, List.getElem_toArray, List.getElem_cons_zero, List.getElem_cons_succ, List.setIfInBounds_toArray, List.set_cons_zero, List.set_cons_succ])
                  refine wpAnyH_ready (rs := [4]) (by kernel_rfl) (by simp) ?_
                  refine AllReadyH.cons rfl (fun K hK => ?_) AllReadyH.nil
                  go_simp
                  have hQ2 : Blk (World.alloc y9 (.cells #[.slice A5 (a.rs j).k c5] 22)) y9.heap.size 22 #[.slice A5 (a.rs j).k c5] := Blk.new _ _ _
                  have hXX : Ext y9 (World.alloc y9 (.cells #[.slice A5 (a.rs j).k c5] 22)) := (Mod.refl [] _).alloc _
                  generalize World.alloc y9 (.cells #[.slice A5 (a.rs j).k c5] 22) = y11 at *
                  have hO9 := hO9.ext hXX
                  have hR9 := hR9.ext hXX
                  have hp5 := hp5.ext hXX
                  have hs5 := hs5.mod hXX (by simp)
                  refine hK.out _ _ (hHeld.trans (hXX.mono (by simp))) (fun hHeld => ?_)
                  clear hK K hXX
                  (try simp only [Act.put, List.getElem_toArray, List.getElem_cons_zero, List.getElem_cons_succ, List.setIfInBounds_toArray, List.set_cons_zero, List.set_cons_succ])
                  generalize y9.heap.size = gq at *
                  refine wpAnyH_ready (rs := [5]) (by kernel_rfl) (by simp) ?_
                  refine AllReadyH.cons rfl (fun K hK => ?_) AllReadyH.nil
                  have hI : resS.hang y11 (fun b => z.heap.size ≤ b ∧ offA A' b) (a.rs j) (A5, c5) := ⟨⟨hp5.weak (fun b _ hb => ⟨by have := HWZ.out; have hb : wr.heap.size ≤ b := hb; omega, fun g' hg' => by have := (HR.out.off g' hg').2; have hb : wr.heap.size ≤ b := hb; omega⟩), hc5⟩, hs5.weak (fun b _ hb => ⟨by have := HWZ.out; have hb : wr.heap.size ≤ b := hb; omega, fun g' hg' => by have := (HR.out.off g' hg').2; have hb : wr.heap.size ≤ b := hb; omega⟩)⟩
                  obtain ⟨ib, hi, hz0, hz1, hz2⟩ := info_parts infoPairs
                  refine wp_append_lies _ _ _ 27 (by rfl) z.heap.size 22 ib _ 1 24 Try.underlying27 hi hz0 hz1 hz2 (by rfl) (by decide) _ nn _ (by rfl) hR9.own ⟨gq, 0, none⟩ 1 1 [.slice A5 (a.rs j).k c5] (by rfl) (by rfl) ?gnewy12 ?goney12 (by decide) ?gmy12 ?gby12 ?gbasey12 (y11.heap.size) rfl ?gky12
                  case gnewy12 =>
                    intro j' u hu
                    rw [addr_add, Nat.zero_add, hQ2.cell j']
                    simpa using hu
                  case goney12 => intro u hu; simp at hu; subst hu; rfl
                  case gmy12 => have := HLT.out; have := HF.out.2.2.1; have := HCB.out; unfold maxLen; omega
                  case gby12 => have := HLT.out; have := HF.out.2.2.1; have := HCB.out; omega
                  case gbasey12 => have := HWZ.out; have := hHeld.size; omega
                  intro g' cp' y12 hown' hgr' hat' hlt'
                  obtain ⟨ac', hR5⟩ := hR9.append hI HWP.out hown' hgr' hat'
                  have hOO : O ∉ obs A' := by
                    refine offA_obs (fun g' hg' => ?_)
                    have := (HR.out.off g' hg').1
                    have := HZS.out.2.1
                    omega
                  have hO9 := hO9.mod (grown_obs hgr') hOO
                  refine hK.out _ _ (hHeld.trans ((grown_obs hgr').mono (by simp; exact fun k hk => .inr hk))) (fun hHeld => ?_)
                  clear hK K
                  (try simp only [Act.put, List.getElem_toArray, List.getElem_cons_zero, List.getElem_cons_succ, List.setIfInBounds_toArray, List.set_cons_zero, List.set_cons_succ])
                  refine' wpAnyH_take (i := 6) (v := _) rfl (by kernel_rfl) (by kernel_rfl) (by kernel_rfl) (fun _ _ _ h => h) (Or.inl ⟨by rfl, ?hy15⟩) hHeld ?rest15
                  case hy15 => (rintro W hM; go_simp; (try with_reducible rfl))
                  case rest15 =>
                  (try simp only [Act.put, List.getElem_toArray, List.getElem_cons_zero, List.getElem_cons_succ, List.setIfInBounds_toArray, List.set_cons_zero, List.set_cons_succ])
                  refine wpAnyH_ready (rs := [7]) (by kernel_rfl) (by simp) ?_
                  refine AllReadyH.cons rfl (fun K hK => ?_) AllReadyH.nil
                  have c7 : y12.cell? ⟨O, 7, none⟩ = some (.slice A' nn c') := hO9.cell 7
                  have f7 := hO9.frozen 7
                  go_simp
                  have hOf := hO9.set_ 7 (.slice (some ⟨g', 0, none⟩) (nn + 1) cp')
                  have hM7 := (Mod.refl [O] y12).setCell (p := ⟨O, 7, none⟩) (.inl (by simp)) (.slice (some ⟨g', 0, none⟩) (nn + 1) cp')
                  generalize World.setCell y12 ⟨O, 7, none⟩ _ = yf at *
                  refine hK.out _ _ (hHeld.trans (hM7.mono (by simp))) (fun hHeld => ?_)
                  clear hK K c7 f7
                  (try simp only [Act.put, List.getElem_toArray, List.getElem_cons_zero, List.getElem_cons_succ, List.setIfInBounds_toArray, List.set_cons_zero, List.set_cons_succ])
                  refine wpAnyH_done (by kernel_rfl) ?_ _
                  have hg'z : g' ≠ O := by
                    have h1 : z.heap.size ≤ g' := (hR5.off _ rfl).1
                    have := HZS.out.2.1
                    omega
                  have HBF : Hid (Blk yf O 29 #[.slice (some ⟨g, 0, none⟩) (a.tk - 1) cg, .int .i64 a.ctx, .int .i64 a.src.sch, str a.src.name, .int .u64 (a.src.node : Int), .int .u64 (a.src.svc : Int), .slice Ap a.ps.k cp, .slice (some ⟨g', 0, none⟩) (nn + 1) cp']) := hid hOf
                  have HRF := hid (hR5.modQ hM7 (fun g'' hg'' => by cases hg''; simpa using hg'z) (fun k hk _ => by have := HZS.out.2.1; have hk : z.heap.size ≤ k := hk; simp; omega))
                  have HMF : Hid (Mod (O :: obs A') wr yf) := hid hHeld
                  clear hOf hR5 hM7 hHeld hO9 hR9 hown' hgr' hat' hlt' hp5 hs5 hQ2 hI hOO hJ9
                  go_wp2_with fail
                  go_roundw
                  case rel =>
                    refine ⟨j + 1, by go_num, (show Hid _ from ⟨some ⟨g', 0, none⟩, cp', ac', HLT.out, ?_, Nat.le_trans HWZ.out HMF.out.size, by rw [HCN.out]; exact HBF.out, by rw [HCN.out]; exact HRF.out, HN.out.mod HMF.out ?_, HP.out.mod HMF.out ?_, HSP'.out.mod HMF.out ?_, HFT'.out.mod HMF.out ?_⟩)⟩
                    · exact ((Mod.of_ext (S := O :: obs A') HVW.out).trans HMF.out).new (fun k hk => .inr (by
                        rcases List.mem_cons.1 hk with rfl | hk
                        · exact HOV.out
                        · cases A' with
                          | none => cases hk
                          | some g'' => have := (HR.out.off g'' rfl).1; have := HZS.out.1; simp [obs] at hk; omega))
                    · intro b o h _
                      cases h
                      refine fun hm => (List.mem_cons.1 hm).elim (fun h => HOG.out h.symm) (offA_obs (fun g'' hg'' => ?_))
                      have := (HR.out.off g'' hg'').1
                      have := HZS.out.2.2
                      show g ≠ g''.block
                      omega
                    · intro k hk _
                      refine fun hm => (List.mem_cons.1 hm).elim hk.1.2 (offA_obs (fun g'' hg'' => ?_))
                      have := (HR.out.off g'' hg'').1
                      have := hk.2
                      omega
                    · intro k hk _
                      refine fun hm => (List.mem_cons.1 hm).elim hk.1.2 (offA_obs (fun g'' hg'' => ?_))
                      have := (HR.out.off g'' hg'').1
                      have := hk.2
                      omega
                    · intro k hk _
                      refine fun hm => (List.mem_cons.1 hm).elim hk.1.2 (offA_obs (fun g'' hg'' => ?_))
                      have := (HR.out.off g'' hg'').1
                      have := hk.2
                      omega
                  case measure => have := HLT.out; simp [intOf]; omega
                · go_simp
                  have hQ2 : Blk (World.alloc y9 (.cells #[.slice A5 (a.rs j).k c5] 22)) y9.heap.size 22 #[.slice A5 (a.rs j).k c5] := Blk.new _ _ _
                  have hXX : Ext y9 (World.alloc y9 (.cells #[.slice A5 (a.rs j).k c5] 22)) := (Mod.refl [] _).alloc _
                  generalize World.alloc y9 (.cells #[.slice A5 (a.rs j).k c5] 22) = y13 at *
                  have hO9 := hO9.ext hXX
                  have hR9 := hR9.ext hXX
                  have hp5 := hp5.ext hXX
                  have hs5 := hs5.mod hXX (by simp)
                  refine hK.out _ _ (hHeld.trans (hXX.mono (by simp))) (fun hHeld => ?_)
                  clear hK K hXX
                  (try simp only [Act.put, List.getElem_toArray, List.getElem_cons_zero, List.getElem_cons_succ, List.setIfInBounds_toArray, List.set_cons_zero, List.set_cons_succ])
                  generalize y9.heap.size = gq at *
                  refine wpAnyH_ready (rs := [1]) (by kernel_rfl) (by simp) ?_
                  refine AllReadyH.cons rfl (fun K hK => ?_) AllReadyH.nil
                  have c7 : y13.cell? ⟨O, 7, none⟩ = some (.slice A' nn c') := hO9.cell 7
                  go_simp
                  refine hK.out _ _ hHeld (fun hHeld => ?_)
                  clear hK K c7
                  (try simp only [Act.put, List.getElem_toArray, List.getElem_cons_zero, List.getElem_cons_succ, List.setIfInBounds_toArray, List.set_cons_zero, List.set_cons_succ])
                  refine wpAnyH_ready (rs := [5]) (by kernel_rfl) (by simp) ?_
                  refine AllReadyH.cons rfl (fun K hK => ?_) AllReadyH.nil
                  have hI : resS.hang y13 (fun b => z.heap.size ≤ b ∧ offA A' b) (a.rs j) (A5, c5) := ⟨⟨hp5.weak (fun b _ hb => ⟨by have := HWZ.out; have hb : wr.heap.size ≤ b := hb; omega, fun g' hg' => by have := (HR.out.off g' hg').2; have hb : wr.heap.size ≤ b := hb; omega⟩), hc5⟩, hs5.weak (fun b _ hb => ⟨by have := HWZ.out; have hb : wr.heap.size ≤ b := hb; omega, fun g' hg' => by have := (HR.out.off g' hg').2; have hb : wr.heap.size ≤ b := hb; omega⟩)⟩
                  obtain ⟨ib, hi, hz0, hz1, hz2⟩ := info_parts infoPairs
                  refine wp_append_lies _ _ _ 27 (by rfl) z.heap.size 22 ib _ 1 24 Try.underlying27 hi hz0 hz1 hz2 (by rfl) (by decide) _ nn _ (by rfl) hR9.own ⟨gq, 0, none⟩ 1 1 [.slice A5 (a.rs j).k c5] (by rfl) (by rfl) ?gnewy15 ?goney15 (by decide) ?gmy15 ?gby15 ?gbasey15 (y13.heap.size) rfl ?gky15
                  case gnewy15 =>
                    intro j' u hu
                    rw [addr_add, Nat.zero_add, hQ2.cell j']
                    simpa using hu
                  case goney15 => intro u hu; simp at hu; subst hu; rfl
                  case gmy15 => have := HLT.out; have := HF.out.2.2.1; have := HCB.out; unfold maxLen; omega
                  case gby15 => have := HLT.out; have := HF.out.2.2.1; have := HCB.out; omega
                  case gbasey15 => have := HWZ.out; have := hHeld.size; omega
                  intro g' cp' y15 hown' hgr' hat' hlt'
                  obtain ⟨ac', hR5⟩ := hR9.append hI HWP.out hown' hgr' hat'
                  have hOO : O ∉ obs A' := by
                    refine offA_obs (fun g' hg' => ?_)
                    have := (HR.out.off g' hg').1
                    have := HZS.out.2.1
                    omega
                  have hO9 := hO9.mod (grown_obs hgr') hOO
                  refine hK.out _ _ (hHeld.trans ((grown_obs hgr').mono (by simp; exact fun k hk => .inr hk))) (fun hHeld => ?_)
                  clear hK K
                  (try simp only [Act.put, List.getElem_toArray, List.getElem_cons_zero, List.getElem_cons_succ, List.setIfInBounds_toArray, List.set_cons_zero, List.set_cons_succ])
                  refine' wpAnyH_take (i := 6) (v := _) rfl (by kernel_rfl) (by kernel_rfl) (by kernel_rfl) (fun _ _ _ h => h) (Or.inl ⟨by rfl, ?hy16⟩) hHeld ?rest16
                  case hy16 => (rintro W hM; go_simp; (try with_reducible rfl))
                  case rest16 =>
                  (try simp only [Act.put, List.getElem_toArray, List.getElem_cons_zero, List.getElem_cons_succ, List.setIfInBounds_toArray, List.set_cons_zero, List.set_cons_succ])
                  refine wpAnyH_ready (rs := [7]) (by kernel_rfl) (by simp) ?_
                  refine AllReadyH.cons rfl (fun K hK => ?_) AllReadyH.nil
                  have c7 : y15.cell? ⟨O, 7, none⟩ = some (.slice A' nn c') := hO9.cell 7
                  have f7 := hO9.frozen 7
                  go_simp
                  have hOf := hO9.set_ 7 (.slice (some ⟨g', 0, none⟩) (nn + 1) cp')
                  have hM7 := (Mod.refl [O] y15).setCell (p := ⟨O, 7, none⟩) (.inl (by simp)) (.slice (some ⟨g', 0, none⟩) (nn + 1) cp')
                  generalize World.setCell y15 ⟨O, 7, none⟩ _ = yf at *
                  refine hK.out _ _ (hHeld.trans (hM7.mono (by simp))) (fun hHeld => ?_)
                  clear hK K c7 f7
                  (try simp only [Act.put, List.getElem_toArray, List.getElem_cons_zero, List.getElem_cons_succ, List.setIfInBounds_toArray, List.set_cons_zero, List.set_cons_succ])
                  refine wpAnyH_done (by kernel_rfl) ?_ _
                  have hg'z : g' ≠ O := by
                    have h1 : z.heap.size ≤ g' := (hR5.off _ rfl).1
                    have := HZS.out.2.1
                    omega
                  have HBF : Hid (Blk yf O 29 #[.slice (some ⟨g, 0, none⟩) (a.tk - 1) cg, .int .i64 a.ctx, .int .i64 a.src.sch, str a.src.name, .int .u64 (a.src.node : Int), .int .u64 (a.src.svc : Int), .slice Ap a.ps.k cp, .slice (some ⟨g', 0, none⟩) (nn + 1) cp']) := hid hOf
                  have HRF := hid (hR5.modQ hM7 (fun g'' hg'' => by cases hg''; simpa using hg'z) (fun k hk _ => by have := HZS.out.2.1; have hk : z.heap.size ≤ k := hk; simp; omega))
                  have HMF : Hid (Mod (O :: obs A') wr yf) := hid hHeld
                  clear hOf hR5 hM7 hHeld hO9 hR9 hown' hgr' hat' hlt' hp5 hs5 hQ2 hI hOO hJ9
                  go_wp2_with fail
                  go_roundw
                  case rel =>
                    refine ⟨j + 1, by go_num, (show Hid _ from ⟨some ⟨g', 0, none⟩, cp', ac', HLT.out, ?_, Nat.le_trans HWZ.out HMF.out.size, by rw [HCN.out]; exact HBF.out, by rw [HCN.out]; exact HRF.out, HN.out.mod HMF.out ?_, HP.out.mod HMF.out ?_, HSP'.out.mod HMF.out ?_, HFT'.out.mod HMF.out ?_⟩)⟩
                    · exact ((Mod.of_ext (S := O :: obs A') HVW.out).trans HMF.out).new (fun k hk => .inr (by
                        rcases List.mem_cons.1 hk with rfl | hk
                        · exact HOV.out
                        · cases A' with
                          | none => cases hk
                          | some g'' => have := (HR.out.off g'' rfl).1; have := HZS.out.1; simp [obs] at hk; omega))
                    · intro b o h _
                      cases h
                      refine fun hm => (List.mem_cons.1 hm).elim (fun h => HOG.out h.symm) (offA_obs (fun g'' hg'' => ?_))
                      have := (HR.out.off g'' hg'').1
                      have := HZS.out.2.2
                      show g ≠ g''.block
                      omega
                    · intro k hk _
                      refine fun hm => (List.mem_cons.1 hm).elim hk.1.2 (offA_obs (fun g'' hg'' => ?_))
                      have := (HR.out.off g'' hg'').1
                      have := hk.2
                      omega
                    · intro k hk _
                      refine fun hm => (List.mem_cons.1 hm).elim hk.1.2 (offA_obs (fun g'' hg'' => ?_))
                      have := (HR.out.off g'' hg'').1
                      have := hk.2
                      omega
                    · intro k hk _
                      refine fun hm => (List.mem_cons.1 hm).elim hk.1.2 (offA_obs (fun g'' hg'' => ?_))
                      have := (HR.out.off g'' hg'').1
                      have := hk.2
                      omega
                  case measure => have := HLT.out; simp [intOf]; omega
          · obtain rfl : j = a.rk := by obtain ⟨_, _, _, hjk, _⟩ := hS.out; omega
            have tc : decide (a.rk < a.rk) = false := by simp
            obtain ⟨A', c', ac, hjk, hVW, _, hB, hR, hN, hP, hsp, hft⟩ := hS.out
            have HSP := hid hsp
            have HFT := hid hft
            clear hsp hft
            have HB := hid hB
            have HVW := hid hVW
            have HRS := hid (hR.rss (fun b hb => hb))
            have HN := hid hN
            have HP := hid hP
            have HB1W := hid (HB1.out.ext HVW.out)
            clear hS hjk hVW hB hR hN hP
            have tk1 : True := trivial
            have tk2 : True := trivial
            go_wp2_with (first | (clear tk1; refine wpList_row (by rfl) 29 _ rfl _ rfl HB.out Try.underlying29 rfl (by kernel_rfl) ?_) | (clear tk2; refine wpList_store_mid rfl 29 _ _ rfl (w.heap.size + 1) 0 #[.slice (some ⟨g, 0, none⟩) (a.tk - 1) cg, .int .i64 a.ctx, .int .i64 a.src.sch, str a.src.name, .int .u64 (a.src.node : Int), .int .u64 (a.src.svc : Int), .slice Ap a.ps.k cp, .slice A' (cntW i a.rk) c'] (by rfl) (by rfl) (HB1W.out.there (Nat.le_refl 8)) (by kernel_rfl) (by simp [Value.oneCell']) ?_))
            have hY := setCells_all (ds := #[.slice (some ⟨g, 0, none⟩) (a.tk - 1) cg, .int .i64 a.ctx, .int .i64 a.src.sch, str a.src.name, .int .u64 (a.src.node : Int), .int .u64 (a.src.svc : Int), .slice Ap a.ps.k cp, .slice A' (cntW i a.rk) c']) HB1W.out rfl
            have hM2 := setCells_mod (b := w.heap.size + 1) (#[.slice (some ⟨g, 0, none⟩) (a.tk - 1) cg, .int .i64 a.ctx, .int .i64 a.src.sch, str a.src.name, .int .u64 (a.src.node : Int), .int .u64 (a.src.svc : Int), .slice Ap a.ps.k cp, .slice A' (cntW i a.rk) c'] : Array Value).toList 0 (Mod.refl [w.heap.size + 1] wr) (.inl (by simp))
            generalize hZ2 : World.setCells wr _ 0 _ = Z2 at *
            refine bodyPost_ret (results_cell2 rfl _ (by rfl) (by rfl) hY Try.underlying29 rfl (by kernel_rfl)) rfl ⟨?_, ⟨some ⟨g, 0, none⟩, cg, Ap, cp, A', c'⟩, ?_, ?_, ?_⟩
            · exact ((Mod.of_ext (S := [w.heap.size + 1]) (HE.out.trans HVW.out)).trans hM2).new (fun k hk => .inr (by rw [List.mem_singleton] at hk; omega))
            · first | rfl | simp
            · have hv := HVS.out
              refine ⟨HN.out.mod hM2 (fun b o h _ => by cases h; have := HGV.out; simp; omega), fun b o h _ => by cases h; have := HGV.out; show w.heap.size ≤ g; omega, (HP.out.mod hM2 (fun k hk _ => by have := hk.1.1; simp; omega)).weak (fun b _ hb => by have := hb.1.1; show w.heap.size ≤ b; omega), ?_⟩
              exact (((HRS.out.rs.mod hM2 (fun k hk _ => by have := HZS.out; have hk : z.heap.size ≤ k := hk; simp; omega)).weak (fun b _ hb => by have := HZS.out; have hb : z.heap.size ≤ b := hb; show w.heap.size ≤ b; omega)))
            · have hv := HVS.out
              exact ⟨z.heap.size, by have := HZS.out; omega, (HFT.out.mod hM2 (fun k hk _ => by have := hk.1.1; simp; omega)).weak (fun b _ hb => ⟨by have := hb.1.1; omega, hb.2⟩), (HSP.out.mod hM2 (fun k hk _ => by have := hk.1.1; simp; omega)).weak (fun b _ hb => ⟨by have := hb.1.1; omega, hb.2⟩), HRS.out.mod hM2 (fun k hk _ => by have := HZS.out; have hk : z.heap.size ≤ k := hk; simp; omega)⟩
      · go_simp
        generalize hV : World.alloc x2 _ = x16
        have hBO : Blk x16 x2.heap.size 29 #[.slice none 0 0, .int .i64 0, .int .i64 0, .string ⟨#[]⟩, .int .u64 0, .int .u64 0, .slice none 0 0, .slice none 0 0] := by rw [← hV]; exact Blk.new _ _ _
        have hXX : Ext x2 x16 := by rw [← hV]; exact (Mod.refl [] _).alloc _
        have hOV : V.heap.size ≤ x2.heap.size := hHeld.size
        clear hV
        have hOg : x2.heap.size ≠ g := Nat.ne_of_gt hgu
        replace hgu := Nat.lt_of_lt_of_le hgu hXX.size
        have hns := hns.ext hXX
        have hft := hft.mod hXX (by simp)
        refine hK.out _ _ (hHeld.trans hXX) (fun hHeld => ?_)
        clear hK K hXX
        (try simp only [Act.put, List.getElem_toArray, List.getElem_cons_zero, List.getElem_cons_succ, List.setIfInBounds_toArray, List.set_cons_zero, List.set_cons_succ])
        generalize x2.heap.size = O at *
        refine wpAnyH_ready (rs := [13]) (by kernel_rfl) (by simp) ?_
        refine AllReadyH.cons rfl (fun K hK => ?_) AllReadyH.nil
        go_simp
        go_at_call 42
        refine (clone_fits HW.out.2.2.2.1 HF.out.2.1 mp mpc x16 (HPA.out.ext hHeld)).mono ?_
        rintro x x17 ⟨Ap, cp, rfl, hb, hps, hpc, hsp⟩
        have hft := hft.mod hb (by simp)
        have hns := hns.ext hb
        replace hgu := Nat.lt_of_lt_of_le hgu hb.size
        have hps := hps.weak (R := (fun b => V.heap.size ≤ b ∧ b ≠ O)) (fun b _ hb => ⟨Nat.le_trans hHeld.size hb, by have hb : x16.heap.size ≤ b := hb; have := hBO.lt; omega⟩)
        have hsp := hsp.weak (R := (fun b => V.heap.size ≤ b ∧ b ≠ O)) (fun b _ hb => ⟨Nat.le_trans hHeld.size hb, by have hb : x16.heap.size ≤ b := hb; have := hBO.lt; omega⟩)
        have hBO := hBO.ext hb
        refine hK.out _ _ (hHeld.trans hb) (fun hHeld => ?_)
        clear hK K hb
        (try simp only [Act.put, List.getElem_toArray, List.getElem_cons_zero, List.getElem_cons_succ, List.setIfInBounds_toArray, List.set_cons_zero, List.set_cons_succ])
        refine' wpAnyH_take (i := 14) (v := _) rfl (by kernel_rfl) (by kernel_rfl) (by kernel_rfl) (fun _ _ _ h => h) (Or.inl ⟨by rfl, ?hy17⟩) hHeld ?rest17
        case hy17 => (rintro W hM; go_simp; (try with_reducible rfl))
        case rest17 =>
        (try simp only [Act.put, List.getElem_toArray, List.getElem_cons_zero, List.getElem_cons_succ, List.setIfInBounds_toArray, List.set_cons_zero, List.set_cons_succ])
        refine wpAnyH_ready (rs := [16]) (by kernel_rfl) (by simp) ?_
        refine AllReadyH.cons rfl (fun K hK => ?_) AllReadyH.nil
        refine wp_store_mid 29 _ _ rfl O 0 #[.slice (some ⟨g, 0, none⟩) (a.tk - 1) cg, .int .i64 a.ctx, .int .i64 a.src.sch, str a.src.name, .int .u64 (a.src.node : Int), .int .u64 (a.src.svc : Int), .slice Ap a.ps.k cp, .slice none 0 0] (by rfl) (by rfl) (hBO.there (Nat.le_refl 8)) (by kernel_rfl) (by simp [Value.oneCell']) ?_
        have hZB := setCells_all (ds := #[.slice (some ⟨g, 0, none⟩) (a.tk - 1) cg, .int .i64 a.ctx, .int .i64 a.src.sch, str a.src.name, .int .u64 (a.src.node : Int), .int .u64 (a.src.svc : Int), .slice Ap a.ps.k cp, .slice none 0 0]) hBO rfl
        have hZO := setCells_mod (w := x17) (W := x17) (S := [O]) (b := O) (#[.slice (some ⟨g, 0, none⟩) (a.tk - 1) cg, .int .i64 a.ctx, .int .i64 a.src.sch, str a.src.name, .int .u64 (a.src.node : Int), .int .u64 (a.src.svc : Int), .slice Ap a.ps.k cp, .slice none 0 0] : Array Value).toList 0 (Mod.refl _ _) (.inl (by simp))
        generalize hZ : World.setCells _ O 0 _ = z at *
        clear hZ
        have hZM : Ext V z := ((Mod.of_ext (S := [O]) hHeld).trans hZO).new (fun k hk => .inr (by rw [List.mem_singleton] at hk; subst hk; exact hOV))
        refine hK.out _ _ hZM (fun hHeld => ?_)
        clear hK K
        (try simp only [Act.put, List.getElem_toArray, List.getElem_cons_zero, List.getElem_cons_succ, List.setIfInBounds_toArray, List.set_cons_zero, List.set_cons_succ])
        refine wpAnyH_done (by kernel_rfl) ?_ _
        have HBO := hid hZB
        have HNS := hid (hns.mod hZO (fun b o h _ => by cases h; simp; exact fun h => hOg h.symm))
        have HPS := hid (hps.mod hZO (fun k hk _ => by simp; exact hk.2))
        have HSP := hid (hsp.mod hZO (fun k hk _ => by simp; exact hk.2))
        have HFT : Hid (softA z (fun b => V.heap.size ≤ b ∧ b ≠ O) (some ⟨g, 0, none⟩)) := hid ((softA.weak (R := fun b => V.heap.size ≤ b ∧ b ≠ O) (fun g' hg' => by obtain ⟨q1, q2, q3⟩ := hft g' hg'; exact ⟨⟨q1, by cases hg'; exact fun h => hOg h.symm⟩, q2, q3⟩) (fun _ _ h => h)).mod hZO (fun k hk _ => by simp; exact hk.2))
        have HVZ := hid hZM
        have HOG := hid hOg
        have HGV := hid hgV
        have HOV := hid hOV
        have HGZ := hid (Nat.lt_of_lt_of_le hgu hZO.size)
        clear hZB hns hps hsp hft hfz hZM hZO hHeld hBO hOg hOV hgV hgu hpc
        have c7z : z.cell? ⟨w.heap.size, 7, none⟩ = some (.slice (some ⟨br, orr, none⟩) a.rk mrc) := b7 ⟨z, HVZ.out⟩
        go_upto_region 6 with fail
        have HZS : Hid (V.heap.size ≤ z.heap.size ∧ O < z.heap.size ∧ g < z.heap.size) := hid ⟨HVZ.out.size, HBO.out.lt, HGZ.out⟩
        go_loopw [35] (fun s35 wr => ∃ j : Nat, s35 = .int .i64 (j : Int) ∧ Hid (∃ A' c' ac, j ≤ a.rk ∧ Ext V wr ∧ z.heap.size ≤ wr.heap.size ∧ Blk wr O 29 #[.slice (some ⟨g, 0, none⟩) (a.tk - 1) cg, .int .i64 a.ctx, .int .i64 a.src.sch, str a.src.name, .int .u64 (a.src.node : Int), .int .u64 (a.src.svc : Int), .slice Ap a.ps.k cp, .slice A' (cntW i j) c'] ∧ RwG resS 22 wr (fun b => z.heap.size ≤ b) z.heap.size A' c' (cntW i j) (woP a.rs i) ac ∧ NsL wr (some ⟨g, 0, none⟩) (a.tk - 1) (delN a.tg i) ∧ PsL wr (fun b => (V.heap.size ≤ b ∧ b ≠ O) ∧ b < z.heap.size) Ap a.ps ∧ softA wr (fun b => (V.heap.size ≤ b ∧ b ≠ O) ∧ b < z.heap.size) Ap ∧ softA wr (fun b => (V.heap.size ≤ b ∧ b ≠ O) ∧ b < z.heap.size) (some ⟨g, 0, none⟩))) (fun s35 _ => a.rk - (intOf s35).toNat)
        case atStart => exact ⟨0, rfl, (show Hid _ from ⟨none, 0, fun _ => (none, 0), Nat.zero_le _, HVZ.out, Nat.le_refl _, HBO.out, RwG.nil, HNS.out, HPS.out.weak (fun b hb hq => ⟨hq, hb⟩), HSP.out.weak (fun b hb hq => ⟨hq, hb⟩), HFT.out.weak (fun b hb hq => ⟨hq, hb⟩)⟩)⟩
        case round =>
          obtain ⟨j, rfl, hS⟩ := hrel
          rename World => wr
          have j0 : (0 : Int) ≤ (j : Int) := by omega
          by_cases hlt : j < a.rk
          · obtain ⟨A', c', ac, hjk, HVW', hzw', hB', hR', hN', hP', hsp', hft'⟩ := hS.out
            have HSP' := hid hsp'
            have HFT' := hid hft'
            clear hsp' hft'
            have HWZ0 := hid hzw'
            obtain ⟨b', o', Aj, cj, hmr, hbr, q0, hkc, hPj⟩ := HL.out.r.at HVW' hlt
            have hmr : (some ⟨br, orr, none⟩ : Option Addr) = some ⟨b', o', none⟩ := hmr
            cases hmr
            have HVW := hid HVW'
            have HB := hid hB'
            have HR := hid hR'
            have HN := hid hN'
            have HP := hid hP'
            have HPJ := hid hPj
            have tc : decide (j < a.rk) = true := by simp [hlt]
            have j1 : (j : Int) < (a.rk : Int) := by omega
            have HLT := hid hlt
            clear hlt hjk HVW' hzw' hB' hR' hN' hP' hPj hkc hbr hS
            by_cases hji : j = i
            · subst hji
              have ea : ((j : Int) == (j : Int)) = true := by simp
              have eb : ((j : Int) != (j : Int)) = false := by simp
              go_wp2_with fail
              go_roundw
              case rel => exact ⟨j + 1, by go_num, (show Hid _ from ⟨A', c', ac, HLT.out, HVW.out, HWZ0.out, by rw [show cntW j (j + 1) = cntW j j by unfold cntW; rw [if_neg (by omega), if_pos (Nat.le_refl _)]; rfl]; exact HB.out, by rw [show cntW j (j + 1) = cntW j j by unfold cntW; rw [if_neg (by omega), if_pos (Nat.le_refl _)]; rfl]; exact HR.out, HN.out, HP.out, HSP'.out, HFT'.out⟩)⟩
              case measure => have := HLT.out; simp [intOf]; omega
            · have ea : ((j : Int) == (i : Int)) = false := by rw [beq_eq_false_iff_ne]; omega
              have eb : ((j : Int) != (i : Int)) = true := by rw [bne_iff_ne]; omega
              have ec : ((j : Int) = (i : Int)) = False := eq_false (by omega)
              have ed : (j = i) = False := eq_false hji
              have HCN : Hid (cntW i (j + 1) = cntW i j + 1) := hid (by unfold cntW; split <;> split <;> omega)
              have HWP : Hid (woP a.rs i (cntW i j) = a.rs j) := hid (by unfold cntW woP; split <;> split <;> first | rfl | (congr 1; omega) | (exfalso; omega))
              have HCB : Hid (cntW i j ≤ j) := hid (by unfold cntW; split <;> omega)
              have hkj : (a.rs j).k ≤ 100000 := (HF.out.2.2.2 j HLT.out).1
              clear hji
              generalize cntW i j = nn at *
              go_upto_region 9 with fail
              clear q0
              have HWZ : Hid (z.heap.size ≤ wr.heap.size) := hid HWZ0.out
              refine wp_region_held_drew (S := fun w' => Mod (O :: obs A') wr w') (by kernel_rfl) (Mod.refl _ _).drew (fun hHeld => ?_)
              have hO9 : Blk wr.drew O 29 #[.slice (some ⟨g, 0, none⟩) (a.tk - 1) cg, .int .i64 a.ctx, .int .i64 a.src.sch, str a.src.name, .int .u64 (a.src.node : Int), .int .u64 (a.src.svc : Int), .slice Ap a.ps.k cp, .slice A' nn c'] := HB.out.drew
              have hR9 := HR.out.ext ((Mod.refl [] wr).drew)
              have hJ9 : PsL wr.drew anyQ Aj (a.rs j) := HPJ.out.ext ((Mod.refl [] wr).drew)
              generalize wr.drew = y0 at *
              refine' wpAnyH_take (i := 0) (v := _) rfl (by kernel_rfl) (by kernel_rfl) (by kernel_rfl) (fun _ _ _ h => h) (Or.inl ⟨by rfl, ?hy18⟩) hHeld ?rest18
              case hy18 => (rintro W hM; go_simp; (try with_reducible rfl))
              case rest18 =>
              (try simp only [Act.put, List.getElem_toArray, List.getElem_cons_zero, List.getElem_cons_succ, List.setIfInBounds_toArray, List.set_cons_zero, List.set_cons_succ])
              refine' wpAnyH_take (i := 2) (v := _) rfl (by kernel_rfl) (by kernel_rfl) (by kernel_rfl) (fun _ _ _ h => h) (Or.inl ⟨by rfl, ?hy19⟩) hHeld ?rest19
              case hy19 => (rintro W hM; go_simp; (try with_reducible rfl))
              case rest19 =>
              (try simp only [Act.put, List.getElem_toArray, List.getElem_cons_zero, List.getElem_cons_succ, List.setIfInBounds_toArray, List.set_cons_zero, List.set_cons_succ])
              refine wpAnyH_ready (rs := [1, 3]) (by kernel_rfl) (by simp) ?_
              refine AllReadyH.cons rfl (fun K hK => ?_) (AllReadyH.cons rfl (fun K hK => ?_) AllReadyH.nil)
              · have c7 : y0.cell? ⟨O, 7, none⟩ = some (.slice A' nn c') := hO9.cell 7
                go_simp
                refine hK.out _ _ hHeld (fun hHeld => ?_)
                clear hK K c7
                (try simp only [Act.put, List.getElem_toArray, List.getElem_cons_zero, List.getElem_cons_succ, List.setIfInBounds_toArray, List.set_cons_zero, List.set_cons_succ])
                refine wpAnyH_ready (rs := [3]) (by kernel_rfl) (by simp) ?_
                refine AllReadyH.cons rfl (fun K hK => ?_) AllReadyH.nil
                go_simp
                go_at_call 42
                refine (clone_fits (HW.out.2.2.2.2.2 j HLT.out) (HF.out.2.2.2 j HLT.out) Aj cj y0 hJ9).mono ?_
                rintro x y19 ⟨A5, c5, rfl, hb, hp5, hc5, hs5⟩
                have hsz5 : wr.heap.size ≤ y0.heap.size := hHeld.size
                have hO9 := hO9.ext hb
                have hR9 := hR9.ext hb
                refine hK.out _ _ (hHeld.trans (hb.mono (by simp))) (fun hHeld => ?_)
                clear hK K
                (try simp only [Act.put, List.getElem_toArray, List.getElem_cons_zero, List.getElem_cons_succ, List.setIfInBounds_toArray, List.set_cons_zero, List.set_cons_succ])
                have hp5 : PsL y19 (fun b => wr.heap.size ≤ b) A5 (a.rs j) := hp5.weak (fun b _ h => Nat.le_trans hsz5 h)
                have hs5 : softA y19 (fun b => wr.heap.size ≤ b) A5 := hs5.weak (fun b _ h => Nat.le_trans hsz5 h)
                refine wpAnyH_ready (rs := [4]) (by kernel_rfl) (by simp) ?_
                refine AllReadyH.cons rfl (fun K hK => ?_) AllReadyH.nil
                go_simp
                have hQ2 : Blk (World.alloc y19 (.cells #[.slice A5 (a.rs j).k c5] 22)) y19.heap.size 22 #[.slice A5 (a.rs j).k c5] := Blk.new _ _ _
                have hXX : Ext y19 (World.alloc y19 (.cells #[.slice A5 (a.rs j).k c5] 22)) := (Mod.refl [] _).alloc _
                generalize World.alloc y19 (.cells #[.slice A5 (a.rs j).k c5] 22) = y20 at *
                have hO9 := hO9.ext hXX
                have hR9 := hR9.ext hXX
                have hp5 := hp5.ext hXX
                have hs5 := hs5.mod hXX (by simp)
                refine hK.out _ _ (hHeld.trans (hXX.mono (by simp))) (fun hHeld => ?_)
                clear hK K hXX
                (try simp only [Act.put, List.getElem_toArray, List.getElem_cons_zero, List.getElem_cons_succ, List.setIfInBounds_toArray, List.set_cons_zero, List.set_cons_succ])
                generalize y19.heap.size = gq at *
                refine wpAnyH_ready (rs := [5]) (by kernel_rfl) (by simp) ?_
                refine AllReadyH.cons rfl (fun K hK => ?_) AllReadyH.nil
                have hI : resS.hang y20 (fun b => z.heap.size ≤ b ∧ offA A' b) (a.rs j) (A5, c5) := ⟨⟨hp5.weak (fun b _ hb => ⟨by have := HWZ.out; have hb : wr.heap.size ≤ b := hb; omega, fun g' hg' => by have := (HR.out.off g' hg').2; have hb : wr.heap.size ≤ b := hb; omega⟩), hc5⟩, hs5.weak (fun b _ hb => ⟨by have := HWZ.out; have hb : wr.heap.size ≤ b := hb; omega, fun g' hg' => by have := (HR.out.off g' hg').2; have hb : wr.heap.size ≤ b := hb; omega⟩)⟩
                obtain ⟨ib, hi, hz0, hz1, hz2⟩ := info_parts infoPairs
                refine wp_append_lies _ _ _ 27 (by rfl) z.heap.size 22 ib _ 1 24 Try.underlying27 hi hz0 hz1 hz2 (by rfl) (by decide) _ nn _ (by rfl) hR9.own ⟨gq, 0, none⟩ 1 1 [.slice A5 (a.rs j).k c5] (by rfl) (by rfl) ?gnewy21 ?goney21 (by decide) ?gmy21 ?gby21 ?gbasey21 (y20.heap.size) rfl ?gky21
                case gnewy21 =>
                  intro j' u hu
                  rw [addr_add, Nat.zero_add, hQ2.cell j']
                  simpa using hu
                case goney21 => intro u hu; simp at hu; subst hu; rfl
                case gmy21 => have := HLT.out; have := HF.out.2.2.1; have := HCB.out; unfold maxLen; omega
                case gby21 => have := HLT.out; have := HF.out.2.2.1; have := HCB.out; omega
                case gbasey21 => have := HWZ.out; have := hHeld.size; omega
                intro g' cp' y21 hown' hgr' hat' hlt'
                obtain ⟨ac', hR5⟩ := hR9.append hI HWP.out hown' hgr' hat'
                have hOO : O ∉ obs A' := by
                  refine offA_obs (fun g' hg' => ?_)
                  have := (HR.out.off g' hg').1
                  have := HZS.out.2.1
                  omega
                have hO9 := hO9.mod (grown_obs hgr') hOO
                refine hK.out _ _ (hHeld.trans ((grown_obs hgr').mono (by simp; exact fun k hk => .inr hk))) (fun hHeld => ?_)
                clear hK K
                (try simp only [Act.put, List.getElem_toArray, List.getElem_cons_zero, List.getElem_cons_succ, List.setIfInBounds_toArray, List.set_cons_zero, List.set_cons_succ])
                refine' wpAnyH_take (i := 6) (v := _) rfl (by kernel_rfl) (by kernel_rfl) (by kernel_rfl) (fun _ _ _ h => h) (Or.inl ⟨by rfl, ?hy20⟩) hHeld ?rest20
                case hy20 => (rintro W hM; go_simp; (try with_reducible rfl))
                case rest20 =>
                (try simp only [Act.put, List.getElem_toArray, List.getElem_cons_zero, List.getElem_cons_succ, List.setIfInBounds_toArray, List.set_cons_zero, List.set_cons_succ])
                refine wpAnyH_ready (rs := [7]) (by kernel_rfl) (by simp) ?_
                refine AllReadyH.cons rfl (fun K hK => ?_) AllReadyH.nil
                have c7 : y21.cell? ⟨O, 7, none⟩ = some (.slice A' nn c') := hO9.cell 7
                have f7 := hO9.frozen 7
                go_simp
                have hOf := hO9.set_ 7 (.slice (some ⟨g', 0, none⟩) (nn + 1) cp')
                have hM7 := (Mod.refl [O] y21).setCell (p := ⟨O, 7, none⟩) (.inl (by simp)) (.slice (some ⟨g', 0, none⟩) (nn + 1) cp')
                generalize World.setCell y21 ⟨O, 7, none⟩ _ = yf at *
                refine hK.out _ _ (hHeld.trans (hM7.mono (by simp))) (fun hHeld => ?_)
                clear hK K c7 f7
                (try simp only [Act.put, List.getElem_toArray, List.getElem_cons_zero, List.getElem_cons_succ, List.setIfInBounds_toArray, List.set_cons_zero, List.set_cons_succ])
                refine wpAnyH_done (by kernel_rfl) ?_ _
                have hg'z : g' ≠ O := by
                  have h1 : z.heap.size ≤ g' := (hR5.off _ rfl).1
                  have := HZS.out.2.1
                  omega
                have HBF : Hid (Blk yf O 29 #[.slice (some ⟨g, 0, none⟩) (a.tk - 1) cg, .int .i64 a.ctx, .int .i64 a.src.sch, str a.src.name, .int .u64 (a.src.node : Int), .int .u64 (a.src.svc : Int), .slice Ap a.ps.k cp, .slice (some ⟨g', 0, none⟩) (nn + 1) cp']) := hid hOf
                have HRF := hid (hR5.modQ hM7 (fun g'' hg'' => by cases hg''; simpa using hg'z) (fun k hk _ => by have := HZS.out.2.1; have hk : z.heap.size ≤ k := hk; simp; omega))
                have HMF : Hid (Mod (O :: obs A') wr yf) := hid hHeld
                clear hOf hR5 hM7 hHeld hO9 hR9 hown' hgr' hat' hlt' hp5 hs5 hQ2 hI hOO hJ9
                go_wp2_with fail
                go_roundw
                case rel =>
                  refine ⟨j + 1, by go_num, (show Hid _ from ⟨some ⟨g', 0, none⟩, cp', ac', HLT.out, ?_, Nat.le_trans HWZ.out HMF.out.size, by rw [HCN.out]; exact HBF.out, by rw [HCN.out]; exact HRF.out, HN.out.mod HMF.out ?_, HP.out.mod HMF.out ?_, HSP'.out.mod HMF.out ?_, HFT'.out.mod HMF.out ?_⟩)⟩
                  · exact ((Mod.of_ext (S := O :: obs A') HVW.out).trans HMF.out).new (fun k hk => .inr (by
                      rcases List.mem_cons.1 hk with rfl | hk
                      · exact HOV.out
                      · cases A' with
                        | none => cases hk
                        | some g'' => have := (HR.out.off g'' rfl).1; have := HZS.out.1; simp [obs] at hk; omega))
                  · intro b o h _
                    cases h
                    refine fun hm => (List.mem_cons.1 hm).elim (fun h => HOG.out h.symm) (offA_obs (fun g'' hg'' => ?_))
                    have := (HR.out.off g'' hg'').1
                    have := HZS.out.2.2
                    show g ≠ g''.block
                    omega
                  · intro k hk _
                    refine fun hm => (List.mem_cons.1 hm).elim hk.1.2 (offA_obs (fun g'' hg'' => ?_))
                    have := (HR.out.off g'' hg'').1
                    have := hk.2
                    omega
                  · intro k hk _
                    refine fun hm => (List.mem_cons.1 hm).elim hk.1.2 (offA_obs (fun g'' hg'' => ?_))
                    have := (HR.out.off g'' hg'').1
                    have := hk.2
                    omega
                  · intro k hk _
                    refine fun hm => (List.mem_cons.1 hm).elim hk.1.2 (offA_obs (fun g'' hg'' => ?_))
                    have := (HR.out.off g'' hg'').1
                    have := hk.2
                    omega
                case measure => have := HLT.out; simp [intOf]; omega
              · go_simp
                go_at_call 42
                refine (clone_fits (HW.out.2.2.2.2.2 j HLT.out) (HF.out.2.2.2 j HLT.out) Aj cj y0 hJ9).mono ?_
                rintro x y22 ⟨A5, c5, rfl, hb, hp5, hc5, hs5⟩
                have hsz5 : wr.heap.size ≤ y0.heap.size := hHeld.size
                have hO9 := hO9.ext hb
                have hR9 := hR9.ext hb
                refine hK.out _ _ (hHeld.trans (hb.mono (by simp))) (fun hHeld => ?_)
                clear hK K
                (try simp only [Act.put, List.getElem_toArray, List.getElem_cons_zero, List.getElem_cons_succ, List.setIfInBounds_toArray, List.set_cons_zero, List.set_cons_succ])
                have hp5 : PsL y22 (fun b => wr.heap.size ≤ b) A5 (a.rs j) := hp5.weak (fun b _ h => Nat.le_trans hsz5 h)
                have hs5 : softA y22 (fun b => wr.heap.size ≤ b) A5 := hs5.weak (fun b _ h => Nat.le_trans hsz5 h)
                refine wpAnyH_ready (rs := [1, 4]) (by kernel_rfl) (by simp) ?_
                refine AllReadyH.cons rfl (fun K hK => ?_) (AllReadyH.cons rfl (fun K hK => ?_) AllReadyH.nil)
                · have c7 : y22.cell? ⟨O, 7, none⟩ = some (.slice A' nn c') := hO9.cell 7
                  go_simp
                  refine hK.out _ _ hHeld (fun hHeld => ?_)
                  clear hK K c7
                  (try simp only [Act.put, List.getElem_toArray, List.getElem_cons_zero, List.getElem_cons_succ, List.setIfInBounds_toArray, List.set_cons_zero, List.set_cons_succ])
                  refine wpAnyH_ready (rs := [4]) (by kernel_rfl) (by simp) ?_
                  refine AllReadyH.cons rfl (fun K hK => ?_) AllReadyH.nil
                  go_simp
                  have hQ2 : Blk (World.alloc y22 (.cells #[.slice A5 (a.rs j).k c5] 22)) y22.heap.size 22 #[.slice A5 (a.rs j).k c5] := Blk.new _ _ _
                  have hXX : Ext y22 (World.alloc y22 (.cells #[.slice A5 (a.rs j).k c5] 22)) := (Mod.refl [] _).alloc _
                  generalize World.alloc y22 (.cells #[.slice A5 (a.rs j).k c5] 22) = y24 at *
                  have hO9 := hO9.ext hXX
                  have hR9 := hR9.ext hXX
                  have hp5 := hp5.ext hXX
                  have hs5 := hs5.mod hXX (by simp)
                  refine hK.out _ _ (hHeld.trans (hXX.mono (by simp))) (fun hHeld => ?_)
                  clear hK K hXX
                  (try simp only [Act.put, List.getElem_toArray, List.getElem_cons_zero, List.getElem_cons_succ, List.setIfInBounds_toArray, List.set_cons_zero, List.set_cons_succ])
                  generalize y22.heap.size = gq at *
                  refine wpAnyH_ready (rs := [5]) (by kernel_rfl) (by simp) ?_
                  refine AllReadyH.cons rfl (fun K hK => ?_) AllReadyH.nil
                  have hI : resS.hang y24 (fun b => z.heap.size ≤ b ∧ offA A' b) (a.rs j) (A5, c5) := ⟨⟨hp5.weak (fun b _ hb => ⟨by have := HWZ.out; have hb : wr.heap.size ≤ b := hb; omega, fun g' hg' => by have := (HR.out.off g' hg').2; have hb : wr.heap.size ≤ b := hb; omega⟩), hc5⟩, hs5.weak (fun b _ hb => ⟨by have := HWZ.out; have hb : wr.heap.size ≤ b := hb; omega, fun g' hg' => by have := (HR.out.off g' hg').2; have hb : wr.heap.size ≤ b := hb; omega⟩)⟩
                  obtain ⟨ib, hi, hz0, hz1, hz2⟩ := info_parts infoPairs
                  refine wp_append_lies _ _ _ 27 (by rfl) z.heap.size 22 ib _ 1 24 Try.underlying27 hi hz0 hz1 hz2 (by rfl) (by decide) _ nn _ (by rfl) hR9.own ⟨gq, 0, none⟩ 1 1 [.slice A5 (a.rs j).k c5] (by rfl) (by rfl) ?gnewy25 ?goney25 (by decide) ?gmy25 ?gby25 ?gbasey25 (y24.heap.size) rfl ?gky25
                  case gnewy25 =>
                    intro j' u hu
                    rw [addr_add, Nat.zero_add, hQ2.cell j']
                    simpa using hu
                  case goney25 => intro u hu; simp at hu; subst hu; rfl
                  case gmy25 => have := HLT.out; have := HF.out.2.2.1; have := HCB.out; unfold maxLen; omega
                  case gby25 => have := HLT.out; have := HF.out.2.2.1; have := HCB.out; omega
                  case gbasey25 => have := HWZ.out; have := hHeld.size; omega
                  intro g' cp' y25 hown' hgr' hat' hlt'
                  obtain ⟨ac', hR5⟩ := hR9.append hI HWP.out hown' hgr' hat'
                  have hOO : O ∉ obs A' := by
                    refine offA_obs (fun g' hg' => ?_)
                    have := (HR.out.off g' hg').1
                    have := HZS.out.2.1
                    omega
                  have hO9 := hO9.mod (grown_obs hgr') hOO
                  refine hK.out _ _ (hHeld.trans ((grown_obs hgr').mono (by simp; exact fun k hk => .inr hk))) (fun hHeld => ?_)
                  clear hK K
                  (try simp only [Act.put, List.getElem_toArray, List.getElem_cons_zero, List.getElem_cons_succ, List.setIfInBounds_toArray, List.set_cons_zero, List.set_cons_succ])
                  refine' wpAnyH_take (i := 6) (v := _) rfl (by kernel_rfl) (by kernel_rfl) (by kernel_rfl) (fun _ _ _ h => h) (Or.inl ⟨by rfl, ?hy21⟩) hHeld ?rest21
                  case hy21 => (rintro W hM; go_simp; (try with_reducible rfl))
                  case rest21 =>
                  (try simp only [Act.put, List.getElem_toArray, List.getElem_cons_zero, List.getElem_cons_succ, List.setIfInBounds_toArray, List.set_cons_zero, List.set_cons_succ])
                  refine wpAnyH_ready (rs := [7]) (by kernel_rfl) (by simp) ?_
                  refine AllReadyH.cons rfl (fun K hK => ?_) AllReadyH.nil
                  have c7 : y25.cell? ⟨O, 7, none⟩ = some (.slice A' nn c') := hO9.cell 7
                  have f7 := hO9.frozen 7
                  go_simp
                  have hOf := hO9.set_ 7 (.slice (some ⟨g', 0, none⟩) (nn + 1) cp')
                  have hM7 := (Mod.refl [O] y25).setCell (p := ⟨O, 7, none⟩) (.inl (by simp)) (.slice (some ⟨g', 0, none⟩) (nn + 1) cp')
                  generalize World.setCell y25 ⟨O, 7, none⟩ _ = yf at *
                  refine hK.out _ _ (hHeld.trans (hM7.mono (by simp))) (fun hHeld => ?_)
                  clear hK K c7 f7
                  (try simp only [Act.put, List.getElem_toArray, List.getElem_cons_zero, List.getElem_cons_succ, List.setIfInBounds_toArray, List.set_cons_zero, List.set_cons_succ])
                  refine wpAnyH_done (by kernel_rfl) ?_ _
                  have hg'z : g' ≠ O := by
                    have h1 : z.heap.size ≤ g' := (hR5.off _ rfl).1
                    have := HZS.out.2.1
                    omega
                  have HBF : Hid (Blk yf O 29 #[.slice (some ⟨g, 0, none⟩) (a.tk - 1) cg, .int .i64 a.ctx, .int .i64 a.src.sch, str a.src.name, .int .u64 (a.src.node : Int), .int .u64 (a.src.svc : Int), .slice Ap a.ps.k cp, .slice (some ⟨g', 0, none⟩) (nn + 1) cp']) := hid hOf
                  have HRF := hid (hR5.modQ hM7 (fun g'' hg'' => by cases hg''; simpa using hg'z) (fun k hk _ => by have := HZS.out.2.1; have hk : z.heap.size ≤ k := hk; simp; omega))
                  have HMF : Hid (Mod (O :: obs A') wr yf) := hid hHeld
                  clear hOf hR5 hM7 hHeld hO9 hR9 hown' hgr' hat' hlt' hp5 hs5 hQ2 hI hOO hJ9
                  go_wp2_with fail
                  go_roundw
                  case rel =>
                    refine ⟨j + 1, by go_num, (show Hid _ from ⟨some ⟨g', 0, none⟩, cp', ac', HLT.out, ?_, Nat.le_trans HWZ.out HMF.out.size, by rw [HCN.out]; exact HBF.out, by rw [HCN.out]; exact HRF.out, HN.out.mod HMF.out ?_, HP.out.mod HMF.out ?_, HSP'.out.mod HMF.out ?_, HFT'.out.mod HMF.out ?_⟩)⟩
                    · exact ((Mod.of_ext (S := O :: obs A') HVW.out).trans HMF.out).new (fun k hk => .inr (by
                        rcases List.mem_cons.1 hk with rfl | hk
                        · exact HOV.out
                        · cases A' with
                          | none => cases hk
                          | some g'' => have := (HR.out.off g'' rfl).1; have := HZS.out.1; simp [obs] at hk; omega))
                    · intro b o h _
                      cases h
                      refine fun hm => (List.mem_cons.1 hm).elim (fun h => HOG.out h.symm) (offA_obs (fun g'' hg'' => ?_))
                      have := (HR.out.off g'' hg'').1
                      have := HZS.out.2.2
                      show g ≠ g''.block
                      omega
                    · intro k hk _
                      refine fun hm => (List.mem_cons.1 hm).elim hk.1.2 (offA_obs (fun g'' hg'' => ?_))
                      have := (HR.out.off g'' hg'').1
                      have := hk.2
                      omega
                    · intro k hk _
                      refine fun hm => (List.mem_cons.1 hm).elim hk.1.2 (offA_obs (fun g'' hg'' => ?_))
                      have := (HR.out.off g'' hg'').1
                      have := hk.2
                      omega
                    · intro k hk _
                      refine fun hm => (List.mem_cons.1 hm).elim hk.1.2 (offA_obs (fun g'' hg'' => ?_))
                      have := (HR.out.off g'' hg'').1
                      have := hk.2
                      omega
                  case measure => have := HLT.out; simp [intOf]; omega
                · go_simp
                  have hQ2 : Blk (World.alloc y22 (.cells #[.slice A5 (a.rs j).k c5] 22)) y22.heap.size 22 #[.slice A5 (a.rs j).k c5] := Blk.new _ _ _
                  have hXX : Ext y22 (World.alloc y22 (.cells #[.slice A5 (a.rs j).k c5] 22)) := (Mod.refl [] _).alloc _
                  generalize World.alloc y22 (.cells #[.slice A5 (a.rs j).k c5] 22) = y26 at *
                  have hO9 := hO9.ext hXX
                  have hR9 := hR9.ext hXX
                  have hp5 := hp5.ext hXX
                  have hs5 := hs5.mod hXX (by simp)
                  refine hK.out _ _ (hHeld.trans (hXX.mono (by simp))) (fun hHeld => ?_)
                  clear hK K hXX
                  (try simp only [Act.put, List.getElem_toArray, List.getElem_cons_zero, List.getElem_cons_succ, List.setIfInBounds_toArray, List.set_cons_zero, List.set_cons_succ])
                  generalize y22.heap.size = gq at *
                  refine wpAnyH_ready (rs := [1]) (by kernel_rfl) (by simp) ?_
                  refine AllReadyH.cons rfl (fun K hK => ?_) AllReadyH.nil
                  have c7 : y26.cell? ⟨O, 7, none⟩ = some (.slice A' nn c') := hO9.cell 7
                  go_simp
                  refine hK.out _ _ hHeld (fun hHeld => ?_)
                  clear hK K c7
                  (try simp only [Act.put, List.getElem_toArray, List.getElem_cons_zero, List.getElem_cons_succ, List.setIfInBounds_toArray, List.set_cons_zero, List.set_cons_succ])
                  refine wpAnyH_ready (rs := [5]) (by kernel_rfl) (by simp) ?_
                  refine AllReadyH.cons rfl (fun K hK => ?_) AllReadyH.nil
                  have hI : resS.hang y26 (fun b => z.heap.size ≤ b ∧ offA A' b) (a.rs j) (A5, c5) := ⟨⟨hp5.weak (fun b _ hb => ⟨by have := HWZ.out; have hb : wr.heap.size ≤ b := hb; omega, fun g' hg' => by have := (HR.out.off g' hg').2; have hb : wr.heap.size ≤ b := hb; omega⟩), hc5⟩, hs5.weak (fun b _ hb => ⟨by have := HWZ.out; have hb : wr.heap.size ≤ b := hb; omega, fun g' hg' => by have := (HR.out.off g' hg').2; have hb : wr.heap.size ≤ b := hb; omega⟩)⟩
                  obtain ⟨ib, hi, hz0, hz1, hz2⟩ := info_parts infoPairs
                  refine wp_append_lies _ _ _ 27 (by rfl) z.heap.size 22 ib _ 1 24 Try.underlying27 hi hz0 hz1 hz2 (by rfl) (by decide) _ nn _ (by rfl) hR9.own ⟨gq, 0, none⟩ 1 1 [.slice A5 (a.rs j).k c5] (by rfl) (by rfl) ?gnewy28 ?goney28 (by decide) ?gmy28 ?gby28 ?gbasey28 (y26.heap.size) rfl ?gky28
                  case gnewy28 =>
                    intro j' u hu
                    rw [addr_add, Nat.zero_add, hQ2.cell j']
                    simpa using hu
                  case goney28 => intro u hu; simp at hu; subst hu; rfl
                  case gmy28 => have := HLT.out; have := HF.out.2.2.1; have := HCB.out; unfold maxLen; omega
                  case gby28 => have := HLT.out; have := HF.out.2.2.1; have := HCB.out; omega
                  case gbasey28 => have := HWZ.out; have := hHeld.size; omega
                  intro g' cp' y28 hown' hgr' hat' hlt'
                  obtain ⟨ac', hR5⟩ := hR9.append hI HWP.out hown' hgr' hat'
                  have hOO : O ∉ obs A' := by
                    refine offA_obs (fun g' hg' => ?_)
                    have := (HR.out.off g' hg').1
                    have := HZS.out.2.1
                    omega
                  have hO9 := hO9.mod (grown_obs hgr') hOO
                  refine hK.out _ _ (hHeld.trans ((grown_obs hgr').mono (by simp; exact fun k hk => .inr hk))) (fun hHeld => ?_)
                  clear hK K
                  (try simp only [Act.put, List.getElem_toArray, List.getElem_cons_zero, List.getElem_cons_succ, List.setIfInBounds_toArray, List.set_cons_zero, List.set_cons_succ])
                  refine' wpAnyH_take (i := 6) (v := _) rfl (by kernel_rfl) (by kernel_rfl) (by kernel_rfl) (fun _ _ _ h => h) (Or.inl ⟨by rfl, ?hy22⟩) hHeld ?rest22
                  case hy22 => (rintro W hM; go_simp; (try with_reducible rfl))
                  case rest22 =>
                  (try simp only [Act.put, List.getElem_toArray, List.getElem_cons_zero, List.getElem_cons_succ, List.setIfInBounds_toArray, List.set_cons_zero, List.set_cons_succ])
                  refine wpAnyH_ready (rs := [7]) (by kernel_rfl) (by simp) ?_
                  refine AllReadyH.cons rfl (fun K hK => ?_) AllReadyH.nil
                  have c7 : y28.cell? ⟨O, 7, none⟩ = some (.slice A' nn c') := hO9.cell 7
                  have f7 := hO9.frozen 7
                  go_simp
                  have hOf := hO9.set_ 7 (.slice (some ⟨g', 0, none⟩) (nn + 1) cp')
                  have hM7 := (Mod.refl [O] y28).setCell (p := ⟨O, 7, none⟩) (.inl (by simp)) (.slice (some ⟨g', 0, none⟩) (nn + 1) cp')
                  generalize World.setCell y28 ⟨O, 7, none⟩ _ = yf at *
                  refine hK.out _ _ (hHeld.trans (hM7.mono (by simp))) (fun hHeld => ?_)
                  clear hK K c7 f7
                  (try simp only [Act.put, List.getElem_toArray, List.getElem_cons_zero, List.getElem_cons_succ, List.setIfInBounds_toArray, List.set_cons_zero, List.set_cons_succ])
                  refine wpAnyH_done (by kernel_rfl) ?_ _
                  have hg'z : g' ≠ O := by
                    have h1 : z.heap.size ≤ g' := (hR5.off _ rfl).1
                    have := HZS.out.2.1
                    omega
                  have HBF : Hid (Blk yf O 29 #[.slice (some ⟨g, 0, none⟩) (a.tk - 1) cg, .int .i64 a.ctx, .int .i64 a.src.sch, str a.src.name, .int .u64 (a.src.node : Int), .int .u64 (a.src.svc : Int), .slice Ap a.ps.k cp, .slice (some ⟨g', 0, none⟩) (nn + 1) cp']) := hid hOf
                  have HRF := hid (hR5.modQ hM7 (fun g'' hg'' => by cases hg''; simpa using hg'z) (fun k hk _ => by have := HZS.out.2.1; have hk : z.heap.size ≤ k := hk; simp; omega))
                  have HMF : Hid (Mod (O :: obs A') wr yf) := hid hHeld
                  clear hOf hR5 hM7 hHeld hO9 hR9 hown' hgr' hat' hlt' hp5 hs5 hQ2 hI hOO hJ9
                  go_wp2_with fail
                  go_roundw
                  case rel =>
                    refine ⟨j + 1, by go_num, (show Hid _ from ⟨some ⟨g', 0, none⟩, cp', ac', HLT.out, ?_, Nat.le_trans HWZ.out HMF.out.size, by rw [HCN.out]; exact HBF.out, by rw [HCN.out]; exact HRF.out, HN.out.mod HMF.out ?_, HP.out.mod HMF.out ?_, HSP'.out.mod HMF.out ?_, HFT'.out.mod HMF.out ?_⟩)⟩
                    · exact ((Mod.of_ext (S := O :: obs A') HVW.out).trans HMF.out).new (fun k hk => .inr (by
                        rcases List.mem_cons.1 hk with rfl | hk
                        · exact HOV.out
                        · cases A' with
                          | none => cases hk
                          | some g'' => have := (HR.out.off g'' rfl).1; have := HZS.out.1; simp [obs] at hk; omega))
                    · intro b o h _
                      cases h
                      refine fun hm => (List.mem_cons.1 hm).elim (fun h => HOG.out h.symm) (offA_obs (fun g'' hg'' => ?_))
                      have := (HR.out.off g'' hg'').1
                      have := HZS.out.2.2
                      show g ≠ g''.block
                      omega
                    · intro k hk _
                      refine fun hm => (List.mem_cons.1 hm).elim hk.1.2 (offA_obs (fun g'' hg'' => ?_))
                      have := (HR.out.off g'' hg'').1
                      have := hk.2
                      omega
                    · intro k hk _
                      refine fun hm => (List.mem_cons.1 hm).elim hk.1.2 (offA_obs (fun g'' hg'' => ?_))
                      have := (HR.out.off g'' hg'').1
                      have := hk.2
                      omega
                    · intro k hk _
                      refine fun hm => (List.mem_cons.1 hm).elim hk.1.2 (offA_obs (fun g'' hg'' => ?_))
                      have := (HR.out.off g'' hg'').1
                      have := hk.2
                      omega
                  case measure => have := HLT.out; simp [intOf]; omega
          · obtain rfl : j = a.rk := by obtain ⟨_, _, _, hjk, _⟩ := hS.out; omega
            have tc : decide (a.rk < a.rk) = false := by simp
            obtain ⟨A', c', ac, hjk, hVW, _, hB, hR, hN, hP, hsp, hft⟩ := hS.out
            have HSP := hid hsp
            have HFT := hid hft
            clear hsp hft
            have HB := hid hB
            have HVW := hid hVW
            have HRS := hid (hR.rss (fun b hb => hb))
            have HN := hid hN
            have HP := hid hP
            have HB1W := hid (HB1.out.ext HVW.out)
            clear hS hjk hVW hB hR hN hP
            have tk1 : True := trivial
            have tk2 : True := trivial
            go_wp2_with (first | (clear tk1; refine wpList_row (by rfl) 29 _ rfl _ rfl HB.out Try.underlying29 rfl (by kernel_rfl) ?_) | (clear tk2; refine wpList_store_mid rfl 29 _ _ rfl (w.heap.size + 1) 0 #[.slice (some ⟨g, 0, none⟩) (a.tk - 1) cg, .int .i64 a.ctx, .int .i64 a.src.sch, str a.src.name, .int .u64 (a.src.node : Int), .int .u64 (a.src.svc : Int), .slice Ap a.ps.k cp, .slice A' (cntW i a.rk) c'] (by rfl) (by rfl) (HB1W.out.there (Nat.le_refl 8)) (by kernel_rfl) (by simp [Value.oneCell']) ?_))
            have hY := setCells_all (ds := #[.slice (some ⟨g, 0, none⟩) (a.tk - 1) cg, .int .i64 a.ctx, .int .i64 a.src.sch, str a.src.name, .int .u64 (a.src.node : Int), .int .u64 (a.src.svc : Int), .slice Ap a.ps.k cp, .slice A' (cntW i a.rk) c']) HB1W.out rfl
            have hM2 := setCells_mod (b := w.heap.size + 1) (#[.slice (some ⟨g, 0, none⟩) (a.tk - 1) cg, .int .i64 a.ctx, .int .i64 a.src.sch, str a.src.name, .int .u64 (a.src.node : Int), .int .u64 (a.src.svc : Int), .slice Ap a.ps.k cp, .slice A' (cntW i a.rk) c'] : Array Value).toList 0 (Mod.refl [w.heap.size + 1] wr) (.inl (by simp))
            generalize hZ2 : World.setCells wr _ 0 _ = Z2 at *
            refine bodyPost_ret (results_cell2 rfl _ (by rfl) (by rfl) hY Try.underlying29 rfl (by kernel_rfl)) rfl ⟨?_, ⟨some ⟨g, 0, none⟩, cg, Ap, cp, A', c'⟩, ?_, ?_, ?_⟩
            · exact ((Mod.of_ext (S := [w.heap.size + 1]) (HE.out.trans HVW.out)).trans hM2).new (fun k hk => .inr (by rw [List.mem_singleton] at hk; omega))
            · first | rfl | simp
            · have hv := HVS.out
              refine ⟨HN.out.mod hM2 (fun b o h _ => by cases h; have := HGV.out; simp; omega), fun b o h _ => by cases h; have := HGV.out; show w.heap.size ≤ g; omega, (HP.out.mod hM2 (fun k hk _ => by have := hk.1.1; simp; omega)).weak (fun b _ hb => by have := hb.1.1; show w.heap.size ≤ b; omega), ?_⟩
              exact (((HRS.out.rs.mod hM2 (fun k hk _ => by have := HZS.out; have hk : z.heap.size ≤ k := hk; simp; omega)).weak (fun b _ hb => by have := HZS.out; have hb : z.heap.size ≤ b := hb; show w.heap.size ≤ b; omega)))
            · have hv := HVS.out
              exact ⟨z.heap.size, by have := HZS.out; omega, (HFT.out.mod hM2 (fun k hk _ => by have := hk.1.1; simp; omega)).weak (fun b _ hb => ⟨by have := hb.1.1; omega, hb.2⟩), (HSP.out.mod hM2 (fun k hk _ => by have := hk.1.1; simp; omega)).weak (fun b _ hb => ⟨by have := hb.1.1; omega, hb.2⟩), HRS.out.mod hM2 (fun k hk _ => by have := HZS.out; have hk : z.heap.size ≤ k := hk; simp; omega)⟩
    · go_simp
      generalize hV : World.alloc x1 _ = x29
      have hBO : Blk x29 x1.heap.size 29 #[.slice none 0 0, .int .i64 0, .int .i64 0, .string ⟨#[]⟩, .int .u64 0, .int .u64 0, .slice none 0 0, .slice none 0 0] := by rw [← hV]; exact Blk.new _ _ _
      have hXX : Ext x1 x29 := by rw [← hV]; exact (Mod.refl [] _).alloc _
      have hOV : V.heap.size ≤ x1.heap.size := hHeld.size
      clear hV
      have hOg : x1.heap.size ≠ g := Nat.ne_of_gt hgu
      replace hgu := Nat.lt_of_lt_of_le hgu hXX.size
      have hown := ownsRow_mod hown hXX (fun _ _ => by simp)
      refine hK.out _ _ (hHeld.trans hXX) (fun hHeld => ?_)
      clear hK K hXX
      (try simp only [Act.put, List.getElem_toArray, List.getElem_cons_zero, List.getElem_cons_succ, List.setIfInBounds_toArray, List.set_cons_zero, List.set_cons_succ])
      generalize x1.heap.size = O at *
      refine wpAnyH_ready (rs := [6]) (by kernel_rfl) (by simp) ?_
      refine AllReadyH.cons rfl (fun K hK => ?_) AllReadyH.nil
      go_simp
      (try rw [hw1])
      go_at_call 43
      refine (DelN_any a.tg _ g a.tk cg i HI.out HF.out.1 x29 hown).mono ?_
      rintro x x30 ⟨rfl, hm, _, hns, hfz⟩
      have hft : softA x30 (fun b => V.heap.size ≤ b) (some ⟨g, 0, none⟩) := fun g' hg' => by cases hg'; exact ⟨hgV, Nat.lt_of_lt_of_le hgu hm.size, hfz⟩
      replace hgu := Nat.lt_of_lt_of_le hgu hm.size
      have hBO := hBO.mod hm (by simpa using hOg)
      refine hK.out _ _ (((Mod.of_ext (S := [g]) hHeld).trans hm).new (fun k hk => .inr (by rw [List.mem_singleton] at hk; subst hk; exact hgV))) (fun hHeld => ?_)
      clear hK K hm hown
      (try simp only [Act.put, List.getElem_toArray, List.getElem_cons_zero, List.getElem_cons_succ, List.setIfInBounds_toArray, List.set_cons_zero, List.set_cons_succ])
      refine wpAnyH_ready (rs := [13]) (by kernel_rfl) (by simp) ?_
      refine AllReadyH.cons rfl (fun K hK => ?_) AllReadyH.nil
      go_simp
      go_at_call 42
      refine (clone_fits HW.out.2.2.2.1 HF.out.2.1 mp mpc x30 (HPA.out.ext hHeld)).mono ?_
      rintro x x31 ⟨Ap, cp, rfl, hb, hps, hpc, hsp⟩
      have hft := hft.mod hb (by simp)
      have hns := hns.ext hb
      replace hgu := Nat.lt_of_lt_of_le hgu hb.size
      have hps := hps.weak (R := (fun b => V.heap.size ≤ b ∧ b ≠ O)) (fun b _ hb => ⟨Nat.le_trans hHeld.size hb, by have hb : x30.heap.size ≤ b := hb; have := hBO.lt; omega⟩)
      have hsp := hsp.weak (R := (fun b => V.heap.size ≤ b ∧ b ≠ O)) (fun b _ hb => ⟨Nat.le_trans hHeld.size hb, by have hb : x30.heap.size ≤ b := hb; have := hBO.lt; omega⟩)
      have hBO := hBO.ext hb
      refine hK.out _ _ (hHeld.trans hb) (fun hHeld => ?_)
      clear hK K hb
      (try simp only [Act.put, List.getElem_toArray, List.getElem_cons_zero, List.getElem_cons_succ, List.setIfInBounds_toArray, List.set_cons_zero, List.set_cons_succ])
      refine' wpAnyH_take (i := 14) (v := _) rfl (by kernel_rfl) (by kernel_rfl) (by kernel_rfl) (fun _ _ _ h => h) (Or.inl ⟨by rfl, ?hy23⟩) hHeld ?rest23
      case hy23 => (rintro W hM; go_simp; (try with_reducible rfl))
      case rest23 =>
      (try simp only [Act.put, List.getElem_toArray, List.getElem_cons_zero, List.getElem_cons_succ, List.setIfInBounds_toArray, List.set_cons_zero, List.set_cons_succ])
      refine wpAnyH_ready (rs := [16]) (by kernel_rfl) (by simp) ?_
      refine AllReadyH.cons rfl (fun K hK => ?_) AllReadyH.nil
      refine wp_store_mid 29 _ _ rfl O 0 #[.slice (some ⟨g, 0, none⟩) (a.tk - 1) cg, .int .i64 a.ctx, .int .i64 a.src.sch, str a.src.name, .int .u64 (a.src.node : Int), .int .u64 (a.src.svc : Int), .slice Ap a.ps.k cp, .slice none 0 0] (by rfl) (by rfl) (hBO.there (Nat.le_refl 8)) (by kernel_rfl) (by simp [Value.oneCell']) ?_
      have hZB := setCells_all (ds := #[.slice (some ⟨g, 0, none⟩) (a.tk - 1) cg, .int .i64 a.ctx, .int .i64 a.src.sch, str a.src.name, .int .u64 (a.src.node : Int), .int .u64 (a.src.svc : Int), .slice Ap a.ps.k cp, .slice none 0 0]) hBO rfl
      have hZO := setCells_mod (w := x31) (W := x31) (S := [O]) (b := O) (#[.slice (some ⟨g, 0, none⟩) (a.tk - 1) cg, .int .i64 a.ctx, .int .i64 a.src.sch, str a.src.name, .int .u64 (a.src.node : Int), .int .u64 (a.src.svc : Int), .slice Ap a.ps.k cp, .slice none 0 0] : Array Value).toList 0 (Mod.refl _ _) (.inl (by simp))
      generalize hZ : World.setCells _ O 0 _ = z at *
      clear hZ
      have hZM : Ext V z := ((Mod.of_ext (S := [O]) hHeld).trans hZO).new (fun k hk => .inr (by rw [List.mem_singleton] at hk; subst hk; exact hOV))
      refine hK.out _ _ hZM (fun hHeld => ?_)
      clear hK K
      (try simp only [Act.put, List.getElem_toArray, List.getElem_cons_zero, List.getElem_cons_succ, List.setIfInBounds_toArray, List.set_cons_zero, List.set_cons_succ])
      refine wpAnyH_done (by kernel_rfl) ?_ _
      have HBO := hid hZB
      have HNS := hid (hns.mod hZO (fun b o h _ => by cases h; simp; exact fun h => hOg h.symm))
      have HPS := hid (hps.mod hZO (fun k hk _ => by simp; exact hk.2))
      have HSP := hid (hsp.mod hZO (fun k hk _ => by simp; exact hk.2))
      have HFT : Hid (softA z (fun b => V.heap.size ≤ b ∧ b ≠ O) (some ⟨g, 0, none⟩)) := hid ((softA.weak (R := fun b => V.heap.size ≤ b ∧ b ≠ O) (fun g' hg' => by obtain ⟨q1, q2, q3⟩ := hft g' hg'; exact ⟨⟨q1, by cases hg'; exact fun h => hOg h.symm⟩, q2, q3⟩) (fun _ _ h => h)).mod hZO (fun k hk _ => by simp; exact hk.2))
      have HVZ := hid hZM
      have HOG := hid hOg
      have HGV := hid hgV
      have HOV := hid hOV
      have HGZ := hid (Nat.lt_of_lt_of_le hgu hZO.size)
      clear hZB hns hps hsp hft hfz hZM hZO hHeld hBO hOg hOV hgV hgu hpc
      have c7z : z.cell? ⟨w.heap.size, 7, none⟩ = some (.slice (some ⟨br, orr, none⟩) a.rk mrc) := b7 ⟨z, HVZ.out⟩
      go_upto_region 6 with fail
      have HZS : Hid (V.heap.size ≤ z.heap.size ∧ O < z.heap.size ∧ g < z.heap.size) := hid ⟨HVZ.out.size, HBO.out.lt, HGZ.out⟩
      go_loopw [35] (fun s35 wr => ∃ j : Nat, s35 = .int .i64 (j : Int) ∧ Hid (∃ A' c' ac, j ≤ a.rk ∧ Ext V wr ∧ z.heap.size ≤ wr.heap.size ∧ Blk wr O 29 #[.slice (some ⟨g, 0, none⟩) (a.tk - 1) cg, .int .i64 a.ctx, .int .i64 a.src.sch, str a.src.name, .int .u64 (a.src.node : Int), .int .u64 (a.src.svc : Int), .slice Ap a.ps.k cp, .slice A' (cntW i j) c'] ∧ RwG resS 22 wr (fun b => z.heap.size ≤ b) z.heap.size A' c' (cntW i j) (woP a.rs i) ac ∧ NsL wr (some ⟨g, 0, none⟩) (a.tk - 1) (delN a.tg i) ∧ PsL wr (fun b => (V.heap.size ≤ b ∧ b ≠ O) ∧ b < z.heap.size) Ap a.ps ∧ softA wr (fun b => (V.heap.size ≤ b ∧ b ≠ O) ∧ b < z.heap.size) Ap ∧ softA wr (fun b => (V.heap.size ≤ b ∧ b ≠ O) ∧ b < z.heap.size) (some ⟨g, 0, none⟩))) (fun s35 _ => a.rk - (intOf s35).toNat)
      case atStart => exact ⟨0, rfl, (show Hid _ from ⟨none, 0, fun _ => (none, 0), Nat.zero_le _, HVZ.out, Nat.le_refl _, HBO.out, RwG.nil, HNS.out, HPS.out.weak (fun b hb hq => ⟨hq, hb⟩), HSP.out.weak (fun b hb hq => ⟨hq, hb⟩), HFT.out.weak (fun b hb hq => ⟨hq, hb⟩)⟩)⟩
      case round =>
        obtain ⟨j, rfl, hS⟩ := hrel
        rename World => wr
        have j0 : (0 : Int) ≤ (j : Int) := by omega
        by_cases hlt : j < a.rk
        · obtain ⟨A', c', ac, hjk, HVW', hzw', hB', hR', hN', hP', hsp', hft'⟩ := hS.out
          have HSP' := hid hsp'
          have HFT' := hid hft'
          clear hsp' hft'
          have HWZ0 := hid hzw'
          obtain ⟨b', o', Aj, cj, hmr, hbr, q0, hkc, hPj⟩ := HL.out.r.at HVW' hlt
          have hmr : (some ⟨br, orr, none⟩ : Option Addr) = some ⟨b', o', none⟩ := hmr
          cases hmr
          have HVW := hid HVW'
          have HB := hid hB'
          have HR := hid hR'
          have HN := hid hN'
          have HP := hid hP'
          have HPJ := hid hPj
          have tc : decide (j < a.rk) = true := by simp [hlt]
          have j1 : (j : Int) < (a.rk : Int) := by omega
          have HLT := hid hlt
          clear hlt hjk HVW' hzw' hB' hR' hN' hP' hPj hkc hbr hS
          by_cases hji : j = i
          · subst hji
            have ea : ((j : Int) == (j : Int)) = true := by simp
            have eb : ((j : Int) != (j : Int)) = false := by simp
            go_wp2_with fail
            go_roundw
            case rel => exact ⟨j + 1, by go_num, (show Hid _ from ⟨A', c', ac, HLT.out, HVW.out, HWZ0.out, by rw [show cntW j (j + 1) = cntW j j by unfold cntW; rw [if_neg (by omega), if_pos (Nat.le_refl _)]; rfl]; exact HB.out, by rw [show cntW j (j + 1) = cntW j j by unfold cntW; rw [if_neg (by omega), if_pos (Nat.le_refl _)]; rfl]; exact HR.out, HN.out, HP.out, HSP'.out, HFT'.out⟩)⟩
            case measure => have := HLT.out; simp [intOf]; omega
          · have ea : ((j : Int) == (i : Int)) = false := by rw [beq_eq_false_iff_ne]; omega
            have eb : ((j : Int) != (i : Int)) = true := by rw [bne_iff_ne]; omega
            have ec : ((j : Int) = (i : Int)) = False := eq_false (by omega)
            have ed : (j = i) = False := eq_false hji
            have HCN : Hid (cntW i (j + 1) = cntW i j + 1) := hid (by unfold cntW; split <;> split <;> omega)
            have HWP : Hid (woP a.rs i (cntW i j) = a.rs j) := hid (by unfold cntW woP; split <;> split <;> first | rfl | (congr 1; omega) | (exfalso; omega))
            have HCB : Hid (cntW i j ≤ j) := hid (by unfold cntW; split <;> omega)
            have hkj : (a.rs j).k ≤ 100000 := (HF.out.2.2.2 j HLT.out).1
            clear hji
            generalize cntW i j = nn at *
            go_upto_region 9 with fail
            clear q0
            have HWZ : Hid (z.heap.size ≤ wr.heap.size) := hid HWZ0.out
            refine wp_region_held_drew (S := fun w' => Mod (O :: obs A') wr w') (by kernel_rfl) (Mod.refl _ _).drew (fun hHeld => ?_)
            have hO9 : Blk wr.drew O 29 #[.slice (some ⟨g, 0, none⟩) (a.tk - 1) cg, .int .i64 a.ctx, .int .i64 a.src.sch, str a.src.name, .int .u64 (a.src.node : Int), .int .u64 (a.src.svc : Int), .slice Ap a.ps.k cp, .slice A' nn c'] := HB.out.drew
            have hR9 := HR.out.ext ((Mod.refl [] wr).drew)
            have hJ9 : PsL wr.drew anyQ Aj (a.rs j) := HPJ.out.ext ((Mod.refl [] wr).drew)
            generalize wr.drew = y0 at *
            refine' wpAnyH_take (i := 0) (v := _) rfl (by kernel_rfl) (by kernel_rfl) (by kernel_rfl) (fun _ _ _ h => h) (Or.inl ⟨by rfl, ?hy24⟩) hHeld ?rest24
            case hy24 => (rintro W hM; go_simp; (try with_reducible rfl))
            case rest24 =>
            (try simp only [Act.put, List.getElem_toArray, List.getElem_cons_zero, List.getElem_cons_succ, List.setIfInBounds_toArray, List.set_cons_zero, List.set_cons_succ])
            refine' wpAnyH_take (i := 2) (v := _) rfl (by kernel_rfl) (by kernel_rfl) (by kernel_rfl) (fun _ _ _ h => h) (Or.inl ⟨by rfl, ?hy25⟩) hHeld ?rest25
            case hy25 => (rintro W hM; go_simp; (try with_reducible rfl))
            case rest25 =>
            (try simp only [Act.put, List.getElem_toArray, List.getElem_cons_zero, List.getElem_cons_succ, List.setIfInBounds_toArray, List.set_cons_zero, List.set_cons_succ])
            refine wpAnyH_ready (rs := [1, 3]) (by kernel_rfl) (by simp) ?_
            refine AllReadyH.cons rfl (fun K hK => ?_) (AllReadyH.cons rfl (fun K hK => ?_) AllReadyH.nil)
            · have c7 : y0.cell? ⟨O, 7, none⟩ = some (.slice A' nn c') := hO9.cell 7
              go_simp
              refine hK.out _ _ hHeld (fun hHeld => ?_)
              clear hK K c7
              (try simp only [Act.put, List.getElem_toArray, List.getElem_cons_zero, List.getElem_cons_succ, List.setIfInBounds_toArray, List.set_cons_zero, List.set_cons_succ])
              refine wpAnyH_ready (rs := [3]) (by kernel_rfl) (by simp) ?_
              refine AllReadyH.cons rfl (fun K hK => ?_) AllReadyH.nil
              go_simp
              go_at_call 42
              refine (clone_fits (HW.out.2.2.2.2.2 j HLT.out) (HF.out.2.2.2 j HLT.out) Aj cj y0 hJ9).mono ?_
              rintro x y33 ⟨A5, c5, rfl, hb, hp5, hc5, hs5⟩
              have hsz5 : wr.heap.size ≤ y0.heap.size := hHeld.size
              have hO9 := hO9.ext hb
              have hR9 := hR9.ext hb
              refine hK.out _ _ (hHeld.trans (hb.mono (by simp))) (fun hHeld => ?_)
              clear hK K
              (try simp only [Act.put, List.getElem_toArray, List.getElem_cons_zero, List.getElem_cons_succ, List.setIfInBounds_toArray, List.set_cons_zero, List.set_cons_succ])
              have hp5 : PsL y33 (fun b => wr.heap.size ≤ b) A5 (a.rs j) := hp5.weak (fun b _ h => Nat.le_trans hsz5 h)
              have hs5 : softA y33 (fun b => wr.heap.size ≤ b) A5 := hs5.weak (fun b _ h => Nat.le_trans hsz5 h)
              refine wpAnyH_ready (rs := [4]) (by kernel_rfl) (by simp) ?_
              refine AllReadyH.cons rfl (fun K hK => ?_) AllReadyH.nil
              go_simp
              have hQ2 : Blk (World.alloc y33 (.cells #[.slice A5 (a.rs j).k c5] 22)) y33.heap.size 22 #[.slice A5 (a.rs j).k c5] := Blk.new _ _ _
              have hXX : Ext y33 (World.alloc y33 (.cells #[.slice A5 (a.rs j).k c5] 22)) := (Mod.refl [] _).alloc _
              generalize World.alloc y33 (.cells #[.slice A5 (a.rs j).k c5] 22) = y34 at *
              have hO9 := hO9.ext hXX
              have hR9 := hR9.ext hXX
              have hp5 := hp5.ext hXX
              have hs5 := hs5.mod hXX (by simp)
              refine hK.out _ _ (hHeld.trans (hXX.mono (by simp))) (fun hHeld => ?_)
              clear hK K hXX
              (try simp only [Act.put, List.getElem_toArray, List.getElem_cons_zero, List.getElem_cons_succ, List.setIfInBounds_toArray, List.set_cons_zero, List.set_cons_succ])
              generalize y33.heap.size = gq at *
              refine wpAnyH_ready (rs := [5]) (by kernel_rfl) (by simp) ?_
              refine AllReadyH.cons rfl (fun K hK => ?_) AllReadyH.nil
              have hI : resS.hang y34 (fun b => z.heap.size ≤ b ∧ offA A' b) (a.rs j) (A5, c5) := ⟨⟨hp5.weak (fun b _ hb => ⟨by have := HWZ.out; have hb : wr.heap.size ≤ b := hb; omega, fun g' hg' => by have := (HR.out.off g' hg').2; have hb : wr.heap.size ≤ b := hb; omega⟩), hc5⟩, hs5.weak (fun b _ hb => ⟨by have := HWZ.out; have hb : wr.heap.size ≤ b := hb; omega, fun g' hg' => by have := (HR.out.off g' hg').2; have hb : wr.heap.size ≤ b := hb; omega⟩)⟩
              obtain ⟨ib, hi, hz0, hz1, hz2⟩ := info_parts infoPairs
              refine wp_append_lies _ _ _ 27 (by rfl) z.heap.size 22 ib _ 1 24 Try.underlying27 hi hz0 hz1 hz2 (by rfl) (by decide) _ nn _ (by rfl) hR9.own ⟨gq, 0, none⟩ 1 1 [.slice A5 (a.rs j).k c5] (by rfl) (by rfl) ?gnewy35 ?goney35 (by decide) ?gmy35 ?gby35 ?gbasey35 (y34.heap.size) rfl ?gky35
              case gnewy35 =>
                intro j' u hu
                rw [addr_add, Nat.zero_add, hQ2.cell j']
                simpa using hu
              case goney35 => intro u hu; simp at hu; subst hu; rfl
              case gmy35 => have := HLT.out; have := HF.out.2.2.1; have := HCB.out; unfold maxLen; omega
              case gby35 => have := HLT.out; have := HF.out.2.2.1; have := HCB.out; omega
              case gbasey35 => have := HWZ.out; have := hHeld.size; omega
              intro g' cp' y35 hown' hgr' hat' hlt'
              obtain ⟨ac', hR5⟩ := hR9.append hI HWP.out hown' hgr' hat'
              have hOO : O ∉ obs A' := by
                refine offA_obs (fun g' hg' => ?_)
                have := (HR.out.off g' hg').1
                have := HZS.out.2.1
                omega
              have hO9 := hO9.mod (grown_obs hgr') hOO
              refine hK.out _ _ (hHeld.trans ((grown_obs hgr').mono (by simp; exact fun k hk => .inr hk))) (fun hHeld => ?_)
              clear hK K
              (try simp only [Act.put, List.getElem_toArray, List.getElem_cons_zero, List.getElem_cons_succ, List.setIfInBounds_toArray, List.set_cons_zero, List.set_cons_succ])
              refine' wpAnyH_take (i := 6) (v := _) rfl (by kernel_rfl) (by kernel_rfl) (by kernel_rfl) (fun _ _ _ h => h) (Or.inl ⟨by rfl, ?hy26⟩) hHeld ?rest26
              case hy26 => (rintro W hM; go_simp; (try with_reducible rfl))
              case rest26 =>
              (try simp only [Act.put, List.getElem_toArray, List.getElem_cons_zero, List.getElem_cons_succ, List.setIfInBounds_toArray, List.set_cons_zero, List.set_cons_succ])
              refine wpAnyH_ready (rs := [7]) (by kernel_rfl) (by simp) ?_
              refine AllReadyH.cons rfl (fun K hK => ?_) AllReadyH.nil
              have c7 : y35.cell? ⟨O, 7, none⟩ = some (.slice A' nn c') := hO9.cell 7
              have f7 := hO9.frozen 7
              go_simp
              have hOf := hO9.set_ 7 (.slice (some ⟨g', 0, none⟩) (nn + 1) cp')
              have hM7 := (Mod.refl [O] y35).setCell (p := ⟨O, 7, none⟩) (.inl (by simp)) (.slice (some ⟨g', 0, none⟩) (nn + 1) cp')
              generalize World.setCell y35 ⟨O, 7, none⟩ _ = yf at *
              refine hK.out _ _ (hHeld.trans (hM7.mono (by simp))) (fun hHeld => ?_)
              clear hK K c7 f7
              (try simp only [Act.put, List.getElem_toArray, List.getElem_cons_zero, List.getElem_cons_succ, List.setIfInBounds_toArray, List.set_cons_zero, List.set_cons_succ])
              refine wpAnyH_done (by kernel_rfl) ?_ _
              have hg'z : g' ≠ O := by
                have h1 : z.heap.size ≤ g' := (hR5.off _ rfl).1
                have := HZS.out.2.1
                omega
              have HBF : Hid (Blk yf O 29 #[.slice (some ⟨g, 0, none⟩) (a.tk - 1) cg, .int .i64 a.ctx, .int .i64 a.src.sch, str a.src.name, .int .u64 (a.src.node : Int), .int .u64 (a.src.svc : Int), .slice Ap a.ps.k cp, .slice (some ⟨g', 0, none⟩) (nn + 1) cp']) := hid hOf
              have HRF := hid (hR5.modQ hM7 (fun g'' hg'' => by cases hg''; simpa using hg'z) (fun k hk _ => by have := HZS.out.2.1; have hk : z.heap.size ≤ k := hk; simp; omega))
              have HMF : Hid (Mod (O :: obs A') wr yf) := hid hHeld
              clear hOf hR5 hM7 hHeld hO9 hR9 hown' hgr' hat' hlt' hp5 hs5 hQ2 hI hOO hJ9
              go_wp2_with fail
              go_roundw
              case rel =>
                refine ⟨j + 1, by go_num, (show Hid _ from ⟨some ⟨g', 0, none⟩, cp', ac', HLT.out, ?_, Nat.le_trans HWZ.out HMF.out.size, by rw [HCN.out]; exact HBF.out, by rw [HCN.out]; exact HRF.out, HN.out.mod HMF.out ?_, HP.out.mod HMF.out ?_, HSP'.out.mod HMF.out ?_, HFT'.out.mod HMF.out ?_⟩)⟩
                · exact ((Mod.of_ext (S := O :: obs A') HVW.out).trans HMF.out).new (fun k hk => .inr (by
                    rcases List.mem_cons.1 hk with rfl | hk
                    · exact HOV.out
                    · cases A' with
                      | none => cases hk
                      | some g'' => have := (HR.out.off g'' rfl).1; have := HZS.out.1; simp [obs] at hk; omega))
                · intro b o h _
                  cases h
                  refine fun hm => (List.mem_cons.1 hm).elim (fun h => HOG.out h.symm) (offA_obs (fun g'' hg'' => ?_))
                  have := (HR.out.off g'' hg'').1
                  have := HZS.out.2.2
                  show g ≠ g''.block
                  omega
                · intro k hk _
                  refine fun hm => (List.mem_cons.1 hm).elim hk.1.2 (offA_obs (fun g'' hg'' => ?_))
                  have := (HR.out.off g'' hg'').1
                  have := hk.2
                  omega
                · intro k hk _
                  refine fun hm => (List.mem_cons.1 hm).elim hk.1.2 (offA_obs (fun g'' hg'' => ?_))
                  have := (HR.out.off g'' hg'').1
                  have := hk.2
                  omega
                · intro k hk _
                  refine fun hm => (List.mem_cons.1 hm).elim hk.1.2 (offA_obs (fun g'' hg'' => ?_))
                  have := (HR.out.off g'' hg'').1
                  have := hk.2
                  omega
              case measure => have := HLT.out; simp [intOf]; omega
            · go_simp
              go_at_call 42
              refine (clone_fits (HW.out.2.2.2.2.2 j HLT.out) (HF.out.2.2.2 j HLT.out) Aj cj y0 hJ9).mono ?_
              rintro x y36 ⟨A5, c5, rfl, hb, hp5, hc5, hs5⟩
              have hsz5 : wr.heap.size ≤ y0.heap.size := hHeld.size
              have hO9 := hO9.ext hb
              have hR9 := hR9.ext hb
              refine hK.out _ _ (hHeld.trans (hb.mono (by simp))) (fun hHeld => ?_)
              clear hK K
              (try simp only [Act.put, List.getElem_toArray, List.getElem_cons_zero, List.getElem_cons_succ, List.setIfInBounds_toArray, List.set_cons_zero, List.set_cons_succ])
              have hp5 : PsL y36 (fun b => wr.heap.size ≤ b) A5 (a.rs j) := hp5.weak (fun b _ h => Nat.le_trans hsz5 h)
              have hs5 : softA y36 (fun b => wr.heap.size ≤ b) A5 := hs5.weak (fun b _ h => Nat.le_trans hsz5 h)
              refine wpAnyH_ready (rs := [1, 4]) (by kernel_rfl) (by simp) ?_
              refine AllReadyH.cons rfl (fun K hK => ?_) (AllReadyH.cons rfl (fun K hK => ?_) AllReadyH.nil)
              · have c7 : y36.cell? ⟨O, 7, none⟩ = some (.slice A' nn c') := hO9.cell 7
                go_simp
                refine hK.out _ _ hHeld (fun hHeld => ?_)
                clear hK K c7
                (try simp only [Act.put, List.getElem_toArray, List.getElem_cons_zero, List.getElem_cons_succ, List.setIfInBounds_toArray, List.set_cons_zero, List.set_cons_succ])
                refine wpAnyH_ready (rs := [4]) (by kernel_rfl) (by simp) ?_
                refine AllReadyH.cons rfl (fun K hK => ?_) AllReadyH.nil
                go_simp
                have hQ2 : Blk (World.alloc y36 (.cells #[.slice A5 (a.rs j).k c5] 22)) y36.heap.size 22 #[.slice A5 (a.rs j).k c5] := Blk.new _ _ _
                have hXX : Ext y36 (World.alloc y36 (.cells #[.slice A5 (a.rs j).k c5] 22)) := (Mod.refl [] _).alloc _
                generalize World.alloc y36 (.cells #[.slice A5 (a.rs j).k c5] 22) = y38 at *
                have hO9 := hO9.ext hXX
                have hR9 := hR9.ext hXX
                have hp5 := hp5.ext hXX
                have hs5 := hs5.mod hXX (by simp)
                refine hK.out _ _ (hHeld.trans (hXX.mono (by simp))) (fun hHeld => ?_)
                clear hK K hXX
                (try simp only [Act.put, List.getElem_toArray, List.getElem_cons_zero, List.getElem_cons_succ, List.setIfInBounds_toArray, List.set_cons_zero, List.set_cons_succ])
                generalize y36.heap.size = gq at *
                refine wpAnyH_ready (rs := [5]) (by kernel_rfl) (by simp) ?_
                refine AllReadyH.cons rfl (fun K hK => ?_) AllReadyH.nil
                have hI : resS.hang y38 (fun b => z.heap.size ≤ b ∧ offA A' b) (a.rs j) (A5, c5) := ⟨⟨hp5.weak (fun b _ hb => ⟨by have := HWZ.out; have hb : wr.heap.size ≤ b := hb; omega, fun g' hg' => by have := (HR.out.off g' hg').2; have hb : wr.heap.size ≤ b := hb; omega⟩), hc5⟩, hs5.weak (fun b _ hb => ⟨by have := HWZ.out; have hb : wr.heap.size ≤ b := hb; omega, fun g' hg' => by have := (HR.out.off g' hg').2; have hb : wr.heap.size ≤ b := hb; omega⟩)⟩
                obtain ⟨ib, hi, hz0, hz1, hz2⟩ := info_parts infoPairs
                refine wp_append_lies _ _ _ 27 (by rfl) z.heap.size 22 ib _ 1 24 Try.underlying27 hi hz0 hz1 hz2 (by rfl) (by decide) _ nn _ (by rfl) hR9.own ⟨gq, 0, none⟩ 1 1 [.slice A5 (a.rs j).k c5] (by rfl) (by rfl) ?gnewy39 ?goney39 (by decide) ?gmy39 ?gby39 ?gbasey39 (y38.heap.size) rfl ?gky39
                case gnewy39 =>
                  intro j' u hu
                  rw [addr_add, Nat.zero_add, hQ2.cell j']
                  simpa using hu
                case goney39 => intro u hu; simp at hu; subst hu; rfl
                case gmy39 => have := HLT.out; have := HF.out.2.2.1; have := HCB.out; unfold maxLen; omega
                case gby39 => have := HLT.out; have := HF.out.2.2.1; have := HCB.out; omega
                case gbasey39 => have := HWZ.out; have := hHeld.size; omega
                intro g' cp' y39 hown' hgr' hat' hlt'
                obtain ⟨ac', hR5⟩ := hR9.append hI HWP.out hown' hgr' hat'
                have hOO : O ∉ obs A' := by
                  refine offA_obs (fun g' hg' => ?_)
                  have := (HR.out.off g' hg').1
                  have := HZS.out.2.1
                  omega
                have hO9 := hO9.mod (grown_obs hgr') hOO
                refine hK.out _ _ (hHeld.trans ((grown_obs hgr').mono (by simp; exact fun k hk => .inr hk))) (fun hHeld => ?_)
                clear hK K
                (try simp only [Act.put, List.getElem_toArray, List.getElem_cons_zero, List.getElem_cons_succ, List.setIfInBounds_toArray, List.set_cons_zero, List.set_cons_succ])
                refine' wpAnyH_take (i := 6) (v := _) rfl (by kernel_rfl) (by kernel_rfl) (by kernel_rfl) (fun _ _ _ h => h) (Or.inl ⟨by rfl, ?hy27⟩) hHeld ?rest27
                case hy27 => (rintro W hM; go_simp; (try with_reducible rfl))
                case rest27 =>
                (try simp only [Act.put, List.getElem_toArray, List.getElem_cons_zero, List.getElem_cons_succ, List.setIfInBounds_toArray, List.set_cons_zero, List.set_cons_succ])
                refine wpAnyH_ready (rs := [7]) (by kernel_rfl) (by simp) ?_
                refine AllReadyH.cons rfl (fun K hK => ?_) AllReadyH.nil
                have c7 : y39.cell? ⟨O, 7, none⟩ = some (.slice A' nn c') := hO9.cell 7
                have f7 := hO9.frozen 7
                go_simp
                have hOf := hO9.set_ 7 (.slice (some ⟨g', 0, none⟩) (nn + 1) cp')
                have hM7 := (Mod.refl [O] y39).setCell (p := ⟨O, 7, none⟩) (.inl (by simp)) (.slice (some ⟨g', 0, none⟩) (nn + 1) cp')
                generalize World.setCell y39 ⟨O, 7, none⟩ _ = yf at *
                refine hK.out _ _ (hHeld.trans (hM7.mono (by simp))) (fun hHeld => ?_)
                clear hK K c7 f7
                (try simp only [Act.put, List.getElem_toArray, List.getElem_cons_zero, List.getElem_cons_succ, List.setIfInBounds_toArray, List.set_cons_zero, List.set_cons_succ])
                refine wpAnyH_done (by kernel_rfl) ?_ _
                have hg'z : g' ≠ O := by
                  have h1 : z.heap.size ≤ g' := (hR5.off _ rfl).1
                  have := HZS.out.2.1
                  omega
                have HBF : Hid (Blk yf O 29 #[.slice (some ⟨g, 0, none⟩) (a.tk - 1) cg, .int .i64 a.ctx, .int .i64 a.src.sch, str a.src.name, .int .u64 (a.src.node : Int), .int .u64 (a.src.svc : Int), .slice Ap a.ps.k cp, .slice (some ⟨g', 0, none⟩) (nn + 1) cp']) := hid hOf
                have HRF := hid (hR5.modQ hM7 (fun g'' hg'' => by cases hg''; simpa using hg'z) (fun k hk _ => by have := HZS.out.2.1; have hk : z.heap.size ≤ k := hk; simp; omega))
                have HMF : Hid (Mod (O :: obs A') wr yf) := hid hHeld
                clear hOf hR5 hM7 hHeld hO9 hR9 hown' hgr' hat' hlt' hp5 hs5 hQ2 hI hOO hJ9
                go_wp2_with fail
                go_roundw
                case rel =>
                  refine ⟨j + 1, by go_num, (show Hid _ from ⟨some ⟨g', 0, none⟩, cp', ac', HLT.out, ?_, Nat.le_trans HWZ.out HMF.out.size, by rw [HCN.out]; exact HBF.out, by rw [HCN.out]; exact HRF.out, HN.out.mod HMF.out ?_, HP.out.mod HMF.out ?_, HSP'.out.mod HMF.out ?_, HFT'.out.mod HMF.out ?_⟩)⟩
                  · exact ((Mod.of_ext (S := O :: obs A') HVW.out).trans HMF.out).new (fun k hk => .inr (by
                      rcases List.mem_cons.1 hk with rfl | hk
                      · exact HOV.out
                      · cases A' with
                        | none => cases hk
                        | some g'' => have := (HR.out.off g'' rfl).1; have := HZS.out.1; simp [obs] at hk; omega))
                  · intro b o h _
                    cases h
                    refine fun hm => (List.mem_cons.1 hm).elim (fun h => HOG.out h.symm) (offA_obs (fun g'' hg'' => ?_))
                    have := (HR.out.off g'' hg'').1
                    have := HZS.out.2.2
                    show g ≠ g''.block
                    omega
                  · intro k hk _
                    refine fun hm => (List.mem_cons.1 hm).elim hk.1.2 (offA_obs (fun g'' hg'' => ?_))
                    have := (HR.out.off g'' hg'').1
                    have := hk.2
                    omega
                  · intro k hk _
                    refine fun hm => (List.mem_cons.1 hm).elim hk.1.2 (offA_obs (fun g'' hg'' => ?_))
                    have := (HR.out.off g'' hg'').1
                    have := hk.2
                    omega
                  · intro k hk _
                    refine fun hm => (List.mem_cons.1 hm).elim hk.1.2 (offA_obs (fun g'' hg'' => ?_))
                    have := (HR.out.off g'' hg'').1
                    have := hk.2
                    omega
                case measure => have := HLT.out; simp [intOf]; omega
              · go_simp
                have hQ2 : Blk (World.alloc y36 (.cells #[.slice A5 (a.rs j).k c5] 22)) y36.heap.size 22 #[.slice A5 (a.rs j).k c5] := Blk.new _ _ _
                have hXX : Ext y36 (World.alloc y36 (.cells #[.slice A5 (a.rs j).k c5] 22)) := (Mod.refl [] _).alloc _
                generalize World.alloc y36 (.cells #[.slice A5 (a.rs j).k c5] 22) = y40 at *
                have hO9 := hO9.ext hXX
                have hR9 := hR9.ext hXX
                have hp5 := hp5.ext hXX
                have hs5 := hs5.mod hXX (by simp)
                refine hK.out _ _ (hHeld.trans (hXX.mono (by simp))) (fun hHeld => ?_)
                clear hK K hXX
                (try simp only [Act.put, List.getElem_toArray, List.getElem_cons_zero, List.getElem_cons_succ, List.setIfInBounds_toArray, List.set_cons_zero, List.set_cons_succ])
                generalize y36.heap.size = gq at *
                refine wpAnyH_ready (rs := [1]) (by kernel_rfl) (by simp) ?_
                refine AllReadyH.cons rfl (fun K hK => ?_) AllReadyH.nil
                have c7 : y40.cell? ⟨O, 7, none⟩ = some (.slice A' nn c') := hO9.cell 7
                go_simp
                refine hK.out _ _ hHeld (fun hHeld => ?_)
                clear hK K c7
                (try simp only [Act.put, List.getElem_toArray, List.getElem_cons_zero, List.getElem_cons_succ, List.setIfInBounds_toArray, List.set_cons_zero, List.set_cons_succ])
                refine wpAnyH_ready (rs := [5]) (by kernel_rfl) (by simp) ?_
                refine AllReadyH.cons rfl (fun K hK => ?_) AllReadyH.nil
                have hI : resS.hang y40 (fun b => z.heap.size ≤ b ∧ offA A' b) (a.rs j) (A5, c5) := ⟨⟨hp5.weak (fun b _ hb => ⟨by have := HWZ.out; have hb : wr.heap.size ≤ b := hb; omega, fun g' hg' => by have := (HR.out.off g' hg').2; have hb : wr.heap.size ≤ b := hb; omega⟩), hc5⟩, hs5.weak (fun b _ hb => ⟨by have := HWZ.out; have hb : wr.heap.size ≤ b := hb; omega, fun g' hg' => by have := (HR.out.off g' hg').2; have hb : wr.heap.size ≤ b := hb; omega⟩)⟩
                obtain ⟨ib, hi, hz0, hz1, hz2⟩ := info_parts infoPairs
                refine wp_append_lies _ _ _ 27 (by rfl) z.heap.size 22 ib _ 1 24 Try.underlying27 hi hz0 hz1 hz2 (by rfl) (by decide) _ nn _ (by rfl) hR9.own ⟨gq, 0, none⟩ 1 1 [.slice A5 (a.rs j).k c5] (by rfl) (by rfl) ?gnewy42 ?goney42 (by decide) ?gmy42 ?gby42 ?gbasey42 (y40.heap.size) rfl ?gky42
                case gnewy42 =>
                  intro j' u hu
                  rw [addr_add, Nat.zero_add, hQ2.cell j']
                  simpa using hu
                case goney42 => intro u hu; simp at hu; subst hu; rfl
                case gmy42 => have := HLT.out; have := HF.out.2.2.1; have := HCB.out; unfold maxLen; omega
                case gby42 => have := HLT.out; have := HF.out.2.2.1; have := HCB.out; omega
                case gbasey42 => have := HWZ.out; have := hHeld.size; omega
                intro g' cp' y42 hown' hgr' hat' hlt'
                obtain ⟨ac', hR5⟩ := hR9.append hI HWP.out hown' hgr' hat'
                have hOO : O ∉ obs A' := by
                  refine offA_obs (fun g' hg' => ?_)
                  have := (HR.out.off g' hg').1
                  have := HZS.out.2.1
                  omega
                have hO9 := hO9.mod (grown_obs hgr') hOO
                refine hK.out _ _ (hHeld.trans ((grown_obs hgr').mono (by simp; exact fun k hk => .inr hk))) (fun hHeld => ?_)
                clear hK K
                (try simp only [Act.put, List.getElem_toArray, List.getElem_cons_zero, List.getElem_cons_succ, List.setIfInBounds_toArray, List.set_cons_zero, List.set_cons_succ])
                refine' wpAnyH_take (i := 6) (v := _) rfl (by kernel_rfl) (by kernel_rfl) (by kernel_rfl) (fun _ _ _ h => h) (Or.inl ⟨by rfl, ?hy28⟩) hHeld ?rest28
                case hy28 => (rintro W hM; go_simp; (try with_reducible rfl))
                case rest28 =>
                (try simp only [Act.put, List.getElem_toArray, List.getElem_cons_zero, List.getElem_cons_succ, List.setIfInBounds_toArray, List.set_cons_zero, List.set_cons_succ])
                refine wpAnyH_ready (rs := [7]) (by kernel_rfl) (by simp) ?_
                refine AllReadyH.cons rfl (fun K hK => ?_) AllReadyH.nil
                have c7 : y42.cell? ⟨O, 7, none⟩ = some (.slice A' nn c') := hO9.cell 7
                have f7 := hO9.frozen 7
                go_simp
                have hOf := hO9.set_ 7 (.slice (some ⟨g', 0, none⟩) (nn + 1) cp')
                have hM7 := (Mod.refl [O] y42).setCell (p := ⟨O, 7, none⟩) (.inl (by simp)) (.slice (some ⟨g', 0, none⟩) (nn + 1) cp')
                generalize World.setCell y42 ⟨O, 7, none⟩ _ = yf at *
                refine hK.out _ _ (hHeld.trans (hM7.mono (by simp))) (fun hHeld => ?_)
                clear hK K c7 f7
                (try simp only [Act.put, List.getElem_toArray, List.getElem_cons_zero, List.getElem_cons_succ, List.setIfInBounds_toArray, List.set_cons_zero, List.set_cons_succ])
                refine wpAnyH_done (by kernel_rfl) ?_ _
                have hg'z : g' ≠ O := by
                  have h1 : z.heap.size ≤ g' := (hR5.off _ rfl).1
                  have := HZS.out.2.1
                  omega
                have HBF : Hid (Blk yf O 29 #[.slice (some ⟨g, 0, none⟩) (a.tk - 1) cg, .int .i64 a.ctx, .int .i64 a.src.sch, str a.src.name, .int .u64 (a.src.node : Int), .int .u64 (a.src.svc : Int), .slice Ap a.ps.k cp, .slice (some ⟨g', 0, none⟩) (nn + 1) cp']) := hid hOf
                have HRF := hid (hR5.modQ hM7 (fun g'' hg'' => by cases hg''; simpa using hg'z) (fun k hk _ => by have := HZS.out.2.1; have hk : z.heap.size ≤ k := hk; simp; omega))
                have HMF : Hid (Mod (O :: obs A') wr yf) := hid hHeld
                clear hOf hR5 hM7 hHeld hO9 hR9 hown' hgr' hat' hlt' hp5 hs5 hQ2 hI hOO hJ9
                go_wp2_with fail
                go_roundw
                case rel =>
                  refine ⟨j + 1, by go_num, (show Hid _ from ⟨some ⟨g', 0, none⟩, cp', ac', HLT.out, ?_, Nat.le_trans HWZ.out HMF.out.size, by rw [HCN.out]; exact HBF.out, by rw [HCN.out]; exact HRF.out, HN.out.mod HMF.out ?_, HP.out.mod HMF.out ?_, HSP'.out.mod HMF.out ?_, HFT'.out.mod HMF.out ?_⟩)⟩
                  · exact ((Mod.of_ext (S := O :: obs A') HVW.out).trans HMF.out).new (fun k hk => .inr (by
                      rcases List.mem_cons.1 hk with rfl | hk
                      · exact HOV.out
                      · cases A' with
                        | none => cases hk
                        | some g'' => have := (HR.out.off g'' rfl).1; have := HZS.out.1; simp [obs] at hk; omega))
                  · intro b o h _
                    cases h
                    refine fun hm => (List.mem_cons.1 hm).elim (fun h => HOG.out h.symm) (offA_obs (fun g'' hg'' => ?_))
                    have := (HR.out.off g'' hg'').1
                    have := HZS.out.2.2
                    show g ≠ g''.block
                    omega
                  · intro k hk _
                    refine fun hm => (List.mem_cons.1 hm).elim hk.1.2 (offA_obs (fun g'' hg'' => ?_))
                    have := (HR.out.off g'' hg'').1
                    have := hk.2
                    omega
                  · intro k hk _
                    refine fun hm => (List.mem_cons.1 hm).elim hk.1.2 (offA_obs (fun g'' hg'' => ?_))
                    have := (HR.out.off g'' hg'').1
                    have := hk.2
                    omega
                  · intro k hk _
                    refine fun hm => (List.mem_cons.1 hm).elim hk.1.2 (offA_obs (fun g'' hg'' => ?_))
                    have := (HR.out.off g'' hg'').1
                    have := hk.2
                    omega
                case measure => have := HLT.out; simp [intOf]; omega
        · obtain rfl : j = a.rk := by obtain ⟨_, _, _, hjk, _⟩ := hS.out; omega
          have tc : decide (a.rk < a.rk) = false := by simp
          obtain ⟨A', c', ac, hjk, hVW, _, hB, hR, hN, hP, hsp, hft⟩ := hS.out
          have HSP := hid hsp
          have HFT := hid hft
          clear hsp hft
          have HB := hid hB
          have HVW := hid hVW
          have HRS := hid (hR.rss (fun b hb => hb))
          have HN := hid hN
          have HP := hid hP
          have HB1W := hid (HB1.out.ext HVW.out)
          clear hS hjk hVW hB hR hN hP
          have tk1 : True := trivial
          have tk2 : True := trivial
          go_wp2_with (first | (clear tk1; refine wpList_row (by rfl) 29 _ rfl _ rfl HB.out Try.underlying29 rfl (by kernel_rfl) ?_) | (clear tk2; refine wpList_store_mid rfl 29 _ _ rfl (w.heap.size + 1) 0 #[.slice (some ⟨g, 0, none⟩) (a.tk - 1) cg, .int .i64 a.ctx, .int .i64 a.src.sch, str a.src.name, .int .u64 (a.src.node : Int), .int .u64 (a.src.svc : Int), .slice Ap a.ps.k cp, .slice A' (cntW i a.rk) c'] (by rfl) (by rfl) (HB1W.out.there (Nat.le_refl 8)) (by kernel_rfl) (by simp [Value.oneCell']) ?_))
          have hY := setCells_all (ds := #[.slice (some ⟨g, 0, none⟩) (a.tk - 1) cg, .int .i64 a.ctx, .int .i64 a.src.sch, str a.src.name, .int .u64 (a.src.node : Int), .int .u64 (a.src.svc : Int), .slice Ap a.ps.k cp, .slice A' (cntW i a.rk) c']) HB1W.out rfl
          have hM2 := setCells_mod (b := w.heap.size + 1) (#[.slice (some ⟨g, 0, none⟩) (a.tk - 1) cg, .int .i64 a.ctx, .int .i64 a.src.sch, str a.src.name, .int .u64 (a.src.node : Int), .int .u64 (a.src.svc : Int), .slice Ap a.ps.k cp, .slice A' (cntW i a.rk) c'] : Array Value).toList 0 (Mod.refl [w.heap.size + 1] wr) (.inl (by simp))
          generalize hZ2 : World.setCells wr _ 0 _ = Z2 at *
          refine bodyPost_ret (results_cell2 rfl _ (by rfl) (by rfl) hY Try.underlying29 rfl (by kernel_rfl)) rfl ⟨?_, ⟨some ⟨g, 0, none⟩, cg, Ap, cp, A', c'⟩, ?_, ?_, ?_⟩
          · exact ((Mod.of_ext (S := [w.heap.size + 1]) (HE.out.trans HVW.out)).trans hM2).new (fun k hk => .inr (by rw [List.mem_singleton] at hk; omega))
          · first | rfl | simp
          · have hv := HVS.out
            refine ⟨HN.out.mod hM2 (fun b o h _ => by cases h; have := HGV.out; simp; omega), fun b o h _ => by cases h; have := HGV.out; show w.heap.size ≤ g; omega, (HP.out.mod hM2 (fun k hk _ => by have := hk.1.1; simp; omega)).weak (fun b _ hb => by have := hb.1.1; show w.heap.size ≤ b; omega), ?_⟩
            exact (((HRS.out.rs.mod hM2 (fun k hk _ => by have := HZS.out; have hk : z.heap.size ≤ k := hk; simp; omega)).weak (fun b _ hb => by have := HZS.out; have hb : z.heap.size ≤ b := hb; show w.heap.size ≤ b; omega)))
          · have hv := HVS.out
            exact ⟨z.heap.size, by have := HZS.out; omega, (HFT.out.mod hM2 (fun k hk _ => by have := hk.1.1; simp; omega)).weak (fun b _ hb => ⟨by have := hb.1.1; omega, hb.2⟩), (HSP.out.mod hM2 (fun k hk _ => by have := hk.1.1; simp; omega)).weak (fun b _ hb => ⟨by have := hb.1.1; omega, hb.2⟩), HRS.out.mod hM2 (fun k hk _ => by have := HZS.out; have hk : z.heap.size ≤ k := hk; simp; omega)⟩
  · go_simp
    generalize hV : World.alloc x0 _ = x43
    have hBO : Blk x43 x0.heap.size 29 #[.slice none 0 0, .int .i64 0, .int .i64 0, .string ⟨#[]⟩, .int .u64 0, .int .u64 0, .slice none 0 0, .slice none 0 0] := by rw [← hV]; exact Blk.new _ _ _
    have hXX : Ext x0 x43 := by rw [← hV]; exact (Mod.refl [] _).alloc _
    have hOV : V.heap.size ≤ x0.heap.size := hHeld.size
    clear hV
    refine hK.out _ _ (hHeld.trans hXX) (fun hHeld => ?_)
    clear hK K hXX
    (try simp only [Act.put, List.getElem_toArray, List.getElem_cons_zero, List.getElem_cons_succ, List.setIfInBounds_toArray, List.set_cons_zero, List.set_cons_succ])
    generalize x0.heap.size = O at *
    refine wpAnyH_ready (rs := [2]) (by kernel_rfl) (by simp) ?_
    refine AllReadyH.cons rfl (fun K hK => ?_) AllReadyH.nil
    go_simp
    go_at_call 44
    refine (CloneN_any a.tg a.tk HK0.out (some ⟨bt, ot, none⟩) mtc x43 (HNT.out.ext hHeld)).mono ?_
    rintro x x44 ⟨g, cg, rfl, hb, hown⟩
    have hgl := hown.lt g rfl
    have hgV : V.heap.size ≤ g := Nat.le_trans hHeld.size hgl.1
    have hgu := hgl.2
    have hOg : O ≠ g := by have := hBO.lt; omega
    have hBO := hBO.ext hb
    refine hK.out _ _ (hHeld.trans hb) (fun hHeld => ?_)
    clear hK K hb
    (try simp only [Act.put, List.getElem_toArray, List.getElem_cons_zero, List.getElem_cons_succ, List.setIfInBounds_toArray, List.set_cons_zero, List.set_cons_succ])
    refine wpAnyH_ready (rs := [6]) (by kernel_rfl) (by simp) ?_
    refine AllReadyH.cons rfl (fun K hK => ?_) AllReadyH.nil
    go_simp
    (try rw [hw1])
    go_at_call 43
    refine (DelN_any a.tg _ g a.tk cg i HI.out HF.out.1 x44 hown).mono ?_
    rintro x x45 ⟨rfl, hm, _, hns, hfz⟩
    have hft : softA x45 (fun b => V.heap.size ≤ b) (some ⟨g, 0, none⟩) := fun g' hg' => by cases hg'; exact ⟨hgV, Nat.lt_of_lt_of_le hgu hm.size, hfz⟩
    replace hgu := Nat.lt_of_lt_of_le hgu hm.size
    have hBO := hBO.mod hm (by simpa using hOg)
    refine hK.out _ _ (((Mod.of_ext (S := [g]) hHeld).trans hm).new (fun k hk => .inr (by rw [List.mem_singleton] at hk; subst hk; exact hgV))) (fun hHeld => ?_)
    clear hK K hm hown
    (try simp only [Act.put, List.getElem_toArray, List.getElem_cons_zero, List.getElem_cons_succ, List.setIfInBounds_toArray, List.set_cons_zero, List.set_cons_succ])
    refine wpAnyH_ready (rs := [13]) (by kernel_rfl) (by simp) ?_
    refine AllReadyH.cons rfl (fun K hK => ?_) AllReadyH.nil
    go_simp
    go_at_call 42
    refine (clone_fits HW.out.2.2.2.1 HF.out.2.1 mp mpc x45 (HPA.out.ext hHeld)).mono ?_
    rintro x x46 ⟨Ap, cp, rfl, hb, hps, hpc, hsp⟩
    have hft := hft.mod hb (by simp)
    have hns := hns.ext hb
    replace hgu := Nat.lt_of_lt_of_le hgu hb.size
    have hps := hps.weak (R := (fun b => V.heap.size ≤ b ∧ b ≠ O)) (fun b _ hb => ⟨Nat.le_trans hHeld.size hb, by have hb : x45.heap.size ≤ b := hb; have := hBO.lt; omega⟩)
    have hsp := hsp.weak (R := (fun b => V.heap.size ≤ b ∧ b ≠ O)) (fun b _ hb => ⟨Nat.le_trans hHeld.size hb, by have hb : x45.heap.size ≤ b := hb; have := hBO.lt; omega⟩)
    have hBO := hBO.ext hb
    refine hK.out _ _ (hHeld.trans hb) (fun hHeld => ?_)
    clear hK K hb
    (try simp only [Act.put, List.getElem_toArray, List.getElem_cons_zero, List.getElem_cons_succ, List.setIfInBounds_toArray, List.set_cons_zero, List.set_cons_succ])
    refine' wpAnyH_take (i := 14) (v := _) rfl (by kernel_rfl) (by kernel_rfl) (by kernel_rfl) (fun _ _ _ h => h) (Or.inl ⟨by rfl, ?hy29⟩) hHeld ?rest29
    case hy29 => (rintro W hM; go_simp; (try with_reducible rfl))
    case rest29 =>
    (try simp only [Act.put, List.getElem_toArray, List.getElem_cons_zero, List.getElem_cons_succ, List.setIfInBounds_toArray, List.set_cons_zero, List.set_cons_succ])
    refine wpAnyH_ready (rs := [16]) (by kernel_rfl) (by simp) ?_
    refine AllReadyH.cons rfl (fun K hK => ?_) AllReadyH.nil
    refine wp_store_mid 29 _ _ rfl O 0 #[.slice (some ⟨g, 0, none⟩) (a.tk - 1) cg, .int .i64 a.ctx, .int .i64 a.src.sch, str a.src.name, .int .u64 (a.src.node : Int), .int .u64 (a.src.svc : Int), .slice Ap a.ps.k cp, .slice none 0 0] (by rfl) (by rfl) (hBO.there (Nat.le_refl 8)) (by kernel_rfl) (by simp [Value.oneCell']) ?_
    have hZB := setCells_all (ds := #[.slice (some ⟨g, 0, none⟩) (a.tk - 1) cg, .int .i64 a.ctx, .int .i64 a.src.sch, str a.src.name, .int .u64 (a.src.node : Int), .int .u64 (a.src.svc : Int), .slice Ap a.ps.k cp, .slice none 0 0]) hBO rfl
    have hZO := setCells_mod (w := x46) (W := x46) (S := [O]) (b := O) (#[.slice (some ⟨g, 0, none⟩) (a.tk - 1) cg, .int .i64 a.ctx, .int .i64 a.src.sch, str a.src.name, .int .u64 (a.src.node : Int), .int .u64 (a.src.svc : Int), .slice Ap a.ps.k cp, .slice none 0 0] : Array Value).toList 0 (Mod.refl _ _) (.inl (by simp))
    generalize hZ : World.setCells _ O 0 _ = z at *
    clear hZ
    have hZM : Ext V z := ((Mod.of_ext (S := [O]) hHeld).trans hZO).new (fun k hk => .inr (by rw [List.mem_singleton] at hk; subst hk; exact hOV))
    refine hK.out _ _ hZM (fun hHeld => ?_)
    clear hK K
    (try simp only [Act.put, List.getElem_toArray, List.getElem_cons_zero, List.getElem_cons_succ, List.setIfInBounds_toArray, List.set_cons_zero, List.set_cons_succ])
    refine wpAnyH_done (by kernel_rfl) ?_ _
    have HBO := hid hZB
    have HNS := hid (hns.mod hZO (fun b o h _ => by cases h; simp; exact fun h => hOg h.symm))
    have HPS := hid (hps.mod hZO (fun k hk _ => by simp; exact hk.2))
    have HSP := hid (hsp.mod hZO (fun k hk _ => by simp; exact hk.2))
    have HFT : Hid (softA z (fun b => V.heap.size ≤ b ∧ b ≠ O) (some ⟨g, 0, none⟩)) := hid ((softA.weak (R := fun b => V.heap.size ≤ b ∧ b ≠ O) (fun g' hg' => by obtain ⟨q1, q2, q3⟩ := hft g' hg'; exact ⟨⟨q1, by cases hg'; exact fun h => hOg h.symm⟩, q2, q3⟩) (fun _ _ h => h)).mod hZO (fun k hk _ => by simp; exact hk.2))
    have HVZ := hid hZM
    have HOG := hid hOg
    have HGV := hid hgV
    have HOV := hid hOV
    have HGZ := hid (Nat.lt_of_lt_of_le hgu hZO.size)
    clear hZB hns hps hsp hft hfz hZM hZO hHeld hBO hOg hOV hgV hgu hpc
    have c7z : z.cell? ⟨w.heap.size, 7, none⟩ = some (.slice (some ⟨br, orr, none⟩) a.rk mrc) := b7 ⟨z, HVZ.out⟩
    go_upto_region 6 with fail
    have HZS : Hid (V.heap.size ≤ z.heap.size ∧ O < z.heap.size ∧ g < z.heap.size) := hid ⟨HVZ.out.size, HBO.out.lt, HGZ.out⟩
    go_loopw [35] (fun s35 wr => ∃ j : Nat, s35 = .int .i64 (j : Int) ∧ Hid (∃ A' c' ac, j ≤ a.rk ∧ Ext V wr ∧ z.heap.size ≤ wr.heap.size ∧ Blk wr O 29 #[.slice (some ⟨g, 0, none⟩) (a.tk - 1) cg, .int .i64 a.ctx, .int .i64 a.src.sch, str a.src.name, .int .u64 (a.src.node : Int), .int .u64 (a.src.svc : Int), .slice Ap a.ps.k cp, .slice A' (cntW i j) c'] ∧ RwG resS 22 wr (fun b => z.heap.size ≤ b) z.heap.size A' c' (cntW i j) (woP a.rs i) ac ∧ NsL wr (some ⟨g, 0, none⟩) (a.tk - 1) (delN a.tg i) ∧ PsL wr (fun b => (V.heap.size ≤ b ∧ b ≠ O) ∧ b < z.heap.size) Ap a.ps ∧ softA wr (fun b => (V.heap.size ≤ b ∧ b ≠ O) ∧ b < z.heap.size) Ap ∧ softA wr (fun b => (V.heap.size ≤ b ∧ b ≠ O) ∧ b < z.heap.size) (some ⟨g, 0, none⟩))) (fun s35 _ => a.rk - (intOf s35).toNat)
    case atStart => exact ⟨0, rfl, (show Hid _ from ⟨none, 0, fun _ => (none, 0), Nat.zero_le _, HVZ.out, Nat.le_refl _, HBO.out, RwG.nil, HNS.out, HPS.out.weak (fun b hb hq => ⟨hq, hb⟩), HSP.out.weak (fun b hb hq => ⟨hq, hb⟩), HFT.out.weak (fun b hb hq => ⟨hq, hb⟩)⟩)⟩
    case round =>
      obtain ⟨j, rfl, hS⟩ := hrel
      rename World => wr
      have j0 : (0 : Int) ≤ (j : Int) := by omega
      by_cases hlt : j < a.rk
      · obtain ⟨A', c', ac, hjk, HVW', hzw', hB', hR', hN', hP', hsp', hft'⟩ := hS.out
        have HSP' := hid hsp'
        have HFT' := hid hft'
        clear hsp' hft'
        have HWZ0 := hid hzw'
        obtain ⟨b', o', Aj, cj, hmr, hbr, q0, hkc, hPj⟩ := HL.out.r.at HVW' hlt
        have hmr : (some ⟨br, orr, none⟩ : Option Addr) = some ⟨b', o', none⟩ := hmr
        cases hmr
        have HVW := hid HVW'
        have HB := hid hB'
        have HR := hid hR'
        have HN := hid hN'
        have HP := hid hP'
        have HPJ := hid hPj
        have tc : decide (j < a.rk) = true := by simp [hlt]
        have j1 : (j : Int) < (a.rk : Int) := by omega
        have HLT := hid hlt
        clear hlt hjk HVW' hzw' hB' hR' hN' hP' hPj hkc hbr hS
        by_cases hji : j = i
        · subst hji
          have ea : ((j : Int) == (j : Int)) = true := by simp
          have eb : ((j : Int) != (j : Int)) = false := by simp
          go_wp2_with fail
          go_roundw
          case rel => exact ⟨j + 1, by go_num, (show Hid _ from ⟨A', c', ac, HLT.out, HVW.out, HWZ0.out, by rw [show cntW j (j + 1) = cntW j j by unfold cntW; rw [if_neg (by omega), if_pos (Nat.le_refl _)]; rfl]; exact HB.out, by rw [show cntW j (j + 1) = cntW j j by unfold cntW; rw [if_neg (by omega), if_pos (Nat.le_refl _)]; rfl]; exact HR.out, HN.out, HP.out, HSP'.out, HFT'.out⟩)⟩
          case measure => have := HLT.out; simp [intOf]; omega
        · have ea : ((j : Int) == (i : Int)) = false := by rw [beq_eq_false_iff_ne]; omega
          have eb : ((j : Int) != (i : Int)) = true := by rw [bne_iff_ne]; omega
          have ec : ((j : Int) = (i : Int)) = False := eq_false (by omega)
          have ed : (j = i) = False := eq_false hji
          have HCN : Hid (cntW i (j + 1) = cntW i j + 1) := hid (by unfold cntW; split <;> split <;> omega)
          have HWP : Hid (woP a.rs i (cntW i j) = a.rs j) := hid (by unfold cntW woP; split <;> split <;> first | rfl | (congr 1; omega) | (exfalso; omega))
          have HCB : Hid (cntW i j ≤ j) := hid (by unfold cntW; split <;> omega)
          have hkj : (a.rs j).k ≤ 100000 := (HF.out.2.2.2 j HLT.out).1
          clear hji
          generalize cntW i j = nn at *
          go_upto_region 9 with fail
          clear q0
          have HWZ : Hid (z.heap.size ≤ wr.heap.size) := hid HWZ0.out
          refine wp_region_held_drew (S := fun w' => Mod (O :: obs A') wr w') (by kernel_rfl) (Mod.refl _ _).drew (fun hHeld => ?_)
          have hO9 : Blk wr.drew O 29 #[.slice (some ⟨g, 0, none⟩) (a.tk - 1) cg, .int .i64 a.ctx, .int .i64 a.src.sch, str a.src.name, .int .u64 (a.src.node : Int), .int .u64 (a.src.svc : Int), .slice Ap a.ps.k cp, .slice A' nn c'] := HB.out.drew
          have hR9 := HR.out.ext ((Mod.refl [] wr).drew)
          have hJ9 : PsL wr.drew anyQ Aj (a.rs j) := HPJ.out.ext ((Mod.refl [] wr).drew)
          generalize wr.drew = y0 at *
          refine' wpAnyH_take (i := 0) (v := _) rfl (by kernel_rfl) (by kernel_rfl) (by kernel_rfl) (fun _ _ _ h => h) (Or.inl ⟨by rfl, ?hy30⟩) hHeld ?rest30
          case hy30 => (rintro W hM; go_simp; (try with_reducible rfl))
          case rest30 =>
          (try simp only [Act.put, List.getElem_toArray, List.getElem_cons_zero, List.getElem_cons_succ, List.setIfInBounds_toArray, List.set_cons_zero, List.set_cons_succ])
          refine' wpAnyH_take (i := 2) (v := _) rfl (by kernel_rfl) (by kernel_rfl) (by kernel_rfl) (fun _ _ _ h => h) (Or.inl ⟨by rfl, ?hy31⟩) hHeld ?rest31
          case hy31 => (rintro W hM; go_simp; (try with_reducible rfl))
          case rest31 =>
          (try simp only [Act.put, List.getElem_toArray, List.getElem_cons_zero, List.getElem_cons_succ, List.setIfInBounds_toArray, List.set_cons_zero, List.set_cons_succ])
          refine wpAnyH_ready (rs := [1, 3]) (by kernel_rfl) (by simp) ?_
          refine AllReadyH.cons rfl (fun K hK => ?_) (AllReadyH.cons rfl (fun K hK => ?_) AllReadyH.nil)
          · have c7 : y0.cell? ⟨O, 7, none⟩ = some (.slice A' nn c') := hO9.cell 7
            go_simp
            refine hK.out _ _ hHeld (fun hHeld => ?_)
            clear hK K c7
            (try simp only [Act.put, List.getElem_toArray, List.getElem_cons_zero, List.getElem_cons_succ, List.setIfInBounds_toArray, List.set_cons_zero, List.set_cons_succ])
            refine wpAnyH_ready (rs := [3]) (by kernel_rfl) (by simp) ?_
            refine AllReadyH.cons rfl (fun K hK => ?_) AllReadyH.nil
            go_simp
            go_at_call 42
            refine (clone_fits (HW.out.2.2.2.2.2 j HLT.out) (HF.out.2.2.2 j HLT.out) Aj cj y0 hJ9).mono ?_
            rintro x y48 ⟨A5, c5, rfl, hb, hp5, hc5, hs5⟩
            have hsz5 : wr.heap.size ≤ y0.heap.size := hHeld.size
            have hO9 := hO9.ext hb
            have hR9 := hR9.ext hb
            refine hK.out _ _ (hHeld.trans (hb.mono (by simp))) (fun hHeld => ?_)
            clear hK K
            (try simp only [Act.put, List.getElem_toArray, List.getElem_cons_zero, List.getElem_cons_succ, List.setIfInBounds_toArray, List.set_cons_zero, List.set_cons_succ])
            have hp5 : PsL y48 (fun b => wr.heap.size ≤ b) A5 (a.rs j) := hp5.weak (fun b _ h => Nat.le_trans hsz5 h)
            have hs5 : softA y48 (fun b => wr.heap.size ≤ b) A5 := hs5.weak (fun b _ h => Nat.le_trans hsz5 h)
            refine wpAnyH_ready (rs := [4]) (by kernel_rfl) (by simp) ?_
            refine AllReadyH.cons rfl (fun K hK => ?_) AllReadyH.nil
            go_simp
            have hQ2 : Blk (World.alloc y48 (.cells #[.slice A5 (a.rs j).k c5] 22)) y48.heap.size 22 #[.slice A5 (a.rs j).k c5] := Blk.new _ _ _
            have hXX : Ext y48 (World.alloc y48 (.cells #[.slice A5 (a.rs j).k c5] 22)) := (Mod.refl [] _).alloc _
            generalize World.alloc y48 (.cells #[.slice A5 (a.rs j).k c5] 22) = y49 at *
            have hO9 := hO9.ext hXX
            have hR9 := hR9.ext hXX
            have hp5 := hp5.ext hXX
            have hs5 := hs5.mod hXX (by simp)
            refine hK.out _ _ (hHeld.trans (hXX.mono (by simp))) (fun hHeld => ?_)
            clear hK K hXX
            (try simp only [Act.put, List.getElem_toArray, List.getElem_cons_zero, List.getElem_cons_succ, List.setIfInBounds_toArray, List.set_cons_zero, List.set_cons_succ])
            generalize y48.heap.size = gq at *
            refine wpAnyH_ready (rs := [5]) (by kernel_rfl) (by simp) ?_
            refine AllReadyH.cons rfl (fun K hK => ?_) AllReadyH.nil
            have hI : resS.hang y49 (fun b => z.heap.size ≤ b ∧ offA A' b) (a.rs j) (A5, c5) := ⟨⟨hp5.weak (fun b _ hb => ⟨by have := HWZ.out; have hb : wr.heap.size ≤ b := hb; omega, fun g' hg' => by have := (HR.out.off g' hg').2; have hb : wr.heap.size ≤ b := hb; omega⟩), hc5⟩, hs5.weak (fun b _ hb => ⟨by have := HWZ.out; have hb : wr.heap.size ≤ b := hb; omega, fun g' hg' => by have := (HR.out.off g' hg').2; have hb : wr.heap.size ≤ b := hb; omega⟩)⟩
            obtain ⟨ib, hi, hz0, hz1, hz2⟩ := info_parts infoPairs
            refine wp_append_lies _ _ _ 27 (by rfl) z.heap.size 22 ib _ 1 24 Try.underlying27 hi hz0 hz1 hz2 (by rfl) (by decide) _ nn _ (by rfl) hR9.own ⟨gq, 0, none⟩ 1 1 [.slice A5 (a.rs j).k c5] (by rfl) (by rfl) ?gnewy50 ?goney50 (by decide) ?gmy50 ?gby50 ?gbasey50 (y49.heap.size) rfl ?gky50
            case gnewy50 =>
              intro j' u hu
              rw [addr_add, Nat.zero_add, hQ2.cell j']
              simpa using hu
            case goney50 => intro u hu; simp at hu; subst hu; rfl
            case gmy50 => have := HLT.out; have := HF.out.2.2.1; have := HCB.out; unfold maxLen; omega
            case gby50 => have := HLT.out; have := HF.out.2.2.1; have := HCB.out; omega
            case gbasey50 => have := HWZ.out; have := hHeld.size; omega
            intro g' cp' y50 hown' hgr' hat' hlt'
            obtain ⟨ac', hR5⟩ := hR9.append hI HWP.out hown' hgr' hat'
            have hOO : O ∉ obs A' := by
              refine offA_obs (fun g' hg' => ?_)
              have := (HR.out.off g' hg').1
              have := HZS.out.2.1
              omega
            have hO9 := hO9.mod (grown_obs hgr') hOO
            refine hK.out _ _ (hHeld.trans ((grown_obs hgr').mono (by simp; exact fun k hk => .inr hk))) (fun hHeld => ?_)
            clear hK K
            (try simp only [Act.put, List.getElem_toArray, List.getElem_cons_zero, List.getElem_cons_succ, List.setIfInBounds_toArray, List.set_cons_zero, List.set_cons_succ])
            refine' wpAnyH_take (i := 6) (v := _) rfl (by kernel_rfl) (by kernel_rfl) (by kernel_rfl) (fun _ _ _ h => h) (Or.inl ⟨by rfl, ?hy32⟩) hHeld ?rest32
            case hy32 => (rintro W hM; go_simp; (try with_reducible rfl))
            case rest32 =>
            (try simp only [Act.put, List.getElem_toArray, List.getElem_cons_zero, List.getElem_cons_succ, List.setIfInBounds_toArray, List.set_cons_zero, List.set_cons_succ])
            refine wpAnyH_ready (rs := [7]) (by kernel_rfl) (by simp) ?_
            refine AllReadyH.cons rfl (fun K hK => ?_) AllReadyH.nil
            have c7 : y50.cell? ⟨O, 7, none⟩ = some (.slice A' nn c') := hO9.cell 7
            have f7 := hO9.frozen 7
            go_simp
            have hOf := hO9.set_ 7 (.slice (some ⟨g', 0, none⟩) (nn + 1) cp')
            have hM7 := (Mod.refl [O] y50).setCell (p := ⟨O, 7, none⟩) (.inl (by simp)) (.slice (some ⟨g', 0, none⟩) (nn + 1) cp')
            generalize World.setCell y50 ⟨O, 7, none⟩ _ = yf at *
            refine hK.out _ _ (hHeld.trans (hM7.mono (by simp))) (fun hHeld => ?_)
            clear hK K c7 f7
            (try simp only [Act.put, List.getElem_toArray, List.getElem_cons_zero, List.getElem_cons_succ, List.setIfInBounds_toArray, List.set_cons_zero, List.set_cons_succ])
            refine wpAnyH_done (by kernel_rfl) ?_ _
            have hg'z : g' ≠ O := by
              have h1 : z.heap.size ≤ g' := (hR5.off _ rfl).1
              have := HZS.out.2.1
              omega
            have HBF : Hid (Blk yf O 29 #[.slice (some ⟨g, 0, none⟩) (a.tk - 1) cg, .int .i64 a.ctx, .int .i64 a.src.sch, str a.src.name, .int .u64 (a.src.node : Int), .int .u64 (a.src.svc : Int), .slice Ap a.ps.k cp, .slice (some ⟨g', 0, none⟩) (nn + 1) cp']) := hid hOf
            have HRF := hid (hR5.modQ hM7 (fun g'' hg'' => by cases hg''; simpa using hg'z) (fun k hk _ => by have := HZS.out.2.1; have hk : z.heap.size ≤ k := hk; simp; omega))
            have HMF : Hid (Mod (O :: obs A') wr yf) := hid hHeld
            clear hOf hR5 hM7 hHeld hO9 hR9 hown' hgr' hat' hlt' hp5 hs5 hQ2 hI hOO hJ9
            go_wp2_with fail
            go_roundw
            case rel =>
              refine ⟨j + 1, by go_num, (show Hid _ from ⟨some ⟨g', 0, none⟩, cp', ac', HLT.out, ?_, Nat.le_trans HWZ.out HMF.out.size, by rw [HCN.out]; exact HBF.out, by rw [HCN.out]; exact HRF.out, HN.out.mod HMF.out ?_, HP.out.mod HMF.out ?_, HSP'.out.mod HMF.out ?_, HFT'.out.mod HMF.out ?_⟩)⟩
              · exact ((Mod.of_ext (S := O :: obs A') HVW.out).trans HMF.out).new (fun k hk => .inr (by
                  rcases List.mem_cons.1 hk with rfl | hk
                  · exact HOV.out
                  · cases A' with
                    | none => cases hk
                    | some g'' => have := (HR.out.off g'' rfl).1; have := HZS.out.1; simp [obs] at hk; omega))
              · intro b o h _
                cases h
                refine fun hm => (List.mem_cons.1 hm).elim (fun h => HOG.out h.symm) (offA_obs (fun g'' hg'' => ?_))
                have := (HR.out.off g'' hg'').1
                have := HZS.out.2.2
                show g ≠ g''.block
                omega
              · intro k hk _
                refine fun hm => (List.mem_cons.1 hm).elim hk.1.2 (offA_obs (fun g'' hg'' => ?_))
                have := (HR.out.off g'' hg'').1
                have := hk.2
                omega
              · intro k hk _
                refine fun hm => (List.mem_cons.1 hm).elim hk.1.2 (offA_obs (fun g'' hg'' => ?_))
                have := (HR.out.off g'' hg'').1
                have := hk.2
                omega
              · intro k hk _
                refine fun hm => (List.mem_cons.1 hm).elim hk.1.2 (offA_obs (fun g'' hg'' => ?_))
                have := (HR.out.off g'' hg'').1
                have := hk.2
                omega
            case measure => have := HLT.out; simp [intOf]; omega
          · go_simp
            go_at_call 42
            refine (clone_fits (HW.out.2.2.2.2.2 j HLT.out) (HF.out.2.2.2 j HLT.out) Aj cj y0 hJ9).mono ?_
            rintro x y51 ⟨A5, c5, rfl, hb, hp5, hc5, hs5⟩
            have hsz5 : wr.heap.size ≤ y0.heap.size := hHeld.size
            have hO9 := hO9.ext hb
            have hR9 := hR9.ext hb
            refine hK.out _ _ (hHeld.trans (hb.mono (by simp))) (fun hHeld => ?_)
            clear hK K
            (try simp only [Act.put, List.getElem_toArray, List.getElem_cons_zero, List.getElem_cons_succ, List.setIfInBounds_toArray, List.set_cons_zero, List.set_cons_succ])
            have hp5 : PsL y51 (fun b => wr.heap.size ≤ b) A5 (a.rs j) := hp5.weak (fun b _ h => Nat.le_trans hsz5 h)
            have hs5 : softA y51 (fun b => wr.heap.size ≤ b) A5 := hs5.weak (fun b _ h => Nat.le_trans hsz5 h)
            refine wpAnyH_ready (rs := [1, 4]) (by kernel_rfl) (by simp) ?_
            refine AllReadyH.cons rfl (fun K hK => ?_) (AllReadyH.cons rfl (fun K hK => ?_) AllReadyH.nil)
            · have c7 : y51.cell? ⟨O, 7, none⟩ = some (.slice A' nn c') := hO9.cell 7
              go_simp
              refine hK.out _ _ hHeld (fun hHeld => ?_)
              clear hK K c7
              (try simp only [Act.put, List.getElem_toArray, List.getElem_cons_zero, List.getElem_cons_succ, List.setIfInBounds_toArray, List.set_cons_zero, List.set_cons_succ])
              refine wpAnyH_ready (rs := [4]) (by kernel_rfl) (by simp) ?_
              refine AllReadyH.cons rfl (fun K hK => ?_) AllReadyH.nil
              go_simp
              have hQ2 : Blk (World.alloc y51 (.cells #[.slice A5 (a.rs j).k c5] 22)) y51.heap.size 22 #[.slice A5 (a.rs j).k c5] := Blk.new _ _ _
              have hXX : Ext y51 (World.alloc y51 (.cells #[.slice A5 (a.rs j).k c5] 22)) := (Mod.refl [] _).alloc _
              generalize World.alloc y51 (.cells #[.slice A5 (a.rs j).k c5] 22) = y53 at *
              have hO9 := hO9.ext hXX
              have hR9 := hR9.ext hXX
              have hp5 := hp5.ext hXX
              have hs5 := hs5.mod hXX (by simp)
              refine hK.out _ _ (hHeld.trans (hXX.mono (by simp))) (fun hHeld => ?_)
              clear hK K hXX
              (try simp only [Act.put, List.getElem_toArray, List.getElem_cons_zero, List.getElem_cons_succ, List.setIfInBounds_toArray, List.set_cons_zero, List.set_cons_succ])
              generalize y51.heap.size = gq at *
              refine wpAnyH_ready (rs := [5]) (by kernel_rfl) (by simp) ?_
              refine AllReadyH.cons rfl (fun K hK => ?_) AllReadyH.nil
              have hI : resS.hang y53 (fun b => z.heap.size ≤ b ∧ offA A' b) (a.rs j) (A5, c5) := ⟨⟨hp5.weak (fun b _ hb => ⟨by have := HWZ.out; have hb : wr.heap.size ≤ b := hb; omega, fun g' hg' => by have := (HR.out.off g' hg').2; have hb : wr.heap.size ≤ b := hb; omega⟩), hc5⟩, hs5.weak (fun b _ hb => ⟨by have := HWZ.out; have hb : wr.heap.size ≤ b := hb; omega, fun g' hg' => by have := (HR.out.off g' hg').2; have hb : wr.heap.size ≤ b := hb; omega⟩)⟩
              obtain ⟨ib, hi, hz0, hz1, hz2⟩ := info_parts infoPairs
              refine wp_append_lies _ _ _ 27 (by rfl) z.heap.size 22 ib _ 1 24 Try.underlying27 hi hz0 hz1 hz2 (by rfl) (by decide) _ nn _ (by rfl) hR9.own ⟨gq, 0, none⟩ 1 1 [.slice A5 (a.rs j).k c5] (by rfl) (by rfl) ?gnewy54 ?goney54 (by decide) ?gmy54 ?gby54 ?gbasey54 (y53.heap.size) rfl ?gky54
              case gnewy54 =>
                intro j' u hu
                rw [addr_add, Nat.zero_add, hQ2.cell j']
                simpa using hu
              case goney54 => intro u hu; simp at hu; subst hu; rfl
              case gmy54 => have := HLT.out; have := HF.out.2.2.1; have := HCB.out; unfold maxLen; omega
              case gby54 => have := HLT.out; have := HF.out.2.2.1; have := HCB.out; omega
              case gbasey54 => have := HWZ.out; have := hHeld.size; omega
              intro g' cp' y54 hown' hgr' hat' hlt'
              obtain ⟨ac', hR5⟩ := hR9.append hI HWP.out hown' hgr' hat'
              have hOO : O ∉ obs A' := by
                refine offA_obs (fun g' hg' => ?_)
                have := (HR.out.off g' hg').1
                have := HZS.out.2.1
                omega
              have hO9 := hO9.mod (grown_obs hgr') hOO
              refine hK.out _ _ (hHeld.trans ((grown_obs hgr').mono (by simp; exact fun k hk => .inr hk))) (fun hHeld => ?_)
              clear hK K
              (try simp only [Act.put, List.getElem_toArray, List.getElem_cons_zero, List.getElem_cons_succ, List.setIfInBounds_toArray, List.set_cons_zero, List.set_cons_succ])
              refine' wpAnyH_take (i := 6) (v := _) rfl (by kernel_rfl) (by kernel_rfl) (by kernel_rfl) (fun _ _ _ h => h) (Or.inl ⟨by rfl, ?hy33⟩) hHeld ?rest33
              case hy33 => (rintro W hM; go_simp; (try with_reducible rfl))
              case rest33 =>
              (try simp only [Act.put, List.getElem_toArray, List.getElem_cons_zero, List.getElem_cons_succ, List.setIfInBounds_toArray, List.set_cons_zero, List.set_cons_succ])
              refine wpAnyH_ready (rs := [7]) (by kernel_rfl) (by simp) ?_
              refine AllReadyH.cons rfl (fun K hK => ?_) AllReadyH.nil
              have c7 : y54.cell? ⟨O, 7, none⟩ = some (.slice A' nn c') := hO9.cell 7
              have f7 := hO9.frozen 7
              go_simp
              have hOf := hO9.set_ 7 (.slice (some ⟨g', 0, none⟩) (nn + 1) cp')
              have hM7 := (Mod.refl [O] y54).setCell (p := ⟨O, 7, none⟩) (.inl (by simp)) (.slice (some ⟨g', 0, none⟩) (nn + 1) cp')
              generalize World.setCell y54 ⟨O, 7, none⟩ _ = yf at *
              refine hK.out _ _ (hHeld.trans (hM7.mono (by simp))) (fun hHeld => ?_)
              clear hK K c7 f7
              (try simp only [Act.put, List.getElem_toArray, List.getElem_cons_zero, List.getElem_cons_succ, List.setIfInBounds_toArray, List.set_cons_zero, List.set_cons_succ])
              refine wpAnyH_done (by kernel_rfl) ?_ _
              have hg'z : g' ≠ O := by
                have h1 : z.heap.size ≤ g' := (hR5.off _ rfl).1
                have := HZS.out.2.1
                omega
              have HBF : Hid (Blk yf O 29 #[.slice (some ⟨g, 0, none⟩) (a.tk - 1) cg, .int .i64 a.ctx, .int .i64 a.src.sch, str a.src.name, .int .u64 (a.src.node : Int), .int .u64 (a.src.svc : Int), .slice Ap a.ps.k cp, .slice (some ⟨g', 0, none⟩) (nn + 1) cp']) := hid hOf
              have HRF := hid (hR5.modQ hM7 (fun g'' hg'' => by cases hg''; simpa using hg'z) (fun k hk _ => by have := HZS.out.2.1; have hk : z.heap.size ≤ k := hk; simp; omega))
              have HMF : Hid (Mod (O :: obs A') wr yf) := hid hHeld
              clear hOf hR5 hM7 hHeld hO9 hR9 hown' hgr' hat' hlt' hp5 hs5 hQ2 hI hOO hJ9
              go_wp2_with fail
              go_roundw
              case rel =>
                refine ⟨j + 1, by go_num, (show Hid _ from ⟨some ⟨g', 0, none⟩, cp', ac', HLT.out, ?_, Nat.le_trans HWZ.out HMF.out.size, by rw [HCN.out]; exact HBF.out, by rw [HCN.out]; exact HRF.out, HN.out.mod HMF.out ?_, HP.out.mod HMF.out ?_, HSP'.out.mod HMF.out ?_, HFT'.out.mod HMF.out ?_⟩)⟩
                · exact ((Mod.of_ext (S := O :: obs A') HVW.out).trans HMF.out).new (fun k hk => .inr (by
                    rcases List.mem_cons.1 hk with rfl | hk
                    · exact HOV.out
                    · cases A' with
                      | none => cases hk
                      | some g'' => have := (HR.out.off g'' rfl).1; have := HZS.out.1; simp [obs] at hk; omega))
                · intro b o h _
                  cases h
                  refine fun hm => (List.mem_cons.1 hm).elim (fun h => HOG.out h.symm) (offA_obs (fun g'' hg'' => ?_))
                  have := (HR.out.off g'' hg'').1
                  have := HZS.out.2.2
                  show g ≠ g''.block
                  omega
                · intro k hk _
                  refine fun hm => (List.mem_cons.1 hm).elim hk.1.2 (offA_obs (fun g'' hg'' => ?_))
                  have := (HR.out.off g'' hg'').1
                  have := hk.2
                  omega
                · intro k hk _
                  refine fun hm => (List.mem_cons.1 hm).elim hk.1.2 (offA_obs (fun g'' hg'' => ?_))
                  have := (HR.out.off g'' hg'').1
                  have := hk.2
                  omega
                · intro k hk _
                  refine fun hm => (List.mem_cons.1 hm).elim hk.1.2 (offA_obs (fun g'' hg'' => ?_))
                  have := (HR.out.off g'' hg'').1
                  have := hk.2
                  omega
              case measure => have := HLT.out; simp [intOf]; omega
            · go_simp
              have hQ2 : Blk (World.alloc y51 (.cells #[.slice A5 (a.rs j).k c5] 22)) y51.heap.size 22 #[.slice A5 (a.rs j).k c5] := Blk.new _ _ _
              have hXX : Ext y51 (World.alloc y51 (.cells #[.slice A5 (a.rs j).k c5] 22)) := (Mod.refl [] _).alloc _
              generalize World.alloc y51 (.cells #[.slice A5 (a.rs j).k c5] 22) = y55 at *
              have hO9 := hO9.ext hXX
              have hR9 := hR9.ext hXX
              have hp5 := hp5.ext hXX
              have hs5 := hs5.mod hXX (by simp)
              refine hK.out _ _ (hHeld.trans (hXX.mono (by simp))) (fun hHeld => ?_)
              clear hK K hXX
              (try simp only [Act.put, List.getElem_toArray, List.getElem_cons_zero, List.getElem_cons_succ, List.setIfInBounds_toArray, List.set_cons_zero, List.set_cons_succ])
              generalize y51.heap.size = gq at *
              refine wpAnyH_ready (rs := [1]) (by kernel_rfl) (by simp) ?_
              refine AllReadyH.cons rfl (fun K hK => ?_) AllReadyH.nil
              have c7 : y55.cell? ⟨O, 7, none⟩ = some (.slice A' nn c') := hO9.cell 7
              go_simp
              refine hK.out _ _ hHeld (fun hHeld => ?_)
              clear hK K c7
              (try simp only [Act.put, List.getElem_toArray, List.getElem_cons_zero, List.getElem_cons_succ, List.setIfInBounds_toArray, List.set_cons_zero, List.set_cons_succ])
              refine wpAnyH_ready (rs := [5]) (by kernel_rfl) (by simp) ?_
              refine AllReadyH.cons rfl (fun K hK => ?_) AllReadyH.nil
              have hI : resS.hang y55 (fun b => z.heap.size ≤ b ∧ offA A' b) (a.rs j) (A5, c5) := ⟨⟨hp5.weak (fun b _ hb => ⟨by have := HWZ.out; have hb : wr.heap.size ≤ b := hb; omega, fun g' hg' => by have := (HR.out.off g' hg').2; have hb : wr.heap.size ≤ b := hb; omega⟩), hc5⟩, hs5.weak (fun b _ hb => ⟨by have := HWZ.out; have hb : wr.heap.size ≤ b := hb; omega, fun g' hg' => by have := (HR.out.off g' hg').2; have hb : wr.heap.size ≤ b := hb; omega⟩)⟩
              obtain ⟨ib, hi, hz0, hz1, hz2⟩ := info_parts infoPairs
              refine wp_append_lies _ _ _ 27 (by rfl) z.heap.size 22 ib _ 1 24 Try.underlying27 hi hz0 hz1 hz2 (by rfl) (by decide) _ nn _ (by rfl) hR9.own ⟨gq, 0, none⟩ 1 1 [.slice A5 (a.rs j).k c5] (by rfl) (by rfl) ?gnewy57 ?goney57 (by decide) ?gmy57 ?gby57 ?gbasey57 (y55.heap.size) rfl ?gky57
              case gnewy57 =>
                intro j' u hu
                rw [addr_add, Nat.zero_add, hQ2.cell j']
                simpa using hu
              case goney57 => intro u hu; simp at hu; subst hu; rfl
              case gmy57 => have := HLT.out; have := HF.out.2.2.1; have := HCB.out; unfold maxLen; omega
              case gby57 => have := HLT.out; have := HF.out.2.2.1; have := HCB.out; omega
              case gbasey57 => have := HWZ.out; have := hHeld.size; omega
              intro g' cp' y57 hown' hgr' hat' hlt'
              obtain ⟨ac', hR5⟩ := hR9.append hI HWP.out hown' hgr' hat'
              have hOO : O ∉ obs A' := by
                refine offA_obs (fun g' hg' => ?_)
                have := (HR.out.off g' hg').1
                have := HZS.out.2.1
                omega
              have hO9 := hO9.mod (grown_obs hgr') hOO
              refine hK.out _ _ (hHeld.trans ((grown_obs hgr').mono (by simp; exact fun k hk => .inr hk))) (fun hHeld => ?_)
              clear hK K
              (try simp only [Act.put, List.getElem_toArray, List.getElem_cons_zero, List.getElem_cons_succ, List.setIfInBounds_toArray, List.set_cons_zero, List.set_cons_succ])
              refine' wpAnyH_take (i := 6) (v := _) rfl (by kernel_rfl) (by kernel_rfl) (by kernel_rfl) (fun _ _ _ h => h) (Or.inl ⟨by rfl, ?hy34⟩) hHeld ?rest34
              case hy34 => (rintro W hM; go_simp; (try with_reducible rfl))
              case rest34 =>
              (try simp only [Act.put, List.getElem_toArray, List.getElem_cons_zero, List.getElem_cons_succ, List.setIfInBounds_toArray, List.set_cons_zero, List.set_cons_succ])
              refine wpAnyH_ready (rs := [7]) (by kernel_rfl) (by simp) ?_
              refine AllReadyH.cons rfl (fun K hK => ?_) AllReadyH.nil
              have c7 : y57.cell? ⟨O, 7, none⟩ = some (.slice A' nn c') := hO9.cell 7
              have f7 := hO9.frozen 7
              go_simp
              have hOf := hO9.set_ 7 (.slice (some ⟨g', 0, none⟩) (nn + 1) cp')
              have hM7 := (Mod.refl [O] y57).setCell (p := ⟨O, 7, none⟩) (.inl (by simp)) (.slice (some ⟨g', 0, none⟩) (nn + 1) cp')
              generalize World.setCell y57 ⟨O, 7, none⟩ _ = yf at *
              refine hK.out _ _ (hHeld.trans (hM7.mono (by simp))) (fun hHeld => ?_)
              clear hK K c7 f7
              (try simp only [Act.put, List.getElem_toArray, List.getElem_cons_zero, List.getElem_cons_succ, List.setIfInBounds_toArray, List.set_cons_zero, List.set_cons_succ])
              refine wpAnyH_done (by kernel_rfl) ?_ _
              have hg'z : g' ≠ O := by
                have h1 : z.heap.size ≤ g' := (hR5.off _ rfl).1
                have := HZS.out.2.1
                omega
              have HBF : Hid (Blk yf O 29 #[.slice (some ⟨g, 0, none⟩) (a.tk - 1) cg, .int .i64 a.ctx, .int .i64 a.src.sch, str a.src.name, .int .u64 (a.src.node : Int), .int .u64 (a.src.svc : Int), .slice Ap a.ps.k cp, .slice (some ⟨g', 0, none⟩) (nn + 1) cp']) := hid hOf
              have HRF := hid (hR5.modQ hM7 (fun g'' hg'' => by cases hg''; simpa using hg'z) (fun k hk _ => by have := HZS.out.2.1; have hk : z.heap.size ≤ k := hk; simp; omega))
              have HMF : Hid (Mod (O :: obs A') wr yf) := hid hHeld
              clear hOf hR5 hM7 hHeld hO9 hR9 hown' hgr' hat' hlt' hp5 hs5 hQ2 hI hOO hJ9
              go_wp2_with fail
              go_roundw
              case rel =>
                refine ⟨j + 1, by go_num, (show Hid _ from ⟨some ⟨g', 0, none⟩, cp', ac', HLT.out, ?_, Nat.le_trans HWZ.out HMF.out.size, by rw [HCN.out]; exact HBF.out, by rw [HCN.out]; exact HRF.out, HN.out.mod HMF.out ?_, HP.out.mod HMF.out ?_, HSP'.out.mod HMF.out ?_, HFT'.out.mod HMF.out ?_⟩)⟩
                · exact ((Mod.of_ext (S := O :: obs A') HVW.out).trans HMF.out).new (fun k hk => .inr (by
                    rcases List.mem_cons.1 hk with rfl | hk
                    · exact HOV.out
                    · cases A' with
                      | none => cases hk
                      | some g'' => have := (HR.out.off g'' rfl).1; have := HZS.out.1; simp [obs] at hk; omega))
                · intro b o h _
                  cases h
                  refine fun hm => (List.mem_cons.1 hm).elim (fun h => HOG.out h.symm) (offA_obs (fun g'' hg'' => ?_))
                  have := (HR.out.off g'' hg'').1
                  have := HZS.out.2.2
                  show g ≠ g''.block
                  omega
                · intro k hk _
                  refine fun hm => (List.mem_cons.1 hm).elim hk.1.2 (offA_obs (fun g'' hg'' => ?_))
                  have := (HR.out.off g'' hg'').1
                  have := hk.2
                  omega
                · intro k hk _
                  refine fun hm => (List.mem_cons.1 hm).elim hk.1.2 (offA_obs (fun g'' hg'' => ?_))
                  have := (HR.out.off g'' hg'').1
                  have := hk.2
                  omega
                · intro k hk _
                  refine fun hm => (List.mem_cons.1 hm).elim hk.1.2 (offA_obs (fun g'' hg'' => ?_))
                  have := (HR.out.off g'' hg'').1
                  have := hk.2
                  omega
              case measure => have := HLT.out; simp [intOf]; omega
      · obtain rfl : j = a.rk := by obtain ⟨_, _, _, hjk, _⟩ := hS.out; omega
        have tc : decide (a.rk < a.rk) = false := by simp
        obtain ⟨A', c', ac, hjk, hVW, _, hB, hR, hN, hP, hsp, hft⟩ := hS.out
        have HSP := hid hsp
        have HFT := hid hft
        clear hsp hft
        have HB := hid hB
        have HVW := hid hVW
        have HRS := hid (hR.rss (fun b hb => hb))
        have HN := hid hN
        have HP := hid hP
        have HB1W := hid (HB1.out.ext HVW.out)
        clear hS hjk hVW hB hR hN hP
        have tk1 : True := trivial
        have tk2 : True := trivial
        go_wp2_with (first | (clear tk1; refine wpList_row (by rfl) 29 _ rfl _ rfl HB.out Try.underlying29 rfl (by kernel_rfl) ?_) | (clear tk2; refine wpList_store_mid rfl 29 _ _ rfl (w.heap.size + 1) 0 #[.slice (some ⟨g, 0, none⟩) (a.tk - 1) cg, .int .i64 a.ctx, .int .i64 a.src.sch, str a.src.name, .int .u64 (a.src.node : Int), .int .u64 (a.src.svc : Int), .slice Ap a.ps.k cp, .slice A' (cntW i a.rk) c'] (by rfl) (by rfl) (HB1W.out.there (Nat.le_refl 8)) (by kernel_rfl) (by simp [Value.oneCell']) ?_))
        have hY := setCells_all (ds := #[.slice (some ⟨g, 0, none⟩) (a.tk - 1) cg, .int .i64 a.ctx, .int .i64 a.src.sch, str a.src.name, .int .u64 (a.src.node : Int), .int .u64 (a.src.svc : Int), .slice Ap a.ps.k cp, .slice A' (cntW i a.rk) c']) HB1W.out rfl
        have hM2 := setCells_mod (b := w.heap.size + 1) (#[.slice (some ⟨g, 0, none⟩) (a.tk - 1) cg, .int .i64 a.ctx, .int .i64 a.src.sch, str a.src.name, .int .u64 (a.src.node : Int), .int .u64 (a.src.svc : Int), .slice Ap a.ps.k cp, .slice A' (cntW i a.rk) c'] : Array Value).toList 0 (Mod.refl [w.heap.size + 1] wr) (.inl (by simp))
        generalize hZ2 : World.setCells wr _ 0 _ = Z2 at *
        refine bodyPost_ret (results_cell2 rfl _ (by rfl) (by rfl) hY Try.underlying29 rfl (by kernel_rfl)) rfl ⟨?_, ⟨some ⟨g, 0, none⟩, cg, Ap, cp, A', c'⟩, ?_, ?_, ?_⟩
        · exact ((Mod.of_ext (S := [w.heap.size + 1]) (HE.out.trans HVW.out)).trans hM2).new (fun k hk => .inr (by rw [List.mem_singleton] at hk; omega))
        · first | rfl | simp
        · have hv := HVS.out
          refine ⟨HN.out.mod hM2 (fun b o h _ => by cases h; have := HGV.out; simp; omega), fun b o h _ => by cases h; have := HGV.out; show w.heap.size ≤ g; omega, (HP.out.mod hM2 (fun k hk _ => by have := hk.1.1; simp; omega)).weak (fun b _ hb => by have := hb.1.1; show w.heap.size ≤ b; omega), ?_⟩
          exact (((HRS.out.rs.mod hM2 (fun k hk _ => by have := HZS.out; have hk : z.heap.size ≤ k := hk; simp; omega)).weak (fun b _ hb => by have := HZS.out; have hb : z.heap.size ≤ b := hb; show w.heap.size ≤ b; omega)))
        · have hv := HVS.out
          exact ⟨z.heap.size, by have := HZS.out; omega, (HFT.out.mod hM2 (fun k hk _ => by have := hk.1.1; simp; omega)).weak (fun b _ hb => ⟨by have := hb.1.1; omega, hb.2⟩), (HSP.out.mod hM2 (fun k hk _ => by have := hk.1.1; simp; omega)).weak (fun b _ hb => ⟨by have := hb.1.1; omega, hb.2⟩), HRS.out.mod hM2 (fun k hk _ => by have := HZS.out; have hk : z.heap.size ≤ k := hk; simp; omega)⟩
end Go.Proofs.Ytogjghmoankleaa
