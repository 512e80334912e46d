/-
  Reports: the reference's Parse, where there is none.
  Reports: the reference's Parse, where there is none (4 parts).
  Reports: the reference's Parse, where there is none (6 parts).
  Reports: the reference's Parse of what has a report's shape (4 parts).
-/
import Derived.Test.YtogjghmoankleaaMReportParsesj

namespace Go.Proofs.Ytogjghmoankleaa
open Go.RowKit
set_option linter.unusedVariables false
set_option linter.unusedSimpArgs false

theorem kids {W : World} {Q : Nat → Prop} {t : T} {A : Option Addr} (hk : 0 < t.k) (h : IsL W Q t A) : ∃ (b o : Nat) (ac : Nat → Option Addr × Nat), A = some ⟨b, o, none⟩ ∧ b < W.heap.size ∧ Q b ∧ ∀ i, i < t.k → At5 W b (o + i * 5) (t.ch i) (ac i).1 (ac i).2 ∧ IsL W Q (t.ch i) (ac i).1 := by
  cases t with
  | nil => exact absurd hk (Nat.lt_irrefl _)
  | mk kd n s op k ch => exact h.rows hk
theorem ch_size {t : T} {i : Nat} (h : i < t.k) : (t.ch i).size ≤ t.size := by
  cases t with
  | nil => exact absurd h (Nat.not_lt_zero _)
  | mk kd n s op k ch => exact T.size_ch h
set_option maxRecDepth 20000 in
theorem one_any (t : T) (A : Option Addr) (c : Nat) (w : World) : Calls Try.prog 62 #[itemV t A c] w (Ret (.bool (decide (t.kind = 0) && decide (t.n = 1))) w) := by
  have HE := hid ((Mod.refl [] w).alloc (.cells (itemC t A c) 38))
  have HB := hid (Blk.new w 38 (itemC t A c))
  have c0 : (w.alloc (.cells (itemC t A c) 38)).cell? ⟨w.heap.size, 0, none⟩ = some (.int .i64 t.kind) := HB.out.cell 0
  have c1 : (w.alloc (.cells (itemC t A c) 38)).cell? ⟨w.heap.size, 1, none⟩ = some (.int .u64 (t.n : Int)) := HB.out.cell 1
  by_cases h : t.kind = 0
  · rw [decide_eq_true h, Bool.true_and]
    have t1a : ((t.kind) == (0)) = true := by rw [beq_iff_eq]; exact h
    have t1b : ((t.kind) = (0)) = True := eq_true (by exact h)
    have t1c : ((t.kind) != (0)) = false := by rw [bne_eq_false_iff_eq]; exact h
    by_cases h1 : t.n = 1
    · rw [decide_eq_true h1]
      have t2a : (((t.n : Int)) == (1)) = true := by rw [beq_iff_eq]; omega
      have t2b : (((t.n : Int)) = (1)) = True := eq_true (by omega)
      have t2c : (((t.n : Int)) != (1)) = false := by rw [bne_eq_false_iff_eq]; omega
      have t3a : ((t.n) == (1)) = true := by rw [beq_iff_eq]; exact h1
      have t3b : ((t.n) = (1)) = True := eq_true (by exact h1)
      have t3c : ((t.n) != (1)) = false := by rw [bne_eq_false_iff_eq]; exact h1
      clear h h1
      go_enter Try.func62, Try.ntmps62
      go_wp2_with fail
      go_ret
      exact Ret.mk rfl HE.out
    · rw [decide_eq_false h1]
      have t2a : (((t.n : Int)) == (1)) = false := by rw [beq_eq_false_iff_ne]; omega
      have t2b : (((t.n : Int)) = (1)) = False := eq_false (by omega)
      have t2c : (((t.n : Int)) != (1)) = true := by rw [bne_iff_ne]; omega
      have t3a : ((t.n) == (1)) = false := by rw [beq_eq_false_iff_ne]; exact h1
      have t3b : ((t.n) = (1)) = False := eq_false (by exact h1)
      have t3c : ((t.n) != (1)) = true := by rw [bne_iff_ne]; exact h1
      clear h h1
      go_enter Try.func62, Try.ntmps62
      go_wp2_with fail
      go_ret
      exact Ret.mk rfl HE.out
  · rw [decide_eq_false h, Bool.false_and]
    have t1a : ((t.kind) == (0)) = false := by rw [beq_eq_false_iff_ne]; exact h
    have t1b : ((t.kind) = (0)) = False := eq_false (by exact h)
    have t1c : ((t.kind) != (0)) = true := by rw [bne_iff_ne]; exact h
    clear h
    go_enter Try.func62, Try.ntmps62
    go_wp2_with fail
    go_ret
    exact Ret.mk rfl HE.out
set_option maxRecDepth 20000 in
set_option maxHeartbeats 1600000 in
theorem q25_err (l : List UInt8) (hl : l.length ≤ 1073741824) (w : World) (q : Nat) (E : Int) (hf : flt 8 l = (q, E)) (hb : E ≠ 0) : Calls Try.prog 29 #[str l] w (Ret ((.tuple #[repV zeroR, .bool false])) w) := by
  have KF := hid (fun W => fault_any l hl 8 (by omega) 0 (by omega) W)
  rw [List.drop_zero, hf] at KF
  have t1a : ((E) == (0)) = false := by rw [beq_eq_false_iff_ne]; exact hb
  have t1b : ((E) = (0)) = False := eq_false (by exact hb)
  have t1c : ((E) != (0)) = true := by rw [bne_iff_ne]; exact hb
  clear hf hb
  have HE := hid ((Mod.refl [] w).alloc (.cells #[.bool false, .bool false, .int .i64 0, .int .i64 0, .string ⟨#[]⟩, .int .u64 0, .int .u64 0, .int .u64 0, .int .u64 0, .bool false, .int .u64 0, .int .u64 0] 57))
  have HB0 : Hid (Blk (w.alloc (.cells #[.bool false, .bool false, .int .i64 0, .int .i64 0, .string ⟨#[]⟩, .int .u64 0, .int .u64 0, .int .u64 0, .int .u64 0, .bool false, .int .u64 0, .int .u64 0] 57)) w.heap.size 57 #[.bool false, .bool false, .int .i64 0, .int .i64 0, .string ⟨#[]⟩, .int .u64 0, .int .u64 0, .int .u64 0, .int .u64 0, .bool false, .int .u64 0, .int .u64 0]) := hid (Blk.new w 57 #[.bool false, .bool false, .int .i64 0, .int .i64 0, .string ⟨#[]⟩, .int .u64 0, .int .u64 0, .int .u64 0, .int .u64 0, .bool false, .int .u64 0, .int .u64 0])
  go_enter Try.func29, Try.ntmps29
  go_upto_region 1 with fail
  generalize (w.alloc (.cells #[.bool false, .bool false, .int .i64 0, .int .i64 0, .string ⟨#[]⟩, .int .u64 0, .int .u64 0, .int .u64 0, .int .u64 0, .bool false, .int .u64 0, .int .u64 0] 57)) = V at *
  go_upto_region 2 with (refine wpList_store_mid rfl 57 _ _ rfl V.heap.size 0 #[.bool false, .bool false, .int .i64 0, .int .i64 0, .string ⟨#[]⟩, .int .u64 0, .int .u64 0, .int .u64 0, .int .u64 0, .bool false, .int .u64 0, .int .u64 0] (by rfl) (by rfl) ((Blk.new _ _ _).there (Nat.le_refl 12)) (by kernel_rfl) (by simp [Value.oneCell']) ?_)
  generalize hV1 : World.setCells _ _ _ _ = V1
  have HB4 : Hid (Blk V1 V.heap.size 57 #[.bool false, .bool false, .int .i64 0, .int .i64 0, .string ⟨#[]⟩, .int .u64 0, .int .u64 0, .int .u64 0, .int .u64 0, .bool false, .int .u64 0, .int .u64 0]) := hid (by rw [← hV1]; exact setCells_all (ds := #[.bool false, .bool false, .int .i64 0, .int .i64 0, .string ⟨#[]⟩, .int .u64 0, .int .u64 0, .int .u64 0, .int .u64 0, .bool false, .int .u64 0, .int .u64 0]) (Blk.new _ _ _) rfl)
  have HX1 : Hid (Ext V V1) := hid (by rw [← hV1]; exact setCells_mod _ _ ((Mod.refl [] V).alloc _) (.inr (Nat.le_refl _)))
  have HB0 := hid (HB0.out.ext HX1.out)
  have HE := hid (HE.out.trans HX1.out)
  clear hV1 HX1
  generalize V.heap.size = n4 at *
  obtain ⟨e, he⟩ := Later.self V1
  rw [he]
  clear he
  go_upto_region 3 with (go_at_call 59; refine (Ret.later (KF.out _)).mono ?_; rintro x _ ⟨rfl, e, rfl⟩; simp only [faultV, Nat.zero_add])
  have HZL : Hid (∀ e : Later V1, Blk e.x n4 57 #[.bool false, .bool false, .int .i64 0, .int .i64 0, .string ⟨#[]⟩, .int .u64 0, .int .u64 0, .int .u64 0, .int .u64 0, .bool false, .int .u64 0, .int .u64 0]) := hid (fun e => HB4.out.later e)
  go_upto_region 4 with fail
  have tk1 : True := trivial
  go_wp2_with (first | (clear tk1; refine wpList_row (by rfl) 57 _ rfl _ rfl (HZL.out _) Try.underlying57 rfl (by kernel_rfl) ?_) | (refine wpList_store_mid rfl 57 _ _ rfl w.heap.size 0 #[.bool false, .bool false, .int .i64 0, .int .i64 0, .string ⟨#[]⟩, .int .u64 0, .int .u64 0, .int .u64 0, .int .u64 0, .bool false, .int .u64 0, .int .u64 0] (by rfl) (by rfl) ((HB0.out.later e).there (Nat.le_refl 12)) (by kernel_rfl) (by simp [Value.oneCell']) ?_))
  generalize hZZ : World.setCells _ _ _ _ = ZZ
  have HZB : Hid (Blk ZZ w.heap.size 57 #[.bool false, .bool false, .int .i64 0, .int .i64 0, .string ⟨#[]⟩, .int .u64 0, .int .u64 0, .int .u64 0, .int .u64 0, .bool false, .int .u64 0, .int .u64 0]) := hid (by rw [← hZZ]; exact setCells_all (ds := #[.bool false, .bool false, .int .i64 0, .int .i64 0, .string ⟨#[]⟩, .int .u64 0, .int .u64 0, .int .u64 0, .int .u64 0, .bool false, .int .u64 0, .int .u64 0]) (HB0.out.later e) rfl)
  have HZM : Hid (Ext w ZZ) := hid (by rw [← hZZ]; exact setCells_mod _ _ (HE.out.trans e.h) (.inr (by omega)))
  clear hZZ
  refine bodyPost_ret (results_cell2 rfl _ (by rfl) rfl HZB.out Try.underlying57 rfl (by kernel_rfl)) rfl (Ret.mk rfl HZM.out)
set_option maxRecDepth 20000 in
set_option maxHeartbeats 1600000 in
theorem q25_len (l : List UInt8) (hl : l.length ≤ 1073741824) (w : World) (q : Nat) (hf : flt 8 l = (q, 0)) (hb : q ≠ l.length) : Calls Try.prog 29 #[str l] w (Ret ((.tuple #[repV zeroR, .bool false])) w) := by
  have KF := hid (fun W => fault_any l hl 8 (by omega) 0 (by omega) W)
  rw [List.drop_zero, hf] at KF
  have t1a : (((q : Int)) == ((l.length : Int))) = false := by rw [beq_eq_false_iff_ne]; omega
  have t1b : (((q : Int)) = ((l.length : Int))) = False := eq_false (by omega)
  have t1c : (((q : Int)) != ((l.length : Int))) = true := by rw [bne_iff_ne]; omega
  clear hf hb
  have HE := hid ((Mod.refl [] w).alloc (.cells #[.bool false, .bool false, .int .i64 0, .int .i64 0, .string ⟨#[]⟩, .int .u64 0, .int .u64 0, .int .u64 0, .int .u64 0, .bool false, .int .u64 0, .int .u64 0] 57))
  have HB0 : Hid (Blk (w.alloc (.cells #[.bool false, .bool false, .int .i64 0, .int .i64 0, .string ⟨#[]⟩, .int .u64 0, .int .u64 0, .int .u64 0, .int .u64 0, .bool false, .int .u64 0, .int .u64 0] 57)) w.heap.size 57 #[.bool false, .bool false, .int .i64 0, .int .i64 0, .string ⟨#[]⟩, .int .u64 0, .int .u64 0, .int .u64 0, .int .u64 0, .bool false, .int .u64 0, .int .u64 0]) := hid (Blk.new w 57 #[.bool false, .bool false, .int .i64 0, .int .i64 0, .string ⟨#[]⟩, .int .u64 0, .int .u64 0, .int .u64 0, .int .u64 0, .bool false, .int .u64 0, .int .u64 0])
  go_enter Try.func29, Try.ntmps29
  go_upto_region 1 with fail
  generalize (w.alloc (.cells #[.bool false, .bool false, .int .i64 0, .int .i64 0, .string ⟨#[]⟩, .int .u64 0, .int .u64 0, .int .u64 0, .int .u64 0, .bool false, .int .u64 0, .int .u64 0] 57)) = V at *
  go_upto_region 2 with (refine wpList_store_mid rfl 57 _ _ rfl V.heap.size 0 #[.bool false, .bool false, .int .i64 0, .int .i64 0, .string ⟨#[]⟩, .int .u64 0, .int .u64 0, .int .u64 0, .int .u64 0, .bool false, .int .u64 0, .int .u64 0] (by rfl) (by rfl) ((Blk.new _ _ _).there (Nat.le_refl 12)) (by kernel_rfl) (by simp [Value.oneCell']) ?_)
  generalize hV1 : World.setCells _ _ _ _ = V1
  have HB4 : Hid (Blk V1 V.heap.size 57 #[.bool false, .bool false, .int .i64 0, .int .i64 0, .string ⟨#[]⟩, .int .u64 0, .int .u64 0, .int .u64 0, .int .u64 0, .bool false, .int .u64 0, .int .u64 0]) := hid (by rw [← hV1]; exact setCells_all (ds := #[.bool false, .bool false, .int .i64 0, .int .i64 0, .string ⟨#[]⟩, .int .u64 0, .int .u64 0, .int .u64 0, .int .u64 0, .bool false, .int .u64 0, .int .u64 0]) (Blk.new _ _ _) rfl)
  have HX1 : Hid (Ext V V1) := hid (by rw [← hV1]; exact setCells_mod _ _ ((Mod.refl [] V).alloc _) (.inr (Nat.le_refl _)))
  have HB0 := hid (HB0.out.ext HX1.out)
  have HE := hid (HE.out.trans HX1.out)
  clear hV1 HX1
  generalize V.heap.size = n4 at *
  obtain ⟨e, he⟩ := Later.self V1
  rw [he]
  clear he
  go_upto_region 3 with (go_at_call 59; refine (Ret.later (KF.out _)).mono ?_; rintro x _ ⟨rfl, e, rfl⟩; simp only [faultV, Nat.zero_add])
  have HZL : Hid (∀ e : Later V1, Blk e.x n4 57 #[.bool false, .bool false, .int .i64 0, .int .i64 0, .string ⟨#[]⟩, .int .u64 0, .int .u64 0, .int .u64 0, .int .u64 0, .bool false, .int .u64 0, .int .u64 0]) := hid (fun e => HB4.out.later e)
  go_upto_region 4 with fail
  have tk1 : True := trivial
  go_wp2_with (first | (clear tk1; refine wpList_row (by rfl) 57 _ rfl _ rfl (HZL.out _) Try.underlying57 rfl (by kernel_rfl) ?_) | (refine wpList_store_mid rfl 57 _ _ rfl w.heap.size 0 #[.bool false, .bool false, .int .i64 0, .int .i64 0, .string ⟨#[]⟩, .int .u64 0, .int .u64 0, .int .u64 0, .int .u64 0, .bool false, .int .u64 0, .int .u64 0] (by rfl) (by rfl) ((HB0.out.later e).there (Nat.le_refl 12)) (by kernel_rfl) (by simp [Value.oneCell']) ?_))
  generalize hZZ : World.setCells _ _ _ _ = ZZ
  have HZB : Hid (Blk ZZ w.heap.size 57 #[.bool false, .bool false, .int .i64 0, .int .i64 0, .string ⟨#[]⟩, .int .u64 0, .int .u64 0, .int .u64 0, .int .u64 0, .bool false, .int .u64 0, .int .u64 0]) := hid (by rw [← hZZ]; exact setCells_all (ds := #[.bool false, .bool false, .int .i64 0, .int .i64 0, .string ⟨#[]⟩, .int .u64 0, .int .u64 0, .int .u64 0, .int .u64 0, .bool false, .int .u64 0, .int .u64 0]) (HB0.out.later e) rfl)
  have HZM : Hid (Ext w ZZ) := hid (by rw [← hZZ]; exact setCells_mod _ _ (HE.out.trans e.h) (.inr (by omega)))
  clear hZZ
  refine bodyPost_ret (results_cell2 rfl _ (by rfl) rfl HZB.out Try.underlying57 rfl (by kernel_rfl)) rfl (Ret.mk rfl HZM.out)
set_option maxRecDepth 20000 in
set_option maxHeartbeats 1600000 in
theorem q25_two (t : T) (hr : t.right 8 = true) (hok : t.ok) (hs : t.size ≤ 100000) (hl : t.bytes.length ≤ 1073741824) (h : t.k ≠ 2) (w : World) : Calls Try.prog 29 #[str t.bytes] w (Ret ((.tuple #[repV zeroR, .bool false])) w) := by
  have KF := hid (fun W => fault_any t.bytes hl 8 (by omega) 0 (by omega) W)
  have hf : flt 8 t.bytes = (t.bytes.length, 0) := by have := flt_bytes t 8 hr hok []; rwa [List.append_nil] at this
  have KI := hid (fun W => r13_any t hr hok hl W)
  rw [List.drop_zero, hf] at KF
  have HLL := hid hl
  generalize t.bytes = l at *
  have HR := hid hr
  have HOK := hid hok
  have HS := hid hs
  clear hf hr hok hs hl
  have HE := hid ((Mod.refl [] w).alloc (.cells #[.bool false, .bool false, .int .i64 0, .int .i64 0, .string ⟨#[]⟩, .int .u64 0, .int .u64 0, .int .u64 0, .int .u64 0, .bool false, .int .u64 0, .int .u64 0] 57))
  have HB0 : Hid (Blk (w.alloc (.cells #[.bool false, .bool false, .int .i64 0, .int .i64 0, .string ⟨#[]⟩, .int .u64 0, .int .u64 0, .int .u64 0, .int .u64 0, .bool false, .int .u64 0, .int .u64 0] 57)) w.heap.size 57 #[.bool false, .bool false, .int .i64 0, .int .i64 0, .string ⟨#[]⟩, .int .u64 0, .int .u64 0, .int .u64 0, .int .u64 0, .bool false, .int .u64 0, .int .u64 0]) := hid (Blk.new w 57 #[.bool false, .bool false, .int .i64 0, .int .i64 0, .string ⟨#[]⟩, .int .u64 0, .int .u64 0, .int .u64 0, .int .u64 0, .bool false, .int .u64 0, .int .u64 0])
  go_enter Try.func29, Try.ntmps29
  go_upto_region 1 with fail
  generalize (w.alloc (.cells #[.bool false, .bool false, .int .i64 0, .int .i64 0, .string ⟨#[]⟩, .int .u64 0, .int .u64 0, .int .u64 0, .int .u64 0, .bool false, .int .u64 0, .int .u64 0] 57)) = V at *
  go_upto_region 2 with (refine wpList_store_mid rfl 57 _ _ rfl V.heap.size 0 #[.bool false, .bool false, .int .i64 0, .int .i64 0, .string ⟨#[]⟩, .int .u64 0, .int .u64 0, .int .u64 0, .int .u64 0, .bool false, .int .u64 0, .int .u64 0] (by rfl) (by rfl) ((Blk.new _ _ _).there (Nat.le_refl 12)) (by kernel_rfl) (by simp [Value.oneCell']) ?_)
  generalize hV1 : World.setCells _ _ _ _ = V1
  have HB4 : Hid (Blk V1 V.heap.size 57 #[.bool false, .bool false, .int .i64 0, .int .i64 0, .string ⟨#[]⟩, .int .u64 0, .int .u64 0, .int .u64 0, .int .u64 0, .bool false, .int .u64 0, .int .u64 0]) := hid (by rw [← hV1]; exact setCells_all (ds := #[.bool false, .bool false, .int .i64 0, .int .i64 0, .string ⟨#[]⟩, .int .u64 0, .int .u64 0, .int .u64 0, .int .u64 0, .bool false, .int .u64 0, .int .u64 0]) (Blk.new _ _ _) rfl)
  have HX1 : Hid (Ext V V1) := hid (by rw [← hV1]; exact setCells_mod _ _ ((Mod.refl [] V).alloc _) (.inr (Nat.le_refl _)))
  have HB0 := hid (HB0.out.ext HX1.out)
  have HE := hid (HE.out.trans HX1.out)
  clear hV1 HX1
  generalize V.heap.size = n4 at *
  obtain ⟨e, he⟩ := Later.self V1
  rw [he]
  clear he
  go_upto_region 3 with (go_at_call 59; refine (Ret.later (KF.out _)).mono ?_; rintro x _ ⟨rfl, e, rfl⟩; simp only [faultV, Nat.zero_add])
  go_upto_region 6 with (go_at_call 60; refine (KI.out _).mono ?_; rintro x w5 ⟨A, c, rfl, hb, hl⟩; have HX := hid hb; have HL := hid (IsL.weak (R := fun b => b < w5.heap.size) (fun b hb _ => hb) _ hl); clear hb hl)
  generalize hV5 : World.alloc w5 _ = V5
  have HX5 : Hid (Ext V1 V5) := hid (by rw [← hV5]; exact (e.h.trans HX.out).alloc _)
  have HB7 : Hid (Blk V5 w5.heap.size 38 (itemC t A c)) := hid (by rw [← hV5]; exact Blk.new _ _ _)
  have HL5 : Hid (IsL V5 (fun b => b < w5.heap.size) t A) := hid (by rw [← hV5]; exact HL.out.ext ((Mod.refl [] _).alloc _))
  have HB0 := hid (HB0.out.ext HX5.out)
  have HB4 := hid (HB4.out.ext HX5.out)
  have HE := hid (HE.out.trans HX5.out)
  clear hV5 HX HX5 HL KI KF e
  generalize w5.heap.size = n7 at *
  obtain ⟨e, he⟩ := Later.self V5
  have t1a : (((t.k : Int)) == (2)) = false := by rw [beq_eq_false_iff_ne]; omega
  have t1b : (((t.k : Int)) = (2)) = False := eq_false (by omega)
  have t1c : (((t.k : Int)) != (2)) = true := by rw [bne_iff_ne]; omega
  have t2a : ((t.k) == (2)) = false := by rw [beq_eq_false_iff_ne]; exact h
  have t2b : ((t.k) = (2)) = False := eq_false (by exact h)
  have t2c : ((t.k) != (2)) = true := by rw [bne_iff_ne]; exact h
  clear h
  have y3 : ∀ e : Later V5, e.x.cell? ⟨n7, 3, none⟩ = some (.slice A t.k c) := HB7.out.cellL 3 rfl
  rw [he]
  clear he
  have HZL : Hid (∀ e : Later V5, Blk e.x n4 57 #[.bool false, .bool false, .int .i64 0, .int .i64 0, .string ⟨#[]⟩, .int .u64 0, .int .u64 0, .int .u64 0, .int .u64 0, .bool false, .int .u64 0, .int .u64 0]) := hid (fun e => HB4.out.later e)
  go_upto_region 7 with fail
  have tk1 : True := trivial
  go_wp2_with (first | (clear tk1; refine wpList_row (by rfl) 57 _ rfl _ rfl (HZL.out _) Try.underlying57 rfl (by kernel_rfl) ?_) | (refine wpList_store_mid rfl 57 _ _ rfl w.heap.size 0 #[.bool false, .bool false, .int .i64 0, .int .i64 0, .string ⟨#[]⟩, .int .u64 0, .int .u64 0, .int .u64 0, .int .u64 0, .bool false, .int .u64 0, .int .u64 0] (by rfl) (by rfl) ((HB0.out.later e).there (Nat.le_refl 12)) (by kernel_rfl) (by simp [Value.oneCell']) ?_))
  generalize hZZ : World.setCells _ _ _ _ = ZZ
  have HZB : Hid (Blk ZZ w.heap.size 57 #[.bool false, .bool false, .int .i64 0, .int .i64 0, .string ⟨#[]⟩, .int .u64 0, .int .u64 0, .int .u64 0, .int .u64 0, .bool false, .int .u64 0, .int .u64 0]) := hid (by rw [← hZZ]; exact setCells_all (ds := #[.bool false, .bool false, .int .i64 0, .int .i64 0, .string ⟨#[]⟩, .int .u64 0, .int .u64 0, .int .u64 0, .int .u64 0, .bool false, .int .u64 0, .int .u64 0]) (HB0.out.later e) rfl)
  have HZM : Hid (Ext w ZZ) := hid (by rw [← hZZ]; exact setCells_mod _ _ (HE.out.trans e.h) (.inr (by omega)))
  clear hZZ
  refine bodyPost_ret (results_cell2 rfl _ (by rfl) rfl HZB.out Try.underlying57 rfl (by kernel_rfl)) rfl (Ret.mk rfl HZM.out)
set_option maxRecDepth 20000 in
set_option maxHeartbeats 1600000 in
theorem q25_body (t : T) (hr : t.right 8 = true) (hok : t.ok) (hs : t.size ≤ 100000) (hl : t.bytes.length ≤ 1073741824) (h : t.k = 2) (h4 : (t.ch 1).k ≠ 4) (h6 : (t.ch 1).k ≠ 6) (w : World) : Calls Try.prog 29 #[str t.bytes] w (Ret ((.tuple #[repV zeroR, .bool false])) w) := by
  have HK2 := hid h
  have t1a : ((((t.ch 1).k : Int)) == (4)) = false := by rw [beq_eq_false_iff_ne]; omega
  have t1b : ((((t.ch 1).k : Int)) = (4)) = False := eq_false (by omega)
  have t1c : ((((t.ch 1).k : Int)) != (4)) = true := by rw [bne_iff_ne]; omega
  have t2a : ((((t.ch 1).k : Int)) == (6)) = false := by rw [beq_eq_false_iff_ne]; omega
  have t2b : ((((t.ch 1).k : Int)) = (6)) = False := eq_false (by omega)
  have t2c : ((((t.ch 1).k : Int)) != (6)) = true := by rw [bne_iff_ne]; omega
  have t3a : (((t.ch 1).k) == (4)) = false := by rw [beq_eq_false_iff_ne]; exact h4
  have t3b : (((t.ch 1).k) = (4)) = False := eq_false (by exact h4)
  have t3c : (((t.ch 1).k) != (4)) = true := by rw [bne_iff_ne]; exact h4
  have t4a : (((t.ch 1).k) == (6)) = false := by rw [beq_eq_false_iff_ne]; exact h6
  have t4b : (((t.ch 1).k) = (6)) = False := eq_false (by exact h6)
  have t4c : (((t.ch 1).k) != (6)) = true := by rw [bne_iff_ne]; exact h6
  clear h h4 h6
  have KF := hid (fun W => fault_any t.bytes hl 8 (by omega) 0 (by omega) W)
  have hf : flt 8 t.bytes = (t.bytes.length, 0) := by have := flt_bytes t 8 hr hok []; rwa [List.append_nil] at this
  have KI := hid (fun W => r13_any t hr hok hl W)
  rw [List.drop_zero, hf] at KF
  have HLL := hid hl
  generalize t.bytes = l at *
  have HR := hid hr
  have HOK := hid hok
  have HS := hid hs
  clear hf hr hok hs hl
  have HE := hid ((Mod.refl [] w).alloc (.cells #[.bool false, .bool false, .int .i64 0, .int .i64 0, .string ⟨#[]⟩, .int .u64 0, .int .u64 0, .int .u64 0, .int .u64 0, .bool false, .int .u64 0, .int .u64 0] 57))
  have HB0 : Hid (Blk (w.alloc (.cells #[.bool false, .bool false, .int .i64 0, .int .i64 0, .string ⟨#[]⟩, .int .u64 0, .int .u64 0, .int .u64 0, .int .u64 0, .bool false, .int .u64 0, .int .u64 0] 57)) w.heap.size 57 #[.bool false, .bool false, .int .i64 0, .int .i64 0, .string ⟨#[]⟩, .int .u64 0, .int .u64 0, .int .u64 0, .int .u64 0, .bool false, .int .u64 0, .int .u64 0]) := hid (Blk.new w 57 #[.bool false, .bool false, .int .i64 0, .int .i64 0, .string ⟨#[]⟩, .int .u64 0, .int .u64 0, .int .u64 0, .int .u64 0, .bool false, .int .u64 0, .int .u64 0])
  go_enter Try.func29, Try.ntmps29
  go_upto_region 1 with fail
  generalize (w.alloc (.cells #[.bool false, .bool false, .int .i64 0, .int .i64 0, .string ⟨#[]⟩, .int .u64 0, .int .u64 0, .int .u64 0, .int .u64 0, .bool false, .int .u64 0, .int .u64 0] 57)) = V at *
  go_upto_region 2 with (refine wpList_store_mid rfl 57 _ _ rfl V.heap.size 0 #[.bool false, .bool false, .int .i64 0, .int .i64 0, .string ⟨#[]⟩, .int .u64 0, .int .u64 0, .int .u64 0, .int .u64 0, .bool false, .int .u64 0, .int .u64 0] (by rfl) (by rfl) ((Blk.new _ _ _).there (Nat.le_refl 12)) (by kernel_rfl) (by simp [Value.oneCell']) ?_)
  generalize hV1 : World.setCells _ _ _ _ = V1
  have HB4 : Hid (Blk V1 V.heap.size 57 #[.bool false, .bool false, .int .i64 0, .int .i64 0, .string ⟨#[]⟩, .int .u64 0, .int .u64 0, .int .u64 0, .int .u64 0, .bool false, .int .u64 0, .int .u64 0]) := hid (by rw [← hV1]; exact setCells_all (ds := #[.bool false, .bool false, .int .i64 0, .int .i64 0, .string ⟨#[]⟩, .int .u64 0, .int .u64 0, .int .u64 0, .int .u64 0, .bool false, .int .u64 0, .int .u64 0]) (Blk.new _ _ _) rfl)
  have HX1 : Hid (Ext V V1) := hid (by rw [← hV1]; exact setCells_mod _ _ ((Mod.refl [] V).alloc _) (.inr (Nat.le_refl _)))
  have HB0 := hid (HB0.out.ext HX1.out)
  have HE := hid (HE.out.trans HX1.out)
  clear hV1 HX1
  generalize V.heap.size = n4 at *
  obtain ⟨e, he⟩ := Later.self V1
  rw [he]
  clear he
  go_upto_region 3 with (go_at_call 59; refine (Ret.later (KF.out _)).mono ?_; rintro x _ ⟨rfl, e, rfl⟩; simp only [faultV, Nat.zero_add])
  go_upto_region 6 with (go_at_call 60; refine (KI.out _).mono ?_; rintro x w5 ⟨A, c, rfl, hb, hl⟩; have HX := hid hb; have HL := hid (IsL.weak (R := fun b => b < w5.heap.size) (fun b hb _ => hb) _ hl); clear hb hl)
  generalize hV5 : World.alloc w5 _ = V5
  have HX5 : Hid (Ext V1 V5) := hid (by rw [← hV5]; exact (e.h.trans HX.out).alloc _)
  have HB7 : Hid (Blk V5 w5.heap.size 38 (itemC t A c)) := hid (by rw [← hV5]; exact Blk.new _ _ _)
  have HL5 : Hid (IsL V5 (fun b => b < w5.heap.size) t A) := hid (by rw [← hV5]; exact HL.out.ext ((Mod.refl [] _).alloc _))
  have HB0 := hid (HB0.out.ext HX5.out)
  have HB4 := hid (HB4.out.ext HX5.out)
  have HE := hid (HE.out.trans HX5.out)
  clear hV5 HX HX5 HL KI KF e
  generalize w5.heap.size = n7 at *
  obtain ⟨e, he⟩ := Later.self V5
  obtain ⟨b, o, ac, rfl, hb, hbQ, hac⟩ := kids (by have := HK2.out; omega) HL5.out
  have HA1 := hid (hac 1 (by have := HK2.out; omega))
  have y3 : ∀ e : Later V5, e.x.cell? ⟨n7, 3, none⟩ = some (.slice (some ⟨b, o, none⟩) 2 c) := HK2.out ▸ HB7.out.cellL 3 rfl
  have z3 : ∀ e : Later V5, e.x.cell? ⟨b, o + 5 + 3, none⟩ = some (.slice (ac 1).1 (t.ch 1).k (ac 1).2) := fun e => by
    have := (At5.mod HA1.out.1 e.h hb (by simp)).2.2.2.1
    rwa [show o + 1 * 5 = o + 5 by omega] at this
  rw [he]
  clear he
  have HZL : Hid (∀ e : Later V5, Blk e.x n4 57 #[.bool false, .bool false, .int .i64 0, .int .i64 0, .string ⟨#[]⟩, .int .u64 0, .int .u64 0, .int .u64 0, .int .u64 0, .bool false, .int .u64 0, .int .u64 0]) := hid (fun e => HB4.out.later e)
  go_upto_region 7 with fail
  have tk1 : True := trivial
  go_wp2_with (first | (clear tk1; refine wpList_row (by rfl) 57 _ rfl _ rfl (HZL.out _) Try.underlying57 rfl (by kernel_rfl) ?_) | (refine wpList_store_mid rfl 57 _ _ rfl w.heap.size 0 #[.bool false, .bool false, .int .i64 0, .int .i64 0, .string ⟨#[]⟩, .int .u64 0, .int .u64 0, .int .u64 0, .int .u64 0, .bool false, .int .u64 0, .int .u64 0] (by rfl) (by rfl) ((HB0.out.later e).there (Nat.le_refl 12)) (by kernel_rfl) (by simp [Value.oneCell']) ?_))
  generalize hZZ : World.setCells _ _ _ _ = ZZ
  have HZB : Hid (Blk ZZ w.heap.size 57 #[.bool false, .bool false, .int .i64 0, .int .i64 0, .string ⟨#[]⟩, .int .u64 0, .int .u64 0, .int .u64 0, .int .u64 0, .bool false, .int .u64 0, .int .u64 0]) := hid (by rw [← hZZ]; exact setCells_all (ds := #[.bool false, .bool false, .int .i64 0, .int .i64 0, .string ⟨#[]⟩, .int .u64 0, .int .u64 0, .int .u64 0, .int .u64 0, .bool false, .int .u64 0, .int .u64 0]) (HB0.out.later e) rfl)
  have HZM : Hid (Ext w ZZ) := hid (by rw [← hZZ]; exact setCells_mod _ _ (HE.out.trans e.h) (.inr (by omega)))
  clear hZZ
  refine bodyPost_ret (results_cell2 rfl _ (by rfl) rfl HZB.out Try.underlying57 rfl (by kernel_rfl)) rfl (Ret.mk rfl HZM.out)
end Go.Proofs.Ytogjghmoankleaa


namespace Go.Proofs.Ytogjghmoankleaa
open Go.RowKit
set_option linter.unusedVariables false
set_option linter.unusedSimpArgs false

set_option maxRecDepth 20000 in
set_option maxHeartbeats 1600000 in
theorem q25_c4 (t : T) (hr : t.right 8 = true) (hok : t.ok) (hs : t.size ≤ 100000) (hl : t.bytes.length ≤ 1073741824) (h : t.k = 2) (hk : (t.ch 1).k = 4) (h0 : ((t.ch 1).ch 0).k ≠ 2) (w : World) : Calls Try.prog 29 #[str t.bytes] w (Ret ((.tuple #[repV zeroR, .bool false])) w) := by
  have HK2 := hid h
  have HKB := hid hk
  have t1a : (((((t.ch 1).ch 0).k : Int)) == (2)) = false := by rw [beq_eq_false_iff_ne]; omega
  have t1b : (((((t.ch 1).ch 0).k : Int)) = (2)) = False := eq_false (by omega)
  have t1c : (((((t.ch 1).ch 0).k : Int)) != (2)) = true := by rw [bne_iff_ne]; omega
  have t3a : ((((t.ch 1).ch 0).k) == (2)) = false := by rw [beq_eq_false_iff_ne]; exact h0
  have t3b : ((((t.ch 1).ch 0).k) = (2)) = False := eq_false (by exact h0)
  have t3c : ((((t.ch 1).ch 0).k) != (2)) = true := by rw [bne_iff_ne]; exact h0
  clear h hk h0
  have KF := hid (fun W => fault_any t.bytes hl 8 (by omega) 0 (by omega) W)
  have hf : flt 8 t.bytes = (t.bytes.length, 0) := by have := flt_bytes t 8 hr hok []; rwa [List.append_nil] at this
  have KI := hid (fun W => r13_any t hr hok hl W)
  rw [List.drop_zero, hf] at KF
  have HLL := hid hl
  generalize t.bytes = l at *
  have HR := hid hr
  have HOK := hid hok
  have HS := hid hs
  clear hf hr hok hs hl
  have HE := hid ((Mod.refl [] w).alloc (.cells #[.bool false, .bool false, .int .i64 0, .int .i64 0, .string ⟨#[]⟩, .int .u64 0, .int .u64 0, .int .u64 0, .int .u64 0, .bool false, .int .u64 0, .int .u64 0] 57))
  have HB0 : Hid (Blk (w.alloc (.cells #[.bool false, .bool false, .int .i64 0, .int .i64 0, .string ⟨#[]⟩, .int .u64 0, .int .u64 0, .int .u64 0, .int .u64 0, .bool false, .int .u64 0, .int .u64 0] 57)) w.heap.size 57 #[.bool false, .bool false, .int .i64 0, .int .i64 0, .string ⟨#[]⟩, .int .u64 0, .int .u64 0, .int .u64 0, .int .u64 0, .bool false, .int .u64 0, .int .u64 0]) := hid (Blk.new w 57 #[.bool false, .bool false, .int .i64 0, .int .i64 0, .string ⟨#[]⟩, .int .u64 0, .int .u64 0, .int .u64 0, .int .u64 0, .bool false, .int .u64 0, .int .u64 0])
  go_enter Try.func29, Try.ntmps29
  go_upto_region 1 with fail
  generalize (w.alloc (.cells #[.bool false, .bool false, .int .i64 0, .int .i64 0, .string ⟨#[]⟩, .int .u64 0, .int .u64 0, .int .u64 0, .int .u64 0, .bool false, .int .u64 0, .int .u64 0] 57)) = V at *
  go_upto_region 2 with (refine wpList_store_mid rfl 57 _ _ rfl V.heap.size 0 #[.bool false, .bool false, .int .i64 0, .int .i64 0, .string ⟨#[]⟩, .int .u64 0, .int .u64 0, .int .u64 0, .int .u64 0, .bool false, .int .u64 0, .int .u64 0] (by rfl) (by rfl) ((Blk.new _ _ _).there (Nat.le_refl 12)) (by kernel_rfl) (by simp [Value.oneCell']) ?_)
  generalize hV1 : World.setCells _ _ _ _ = V1
  have HB4 : Hid (Blk V1 V.heap.size 57 #[.bool false, .bool false, .int .i64 0, .int .i64 0, .string ⟨#[]⟩, .int .u64 0, .int .u64 0, .int .u64 0, .int .u64 0, .bool false, .int .u64 0, .int .u64 0]) := hid (by rw [← hV1]; exact setCells_all (ds := #[.bool false, .bool false, .int .i64 0, .int .i64 0, .string ⟨#[]⟩, .int .u64 0, .int .u64 0, .int .u64 0, .int .u64 0, .bool false, .int .u64 0, .int .u64 0]) (Blk.new _ _ _) rfl)
  have HX1 : Hid (Ext V V1) := hid (by rw [← hV1]; exact setCells_mod _ _ ((Mod.refl [] V).alloc _) (.inr (Nat.le_refl _)))
  have HB0 := hid (HB0.out.ext HX1.out)
  have HE := hid (HE.out.trans HX1.out)
  clear hV1 HX1
  generalize V.heap.size = n4 at *
  obtain ⟨e, he⟩ := Later.self V1
  rw [he]
  clear he
  go_upto_region 3 with (go_at_call 59; refine (Ret.later (KF.out _)).mono ?_; rintro x _ ⟨rfl, e, rfl⟩; simp only [faultV, Nat.zero_add])
  go_upto_region 6 with (go_at_call 60; refine (KI.out _).mono ?_; rintro x w5 ⟨A, c, rfl, hb, hl⟩; have HX := hid hb; have HL := hid (IsL.weak (R := fun b => b < w5.heap.size) (fun b hb _ => hb) _ hl); clear hb hl)
  generalize hV5 : World.alloc w5 _ = V5
  have HX5 : Hid (Ext V1 V5) := hid (by rw [← hV5]; exact (e.h.trans HX.out).alloc _)
  have HB7 : Hid (Blk V5 w5.heap.size 38 (itemC t A c)) := hid (by rw [← hV5]; exact Blk.new _ _ _)
  have HL5 : Hid (IsL V5 (fun b => b < w5.heap.size) t A) := hid (by rw [← hV5]; exact HL.out.ext ((Mod.refl [] _).alloc _))
  have HB0 := hid (HB0.out.ext HX5.out)
  have HB4 := hid (HB4.out.ext HX5.out)
  have HE := hid (HE.out.trans HX5.out)
  clear hV5 HX HX5 HL KI KF e
  generalize w5.heap.size = n7 at *
  obtain ⟨e, he⟩ := Later.self V5
  obtain ⟨b, o, ac, rfl, hb, hbQ, hac⟩ := kids (by have := HK2.out; omega) HL5.out
  have HA1 := hid (hac 1 (by have := HK2.out; omega))
  have y3 : ∀ e : Later V5, e.x.cell? ⟨n7, 3, none⟩ = some (.slice (some ⟨b, o, none⟩) 2 c) := HK2.out ▸ HB7.out.cellL 3 rfl
  have z3 : ∀ e : Later V5, e.x.cell? ⟨b, o + 5 + 3, none⟩ = some (.slice (ac 1).1 4 (ac 1).2) := fun e => by
    have := (At5.mod HA1.out.1 e.h hb (by simp)).2.2.2.1
    rwa [show o + 1 * 5 = o + 5 by omega, HKB.out] at this
  obtain ⟨b1, o1, ac1, hA1, hb1, hbQ1, hac1⟩ := kids (by have := HKB.out; omega) HA1.out.2
  rw [hA1] at z3
  have I0 := hid (hac1 0 (by have := HKB.out; omega)).1
  have I1 := hid (hac1 1 (by have := HKB.out; omega)).1
  have I2 := hid (hac1 2 (by have := HKB.out; omega)).1
  have I3 := hid (hac1 3 (by have := HKB.out; omega)).1
  have L0 := hid (hac1 0 (by have := HKB.out; omega)).2
  have L2 := hid (hac1 2 (by have := HKB.out; omega)).2
  have L3 := hid (hac1 3 (by have := HKB.out; omega)).2
  have HAC := hid hac1
  have HAA := hid hA1
  clear hac1 hac hA1
  have q3 : ∀ e : Later V5, e.x.cell? ⟨b1, o1 + 3, none⟩ = some (.slice (ac1 0).1 ((t.ch 1).ch 0).k (ac1 0).2) := fun e => by
    have := (At5.mod I0.out e.h hb1 (by simp)).2.2.2.1
    first | exact this | (rwa [show o1 + 0 * 5 = o1 by omega] at this)
  rw [he]
  clear he
  have HZL : Hid (∀ e : Later V5, Blk e.x n4 57 #[.bool false, .bool false, .int .i64 0, .int .i64 0, .string ⟨#[]⟩, .int .u64 0, .int .u64 0, .int .u64 0, .int .u64 0, .bool false, .int .u64 0, .int .u64 0]) := hid (fun e => HB4.out.later e)
  go_upto_region 10 with fail
  have tk1 : True := trivial
  go_wp2_with (first | (clear tk1; refine wpList_row (by rfl) 57 _ rfl _ rfl (HZL.out _) Try.underlying57 rfl (by kernel_rfl) ?_) | (refine wpList_store_mid rfl 57 _ _ rfl w.heap.size 0 #[.bool false, .bool false, .int .i64 0, .int .i64 0, .string ⟨#[]⟩, .int .u64 0, .int .u64 0, .int .u64 0, .int .u64 0, .bool false, .int .u64 0, .int .u64 0] (by rfl) (by rfl) ((HB0.out.later e).there (Nat.le_refl 12)) (by kernel_rfl) (by simp [Value.oneCell']) ?_))
  generalize hZZ : World.setCells _ _ _ _ = ZZ
  have HZB : Hid (Blk ZZ w.heap.size 57 #[.bool false, .bool false, .int .i64 0, .int .i64 0, .string ⟨#[]⟩, .int .u64 0, .int .u64 0, .int .u64 0, .int .u64 0, .bool false, .int .u64 0, .int .u64 0]) := hid (by rw [← hZZ]; exact setCells_all (ds := #[.bool false, .bool false, .int .i64 0, .int .i64 0, .string ⟨#[]⟩, .int .u64 0, .int .u64 0, .int .u64 0, .int .u64 0, .bool false, .int .u64 0, .int .u64 0]) (HB0.out.later e) rfl)
  have HZM : Hid (Ext w ZZ) := hid (by rw [← hZZ]; exact setCells_mod _ _ (HE.out.trans e.h) (.inr (by omega)))
  clear hZZ
  refine bodyPost_ret (results_cell2 rfl _ (by rfl) rfl HZB.out Try.underlying57 rfl (by kernel_rfl)) rfl (Ret.mk rfl HZM.out)
set_option maxRecDepth 20000 in
set_option maxHeartbeats 1600000 in
theorem q25_d4 (t : T) (hr : t.right 8 = true) (hok : t.ok) (hs : t.size ≤ 100000) (hl : t.bytes.length ≤ 1073741824) (h : t.k = 2) (hk : (t.ch 1).k = 4) (h0 : ((t.ch 1).ch 0).k = 2) (h3 : ((t.ch 1).ch 3).k ≠ 2) (w : World) : Calls Try.prog 29 #[str t.bytes] w (Ret ((.tuple #[repV zeroR, .bool false])) w) := by
  have HK2 := hid h
  have HKB := hid hk
  have t1a : (((((t.ch 1).ch 0).k : Int)) == (2)) = true := by rw [beq_iff_eq]; omega
  have t1b : (((((t.ch 1).ch 0).k : Int)) = (2)) = True := eq_true (by omega)
  have t1c : (((((t.ch 1).ch 0).k : Int)) != (2)) = false := by rw [bne_eq_false_iff_eq]; omega
  have t3a : ((((t.ch 1).ch 0).k) == (2)) = true := by rw [beq_iff_eq]; exact h0
  have t3b : ((((t.ch 1).ch 0).k) = (2)) = True := eq_true (by exact h0)
  have t3c : ((((t.ch 1).ch 0).k) != (2)) = false := by rw [bne_eq_false_iff_eq]; exact h0
  have t5a : (((((t.ch 1).ch 3).k : Int)) == (2)) = false := by rw [beq_eq_false_iff_ne]; omega
  have t5b : (((((t.ch 1).ch 3).k : Int)) = (2)) = False := eq_false (by omega)
  have t5c : (((((t.ch 1).ch 3).k : Int)) != (2)) = true := by rw [bne_iff_ne]; omega
  have t7a : ((((t.ch 1).ch 3).k) == (2)) = false := by rw [beq_eq_false_iff_ne]; exact h3
  have t7b : ((((t.ch 1).ch 3).k) = (2)) = False := eq_false (by exact h3)
  have t7c : ((((t.ch 1).ch 3).k) != (2)) = true := by rw [bne_iff_ne]; exact h3
  clear h hk h0 h3
  have KF := hid (fun W => fault_any t.bytes hl 8 (by omega) 0 (by omega) W)
  have hf : flt 8 t.bytes = (t.bytes.length, 0) := by have := flt_bytes t 8 hr hok []; rwa [List.append_nil] at this
  have KI := hid (fun W => r13_any t hr hok hl W)
  rw [List.drop_zero, hf] at KF
  have HLL := hid hl
  generalize t.bytes = l at *
  have HR := hid hr
  have HOK := hid hok
  have HS := hid hs
  clear hf hr hok hs hl
  have HE := hid ((Mod.refl [] w).alloc (.cells #[.bool false, .bool false, .int .i64 0, .int .i64 0, .string ⟨#[]⟩, .int .u64 0, .int .u64 0, .int .u64 0, .int .u64 0, .bool false, .int .u64 0, .int .u64 0] 57))
  have HB0 : Hid (Blk (w.alloc (.cells #[.bool false, .bool false, .int .i64 0, .int .i64 0, .string ⟨#[]⟩, .int .u64 0, .int .u64 0, .int .u64 0, .int .u64 0, .bool false, .int .u64 0, .int .u64 0] 57)) w.heap.size 57 #[.bool false, .bool false, .int .i64 0, .int .i64 0, .string ⟨#[]⟩, .int .u64 0, .int .u64 0, .int .u64 0, .int .u64 0, .bool false, .int .u64 0, .int .u64 0]) := hid (Blk.new w 57 #[.bool false, .bool false, .int .i64 0, .int .i64 0, .string ⟨#[]⟩, .int .u64 0, .int .u64 0, .int .u64 0, .int .u64 0, .bool false, .int .u64 0, .int .u64 0])
  go_enter Try.func29, Try.ntmps29
  go_upto_region 1 with fail
  generalize (w.alloc (.cells #[.bool false, .bool false, .int .i64 0, .int .i64 0, .string ⟨#[]⟩, .int .u64 0, .int .u64 0, .int .u64 0, .int .u64 0, .bool false, .int .u64 0, .int .u64 0] 57)) = V at *
  go_upto_region 2 with (refine wpList_store_mid rfl 57 _ _ rfl V.heap.size 0 #[.bool false, .bool false, .int .i64 0, .int .i64 0, .string ⟨#[]⟩, .int .u64 0, .int .u64 0, .int .u64 0, .int .u64 0, .bool false, .int .u64 0, .int .u64 0] (by rfl) (by rfl) ((Blk.new _ _ _).there (Nat.le_refl 12)) (by kernel_rfl) (by simp [Value.oneCell']) ?_)
  generalize hV1 : World.setCells _ _ _ _ = V1
  have HB4 : Hid (Blk V1 V.heap.size 57 #[.bool false, .bool false, .int .i64 0, .int .i64 0, .string ⟨#[]⟩, .int .u64 0, .int .u64 0, .int .u64 0, .int .u64 0, .bool false, .int .u64 0, .int .u64 0]) := hid (by rw [← hV1]; exact setCells_all (ds := #[.bool false, .bool false, .int .i64 0, .int .i64 0, .string ⟨#[]⟩, .int .u64 0, .int .u64 0, .int .u64 0, .int .u64 0, .bool false, .int .u64 0, .int .u64 0]) (Blk.new _ _ _) rfl)
  have HX1 : Hid (Ext V V1) := hid (by rw [← hV1]; exact setCells_mod _ _ ((Mod.refl [] V).alloc _) (.inr (Nat.le_refl _)))
  have HB0 := hid (HB0.out.ext HX1.out)
  have HE := hid (HE.out.trans HX1.out)
  clear hV1 HX1
  generalize V.heap.size = n4 at *
  obtain ⟨e, he⟩ := Later.self V1
  rw [he]
  clear he
  go_upto_region 3 with (go_at_call 59; refine (Ret.later (KF.out _)).mono ?_; rintro x _ ⟨rfl, e, rfl⟩; simp only [faultV, Nat.zero_add])
  go_upto_region 6 with (go_at_call 60; refine (KI.out _).mono ?_; rintro x w5 ⟨A, c, rfl, hb, hl⟩; have HX := hid hb; have HL := hid (IsL.weak (R := fun b => b < w5.heap.size) (fun b hb _ => hb) _ hl); clear hb hl)
  generalize hV5 : World.alloc w5 _ = V5
  have HX5 : Hid (Ext V1 V5) := hid (by rw [← hV5]; exact (e.h.trans HX.out).alloc _)
  have HB7 : Hid (Blk V5 w5.heap.size 38 (itemC t A c)) := hid (by rw [← hV5]; exact Blk.new _ _ _)
  have HL5 : Hid (IsL V5 (fun b => b < w5.heap.size) t A) := hid (by rw [← hV5]; exact HL.out.ext ((Mod.refl [] _).alloc _))
  have HB0 := hid (HB0.out.ext HX5.out)
  have HB4 := hid (HB4.out.ext HX5.out)
  have HE := hid (HE.out.trans HX5.out)
  clear hV5 HX HX5 HL KI KF e
  generalize w5.heap.size = n7 at *
  obtain ⟨e, he⟩ := Later.self V5
  obtain ⟨b, o, ac, rfl, hb, hbQ, hac⟩ := kids (by have := HK2.out; omega) HL5.out
  have HA1 := hid (hac 1 (by have := HK2.out; omega))
  have y3 : ∀ e : Later V5, e.x.cell? ⟨n7, 3, none⟩ = some (.slice (some ⟨b, o, none⟩) 2 c) := HK2.out ▸ HB7.out.cellL 3 rfl
  have z3 : ∀ e : Later V5, e.x.cell? ⟨b, o + 5 + 3, none⟩ = some (.slice (ac 1).1 4 (ac 1).2) := fun e => by
    have := (At5.mod HA1.out.1 e.h hb (by simp)).2.2.2.1
    rwa [show o + 1 * 5 = o + 5 by omega, HKB.out] at this
  obtain ⟨b1, o1, ac1, hA1, hb1, hbQ1, hac1⟩ := kids (by have := HKB.out; omega) HA1.out.2
  rw [hA1] at z3
  have I0 := hid (hac1 0 (by have := HKB.out; omega)).1
  have I1 := hid (hac1 1 (by have := HKB.out; omega)).1
  have I2 := hid (hac1 2 (by have := HKB.out; omega)).1
  have I3 := hid (hac1 3 (by have := HKB.out; omega)).1
  have L0 := hid (hac1 0 (by have := HKB.out; omega)).2
  have L2 := hid (hac1 2 (by have := HKB.out; omega)).2
  have L3 := hid (hac1 3 (by have := HKB.out; omega)).2
  have HAC := hid hac1
  have HAA := hid hA1
  clear hac1 hac hA1
  have q3 : ∀ e : Later V5, e.x.cell? ⟨b1, o1 + 3, none⟩ = some (.slice (ac1 0).1 ((t.ch 1).ch 0).k (ac1 0).2) := fun e => by
    have := (At5.mod I0.out e.h hb1 (by simp)).2.2.2.1
    first | exact this | (rwa [show o1 + 0 * 5 = o1 by omega] at this)
  have r3 : ∀ e : Later V5, e.x.cell? ⟨b1, o1 + 15 + 3, none⟩ = some (.slice (ac1 3).1 ((t.ch 1).ch 3).k (ac1 3).2) := fun e => by
    have := (At5.mod I3.out e.h hb1 (by simp)).2.2.2.1
    first | exact this | (rwa [show o1 + 3 * 5 = o1 + 15 by omega] at this)
  rw [he]
  clear he
  have HZL : Hid (∀ e : Later V5, Blk e.x n4 57 #[.bool false, .bool false, .int .i64 0, .int .i64 0, .string ⟨#[]⟩, .int .u64 0, .int .u64 0, .int .u64 0, .int .u64 0, .bool false, .int .u64 0, .int .u64 0]) := hid (fun e => HB4.out.later e)
  go_upto_region 10 with fail
  have tk1 : True := trivial
  go_wp2_with (first | (clear tk1; refine wpList_row (by rfl) 57 _ rfl _ rfl (HZL.out _) Try.underlying57 rfl (by kernel_rfl) ?_) | (refine wpList_store_mid rfl 57 _ _ rfl w.heap.size 0 #[.bool false, .bool false, .int .i64 0, .int .i64 0, .string ⟨#[]⟩, .int .u64 0, .int .u64 0, .int .u64 0, .int .u64 0, .bool false, .int .u64 0, .int .u64 0] (by rfl) (by rfl) ((HB0.out.later e).there (Nat.le_refl 12)) (by kernel_rfl) (by simp [Value.oneCell']) ?_))
  generalize hZZ : World.setCells _ _ _ _ = ZZ
  have HZB : Hid (Blk ZZ w.heap.size 57 #[.bool false, .bool false, .int .i64 0, .int .i64 0, .string ⟨#[]⟩, .int .u64 0, .int .u64 0, .int .u64 0, .int .u64 0, .bool false, .int .u64 0, .int .u64 0]) := hid (by rw [← hZZ]; exact setCells_all (ds := #[.bool false, .bool false, .int .i64 0, .int .i64 0, .string ⟨#[]⟩, .int .u64 0, .int .u64 0, .int .u64 0, .int .u64 0, .bool false, .int .u64 0, .int .u64 0]) (HB0.out.later e) rfl)
  have HZM : Hid (Ext w ZZ) := hid (by rw [← hZZ]; exact setCells_mod _ _ (HE.out.trans e.h) (.inr (by omega)))
  clear hZZ
  refine bodyPost_ret (results_cell2 rfl _ (by rfl) rfl HZB.out Try.underlying57 rfl (by kernel_rfl)) rfl (Ret.mk rfl HZM.out)
set_option maxRecDepth 20000 in
set_option maxHeartbeats 1600000 in
theorem q25_e4 (t : T) (hr : t.right 8 = true) (hok : t.ok) (hs : t.size ≤ 100000) (hl : t.bytes.length ≤ 1073741824) (h : t.k = 2) (hk : (t.ch 1).k = 4) (h0 : ((t.ch 1).ch 0).k = 2) (h3 : ((t.ch 1).ch 3).k = 2) (h2 : ofB ((t.ch 1).ch 2) = false) (w : World) : Calls Try.prog 29 #[str t.bytes] w (Ret ((.tuple #[repV zeroR, .bool false])) w) := by
  have HK2 := hid h
  have HKB := hid hk
  have t1a : (((((t.ch 1).ch 0).k : Int)) == (2)) = true := by rw [beq_iff_eq]; omega
  have t1b : (((((t.ch 1).ch 0).k : Int)) = (2)) = True := eq_true (by omega)
  have t1c : (((((t.ch 1).ch 0).k : Int)) != (2)) = false := by rw [bne_eq_false_iff_eq]; omega
  have t3a : ((((t.ch 1).ch 0).k) == (2)) = true := by rw [beq_iff_eq]; exact h0
  have t3b : ((((t.ch 1).ch 0).k) = (2)) = True := eq_true (by exact h0)
  have t3c : ((((t.ch 1).ch 0).k) != (2)) = false := by rw [bne_eq_false_iff_eq]; exact h0
  have t5a : (((((t.ch 1).ch 3).k : Int)) == (2)) = true := by rw [beq_iff_eq]; omega
  have t5b : (((((t.ch 1).ch 3).k : Int)) = (2)) = True := eq_true (by omega)
  have t5c : (((((t.ch 1).ch 3).k : Int)) != (2)) = false := by rw [bne_eq_false_iff_eq]; omega
  have t7a : ((((t.ch 1).ch 3).k) == (2)) = true := by rw [beq_iff_eq]; exact h3
  have t7b : ((((t.ch 1).ch 3).k) = (2)) = True := eq_true (by exact h3)
  have t7c : ((((t.ch 1).ch 3).k) != (2)) = false := by rw [bne_eq_false_iff_eq]; exact h3
  have hs2 : ((t.ch 1).ch 2).size ≤ 100000 := Nat.le_trans (Nat.le_trans (ch_size (by omega)) (ch_size (by omega))) hs
  have ho2 : ((t.ch 1).ch 2).ok := ch_ok (ch_ok hok (by omega)) (by omega)
  have KO : Hid (∀ A c W, IsL W (fun _ => True) ((t.ch 1).ch 2) A → Calls Try.prog 61 #[itemV ((t.ch 1).ch 2) A c] W (Ret (.tuple #[EV.v zeroE, .int .i64 2]) W)) := fun A c W h => by
    have := of_any ((t.ch 1).ch 2) ho2 hs2 A c W h
    unfold OfPost at this
    rw [h2] at this
    exact this
  clear hs2 ho2
  clear h hk h0 h3 h2
  have KF := hid (fun W => fault_any t.bytes hl 8 (by omega) 0 (by omega) W)
  have hf : flt 8 t.bytes = (t.bytes.length, 0) := by have := flt_bytes t 8 hr hok []; rwa [List.append_nil] at this
  have KI := hid (fun W => r13_any t hr hok hl W)
  rw [List.drop_zero, hf] at KF
  have HLL := hid hl
  generalize t.bytes = l at *
  have HR := hid hr
  have HOK := hid hok
  have HS := hid hs
  clear hf hr hok hs hl
  have HE := hid ((Mod.refl [] w).alloc (.cells #[.bool false, .bool false, .int .i64 0, .int .i64 0, .string ⟨#[]⟩, .int .u64 0, .int .u64 0, .int .u64 0, .int .u64 0, .bool false, .int .u64 0, .int .u64 0] 57))
  have HB0 : Hid (Blk (w.alloc (.cells #[.bool false, .bool false, .int .i64 0, .int .i64 0, .string ⟨#[]⟩, .int .u64 0, .int .u64 0, .int .u64 0, .int .u64 0, .bool false, .int .u64 0, .int .u64 0] 57)) w.heap.size 57 #[.bool false, .bool false, .int .i64 0, .int .i64 0, .string ⟨#[]⟩, .int .u64 0, .int .u64 0, .int .u64 0, .int .u64 0, .bool false, .int .u64 0, .int .u64 0]) := hid (Blk.new w 57 #[.bool false, .bool false, .int .i64 0, .int .i64 0, .string ⟨#[]⟩, .int .u64 0, .int .u64 0, .int .u64 0, .int .u64 0, .bool false, .int .u64 0, .int .u64 0])
  go_enter Try.func29, Try.ntmps29
  go_upto_region 1 with fail
  generalize (w.alloc (.cells #[.bool false, .bool false, .int .i64 0, .int .i64 0, .string ⟨#[]⟩, .int .u64 0, .int .u64 0, .int .u64 0, .int .u64 0, .bool false, .int .u64 0, .int .u64 0] 57)) = V at *
  go_upto_region 2 with (refine wpList_store_mid rfl 57 _ _ rfl V.heap.size 0 #[.bool false, .bool false, .int .i64 0, .int .i64 0, .string ⟨#[]⟩, .int .u64 0, .int .u64 0, .int .u64 0, .int .u64 0, .bool false, .int .u64 0, .int .u64 0] (by rfl) (by rfl) ((Blk.new _ _ _).there (Nat.le_refl 12)) (by kernel_rfl) (by simp [Value.oneCell']) ?_)
  generalize hV1 : World.setCells _ _ _ _ = V1
  have HB4 : Hid (Blk V1 V.heap.size 57 #[.bool false, .bool false, .int .i64 0, .int .i64 0, .string ⟨#[]⟩, .int .u64 0, .int .u64 0, .int .u64 0, .int .u64 0, .bool false, .int .u64 0, .int .u64 0]) := hid (by rw [← hV1]; exact setCells_all (ds := #[.bool false, .bool false, .int .i64 0, .int .i64 0, .string ⟨#[]⟩, .int .u64 0, .int .u64 0, .int .u64 0, .int .u64 0, .bool false, .int .u64 0, .int .u64 0]) (Blk.new _ _ _) rfl)
  have HX1 : Hid (Ext V V1) := hid (by rw [← hV1]; exact setCells_mod _ _ ((Mod.refl [] V).alloc _) (.inr (Nat.le_refl _)))
  have HB0 := hid (HB0.out.ext HX1.out)
  have HE := hid (HE.out.trans HX1.out)
  clear hV1 HX1
  generalize V.heap.size = n4 at *
  obtain ⟨e, he⟩ := Later.self V1
  rw [he]
  clear he
  go_upto_region 3 with (go_at_call 59; refine (Ret.later (KF.out _)).mono ?_; rintro x _ ⟨rfl, e, rfl⟩; simp only [faultV, Nat.zero_add])
  go_upto_region 6 with (go_at_call 60; refine (KI.out _).mono ?_; rintro x w5 ⟨A, c, rfl, hb, hl⟩; have HX := hid hb; have HL := hid (IsL.weak (R := fun b => b < w5.heap.size) (fun b hb _ => hb) _ hl); clear hb hl)
  generalize hV5 : World.alloc w5 _ = V5
  have HX5 : Hid (Ext V1 V5) := hid (by rw [← hV5]; exact (e.h.trans HX.out).alloc _)
  have HB7 : Hid (Blk V5 w5.heap.size 38 (itemC t A c)) := hid (by rw [← hV5]; exact Blk.new _ _ _)
  have HL5 : Hid (IsL V5 (fun b => b < w5.heap.size) t A) := hid (by rw [← hV5]; exact HL.out.ext ((Mod.refl [] _).alloc _))
  have HB0 := hid (HB0.out.ext HX5.out)
  have HB4 := hid (HB4.out.ext HX5.out)
  have HE := hid (HE.out.trans HX5.out)
  clear hV5 HX HX5 HL KI KF e
  generalize w5.heap.size = n7 at *
  obtain ⟨e, he⟩ := Later.self V5
  obtain ⟨b, o, ac, rfl, hb, hbQ, hac⟩ := kids (by have := HK2.out; omega) HL5.out
  have HA1 := hid (hac 1 (by have := HK2.out; omega))
  have y3 : ∀ e : Later V5, e.x.cell? ⟨n7, 3, none⟩ = some (.slice (some ⟨b, o, none⟩) 2 c) := HK2.out ▸ HB7.out.cellL 3 rfl
  have z3 : ∀ e : Later V5, e.x.cell? ⟨b, o + 5 + 3, none⟩ = some (.slice (ac 1).1 4 (ac 1).2) := fun e => by
    have := (At5.mod HA1.out.1 e.h hb (by simp)).2.2.2.1
    rwa [show o + 1 * 5 = o + 5 by omega, HKB.out] at this
  obtain ⟨b1, o1, ac1, hA1, hb1, hbQ1, hac1⟩ := kids (by have := HKB.out; omega) HA1.out.2
  rw [hA1] at z3
  have I0 := hid (hac1 0 (by have := HKB.out; omega)).1
  have I1 := hid (hac1 1 (by have := HKB.out; omega)).1
  have I2 := hid (hac1 2 (by have := HKB.out; omega)).1
  have I3 := hid (hac1 3 (by have := HKB.out; omega)).1
  have L0 := hid (hac1 0 (by have := HKB.out; omega)).2
  have L2 := hid (hac1 2 (by have := HKB.out; omega)).2
  have L3 := hid (hac1 3 (by have := HKB.out; omega)).2
  have HAC := hid hac1
  have HAA := hid hA1
  clear hac1 hac hA1
  have q3 : ∀ e : Later V5, e.x.cell? ⟨b1, o1 + 3, none⟩ = some (.slice (ac1 0).1 ((t.ch 1).ch 0).k (ac1 0).2) := fun e => by
    have := (At5.mod I0.out e.h hb1 (by simp)).2.2.2.1
    first | exact this | (rwa [show o1 + 0 * 5 = o1 by omega] at this)
  have r3 : ∀ e : Later V5, e.x.cell? ⟨b1, o1 + 15 + 3, none⟩ = some (.slice (ac1 3).1 ((t.ch 1).ch 3).k (ac1 3).2) := fun e => by
    have := (At5.mod I3.out e.h hb1 (by simp)).2.2.2.1
    first | exact this | (rwa [show o1 + 3 * 5 = o1 + 15 by omega] at this)
  have KX : Hid (∀ W, IsL W (fun b => b < n7) ((t.ch 1).ch 2) (ac1 2).1 → Calls Try.prog 61 #[itemV ((t.ch 1).ch 2) (ac1 2).1 (ac1 2).2] W _) := hid (fun W hW => KO.out (ac1 2).1 (ac1 2).2 W (IsL.weak (fun _ _ _ => trivial) _ hW))
  rw [he]
  clear he
  go_upto_region 11 with fail
  clear q3 r3 t1a t1b t1c t3a t3b t3c t5a t5b t5c t7a t7b t7c
  have s0 : ∀ e : Later V5, e.x.cell? ⟨b1, o1 + 10, none⟩ = some (.int .i64 ((t.ch 1).ch 2).kind) := fun e => by
    have := (At5.mod I2.out e.h hb1 (by simp)).1
    first | exact this | (rwa [show o1 + 2 * 5 = o1 + 10 by omega] at this)
  have s1 : ∀ e : Later V5, e.x.cell? ⟨b1, o1 + 10 + 1, none⟩ = some (.int .u64 (((t.ch 1).ch 2).n : Int)) := fun e => by
    have := (At5.mod I2.out e.h hb1 (by simp)).2.1
    first | exact this | (rwa [show o1 + 2 * 5 = o1 + 10 by omega] at this)
  have s2 : ∀ e : Later V5, e.x.cell? ⟨b1, o1 + 10 + 2, none⟩ = some (str ((t.ch 1).ch 2).s) := fun e => by
    have := (At5.mod I2.out e.h hb1 (by simp)).2.2.1
    first | exact this | (rwa [show o1 + 2 * 5 = o1 + 10 by omega] at this)
  have s3 : ∀ e : Later V5, e.x.cell? ⟨b1, o1 + 10 + 3, none⟩ = some (.slice (ac1 2).1 ((t.ch 1).ch 2).k (ac1 2).2) := fun e => by
    have := (At5.mod I2.out e.h hb1 (by simp)).2.2.2.1
    first | exact this | (rwa [show o1 + 2 * 5 = o1 + 10 by omega] at this)
  have s4 : ∀ e : Later V5, e.x.cell? ⟨b1, o1 + 10 + 4, none⟩ = some (.bool ((t.ch 1).ch 2).op) := fun e => by
    have := (At5.mod I2.out e.h hb1 (by simp)).2.2.2.2
    first | exact this | (rwa [show o1 + 2 * 5 = o1 + 10 by omega] at this)
  go_upto_region 12 with (go_at_call 61; refine (KX.out _ (L2.out.ext e.h)).mono ?_; rintro x w6 ⟨rfl, hb6⟩; have HX := hid (e.h.trans hb6); clear hb6)
  generalize hV6 : World.alloc w6 _ = V6
  have HX6 : Hid (Ext V5 V6) := hid (by rw [← hV6]; exact HX.out.alloc _)
  have HB0 := hid (HB0.out.ext HX6.out)
  have HB4 := hid (HB4.out.ext HX6.out)
  have HE := hid (HE.out.trans HX6.out)
  clear hV6 HX HX6 s0 s1 s2 s3 s4 e
  obtain ⟨e, he⟩ := Later.self V6
  rw [he]
  clear he
  have HZL : Hid (∀ e : Later V6, Blk e.x n4 57 #[.bool false, .bool false, .int .i64 0, .int .i64 0, .string ⟨#[]⟩, .int .u64 0, .int .u64 0, .int .u64 0, .int .u64 0, .bool false, .int .u64 0, .int .u64 0]) := hid (fun e => HB4.out.later e)
  go_upto_region 13 with fail
  have tk1 : True := trivial
  go_wp2_with (first | (clear tk1; refine wpList_row (by rfl) 57 _ rfl _ rfl (HZL.out _) Try.underlying57 rfl (by kernel_rfl) ?_) | (refine wpList_store_mid rfl 57 _ _ rfl w.heap.size 0 #[.bool false, .bool false, .int .i64 0, .int .i64 0, .string ⟨#[]⟩, .int .u64 0, .int .u64 0, .int .u64 0, .int .u64 0, .bool false, .int .u64 0, .int .u64 0] (by rfl) (by rfl) ((HB0.out.later e).there (Nat.le_refl 12)) (by kernel_rfl) (by simp [Value.oneCell']) ?_))
  generalize hZZ : World.setCells _ _ _ _ = ZZ
  have HZB : Hid (Blk ZZ w.heap.size 57 #[.bool false, .bool false, .int .i64 0, .int .i64 0, .string ⟨#[]⟩, .int .u64 0, .int .u64 0, .int .u64 0, .int .u64 0, .bool false, .int .u64 0, .int .u64 0]) := hid (by rw [← hZZ]; exact setCells_all (ds := #[.bool false, .bool false, .int .i64 0, .int .i64 0, .string ⟨#[]⟩, .int .u64 0, .int .u64 0, .int .u64 0, .int .u64 0, .bool false, .int .u64 0, .int .u64 0]) (HB0.out.later e) rfl)
  have HZM : Hid (Ext w ZZ) := hid (by rw [← hZZ]; exact setCells_mod _ _ (HE.out.trans e.h) (.inr (by omega)))
  clear hZZ
  refine bodyPost_ret (results_cell2 rfl _ (by rfl) rfl HZB.out Try.underlying57 rfl (by kernel_rfl)) rfl (Ret.mk rfl HZM.out)
end Go.Proofs.Ytogjghmoankleaa


namespace Go.Proofs.Ytogjghmoankleaa
open Go.RowKit
set_option linter.unusedVariables false
set_option linter.unusedSimpArgs false

set_option maxRecDepth 20000 in
set_option maxHeartbeats 1600000 in
theorem q25_c6 (t : T) (hr : t.right 8 = true) (hok : t.ok) (hs : t.size ≤ 100000) (hl : t.bytes.length ≤ 1073741824) (h : t.k = 2) (hk : (t.ch 1).k = 6) (h0 : ((t.ch 1).ch 0).k ≠ 2) (w : World) : Calls Try.prog 29 #[str t.bytes] w (Ret ((.tuple #[repV zeroR, .bool false])) w) := by
  have HK2 := hid h
  have HKB := hid hk
  have t1a : (((((t.ch 1).ch 0).k : Int)) == (2)) = false := by rw [beq_eq_false_iff_ne]; omega
  have t1b : (((((t.ch 1).ch 0).k : Int)) = (2)) = False := eq_false (by omega)
  have t1c : (((((t.ch 1).ch 0).k : Int)) != (2)) = true := by rw [bne_iff_ne]; omega
  have t3a : ((((t.ch 1).ch 0).k) == (2)) = false := by rw [beq_eq_false_iff_ne]; exact h0
  have t3b : ((((t.ch 1).ch 0).k) = (2)) = False := eq_false (by exact h0)
  have t3c : ((((t.ch 1).ch 0).k) != (2)) = true := by rw [bne_iff_ne]; exact h0
  clear h hk h0
  have KF := hid (fun W => fault_any t.bytes hl 8 (by omega) 0 (by omega) W)
  have hf : flt 8 t.bytes = (t.bytes.length, 0) := by have := flt_bytes t 8 hr hok []; rwa [List.append_nil] at this
  have KI := hid (fun W => r13_any t hr hok hl W)
  rw [List.drop_zero, hf] at KF
  have HLL := hid hl
  generalize t.bytes = l at *
  have HR := hid hr
  have HOK := hid hok
  have HS := hid hs
  clear hf hr hok hs hl
  have HE := hid ((Mod.refl [] w).alloc (.cells #[.bool false, .bool false, .int .i64 0, .int .i64 0, .string ⟨#[]⟩, .int .u64 0, .int .u64 0, .int .u64 0, .int .u64 0, .bool false, .int .u64 0, .int .u64 0] 57))
  have HB0 : Hid (Blk (w.alloc (.cells #[.bool false, .bool false, .int .i64 0, .int .i64 0, .string ⟨#[]⟩, .int .u64 0, .int .u64 0, .int .u64 0, .int .u64 0, .bool false, .int .u64 0, .int .u64 0] 57)) w.heap.size 57 #[.bool false, .bool false, .int .i64 0, .int .i64 0, .string ⟨#[]⟩, .int .u64 0, .int .u64 0, .int .u64 0, .int .u64 0, .bool false, .int .u64 0, .int .u64 0]) := hid (Blk.new w 57 #[.bool false, .bool false, .int .i64 0, .int .i64 0, .string ⟨#[]⟩, .int .u64 0, .int .u64 0, .int .u64 0, .int .u64 0, .bool false, .int .u64 0, .int .u64 0])
  go_enter Try.func29, Try.ntmps29
  go_upto_region 1 with fail
  generalize (w.alloc (.cells #[.bool false, .bool false, .int .i64 0, .int .i64 0, .string ⟨#[]⟩, .int .u64 0, .int .u64 0, .int .u64 0, .int .u64 0, .bool false, .int .u64 0, .int .u64 0] 57)) = V at *
  go_upto_region 2 with (refine wpList_store_mid rfl 57 _ _ rfl V.heap.size 0 #[.bool false, .bool false, .int .i64 0, .int .i64 0, .string ⟨#[]⟩, .int .u64 0, .int .u64 0, .int .u64 0, .int .u64 0, .bool false, .int .u64 0, .int .u64 0] (by rfl) (by rfl) ((Blk.new _ _ _).there (Nat.le_refl 12)) (by kernel_rfl) (by simp [Value.oneCell']) ?_)
  generalize hV1 : World.setCells _ _ _ _ = V1
  have HB4 : Hid (Blk V1 V.heap.size 57 #[.bool false, .bool false, .int .i64 0, .int .i64 0, .string ⟨#[]⟩, .int .u64 0, .int .u64 0, .int .u64 0, .int .u64 0, .bool false, .int .u64 0, .int .u64 0]) := hid (by rw [← hV1]; exact setCells_all (ds := #[.bool false, .bool false, .int .i64 0, .int .i64 0, .string ⟨#[]⟩, .int .u64 0, .int .u64 0, .int .u64 0, .int .u64 0, .bool false, .int .u64 0, .int .u64 0]) (Blk.new _ _ _) rfl)
  have HX1 : Hid (Ext V V1) := hid (by rw [← hV1]; exact setCells_mod _ _ ((Mod.refl [] V).alloc _) (.inr (Nat.le_refl _)))
  have HB0 := hid (HB0.out.ext HX1.out)
  have HE := hid (HE.out.trans HX1.out)
  clear hV1 HX1
  generalize V.heap.size = n4 at *
  obtain ⟨e, he⟩ := Later.self V1
  rw [he]
  clear he
  go_upto_region 3 with (go_at_call 59; refine (Ret.later (KF.out _)).mono ?_; rintro x _ ⟨rfl, e, rfl⟩; simp only [faultV, Nat.zero_add])
  go_upto_region 6 with (go_at_call 60; refine (KI.out _).mono ?_; rintro x w5 ⟨A, c, rfl, hb, hl⟩; have HX := hid hb; have HL := hid (IsL.weak (R := fun b => b < w5.heap.size) (fun b hb _ => hb) _ hl); clear hb hl)
  generalize hV5 : World.alloc w5 _ = V5
  have HX5 : Hid (Ext V1 V5) := hid (by rw [← hV5]; exact (e.h.trans HX.out).alloc _)
  have HB7 : Hid (Blk V5 w5.heap.size 38 (itemC t A c)) := hid (by rw [← hV5]; exact Blk.new _ _ _)
  have HL5 : Hid (IsL V5 (fun b => b < w5.heap.size) t A) := hid (by rw [← hV5]; exact HL.out.ext ((Mod.refl [] _).alloc _))
  have HB0 := hid (HB0.out.ext HX5.out)
  have HB4 := hid (HB4.out.ext HX5.out)
  have HE := hid (HE.out.trans HX5.out)
  clear hV5 HX HX5 HL KI KF e
  generalize w5.heap.size = n7 at *
  obtain ⟨e, he⟩ := Later.self V5
  obtain ⟨b, o, ac, rfl, hb, hbQ, hac⟩ := kids (by have := HK2.out; omega) HL5.out
  have HA1 := hid (hac 1 (by have := HK2.out; omega))
  have y3 : ∀ e : Later V5, e.x.cell? ⟨n7, 3, none⟩ = some (.slice (some ⟨b, o, none⟩) 2 c) := HK2.out ▸ HB7.out.cellL 3 rfl
  have z3 : ∀ e : Later V5, e.x.cell? ⟨b, o + 5 + 3, none⟩ = some (.slice (ac 1).1 6 (ac 1).2) := fun e => by
    have := (At5.mod HA1.out.1 e.h hb (by simp)).2.2.2.1
    rwa [show o + 1 * 5 = o + 5 by omega, HKB.out] at this
  obtain ⟨b1, o1, ac1, hA1, hb1, hbQ1, hac1⟩ := kids (by have := HKB.out; omega) HA1.out.2
  rw [hA1] at z3
  have I0 := hid (hac1 0 (by have := HKB.out; omega)).1
  have I1 := hid (hac1 1 (by have := HKB.out; omega)).1
  have I2 := hid (hac1 2 (by have := HKB.out; omega)).1
  have I3 := hid (hac1 3 (by have := HKB.out; omega)).1
  have L0 := hid (hac1 0 (by have := HKB.out; omega)).2
  have L2 := hid (hac1 2 (by have := HKB.out; omega)).2
  have L3 := hid (hac1 3 (by have := HKB.out; omega)).2
  have I4 := hid (hac1 4 (by have := HKB.out; omega)).1
  have I5 := hid (hac1 5 (by have := HKB.out; omega)).1
  have HAC := hid hac1
  have HAA := hid hA1
  clear hac1 hac hA1
  have q3 : ∀ e : Later V5, e.x.cell? ⟨b1, o1 + 3, none⟩ = some (.slice (ac1 0).1 ((t.ch 1).ch 0).k (ac1 0).2) := fun e => by
    have := (At5.mod I0.out e.h hb1 (by simp)).2.2.2.1
    first | exact this | (rwa [show o1 + 0 * 5 = o1 by omega] at this)
  rw [he]
  clear he
  have HZL : Hid (∀ e : Later V5, Blk e.x n4 57 #[.bool false, .bool false, .int .i64 0, .int .i64 0, .string ⟨#[]⟩, .int .u64 0, .int .u64 0, .int .u64 0, .int .u64 0, .bool false, .int .u64 0, .int .u64 0]) := hid (fun e => HB4.out.later e)
  go_upto_region 10 with fail
  have tk1 : True := trivial
  go_wp2_with (first | (clear tk1; refine wpList_row (by rfl) 57 _ rfl _ rfl (HZL.out _) Try.underlying57 rfl (by kernel_rfl) ?_) | (refine wpList_store_mid rfl 57 _ _ rfl w.heap.size 0 #[.bool false, .bool false, .int .i64 0, .int .i64 0, .string ⟨#[]⟩, .int .u64 0, .int .u64 0, .int .u64 0, .int .u64 0, .bool false, .int .u64 0, .int .u64 0] (by rfl) (by rfl) ((HB0.out.later e).there (Nat.le_refl 12)) (by kernel_rfl) (by simp [Value.oneCell']) ?_))
  generalize hZZ : World.setCells _ _ _ _ = ZZ
  have HZB : Hid (Blk ZZ w.heap.size 57 #[.bool false, .bool false, .int .i64 0, .int .i64 0, .string ⟨#[]⟩, .int .u64 0, .int .u64 0, .int .u64 0, .int .u64 0, .bool false, .int .u64 0, .int .u64 0]) := hid (by rw [← hZZ]; exact setCells_all (ds := #[.bool false, .bool false, .int .i64 0, .int .i64 0, .string ⟨#[]⟩, .int .u64 0, .int .u64 0, .int .u64 0, .int .u64 0, .bool false, .int .u64 0, .int .u64 0]) (HB0.out.later e) rfl)
  have HZM : Hid (Ext w ZZ) := hid (by rw [← hZZ]; exact setCells_mod _ _ (HE.out.trans e.h) (.inr (by omega)))
  clear hZZ
  refine bodyPost_ret (results_cell2 rfl _ (by rfl) rfl HZB.out Try.underlying57 rfl (by kernel_rfl)) rfl (Ret.mk rfl HZM.out)
set_option maxRecDepth 20000 in
set_option maxHeartbeats 1600000 in
theorem q25_d6 (t : T) (hr : t.right 8 = true) (hok : t.ok) (hs : t.size ≤ 100000) (hl : t.bytes.length ≤ 1073741824) (h : t.k = 2) (hk : (t.ch 1).k = 6) (h0 : ((t.ch 1).ch 0).k = 2) (h3 : ((t.ch 1).ch 3).k ≠ 2) (w : World) : Calls Try.prog 29 #[str t.bytes] w (Ret ((.tuple #[repV zeroR, .bool false])) w) := by
  have HK2 := hid h
  have HKB := hid hk
  have t1a : (((((t.ch 1).ch 0).k : Int)) == (2)) = true := by rw [beq_iff_eq]; omega
  have t1b : (((((t.ch 1).ch 0).k : Int)) = (2)) = True := eq_true (by omega)
  have t1c : (((((t.ch 1).ch 0).k : Int)) != (2)) = false := by rw [bne_eq_false_iff_eq]; omega
  have t3a : ((((t.ch 1).ch 0).k) == (2)) = true := by rw [beq_iff_eq]; exact h0
  have t3b : ((((t.ch 1).ch 0).k) = (2)) = True := eq_true (by exact h0)
  have t3c : ((((t.ch 1).ch 0).k) != (2)) = false := by rw [bne_eq_false_iff_eq]; exact h0
  have t5a : (((((t.ch 1).ch 3).k : Int)) == (2)) = false := by rw [beq_eq_false_iff_ne]; omega
  have t5b : (((((t.ch 1).ch 3).k : Int)) = (2)) = False := eq_false (by omega)
  have t5c : (((((t.ch 1).ch 3).k : Int)) != (2)) = true := by rw [bne_iff_ne]; omega
  have t7a : ((((t.ch 1).ch 3).k) == (2)) = false := by rw [beq_eq_false_iff_ne]; exact h3
  have t7b : ((((t.ch 1).ch 3).k) = (2)) = False := eq_false (by exact h3)
  have t7c : ((((t.ch 1).ch 3).k) != (2)) = true := by rw [bne_iff_ne]; exact h3
  clear h hk h0 h3
  have KF := hid (fun W => fault_any t.bytes hl 8 (by omega) 0 (by omega) W)
  have hf : flt 8 t.bytes = (t.bytes.length, 0) := by have := flt_bytes t 8 hr hok []; rwa [List.append_nil] at this
  have KI := hid (fun W => r13_any t hr hok hl W)
  rw [List.drop_zero, hf] at KF
  have HLL := hid hl
  generalize t.bytes = l at *
  have HR := hid hr
  have HOK := hid hok
  have HS := hid hs
  clear hf hr hok hs hl
  have HE := hid ((Mod.refl [] w).alloc (.cells #[.bool false, .bool false, .int .i64 0, .int .i64 0, .string ⟨#[]⟩, .int .u64 0, .int .u64 0, .int .u64 0, .int .u64 0, .bool false, .int .u64 0, .int .u64 0] 57))
  have HB0 : Hid (Blk (w.alloc (.cells #[.bool false, .bool false, .int .i64 0, .int .i64 0, .string ⟨#[]⟩, .int .u64 0, .int .u64 0, .int .u64 0, .int .u64 0, .bool false, .int .u64 0, .int .u64 0] 57)) w.heap.size 57 #[.bool false, .bool false, .int .i64 0, .int .i64 0, .string ⟨#[]⟩, .int .u64 0, .int .u64 0, .int .u64 0, .int .u64 0, .bool false, .int .u64 0, .int .u64 0]) := hid (Blk.new w 57 #[.bool false, .bool false, .int .i64 0, .int .i64 0, .string ⟨#[]⟩, .int .u64 0, .int .u64 0, .int .u64 0, .int .u64 0, .bool false, .int .u64 0, .int .u64 0])
  go_enter Try.func29, Try.ntmps29
  go_upto_region 1 with fail
  generalize (w.alloc (.cells #[.bool false, .bool false, .int .i64 0, .int .i64 0, .string ⟨#[]⟩, .int .u64 0, .int .u64 0, .int .u64 0, .int .u64 0, .bool false, .int .u64 0, .int .u64 0] 57)) = V at *
  go_upto_region 2 with (refine wpList_store_mid rfl 57 _ _ rfl V.heap.size 0 #[.bool false, .bool false, .int .i64 0, .int .i64 0, .string ⟨#[]⟩, .int .u64 0, .int .u64 0, .int .u64 0, .int .u64 0, .bool false, .int .u64 0, .int .u64 0] (by rfl) (by rfl) ((Blk.new _ _ _).there (Nat.le_refl 12)) (by kernel_rfl) (by simp [Value.oneCell']) ?_)
  generalize hV1 : World.setCells _ _ _ _ = V1
  have HB4 : Hid (Blk V1 V.heap.size 57 #[.bool false, .bool false, .int .i64 0, .int .i64 0, .string ⟨#[]⟩, .int .u64 0, .int .u64 0, .int .u64 0, .int .u64 0, .bool false, .int .u64 0, .int .u64 0]) := hid (by rw [← hV1]; exact setCells_all (ds := #[.bool false, .bool false, .int .i64 0, .int .i64 0, .string ⟨#[]⟩, .int .u64 0, .int .u64 0, .int .u64 0, .int .u64 0, .bool false, .int .u64 0, .int .u64 0]) (Blk.new _ _ _) rfl)
  have HX1 : Hid (Ext V V1) := hid (by rw [← hV1]; exact setCells_mod _ _ ((Mod.refl [] V).alloc _) (.inr (Nat.le_refl _)))
  have HB0 := hid (HB0.out.ext HX1.out)
  have HE := hid (HE.out.trans HX1.out)
  clear hV1 HX1
  generalize V.heap.size = n4 at *
  obtain ⟨e, he⟩ := Later.self V1
  rw [he]
  clear he
  go_upto_region 3 with (go_at_call 59; refine (Ret.later (KF.out _)).mono ?_; rintro x _ ⟨rfl, e, rfl⟩; simp only [faultV, Nat.zero_add])
  go_upto_region 6 with (go_at_call 60; refine (KI.out _).mono ?_; rintro x w5 ⟨A, c, rfl, hb, hl⟩; have HX := hid hb; have HL := hid (IsL.weak (R := fun b => b < w5.heap.size) (fun b hb _ => hb) _ hl); clear hb hl)
  generalize hV5 : World.alloc w5 _ = V5
  have HX5 : Hid (Ext V1 V5) := hid (by rw [← hV5]; exact (e.h.trans HX.out).alloc _)
  have HB7 : Hid (Blk V5 w5.heap.size 38 (itemC t A c)) := hid (by rw [← hV5]; exact Blk.new _ _ _)
  have HL5 : Hid (IsL V5 (fun b => b < w5.heap.size) t A) := hid (by rw [← hV5]; exact HL.out.ext ((Mod.refl [] _).alloc _))
  have HB0 := hid (HB0.out.ext HX5.out)
  have HB4 := hid (HB4.out.ext HX5.out)
  have HE := hid (HE.out.trans HX5.out)
  clear hV5 HX HX5 HL KI KF e
  generalize w5.heap.size = n7 at *
  obtain ⟨e, he⟩ := Later.self V5
  obtain ⟨b, o, ac, rfl, hb, hbQ, hac⟩ := kids (by have := HK2.out; omega) HL5.out
  have HA1 := hid (hac 1 (by have := HK2.out; omega))
  have y3 : ∀ e : Later V5, e.x.cell? ⟨n7, 3, none⟩ = some (.slice (some ⟨b, o, none⟩) 2 c) := HK2.out ▸ HB7.out.cellL 3 rfl
  have z3 : ∀ e : Later V5, e.x.cell? ⟨b, o + 5 + 3, none⟩ = some (.slice (ac 1).1 6 (ac 1).2) := fun e => by
    have := (At5.mod HA1.out.1 e.h hb (by simp)).2.2.2.1
    rwa [show o + 1 * 5 = o + 5 by omega, HKB.out] at this
  obtain ⟨b1, o1, ac1, hA1, hb1, hbQ1, hac1⟩ := kids (by have := HKB.out; omega) HA1.out.2
  rw [hA1] at z3
  have I0 := hid (hac1 0 (by have := HKB.out; omega)).1
  have I1 := hid (hac1 1 (by have := HKB.out; omega)).1
  have I2 := hid (hac1 2 (by have := HKB.out; omega)).1
  have I3 := hid (hac1 3 (by have := HKB.out; omega)).1
  have L0 := hid (hac1 0 (by have := HKB.out; omega)).2
  have L2 := hid (hac1 2 (by have := HKB.out; omega)).2
  have L3 := hid (hac1 3 (by have := HKB.out; omega)).2
  have I4 := hid (hac1 4 (by have := HKB.out; omega)).1
  have I5 := hid (hac1 5 (by have := HKB.out; omega)).1
  have HAC := hid hac1
  have HAA := hid hA1
  clear hac1 hac hA1
  have q3 : ∀ e : Later V5, e.x.cell? ⟨b1, o1 + 3, none⟩ = some (.slice (ac1 0).1 ((t.ch 1).ch 0).k (ac1 0).2) := fun e => by
    have := (At5.mod I0.out e.h hb1 (by simp)).2.2.2.1
    first | exact this | (rwa [show o1 + 0 * 5 = o1 by omega] at this)
  have r3 : ∀ e : Later V5, e.x.cell? ⟨b1, o1 + 15 + 3, none⟩ = some (.slice (ac1 3).1 ((t.ch 1).ch 3).k (ac1 3).2) := fun e => by
    have := (At5.mod I3.out e.h hb1 (by simp)).2.2.2.1
    first | exact this | (rwa [show o1 + 3 * 5 = o1 + 15 by omega] at this)
  rw [he]
  clear he
  have HZL : Hid (∀ e : Later V5, Blk e.x n4 57 #[.bool false, .bool false, .int .i64 0, .int .i64 0, .string ⟨#[]⟩, .int .u64 0, .int .u64 0, .int .u64 0, .int .u64 0, .bool false, .int .u64 0, .int .u64 0]) := hid (fun e => HB4.out.later e)
  go_upto_region 10 with fail
  have tk1 : True := trivial
  go_wp2_with (first | (clear tk1; refine wpList_row (by rfl) 57 _ rfl _ rfl (HZL.out _) Try.underlying57 rfl (by kernel_rfl) ?_) | (refine wpList_store_mid rfl 57 _ _ rfl w.heap.size 0 #[.bool false, .bool false, .int .i64 0, .int .i64 0, .string ⟨#[]⟩, .int .u64 0, .int .u64 0, .int .u64 0, .int .u64 0, .bool false, .int .u64 0, .int .u64 0] (by rfl) (by rfl) ((HB0.out.later e).there (Nat.le_refl 12)) (by kernel_rfl) (by simp [Value.oneCell']) ?_))
  generalize hZZ : World.setCells _ _ _ _ = ZZ
  have HZB : Hid (Blk ZZ w.heap.size 57 #[.bool false, .bool false, .int .i64 0, .int .i64 0, .string ⟨#[]⟩, .int .u64 0, .int .u64 0, .int .u64 0, .int .u64 0, .bool false, .int .u64 0, .int .u64 0]) := hid (by rw [← hZZ]; exact setCells_all (ds := #[.bool false, .bool false, .int .i64 0, .int .i64 0, .string ⟨#[]⟩, .int .u64 0, .int .u64 0, .int .u64 0, .int .u64 0, .bool false, .int .u64 0, .int .u64 0]) (HB0.out.later e) rfl)
  have HZM : Hid (Ext w ZZ) := hid (by rw [← hZZ]; exact setCells_mod _ _ (HE.out.trans e.h) (.inr (by omega)))
  clear hZZ
  refine bodyPost_ret (results_cell2 rfl _ (by rfl) rfl HZB.out Try.underlying57 rfl (by kernel_rfl)) rfl (Ret.mk rfl HZM.out)
set_option maxRecDepth 20000 in
set_option maxHeartbeats 1600000 in
theorem q25_e6 (t : T) (hr : t.right 8 = true) (hok : t.ok) (hs : t.size ≤ 100000) (hl : t.bytes.length ≤ 1073741824) (h : t.k = 2) (hk : (t.ch 1).k = 6) (h0 : ((t.ch 1).ch 0).k = 2) (h3 : ((t.ch 1).ch 3).k = 2) (h2 : ofB ((t.ch 1).ch 2) = false) (w : World) : Calls Try.prog 29 #[str t.bytes] w (Ret ((.tuple #[repV zeroR, .bool false])) w) := by
  have HK2 := hid h
  have HKB := hid hk
  have t1a : (((((t.ch 1).ch 0).k : Int)) == (2)) = true := by rw [beq_iff_eq]; omega
  have t1b : (((((t.ch 1).ch 0).k : Int)) = (2)) = True := eq_true (by omega)
  have t1c : (((((t.ch 1).ch 0).k : Int)) != (2)) = false := by rw [bne_eq_false_iff_eq]; omega
  have t3a : ((((t.ch 1).ch 0).k) == (2)) = true := by rw [beq_iff_eq]; exact h0
  have t3b : ((((t.ch 1).ch 0).k) = (2)) = True := eq_true (by exact h0)
  have t3c : ((((t.ch 1).ch 0).k) != (2)) = false := by rw [bne_eq_false_iff_eq]; exact h0
  have t5a : (((((t.ch 1).ch 3).k : Int)) == (2)) = true := by rw [beq_iff_eq]; omega
  have t5b : (((((t.ch 1).ch 3).k : Int)) = (2)) = True := eq_true (by omega)
  have t5c : (((((t.ch 1).ch 3).k : Int)) != (2)) = false := by rw [bne_eq_false_iff_eq]; omega
  have t7a : ((((t.ch 1).ch 3).k) == (2)) = true := by rw [beq_iff_eq]; exact h3
  have t7b : ((((t.ch 1).ch 3).k) = (2)) = True := eq_true (by exact h3)
  have t7c : ((((t.ch 1).ch 3).k) != (2)) = false := by rw [bne_eq_false_iff_eq]; exact h3
  have hs2 : ((t.ch 1).ch 2).size ≤ 100000 := Nat.le_trans (Nat.le_trans (ch_size (by omega)) (ch_size (by omega))) hs
  have ho2 : ((t.ch 1).ch 2).ok := ch_ok (ch_ok hok (by omega)) (by omega)
  have KO : Hid (∀ A c W, IsL W (fun _ => True) ((t.ch 1).ch 2) A → Calls Try.prog 61 #[itemV ((t.ch 1).ch 2) A c] W (Ret (.tuple #[EV.v zeroE, .int .i64 2]) W)) := fun A c W h => by
    have := of_any ((t.ch 1).ch 2) ho2 hs2 A c W h
    unfold OfPost at this
    rw [h2] at this
    exact this
  clear hs2 ho2
  clear h hk h0 h3 h2
  have KF := hid (fun W => fault_any t.bytes hl 8 (by omega) 0 (by omega) W)
  have hf : flt 8 t.bytes = (t.bytes.length, 0) := by have := flt_bytes t 8 hr hok []; rwa [List.append_nil] at this
  have KI := hid (fun W => r13_any t hr hok hl W)
  rw [List.drop_zero, hf] at KF
  have HLL := hid hl
  generalize t.bytes = l at *
  have HR := hid hr
  have HOK := hid hok
  have HS := hid hs
  clear hf hr hok hs hl
  have HE := hid ((Mod.refl [] w).alloc (.cells #[.bool false, .bool false, .int .i64 0, .int .i64 0, .string ⟨#[]⟩, .int .u64 0, .int .u64 0, .int .u64 0, .int .u64 0, .bool false, .int .u64 0, .int .u64 0] 57))
  have HB0 : Hid (Blk (w.alloc (.cells #[.bool false, .bool false, .int .i64 0, .int .i64 0, .string ⟨#[]⟩, .int .u64 0, .int .u64 0, .int .u64 0, .int .u64 0, .bool false, .int .u64 0, .int .u64 0] 57)) w.heap.size 57 #[.bool false, .bool false, .int .i64 0, .int .i64 0, .string ⟨#[]⟩, .int .u64 0, .int .u64 0, .int .u64 0, .int .u64 0, .bool false, .int .u64 0, .int .u64 0]) := hid (Blk.new w 57 #[.bool false, .bool false, .int .i64 0, .int .i64 0, .string ⟨#[]⟩, .int .u64 0, .int .u64 0, .int .u64 0, .int .u64 0, .bool false, .int .u64 0, .int .u64 0])
  go_enter Try.func29, Try.ntmps29
  go_upto_region 1 with fail
  generalize (w.alloc (.cells #[.bool false, .bool false, .int .i64 0, .int .i64 0, .string ⟨#[]⟩, .int .u64 0, .int .u64 0, .int .u64 0, .int .u64 0, .bool false, .int .u64 0, .int .u64 0] 57)) = V at *
  go_upto_region 2 with (refine wpList_store_mid rfl 57 _ _ rfl V.heap.size 0 #[.bool false, .bool false, .int .i64 0, .int .i64 0, .string ⟨#[]⟩, .int .u64 0, .int .u64 0, .int .u64 0, .int .u64 0, .bool false, .int .u64 0, .int .u64 0] (by rfl) (by rfl) ((Blk.new _ _ _).there (Nat.le_refl 12)) (by kernel_rfl) (by simp [Value.oneCell']) ?_)
  generalize hV1 : World.setCells _ _ _ _ = V1
  have HB4 : Hid (Blk V1 V.heap.size 57 #[.bool false, .bool false, .int .i64 0, .int .i64 0, .string ⟨#[]⟩, .int .u64 0, .int .u64 0, .int .u64 0, .int .u64 0, .bool false, .int .u64 0, .int .u64 0]) := hid (by rw [← hV1]; exact setCells_all (ds := #[.bool false, .bool false, .int .i64 0, .int .i64 0, .string ⟨#[]⟩, .int .u64 0, .int .u64 0, .int .u64 0, .int .u64 0, .bool false, .int .u64 0, .int .u64 0]) (Blk.new _ _ _) rfl)
  have HX1 : Hid (Ext V V1) := hid (by rw [← hV1]; exact setCells_mod _ _ ((Mod.refl [] V).alloc _) (.inr (Nat.le_refl _)))
  have HB0 := hid (HB0.out.ext HX1.out)
  have HE := hid (HE.out.trans HX1.out)
  clear hV1 HX1
  generalize V.heap.size = n4 at *
  obtain ⟨e, he⟩ := Later.self V1
  rw [he]
  clear he
  go_upto_region 3 with (go_at_call 59; refine (Ret.later (KF.out _)).mono ?_; rintro x _ ⟨rfl, e, rfl⟩; simp only [faultV, Nat.zero_add])
  go_upto_region 6 with (go_at_call 60; refine (KI.out _).mono ?_; rintro x w5 ⟨A, c, rfl, hb, hl⟩; have HX := hid hb; have HL := hid (IsL.weak (R := fun b => b < w5.heap.size) (fun b hb _ => hb) _ hl); clear hb hl)
  generalize hV5 : World.alloc w5 _ = V5
  have HX5 : Hid (Ext V1 V5) := hid (by rw [← hV5]; exact (e.h.trans HX.out).alloc _)
  have HB7 : Hid (Blk V5 w5.heap.size 38 (itemC t A c)) := hid (by rw [← hV5]; exact Blk.new _ _ _)
  have HL5 : Hid (IsL V5 (fun b => b < w5.heap.size) t A) := hid (by rw [← hV5]; exact HL.out.ext ((Mod.refl [] _).alloc _))
  have HB0 := hid (HB0.out.ext HX5.out)
  have HB4 := hid (HB4.out.ext HX5.out)
  have HE := hid (HE.out.trans HX5.out)
  clear hV5 HX HX5 HL KI KF e
  generalize w5.heap.size = n7 at *
  obtain ⟨e, he⟩ := Later.self V5
  obtain ⟨b, o, ac, rfl, hb, hbQ, hac⟩ := kids (by have := HK2.out; omega) HL5.out
  have HA1 := hid (hac 1 (by have := HK2.out; omega))
  have y3 : ∀ e : Later V5, e.x.cell? ⟨n7, 3, none⟩ = some (.slice (some ⟨b, o, none⟩) 2 c) := HK2.out ▸ HB7.out.cellL 3 rfl
  have z3 : ∀ e : Later V5, e.x.cell? ⟨b, o + 5 + 3, none⟩ = some (.slice (ac 1).1 6 (ac 1).2) := fun e => by
    have := (At5.mod HA1.out.1 e.h hb (by simp)).2.2.2.1
    rwa [show o + 1 * 5 = o + 5 by omega, HKB.out] at this
  obtain ⟨b1, o1, ac1, hA1, hb1, hbQ1, hac1⟩ := kids (by have := HKB.out; omega) HA1.out.2
  rw [hA1] at z3
  have I0 := hid (hac1 0 (by have := HKB.out; omega)).1
  have I1 := hid (hac1 1 (by have := HKB.out; omega)).1
  have I2 := hid (hac1 2 (by have := HKB.out; omega)).1
  have I3 := hid (hac1 3 (by have := HKB.out; omega)).1
  have L0 := hid (hac1 0 (by have := HKB.out; omega)).2
  have L2 := hid (hac1 2 (by have := HKB.out; omega)).2
  have L3 := hid (hac1 3 (by have := HKB.out; omega)).2
  have I4 := hid (hac1 4 (by have := HKB.out; omega)).1
  have I5 := hid (hac1 5 (by have := HKB.out; omega)).1
  have HAC := hid hac1
  have HAA := hid hA1
  clear hac1 hac hA1
  have q3 : ∀ e : Later V5, e.x.cell? ⟨b1, o1 + 3, none⟩ = some (.slice (ac1 0).1 ((t.ch 1).ch 0).k (ac1 0).2) := fun e => by
    have := (At5.mod I0.out e.h hb1 (by simp)).2.2.2.1
    first | exact this | (rwa [show o1 + 0 * 5 = o1 by omega] at this)
  have r3 : ∀ e : Later V5, e.x.cell? ⟨b1, o1 + 15 + 3, none⟩ = some (.slice (ac1 3).1 ((t.ch 1).ch 3).k (ac1 3).2) := fun e => by
    have := (At5.mod I3.out e.h hb1 (by simp)).2.2.2.1
    first | exact this | (rwa [show o1 + 3 * 5 = o1 + 15 by omega] at this)
  have KX : Hid (∀ W, IsL W (fun b => b < n7) ((t.ch 1).ch 2) (ac1 2).1 → Calls Try.prog 61 #[itemV ((t.ch 1).ch 2) (ac1 2).1 (ac1 2).2] W _) := hid (fun W hW => KO.out (ac1 2).1 (ac1 2).2 W (IsL.weak (fun _ _ _ => trivial) _ hW))
  rw [he]
  clear he
  go_upto_region 11 with fail
  clear q3 r3 t1a t1b t1c t3a t3b t3c t5a t5b t5c t7a t7b t7c
  have s0 : ∀ e : Later V5, e.x.cell? ⟨b1, o1 + 10, none⟩ = some (.int .i64 ((t.ch 1).ch 2).kind) := fun e => by
    have := (At5.mod I2.out e.h hb1 (by simp)).1
    first | exact this | (rwa [show o1 + 2 * 5 = o1 + 10 by omega] at this)
  have s1 : ∀ e : Later V5, e.x.cell? ⟨b1, o1 + 10 + 1, none⟩ = some (.int .u64 (((t.ch 1).ch 2).n : Int)) := fun e => by
    have := (At5.mod I2.out e.h hb1 (by simp)).2.1
    first | exact this | (rwa [show o1 + 2 * 5 = o1 + 10 by omega] at this)
  have s2 : ∀ e : Later V5, e.x.cell? ⟨b1, o1 + 10 + 2, none⟩ = some (str ((t.ch 1).ch 2).s) := fun e => by
    have := (At5.mod I2.out e.h hb1 (by simp)).2.2.1
    first | exact this | (rwa [show o1 + 2 * 5 = o1 + 10 by omega] at this)
  have s3 : ∀ e : Later V5, e.x.cell? ⟨b1, o1 + 10 + 3, none⟩ = some (.slice (ac1 2).1 ((t.ch 1).ch 2).k (ac1 2).2) := fun e => by
    have := (At5.mod I2.out e.h hb1 (by simp)).2.2.2.1
    first | exact this | (rwa [show o1 + 2 * 5 = o1 + 10 by omega] at this)
  have s4 : ∀ e : Later V5, e.x.cell? ⟨b1, o1 + 10 + 4, none⟩ = some (.bool ((t.ch 1).ch 2).op) := fun e => by
    have := (At5.mod I2.out e.h hb1 (by simp)).2.2.2.2
    first | exact this | (rwa [show o1 + 2 * 5 = o1 + 10 by omega] at this)
  go_upto_region 12 with (go_at_call 61; refine (KX.out _ (L2.out.ext e.h)).mono ?_; rintro x w6 ⟨rfl, hb6⟩; have HX := hid (e.h.trans hb6); clear hb6)
  generalize hV6 : World.alloc w6 _ = V6
  have HX6 : Hid (Ext V5 V6) := hid (by rw [← hV6]; exact HX.out.alloc _)
  have HB0 := hid (HB0.out.ext HX6.out)
  have HB4 := hid (HB4.out.ext HX6.out)
  have HE := hid (HE.out.trans HX6.out)
  clear hV6 HX HX6 s0 s1 s2 s3 s4 e
  obtain ⟨e, he⟩ := Later.self V6
  rw [he]
  clear he
  have HZL : Hid (∀ e : Later V6, Blk e.x n4 57 #[.bool false, .bool false, .int .i64 0, .int .i64 0, .string ⟨#[]⟩, .int .u64 0, .int .u64 0, .int .u64 0, .int .u64 0, .bool false, .int .u64 0, .int .u64 0]) := hid (fun e => HB4.out.later e)
  go_upto_region 13 with fail
  have tk1 : True := trivial
  go_wp2_with (first | (clear tk1; refine wpList_row (by rfl) 57 _ rfl _ rfl (HZL.out _) Try.underlying57 rfl (by kernel_rfl) ?_) | (refine wpList_store_mid rfl 57 _ _ rfl w.heap.size 0 #[.bool false, .bool false, .int .i64 0, .int .i64 0, .string ⟨#[]⟩, .int .u64 0, .int .u64 0, .int .u64 0, .int .u64 0, .bool false, .int .u64 0, .int .u64 0] (by rfl) (by rfl) ((HB0.out.later e).there (Nat.le_refl 12)) (by kernel_rfl) (by simp [Value.oneCell']) ?_))
  generalize hZZ : World.setCells _ _ _ _ = ZZ
  have HZB : Hid (Blk ZZ w.heap.size 57 #[.bool false, .bool false, .int .i64 0, .int .i64 0, .string ⟨#[]⟩, .int .u64 0, .int .u64 0, .int .u64 0, .int .u64 0, .bool false, .int .u64 0, .int .u64 0]) := hid (by rw [← hZZ]; exact setCells_all (ds := #[.bool false, .bool false, .int .i64 0, .int .i64 0, .string ⟨#[]⟩, .int .u64 0, .int .u64 0, .int .u64 0, .int .u64 0, .bool false, .int .u64 0, .int .u64 0]) (HB0.out.later e) rfl)
  have HZM : Hid (Ext w ZZ) := hid (by rw [← hZZ]; exact setCells_mod _ _ (HE.out.trans e.h) (.inr (by omega)))
  clear hZZ
  refine bodyPost_ret (results_cell2 rfl _ (by rfl) rfl HZB.out Try.underlying57 rfl (by kernel_rfl)) rfl (Ret.mk rfl HZM.out)
end Go.Proofs.Ytogjghmoankleaa


namespace Go.Proofs.Ytogjghmoankleaa
open Go.RowKit
set_option linter.unusedVariables false
set_option linter.unusedSimpArgs false

def repRV (t : T) : Value := .tuple #[repV (if repB t then readRep t else zeroR), .bool (repB t)]
theorem repRV_no {t : T} (h : repB t = false) : repRV t = .tuple #[repV zeroR, .bool false] := by unfold repRV; rw [h]; rfl
theorem repRV_yes {t : T} (h : repB t = true) : repRV t = .tuple #[repV (readRep t), .bool true] := by unfold repRV; rw [h]; rfl
set_option maxRecDepth 20000 in
set_option maxHeartbeats 6400000 in
theorem q25_g4 (t : T) (hr : t.right 8 = true) (hok : t.ok) (hs : t.size ≤ 100000) (hl : t.bytes.length ≤ 1073741824) (h : t.k = 2) (hk : (t.ch 1).k = 4) (h0 : ((t.ch 1).ch 0).k = 2) (h3 : ((t.ch 1).ch 3).k = 2) (h2 : ofB ((t.ch 1).ch 2) = true) (w : World) : Calls Try.prog 29 #[str t.bytes] w (Ret (repRV t) w) := by
  have HRE := hid (refRep_eq hr ⟨h, .inl hk, h0, h3, h2⟩)
  have HRB : Hid (repB t = ((readRep t).right && decide ((readRep t).bytes = t.bytes))) := hid rfl
  have HK2 := hid h
  have HKB := hid hk
  have HK0 := hid h0
  have HK3 := hid h3
  have t1a : (((((t.ch 1).ch 0).k : Int)) == (2)) = true := by rw [beq_iff_eq]; omega
  have t1b : (((((t.ch 1).ch 0).k : Int)) = (2)) = True := eq_true (by omega)
  have t1c : (((((t.ch 1).ch 0).k : Int)) != (2)) = false := by rw [bne_eq_false_iff_eq]; omega
  have t3a : ((((t.ch 1).ch 0).k) == (2)) = true := by rw [beq_iff_eq]; exact h0
  have t3b : ((((t.ch 1).ch 0).k) = (2)) = True := eq_true (by exact h0)
  have t3c : ((((t.ch 1).ch 0).k) != (2)) = false := by rw [bne_eq_false_iff_eq]; exact h0
  have t5a : (((((t.ch 1).ch 3).k : Int)) == (2)) = true := by rw [beq_iff_eq]; omega
  have t5b : (((((t.ch 1).ch 3).k : Int)) = (2)) = True := eq_true (by omega)
  have t5c : (((((t.ch 1).ch 3).k : Int)) != (2)) = false := by rw [bne_eq_false_iff_eq]; omega
  have t7a : ((((t.ch 1).ch 3).k) == (2)) = true := by rw [beq_iff_eq]; exact h3
  have t7b : ((((t.ch 1).ch 3).k) = (2)) = True := eq_true (by exact h3)
  have t7c : ((((t.ch 1).ch 3).k) != (2)) = false := by rw [bne_eq_false_iff_eq]; exact h3
  have hs2 : ((t.ch 1).ch 2).size ≤ 100000 := Nat.le_trans (Nat.le_trans (ch_size (by omega)) (ch_size (by omega))) hs
  have ho2 : ((t.ch 1).ch 2).ok := ch_ok (ch_ok hok (by omega)) (by omega)
  have KO : Hid (∀ A c W, IsL W (fun _ => True) ((t.ch 1).ch 2) A → Calls Try.prog 61 #[itemV ((t.ch 1).ch 2) A c] W (Ret (.tuple #[EV.v (readE ((t.ch 1).ch 2)), .int .i64 0]) W)) := fun A c W h => by
    have := of_any ((t.ch 1).ch 2) ho2 hs2 A c W h
    unfold OfPost at this
    rw [h2] at this
    exact this
  clear hs2 ho2
  clear h hk h0 h3 h2
  have KF := hid (fun W => fault_any t.bytes hl 8 (by omega) 0 (by omega) W)
  have hf : flt 8 t.bytes = (t.bytes.length, 0) := by have := flt_bytes t 8 hr hok []; rwa [List.append_nil] at this
  have KI := hid (fun W => r13_any t hr hok hl W)
  rw [List.drop_zero, hf] at KF
  have HLL := hid hl
  generalize t.bytes = l at *
  have HR := hid hr
  have HOK := hid hok
  have HS := hid hs
  clear hf hr hok hs hl
  have HE := hid ((Mod.refl [] w).alloc (.cells #[.bool false, .bool false, .int .i64 0, .int .i64 0, .string ⟨#[]⟩, .int .u64 0, .int .u64 0, .int .u64 0, .int .u64 0, .bool false, .int .u64 0, .int .u64 0] 57))
  have HB0 : Hid (Blk (w.alloc (.cells #[.bool false, .bool false, .int .i64 0, .int .i64 0, .string ⟨#[]⟩, .int .u64 0, .int .u64 0, .int .u64 0, .int .u64 0, .bool false, .int .u64 0, .int .u64 0] 57)) w.heap.size 57 #[.bool false, .bool false, .int .i64 0, .int .i64 0, .string ⟨#[]⟩, .int .u64 0, .int .u64 0, .int .u64 0, .int .u64 0, .bool false, .int .u64 0, .int .u64 0]) := hid (Blk.new w 57 #[.bool false, .bool false, .int .i64 0, .int .i64 0, .string ⟨#[]⟩, .int .u64 0, .int .u64 0, .int .u64 0, .int .u64 0, .bool false, .int .u64 0, .int .u64 0])
  go_enter Try.func29, Try.ntmps29
  go_upto_region 1 with fail
  generalize (w.alloc (.cells #[.bool false, .bool false, .int .i64 0, .int .i64 0, .string ⟨#[]⟩, .int .u64 0, .int .u64 0, .int .u64 0, .int .u64 0, .bool false, .int .u64 0, .int .u64 0] 57)) = V at *
  go_upto_region 2 with (refine wpList_store_mid rfl 57 _ _ rfl V.heap.size 0 #[.bool false, .bool false, .int .i64 0, .int .i64 0, .string ⟨#[]⟩, .int .u64 0, .int .u64 0, .int .u64 0, .int .u64 0, .bool false, .int .u64 0, .int .u64 0] (by rfl) (by rfl) ((Blk.new _ _ _).there (Nat.le_refl 12)) (by kernel_rfl) (by simp [Value.oneCell']) ?_)
  generalize hV1 : World.setCells _ _ _ _ = V1
  have HB4 : Hid (Blk V1 V.heap.size 57 #[.bool false, .bool false, .int .i64 0, .int .i64 0, .string ⟨#[]⟩, .int .u64 0, .int .u64 0, .int .u64 0, .int .u64 0, .bool false, .int .u64 0, .int .u64 0]) := hid (by rw [← hV1]; exact setCells_all (ds := #[.bool false, .bool false, .int .i64 0, .int .i64 0, .string ⟨#[]⟩, .int .u64 0, .int .u64 0, .int .u64 0, .int .u64 0, .bool false, .int .u64 0, .int .u64 0]) (Blk.new _ _ _) rfl)
  have HX1 : Hid (Ext V V1) := hid (by rw [← hV1]; exact setCells_mod _ _ ((Mod.refl [] V).alloc _) (.inr (Nat.le_refl _)))
  have HB0 := hid (HB0.out.ext HX1.out)
  have HE := hid (HE.out.trans HX1.out)
  clear hV1 HX1
  generalize V.heap.size = n4 at *
  obtain ⟨e, he⟩ := Later.self V1
  rw [he]
  clear he
  go_upto_region 3 with (go_at_call 59; refine (Ret.later (KF.out _)).mono ?_; rintro x _ ⟨rfl, e, rfl⟩; simp only [faultV, Nat.zero_add])
  go_upto_region 6 with (go_at_call 60; refine (KI.out _).mono ?_; rintro x w5 ⟨A, c, rfl, hb, hl⟩; have HX := hid hb; have HL := hid (IsL.weak (R := fun b => b < w5.heap.size) (fun b hb _ => hb) _ hl); clear hb hl)
  generalize hV5 : World.alloc w5 _ = V5
  have HX5 : Hid (Ext V1 V5) := hid (by rw [← hV5]; exact (e.h.trans HX.out).alloc _)
  have HB7 : Hid (Blk V5 w5.heap.size 38 (itemC t A c)) := hid (by rw [← hV5]; exact Blk.new _ _ _)
  have HL5 : Hid (IsL V5 (fun b => b < w5.heap.size) t A) := hid (by rw [← hV5]; exact HL.out.ext ((Mod.refl [] _).alloc _))
  have HSN0 : Hid (w.heap.size < V5.heap.size ∧ n4 < V5.heap.size) := hid ⟨(HB0.out.ext HX5.out).lt, (HB4.out.ext HX5.out).lt⟩
  have HB0 := hid (HB0.out.ext HX5.out)
  have HB4 := hid (HB4.out.ext HX5.out)
  have HE := hid (HE.out.trans HX5.out)
  clear hV5 HX HX5 HL KI KF e
  generalize w5.heap.size = n7 at *
  obtain ⟨e, he⟩ := Later.self V5
  rw [← HRE.out] at HRB
  have HRE := hid HRE.out.symm
  obtain ⟨b, o, ac, rfl, hb, hbQ, hac⟩ := kids (by have := HK2.out; omega) HL5.out
  have HA1 := hid (hac 1 (by have := HK2.out; omega))
  have y3 : ∀ e : Later V5, e.x.cell? ⟨n7, 3, none⟩ = some (.slice (some ⟨b, o, none⟩) 2 c) := HK2.out ▸ HB7.out.cellL 3 rfl
  have z3 : ∀ e : Later V5, e.x.cell? ⟨b, o + 5 + 3, none⟩ = some (.slice (ac 1).1 4 (ac 1).2) := fun e => by
    have := (At5.mod HA1.out.1 e.h hb (by simp)).2.2.2.1
    rwa [show o + 1 * 5 = o + 5 by omega, HKB.out] at this
  obtain ⟨b1, o1, ac1, hA1, hb1, hbQ1, hac1⟩ := kids (by have := HKB.out; omega) HA1.out.2
  rw [hA1] at z3
  have I0 := hid (hac1 0 (by have := HKB.out; omega)).1
  have I1 := hid (hac1 1 (by have := HKB.out; omega)).1
  have I2 := hid (hac1 2 (by have := HKB.out; omega)).1
  have I3 := hid (hac1 3 (by have := HKB.out; omega)).1
  have L0 := hid (hac1 0 (by have := HKB.out; omega)).2
  have L2 := hid (hac1 2 (by have := HKB.out; omega)).2
  have L3 := hid (hac1 3 (by have := HKB.out; omega)).2
  have HAC := hid hac1
  have HAA := hid hA1
  clear hac1 hac hA1
  obtain ⟨b2, o2, ac2, hA2, hb2, hbQ2, hac2⟩ := kids (by have := HK0.out; omega) L0.out
  obtain ⟨b3, o3, ac3, hA3, hb3, hbQ3, hac3⟩ := kids (by have := HK3.out; omega) L3.out
  have HA0 := hid hA2
  have HA3 := hid hA3
  have J0 := hid (hac2 0 (by have := HK0.out; omega)).1
  have J1 := hid (hac2 1 (by have := HK0.out; omega)).1
  have M0 := hid (hac3 0 (by have := HK3.out; omega)).1
  have M1 := hid (hac3 1 (by have := HK3.out; omega)).1
  clear hac2 hac3 hA2 hA3 L0 L3 HAC HAA
  obtain ⟨EN, hEN⟩ : ∃ EN, readE ((t.ch 1).ch 2) = EN := ⟨_, rfl⟩
  rw [hEN] at KO
  have HEN := hid hEN
  clear hEN
  have hbn : b1 < n7 ∧ b2 < n7 ∧ b3 < n7 := ⟨hbQ1, hbQ2, hbQ3⟩
  have q3 : ∀ e : Later V5, e.x.cell? ⟨b1, o1 + 3, none⟩ = some (.slice (ac1 0).1 ((t.ch 1).ch 0).k (ac1 0).2) := fun e => by
    have := (At5.mod I0.out e.h hb1 (by simp)).2.2.2.1
    first | exact this | (rwa [show o1 + 0 * 5 = o1 by omega] at this)
  have r3 : ∀ e : Later V5, e.x.cell? ⟨b1, o1 + 15 + 3, none⟩ = some (.slice (ac1 3).1 ((t.ch 1).ch 3).k (ac1 3).2) := fun e => by
    have := (At5.mod I3.out e.h hb1 (by simp)).2.2.2.1
    first | exact this | (rwa [show o1 + 3 * 5 = o1 + 15 by omega] at this)
  have KX : Hid (∀ W, IsL W (fun b => b < n7) ((t.ch 1).ch 2) (ac1 2).1 → Calls Try.prog 61 #[itemV ((t.ch 1).ch 2) (ac1 2).1 (ac1 2).2] W _) := hid (fun W hW => KO.out (ac1 2).1 (ac1 2).2 W (IsL.weak (fun _ _ _ => trivial) _ hW))
  rw [he]
  clear he
  go_upto_region 11 with fail
  clear q3 r3 t1a t1b t1c t3a t3b t3c t5a t5b t5c t7a t7b t7c
  have s0 : ∀ e : Later V5, e.x.cell? ⟨b1, o1 + 10, none⟩ = some (.int .i64 ((t.ch 1).ch 2).kind) := fun e => by
    have := (At5.mod I2.out e.h hb1 (by simp)).1
    first | exact this | (rwa [show o1 + 2 * 5 = o1 + 10 by omega] at this)
  have s1 : ∀ e : Later V5, e.x.cell? ⟨b1, o1 + 10 + 1, none⟩ = some (.int .u64 (((t.ch 1).ch 2).n : Int)) := fun e => by
    have := (At5.mod I2.out e.h hb1 (by simp)).2.1
    first | exact this | (rwa [show o1 + 2 * 5 = o1 + 10 by omega] at this)
  have s2 : ∀ e : Later V5, e.x.cell? ⟨b1, o1 + 10 + 2, none⟩ = some (str ((t.ch 1).ch 2).s) := fun e => by
    have := (At5.mod I2.out e.h hb1 (by simp)).2.2.1
    first | exact this | (rwa [show o1 + 2 * 5 = o1 + 10 by omega] at this)
  have s3 : ∀ e : Later V5, e.x.cell? ⟨b1, o1 + 10 + 3, none⟩ = some (.slice (ac1 2).1 ((t.ch 1).ch 2).k (ac1 2).2) := fun e => by
    have := (At5.mod I2.out e.h hb1 (by simp)).2.2.2.1
    first | exact this | (rwa [show o1 + 2 * 5 = o1 + 10 by omega] at this)
  have s4 : ∀ e : Later V5, e.x.cell? ⟨b1, o1 + 10 + 4, none⟩ = some (.bool ((t.ch 1).ch 2).op) := fun e => by
    have := (At5.mod I2.out e.h hb1 (by simp)).2.2.2.2
    first | exact this | (rwa [show o1 + 2 * 5 = o1 + 10 by omega] at this)
  go_upto_region 12 with (go_at_call 61; refine (KX.out _ (L2.out.ext e.h)).mono ?_; rintro x w6 ⟨rfl, hb6⟩; have HX := hid (e.h.trans hb6); clear hb6)
  generalize hV6 : World.alloc w6 _ = V6
  have HX6 : Hid (Ext V5 V6) := hid (by rw [← hV6]; exact HX.out.alloc _)
  have BE : Hid (Blk V6 w6.heap.size 26 EN.c) := hid (by rw [← hV6]; exact Blk.new _ _ _)
  have HN6 : Hid (V5.heap.size ≤ w6.heap.size) := hid HX.out.size
  have HB0 := hid (HB0.out.ext HX6.out)
  have HB4 := hid (HB4.out.ext HX6.out)
  have HE := hid (HE.out.trans HX6.out)
  clear hV6 HX s0 s1 s2 s3 s4 e KX KO L2 I2
  generalize w6.heap.size = n9 at *
  obtain ⟨e, he⟩ := Later.self V6
  rw [he]
  clear he
  go_upto_region 15 with fail
  generalize hV14 : World.alloc e.x _ = V14
  have HX14 : Hid (Ext V6 V14) := hid (by rw [← hV14]; exact e.h.alloc _)
  have HBk : Hid (Blk V14 e.x.heap.size 57 #[.bool false, .bool false, .int .i64 0, .int .i64 0, .string ⟨#[]⟩, .int .u64 0, .int .u64 0, .int .u64 0, .int .u64 0, .bool false, .int .u64 0, .int .u64 0]) := hid (by rw [← hV14]; exact Blk.new _ _ _)
  have HN14 : Hid (V6.heap.size ≤ e.x.heap.size) := hid e.h.size
  have BE0 := BE
  have BE := hid (BE.out.ext HX14.out)
  have HB0 := hid (HB0.out.ext HX14.out)
  have HB4 := hid (HB4.out.ext HX14.out)
  have HE := hid (HE.out.trans HX14.out)
  have HNN : Hid (n7 < V5.heap.size ∧ V5.heap.size ≤ n9 ∧ n9 < e.x.heap.size ∧ b1 < n7 ∧ b2 < n7 ∧ b3 < n7) := hid ⟨HB7.out.lt, HN6.out, by have := (BE0.out.lt); have := HN14.out; omega, hbn.1, hbn.2.1, hbn.2.2⟩
  have HSN : Hid (w.heap.size < e.x.heap.size ∧ n4 < e.x.heap.size ∧ w.heap.size < V14.heap.size ∧ w.heap.size ≤ e.x.heap.size) := hid (by have := HSN0.out; have := HNN.out; have := HBk.out.lt; omega)
  clear hV14 hbn HN14 HN6 BE0 HSN0
  generalize e.x.heap.size = N11 at *
  clear e
  have HM : Hid (Mod [N11] V5 V14) := hid ((HX6.out.trans HX14.out).mono (by simp))
  have HM0 : Hid (Mod [N11] V14 V14) := hid (Mod.refl _ _)
  clear HX6 HX14
  have HE14 := HE
  clear HE
  have q : ∀ e : Later V14, e.x.cell? ⟨b1, o1 + 3, none⟩ = some (.slice (some ⟨b2, o2, none⟩) 2 (ac1 0).2) := fun e => by
    have := (At5.mod I0.out (HM.out.trans (e.h.mono (by simp))) hb1 (by have := HNN.out; simp; omega)).2.2.2.1
    rw [HA0.out, HK0.out] at this
    first | exact this | (rwa [show o1 + 0 * 5 = o1 by omega] at this)
  have s0 : ∀ e : Later V14, e.x.cell? ⟨b2, o2, none⟩ = some (.int .i64 (((t.ch 1).ch 0).ch 0).kind) := fun e => by
    have := (At5.mod J0.out (HM.out.trans (e.h.mono (by simp))) hb2 (by have := HNN.out; simp; omega)).1
    first | exact this | (rwa [show o2 + 0 * 5 = o2 by omega] at this)
  have s1 : ∀ e : Later V14, e.x.cell? ⟨b2, o2 + 1, none⟩ = some (.int .u64 ((((t.ch 1).ch 0).ch 0).n : Int)) := fun e => by
    have := (At5.mod J0.out (HM.out.trans (e.h.mono (by simp))) hb2 (by have := HNN.out; simp; omega)).2.1
    first | exact this | (rwa [show o2 + 0 * 5 = o2 by omega] at this)
  have s2 : ∀ e : Later V14, e.x.cell? ⟨b2, o2 + 2, none⟩ = some (str (((t.ch 1).ch 0).ch 0).s) := fun e => by
    have := (At5.mod J0.out (HM.out.trans (e.h.mono (by simp))) hb2 (by have := HNN.out; simp; omega)).2.2.1
    first | exact this | (rwa [show o2 + 0 * 5 = o2 by omega] at this)
  have s3 : ∀ e : Later V14, e.x.cell? ⟨b2, o2 + 3, none⟩ = some (.slice (ac2 0).1 (((t.ch 1).ch 0).ch 0).k (ac2 0).2) := fun e => by
    have := (At5.mod J0.out (HM.out.trans (e.h.mono (by simp))) hb2 (by have := HNN.out; simp; omega)).2.2.2.1
    first | exact this | (rwa [show o2 + 0 * 5 = o2 by omega] at this)
  have s4 : ∀ e : Later V14, e.x.cell? ⟨b2, o2 + 4, none⟩ = some (.bool (((t.ch 1).ch 0).ch 0).op) := fun e => by
    have := (At5.mod J0.out (HM.out.trans (e.h.mono (by simp))) hb2 (by have := HNN.out; simp; omega)).2.2.2.2
    first | exact this | (rwa [show o2 + 0 * 5 = o2 by omega] at this)
  have c0 : ∀ e : Later V14, e.x.cell? ⟨N11, 0, none⟩ = some (.bool false) := HBk.out.cellL 0 rfl
  have f0 : ∀ e : Later V14, e.x.frozen? ⟨N11, 0, none⟩ = false := fun e => (HBk.out.later e).frozen 0
  obtain ⟨e, he⟩ := Later.self V14
  rw [he]
  clear he
  go_upto_region 16 with (go_at_call 62; refine (Ret.later (one_any (((t.ch 1).ch 0).ch 0) (ac2 0).1 (ac2 0).2 _)).mono ?_; rintro x _ ⟨rfl, e, rfl⟩)
  generalize hY : World.setCell _ ⟨N11, 0, none⟩ _ = V15_
  have HBk' : Hid (Blk V15_ N11 57 #[.bool (decide ((((t.ch 1).ch 0).ch 0).kind = 0) && decide ((((t.ch 1).ch 0).ch 0).n = 1)), .bool false, .int .i64 0, .int .i64 0, .string ⟨#[]⟩, .int .u64 0, .int .u64 0, .int .u64 0, .int .u64 0, .bool false, .int .u64 0, .int .u64 0]) := hid (by rw [← hY]; exact ((HBk.out.later e).set_ 0 _))
  have HM' : Hid (Mod [N11] V5 V15_) := hid (by rw [← hY]; exact ((HM.out.trans (e.h.mono (by simp))).setCell (.inl (by simp)) _))
  have HM0' : Hid (Mod [N11] V14 V15_) := hid (by rw [← hY]; exact ((HM0.out.trans (e.h.mono (by simp))).setCell (.inl (by simp)) _))
  clear hY HBk HM HM0 e c0 f0 q s0 s1 s2 s3 s4
  have HBk := HBk'
  have HM := HM'
  have HM0 := HM0'
  clear HBk' HM' HM0'
  generalize hbh : (decide ((((t.ch 1).ch 0).ch 0).kind = 0) && decide ((((t.ch 1).ch 0).ch 0).n = 1)) = bh at *
  have Hbh := hid hbh
  clear hbh
  have q : ∀ e : Later V15_, e.x.cell? ⟨b1, o1 + 3, none⟩ = some (.slice (some ⟨b2, o2, none⟩) 2 (ac1 0).2) := fun e => by
    have := (At5.mod I0.out (HM.out.trans (e.h.mono (by simp))) hb1 (by have := HNN.out; simp; omega)).2.2.2.1
    rw [HA0.out, HK0.out] at this
    first | exact this | (rwa [show o1 + 0 * 5 = o1 by omega] at this)
  have s0 : ∀ e : Later V15_, e.x.cell? ⟨b2, o2 + 5, none⟩ = some (.int .i64 (((t.ch 1).ch 0).ch 1).kind) := fun e => by
    have := (At5.mod J1.out (HM.out.trans (e.h.mono (by simp))) hb2 (by have := HNN.out; simp; omega)).1
    first | exact this | (rwa [show o2 + 1 * 5 = o2 + 5 by omega] at this)
  have s1 : ∀ e : Later V15_, e.x.cell? ⟨b2, o2 + 5 + 1, none⟩ = some (.int .u64 ((((t.ch 1).ch 0).ch 1).n : Int)) := fun e => by
    have := (At5.mod J1.out (HM.out.trans (e.h.mono (by simp))) hb2 (by have := HNN.out; simp; omega)).2.1
    first | exact this | (rwa [show o2 + 1 * 5 = o2 + 5 by omega] at this)
  have s2 : ∀ e : Later V15_, e.x.cell? ⟨b2, o2 + 5 + 2, none⟩ = some (str (((t.ch 1).ch 0).ch 1).s) := fun e => by
    have := (At5.mod J1.out (HM.out.trans (e.h.mono (by simp))) hb2 (by have := HNN.out; simp; omega)).2.2.1
    first | exact this | (rwa [show o2 + 1 * 5 = o2 + 5 by omega] at this)
  have s3 : ∀ e : Later V15_, e.x.cell? ⟨b2, o2 + 5 + 3, none⟩ = some (.slice (ac2 1).1 (((t.ch 1).ch 0).ch 1).k (ac2 1).2) := fun e => by
    have := (At5.mod J1.out (HM.out.trans (e.h.mono (by simp))) hb2 (by have := HNN.out; simp; omega)).2.2.2.1
    first | exact this | (rwa [show o2 + 1 * 5 = o2 + 5 by omega] at this)
  have s4 : ∀ e : Later V15_, e.x.cell? ⟨b2, o2 + 5 + 4, none⟩ = some (.bool (((t.ch 1).ch 0).ch 1).op) := fun e => by
    have := (At5.mod J1.out (HM.out.trans (e.h.mono (by simp))) hb2 (by have := HNN.out; simp; omega)).2.2.2.2
    first | exact this | (rwa [show o2 + 1 * 5 = o2 + 5 by omega] at this)
  have c1 : ∀ e : Later V15_, e.x.cell? ⟨N11, 1, none⟩ = some (.bool false) := HBk.out.cellL 1 rfl
  have f1 : ∀ e : Later V15_, e.x.frozen? ⟨N11, 1, none⟩ = false := fun e => (HBk.out.later e).frozen 1
  obtain ⟨e, he⟩ := Later.self V15_
  rw [he]
  clear he
  go_upto_region 17 with (go_at_call 62; refine (Ret.later (one_any (((t.ch 1).ch 0).ch 1) (ac2 1).1 (ac2 1).2 _)).mono ?_; rintro x _ ⟨rfl, e, rfl⟩)
  generalize hY : World.setCell _ ⟨N11, 1, none⟩ _ = V16_
  have HBk' : Hid (Blk V16_ N11 57 #[.bool bh, .bool (decide ((((t.ch 1).ch 0).ch 1).kind = 0) && decide ((((t.ch 1).ch 0).ch 1).n = 1)), .int .i64 0, .int .i64 0, .string ⟨#[]⟩, .int .u64 0, .int .u64 0, .int .u64 0, .int .u64 0, .bool false, .int .u64 0, .int .u64 0]) := hid (by rw [← hY]; exact ((HBk.out.later e).set_ 1 _))
  have HM' : Hid (Mod [N11] V5 V16_) := hid (by rw [← hY]; exact ((HM.out.trans (e.h.mono (by simp))).setCell (.inl (by simp)) _))
  have HM0' : Hid (Mod [N11] V14 V16_) := hid (by rw [← hY]; exact ((HM0.out.trans (e.h.mono (by simp))).setCell (.inl (by simp)) _))
  clear hY HBk HM HM0 e c1 f1 q s0 s1 s2 s3 s4
  have HBk := HBk'
  have HM := HM'
  have HM0 := HM0'
  clear HBk' HM' HM0'
  generalize hbg : (decide ((((t.ch 1).ch 0).ch 1).kind = 0) && decide ((((t.ch 1).ch 0).ch 1).n = 1)) = bg at *
  have Hbg := hid hbg
  clear hbg
  have s1 : ∀ e : Later V16_, e.x.cell? ⟨b1, o1 + 5 + 1, none⟩ = some (.int .u64 (((t.ch 1).ch 1).n : Int)) := fun e => by
    have := (At5.mod I1.out (HM.out.trans (e.h.mono (by simp))) hb1 (by have := HNN.out; simp; omega)).2.1
    first | exact this | (rwa [show o1 + 1 * 5 = o1 + 5 by omega] at this)
  have c2 : ∀ e : Later V16_, e.x.cell? ⟨N11, 2, none⟩ = some (.int .i64 0) := HBk.out.cellL 2 rfl
  have f2 : ∀ e : Later V16_, e.x.frozen? ⟨N11, 2, none⟩ = false := fun e => (HBk.out.later e).frozen 2
  obtain ⟨e, he⟩ := Later.self V16_
  rw [he]
  clear he
  go_upto_region 18 with fail
  generalize hY : World.setCell _ ⟨N11, 2, none⟩ _ = V17_
  have HBk' : Hid (Blk V17_ N11 57 #[.bool bh, .bool bg, .int .i64 (min (((t.ch 1).ch 1).n : Int) 65536), .int .i64 0, .string ⟨#[]⟩, .int .u64 0, .int .u64 0, .int .u64 0, .int .u64 0, .bool false, .int .u64 0, .int .u64 0]) := hid (by rw [← hY]; exact ((HBk.out.later e).set_ 2 _))
  have HM' : Hid (Mod [N11] V5 V17_) := hid (by rw [← hY]; exact ((HM.out.trans (e.h.mono (by simp))).setCell (.inl (by simp)) _))
  have HM0' : Hid (Mod [N11] V14 V17_) := hid (by rw [← hY]; exact ((HM0.out.trans (e.h.mono (by simp))).setCell (.inl (by simp)) _))
  clear hY HBk HM HM0 e c2 f2 s1
  have HBk := HBk'
  have HM := HM'
  have HM0 := HM0'
  clear HBk' HM' HM0'
  generalize hbr : min (((t.ch 1).ch 1).n : Int) 65536 = br at *
  have Hbr := hid hbr
  clear hbr
  have s0 : ∀ e : Later V17_, e.x.cell? ⟨n9, 0, none⟩ = some (.int .i64 EN.sch) := fun e => ((BE.out.mod HM0.out (by have := HNN.out; simp; omega)).later e).cell 0
  have s1 : ∀ e : Later V17_, e.x.cell? ⟨n9, 1, none⟩ = some (str EN.name) := fun e => ((BE.out.mod HM0.out (by have := HNN.out; simp; omega)).later e).cell 1
  have s2 : ∀ e : Later V17_, e.x.cell? ⟨n9, 2, none⟩ = some (.int .u64 (EN.node : Int)) := fun e => ((BE.out.mod HM0.out (by have := HNN.out; simp; omega)).later e).cell 2
  have s3 : ∀ e : Later V17_, e.x.cell? ⟨n9, 3, none⟩ = some (.int .u64 (EN.svc : Int)) := fun e => ((BE.out.mod HM0.out (by have := HNN.out; simp; omega)).later e).cell 3
  have c3 : ∀ e : Later V17_, e.x.cell? ⟨N11, 3, none⟩ = some (.int .i64 0) := HBk.out.cellL 3 rfl
  have f3 : ∀ e : Later V17_, e.x.frozen? ⟨N11, 3, none⟩ = false := fun e => (HBk.out.later e).frozen 3
  have c4 : ∀ e : Later V17_, e.x.cell? ⟨N11, 4, none⟩ = some (.string ⟨#[]⟩) := HBk.out.cellL 4 rfl
  have f4 : ∀ e : Later V17_, e.x.frozen? ⟨N11, 4, none⟩ = false := fun e => (HBk.out.later e).frozen 4
  have c5 : ∀ e : Later V17_, e.x.cell? ⟨N11, 5, none⟩ = some (.int .u64 0) := HBk.out.cellL 5 rfl
  have f5 : ∀ e : Later V17_, e.x.frozen? ⟨N11, 5, none⟩ = false := fun e => (HBk.out.later e).frozen 5
  have c6 : ∀ e : Later V17_, e.x.cell? ⟨N11, 6, none⟩ = some (.int .u64 0) := HBk.out.cellL 6 rfl
  have f6 : ∀ e : Later V17_, e.x.frozen? ⟨N11, 6, none⟩ = false := fun e => (HBk.out.later e).frozen 6
  obtain ⟨e, he⟩ := Later.self V17_
  rw [he]
  clear he
  go_upto_region 19 with fail
  generalize hY : World.setCell _ ⟨N11, 6, none⟩ _ = V18_
  have HBk' : Hid (Blk V18_ N11 57 #[.bool bh, .bool bg, .int .i64 br, .int .i64 EN.sch, str EN.name, .int .u64 (EN.node : Int), .int .u64 (EN.svc : Int), .int .u64 0, .int .u64 0, .bool false, .int .u64 0, .int .u64 0]) := hid (by rw [← hY]; exact (((((HBk.out.later e).set_ 3 _).set_ 4 _).set_ 5 _).set_ 6 _))
  have HM' : Hid (Mod [N11] V5 V18_) := hid (by rw [← hY]; exact (((((HM.out.trans (e.h.mono (by simp))).setCell (.inl (by simp)) _).setCell (.inl (by simp)) _).setCell (.inl (by simp)) _).setCell (.inl (by simp)) _))
  have HM0' : Hid (Mod [N11] V14 V18_) := hid (by rw [← hY]; exact (((((HM0.out.trans (e.h.mono (by simp))).setCell (.inl (by simp)) _).setCell (.inl (by simp)) _).setCell (.inl (by simp)) _).setCell (.inl (by simp)) _))
  clear hY HBk HM HM0 e c3 f3 c4 f4 c5 f5 c6 f6 s0 s1 s2 s3
  have HBk := HBk'
  have HM := HM'
  have HM0 := HM0'
  clear HBk' HM' HM0'
  have q : ∀ e : Later V18_, e.x.cell? ⟨b1, o1 + 15 + 3, none⟩ = some (.slice (some ⟨b3, o3, none⟩) 2 (ac1 3).2) := fun e => by
    have := (At5.mod I3.out (HM.out.trans (e.h.mono (by simp))) hb1 (by have := HNN.out; simp; omega)).2.2.2.1
    rw [HA3.out, HK3.out] at this
    first | exact this | (rwa [show o1 + 3 * 5 = o1 + 15 by omega] at this)
  have s1 : ∀ e : Later V18_, e.x.cell? ⟨b3, o3 + 1, none⟩ = some (.int .u64 ((((t.ch 1).ch 3).ch 0).n : Int)) := fun e => by
    have := (At5.mod M0.out (HM.out.trans (e.h.mono (by simp))) hb3 (by have := HNN.out; simp; omega)).2.1
    first | exact this | (rwa [show o3 + 0 * 5 = o3 by omega] at this)
  have c7 : ∀ e : Later V18_, e.x.cell? ⟨N11, 7, none⟩ = some (.int .u64 0) := HBk.out.cellL 7 rfl
  have f7 : ∀ e : Later V18_, e.x.frozen? ⟨N11, 7, none⟩ = false := fun e => (HBk.out.later e).frozen 7
  obtain ⟨e, he⟩ := Later.self V18_
  rw [he]
  clear he
  go_upto_region 20 with fail
  generalize hY : World.setCell _ ⟨N11, 7, none⟩ _ = V19_
  have HBk' : Hid (Blk V19_ N11 57 #[.bool bh, .bool bg, .int .i64 br, .int .i64 EN.sch, str EN.name, .int .u64 (EN.node : Int), .int .u64 (EN.svc : Int), .int .u64 ((((t.ch 1).ch 3).ch 0).n : Int), .int .u64 0, .bool false, .int .u64 0, .int .u64 0]) := hid (by rw [← hY]; exact ((HBk.out.later e).set_ 7 _))
  have HM' : Hid (Mod [N11] V5 V19_) := hid (by rw [← hY]; exact ((HM.out.trans (e.h.mono (by simp))).setCell (.inl (by simp)) _))
  have HM0' : Hid (Mod [N11] V14 V19_) := hid (by rw [← hY]; exact ((HM0.out.trans (e.h.mono (by simp))).setCell (.inl (by simp)) _))
  clear hY HBk HM HM0 e c7 f7 q s1
  have HBk := HBk'
  have HM := HM'
  have HM0 := HM0'
  clear HBk' HM' HM0'
  have q : ∀ e : Later V19_, e.x.cell? ⟨b1, o1 + 15 + 3, none⟩ = some (.slice (some ⟨b3, o3, none⟩) 2 (ac1 3).2) := fun e => by
    have := (At5.mod I3.out (HM.out.trans (e.h.mono (by simp))) hb1 (by have := HNN.out; simp; omega)).2.2.2.1
    rw [HA3.out, HK3.out] at this
    first | exact this | (rwa [show o1 + 3 * 5 = o1 + 15 by omega] at this)
  have s1 : ∀ e : Later V19_, e.x.cell? ⟨b3, o3 + 5 + 1, none⟩ = some (.int .u64 ((((t.ch 1).ch 3).ch 1).n : Int)) := fun e => by
    have := (At5.mod M1.out (HM.out.trans (e.h.mono (by simp))) hb3 (by have := HNN.out; simp; omega)).2.1
    first | exact this | (rwa [show o3 + 1 * 5 = o3 + 5 by omega] at this)
  have c8 : ∀ e : Later V19_, e.x.cell? ⟨N11, 8, none⟩ = some (.int .u64 0) := HBk.out.cellL 8 rfl
  have f8 : ∀ e : Later V19_, e.x.frozen? ⟨N11, 8, none⟩ = false := fun e => (HBk.out.later e).frozen 8
  obtain ⟨e, he⟩ := Later.self V19_
  rw [he]
  clear he
  go_upto_region 21 with fail
  generalize hY : World.setCell _ ⟨N11, 8, none⟩ _ = V20_
  have HBk' : Hid (Blk V20_ N11 57 #[.bool bh, .bool bg, .int .i64 br, .int .i64 EN.sch, str EN.name, .int .u64 (EN.node : Int), .int .u64 (EN.svc : Int), .int .u64 ((((t.ch 1).ch 3).ch 0).n : Int), .int .u64 ((((t.ch 1).ch 3).ch 1).n : Int), .bool false, .int .u64 0, .int .u64 0]) := hid (by rw [← hY]; exact ((HBk.out.later e).set_ 8 _))
  have HM' : Hid (Mod [N11] V5 V20_) := hid (by rw [← hY]; exact ((HM.out.trans (e.h.mono (by simp))).setCell (.inl (by simp)) _))
  have HM0' : Hid (Mod [N11] V14 V20_) := hid (by rw [← hY]; exact ((HM0.out.trans (e.h.mono (by simp))).setCell (.inl (by simp)) _))
  clear hY HBk HM HM0 e c8 f8 q s1
  have HBk := HBk'
  have HM := HM'
  have HM0 := HM0'
  clear HBk' HM' HM0'
  go_upto_region 25 with fail
  obtain ⟨r, hr⟩ : ∃ r : RV, r = ⟨bh, bg, br, ⟨EN, (((t.ch 1).ch 3).ch 0).n, (((t.ch 1).ch 3).ch 1).n, false, 0, 0⟩⟩ := ⟨_, rfl⟩
  have HBk : Hid (Blk V20_ N11 57 #[.bool r.here, .bool r.gone, .int .i64 r.reason, .int .i64 r.of.src.sch, str r.of.src.name, .int .u64 (r.of.src.node : Int), .int .u64 (r.of.src.svc : Int), .int .u64 (r.of.t : Int), .int .u64 (r.of.q : Int), .bool r.of.fr, .int .u64 (r.of.o : Int), .int .u64 (r.of.n : Int)]) := hid (by rw [hr]; exact HBk.out)
  have HRR : refRep t = r := by
    rw [hr]
    unfold refRep
    rw [← Hbh.out, ← Hbg.out, ← Hbr.out, ← HEN.out]
    simp only [HKB.out]
    rfl
  rw [HRR] at HRB
  have HRE := hid (HRE.out.trans HRR)
  have HRV0 : Hid (repB t = false → repRV t = .tuple #[repV zeroR, .bool false]) := hid repRV_no
  have HRV1 : Hid (repB t = true → repRV t = .tuple #[repV r, .bool true]) := hid (fun h => by rw [repRV_yes h, HRE.out])
  have HB0 : Hid (Blk V20_ w.heap.size 57 #[.bool false, .bool false, .int .i64 0, .int .i64 0, .string ⟨#[]⟩, .int .u64 0, .int .u64 0, .int .u64 0, .int .u64 0, .bool false, .int .u64 0, .int .u64 0]) := hid (HB0.out.mod HM0.out (by have := HSN.out; simp; omega))
  have HB4 : Hid (Blk V20_ n4 57 #[.bool false, .bool false, .int .i64 0, .int .i64 0, .string ⟨#[]⟩, .int .u64 0, .int .u64 0, .int .u64 0, .int .u64 0, .bool false, .int .u64 0, .int .u64 0]) := hid (HB4.out.mod HM0.out (by have := HSN.out; simp; omega))
  have HE : Hid (Ext w V20_) := hid ((HE14.out.of_ext.trans HM0.out).new (fun k hk => .inr (by have := HSN.out; rw [List.mem_singleton] at hk; omega)))
  clear HRR hr Hbh Hbg Hbr HEN HE14 HM HM0 I0 I1 I3 J0 J1 M0 M1 HNN HSN HB7 HL5 HK2 HKB HK0 HK3 BE
  have KRt := hid (fun W => r25Right_any r W)
  have HBL : Hid (∀ e : Later V20_, Blk e.x N11 57 #[.bool r.here, .bool r.gone, .int .i64 r.reason, .int .i64 r.of.src.sch, str r.of.src.name, .int .u64 (r.of.src.node : Int), .int .u64 (r.of.src.svc : Int), .int .u64 (r.of.t : Int), .int .u64 (r.of.q : Int), .bool r.of.fr, .int .u64 (r.of.o : Int), .int .u64 (r.of.n : Int)]) := hid (fun e => HBk.out.later e)
  cases hR : r.right with
  | false =>
    rw [hR] at KRt
    have hB : repB t = false := by rw [HRB.out, hR]; rfl
    have HP := hid (HRV0.out hB)
    clear hR hB
    obtain ⟨e, he⟩ := Later.self V20_
    rw [he]
    clear he
    have tk1 : True := trivial
    go_upto_region 26 with (first | (clear tk1; refine wpList_row (by rfl) 57 _ rfl _ rfl (HBL.out _) Try.underlying57 rfl (by kernel_rfl) ?_) | (go_at_call 24; refine (Ret.later (KRt.out _)).mono ?_; rintro x _ ⟨rfl, e, rfl⟩))
    have HZL : Hid (∀ e : Later V20_, Blk e.x n4 57 #[.bool false, .bool false, .int .i64 0, .int .i64 0, .string ⟨#[]⟩, .int .u64 0, .int .u64 0, .int .u64 0, .int .u64 0, .bool false, .int .u64 0, .int .u64 0]) := hid (fun e => HB4.out.later e)
    have tk1 : True := trivial
    go_wp2_with (first | (clear tk1; refine wpList_row (by rfl) 57 _ rfl _ rfl (HZL.out _) Try.underlying57 rfl (by kernel_rfl) ?_) | (refine wpList_store_mid rfl 57 _ _ rfl w.heap.size 0 #[.bool false, .bool false, .int .i64 0, .int .i64 0, .string ⟨#[]⟩, .int .u64 0, .int .u64 0, .int .u64 0, .int .u64 0, .bool false, .int .u64 0, .int .u64 0] (by rfl) (by rfl) ((HB0.out.later e).there (Nat.le_refl 12)) (by kernel_rfl) (by simp [Value.oneCell']) ?_))
    generalize hZZ : World.setCells _ _ _ _ = ZZ
    have HZB : Hid (Blk ZZ w.heap.size 57 #[.bool false, .bool false, .int .i64 0, .int .i64 0, .string ⟨#[]⟩, .int .u64 0, .int .u64 0, .int .u64 0, .int .u64 0, .bool false, .int .u64 0, .int .u64 0]) := hid (by rw [← hZZ]; exact setCells_all (ds := #[.bool false, .bool false, .int .i64 0, .int .i64 0, .string ⟨#[]⟩, .int .u64 0, .int .u64 0, .int .u64 0, .int .u64 0, .bool false, .int .u64 0, .int .u64 0]) (HB0.out.later e) rfl)
    have HZM : Hid (Ext w ZZ) := hid (by rw [← hZZ]; exact setCells_mod _ _ (HE.out.trans e.h) (.inr (by omega)))
    clear hZZ
    refine bodyPost_ret (results_cell2 rfl _ (by rfl) rfl HZB.out Try.underlying57 rfl (by kernel_rfl)) rfl (Ret.mk (by rw [HP.out]; rfl) HZM.out)
  | true =>
    rw [hR] at KRt
    rw [hR, Bool.true_and] at HRB
    have KBy := hid (fun W => r25Bytes_any r hR W)
    clear hR
    generalize r.bytes = B at *
    by_cases hB : B = l
    · rw [hB, decide_eq_true rfl] at HRB
      have HP := hid (HRV1.out HRB.out)
      subst hB
      obtain ⟨e, he⟩ := Later.self V20_
      rw [he]
      clear he
      have tk1 : True := trivial
      have tk2 : True := trivial
      have tk3 : True := trivial
      go_upto_region 27 with (first | (clear tk1; refine wpList_row (by rfl) 57 _ rfl _ rfl (HBL.out _) Try.underlying57 rfl (by kernel_rfl) ?_) | (clear tk2; refine wpList_row (by rfl) 57 _ rfl _ rfl (HBL.out _) Try.underlying57 rfl (by kernel_rfl) ?_) | (go_at_call 24; refine (Ret.later (KRt.out _)).mono ?_; rintro x _ ⟨rfl, e, rfl⟩) | (go_at_call 28; refine (Ret.later (KBy.out _)).mono ?_; rintro x _ ⟨rfl, e, rfl⟩))
      go_wp2_with (first | (clear tk3; refine wpList_row (by rfl) 57 _ rfl _ rfl (HBL.out _) Try.underlying57 rfl (by kernel_rfl) ?_) | (refine wpList_store_mid rfl 57 _ _ rfl w.heap.size 0 #[.bool r.here, .bool r.gone, .int .i64 r.reason, .int .i64 r.of.src.sch, str r.of.src.name, .int .u64 (r.of.src.node : Int), .int .u64 (r.of.src.svc : Int), .int .u64 (r.of.t : Int), .int .u64 (r.of.q : Int), .bool r.of.fr, .int .u64 (r.of.o : Int), .int .u64 (r.of.n : Int)] (by rfl) (by rfl) ((HB0.out.later e).there (Nat.le_refl 12)) (by kernel_rfl) (by simp [Value.oneCell']) ?_))
      generalize hZZ : World.setCells _ _ _ _ = ZZ
      have HZB : Hid (Blk ZZ w.heap.size 57 #[.bool r.here, .bool r.gone, .int .i64 r.reason, .int .i64 r.of.src.sch, str r.of.src.name, .int .u64 (r.of.src.node : Int), .int .u64 (r.of.src.svc : Int), .int .u64 (r.of.t : Int), .int .u64 (r.of.q : Int), .bool r.of.fr, .int .u64 (r.of.o : Int), .int .u64 (r.of.n : Int)]) := hid (by rw [← hZZ]; exact setCells_all (ds := #[.bool r.here, .bool r.gone, .int .i64 r.reason, .int .i64 r.of.src.sch, str r.of.src.name, .int .u64 (r.of.src.node : Int), .int .u64 (r.of.src.svc : Int), .int .u64 (r.of.t : Int), .int .u64 (r.of.q : Int), .bool r.of.fr, .int .u64 (r.of.o : Int), .int .u64 (r.of.n : Int)]) (HB0.out.later e) rfl)
      have HZM : Hid (Ext w ZZ) := hid (by rw [← hZZ]; exact setCells_mod _ _ (HE.out.trans e.h) (.inr (by omega)))
      clear hZZ
      refine bodyPost_ret (results_cell2 rfl _ (by rfl) rfl HZB.out Try.underlying57 rfl (by kernel_rfl)) rfl (Ret.mk (by rw [HP.out]; rfl) HZM.out)
    · rw [decide_eq_false hB] at HRB
      have HP := hid (HRV0.out HRB.out)
      have t1a : ((B) == (l)) = false := by rw [beq_eq_false_iff_ne]; exact hB
      have t1b : ((B) = (l)) = False := eq_false (by exact hB)
      have t1c : ((B) != (l)) = true := by rw [bne_iff_ne]; exact hB
      clear hB
      obtain ⟨e, he⟩ := Later.self V20_
      rw [he]
      clear he
      have tk1 : True := trivial
      have tk2 : True := trivial
      go_upto_region 26 with (first | (clear tk1; refine wpList_row (by rfl) 57 _ rfl _ rfl (HBL.out _) Try.underlying57 rfl (by kernel_rfl) ?_) | (clear tk2; refine wpList_row (by rfl) 57 _ rfl _ rfl (HBL.out _) Try.underlying57 rfl (by kernel_rfl) ?_) | (go_at_call 24; refine (Ret.later (KRt.out _)).mono ?_; rintro x _ ⟨rfl, e, rfl⟩) | (go_at_call 28; refine (Ret.later (KBy.out _)).mono ?_; rintro x _ ⟨rfl, e, rfl⟩))
      have HZL : Hid (∀ e : Later V20_, Blk e.x n4 57 #[.bool false, .bool false, .int .i64 0, .int .i64 0, .string ⟨#[]⟩, .int .u64 0, .int .u64 0, .int .u64 0, .int .u64 0, .bool false, .int .u64 0, .int .u64 0]) := hid (fun e => HB4.out.later e)
      have tk1 : True := trivial
      go_wp2_with (first | (clear tk1; refine wpList_row (by rfl) 57 _ rfl _ rfl (HZL.out _) Try.underlying57 rfl (by kernel_rfl) ?_) | (refine wpList_store_mid rfl 57 _ _ rfl w.heap.size 0 #[.bool false, .bool false, .int .i64 0, .int .i64 0, .string ⟨#[]⟩, .int .u64 0, .int .u64 0, .int .u64 0, .int .u64 0, .bool false, .int .u64 0, .int .u64 0] (by rfl) (by rfl) ((HB0.out.later e).there (Nat.le_refl 12)) (by kernel_rfl) (by simp [Value.oneCell']) ?_))
      generalize hZZ : World.setCells _ _ _ _ = ZZ
      have HZB : Hid (Blk ZZ w.heap.size 57 #[.bool false, .bool false, .int .i64 0, .int .i64 0, .string ⟨#[]⟩, .int .u64 0, .int .u64 0, .int .u64 0, .int .u64 0, .bool false, .int .u64 0, .int .u64 0]) := hid (by rw [← hZZ]; exact setCells_all (ds := #[.bool false, .bool false, .int .i64 0, .int .i64 0, .string ⟨#[]⟩, .int .u64 0, .int .u64 0, .int .u64 0, .int .u64 0, .bool false, .int .u64 0, .int .u64 0]) (HB0.out.later e) rfl)
      have HZM : Hid (Ext w ZZ) := hid (by rw [← hZZ]; exact setCells_mod _ _ (HE.out.trans e.h) (.inr (by omega)))
      clear hZZ
      refine bodyPost_ret (results_cell2 rfl _ (by rfl) rfl HZB.out Try.underlying57 rfl (by kernel_rfl)) rfl (Ret.mk (by rw [HP.out]; rfl) HZM.out)
end Go.Proofs.Ytogjghmoankleaa
