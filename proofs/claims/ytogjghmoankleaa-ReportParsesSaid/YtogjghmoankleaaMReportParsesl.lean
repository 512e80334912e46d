/-
  Reports: the reference's Parse of what has a report's shape (6 parts).
  Which names, primaries and bundles are of a size that is looked at.
  The laws ReportBuilds and ReportParses, walked.
-/
import Derived.Test.YtogjghmoankleaaMReportParsesk

namespace Go.Proofs.Ytogjghmoankleaa
open Go.RowKit
set_option linter.unusedVariables false
set_option linter.unusedSimpArgs false

set_option maxRecDepth 20000 in
set_option maxHeartbeats 6400000 in
theorem q25_g6 (t : T) (hr : t.right 8 = true) (hok : t.ok) (hs : t.size ≤ 100000) (hl : t.bytes.length ≤ 1073741824) (h : t.k = 2) (hk : (t.ch 1).k = 6) (h0 : ((t.ch 1).ch 0).k = 2) (h3 : ((t.ch 1).ch 3).k = 2) (h2 : ofB ((t.ch 1).ch 2) = true) (w : World) : Calls Try.prog 29 #[str t.bytes] w (Ret (repRV t) w) := by
  have HRE := hid (refRep_eq hr ⟨h, .inr hk, h0, h3, h2⟩)
  have HRB : Hid (repB t = ((readRep t).right && decide ((readRep t).bytes = t.bytes))) := hid rfl
  have HK2 := hid h
  have HKB := hid hk
  have HK0 := hid h0
  have HK3 := hid h3
  have t1a : (((((t.ch 1).ch 0).k : Int)) == (2)) = true := by rw [beq_iff_eq]; omega
  have t1b : (((((t.ch 1).ch 0).k : Int)) = (2)) = True := eq_true (by omega)
  have t1c : (((((t.ch 1).ch 0).k : Int)) != (2)) = false := by rw [bne_eq_false_iff_eq]; omega
  have t3a : ((((t.ch 1).ch 0).k) == (2)) = true := by rw [beq_iff_eq]; exact h0
  have t3b : ((((t.ch 1).ch 0).k) = (2)) = True := eq_true (by exact h0)
  have t3c : ((((t.ch 1).ch 0).k) != (2)) = false := by rw [bne_eq_false_iff_eq]; exact h0
  have t5a : (((((t.ch 1).ch 3).k : Int)) == (2)) = true := by rw [beq_iff_eq]; omega
  have t5b : (((((t.ch 1).ch 3).k : Int)) = (2)) = True := eq_true (by omega)
  have t5c : (((((t.ch 1).ch 3).k : Int)) != (2)) = false := by rw [bne_eq_false_iff_eq]; omega
  have t7a : ((((t.ch 1).ch 3).k) == (2)) = true := by rw [beq_iff_eq]; exact h3
  have t7b : ((((t.ch 1).ch 3).k) = (2)) = True := eq_true (by exact h3)
  have t7c : ((((t.ch 1).ch 3).k) != (2)) = false := by rw [bne_eq_false_iff_eq]; exact h3
  have hs2 : ((t.ch 1).ch 2).size ≤ 100000 := Nat.le_trans (Nat.le_trans (ch_size (by omega)) (ch_size (by omega))) hs
  have ho2 : ((t.ch 1).ch 2).ok := ch_ok (ch_ok hok (by omega)) (by omega)
  have KO : Hid (∀ A c W, IsL W (fun _ => True) ((t.ch 1).ch 2) A → Calls Try.prog 61 #[itemV ((t.ch 1).ch 2) A c] W (Ret (.tuple #[EV.v (readE ((t.ch 1).ch 2)), .int .i64 0]) W)) := fun A c W h => by
    have := of_any ((t.ch 1).ch 2) ho2 hs2 A c W h
    unfold OfPost at this
    rw [h2] at this
    exact this
  clear hs2 ho2
  clear h hk h0 h3 h2
  have KF := hid (fun W => fault_any t.bytes hl 8 (by omega) 0 (by omega) W)
  have hf : flt 8 t.bytes = (t.bytes.length, 0) := by have := flt_bytes t 8 hr hok []; rwa [List.append_nil] at this
  have KI := hid (fun W => r13_any t hr hok hl W)
  rw [List.drop_zero, hf] at KF
  have HLL := hid hl
  generalize t.bytes = l at *
  have HR := hid hr
  have HOK := hid hok
  have HS := hid hs
  clear hf hr hok hs hl
  have HE := hid ((Mod.refl [] w).alloc (.cells #[.bool false, .bool false, .int .i64 0, .int .i64 0, .string ⟨#[]⟩, .int .u64 0, .int .u64 0, .int .u64 0, .int .u64 0, .bool false, .int .u64 0, .int .u64 0] 57))
  have HB0 : Hid (Blk (w.alloc (.cells #[.bool false, .bool false, .int .i64 0, .int .i64 0, .string ⟨#[]⟩, .int .u64 0, .int .u64 0, .int .u64 0, .int .u64 0, .bool false, .int .u64 0, .int .u64 0] 57)) w.heap.size 57 #[.bool false, .bool false, .int .i64 0, .int .i64 0, .string ⟨#[]⟩, .int .u64 0, .int .u64 0, .int .u64 0, .int .u64 0, .bool false, .int .u64 0, .int .u64 0]) := hid (Blk.new w 57 #[.bool false, .bool false, .int .i64 0, .int .i64 0, .string ⟨#[]⟩, .int .u64 0, .int .u64 0, .int .u64 0, .int .u64 0, .bool false, .int .u64 0, .int .u64 0])
  go_enter Try.func29, Try.ntmps29
  go_upto_region 1 with fail
  generalize (w.alloc (.cells #[.bool false, .bool false, .int .i64 0, .int .i64 0, .string ⟨#[]⟩, .int .u64 0, .int .u64 0, .int .u64 0, .int .u64 0, .bool false, .int .u64 0, .int .u64 0] 57)) = V at *
  go_upto_region 2 with (refine wpList_store_mid rfl 57 _ _ rfl V.heap.size 0 #[.bool false, .bool false, .int .i64 0, .int .i64 0, .string ⟨#[]⟩, .int .u64 0, .int .u64 0, .int .u64 0, .int .u64 0, .bool false, .int .u64 0, .int .u64 0] (by rfl) (by rfl) ((Blk.new _ _ _).there (Nat.le_refl 12)) (by kernel_rfl) (by simp [Value.oneCell']) ?_)
  generalize hV1 : World.setCells _ _ _ _ = V1
  have HB4 : Hid (Blk V1 V.heap.size 57 #[.bool false, .bool false, .int .i64 0, .int .i64 0, .string ⟨#[]⟩, .int .u64 0, .int .u64 0, .int .u64 0, .int .u64 0, .bool false, .int .u64 0, .int .u64 0]) := hid (by rw [← hV1]; exact setCells_all (ds := #[.bool false, .bool false, .int .i64 0, .int .i64 0, .string ⟨#[]⟩, .int .u64 0, .int .u64 0, .int .u64 0, .int .u64 0, .bool false, .int .u64 0, .int .u64 0]) (Blk.new _ _ _) rfl)
  have HX1 : Hid (Ext V V1) := hid (by rw [← hV1]; exact setCells_mod _ _ ((Mod.refl [] V).alloc _) (.inr (Nat.le_refl _)))
  have HB0 := hid (HB0.out.ext HX1.out)
  have HE := hid (HE.out.trans HX1.out)
  clear hV1 HX1
  generalize V.heap.size = n4 at *
  obtain ⟨e, he⟩ := Later.self V1
  rw [he]
  clear he
  go_upto_region 3 with (go_at_call 59; refine (Ret.later (KF.out _)).mono ?_; rintro x _ ⟨rfl, e, rfl⟩; simp only [faultV, Nat.zero_add])
  go_upto_region 6 with (go_at_call 60; refine (KI.out _).mono ?_; rintro x w5 ⟨A, c, rfl, hb, hl⟩; have HX := hid hb; have HL := hid (IsL.weak (R := fun b => b < w5.heap.size) (fun b hb _ => hb) _ hl); clear hb hl)
  generalize hV5 : World.alloc w5 _ = V5
  have HX5 : Hid (Ext V1 V5) := hid (by rw [← hV5]; exact (e.h.trans HX.out).alloc _)
  have HB7 : Hid (Blk V5 w5.heap.size 38 (itemC t A c)) := hid (by rw [← hV5]; exact Blk.new _ _ _)
  have HL5 : Hid (IsL V5 (fun b => b < w5.heap.size) t A) := hid (by rw [← hV5]; exact HL.out.ext ((Mod.refl [] _).alloc _))
  have HSN0 : Hid (w.heap.size < V5.heap.size ∧ n4 < V5.heap.size) := hid ⟨(HB0.out.ext HX5.out).lt, (HB4.out.ext HX5.out).lt⟩
  have HB0 := hid (HB0.out.ext HX5.out)
  have HB4 := hid (HB4.out.ext HX5.out)
  have HE := hid (HE.out.trans HX5.out)
  clear hV5 HX HX5 HL KI KF e
  generalize w5.heap.size = n7 at *
  obtain ⟨e, he⟩ := Later.self V5
  rw [← HRE.out] at HRB
  have HRE := hid HRE.out.symm
  obtain ⟨b, o, ac, rfl, hb, hbQ, hac⟩ := kids (by have := HK2.out; omega) HL5.out
  have HA1 := hid (hac 1 (by have := HK2.out; omega))
  have y3 : ∀ e : Later V5, e.x.cell? ⟨n7, 3, none⟩ = some (.slice (some ⟨b, o, none⟩) 2 c) := HK2.out ▸ HB7.out.cellL 3 rfl
  have z3 : ∀ e : Later V5, e.x.cell? ⟨b, o + 5 + 3, none⟩ = some (.slice (ac 1).1 6 (ac 1).2) := fun e => by
    have := (At5.mod HA1.out.1 e.h hb (by simp)).2.2.2.1
    rwa [show o + 1 * 5 = o + 5 by omega, HKB.out] at this
  obtain ⟨b1, o1, ac1, hA1, hb1, hbQ1, hac1⟩ := kids (by have := HKB.out; omega) HA1.out.2
  rw [hA1] at z3
  have I0 := hid (hac1 0 (by have := HKB.out; omega)).1
  have I1 := hid (hac1 1 (by have := HKB.out; omega)).1
  have I2 := hid (hac1 2 (by have := HKB.out; omega)).1
  have I3 := hid (hac1 3 (by have := HKB.out; omega)).1
  have L0 := hid (hac1 0 (by have := HKB.out; omega)).2
  have L2 := hid (hac1 2 (by have := HKB.out; omega)).2
  have L3 := hid (hac1 3 (by have := HKB.out; omega)).2
  have I4 := hid (hac1 4 (by have := HKB.out; omega)).1
  have I5 := hid (hac1 5 (by have := HKB.out; omega)).1
  have HAC := hid hac1
  have HAA := hid hA1
  clear hac1 hac hA1
  obtain ⟨b2, o2, ac2, hA2, hb2, hbQ2, hac2⟩ := kids (by have := HK0.out; omega) L0.out
  obtain ⟨b3, o3, ac3, hA3, hb3, hbQ3, hac3⟩ := kids (by have := HK3.out; omega) L3.out
  have HA0 := hid hA2
  have HA3 := hid hA3
  have J0 := hid (hac2 0 (by have := HK0.out; omega)).1
  have J1 := hid (hac2 1 (by have := HK0.out; omega)).1
  have M0 := hid (hac3 0 (by have := HK3.out; omega)).1
  have M1 := hid (hac3 1 (by have := HK3.out; omega)).1
  clear hac2 hac3 hA2 hA3 L0 L3 HAC HAA
  obtain ⟨EN, hEN⟩ : ∃ EN, readE ((t.ch 1).ch 2) = EN := ⟨_, rfl⟩
  rw [hEN] at KO
  have HEN := hid hEN
  clear hEN
  have hbn : b1 < n7 ∧ b2 < n7 ∧ b3 < n7 := ⟨hbQ1, hbQ2, hbQ3⟩
  have q3 : ∀ e : Later V5, e.x.cell? ⟨b1, o1 + 3, none⟩ = some (.slice (ac1 0).1 ((t.ch 1).ch 0).k (ac1 0).2) := fun e => by
    have := (At5.mod I0.out e.h hb1 (by simp)).2.2.2.1
    first | exact this | (rwa [show o1 + 0 * 5 = o1 by omega] at this)
  have r3 : ∀ e : Later V5, e.x.cell? ⟨b1, o1 + 15 + 3, none⟩ = some (.slice (ac1 3).1 ((t.ch 1).ch 3).k (ac1 3).2) := fun e => by
    have := (At5.mod I3.out e.h hb1 (by simp)).2.2.2.1
    first | exact this | (rwa [show o1 + 3 * 5 = o1 + 15 by omega] at this)
  have KX : Hid (∀ W, IsL W (fun b => b < n7) ((t.ch 1).ch 2) (ac1 2).1 → Calls Try.prog 61 #[itemV ((t.ch 1).ch 2) (ac1 2).1 (ac1 2).2] W _) := hid (fun W hW => KO.out (ac1 2).1 (ac1 2).2 W (IsL.weak (fun _ _ _ => trivial) _ hW))
  rw [he]
  clear he
  go_upto_region 11 with fail
  clear q3 r3 t1a t1b t1c t3a t3b t3c t5a t5b t5c t7a t7b t7c
  have s0 : ∀ e : Later V5, e.x.cell? ⟨b1, o1 + 10, none⟩ = some (.int .i64 ((t.ch 1).ch 2).kind) := fun e => by
    have := (At5.mod I2.out e.h hb1 (by simp)).1
    first | exact this | (rwa [show o1 + 2 * 5 = o1 + 10 by omega] at this)
  have s1 : ∀ e : Later V5, e.x.cell? ⟨b1, o1 + 10 + 1, none⟩ = some (.int .u64 (((t.ch 1).ch 2).n : Int)) := fun e => by
    have := (At5.mod I2.out e.h hb1 (by simp)).2.1
    first | exact this | (rwa [show o1 + 2 * 5 = o1 + 10 by omega] at this)
  have s2 : ∀ e : Later V5, e.x.cell? ⟨b1, o1 + 10 + 2, none⟩ = some (str ((t.ch 1).ch 2).s) := fun e => by
    have := (At5.mod I2.out e.h hb1 (by simp)).2.2.1
    first | exact this | (rwa [show o1 + 2 * 5 = o1 + 10 by omega] at this)
  have s3 : ∀ e : Later V5, e.x.cell? ⟨b1, o1 + 10 + 3, none⟩ = some (.slice (ac1 2).1 ((t.ch 1).ch 2).k (ac1 2).2) := fun e => by
    have := (At5.mod I2.out e.h hb1 (by simp)).2.2.2.1
    first | exact this | (rwa [show o1 + 2 * 5 = o1 + 10 by omega] at this)
  have s4 : ∀ e : Later V5, e.x.cell? ⟨b1, o1 + 10 + 4, none⟩ = some (.bool ((t.ch 1).ch 2).op) := fun e => by
    have := (At5.mod I2.out e.h hb1 (by simp)).2.2.2.2
    first | exact this | (rwa [show o1 + 2 * 5 = o1 + 10 by omega] at this)
  go_upto_region 12 with (go_at_call 61; refine (KX.out _ (L2.out.ext e.h)).mono ?_; rintro x w6 ⟨rfl, hb6⟩; have HX := hid (e.h.trans hb6); clear hb6)
  generalize hV6 : World.alloc w6 _ = V6
  have HX6 : Hid (Ext V5 V6) := hid (by rw [← hV6]; exact HX.out.alloc _)
  have BE : Hid (Blk V6 w6.heap.size 26 EN.c) := hid (by rw [← hV6]; exact Blk.new _ _ _)
  have HN6 : Hid (V5.heap.size ≤ w6.heap.size) := hid HX.out.size
  have HB0 := hid (HB0.out.ext HX6.out)
  have HB4 := hid (HB4.out.ext HX6.out)
  have HE := hid (HE.out.trans HX6.out)
  clear hV6 HX s0 s1 s2 s3 s4 e KX KO L2 I2
  generalize w6.heap.size = n9 at *
  obtain ⟨e, he⟩ := Later.self V6
  rw [he]
  clear he
  go_upto_region 15 with fail
  generalize hV14 : World.alloc e.x _ = V14
  have HX14 : Hid (Ext V6 V14) := hid (by rw [← hV14]; exact e.h.alloc _)
  have HBk : Hid (Blk V14 e.x.heap.size 57 #[.bool false, .bool false, .int .i64 0, .int .i64 0, .string ⟨#[]⟩, .int .u64 0, .int .u64 0, .int .u64 0, .int .u64 0, .bool false, .int .u64 0, .int .u64 0]) := hid (by rw [← hV14]; exact Blk.new _ _ _)
  have HN14 : Hid (V6.heap.size ≤ e.x.heap.size) := hid e.h.size
  have BE0 := BE
  have BE := hid (BE.out.ext HX14.out)
  have HB0 := hid (HB0.out.ext HX14.out)
  have HB4 := hid (HB4.out.ext HX14.out)
  have HE := hid (HE.out.trans HX14.out)
  have HNN : Hid (n7 < V5.heap.size ∧ V5.heap.size ≤ n9 ∧ n9 < e.x.heap.size ∧ b1 < n7 ∧ b2 < n7 ∧ b3 < n7) := hid ⟨HB7.out.lt, HN6.out, by have := (BE0.out.lt); have := HN14.out; omega, hbn.1, hbn.2.1, hbn.2.2⟩
  have HSN : Hid (w.heap.size < e.x.heap.size ∧ n4 < e.x.heap.size ∧ w.heap.size < V14.heap.size ∧ w.heap.size ≤ e.x.heap.size) := hid (by have := HSN0.out; have := HNN.out; have := HBk.out.lt; omega)
  clear hV14 hbn HN14 HN6 BE0 HSN0
  generalize e.x.heap.size = N11 at *
  clear e
  have HM : Hid (Mod [N11] V5 V14) := hid ((HX6.out.trans HX14.out).mono (by simp))
  have HM0 : Hid (Mod [N11] V14 V14) := hid (Mod.refl _ _)
  clear HX6 HX14
  have HE14 := HE
  clear HE
  have q : ∀ e : Later V14, e.x.cell? ⟨b1, o1 + 3, none⟩ = some (.slice (some ⟨b2, o2, none⟩) 2 (ac1 0).2) := fun e => by
    have := (At5.mod I0.out (HM.out.trans (e.h.mono (by simp))) hb1 (by have := HNN.out; simp; omega)).2.2.2.1
    rw [HA0.out, HK0.out] at this
    first | exact this | (rwa [show o1 + 0 * 5 = o1 by omega] at this)
  have s0 : ∀ e : Later V14, e.x.cell? ⟨b2, o2, none⟩ = some (.int .i64 (((t.ch 1).ch 0).ch 0).kind) := fun e => by
    have := (At5.mod J0.out (HM.out.trans (e.h.mono (by simp))) hb2 (by have := HNN.out; simp; omega)).1
    first | exact this | (rwa [show o2 + 0 * 5 = o2 by omega] at this)
  have s1 : ∀ e : Later V14, e.x.cell? ⟨b2, o2 + 1, none⟩ = some (.int .u64 ((((t.ch 1).ch 0).ch 0).n : Int)) := fun e => by
    have := (At5.mod J0.out (HM.out.trans (e.h.mono (by simp))) hb2 (by have := HNN.out; simp; omega)).2.1
    first | exact this | (rwa [show o2 + 0 * 5 = o2 by omega] at this)
  have s2 : ∀ e : Later V14, e.x.cell? ⟨b2, o2 + 2, none⟩ = some (str (((t.ch 1).ch 0).ch 0).s) := fun e => by
    have := (At5.mod J0.out (HM.out.trans (e.h.mono (by simp))) hb2 (by have := HNN.out; simp; omega)).2.2.1
    first | exact this | (rwa [show o2 + 0 * 5 = o2 by omega] at this)
  have s3 : ∀ e : Later V14, e.x.cell? ⟨b2, o2 + 3, none⟩ = some (.slice (ac2 0).1 (((t.ch 1).ch 0).ch 0).k (ac2 0).2) := fun e => by
    have := (At5.mod J0.out (HM.out.trans (e.h.mono (by simp))) hb2 (by have := HNN.out; simp; omega)).2.2.2.1
    first | exact this | (rwa [show o2 + 0 * 5 = o2 by omega] at this)
  have s4 : ∀ e : Later V14, e.x.cell? ⟨b2, o2 + 4, none⟩ = some (.bool (((t.ch 1).ch 0).ch 0).op) := fun e => by
    have := (At5.mod J0.out (HM.out.trans (e.h.mono (by simp))) hb2 (by have := HNN.out; simp; omega)).2.2.2.2
    first | exact this | (rwa [show o2 + 0 * 5 = o2 by omega] at this)
  have c0 : ∀ e : Later V14, e.x.cell? ⟨N11, 0, none⟩ = some (.bool false) := HBk.out.cellL 0 rfl
  have f0 : ∀ e : Later V14, e.x.frozen? ⟨N11, 0, none⟩ = false := fun e => (HBk.out.later e).frozen 0
  obtain ⟨e, he⟩ := Later.self V14
  rw [he]
  clear he
  go_upto_region 16 with (go_at_call 62; refine (Ret.later (one_any (((t.ch 1).ch 0).ch 0) (ac2 0).1 (ac2 0).2 _)).mono ?_; rintro x _ ⟨rfl, e, rfl⟩)
  generalize hY : World.setCell _ ⟨N11, 0, none⟩ _ = V15_
  have HBk' : Hid (Blk V15_ N11 57 #[.bool (decide ((((t.ch 1).ch 0).ch 0).kind = 0) && decide ((((t.ch 1).ch 0).ch 0).n = 1)), .bool false, .int .i64 0, .int .i64 0, .string ⟨#[]⟩, .int .u64 0, .int .u64 0, .int .u64 0, .int .u64 0, .bool false, .int .u64 0, .int .u64 0]) := hid (by rw [← hY]; exact ((HBk.out.later e).set_ 0 _))
  have HM' : Hid (Mod [N11] V5 V15_) := hid (by rw [← hY]; exact ((HM.out.trans (e.h.mono (by simp))).setCell (.inl (by simp)) _))
  have HM0' : Hid (Mod [N11] V14 V15_) := hid (by rw [← hY]; exact ((HM0.out.trans (e.h.mono (by simp))).setCell (.inl (by simp)) _))
  clear hY HBk HM HM0 e c0 f0 q s0 s1 s2 s3 s4
  have HBk := HBk'
  have HM := HM'
  have HM0 := HM0'
  clear HBk' HM' HM0'
  generalize hbh : (decide ((((t.ch 1).ch 0).ch 0).kind = 0) && decide ((((t.ch 1).ch 0).ch 0).n = 1)) = bh at *
  have Hbh := hid hbh
  clear hbh
  have q : ∀ e : Later V15_, e.x.cell? ⟨b1, o1 + 3, none⟩ = some (.slice (some ⟨b2, o2, none⟩) 2 (ac1 0).2) := fun e => by
    have := (At5.mod I0.out (HM.out.trans (e.h.mono (by simp))) hb1 (by have := HNN.out; simp; omega)).2.2.2.1
    rw [HA0.out, HK0.out] at this
    first | exact this | (rwa [show o1 + 0 * 5 = o1 by omega] at this)
  have s0 : ∀ e : Later V15_, e.x.cell? ⟨b2, o2 + 5, none⟩ = some (.int .i64 (((t.ch 1).ch 0).ch 1).kind) := fun e => by
    have := (At5.mod J1.out (HM.out.trans (e.h.mono (by simp))) hb2 (by have := HNN.out; simp; omega)).1
    first | exact this | (rwa [show o2 + 1 * 5 = o2 + 5 by omega] at this)
  have s1 : ∀ e : Later V15_, e.x.cell? ⟨b2, o2 + 5 + 1, none⟩ = some (.int .u64 ((((t.ch 1).ch 0).ch 1).n : Int)) := fun e => by
    have := (At5.mod J1.out (HM.out.trans (e.h.mono (by simp))) hb2 (by have := HNN.out; simp; omega)).2.1
    first | exact this | (rwa [show o2 + 1 * 5 = o2 + 5 by omega] at this)
  have s2 : ∀ e : Later V15_, e.x.cell? ⟨b2, o2 + 5 + 2, none⟩ = some (str (((t.ch 1).ch 0).ch 1).s) := fun e => by
    have := (At5.mod J1.out (HM.out.trans (e.h.mono (by simp))) hb2 (by have := HNN.out; simp; omega)).2.2.1
    first | exact this | (rwa [show o2 + 1 * 5 = o2 + 5 by omega] at this)
  have s3 : ∀ e : Later V15_, e.x.cell? ⟨b2, o2 + 5 + 3, none⟩ = some (.slice (ac2 1).1 (((t.ch 1).ch 0).ch 1).k (ac2 1).2) := fun e => by
    have := (At5.mod J1.out (HM.out.trans (e.h.mono (by simp))) hb2 (by have := HNN.out; simp; omega)).2.2.2.1
    first | exact this | (rwa [show o2 + 1 * 5 = o2 + 5 by omega] at this)
  have s4 : ∀ e : Later V15_, e.x.cell? ⟨b2, o2 + 5 + 4, none⟩ = some (.bool (((t.ch 1).ch 0).ch 1).op) := fun e => by
    have := (At5.mod J1.out (HM.out.trans (e.h.mono (by simp))) hb2 (by have := HNN.out; simp; omega)).2.2.2.2
    first | exact this | (rwa [show o2 + 1 * 5 = o2 + 5 by omega] at this)
  have c1 : ∀ e : Later V15_, e.x.cell? ⟨N11, 1, none⟩ = some (.bool false) := HBk.out.cellL 1 rfl
  have f1 : ∀ e : Later V15_, e.x.frozen? ⟨N11, 1, none⟩ = false := fun e => (HBk.out.later e).frozen 1
  obtain ⟨e, he⟩ := Later.self V15_
  rw [he]
  clear he
  go_upto_region 17 with (go_at_call 62; refine (Ret.later (one_any (((t.ch 1).ch 0).ch 1) (ac2 1).1 (ac2 1).2 _)).mono ?_; rintro x _ ⟨rfl, e, rfl⟩)
  generalize hY : World.setCell _ ⟨N11, 1, none⟩ _ = V16_
  have HBk' : Hid (Blk V16_ N11 57 #[.bool bh, .bool (decide ((((t.ch 1).ch 0).ch 1).kind = 0) && decide ((((t.ch 1).ch 0).ch 1).n = 1)), .int .i64 0, .int .i64 0, .string ⟨#[]⟩, .int .u64 0, .int .u64 0, .int .u64 0, .int .u64 0, .bool false, .int .u64 0, .int .u64 0]) := hid (by rw [← hY]; exact ((HBk.out.later e).set_ 1 _))
  have HM' : Hid (Mod [N11] V5 V16_) := hid (by rw [← hY]; exact ((HM.out.trans (e.h.mono (by simp))).setCell (.inl (by simp)) _))
  have HM0' : Hid (Mod [N11] V14 V16_) := hid (by rw [← hY]; exact ((HM0.out.trans (e.h.mono (by simp))).setCell (.inl (by simp)) _))
  clear hY HBk HM HM0 e c1 f1 q s0 s1 s2 s3 s4
  have HBk := HBk'
  have HM := HM'
  have HM0 := HM0'
  clear HBk' HM' HM0'
  generalize hbg : (decide ((((t.ch 1).ch 0).ch 1).kind = 0) && decide ((((t.ch 1).ch 0).ch 1).n = 1)) = bg at *
  have Hbg := hid hbg
  clear hbg
  have s1 : ∀ e : Later V16_, e.x.cell? ⟨b1, o1 + 5 + 1, none⟩ = some (.int .u64 (((t.ch 1).ch 1).n : Int)) := fun e => by
    have := (At5.mod I1.out (HM.out.trans (e.h.mono (by simp))) hb1 (by have := HNN.out; simp; omega)).2.1
    first | exact this | (rwa [show o1 + 1 * 5 = o1 + 5 by omega] at this)
  have c2 : ∀ e : Later V16_, e.x.cell? ⟨N11, 2, none⟩ = some (.int .i64 0) := HBk.out.cellL 2 rfl
  have f2 : ∀ e : Later V16_, e.x.frozen? ⟨N11, 2, none⟩ = false := fun e => (HBk.out.later e).frozen 2
  obtain ⟨e, he⟩ := Later.self V16_
  rw [he]
  clear he
  go_upto_region 18 with fail
  generalize hY : World.setCell _ ⟨N11, 2, none⟩ _ = V17_
  have HBk' : Hid (Blk V17_ N11 57 #[.bool bh, .bool bg, .int .i64 (min (((t.ch 1).ch 1).n : Int) 65536), .int .i64 0, .string ⟨#[]⟩, .int .u64 0, .int .u64 0, .int .u64 0, .int .u64 0, .bool false, .int .u64 0, .int .u64 0]) := hid (by rw [← hY]; exact ((HBk.out.later e).set_ 2 _))
  have HM' : Hid (Mod [N11] V5 V17_) := hid (by rw [← hY]; exact ((HM.out.trans (e.h.mono (by simp))).setCell (.inl (by simp)) _))
  have HM0' : Hid (Mod [N11] V14 V17_) := hid (by rw [← hY]; exact ((HM0.out.trans (e.h.mono (by simp))).setCell (.inl (by simp)) _))
  clear hY HBk HM HM0 e c2 f2 s1
  have HBk := HBk'
  have HM := HM'
  have HM0 := HM0'
  clear HBk' HM' HM0'
  generalize hbr : min (((t.ch 1).ch 1).n : Int) 65536 = br at *
  have Hbr := hid hbr
  clear hbr
  have s0 : ∀ e : Later V17_, e.x.cell? ⟨n9, 0, none⟩ = some (.int .i64 EN.sch) := fun e => ((BE.out.mod HM0.out (by have := HNN.out; simp; omega)).later e).cell 0
  have s1 : ∀ e : Later V17_, e.x.cell? ⟨n9, 1, none⟩ = some (str EN.name) := fun e => ((BE.out.mod HM0.out (by have := HNN.out; simp; omega)).later e).cell 1
  have s2 : ∀ e : Later V17_, e.x.cell? ⟨n9, 2, none⟩ = some (.int .u64 (EN.node : Int)) := fun e => ((BE.out.mod HM0.out (by have := HNN.out; simp; omega)).later e).cell 2
  have s3 : ∀ e : Later V17_, e.x.cell? ⟨n9, 3, none⟩ = some (.int .u64 (EN.svc : Int)) := fun e => ((BE.out.mod HM0.out (by have := HNN.out; simp; omega)).later e).cell 3
  have c3 : ∀ e : Later V17_, e.x.cell? ⟨N11, 3, none⟩ = some (.int .i64 0) := HBk.out.cellL 3 rfl
  have f3 : ∀ e : Later V17_, e.x.frozen? ⟨N11, 3, none⟩ = false := fun e => (HBk.out.later e).frozen 3
  have c4 : ∀ e : Later V17_, e.x.cell? ⟨N11, 4, none⟩ = some (.string ⟨#[]⟩) := HBk.out.cellL 4 rfl
  have f4 : ∀ e : Later V17_, e.x.frozen? ⟨N11, 4, none⟩ = false := fun e => (HBk.out.later e).frozen 4
  have c5 : ∀ e : Later V17_, e.x.cell? ⟨N11, 5, none⟩ = some (.int .u64 0) := HBk.out.cellL 5 rfl
  have f5 : ∀ e : Later V17_, e.x.frozen? ⟨N11, 5, none⟩ = false := fun e => (HBk.out.later e).frozen 5
  have c6 : ∀ e : Later V17_, e.x.cell? ⟨N11, 6, none⟩ = some (.int .u64 0) := HBk.out.cellL 6 rfl
  have f6 : ∀ e : Later V17_, e.x.frozen? ⟨N11, 6, none⟩ = false := fun e => (HBk.out.later e).frozen 6
  obtain ⟨e, he⟩ := Later.self V17_
  rw [he]
  clear he
  go_upto_region 19 with fail
  generalize hY : World.setCell _ ⟨N11, 6, none⟩ _ = V18_
  have HBk' : Hid (Blk V18_ N11 57 #[.bool bh, .bool bg, .int .i64 br, .int .i64 EN.sch, str EN.name, .int .u64 (EN.node : Int), .int .u64 (EN.svc : Int), .int .u64 0, .int .u64 0, .bool false, .int .u64 0, .int .u64 0]) := hid (by rw [← hY]; exact (((((HBk.out.later e).set_ 3 _).set_ 4 _).set_ 5 _).set_ 6 _))
  have HM' : Hid (Mod [N11] V5 V18_) := hid (by rw [← hY]; exact (((((HM.out.trans (e.h.mono (by simp))).setCell (.inl (by simp)) _).setCell (.inl (by simp)) _).setCell (.inl (by simp)) _).setCell (.inl (by simp)) _))
  have HM0' : Hid (Mod [N11] V14 V18_) := hid (by rw [← hY]; exact (((((HM0.out.trans (e.h.mono (by simp))).setCell (.inl (by simp)) _).setCell (.inl (by simp)) _).setCell (.inl (by simp)) _).setCell (.inl (by simp)) _))
  clear hY HBk HM HM0 e c3 f3 c4 f4 c5 f5 c6 f6 s0 s1 s2 s3
  have HBk := HBk'
  have HM := HM'
  have HM0 := HM0'
  clear HBk' HM' HM0'
  have q : ∀ e : Later V18_, e.x.cell? ⟨b1, o1 + 15 + 3, none⟩ = some (.slice (some ⟨b3, o3, none⟩) 2 (ac1 3).2) := fun e => by
    have := (At5.mod I3.out (HM.out.trans (e.h.mono (by simp))) hb1 (by have := HNN.out; simp; omega)).2.2.2.1
    rw [HA3.out, HK3.out] at this
    first | exact this | (rwa [show o1 + 3 * 5 = o1 + 15 by omega] at this)
  have s1 : ∀ e : Later V18_, e.x.cell? ⟨b3, o3 + 1, none⟩ = some (.int .u64 ((((t.ch 1).ch 3).ch 0).n : Int)) := fun e => by
    have := (At5.mod M0.out (HM.out.trans (e.h.mono (by simp))) hb3 (by have := HNN.out; simp; omega)).2.1
    first | exact this | (rwa [show o3 + 0 * 5 = o3 by omega] at this)
  have c7 : ∀ e : Later V18_, e.x.cell? ⟨N11, 7, none⟩ = some (.int .u64 0) := HBk.out.cellL 7 rfl
  have f7 : ∀ e : Later V18_, e.x.frozen? ⟨N11, 7, none⟩ = false := fun e => (HBk.out.later e).frozen 7
  obtain ⟨e, he⟩ := Later.self V18_
  rw [he]
  clear he
  go_upto_region 20 with fail
  generalize hY : World.setCell _ ⟨N11, 7, none⟩ _ = V19_
  have HBk' : Hid (Blk V19_ N11 57 #[.bool bh, .bool bg, .int .i64 br, .int .i64 EN.sch, str EN.name, .int .u64 (EN.node : Int), .int .u64 (EN.svc : Int), .int .u64 ((((t.ch 1).ch 3).ch 0).n : Int), .int .u64 0, .bool false, .int .u64 0, .int .u64 0]) := hid (by rw [← hY]; exact ((HBk.out.later e).set_ 7 _))
  have HM' : Hid (Mod [N11] V5 V19_) := hid (by rw [← hY]; exact ((HM.out.trans (e.h.mono (by simp))).setCell (.inl (by simp)) _))
  have HM0' : Hid (Mod [N11] V14 V19_) := hid (by rw [← hY]; exact ((HM0.out.trans (e.h.mono (by simp))).setCell (.inl (by simp)) _))
  clear hY HBk HM HM0 e c7 f7 q s1
  have HBk := HBk'
  have HM := HM'
  have HM0 := HM0'
  clear HBk' HM' HM0'
  have q : ∀ e : Later V19_, e.x.cell? ⟨b1, o1 + 15 + 3, none⟩ = some (.slice (some ⟨b3, o3, none⟩) 2 (ac1 3).2) := fun e => by
    have := (At5.mod I3.out (HM.out.trans (e.h.mono (by simp))) hb1 (by have := HNN.out; simp; omega)).2.2.2.1
    rw [HA3.out, HK3.out] at this
    first | exact this | (rwa [show o1 + 3 * 5 = o1 + 15 by omega] at this)
  have s1 : ∀ e : Later V19_, e.x.cell? ⟨b3, o3 + 5 + 1, none⟩ = some (.int .u64 ((((t.ch 1).ch 3).ch 1).n : Int)) := fun e => by
    have := (At5.mod M1.out (HM.out.trans (e.h.mono (by simp))) hb3 (by have := HNN.out; simp; omega)).2.1
    first | exact this | (rwa [show o3 + 1 * 5 = o3 + 5 by omega] at this)
  have c8 : ∀ e : Later V19_, e.x.cell? ⟨N11, 8, none⟩ = some (.int .u64 0) := HBk.out.cellL 8 rfl
  have f8 : ∀ e : Later V19_, e.x.frozen? ⟨N11, 8, none⟩ = false := fun e => (HBk.out.later e).frozen 8
  obtain ⟨e, he⟩ := Later.self V19_
  rw [he]
  clear he
  go_upto_region 21 with fail
  generalize hY : World.setCell _ ⟨N11, 8, none⟩ _ = V20_
  have HBk' : Hid (Blk V20_ N11 57 #[.bool bh, .bool bg, .int .i64 br, .int .i64 EN.sch, str EN.name, .int .u64 (EN.node : Int), .int .u64 (EN.svc : Int), .int .u64 ((((t.ch 1).ch 3).ch 0).n : Int), .int .u64 ((((t.ch 1).ch 3).ch 1).n : Int), .bool false, .int .u64 0, .int .u64 0]) := hid (by rw [← hY]; exact ((HBk.out.later e).set_ 8 _))
  have HM' : Hid (Mod [N11] V5 V20_) := hid (by rw [← hY]; exact ((HM.out.trans (e.h.mono (by simp))).setCell (.inl (by simp)) _))
  have HM0' : Hid (Mod [N11] V14 V20_) := hid (by rw [← hY]; exact ((HM0.out.trans (e.h.mono (by simp))).setCell (.inl (by simp)) _))
  clear hY HBk HM HM0 e c8 f8 q s1
  have HBk := HBk'
  have HM := HM'
  have HM0 := HM0'
  clear HBk' HM' HM0'
  go_upto_region 22 with fail
  have c9 : ∀ e : Later V20_, e.x.cell? ⟨N11, 9, none⟩ = some (.bool false) := HBk.out.cellL 9 rfl
  have f9 : ∀ e : Later V20_, e.x.frozen? ⟨N11, 9, none⟩ = false := fun e => (HBk.out.later e).frozen 9
  obtain ⟨e, he⟩ := Later.self V20_
  rw [he]
  clear he
  go_upto_region 23 with fail
  generalize hY : World.setCell _ ⟨N11, 9, none⟩ _ = V22_
  have HBk' : Hid (Blk V22_ N11 57 #[.bool bh, .bool bg, .int .i64 br, .int .i64 EN.sch, str EN.name, .int .u64 (EN.node : Int), .int .u64 (EN.svc : Int), .int .u64 ((((t.ch 1).ch 3).ch 0).n : Int), .int .u64 ((((t.ch 1).ch 3).ch 1).n : Int), .bool true, .int .u64 0, .int .u64 0]) := hid (by rw [← hY]; exact ((HBk.out.later e).set_ 9 _))
  have HM' : Hid (Mod [N11] V5 V22_) := hid (by rw [← hY]; exact ((HM.out.trans (e.h.mono (by simp))).setCell (.inl (by simp)) _))
  have HM0' : Hid (Mod [N11] V14 V22_) := hid (by rw [← hY]; exact ((HM0.out.trans (e.h.mono (by simp))).setCell (.inl (by simp)) _))
  clear hY HBk HM HM0 e c9 f9 
  have HBk := HBk'
  have HM := HM'
  have HM0 := HM0'
  clear HBk' HM' HM0'
  have s1 : ∀ e : Later V22_, e.x.cell? ⟨b1, o1 + 20 + 1, none⟩ = some (.int .u64 (((t.ch 1).ch 4).n : Int)) := fun e => by
    have := (At5.mod I4.out (HM.out.trans (e.h.mono (by simp))) hb1 (by have := HNN.out; simp; omega)).2.1
    first | exact this | (rwa [show o1 + 4 * 5 = o1 + 20 by omega] at this)
  have c10 : ∀ e : Later V22_, e.x.cell? ⟨N11, 10, none⟩ = some (.int .u64 0) := HBk.out.cellL 10 rfl
  have f10 : ∀ e : Later V22_, e.x.frozen? ⟨N11, 10, none⟩ = false := fun e => (HBk.out.later e).frozen 10
  obtain ⟨e, he⟩ := Later.self V22_
  rw [he]
  clear he
  go_upto_region 24 with fail
  generalize hY : World.setCell _ ⟨N11, 10, none⟩ _ = V23_
  have HBk' : Hid (Blk V23_ N11 57 #[.bool bh, .bool bg, .int .i64 br, .int .i64 EN.sch, str EN.name, .int .u64 (EN.node : Int), .int .u64 (EN.svc : Int), .int .u64 ((((t.ch 1).ch 3).ch 0).n : Int), .int .u64 ((((t.ch 1).ch 3).ch 1).n : Int), .bool true, .int .u64 (((t.ch 1).ch 4).n : Int), .int .u64 0]) := hid (by rw [← hY]; exact ((HBk.out.later e).set_ 10 _))
  have HM' : Hid (Mod [N11] V5 V23_) := hid (by rw [← hY]; exact ((HM.out.trans (e.h.mono (by simp))).setCell (.inl (by simp)) _))
  have HM0' : Hid (Mod [N11] V14 V23_) := hid (by rw [← hY]; exact ((HM0.out.trans (e.h.mono (by simp))).setCell (.inl (by simp)) _))
  clear hY HBk HM HM0 e c10 f10 s1
  have HBk := HBk'
  have HM := HM'
  have HM0 := HM0'
  clear HBk' HM' HM0'
  have s1 : ∀ e : Later V23_, e.x.cell? ⟨b1, o1 + 25 + 1, none⟩ = some (.int .u64 (((t.ch 1).ch 5).n : Int)) := fun e => by
    have := (At5.mod I5.out (HM.out.trans (e.h.mono (by simp))) hb1 (by have := HNN.out; simp; omega)).2.1
    first | exact this | (rwa [show o1 + 5 * 5 = o1 + 25 by omega] at this)
  have c11 : ∀ e : Later V23_, e.x.cell? ⟨N11, 11, none⟩ = some (.int .u64 0) := HBk.out.cellL 11 rfl
  have f11 : ∀ e : Later V23_, e.x.frozen? ⟨N11, 11, none⟩ = false := fun e => (HBk.out.later e).frozen 11
  obtain ⟨e, he⟩ := Later.self V23_
  rw [he]
  clear he
  go_upto_region 25 with fail
  generalize hY : World.setCell _ ⟨N11, 11, none⟩ _ = V24_
  have HBk' : Hid (Blk V24_ N11 57 #[.bool bh, .bool bg, .int .i64 br, .int .i64 EN.sch, str EN.name, .int .u64 (EN.node : Int), .int .u64 (EN.svc : Int), .int .u64 ((((t.ch 1).ch 3).ch 0).n : Int), .int .u64 ((((t.ch 1).ch 3).ch 1).n : Int), .bool true, .int .u64 (((t.ch 1).ch 4).n : Int), .int .u64 (((t.ch 1).ch 5).n : Int)]) := hid (by rw [← hY]; exact ((HBk.out.later e).set_ 11 _))
  have HM' : Hid (Mod [N11] V5 V24_) := hid (by rw [← hY]; exact ((HM.out.trans (e.h.mono (by simp))).setCell (.inl (by simp)) _))
  have HM0' : Hid (Mod [N11] V14 V24_) := hid (by rw [← hY]; exact ((HM0.out.trans (e.h.mono (by simp))).setCell (.inl (by simp)) _))
  clear hY HBk HM HM0 e c11 f11 s1
  have HBk := HBk'
  have HM := HM'
  have HM0 := HM0'
  clear HBk' HM' HM0'
  obtain ⟨r, hr⟩ : ∃ r : RV, r = ⟨bh, bg, br, ⟨EN, (((t.ch 1).ch 3).ch 0).n, (((t.ch 1).ch 3).ch 1).n, true, ((t.ch 1).ch 4).n, ((t.ch 1).ch 5).n⟩⟩ := ⟨_, rfl⟩
  have HBk : Hid (Blk V24_ N11 57 #[.bool r.here, .bool r.gone, .int .i64 r.reason, .int .i64 r.of.src.sch, str r.of.src.name, .int .u64 (r.of.src.node : Int), .int .u64 (r.of.src.svc : Int), .int .u64 (r.of.t : Int), .int .u64 (r.of.q : Int), .bool r.of.fr, .int .u64 (r.of.o : Int), .int .u64 (r.of.n : Int)]) := hid (by rw [hr]; exact HBk.out)
  have HRR : refRep t = r := by
    rw [hr]
    unfold refRep
    rw [← Hbh.out, ← Hbg.out, ← Hbr.out, ← HEN.out]
    simp only [HKB.out]
    rfl
  rw [HRR] at HRB
  have HRE := hid (HRE.out.trans HRR)
  have HRV0 : Hid (repB t = false → repRV t = .tuple #[repV zeroR, .bool false]) := hid repRV_no
  have HRV1 : Hid (repB t = true → repRV t = .tuple #[repV r, .bool true]) := hid (fun h => by rw [repRV_yes h, HRE.out])
  have HB0 : Hid (Blk V24_ w.heap.size 57 #[.bool false, .bool false, .int .i64 0, .int .i64 0, .string ⟨#[]⟩, .int .u64 0, .int .u64 0, .int .u64 0, .int .u64 0, .bool false, .int .u64 0, .int .u64 0]) := hid (HB0.out.mod HM0.out (by have := HSN.out; simp; omega))
  have HB4 : Hid (Blk V24_ n4 57 #[.bool false, .bool false, .int .i64 0, .int .i64 0, .string ⟨#[]⟩, .int .u64 0, .int .u64 0, .int .u64 0, .int .u64 0, .bool false, .int .u64 0, .int .u64 0]) := hid (HB4.out.mod HM0.out (by have := HSN.out; simp; omega))
  have HE : Hid (Ext w V24_) := hid ((HE14.out.of_ext.trans HM0.out).new (fun k hk => .inr (by have := HSN.out; rw [List.mem_singleton] at hk; omega)))
  clear HRR hr Hbh Hbg Hbr HEN HE14 HM HM0 I0 I1 I3 J0 J1 M0 M1 HNN HSN HB7 HL5 HK2 HKB HK0 HK3 BE
  have KRt := hid (fun W => r25Right_any r W)
  have HBL : Hid (∀ e : Later V24_, Blk e.x N11 57 #[.bool r.here, .bool r.gone, .int .i64 r.reason, .int .i64 r.of.src.sch, str r.of.src.name, .int .u64 (r.of.src.node : Int), .int .u64 (r.of.src.svc : Int), .int .u64 (r.of.t : Int), .int .u64 (r.of.q : Int), .bool r.of.fr, .int .u64 (r.of.o : Int), .int .u64 (r.of.n : Int)]) := hid (fun e => HBk.out.later e)
  cases hR : r.right with
  | false =>
    rw [hR] at KRt
    have hB : repB t = false := by rw [HRB.out, hR]; rfl
    have HP := hid (HRV0.out hB)
    clear hR hB
    obtain ⟨e, he⟩ := Later.self V24_
    rw [he]
    clear he
    have tk1 : True := trivial
    go_upto_region 26 with (first | (clear tk1; refine wpList_row (by rfl) 57 _ rfl _ rfl (HBL.out _) Try.underlying57 rfl (by kernel_rfl) ?_) | (go_at_call 24; refine (Ret.later (KRt.out _)).mono ?_; rintro x _ ⟨rfl, e, rfl⟩))
    have HZL : Hid (∀ e : Later V24_, Blk e.x n4 57 #[.bool false, .bool false, .int .i64 0, .int .i64 0, .string ⟨#[]⟩, .int .u64 0, .int .u64 0, .int .u64 0, .int .u64 0, .bool false, .int .u64 0, .int .u64 0]) := hid (fun e => HB4.out.later e)
    have tk1 : True := trivial
    go_wp2_with (first | (clear tk1; refine wpList_row (by rfl) 57 _ rfl _ rfl (HZL.out _) Try.underlying57 rfl (by kernel_rfl) ?_) | (refine wpList_store_mid rfl 57 _ _ rfl w.heap.size 0 #[.bool false, .bool false, .int .i64 0, .int .i64 0, .string ⟨#[]⟩, .int .u64 0, .int .u64 0, .int .u64 0, .int .u64 0, .bool false, .int .u64 0, .int .u64 0] (by rfl) (by rfl) ((HB0.out.later e).there (Nat.le_refl 12)) (by kernel_rfl) (by simp [Value.oneCell']) ?_))
    generalize hZZ : World.setCells _ _ _ _ = ZZ
    have HZB : Hid (Blk ZZ w.heap.size 57 #[.bool false, .bool false, .int .i64 0, .int .i64 0, .string ⟨#[]⟩, .int .u64 0, .int .u64 0, .int .u64 0, .int .u64 0, .bool false, .int .u64 0, .int .u64 0]) := hid (by rw [← hZZ]; exact setCells_all (ds := #[.bool false, .bool false, .int .i64 0, .int .i64 0, .string ⟨#[]⟩, .int .u64 0, .int .u64 0, .int .u64 0, .int .u64 0, .bool false, .int .u64 0, .int .u64 0]) (HB0.out.later e) rfl)
    have HZM : Hid (Ext w ZZ) := hid (by rw [← hZZ]; exact setCells_mod _ _ (HE.out.trans e.h) (.inr (by omega)))
    clear hZZ
    refine bodyPost_ret (results_cell2 rfl _ (by rfl) rfl HZB.out Try.underlying57 rfl (by kernel_rfl)) rfl (Ret.mk (by rw [HP.out]; rfl) HZM.out)
  | true =>
    rw [hR] at KRt
    rw [hR, Bool.true_and] at HRB
    have KBy := hid (fun W => r25Bytes_any r hR W)
    clear hR
    generalize r.bytes = B at *
    by_cases hB : B = l
    · rw [hB, decide_eq_true rfl] at HRB
      have HP := hid (HRV1.out HRB.out)
      subst hB
      obtain ⟨e, he⟩ := Later.self V24_
      rw [he]
      clear he
      have tk1 : True := trivial
      have tk2 : True := trivial
      have tk3 : True := trivial
      go_upto_region 27 with (first | (clear tk1; refine wpList_row (by rfl) 57 _ rfl _ rfl (HBL.out _) Try.underlying57 rfl (by kernel_rfl) ?_) | (clear tk2; refine wpList_row (by rfl) 57 _ rfl _ rfl (HBL.out _) Try.underlying57 rfl (by kernel_rfl) ?_) | (go_at_call 24; refine (Ret.later (KRt.out _)).mono ?_; rintro x _ ⟨rfl, e, rfl⟩) | (go_at_call 28; refine (Ret.later (KBy.out _)).mono ?_; rintro x _ ⟨rfl, e, rfl⟩))
      go_wp2_with (first | (clear tk3; refine wpList_row (by rfl) 57 _ rfl _ rfl (HBL.out _) Try.underlying57 rfl (by kernel_rfl) ?_) | (refine wpList_store_mid rfl 57 _ _ rfl w.heap.size 0 #[.bool r.here, .bool r.gone, .int .i64 r.reason, .int .i64 r.of.src.sch, str r.of.src.name, .int .u64 (r.of.src.node : Int), .int .u64 (r.of.src.svc : Int), .int .u64 (r.of.t : Int), .int .u64 (r.of.q : Int), .bool r.of.fr, .int .u64 (r.of.o : Int), .int .u64 (r.of.n : Int)] (by rfl) (by rfl) ((HB0.out.later e).there (Nat.le_refl 12)) (by kernel_rfl) (by simp [Value.oneCell']) ?_))
      generalize hZZ : World.setCells _ _ _ _ = ZZ
      have HZB : Hid (Blk ZZ w.heap.size 57 #[.bool r.here, .bool r.gone, .int .i64 r.reason, .int .i64 r.of.src.sch, str r.of.src.name, .int .u64 (r.of.src.node : Int), .int .u64 (r.of.src.svc : Int), .int .u64 (r.of.t : Int), .int .u64 (r.of.q : Int), .bool r.of.fr, .int .u64 (r.of.o : Int), .int .u64 (r.of.n : Int)]) := hid (by rw [← hZZ]; exact setCells_all (ds := #[.bool r.here, .bool r.gone, .int .i64 r.reason, .int .i64 r.of.src.sch, str r.of.src.name, .int .u64 (r.of.src.node : Int), .int .u64 (r.of.src.svc : Int), .int .u64 (r.of.t : Int), .int .u64 (r.of.q : Int), .bool r.of.fr, .int .u64 (r.of.o : Int), .int .u64 (r.of.n : Int)]) (HB0.out.later e) rfl)
      have HZM : Hid (Ext w ZZ) := hid (by rw [← hZZ]; exact setCells_mod _ _ (HE.out.trans e.h) (.inr (by omega)))
      clear hZZ
      refine bodyPost_ret (results_cell2 rfl _ (by rfl) rfl HZB.out Try.underlying57 rfl (by kernel_rfl)) rfl (Ret.mk (by rw [HP.out]; rfl) HZM.out)
    · rw [decide_eq_false hB] at HRB
      have HP := hid (HRV0.out HRB.out)
      have t1a : ((B) == (l)) = false := by rw [beq_eq_false_iff_ne]; exact hB
      have t1b : ((B) = (l)) = False := eq_false (by exact hB)
      have t1c : ((B) != (l)) = true := by rw [bne_iff_ne]; exact hB
      clear hB
      obtain ⟨e, he⟩ := Later.self V24_
      rw [he]
      clear he
      have tk1 : True := trivial
      have tk2 : True := trivial
      go_upto_region 26 with (first | (clear tk1; refine wpList_row (by rfl) 57 _ rfl _ rfl (HBL.out _) Try.underlying57 rfl (by kernel_rfl) ?_) | (clear tk2; refine wpList_row (by rfl) 57 _ rfl _ rfl (HBL.out _) Try.underlying57 rfl (by kernel_rfl) ?_) | (go_at_call 24; refine (Ret.later (KRt.out _)).mono ?_; rintro x _ ⟨rfl, e, rfl⟩) | (go_at_call 28; refine (Ret.later (KBy.out _)).mono ?_; rintro x _ ⟨rfl, e, rfl⟩))
      have HZL : Hid (∀ e : Later V24_, Blk e.x n4 57 #[.bool false, .bool false, .int .i64 0, .int .i64 0, .string ⟨#[]⟩, .int .u64 0, .int .u64 0, .int .u64 0, .int .u64 0, .bool false, .int .u64 0, .int .u64 0]) := hid (fun e => HB4.out.later e)
      have tk1 : True := trivial
      go_wp2_with (first | (clear tk1; refine wpList_row (by rfl) 57 _ rfl _ rfl (HZL.out _) Try.underlying57 rfl (by kernel_rfl) ?_) | (refine wpList_store_mid rfl 57 _ _ rfl w.heap.size 0 #[.bool false, .bool false, .int .i64 0, .int .i64 0, .string ⟨#[]⟩, .int .u64 0, .int .u64 0, .int .u64 0, .int .u64 0, .bool false, .int .u64 0, .int .u64 0] (by rfl) (by rfl) ((HB0.out.later e).there (Nat.le_refl 12)) (by kernel_rfl) (by simp [Value.oneCell']) ?_))
      generalize hZZ : World.setCells _ _ _ _ = ZZ
      have HZB : Hid (Blk ZZ w.heap.size 57 #[.bool false, .bool false, .int .i64 0, .int .i64 0, .string ⟨#[]⟩, .int .u64 0, .int .u64 0, .int .u64 0, .int .u64 0, .bool false, .int .u64 0, .int .u64 0]) := hid (by rw [← hZZ]; exact setCells_all (ds := #[.bool false, .bool false, .int .i64 0, .int .i64 0, .string ⟨#[]⟩, .int .u64 0, .int .u64 0, .int .u64 0, .int .u64 0, .bool false, .int .u64 0, .int .u64 0]) (HB0.out.later e) rfl)
      have HZM : Hid (Ext w ZZ) := hid (by rw [← hZZ]; exact setCells_mod _ _ (HE.out.trans e.h) (.inr (by omega)))
      clear hZZ
      refine bodyPost_ret (results_cell2 rfl _ (by rfl) rfl HZB.out Try.underlying57 rfl (by kernel_rfl)) rfl (Ret.mk (by rw [HP.out]; rfl) HZM.out)
noncomputable def q25V (l : List UInt8) : Value := .tuple #[repV ((repO l).getD zeroR), .bool (repO l).isSome]
theorem q25_no {l : List UInt8} (h : repO l = none) : q25V l = .tuple #[repV zeroR, .bool false] := by unfold q25V; rw [h]; rfl
theorem q25Parse_any (l : List UInt8) (hl : l.length ≤ 10000) (w : World) : Calls Try.prog 29 #[str l] w (Ret (q25V l) w) := by
  obtain ⟨q, hq⟩ : ∃ q, q = (flt 8 l).1 := ⟨_, rfl⟩
  obtain ⟨E, hE⟩ : ∃ E, E = (flt 8 l).2 := ⟨_, rfl⟩
  have hf : flt 8 l = (q, E) := by rw [hq, hE]
  have hql : q ≤ l.length := by rw [hq]; exact flt_le 8 l
  have hP : parseR l = if E = 0 ∧ q < l.length then (q, 2) else (q, E) := by unfold parseR; rw [hf]
  by_cases h0 : E = 0
  · subst h0
    by_cases hlt : q < l.length
    · rw [q25_no (repO_bad (by rw [hP, if_pos ⟨rfl, hlt⟩]; show (2 : Int) ≠ 0; omega))]
      exact q25_len l (by omega) w q hf (by omega)
    · rw [if_neg (fun h => hlt h.2)] at hP
      obtain ⟨t, hr, hok, rfl⟩ := rtree l (by omega) w (by rw [hP])
      have hs : t.size ≤ 100000 := by have := T.size_le t (T.plain_of hr); omega
      have hl1 : t.bytes.length ≤ 1073741824 := by omega
      by_cases h1 : t.k = 2
      case neg =>
        rw [q25_no (rep_shape hr hok (fun h => h1 h.1))]
        exact q25_two t hr hok hs hl1 h1 w
      by_cases h2 : (t.ch 1).k = 4 ∨ (t.ch 1).k = 6
      case neg =>
        rw [q25_no (rep_shape hr hok (fun h => h2 h.2.1))]
        exact q25_body t hr hok hs hl1 h1 (fun h => h2 (.inl h)) (fun h => h2 (.inr h)) w
      by_cases h3 : ((t.ch 1).ch 0).k = 2
      case neg =>
        rw [q25_no (rep_shape hr hok (fun h => h3 h.2.2.1))]
        rcases h2 with h2 | h2
        · exact q25_c4 t hr hok hs hl1 h1 h2 h3 w
        · exact q25_c6 t hr hok hs hl1 h1 h2 h3 w
      by_cases h4 : ((t.ch 1).ch 3).k = 2
      case neg =>
        rw [q25_no (rep_shape hr hok (fun h => h4 h.2.2.2.1))]
        rcases h2 with h2 | h2
        · exact q25_d4 t hr hok hs hl1 h1 h2 h3 h4 w
        · exact q25_d6 t hr hok hs hl1 h1 h2 h3 h4 w
      by_cases h5 : ofB ((t.ch 1).ch 2) = true
      case neg =>
        rw [q25_no (rep_shape hr hok (fun h => h5 h.2.2.2.2))]
        rcases h2 with h2 | h2
        · exact q25_e4 t hr hok hs hl1 h1 h2 h3 h4 (by simpa using h5) w
        · exact q25_e6 t hr hok hs hl1 h1 h2 h3 h4 (by simpa using h5) w
      have hV : q25V t.bytes = repRV t := by
        unfold q25V repRV
        rw [repO_tree hr hok]
        cases repB t <;> rfl
      rw [hV]
      rcases h2 with h2 | h2
      · exact q25_g4 t hr hok hs hl1 h1 h2 h3 h4 h5 w
      · exact q25_g6 t hr hok hs hl1 h1 h2 h3 h4 h5 w
  · rw [if_neg (fun h => h0 h.1)] at hP
    rw [q25_no (repO_bad (by rw [hP]; exact h0))]
    exact q25_err l (by omega) w q E hf h0
end Go.Proofs.Ytogjghmoankleaa


namespace Go.Proofs.Ytogjghmoankleaa
open Go.RowKit
set_option linter.unusedVariables false
set_option linter.unusedSimpArgs false

theorem few10L_any (e : EV) (w : World) : Calls Try.prog 23 #[.agg #[.int .i64 e.sch, str e.name, .int .u64 (e.node : Int), .int .u64 (e.svc : Int)]] w (Ret (.bool (decide (e.name.length ≤ 100))) w) := by
  go_enter Try.func23, Try.ntmps23
  go_wp2
  go_ret
  refine Ret.mk ?_ ((Mod.refl _ _).alloc _)
  simp
  omega
def PV.few (p : PV) : Bool := decide (p.d.name.length ≤ 100) && decide (p.s.name.length ≤ 100) && decide (p.r.name.length ≤ 100)
set_option maxRecDepth 20000 in
set_option maxHeartbeats 800000 in
theorem few11P_any (p : PV) (w : World) : Calls Try.prog 31 #[.agg p.c] w (Ret (.bool p.few) w) := by
  have HE := hid ((Mod.refl [] w).alloc (.cells p.c 68))
  have HB := hid (Blk.new w 68 p.c)
  have HF : Hid (p.few = (decide (p.d.name.length ≤ 100) && decide (p.s.name.length ≤ 100) && decide (p.r.name.length ≤ 100))) := rfl
  have K1 := hid (fun W => few10L_any p.d W)
  have K2 := hid (fun W => few10L_any p.s W)
  have K3 := hid (fun W => few10L_any p.r W)
  cases h1 : decide (p.d.name.length ≤ 100)
  all_goals cases h2 : decide (p.s.name.length ≤ 100)
  all_goals cases h3 : decide (p.r.name.length ≤ 100)
  all_goals rw [h1] at K1 HF
  all_goals rw [h2] at K2 HF
  all_goals rw [h3] at K3 HF
  all_goals clear h1 h2 h3
  all_goals go_enter Try.func31, Try.ntmps31
  all_goals go_upto_region 1 with fail
  all_goals generalize w.alloc (.cells p.c 68) = V at *
  all_goals have b2 : ∀ e : Later V, e.x.cell? ⟨w.heap.size, 2, none⟩ = some (.int .i64 p.d.sch) := HB.out.cellL 2 rfl
  all_goals have b3 : ∀ e : Later V, e.x.cell? ⟨w.heap.size, 3, none⟩ = some (str p.d.name) := HB.out.cellL 3 rfl
  all_goals have b4 : ∀ e : Later V, e.x.cell? ⟨w.heap.size, 4, none⟩ = some (.int .u64 (p.d.node : Int)) := HB.out.cellL 4 rfl
  all_goals have b5 : ∀ e : Later V, e.x.cell? ⟨w.heap.size, 5, none⟩ = some (.int .u64 (p.d.svc : Int)) := HB.out.cellL 5 rfl
  all_goals have b6 : ∀ e : Later V, e.x.cell? ⟨w.heap.size, 6, none⟩ = some (.int .i64 p.s.sch) := HB.out.cellL 6 rfl
  all_goals have b7 : ∀ e : Later V, e.x.cell? ⟨w.heap.size, 7, none⟩ = some (str p.s.name) := HB.out.cellL 7 rfl
  all_goals have b8 : ∀ e : Later V, e.x.cell? ⟨w.heap.size, 8, none⟩ = some (.int .u64 (p.s.node : Int)) := HB.out.cellL 8 rfl
  all_goals have b9 : ∀ e : Later V, e.x.cell? ⟨w.heap.size, 9, none⟩ = some (.int .u64 (p.s.svc : Int)) := HB.out.cellL 9 rfl
  all_goals have b10 : ∀ e : Later V, e.x.cell? ⟨w.heap.size, 10, none⟩ = some (.int .i64 p.r.sch) := HB.out.cellL 10 rfl
  all_goals have b11 : ∀ e : Later V, e.x.cell? ⟨w.heap.size, 11, none⟩ = some (str p.r.name) := HB.out.cellL 11 rfl
  all_goals have b12 : ∀ e : Later V, e.x.cell? ⟨w.heap.size, 12, none⟩ = some (.int .u64 (p.r.node : Int)) := HB.out.cellL 12 rfl
  all_goals have b13 : ∀ e : Later V, e.x.cell? ⟨w.heap.size, 13, none⟩ = some (.int .u64 (p.r.svc : Int)) := HB.out.cellL 13 rfl
  all_goals obtain ⟨e0, he0⟩ := Later.self V
  all_goals rw [he0]
  all_goals clear he0
  all_goals go_wp2_with (go_at_call 23; first | ((with_reducible refine (Ret.later (K1.out _)).mono ?_); rintro x _ ⟨rfl, e1, rfl⟩) | ((with_reducible refine (Ret.later (K2.out _)).mono ?_); rintro x _ ⟨rfl, e1, rfl⟩) | ((with_reducible refine (Ret.later (K3.out _)).mono ?_); rintro x _ ⟨rfl, e1, rfl⟩))
  all_goals go_ret
  all_goals exact Ret.mk (by rw [HF.out]; rfl) (HE.out.trans e1.h)
def bsFew (bs : Nat → BV) (i : Nat) : Bool := decide (4100 < (bs i).data.length)
def bunFew (p : PV) (bs : Nat → BV) (k : Nat) : Bool := decide (k ≤ 20) && ((firstOf (bsFew bs) k).isNone && p.few)
theorem bunFew_spec {p : PV} {bs : Nat → BV} {k : Nat} (h : bunFew p bs k = true) : k ≤ 20 ∧ p.few = true ∧ ∀ i, i < k → (bs i).data.length ≤ 4100 := by
  unfold bunFew at h
  simp only [Bool.and_eq_true, decide_eq_true_eq] at h
  refine ⟨h.1, h.2.2, fun i hi => ?_⟩
  cases hf : firstOf (bsFew bs) k with
  | some x => rw [hf] at h; simp at h
  | none =>
    have := firstOf_no hf i hi
    unfold bsFew at this
    simp at this
    exact this
theorem bunFew_long {p : PV} {bs : Nat → BV} {k i : Nat} (hi : i < k) (h : 4100 < (bs i).data.length) : bunFew p bs k = false := by
  cases hb : bunFew p bs k with
  | false => rfl
  | true => have := (bunFew_spec hb).2.2 i hi; omega
end Go.Proofs.Ytogjghmoankleaa


namespace Go.Proofs.Ytogjghmoankleaa
open Go.RowKit
set_option linter.unusedVariables false
set_option linter.unusedSimpArgs false

theorem RV.bytes_len {r : RV} (h : r.right = true) : r.bytes.length ≤ 100000 := by
  have := (RV.tree_all h).2.2
  have := T.bytes_le r.tree
  unfold RV.bytes; omega
set_option maxRecDepth 20000 in
set_option maxHeartbeats 3200000 in
theorem lawRepBuilds_any (r : RV) (hn : r.of.t < 18446744073709551616 ∧ r.of.q < 18446744073709551616 ∧ r.of.o < 18446744073709551616 ∧ r.of.n < 18446744073709551616) (w : World) : Calls Try.prog 6 #[repV r] w (Ret (.bool true) w) := by
  have HE := hid ((Mod.refl [] w).alloc (.cells (repC r) 57))
  have HB0 : Hid (Blk (w.alloc (.cells (repC r) 57)) w.heap.size 57 (repC r)) := hid (Blk.new w 57 (repC r))
  have KF := hid (fun W => few10L_any r.of.src W)
  have KA := hid (fun W => awake25_any W)
  have KR := hid (fun W => r25Right_any r W)
  have HRE : Hid (∀ e : Later (w.alloc (.cells (repC r) 57)), e.x.rangeAt w.heap.size 3 [.int .i64 r.of.src.sch, str r.of.src.name, .int .u64 (r.of.src.node : Int), .int .u64 (r.of.src.svc : Int)]) := HB0.out.range 3 4 (by rfl)
  have HBL : Hid (∀ e : Later (w.alloc (.cells (repC r) 57)), Blk e.x w.heap.size 57 (repC r)) := hid (fun e => HB0.out.later e)
  go_enter Try.func6, Try.ntmps6
  go_upto_region 1 with fail
  generalize (w.alloc (.cells (repC r) 57)) = V at *
  obtain ⟨e, he⟩ := Later.self V
  rw [he]
  clear he
  have tk0 : True := trivial
  cases hf : decide (r.of.src.name.length ≤ 100) with
  | false =>
    rw [hf] at KF
    clear hf
    go_wp2_with (first | (clear tk0; refine wpList_mid (by rfl) 26 _ rfl _ 3 rfl _ _ (HRE.out _) Try.underlying26 rfl (by kernel_rfl) ?_) | (go_at_call 22; refine (Ret.later (KA.out _)).mono ?_; rintro x _ ⟨rfl, e, rfl⟩) | (go_at_call 23; refine (Ret.later (KF.out _)).mono ?_; rintro x _ ⟨rfl, e, rfl⟩))
    go_ret
    exact Ret.mk rfl (HE.out.trans e.h)
  | true =>
    rw [hf] at KF
    have hfl : r.of.src.name.length ≤ 100 := by simpa using hf
    have hw : r.of.wf := ⟨hn.1, hn.2.1, hn.2.2.1, hn.2.2.2, by omega⟩
    have KB := hid (fun W => repBuild_any r hw W)
    have KG := hid (fun W => repRight_any r hw W)
    clear hf hfl hw
    go_upto_region 3 with (first | (clear tk0; refine wpList_mid (by rfl) 26 _ rfl _ 3 rfl _ _ (HRE.out _) Try.underlying26 rfl (by kernel_rfl) ?_) | (go_at_call 22; refine (Ret.later (KA.out _)).mono ?_; rintro x _ ⟨rfl, e, rfl⟩) | (go_at_call 23; refine (Ret.later (KF.out _)).mono ?_; rintro x _ ⟨rfl, e, rfl⟩))
    have tk1 : True := trivial
    go_upto_region 4 with (first | (clear tk1; refine wpList_row (by rfl) 57 _ rfl _ rfl (HBL.out _) Try.underlying57 rfl (by kernel_rfl) ?_) | (go_at_call 24; refine (Ret.later (KR.out _)).mono ?_; rintro x _ ⟨rfl, e, rfl⟩))
    cases hr : r.right with
    | false =>
      have KB : Hid (∀ W, Calls Try.prog 25 #[repV r] W (Ret (.tuple #[str [], .int .i64 1]) W)) := hid (fun W => by have := KB.out W; unfold rbuildV at this; rw [hr] at this; exact this)
      rw [hr] at KG
      clear hr
      have tk1 : True := trivial
      go_upto_region 5 with (first | (clear tk1; refine wpList_row (by rfl) 57 _ rfl _ rfl (HBL.out _) Try.underlying57 rfl (by kernel_rfl) ?_) | (go_at_call 25; refine (Ret.later (KB.out _)).mono ?_; rintro x _ ⟨rfl, e, rfl⟩))
      have tk1 : True := trivial
      go_wp2_with (first | (clear tk1; refine wpList_row (by rfl) 57 _ rfl _ rfl (HBL.out _) Try.underlying57 rfl (by kernel_rfl) ?_) | (go_at_call 26; refine (Ret.later (KG.out _)).mono ?_; rintro x _ ⟨rfl, e, rfl⟩))
      go_ret
      exact Ret.mk rfl (HE.out.trans e.h)
    | true =>
      have KB : Hid (∀ W, Calls Try.prog 25 #[repV r] W (Ret (.tuple #[str r.bytes, .int .i64 0]) W)) := hid (fun W => by have := KB.out W; unfold rbuildV at this; rw [hr] at this; exact this)
      rw [hr] at KG
      have KP : Hid (∀ W, Calls Try.prog 27 #[str r.bytes] W (Ret (.tuple #[repV r, .int .i64 0]) W)) := hid (fun W => by have := repParse_any r.bytes (by have := RV.bytes_len hr; omega) W; rw [rparse_some (repO_some hr)] at this; exact this)
      have KY := hid (fun W => r25Bytes_any r hr W)
      clear hr
      obtain ⟨zc, hzc⟩ : ∃ zc : Array Value, zc = #[.bool r.here, .bool r.gone, .int .i64 r.reason, .int .i64 r.of.src.sch, str r.of.src.name, .int .u64 (r.of.src.node : Int), .int .u64 (r.of.src.svc : Int), .int .u64 (r.of.t : Int), .int .u64 (r.of.q : Int), .bool r.of.fr, .int .u64 (r.of.o : Int), .int .u64 (r.of.n : Int)] := ⟨_, rfl⟩
      have HZS : Hid ((Try.prog.info? 57).map (·.size) = some zc.size) := hid (by rw [hzc]; kernel_rfl)
      have HZ1 : Hid (zc.all (·.oneCell') = true) := hid (by rw [hzc]; simp [Value.oneCell'])
      have HZ2 : Hid (zc.size ≤ 12) := hid (by rw [hzc]; exact Nat.le_refl 12)
      have HZC := hid hzc
      have KP : Hid (∀ W, Calls Try.prog 27 #[str r.bytes] W (Ret (.tuple #[.agg zc, .int .i64 0]) W)) := hid (by rw [hzc]; exact KP.out)
      clear hzc
      generalize r.bytes = B at *
      have tk1 : True := trivial
      go_upto_region 5 with (first | (clear tk1; refine wpList_row (by rfl) 57 _ rfl _ rfl (HBL.out _) Try.underlying57 rfl (by kernel_rfl) ?_) | (go_at_call 25; refine (Ret.later (KB.out _)).mono ?_; rintro x _ ⟨rfl, e, rfl⟩))
      have tk1 : True := trivial
      go_upto_region 9 with (first | (clear tk1; refine wpList_row (by rfl) 57 _ rfl _ rfl (HBL.out _) Try.underlying57 rfl (by kernel_rfl) ?_) | (go_at_call 26; refine (Ret.later (KG.out _)).mono ?_; rintro x _ ⟨rfl, e, rfl⟩))
      go_upto_region 10 with (first | (go_at_call 27; refine (KP.out _).mono ?_; rintro x w2 ⟨rfl, hb⟩; have HX := hid (e.h.trans hb); clear hb) | (refine wpList_store_mid rfl 57 _ _ rfl w2.heap.size 0 zc (by rfl) (by rfl) ((Blk.new _ _ _).there HZ2.out) HZS.out HZ1.out ?_))
      generalize hV2 : World.setCells _ _ _ _ = V2
      have HB2 : Hid (Blk V2 w2.heap.size 57 #[.bool r.here, .bool r.gone, .int .i64 r.reason, .int .i64 r.of.src.sch, str r.of.src.name, .int .u64 (r.of.src.node : Int), .int .u64 (r.of.src.svc : Int), .int .u64 (r.of.t : Int), .int .u64 (r.of.q : Int), .bool r.of.fr, .int .u64 (r.of.o : Int), .int .u64 (r.of.n : Int)]) := hid (by rw [← hV2]; rw [← HZC.out]; exact setCells_all (ds := zc) (Blk.new _ _ _) (by rw [HZC.out]; rfl))
      have HX2 : Hid (Ext V V2) := hid (by rw [← hV2]; exact setCells_mod _ _ (HX.out.alloc _) (.inr HX.out.size))
      have HBL : Hid (∀ e : Later V2, Blk e.x w.heap.size 57 #[.bool r.here, .bool r.gone, .int .i64 r.reason, .int .i64 r.of.src.sch, str r.of.src.name, .int .u64 (r.of.src.node : Int), .int .u64 (r.of.src.svc : Int), .int .u64 (r.of.t : Int), .int .u64 (r.of.q : Int), .bool r.of.fr, .int .u64 (r.of.o : Int), .int .u64 (r.of.n : Int)]) := hid (fun e => (HB0.out.ext HX2.out).later e)
      have HBM : Hid (∀ e : Later V2, Blk e.x w2.heap.size 57 #[.bool r.here, .bool r.gone, .int .i64 r.reason, .int .i64 r.of.src.sch, str r.of.src.name, .int .u64 (r.of.src.node : Int), .int .u64 (r.of.src.svc : Int), .int .u64 (r.of.t : Int), .int .u64 (r.of.q : Int), .bool r.of.fr, .int .u64 (r.of.o : Int), .int .u64 (r.of.n : Int)]) := hid (fun e => HB2.out.later e)
      have HE2 := hid (HE.out.trans HX2.out)
      clear hV2 HX HX2 HB0 HE HB2 HRE e
      generalize w2.heap.size = n2 at *
      obtain ⟨e, he⟩ := Later.self V2
      rw [he]
      clear he
      have tk1 : True := trivial
      have tk2 : True := trivial
      have tk3 : True := trivial
      go_wp2_with (first | (clear tk1; refine wpList_row (by rfl) 57 _ rfl _ rfl (HBL.out _) Try.underlying57 rfl (by kernel_rfl) ?_) | (clear tk2; refine wpList_row (by rfl) 57 _ rfl _ rfl (HBM.out _) Try.underlying57 rfl (by kernel_rfl) ?_) | (clear tk3; refine wpList_row (by rfl) 57 _ rfl _ rfl (HBL.out _) Try.underlying57 rfl (by kernel_rfl) ?_) | (go_at_call 28; refine (Ret.later (KY.out _)).mono ?_; rintro x _ ⟨rfl, e, rfl⟩))
      go_ret
      exact Ret.mk (by first | rfl | simp) (HE2.out.trans e.h)
set_option maxRecDepth 20000 in
set_option maxHeartbeats 3200000 in
theorem lawRepParses_two (l : List UInt8) (hl : l.length ≤ 200) (r : RV) (E : Int) (ok : Bool) (hE : (E = 0 ∧ ok = true) ∨ (E = 2 ∧ ok = false)) (KP : ∀ W, Calls Try.prog 27 #[str l] W (Ret (.tuple #[repV r, .int .i64 E]) W)) (KQ : ∀ W, Calls Try.prog 29 #[str l] W (Ret (.tuple #[repV r, .bool ok]) W)) (w : World) : Calls Try.prog 7 #[str l] w (Ret (.bool true) w) := by
  have KP := hid KP
  have KQ := hid KQ
  have KA := hid (fun W => awake25_any W)
  rcases hE with ⟨rfl, rfl⟩ | ⟨rfl, rfl⟩
  · obtain ⟨zc, hzc⟩ : ∃ zc : Array Value, zc = #[.bool r.here, .bool r.gone, .int .i64 r.reason, .int .i64 r.of.src.sch, str r.of.src.name, .int .u64 (r.of.src.node : Int), .int .u64 (r.of.src.svc : Int), .int .u64 (r.of.t : Int), .int .u64 (r.of.q : Int), .bool r.of.fr, .int .u64 (r.of.o : Int), .int .u64 (r.of.n : Int)] := ⟨_, rfl⟩
    have HZS : Hid ((Try.prog.info? 57).map (·.size) = some zc.size) := hid (by rw [hzc]; kernel_rfl)
    have HZ1 : Hid (zc.all (·.oneCell') = true) := hid (by rw [hzc]; simp [Value.oneCell'])
    have HZ2 : Hid (zc.size ≤ 12) := hid (by rw [hzc]; exact Nat.le_refl 12)
    have HZC := hid hzc
    have KP : Hid (∀ W, Calls Try.prog 27 #[str l] W (Ret (.tuple #[.agg zc, .int .i64 0]) W)) := hid (by rw [hzc]; exact KP.out)
    have KQ : Hid (∀ W, Calls Try.prog 29 #[str l] W (Ret (.tuple #[.agg zc, .bool true]) W)) := hid (by rw [hzc]; exact KQ.out)
    clear hzc
    have t1a : decide (200 < l.length) = false := decide_eq_false (by omega)
    have t1b : (200 < l.length) = False := eq_false (by omega)
    have t2a : decide ((200 : Int) < (l.length : Int)) = false := decide_eq_false (by omega)
    have t2b : ((200 : Int) < (l.length : Int)) = False := eq_false (by omega)
    have t3a : decide (l.length > 200) = false := decide_eq_false (by omega)
    have t3b : (l.length > 200) = False := eq_false (by omega)
    clear hl
    go_enter Try.func7, Try.ntmps7
    go_upto_region 3 with (go_at_call 22; first | ((with_reducible refine (Ret.laterW (Mod.refl [] w) (KA.out w)).mono ?_); rintro x _ ⟨rfl, e, rfl⟩) | (refine (Ret.later (KA.out _)).mono ?_; rintro x _ ⟨rfl, e, rfl⟩))
    clear t1a t1b t2a t2b t3a t3b
    go_upto_region 4 with (first | (go_at_call 27; refine (KP.out _).mono ?_; rintro x w1 ⟨rfl, hb⟩; have HX := hid (e.h.trans hb); clear hb) | (refine wpList_store_mid rfl 57 _ _ rfl w1.heap.size 0 zc (by rfl) (by rfl) ((Blk.new _ _ _).there HZ2.out) HZS.out HZ1.out ?_))
    generalize hV : World.setCells _ _ _ _ = V1
    have HB0 : Hid (Blk V1 w1.heap.size 57 #[.bool r.here, .bool r.gone, .int .i64 r.reason, .int .i64 r.of.src.sch, str r.of.src.name, .int .u64 (r.of.src.node : Int), .int .u64 (r.of.src.svc : Int), .int .u64 (r.of.t : Int), .int .u64 (r.of.q : Int), .bool r.of.fr, .int .u64 (r.of.o : Int), .int .u64 (r.of.n : Int)]) := hid (by rw [← hV]; rw [← HZC.out]; exact setCells_all (ds := zc) (Blk.new _ _ _) (by rw [HZC.out]; rfl))
    have HX0 : Hid (Ext w V1) := hid (by rw [← hV]; exact setCells_mod _ _ (HX.out.alloc _) (.inr HX.out.size))
    clear hV HX e
    generalize w1.heap.size = n0 at *
    obtain ⟨e, he⟩ := Later.self V1
    rw [he]
    clear he
    go_upto_region 5 with (first | (go_at_call 29; refine (KQ.out _).mono ?_; rintro x w2 ⟨rfl, hb⟩; have HX := hid (e.h.trans hb); clear hb) | (refine wpList_store_mid rfl 57 _ _ rfl w2.heap.size 0 zc (by rfl) (by rfl) ((Blk.new _ _ _).there HZ2.out) HZS.out HZ1.out ?_))
    generalize hV : World.setCells _ _ _ _ = V2
    have HB1 : Hid (Blk V2 w2.heap.size 57 #[.bool r.here, .bool r.gone, .int .i64 r.reason, .int .i64 r.of.src.sch, str r.of.src.name, .int .u64 (r.of.src.node : Int), .int .u64 (r.of.src.svc : Int), .int .u64 (r.of.t : Int), .int .u64 (r.of.q : Int), .bool r.of.fr, .int .u64 (r.of.o : Int), .int .u64 (r.of.n : Int)]) := hid (by rw [← hV]; rw [← HZC.out]; exact setCells_all (ds := zc) (Blk.new _ _ _) (by rw [HZC.out]; rfl))
    have HX1 : Hid (Ext V1 V2) := hid (by rw [← hV]; exact setCells_mod _ _ (HX.out.alloc _) (.inr HX.out.size))
    clear hV HX e
    generalize w2.heap.size = n1 at *
    obtain ⟨e, he⟩ := Later.self V2
    rw [he]
    clear he
    have HBL : Hid (∀ e : Later V2, Blk e.x n0 57 #[.bool r.here, .bool r.gone, .int .i64 r.reason, .int .i64 r.of.src.sch, str r.of.src.name, .int .u64 (r.of.src.node : Int), .int .u64 (r.of.src.svc : Int), .int .u64 (r.of.t : Int), .int .u64 (r.of.q : Int), .bool r.of.fr, .int .u64 (r.of.o : Int), .int .u64 (r.of.n : Int)]) := hid (fun e => (HB0.out.ext HX1.out).later e)
    have HBM : Hid (∀ e : Later V2, Blk e.x n1 57 #[.bool r.here, .bool r.gone, .int .i64 r.reason, .int .i64 r.of.src.sch, str r.of.src.name, .int .u64 (r.of.src.node : Int), .int .u64 (r.of.src.svc : Int), .int .u64 (r.of.t : Int), .int .u64 (r.of.q : Int), .bool r.of.fr, .int .u64 (r.of.o : Int), .int .u64 (r.of.n : Int)]) := hid (fun e => HB1.out.later e)
    have tk1 : True := trivial
    have tk2 : True := trivial
    go_wp2_with (first | (clear tk1; refine wpList_row (by rfl) 57 _ rfl _ rfl (HBL.out _) Try.underlying57 rfl (by kernel_rfl) ?_) | (clear tk2; refine wpList_row (by rfl) 57 _ rfl _ rfl (HBM.out _) Try.underlying57 rfl (by kernel_rfl) ?_))
    go_ret
    exact Ret.mk (by first | rfl | simp) ((HX0.out.trans HX1.out).trans e.h)
  · obtain ⟨zc, hzc⟩ : ∃ zc : Array Value, zc = #[.bool r.here, .bool r.gone, .int .i64 r.reason, .int .i64 r.of.src.sch, str r.of.src.name, .int .u64 (r.of.src.node : Int), .int .u64 (r.of.src.svc : Int), .int .u64 (r.of.t : Int), .int .u64 (r.of.q : Int), .bool r.of.fr, .int .u64 (r.of.o : Int), .int .u64 (r.of.n : Int)] := ⟨_, rfl⟩
    have HZS : Hid ((Try.prog.info? 57).map (·.size) = some zc.size) := hid (by rw [hzc]; kernel_rfl)
    have HZ1 : Hid (zc.all (·.oneCell') = true) := hid (by rw [hzc]; simp [Value.oneCell'])
    have HZ2 : Hid (zc.size ≤ 12) := hid (by rw [hzc]; exact Nat.le_refl 12)
    have HZC := hid hzc
    have KP : Hid (∀ W, Calls Try.prog 27 #[str l] W (Ret (.tuple #[.agg zc, .int .i64 2]) W)) := hid (by rw [hzc]; exact KP.out)
    have KQ : Hid (∀ W, Calls Try.prog 29 #[str l] W (Ret (.tuple #[.agg zc, .bool false]) W)) := hid (by rw [hzc]; exact KQ.out)
    clear hzc
    have t1a : decide (200 < l.length) = false := decide_eq_false (by omega)
    have t1b : (200 < l.length) = False := eq_false (by omega)
    have t2a : decide ((200 : Int) < (l.length : Int)) = false := decide_eq_false (by omega)
    have t2b : ((200 : Int) < (l.length : Int)) = False := eq_false (by omega)
    have t3a : decide (l.length > 200) = false := decide_eq_false (by omega)
    have t3b : (l.length > 200) = False := eq_false (by omega)
    clear hl
    go_enter Try.func7, Try.ntmps7
    go_upto_region 3 with (go_at_call 22; first | ((with_reducible refine (Ret.laterW (Mod.refl [] w) (KA.out w)).mono ?_); rintro x _ ⟨rfl, e, rfl⟩) | (refine (Ret.later (KA.out _)).mono ?_; rintro x _ ⟨rfl, e, rfl⟩))
    clear t1a t1b t2a t2b t3a t3b
    go_upto_region 4 with (first | (go_at_call 27; refine (KP.out _).mono ?_; rintro x w1 ⟨rfl, hb⟩; have HX := hid (e.h.trans hb); clear hb) | (refine wpList_store_mid rfl 57 _ _ rfl w1.heap.size 0 zc (by rfl) (by rfl) ((Blk.new _ _ _).there HZ2.out) HZS.out HZ1.out ?_))
    generalize hV : World.setCells _ _ _ _ = V1
    have HB0 : Hid (Blk V1 w1.heap.size 57 #[.bool r.here, .bool r.gone, .int .i64 r.reason, .int .i64 r.of.src.sch, str r.of.src.name, .int .u64 (r.of.src.node : Int), .int .u64 (r.of.src.svc : Int), .int .u64 (r.of.t : Int), .int .u64 (r.of.q : Int), .bool r.of.fr, .int .u64 (r.of.o : Int), .int .u64 (r.of.n : Int)]) := hid (by rw [← hV]; rw [← HZC.out]; exact setCells_all (ds := zc) (Blk.new _ _ _) (by rw [HZC.out]; rfl))
    have HX0 : Hid (Ext w V1) := hid (by rw [← hV]; exact setCells_mod _ _ (HX.out.alloc _) (.inr HX.out.size))
    clear hV HX e
    generalize w1.heap.size = n0 at *
    obtain ⟨e, he⟩ := Later.self V1
    rw [he]
    clear he
    go_upto_region 5 with (first | (go_at_call 29; refine (KQ.out _).mono ?_; rintro x w2 ⟨rfl, hb⟩; have HX := hid (e.h.trans hb); clear hb) | (refine wpList_store_mid rfl 57 _ _ rfl w2.heap.size 0 zc (by rfl) (by rfl) ((Blk.new _ _ _).there HZ2.out) HZS.out HZ1.out ?_))
    generalize hV : World.setCells _ _ _ _ = V2
    have HB1 : Hid (Blk V2 w2.heap.size 57 #[.bool r.here, .bool r.gone, .int .i64 r.reason, .int .i64 r.of.src.sch, str r.of.src.name, .int .u64 (r.of.src.node : Int), .int .u64 (r.of.src.svc : Int), .int .u64 (r.of.t : Int), .int .u64 (r.of.q : Int), .bool r.of.fr, .int .u64 (r.of.o : Int), .int .u64 (r.of.n : Int)]) := hid (by rw [← hV]; rw [← HZC.out]; exact setCells_all (ds := zc) (Blk.new _ _ _) (by rw [HZC.out]; rfl))
    have HX1 : Hid (Ext V1 V2) := hid (by rw [← hV]; exact setCells_mod _ _ (HX.out.alloc _) (.inr HX.out.size))
    clear hV HX e
    generalize w2.heap.size = n1 at *
    obtain ⟨e, he⟩ := Later.self V2
    rw [he]
    clear he
    have HBL : Hid (∀ e : Later V2, Blk e.x n0 57 #[.bool r.here, .bool r.gone, .int .i64 r.reason, .int .i64 r.of.src.sch, str r.of.src.name, .int .u64 (r.of.src.node : Int), .int .u64 (r.of.src.svc : Int), .int .u64 (r.of.t : Int), .int .u64 (r.of.q : Int), .bool r.of.fr, .int .u64 (r.of.o : Int), .int .u64 (r.of.n : Int)]) := hid (fun e => (HB0.out.ext HX1.out).later e)
    have HBM : Hid (∀ e : Later V2, Blk e.x n1 57 #[.bool r.here, .bool r.gone, .int .i64 r.reason, .int .i64 r.of.src.sch, str r.of.src.name, .int .u64 (r.of.src.node : Int), .int .u64 (r.of.src.svc : Int), .int .u64 (r.of.t : Int), .int .u64 (r.of.q : Int), .bool r.of.fr, .int .u64 (r.of.o : Int), .int .u64 (r.of.n : Int)]) := hid (fun e => HB1.out.later e)
    have tk1 : True := trivial
    have tk2 : True := trivial
    go_wp2_with (first | (clear tk1; refine wpList_row (by rfl) 57 _ rfl _ rfl (HBL.out _) Try.underlying57 rfl (by kernel_rfl) ?_) | (clear tk2; refine wpList_row (by rfl) 57 _ rfl _ rfl (HBM.out _) Try.underlying57 rfl (by kernel_rfl) ?_))
    go_ret
    exact Ret.mk (by first | rfl | simp) ((HX0.out.trans HX1.out).trans e.h)
set_option maxRecDepth 20000 in
theorem lawRepParses_any (l : List UInt8) (w : World) : Calls Try.prog 7 #[str l] w (Ret (.bool true) w) := by
  by_cases hl : l.length ≤ 200
  case neg =>
    have KA := hid (fun W => awake25_any W)
    have t1a : decide (200 < l.length) = true := decide_eq_true (by omega)
    have t1b : (200 < l.length) = True := eq_true (by omega)
    have t2a : decide ((200 : Int) < (l.length : Int)) = true := decide_eq_true (by omega)
    have t2b : ((200 : Int) < (l.length : Int)) = True := eq_true (by omega)
    have t3a : decide (l.length > 200) = true := decide_eq_true (by omega)
    have t3b : (l.length > 200) = True := eq_true (by omega)
    clear hl
    go_enter Try.func7, Try.ntmps7
    go_wp2_with (go_at_call 22; first | ((with_reducible refine (Ret.laterW (Mod.refl [] w) (KA.out w)).mono ?_); rintro x _ ⟨rfl, e, rfl⟩) | (refine (Ret.later (KA.out _)).mono ?_; rintro x _ ⟨rfl, e, rfl⟩))
    go_ret
    exact Ret.mk rfl e.h
  · cases h : repO l with
    | none => exact lawRepParses_two l hl zeroR 2 false (.inr ⟨rfl, rfl⟩) (fun W => by have := repParse_any l (by omega) W; rw [rparse_none h] at this; exact this) (fun W => by have := q25Parse_any l (by omega) W; rw [q25_no h] at this; exact this) w
    | some r => exact lawRepParses_two l hl r 0 true (.inl ⟨rfl, rfl⟩) (fun W => by have := repParse_any l (by omega) W; rw [rparse_some h] at this; exact this) (fun W => by have := q25Parse_any l (by omega) W; unfold q25V at this; rw [h] at this; exact this) w
end Go.Proofs.Ytogjghmoankleaa
