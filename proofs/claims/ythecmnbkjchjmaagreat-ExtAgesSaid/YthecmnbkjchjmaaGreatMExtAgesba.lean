/-
 Primaries: the bytes, as the reference puts them together.
-/
import Derived.Test.YthecmnbkjchjmaaGreatMExtAgesaw
import Derived.Test.YthecmnbkjchjmaaGreatMExtAgesaz

namespace Go.Proofs.YthecmnbkjchjmaaGreat
open Go.RowKit
set_option linter.unusedVariables false
set_option linter.unusedSimpArgs false

set_option maxRecDepth 20000 in
theorem r11Count_any (p : PV) (hf : p.fl < 18446744073709551616) (k : Nat) (hk : k <= 2) (w : World) : Calls Tryz.prog 75 #[.int .u64 (p.fl : Int), .int .u64 (k : Int)] w (Ret (.int .i64 ((priN p k : Nat) : Int)) w) := by
 have h3 : k = 0 \/ k = 1 \/ k = 2 := by omega
 cases hh : has p.fl 1 <;> rcases h3 with rfl | rfl | rfl
 .
  have hx : ¬ p.fl % 2 = 1 := by simpa [has] using hh
  have KH : Hid (∀ W, Calls Tryz.prog 22 #[.int .u64 (p.fl : Int), .int .i64 1] W (Ret (.bool false) W)) := fun W => by have := Has_any p.fl 1 hf (by omega) (by omega) W; rw [hh] at this; exact this
  have HN : Hid (priN p 0 = 8) := by unfold Hid priN; simp [hx]
  clear hh hx hf
  go_enter Tryz.func75, Tryz.ntmps75
  go_wp2_with (go_at_call 22; refine (KH.out _).mono ?_; rintro x w1 ⟨rfl, hb1⟩)
  go_ret
  exact Ret.mk (by rw [HN.out]; rfl) hb1
 .
  have hx : ¬ p.fl % 2 = 1 := by simpa [has] using hh
  have KH : Hid (∀ W, Calls Tryz.prog 22 #[.int .u64 (p.fl : Int), .int .i64 1] W (Ret (.bool false) W)) := fun W => by have := Has_any p.fl 1 hf (by omega) (by omega) W; rw [hh] at this; exact this
  have HN : Hid (priN p 1 = 9) := by unfold Hid priN; simp [hx]
  clear hh hx hf
  go_enter Tryz.func75, Tryz.ntmps75
  go_wp2_with (go_at_call 22; refine (KH.out _).mono ?_; rintro x w1 ⟨rfl, hb1⟩)
  go_ret
  exact Ret.mk (by rw [HN.out]; rfl) hb1
 .
  have hx : ¬ p.fl % 2 = 1 := by simpa [has] using hh
  have KH : Hid (∀ W, Calls Tryz.prog 22 #[.int .u64 (p.fl : Int), .int .i64 1] W (Ret (.bool false) W)) := fun W => by have := Has_any p.fl 1 hf (by omega) (by omega) W; rw [hh] at this; exact this
  have HN : Hid (priN p 2 = 9) := by unfold Hid priN; simp [hx]
  clear hh hx hf
  go_enter Tryz.func75, Tryz.ntmps75
  go_wp2_with (go_at_call 22; refine (KH.out _).mono ?_; rintro x w1 ⟨rfl, hb1⟩)
  go_ret
  exact Ret.mk (by rw [HN.out]; rfl) hb1
 .
  have hx : p.fl % 2 = 1 := by simpa [has] using hh
  have KH : Hid (∀ W, Calls Tryz.prog 22 #[.int .u64 (p.fl : Int), .int .i64 1] W (Ret (.bool true) W)) := fun W => by have := Has_any p.fl 1 hf (by omega) (by omega) W; rw [hh] at this; exact this
  have HN : Hid (priN p 0 = 10) := by unfold Hid priN; simp [hx]
  clear hh hx hf
  go_enter Tryz.func75, Tryz.ntmps75
  go_wp2_with (go_at_call 22; refine (KH.out _).mono ?_; rintro x w1 ⟨rfl, hb1⟩)
  go_ret
  exact Ret.mk (by rw [HN.out]; rfl) hb1
 .
  have hx : p.fl % 2 = 1 := by simpa [has] using hh
  have KH : Hid (∀ W, Calls Tryz.prog 22 #[.int .u64 (p.fl : Int), .int .i64 1] W (Ret (.bool true) W)) := fun W => by have := Has_any p.fl 1 hf (by omega) (by omega) W; rw [hh] at this; exact this
  have HN : Hid (priN p 1 = 11) := by unfold Hid priN; simp [hx]
  clear hh hx hf
  go_enter Tryz.func75, Tryz.ntmps75
  go_wp2_with (go_at_call 22; refine (KH.out _).mono ?_; rintro x w1 ⟨rfl, hb1⟩)
  go_ret
  exact Ret.mk (by rw [HN.out]; rfl) hb1
 .
  have hx : p.fl % 2 = 1 := by simpa [has] using hh
  have KH : Hid (∀ W, Calls Tryz.prog 22 #[.int .u64 (p.fl : Int), .int .i64 1] W (Ret (.bool true) W)) := fun W => by have := Has_any p.fl 1 hf (by omega) (by omega) W; rw [hh] at this; exact this
  have HN : Hid (priN p 2 = 11) := by unfold Hid priN; simp [hx]
  clear hh hx hf
  go_enter Tryz.func75, Tryz.ntmps75
  go_wp2_with (go_at_call 22; refine (KH.out _).mono ?_; rintro x w1 ⟨rfl, hb1⟩)
  go_ret
  exact Ret.mk (by rw [HN.out]; rfl) hb1
theorem rBytesE (E : EV) (hE : E.ok = true) (B : Option Addr) (W : World) (hW : IsL W (fun _ => True) (eidT E) B) : Calls Tryz.prog 72 #[itemV (eidT E) B 2] W (Ret (str (eidT E).bytes) W) := rBytesI_any _ (eidT_ok hE).1 (eidT_ok hE).2.2.1 (eidT_ok hE).2.2.2 B 2 W hW
theorem eidT_len {e : EV} (ho : e.ok = true) : (eidT e).bytes.length <= 10000 := by
 have a := T.bytes_le (eidT e)
 have b := eidT_small ho
 omega
set_option maxRecDepth 20000 in
set_option maxHeartbeats 2000000 in
theorem r11bytes_any (p : PV) (h : p.ranged = true) (k : Nat) (hk : k <= 2) (sum : List UInt8) (hs : sum.length <= 90) (w : World) : Calls Tryz.prog 54 #[.agg p.c, .int .u64 (k : Int), str sum] w (Ret (str (priB p k sum)) w) := by
 obtain ⟨e1, e2, e3, c0, c1, f0, t0, q0, l0, o0, n0⟩ := PV.ranged_spec h
 have KC := hid (fun W => r11Count_any p (by omega) k hk W)
 have HX : Hid (priB p k sum = headL 4 (priN p k) ++ (headL 0 7 ++ (headL 0 p.fl ++ (headL 0 k ++ ((eidT p.d).bytes ++ ((eidT p.s).bytes ++ ((eidT p.r).bytes ++ (headL 4 2 ++ (headL 0 p.t ++ (headL 0 p.q ++ (headL 0 p.l ++ ((if p.fl % 2 = 1 then headL 0 p.o ++ headL 0 p.n else []) ++ (if k = 0 then [] else headL 2 sum.length ++ sum))))))))))))) := rfl
 have ID := hid (fun W => r10Item_ok p.d e1 W)
 have IS := hid (fun W => r10Item_ok p.s e2 W)
 have IR := hid (fun W => r10Item_ok p.r e3 W)
 have YD := hid (fun B W hW => rBytesE p.d e1 B W hW)
 have YS := hid (fun B W hW => rBytesE p.s e2 B W hW)
 have YR := hid (fun B W hW => rBytesE p.r e3 B W hW)
 have lD := eidT_len e1
 have lS := eidT_len e2
 have lR := eidT_len e3
 have hN : priN p k <= 11 := by unfold priN; split <;> split <;> omega
 have KSUM := hid (fun W => rBytes_any sum (by unfold Hid; omega) W)
 have lU := headL_le 2 sum.length
 have lU2 : (headL 2 sum.length ++ sum).length <= 200 := by rw [List.length_append]; omega
 have KHas : Hid (∀ W, Calls Tryz.prog 22 #[.int .u64 (p.fl : Int), .int .i64 1] W (Ret (.bool (has p.fl 1)) W)) := fun W => Has_any p.fl 1 (by omega) (by omega) (by omega) W
 generalize hgN : priN p k = N at *
 clear hgN
 have tN : IntKind.u64.wrap (N : Int) = (N : Int) := IntWalk.u64_in _ (by omega)
 have KN : Hid (∀ W, Calls Tryz.prog 28 #[.int .i64 4, .int .u64 (N : Int)] W (Ret (str (headL 4 N)) W)) := fun W => rHead_n 4 N (by omega) (by omega) W
 have KV : Hid (∀ W, Calls Tryz.prog 28 #[.int .i64 0, .int .u64 7] W (Ret (str (headL 0 7)) W)) := fun W => rHead_n 0 7 (by omega) (by omega) W
 have KF : Hid (∀ W, Calls Tryz.prog 28 #[.int .i64 0, .int .u64 (p.fl : Int)] W (Ret (str (headL 0 p.fl)) W)) := fun W => rHead_n 0 p.fl (by omega) (by omega) W
 have KK : Hid (∀ W, Calls Tryz.prog 28 #[.int .i64 0, .int .u64 (k : Int)] W (Ret (str (headL 0 k)) W)) := fun W => rHead_n 0 k (by omega) (by omega) W
 have K2 : Hid (∀ W, Calls Tryz.prog 28 #[.int .i64 4, .int .u64 2] W (Ret (str (headL 4 2)) W)) := fun W => rHead_n 4 2 (by omega) (by omega) W
 have KT : Hid (∀ W, Calls Tryz.prog 28 #[.int .i64 0, .int .u64 (p.t : Int)] W (Ret (str (headL 0 p.t)) W)) := fun W => rHead_n 0 p.t (by omega) (by omega) W
 have KQ : Hid (∀ W, Calls Tryz.prog 28 #[.int .i64 0, .int .u64 (p.q : Int)] W (Ret (str (headL 0 p.q)) W)) := fun W => rHead_n 0 p.q (by omega) (by omega) W
 have KL : Hid (∀ W, Calls Tryz.prog 28 #[.int .i64 0, .int .u64 (p.l : Int)] W (Ret (str (headL 0 p.l)) W)) := fun W => rHead_n 0 p.l (by omega) (by omega) W
 have KO : Hid (∀ W, Calls Tryz.prog 28 #[.int .i64 0, .int .u64 (p.o : Int)] W (Ret (str (headL 0 p.o)) W)) := fun W => rHead_n 0 p.o (by omega) (by omega) W
 have KM : Hid (∀ W, Calls Tryz.prog 28 #[.int .i64 0, .int .u64 (p.n : Int)] W (Ret (str (headL 0 p.n)) W)) := fun W => rHead_n 0 p.n (by omega) (by omega) W
 have lN := headL_le 4 N
 generalize headL 4 N = BN at *
 have lV := headL_le 0 7
 generalize headL 0 7 = BV at *
 have lF := headL_le 0 p.fl
 generalize headL 0 p.fl = BF at *
 have lK := headL_le 0 k
 generalize headL 0 k = BK at *
 have l2 := headL_le 4 2
 generalize headL 4 2 = B2 at *
 have lT := headL_le 0 p.t
 generalize headL 0 p.t = BT at *
 have lQ := headL_le 0 p.q
 generalize headL 0 p.q = BQ at *
 have lL := headL_le 0 p.l
 generalize headL 0 p.l = BL at *
 have lO := headL_le 0 p.o
 generalize headL 0 p.o = BO at *
 have lM := headL_le 0 p.n
 generalize headL 0 p.n = BM at *
 generalize headL 2 sum.length ++ sum = BU at *
 generalize eidT p.d = TD at *
 generalize eidT p.s = TS at *
 generalize eidT p.r = TR at *
 generalize TD.bytes = BD at *
 generalize TS.bytes = BS at *
 generalize TR.bytes = BR at *
 have HE := hid ((Mod.refl [] w).alloc (.cells p.c 26))
 have HB := hid (Blk.new w 26 p.c)
 have HF0 := hid f0
 clear h e1 e2 e3 c0 c1 f0 t0 q0 l0 o0 n0 hN hs
 have hk2 := hid hk
 clear hk
 go_enter Tryz.func54, Tryz.ntmps54
 go_upto_region 1 with fail
 generalize w.alloc (.cells p.c 26) = V at *
 have x0 : ∀ e : Later V, e.x.cell? ⟨w.heap.size, 0, none⟩ = some (.int .u64 (p.fl : Int)) := HB.out.cellL 0 rfl
 have x2 : ∀ e : Later V, e.x.cell? ⟨w.heap.size, 2, none⟩ = some (.int .i64 p.d.sch) := HB.out.cellL 2 rfl
 have x3 : ∀ e : Later V, e.x.cell? ⟨w.heap.size, 3, none⟩ = some (str p.d.name) := HB.out.cellL 3 rfl
 have x4 : ∀ e : Later V, e.x.cell? ⟨w.heap.size, 4, none⟩ = some (.int .u64 (p.d.node : Int)) := HB.out.cellL 4 rfl
 have x5 : ∀ e : Later V, e.x.cell? ⟨w.heap.size, 5, none⟩ = some (.int .u64 (p.d.svc : Int)) := HB.out.cellL 5 rfl
 have x6 : ∀ e : Later V, e.x.cell? ⟨w.heap.size, 6, none⟩ = some (.int .i64 p.s.sch) := HB.out.cellL 6 rfl
 have x7 : ∀ e : Later V, e.x.cell? ⟨w.heap.size, 7, none⟩ = some (str p.s.name) := HB.out.cellL 7 rfl
 have x8 : ∀ e : Later V, e.x.cell? ⟨w.heap.size, 8, none⟩ = some (.int .u64 (p.s.node : Int)) := HB.out.cellL 8 rfl
 have x9 : ∀ e : Later V, e.x.cell? ⟨w.heap.size, 9, none⟩ = some (.int .u64 (p.s.svc : Int)) := HB.out.cellL 9 rfl
 have x10 : ∀ e : Later V, e.x.cell? ⟨w.heap.size, 10, none⟩ = some (.int .i64 p.r.sch) := HB.out.cellL 10 rfl
 have x11 : ∀ e : Later V, e.x.cell? ⟨w.heap.size, 11, none⟩ = some (str p.r.name) := HB.out.cellL 11 rfl
 have x12 : ∀ e : Later V, e.x.cell? ⟨w.heap.size, 12, none⟩ = some (.int .u64 (p.r.node : Int)) := HB.out.cellL 12 rfl
 have x13 : ∀ e : Later V, e.x.cell? ⟨w.heap.size, 13, none⟩ = some (.int .u64 (p.r.svc : Int)) := HB.out.cellL 13 rfl
 have x14 : ∀ e : Later V, e.x.cell? ⟨w.heap.size, 14, none⟩ = some (.int .u64 (p.t : Int)) := HB.out.cellL 14 rfl
 have x15 : ∀ e : Later V, e.x.cell? ⟨w.heap.size, 15, none⟩ = some (.int .u64 (p.q : Int)) := HB.out.cellL 15 rfl
 have x16 : ∀ e : Later V, e.x.cell? ⟨w.heap.size, 16, none⟩ = some (.int .u64 (p.l : Int)) := HB.out.cellL 16 rfl
 have x17 : ∀ e : Later V, e.x.cell? ⟨w.heap.size, 17, none⟩ = some (.int .u64 (p.o : Int)) := HB.out.cellL 17 rfl
 have x18 : ∀ e : Later V, e.x.cell? ⟨w.heap.size, 18, none⟩ = some (.int .u64 (p.n : Int)) := HB.out.cellL 18 rfl
 obtain ⟨e, he⟩ := Later.self V
 rw [he]
 clear he
 refine wp_region_later (by kernel_rfl) (by kernel_rfl) ?_
 repeat (first | (refine q_cat (by rfl) _ _ _ _ rfl _ _ rfl rfl (by (try simp only [List.length_append]); omega) ?_; (try simp only [Act.put, sTl, s0l, sSl])) | go_big_quiet_step ((first | (go_at_call 75; with_reducible exact Ret.later (KC.out _)) | (go_at_call 28; first | (with_reducible exact Ret.later (KN.out _)) | (with_reducible exact Ret.later (KV.out _)) | (with_reducible exact Ret.later (KF.out _)) | (with_reducible exact Ret.later (KK.out _)) | (with_reducible exact Ret.later (K2.out _)) | (with_reducible exact Ret.later (KT.out _)) | (with_reducible exact Ret.later (KQ.out _)) | (with_reducible exact Ret.later (KL.out _)) | (with_reducible exact Ret.later (KO.out _)) | (with_reducible exact Ret.later (KM.out _))))))
 refine wpQuiet_nil ?_
 rintro _ ⟨e, rfl⟩
 try simp only [List.append_assoc]
 have lg1 : (BN ++ (BV ++ (BF ++ BK))).length <= 100 := by simp only [List.length_append]; omega
 generalize hq1 : BN ++ (BV ++ (BF ++ BK)) = q1 at *
 have HQ1 := hid hq1
 clear hq1
 go_upto_region 2 with fail
 have HS2 : Hid (∀ W, Ext V W -> W.cell? ⟨w.heap.size, 2, none⟩ = some (.int .i64 p.d.sch)) := fun W hW => (HB.out.ext hW).cell 2
 have HS3 : Hid (∀ W, Ext V W -> W.cell? ⟨w.heap.size, 3, none⟩ = some (str p.d.name)) := fun W hW => (HB.out.ext hW).cell 3
 have HS4 : Hid (∀ W, Ext V W -> W.cell? ⟨w.heap.size, 4, none⟩ = some (.int .u64 (p.d.node : Int))) := fun W hW => (HB.out.ext hW).cell 4
 have HS5 : Hid (∀ W, Ext V W -> W.cell? ⟨w.heap.size, 5, none⟩ = some (.int .u64 (p.d.svc : Int))) := fun W hW => (HB.out.ext hW).cell 5
 have HS6 : Hid (∀ W, Ext V W -> W.cell? ⟨w.heap.size, 6, none⟩ = some (.int .i64 p.s.sch)) := fun W hW => (HB.out.ext hW).cell 6
 have HS7 : Hid (∀ W, Ext V W -> W.cell? ⟨w.heap.size, 7, none⟩ = some (str p.s.name)) := fun W hW => (HB.out.ext hW).cell 7
 have HS8 : Hid (∀ W, Ext V W -> W.cell? ⟨w.heap.size, 8, none⟩ = some (.int .u64 (p.s.node : Int))) := fun W hW => (HB.out.ext hW).cell 8
 have HS9 : Hid (∀ W, Ext V W -> W.cell? ⟨w.heap.size, 9, none⟩ = some (.int .u64 (p.s.svc : Int))) := fun W hW => (HB.out.ext hW).cell 9
 have HS10 : Hid (∀ W, Ext V W -> W.cell? ⟨w.heap.size, 10, none⟩ = some (.int .i64 p.r.sch)) := fun W hW => (HB.out.ext hW).cell 10
 have HS11 : Hid (∀ W, Ext V W -> W.cell? ⟨w.heap.size, 11, none⟩ = some (str p.r.name)) := fun W hW => (HB.out.ext hW).cell 11
 have HS12 : Hid (∀ W, Ext V W -> W.cell? ⟨w.heap.size, 12, none⟩ = some (.int .u64 (p.r.node : Int))) := fun W hW => (HB.out.ext hW).cell 12
 have HS13 : Hid (∀ W, Ext V W -> W.cell? ⟨w.heap.size, 13, none⟩ = some (.int .u64 (p.r.svc : Int))) := fun W hW => (HB.out.ext hW).cell 13
 refine wp_region_held_drew (S := fun w' => Ext V w' /\ True) (by kernel_rfl) ⟨(Later.h e).drew, trivial⟩ (fun hHeld => ?_)
 refine' wpAnyH_take (i := 0) (v := _) rfl (by kernel_rfl) (by kernel_rfl) (by kernel_rfl) (fun _ _ _ h => h) (Or.inl ⟨by rfl, ?hy⟩) hHeld ?rest
 case hy => (rintro W ⟨hM, _⟩; go_simp; (try with_reducible rfl))
 case rest =>
 (try simp only [Act.put, sTl, s0l, sSl])
 refine' wpAnyH_take (i := 1) (v := _) rfl (by kernel_rfl) (by kernel_rfl) (by kernel_rfl) (fun _ _ _ h => h) (Or.inl ⟨by rfl, ?hy⟩) hHeld ?rest
 case hy => (rintro W ⟨hM, _⟩; go_simp; (try with_reducible rfl))
 case rest =>
 (try simp only [Act.put, sTl, s0l, sSl])
 refine' wpAnyH_take (i := 2) (v := _) rfl (by kernel_rfl) (by kernel_rfl) (by kernel_rfl) (fun _ _ _ h => h) (Or.inl ⟨by rfl, ?hy⟩) hHeld ?rest
 case hy => (rintro W ⟨hM, _⟩; have x2 := HS2.out W hM; have x3 := HS3.out W hM; have x4 := HS4.out W hM; have x5 := HS5.out W hM; go_simp; (try with_reducible rfl))
 case rest =>
 (try simp only [Act.put, sTl, s0l, sSl])
 refine' wpAnyH_take (i := 5) (v := _) rfl (by kernel_rfl) (by kernel_rfl) (by kernel_rfl) (fun _ _ _ h => h) (Or.inl ⟨by rfl, ?hy⟩) hHeld ?rest
 case hy => (rintro W ⟨hM, _⟩; go_simp; (try with_reducible rfl))
 case rest =>
 (try simp only [Act.put, sTl, s0l, sSl])
 refine' wpAnyH_take (i := 6) (v := _) rfl (by kernel_rfl) (by kernel_rfl) (by kernel_rfl) (fun _ _ _ h => h) (Or.inl ⟨by rfl, ?hy⟩) hHeld ?rest
 case hy => (rintro W ⟨hM, _⟩; have x6 := HS6.out W hM; have x7 := HS7.out W hM; have x8 := HS8.out W hM; have x9 := HS9.out W hM; go_simp; (try with_reducible rfl))
 case rest =>
 (try simp only [Act.put, sTl, s0l, sSl])
 refine' wpAnyH_take (i := 10) (v := _) rfl (by kernel_rfl) (by kernel_rfl) (by kernel_rfl) (fun _ _ _ h => h) (Or.inl ⟨by rfl, ?hy⟩) hHeld ?rest
 case hy => (rintro W ⟨hM, _⟩; go_simp; (try with_reducible rfl))
 case rest =>
 (try simp only [Act.put, sTl, s0l, sSl])
 refine' wpAnyH_take (i := 11) (v := _) rfl (by kernel_rfl) (by kernel_rfl) (by kernel_rfl) (fun _ _ _ h => h) (Or.inl ⟨by rfl, ?hy⟩) hHeld ?rest
 case hy => (rintro W ⟨hM, _⟩; have x10 := HS10.out W hM; have x11 := HS11.out W hM; have x12 := HS12.out W hM; have x13 := HS13.out W hM; go_simp; (try with_reducible rfl))
 case rest =>
 (try simp only [Act.put, sTl, s0l, sSl])
 refine wpAnyH_ready (rs := [3]) (by kernel_rfl) (by simp) ?_
 refine AllReadyH.cons rfl (fun K hK => ?_) AllReadyH.nil
 go_simp
 (go_at_call 73; refine (ID.out _).mono ?_; rintro x w1 ⟨A1, rfl, hb1, hi1⟩; have HI1 := hid (IsL.weak (R := fun _ => True) (fun _ _ _ => trivial) _ hi1))
 refine hK.out _ _ ⟨hHeld.1.trans hb1, trivial⟩ (fun hHeld => ?_)
 clear hK K
 (try simp only [Act.put, sTl, s0l, sSl])
 refine wpAnyH_ready (rs := [4]) (by kernel_rfl) (by simp) ?_
 refine AllReadyH.cons rfl (fun K hK => ?_) AllReadyH.nil
 go_simp
 (go_at_call 72; refine (YD.out _ _ HI1.out).mono ?_; rintro x w2 ⟨rfl, hb2⟩)
 refine hK.out _ _ ⟨hHeld.1.trans hb2, trivial⟩ (fun hHeld => ?_)
 clear hK K
 (try simp only [Act.put, sTl, s0l, sSl])
 refine wpAnyH_ready (rs := [7]) (by kernel_rfl) (by simp) ?_
 refine AllReadyH.cons rfl (fun K hK => ?_) AllReadyH.nil
 go_simp
 (go_at_call 73; refine (IS.out _).mono ?_; rintro x w3 ⟨A2, rfl, hb3, hi3⟩; have HI3 := hid (IsL.weak (R := fun _ => True) (fun _ _ _ => trivial) _ hi3))
 refine hK.out _ _ ⟨hHeld.1.trans hb3, trivial⟩ (fun hHeld => ?_)
 clear hK K
 (try simp only [Act.put, sTl, s0l, sSl])
 refine wpAnyH_ready (rs := [8]) (by kernel_rfl) (by simp) ?_
 refine AllReadyH.cons rfl (fun K hK => ?_) AllReadyH.nil
 go_simp
 (go_at_call 72; refine (YS.out _ _ HI3.out).mono ?_; rintro x w4 ⟨rfl, hb4⟩)
 refine hK.out _ _ ⟨hHeld.1.trans hb4, trivial⟩ (fun hHeld => ?_)
 clear hK K
 (try simp only [Act.put, sTl, s0l, sSl])
 refine wpAnyH_take (i := 9) rfl (by kernel_rfl) (by kernel_rfl) (by kernel_rfl) (fun _ _ _ h => h) (yieldsIf_cat (by rfl) _ _ _ _ rfl _ _ rfl rfl (by (try simp only [List.length_append]); omega)) hHeld ?_
 (try simp only [Act.put, sTl, s0l, sSl])
 refine wpAnyH_ready (rs := [12]) (by kernel_rfl) (by simp) ?_
 refine AllReadyH.cons rfl (fun K hK => ?_) AllReadyH.nil
 go_simp
 (go_at_call 73; refine (IR.out _).mono ?_; rintro x w5 ⟨A3, rfl, hb5, hi5⟩; have HI5 := hid (IsL.weak (R := fun _ => True) (fun _ _ _ => trivial) _ hi5))
 refine hK.out _ _ ⟨hHeld.1.trans hb5, trivial⟩ (fun hHeld => ?_)
 clear hK K
 (try simp only [Act.put, sTl, s0l, sSl])
 refine wpAnyH_ready (rs := [13]) (by kernel_rfl) (by simp) ?_
 refine AllReadyH.cons rfl (fun K hK => ?_) AllReadyH.nil
 go_simp
 (go_at_call 72; refine (YR.out _ _ HI5.out).mono ?_; rintro x w6 ⟨rfl, hb6⟩)
 refine hK.out _ _ ⟨hHeld.1.trans hb6, trivial⟩ (fun hHeld => ?_)
 clear hK K
 (try simp only [Act.put, sTl, s0l, sSl])
 refine wpAnyH_take (i := 14) rfl (by kernel_rfl) (by kernel_rfl) (by kernel_rfl) (fun _ _ _ h => h) (yieldsIf_cat (by rfl) _ _ _ _ rfl _ _ rfl rfl (by (try simp only [List.length_append]); omega)) hHeld ?_
 (try simp only [Act.put, sTl, s0l, sSl])
 refine wpAnyH_take (i := 15) rfl (by kernel_rfl) (by kernel_rfl) (by kernel_rfl) (fun _ _ _ h => h) (yieldsIf_cat (by rfl) _ _ _ _ rfl _ _ rfl rfl (by (try simp only [List.length_append]); omega)) hHeld ?_
 (try simp only [Act.put, sTl, s0l, sSl])
 refine wpAnyH_ready (rs := [16]) (by kernel_rfl) (by simp) ?_
 refine AllReadyH.cons rfl (fun K hK => ?_) AllReadyH.nil
 go_simp
 refine hK.out _ _ hHeld (fun hHeld => ?_)
 clear hK K
 (try simp only [Act.put, sTl, s0l, sSl])
 refine wpAnyH_done (by kernel_rfl) ?_ _
 obtain ⟨e, rfl⟩ : ∃ e : Later V, w6 = e.x := ⟨⟨_, hHeld.1⟩, rfl⟩
 try simp only [List.append_assoc]
 have lg2 : (q1 ++ (BD ++ (BS ++ BR))).length <= 40000 := by simp only [List.length_append]; omega
 generalize hq2 : q1 ++ (BD ++ (BS ++ BR)) = q2 at *
 have HQ2 := hid hq2
 clear hq2
 go_upto_region 3 with fail
 refine wp_region_later (by kernel_rfl) (by kernel_rfl) ?_
 repeat (first | (refine q_cat (by rfl) _ _ _ _ rfl _ _ rfl rfl (by (try simp only [List.length_append]); omega) ?_; (try simp only [Act.put, sTl, s0l, sSl])) | go_big_quiet_step ((go_at_call 28; first | (with_reducible exact Ret.later (KN.out _)) | (with_reducible exact Ret.later (KV.out _)) | (with_reducible exact Ret.later (KF.out _)) | (with_reducible exact Ret.later (KK.out _)) | (with_reducible exact Ret.later (K2.out _)) | (with_reducible exact Ret.later (KT.out _)) | (with_reducible exact Ret.later (KQ.out _)) | (with_reducible exact Ret.later (KL.out _)) | (with_reducible exact Ret.later (KO.out _)) | (with_reducible exact Ret.later (KM.out _)))))
 refine wpQuiet_nil ?_
 rintro _ ⟨e, rfl⟩
 try simp only [List.append_assoc]
 have lg3 : (q2 ++ (B2 ++ (BT ++ (BQ ++ BL)))).length <= 41000 := by simp only [List.length_append]; omega
 generalize hq3 : q2 ++ (B2 ++ (BT ++ (BQ ++ BL))) = q3 at *
 have HQ3 := hid hq3
 clear hq3
 cases hh : has p.fl 1
 all_goals rw [hh] at KHas
 .
  have HX2 : Hid (priB p k sum = q3 ++ (if k = 0 then [] else BU)) := by
   have hx : ¬ p.fl % 2 = 1 := by simpa [has] using hh
   unfold Hid
   rw [HX.out, if_neg hx, <- HQ3.out, <- HQ2.out, <- HQ1.out]
   simp only [List.append_assoc, List.nil_append]
  clear hh
  go_upto_region 6 with (go_at_call 22; refine (Ret.later (KHas.out _)).mono ?_; rintro x _ ⟨rfl, e, rfl⟩)
  have lg4 : ¬ 9223372036854775807 < q3.length + BU.length := by omega
  have hk := hk2.out
  have h3 : k = 0 \/ k = 1 \/ k = 2 := by omega
  rcases h3 with rfl | rfl | rfl
  .
   have HX3 : Hid (priB p 0 sum = q3) := by unfold Hid; rw [HX2.out]; exact List.append_nil _
   clear hk hk2 HX HQ1 HQ2 HQ3 HX2
   go_wp2_with (go_at_call 76; refine (Ret.later (KSUM.out _)).mono ?_; rintro x _ ⟨rfl, e, rfl⟩)
   go_ret
   refine Ret.mk ?_ (HE.out.trans e.h)
   rw [HX3.out]
   rfl
  .
   have HX3 : Hid (priB p 1 sum = q3 ++ BU) := by unfold Hid; rw [HX2.out]; rfl
   clear hk hk2 HX HQ1 HQ2 HQ3 HX2
   go_wp2_with (go_at_call 76; refine (Ret.later (KSUM.out _)).mono ?_; rintro x _ ⟨rfl, e, rfl⟩)
   go_ret
   refine Ret.mk ?_ (HE.out.trans e.h)
   rw [HX3.out]
   exact str_app _ _
  .
   have HX3 : Hid (priB p 2 sum = q3 ++ BU) := by unfold Hid; rw [HX2.out]; rfl
   clear hk hk2 HX HQ1 HQ2 HQ3 HX2
   go_wp2_with (go_at_call 76; refine (Ret.later (KSUM.out _)).mono ?_; rintro x _ ⟨rfl, e, rfl⟩)
   go_ret
   refine Ret.mk ?_ (HE.out.trans e.h)
   rw [HX3.out]
   exact str_app _ _
 .
  have HX2 : Hid (priB p k sum = (q3 ++ (BO ++ BM)) ++ (if k = 0 then [] else BU)) := by
   have hx : p.fl % 2 = 1 := by simpa [has] using hh
   unfold Hid
   rw [HX.out, if_pos hx, <- HQ3.out, <- HQ2.out, <- HQ1.out]
   simp only [List.append_assoc]
  clear hh
  go_upto_region 5 with (go_at_call 22; refine (Ret.later (KHas.out _)).mono ?_; rintro x _ ⟨rfl, e, rfl⟩)
  refine wp_region_later (by kernel_rfl) (by kernel_rfl) ?_
  repeat (first | (refine q_cat (by rfl) _ _ _ _ rfl _ _ rfl rfl (by (try simp only [List.length_append]); omega) ?_; (try simp only [Act.put, sTl, s0l, sSl])) | go_big_quiet_step ((go_at_call 28; first | (with_reducible exact Ret.later (KN.out _)) | (with_reducible exact Ret.later (KV.out _)) | (with_reducible exact Ret.later (KF.out _)) | (with_reducible exact Ret.later (KK.out _)) | (with_reducible exact Ret.later (K2.out _)) | (with_reducible exact Ret.later (KT.out _)) | (with_reducible exact Ret.later (KQ.out _)) | (with_reducible exact Ret.later (KL.out _)) | (with_reducible exact Ret.later (KO.out _)) | (with_reducible exact Ret.later (KM.out _)))))
  refine wpQuiet_nil ?_
  rintro _ ⟨e, rfl⟩
  try simp only [List.append_assoc]
  have lg4 : (q3 ++ (BO ++ BM)).length <= 42000 := by simp only [List.length_append]; omega
  generalize hq4 : q3 ++ (BO ++ BM) = q4 at *
  clear hq4
  go_upto_region 6 with fail
  have lg5 : ¬ 9223372036854775807 < q4.length + BU.length := by omega
  have hk := hk2.out
  have h3 : k = 0 \/ k = 1 \/ k = 2 := by omega
  rcases h3 with rfl | rfl | rfl
  .
   have HX3 : Hid (priB p 0 sum = q4) := by unfold Hid; rw [HX2.out]; exact List.append_nil _
   clear hk hk2 HX HQ1 HQ2 HQ3 HX2
   go_wp2_with (go_at_call 76; refine (Ret.later (KSUM.out _)).mono ?_; rintro x _ ⟨rfl, e, rfl⟩)
   go_ret
   refine Ret.mk ?_ (HE.out.trans e.h)
   rw [HX3.out]
   rfl
  .
   have HX3 : Hid (priB p 1 sum = q4 ++ BU) := by unfold Hid; rw [HX2.out]; rfl
   clear hk hk2 HX HQ1 HQ2 HQ3 HX2
   go_wp2_with (go_at_call 76; refine (Ret.later (KSUM.out _)).mono ?_; rintro x _ ⟨rfl, e, rfl⟩)
   go_ret
   refine Ret.mk ?_ (HE.out.trans e.h)
   rw [HX3.out]
   exact str_app _ _
  .
   have HX3 : Hid (priB p 2 sum = q4 ++ BU) := by unfold Hid; rw [HX2.out]; rfl
   clear hk hk2 HX HQ1 HQ2 HQ3 HX2
   go_wp2_with (go_at_call 76; refine (Ret.later (KSUM.out _)).mono ?_; rintro x _ ⟨rfl, e, rfl⟩)
   go_ret
   refine Ret.mk ?_ (HE.out.trans e.h)
   rw [HX3.out]
   exact str_app _ _
end Go.Proofs.YthecmnbkjchjmaaGreat


namespace Go.Proofs.YthecmnbkjchjmaaGreat
open Go.RowKit
set_option linter.unusedVariables false
set_option linter.unusedSimpArgs false

theorem priB_length {p : PV} (h : p.ranged = true) {k : Nat} (hk : k <= 2) {s : List UInt8} (hs : s.length <= 90) : (priB p k s).length < 1000000 := by
 obtain ⟨a, b, c⟩ := priT_all h hk (sum := s) hs
 rw [<- priT_bytes]
 have := T.bytes_le (priT p k s)
 omega
set_option maxRecDepth 20000 in
set_option maxHeartbeats 800000 in
theorem r11Build_ok (p : PV) (h : p.ranged = true) (w : World) : Calls Tryz.prog 26 #[.agg p.c] w (Ret (str p.bytes) w) := by
 have hrs := PV.ranged_spec h
 obtain ⟨k, hc⟩ := Int.eq_ofNat_of_zero_le hrs.2.2.2.1
 have hk : k <= 2 := by omega
 have KB := hid (fun W => r11bytes_any p h k hk (List.replicate (2 * k) 0) (by simp; omega) W)
 have KC : Hid (∀ W, Calls Tryz.prog 53 #[.int .i64 (k : Int), str (priB p k (List.replicate (2 * k) 0))] W (Ret (str (priSum p k)) W)) := fun W => R4B_any k hk (priB p k (List.replicate (2 * k) 0)) (priB_length h hk (by simp; omega)) W
 have KE := hid (fun W => r11bytes_any p h k hk (priSum p k) (by rw [priSum_length p hk]; omega) W)
 have HV : Hid (p.bytes = priB p k (priSum p k)) := by unfold Hid PV.bytes; rw [hc]; rfl
 have hmk : ∀ W : World, (Instr.makeSlice 100 (.int .i64 (2 * (k : Int))) (.int .i64 (2 * (k : Int)))).run Tryz.prog W = .ok (.slice (some ⟨W.heap.size, 0, none⟩) (2 * k) (2 * k)) (W.alloc (.cells (madeCells #[.int .u8 0] (2 * k)) 5)) := by
  intro W
  have := run_make_row' (P := Tryz.prog) 100 5 (.int .u8 0) 1 Tryz.underlying100 infoByte8 rfl .i64 .i64 (2 * k) (by omega) (by omega) W
  simpa using this
 have hcv := conv_made (2 * k) (2 * k)
 have t2 : IntKind.i64.wrap (2 * (k : Int)) = 2 * (k : Int) := IntWalk.i64_in _ (by omega)
 have t1 : IntKind.u64.wrap (k : Int) = (k : Int) := IntWalk.u64_in _ (by omega)
 generalize List.replicate (2 * k) (0 : UInt8) = Z at *
 generalize priB p k Z = X at *
 generalize priSum p k = Y at *
 generalize priB p k Y = R at *
 have HE := hid ((Mod.refl [] w).alloc (.cells p.c 26))
 have HB := hid (Blk.new w 26 p.c)
 have HC := hid hc
 clear h hrs hc hk
 go_enter Tryz.func26, Tryz.ntmps26
 go_upto_region 1 with fail
 generalize w.alloc (.cells p.c 26) = V at *
 have HBL : Hid (∀ e : Later V, Blk e.x w.heap.size 26 p.c) := fun e => HB.out.later e
 have HBM : Hid (∀ W, Ext V W -> Blk W w.heap.size 26 p.c) := fun W hW => HB.out.ext hW
 have HS1 : Hid (∀ W, Ext V W -> W.cell? ⟨w.heap.size, 1, none⟩ = some (.int .i64 (k : Int))) := fun W hW => by rw [<- HC.out]; exact (HB.out.ext hW).cell 1
 have x1 : ∀ e : Later V, e.x.cell? ⟨w.heap.size, 1, none⟩ = some (.int .i64 (k : Int)) := fun e => HS1.out _ e.h
 obtain ⟨e, he⟩ := Later.self V
 rw [he]
 clear he
 have hcv2 : (convert 100 9 (.slice (some ⟨e.x.heap.size, 0, none⟩) (2 * k) (2 * k))).run Tryz.prog (e.x.alloc (.cells (madeCells #[.int .u8 0] (2 * k)) 5)).drew = .ok (str Z) (e.x.alloc (.cells (madeCells #[.int .u8 0] (2 * k)) 5)).drew := hcv e.x.drew
 refine wp_region_held_drew (S := fun w' => Ext V w' /\ True) (by kernel_rfl) ⟨(Later.h e).drew, trivial⟩ (fun hHeld => ?_)
 refine' wpAnyH_take (i := 0) (v := _) rfl (by kernel_rfl) (by kernel_rfl) (by kernel_rfl) (fun _ _ _ h => h) (Or.inl ⟨by rfl, ?hy⟩) hHeld ?rest
 case hy => (rintro W ⟨hM, _⟩; go_simp; (try with_reducible rfl))
 case rest =>
 (try simp only [Act.put, sTl, s0l, sSl])
 refine' wpAnyH_take (i := 1) (v := _) rfl (by kernel_rfl) (by kernel_rfl) (by kernel_rfl) (fun _ _ _ h => h) (Or.inl ⟨by rfl, ?hy⟩) hHeld ?rest
 case hy => (rintro W ⟨hM, _⟩; have x1 := HS1.out W hM; go_simp; (try with_reducible rfl))
 case rest =>
 (try simp only [Act.put, sTl, s0l, sSl])
 refine wpAnyH_take (i := 2) rfl (by kernel_rfl) (by kernel_rfl) (by kernel_rfl) (fun _ _ _ h => h) (yieldsIf_row (by rfl) 26 _ rfl _ rfl (fun W h => HBM.out W h.1) Tryz.underlying26 rfl (by kernel_rfl)) hHeld ?_
 (try simp only [Act.put, sTl, s0l, sSl])
 refine' wpAnyH_take (i := 3) (v := _) rfl (by kernel_rfl) (by kernel_rfl) (by kernel_rfl) (fun _ _ _ h => h) (Or.inl ⟨by rfl, ?hy⟩) hHeld ?rest
 case hy => (rintro W ⟨hM, _⟩; go_simp; (try with_reducible rfl))
 case rest =>
 (try simp only [Act.put, sTl, s0l, sSl])
 refine' wpAnyH_take (i := 4) (v := _) rfl (by kernel_rfl) (by kernel_rfl) (by kernel_rfl) (fun _ _ _ h => h) (Or.inl ⟨by rfl, ?hy⟩) hHeld ?rest
 case hy => (rintro W ⟨hM, _⟩; have x1 := HS1.out W hM; go_simp; (try with_reducible rfl))
 case rest =>
 (try simp only [Act.put, sTl, s0l, sSl])
 refine' wpAnyH_take (i := 5) (v := _) rfl (by kernel_rfl) (by kernel_rfl) (by kernel_rfl) (fun _ _ _ h => h) (Or.inl ⟨by rfl, ?hy⟩) hHeld ?rest
 case hy => (rintro W ⟨hM, _⟩; go_simp; (try with_reducible rfl))
 case rest =>
 (try simp only [Act.put, sTl, s0l, sSl])
 refine' wpAnyH_take (i := 6) (v := _) rfl (by kernel_rfl) (by kernel_rfl) (by kernel_rfl) (fun _ _ _ h => h) (Or.inl ⟨by rfl, ?hy⟩) hHeld ?rest
 case hy => (rintro W ⟨hM, _⟩; go_simp; (try with_reducible rfl))
 case rest =>
 (try simp only [Act.put, sTl, s0l, sSl])
 refine' wpAnyH_take (i := 7) (v := _) rfl (by kernel_rfl) (by kernel_rfl) (by kernel_rfl) (fun _ _ _ h => h) (Or.inl ⟨by rfl, ?hy⟩) hHeld ?rest
 case hy => (rintro W ⟨hM, _⟩; have x1 := HS1.out W hM; go_simp; (try with_reducible rfl))
 case rest =>
 (try simp only [Act.put, sTl, s0l, sSl])
 refine' wpAnyH_take (i := 8) (v := _) rfl (by kernel_rfl) (by kernel_rfl) (by kernel_rfl) (fun _ _ _ h => h) (Or.inl ⟨by rfl, ?hy⟩) hHeld ?rest
 case hy => (rintro W ⟨hM, _⟩; go_simp; (try with_reducible rfl))
 case rest =>
 (try simp only [Act.put, sTl, s0l, sSl])
 refine wpAnyH_ready (rs := [9]) (by kernel_rfl) (by simp) ?_
 refine AllReadyH.cons rfl (fun K hK => ?_) AllReadyH.nil
 go_simp
 refine hK.out _ _ ⟨hHeld.1.alloc _, trivial⟩ (fun hHeld => ?_)
 clear hK K
 (try simp only [Act.put, sTl, s0l, sSl])
 refine wpAnyH_ready (rs := [10]) (by kernel_rfl) (by simp) ?_
 refine AllReadyH.cons rfl (fun K hK => ?_) AllReadyH.nil
 go_simp
 refine hK.out _ _ hHeld (fun hHeld => ?_)
 clear hK K
 (try simp only [Act.put, sTl, s0l, sSl])
 refine wpAnyH_ready (rs := [11]) (by kernel_rfl) (by simp) ?_
 refine AllReadyH.cons rfl (fun K hK => ?_) AllReadyH.nil
 go_simp
 (go_at_call 54; refine (KB.out _).mono ?_; rintro x w1 ⟨rfl, hb1⟩)
 refine hK.out _ _ ⟨hHeld.1.trans hb1, trivial⟩ (fun hHeld => ?_)
 clear hK K
 (try simp only [Act.put, sTl, s0l, sSl])
 refine wpAnyH_ready (rs := [12]) (by kernel_rfl) (by simp) ?_
 refine AllReadyH.cons rfl (fun K hK => ?_) AllReadyH.nil
 go_simp
 (go_at_call 53; refine (KC.out _).mono ?_; rintro x w2 ⟨rfl, hb2⟩)
 refine hK.out _ _ ⟨hHeld.1.trans hb2, trivial⟩ (fun hHeld => ?_)
 clear hK K
 (try simp only [Act.put, sTl, s0l, sSl])
 refine wpAnyH_ready (rs := [13]) (by kernel_rfl) (by simp) ?_
 refine AllReadyH.cons rfl (fun K hK => ?_) AllReadyH.nil
 go_simp
 refine hK.out _ _ hHeld (fun hHeld => ?_)
 clear hK K
 (try simp only [Act.put, sTl, s0l, sSl])
 refine wpAnyH_done (by kernel_rfl) ?_ _
 obtain ⟨e2, rfl⟩ : ∃ e2 : Later V, w2 = e2.x := ⟨⟨_, hHeld.1⟩, rfl⟩
 clear hb1 hb2 hHeld hcv2 hcv hmk
 go_wp2_with (first | (refine wpList_row (by rfl) 26 _ rfl _ rfl (HBL.out _) Tryz.underlying26 rfl (by kernel_rfl) ?_) | (go_at_call 54; refine (Ret.later (KE.out _)).mono ?_; rintro x _ ⟨rfl, e3, rfl⟩))
 go_ret
 exact Ret.mk (by rw [HV.out]; rfl) (HE.out.trans e3.h)
end Go.Proofs.YthecmnbkjchjmaaGreat


namespace Go.Proofs.YthecmnbkjchjmaaGreat
open Go.RowKit
set_option linter.unusedVariables false
set_option linter.unusedSimpArgs false

def BV.bytes (b : BV) : List UInt8 := blkB b.ty.toNat b.num.toNat b.fl b.crc.toNat b.data (sumB b.ty.toNat b.num.toNat b.fl b.crc.toNat b.data)
def cntB (bs : Nat -> BV) (typ : Int) : Nat -> Nat
 | 0 => 0
 | k + 1 => cntB bs typ k + (if (bs k).ty = typ then 1 else 0)
theorem cntB_le (bs : Nat -> BV) (typ : Int) : ∀ k, cntB bs typ k <= k
 | 0 => Nat.le_refl _
 | k + 1 => by have := cntB_le bs typ k; rw [cntB]; split <;> omega
theorem cntB_no {bs : Nat -> BV} {typ : Int} : ∀ {k : Nat}, (∀ j, j < k -> tyB bs typ j = false) -> cntB bs typ k = 0
 | 0, _ => rfl
 | k + 1, h => by
  have h1 := h k (by omega)
  have : (bs k).ty ≠ typ := by intro e; rw [tyB_yes e] at h1; cases h1
  rw [cntB, cntB_no fun j hj => h j (by omega), if_neg this]
theorem cntB_pos {bs : Nat -> BV} {typ : Int} {i : Nat} : ∀ {k : Nat}, i < k -> tyB bs typ i = true -> 1 <= cntB bs typ k
 | k + 1, h, ht => by
  rw [cntB]
  by_cases e : i = k
  .
   subst e
   have : (bs i).ty = typ := by simpa [tyB] using ht
   rw [if_pos this]; omega
  . have := cntB_pos (k := k) (by omega) ht; omega
theorem cntB_find {bs : Nat -> BV} {typ : Int} {k : Nat} : (firstOf (tyB bs typ) k).isSome = decide (cntB bs typ k ≠ 0) := by
 cases h : firstOf (tyB bs typ) k with
 | none => rw [cntB_no (firstOf_no h)]; rfl
 | some i => have := cntB_pos (firstOf_spec h).1 (firstOf_spec h).2.1; symm; simp; omega
def hasNumOf (bs : Nat -> BV) (i j : Nat) : Bool := decide ((bs i).num = (bs j).num)
def dupAt (bs : Nat -> BV) (i : Nat) : Bool := (firstOf (hasNumOf bs i) i).isSome
def dupB (bs : Nat -> BV) (k : Nat) : Bool := (firstOf (dupAt bs) k).isSome
def blksB (bs : Nat -> BV) : Nat -> List UInt8
 | 0 => []
 | k + 1 => blksB bs k ++ (bs k).bytes
def bunBytes (p : PV) (bs : Nat -> BV) (k : Nat) : List UInt8 := 159 :: p.bytes ++ blksB bs k ++ [255]
def badAt (bs : Nat -> BV) (i : Nat) : Bool := decide ((bs i).right ≠ 0)
def bunRule1 (bs : Nat -> BV) (k : Nat) : Bool := decide (k = 0) || decide (cntB bs 1 k ≠ 1) || dupB bs k || decide (1 < cntB bs 6 k) || decide (1 < cntB bs 7 k) || decide (1 < cntB bs 10 k)
def bunRule2 (p : PV) (bs : Nat -> BV) (k : Nat) : Bool := decide ((bs (k - 1)).ty ≠ 1) || (decide (p.t = 0) && decide (cntB bs 7 k = 0))
def bunRule3 (p : PV) (bs : Nat -> BV) (k : Nat) : Bool := has p.fl 1 && decide (p.n < p.o + (bs (k - 1)).data.length)
def bunRight (p : PV) (bs : Nat -> BV) (k : Nat) : Int :=
 if p.right ≠ 0 then p.right else match firstOf (badAt bs) k with
  | some i => (bs i).right
  | none => if 16 < k then 4 else if bunRule1 bs k then 8 else if bunRule2 p bs k then 8 else if bunRule3 p bs k then 8 else if 4000 < (bunBytes p bs k).length then 4 else 0
theorem bad_no {bs : Nat -> BV} {i : Nat} (h : badAt bs i = false) : (bs i).right = 0 := by unfold badAt at h; simpa using h
theorem bunRight_zero {p : PV} {bs : Nat -> BV} {k : Nat} (h : bunRight p bs k = 0) : p.right = 0 /\ (∀ i, i < k -> (bs i).right = 0) /\ k <= 16 /\ bunRule1 bs k = false /\ bunRule2 p bs k = false /\ bunRule3 p bs k = false /\ (bunBytes p bs k).length <= 4000 := by
 unfold bunRight at h
 by_cases hb : p.right = 0
 .
  rw [if_neg (by simpa using hb)] at h
  cases hf : firstOf (badAt bs) k with
  | some i => rw [hf] at h; have := (firstOf_spec hf).2.1; exact absurd h (by simpa [badAt] using this)
  | none =>
   rw [hf] at h
   dsimp only at h
   by_cases h1 : 16 < k
   . rw [if_pos h1] at h; exact absurd h (by decide)
   .
    rw [if_neg h1] at h
    cases h2 : bunRule1 bs k with
    | true => rw [h2, if_pos rfl] at h; exact absurd h (by decide)
    | false =>
     rw [h2, if_neg (by decide)] at h
     cases h3 : bunRule2 p bs k with
     | true => rw [h3, if_pos rfl] at h; exact absurd h (by decide)
     | false =>
      rw [h3, if_neg (by decide)] at h
      cases h4 : bunRule3 p bs k with
      | true => rw [h4, if_pos rfl] at h; exact absurd h (by decide)
      | false =>
       rw [h4, if_neg (by decide)] at h
       by_cases h5 : 4000 < (bunBytes p bs k).length
       . rw [if_pos h5] at h; exact absurd h (by decide)
       . exact ⟨hb, fun i hi => bad_no (firstOf_no hf i hi), by omega, rfl, rfl, rfl, by omega⟩
 . rw [if_pos hb] at h; exact absurd h hb
theorem dup_no {bs : Nat -> BV} {k : Nat} (h : dupB bs k = false) {i j : Nat} (hi : i < k) (hj : j < i) : (bs i).num ≠ (bs j).num := by
 unfold dupB at h
 have h1 : firstOf (dupAt bs) k = none := by cases hf : firstOf (dupAt bs) k with | none => rfl | some x => rw [hf] at h; cases h
 have h2 := firstOf_no h1 i hi
 unfold dupAt at h2
 have h3 : firstOf (hasNumOf bs i) i = none := by cases hf : firstOf (hasNumOf bs i) i with | none => rfl | some x => rw [hf] at h2; cases h2
 have h4 := firstOf_no h3 j hj
 simpa [hasNumOf] using h4
theorem BV.bytes_length {b : BV} (h : b.right = 0) : b.bytes.length < 1000000 := by
 obtain ⟨h1, h2, h3, h4, h5, h6, h7, h8, h9⟩ := BV.right_zero h
 exact blkB_length h8 (by rw [sumB_length (by omega)]; omega)
theorem blksB_length {bs : Nat -> BV} : ∀ {k : Nat}, (∀ i, i < k -> (bs i).right = 0) -> (blksB bs k).length <= k * 1000000
 | 0, _ => by simp [blksB]
 | k + 1, h => by
  have h1 := blksB_length (k := k) fun i hi => h i (by omega)
  have h2 := BV.bytes_length (h k (by omega))
  rw [blksB, List.length_append]
  omega
theorem r12Build_any {b : BV} (h : b.right = 0) (w : World) : Calls Tryz.prog 27 #[b.v] w (Ret (str b.bytes) w) := by
 have hz := BV.right_zero h
 obtain ⟨ty, num, e⟩ := bv_nat h
 obtain ⟨crc, e2⟩ : ∃ c : Nat, b.crc = (c : Int) := ⟨b.crc.toNat, by omega⟩
 obtain ⟨bty, bnum, bfl, bcrc, bdata⟩ := b
 simp only [BV.mk.injEq] at e e2
 obtain ⟨rfl, rfl, -⟩ := e
 subst e2
 simp only [] at hz
 simpa [BV.bytes] using rBuild_ok ty num bfl crc bdata (by unfold Hid; omega) (by unfold Hid; omega) (by unfold Hid; omega) (by unfold Hid; omega) (by unfold Hid; omega) w
end Go.Proofs.YthecmnbkjchjmaaGreat
