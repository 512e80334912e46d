/-
 Primaries: the bytes, as the reference puts them together.
-/
import Derived.Test.YthecmnbkjchjmaaGreatMExtHopsal
import Derived.Test.YthecmnbkjchjmaaGreatMExtHopsas
import Derived.Test.YthecmnbkjchjmaaGreatMExtHopsat
import Derived.Lib.SliceRun
import Derived.Laws.OwnMore
import Derived.OwnWalk
import Derived.OneCell
namespace Go.Proofs.YthecmnbkjchjmaaGreat
open Go.RowKit
set_option linter.unusedVariables false
set_option linter.unusedSimpArgs false
set_option maxRecDepth 20000 in
theorem r11Count_any (p : PV) (hf : p.fl < 18446744073709551616) (k : Nat) (hk : k <= 2) (w : World) : Calls Tryz.prog 75 #[.int .u64 (p.fl : Int), .int .u64 (k : Int)] w (Ret (.int .i64 ((priN p k : Nat) : Int)) w) := by
 have h3 : k = 0 \/ k = 1 \/ k = 2 := by omega
 cases hh : has p.fl 1 <;> rcases h3 with rfl | rfl | rfl
 .
  have hx : ¬ p.fl % 2 = 1 := by simpa [has] using hh
  have KH : Hid (∀ W, Calls Tryz.prog 22 #[.int .u64 (p.fl : Int), .int .i64 1] W (Ret (.bool false) W)) := fun W => by have := Has_any p.fl 1 hf (by omega) (by omega) W; rw [hh] at this; exact this
  have HN : Hid (priN p 0 = 8) := by unfold Hid priN; simp [hx]
  clear hh hx hf
  go_enter Tryz.func75, Tryz.ntmps75
  go_wp2_with (go_at_call 22; refine (KH.out _).mono ?_; rintro x w1 ⟨rfl, hb1⟩)
  go_ret
  exact Ret.mk (by rw [HN.out]; rfl) hb1
 .
  have hx : ¬ p.fl % 2 = 1 := by simpa [has] using hh
  have KH : Hid (∀ W, Calls Tryz.prog 22 #[.int .u64 (p.fl : Int), .int .i64 1] W (Ret (.bool false) W)) := fun W => by have := Has_any p.fl 1 hf (by omega) (by omega) W; rw [hh] at this; exact this
  have HN : Hid (priN p 1 = 9) := by unfold Hid priN; simp [hx]
  clear hh hx hf
  go_enter Tryz.func75, Tryz.ntmps75
  go_wp2_with (go_at_call 22; refine (KH.out _).mono ?_; rintro x w1 ⟨rfl, hb1⟩)
  go_ret
  exact Ret.mk (by rw [HN.out]; rfl) hb1
 .
  have hx : ¬ p.fl % 2 = 1 := by simpa [has] using hh
  have KH : Hid (∀ W, Calls Tryz.prog 22 #[.int .u64 (p.fl : Int), .int .i64 1] W (Ret (.bool false) W)) := fun W => by have := Has_any p.fl 1 hf (by omega) (by omega) W; rw [hh] at this; exact this
  have HN : Hid (priN p 2 = 9) := by unfold Hid priN; simp [hx]
  clear hh hx hf
  go_enter Tryz.func75, Tryz.ntmps75
  go_wp2_with (go_at_call 22; refine (KH.out _).mono ?_; rintro x w1 ⟨rfl, hb1⟩)
  go_ret
  exact Ret.mk (by rw [HN.out]; rfl) hb1
 .
  have hx : p.fl % 2 = 1 := by simpa [has] using hh
  have KH : Hid (∀ W, Calls Tryz.prog 22 #[.int .u64 (p.fl : Int), .int .i64 1] W (Ret (.bool true) W)) := fun W => by have := Has_any p.fl 1 hf (by omega) (by omega) W; rw [hh] at this; exact this
  have HN : Hid (priN p 0 = 10) := by unfold Hid priN; simp [hx]
  clear hh hx hf
  go_enter Tryz.func75, Tryz.ntmps75
  go_wp2_with (go_at_call 22; refine (KH.out _).mono ?_; rintro x w1 ⟨rfl, hb1⟩)
  go_ret
  exact Ret.mk (by rw [HN.out]; rfl) hb1
 .
  have hx : p.fl % 2 = 1 := by simpa [has] using hh
  have KH : Hid (∀ W, Calls Tryz.prog 22 #[.int .u64 (p.fl : Int), .int .i64 1] W (Ret (.bool true) W)) := fun W => by have := Has_any p.fl 1 hf (by omega) (by omega) W; rw [hh] at this; exact this
  have HN : Hid (priN p 1 = 11) := by unfold Hid priN; simp [hx]
  clear hh hx hf
  go_enter Tryz.func75, Tryz.ntmps75
  go_wp2_with (go_at_call 22; refine (KH.out _).mono ?_; rintro x w1 ⟨rfl, hb1⟩)
  go_ret
  exact Ret.mk (by rw [HN.out]; rfl) hb1
 .
  have hx : p.fl % 2 = 1 := by simpa [has] using hh
  have KH : Hid (∀ W, Calls Tryz.prog 22 #[.int .u64 (p.fl : Int), .int .i64 1] W (Ret (.bool true) W)) := fun W => by have := Has_any p.fl 1 hf (by omega) (by omega) W; rw [hh] at this; exact this
  have HN : Hid (priN p 2 = 11) := by unfold Hid priN; simp [hx]
  clear hh hx hf
  go_enter Tryz.func75, Tryz.ntmps75
  go_wp2_with (go_at_call 22; refine (KH.out _).mono ?_; rintro x w1 ⟨rfl, hb1⟩)
  go_ret
  exact Ret.mk (by rw [HN.out]; rfl) hb1
theorem rBytesE (E : EV) (hE : E.ok = true) (B : Option Addr) (W : World) (hW : IsL W (fun _ => True) (eidT E) B) : Calls Tryz.prog 72 #[itemV (eidT E) B 2] W (Ret (str (eidT E).bytes) W) := rBytesI_any _ (eidT_ok hE).1 (eidT_ok hE).2.2.1 (eidT_ok hE).2.2.2 B 2 W hW
theorem eidT_len {e : EV} (ho : e.ok = true) : (eidT e).bytes.length <= 10000 := by
 have a := T.bytes_le (eidT e)
 have b := eidT_small ho
 omega
set_option maxRecDepth 20000 in
set_option maxHeartbeats 2000000 in
theorem r11bytes_any (p : PV) (h : p.ranged = true) (k : Nat) (hk : k <= 2) (sum : List UInt8) (hs : sum.length <= 90) (w : World) : Calls Tryz.prog 54 #[.agg p.c, .int .u64 (k : Int), str sum] w (Ret (str (priB p k sum)) w) := by
 obtain ⟨e1, e2, e3, c0, c1, f0, t0, q0, l0, o0, n0⟩ := PV.ranged_spec h
 have KC := hid (fun W => r11Count_any p (by omega) k hk W)
 have HX : Hid (priB p k sum = headL 4 (priN p k) ++ (headL 0 7 ++ (headL 0 p.fl ++ (headL 0 k ++ ((eidT p.d).bytes ++ ((eidT p.s).bytes ++ ((eidT p.r).bytes ++ (headL 4 2 ++ (headL 0 p.t ++ (headL 0 p.q ++ (headL 0 p.l ++ ((if p.fl % 2 = 1 then headL 0 p.o ++ headL 0 p.n else []) ++ (if k = 0 then [] else headL 2 sum.length ++ sum))))))))))))) := rfl
 have ID := hid (fun W => r10Item_ok p.d e1 W)
 have IS := hid (fun W => r10Item_ok p.s e2 W)
 have IR := hid (fun W => r10Item_ok p.r e3 W)
 have YD := hid (fun B W hW => rBytesE p.d e1 B W hW)
 have YS := hid (fun B W hW => rBytesE p.s e2 B W hW)
 have YR := hid (fun B W hW => rBytesE p.r e3 B W hW)
 have lD := eidT_len e1
 have lS := eidT_len e2
 have lR := eidT_len e3
 have hN : priN p k <= 11 := by unfold priN; split <;> split <;> omega
 have KSUM := hid (fun W => rBytes_any sum (by unfold Hid; omega) W)
 have lU := headL_le 2 sum.length
 have lU2 : (headL 2 sum.length ++ sum).length <= 200 := by rw [List.length_append]; omega
 have KHas : Hid (∀ W, Calls Tryz.prog 22 #[.int .u64 (p.fl : Int), .int .i64 1] W (Ret (.bool (has p.fl 1)) W)) := fun W => Has_any p.fl 1 (by omega) (by omega) (by omega) W
 generalize hgN : priN p k = N at *
 clear hgN
 have tN : IntKind.u64.wrap (N : Int) = (N : Int) := IntWalk.u64_in _ (by omega)
 have KN : Hid (∀ W, Calls Tryz.prog 28 #[.int .i64 4, .int .u64 (N : Int)] W (Ret (str (headL 4 N)) W)) := fun W => rHead_n 4 N (by omega) (by omega) W
 have KV : Hid (∀ W, Calls Tryz.prog 28 #[.int .i64 0, .int .u64 7] W (Ret (str (headL 0 7)) W)) := fun W => rHead_n 0 7 (by omega) (by omega) W
 have KF : Hid (∀ W, Calls Tryz.prog 28 #[.int .i64 0, .int .u64 (p.fl : Int)] W (Ret (str (headL 0 p.fl)) W)) := fun W => rHead_n 0 p.fl (by omega) (by omega) W
 have KK : Hid (∀ W, Calls Tryz.prog 28 #[.int .i64 0, .int .u64 (k : Int)] W (Ret (str (headL 0 k)) W)) := fun W => rHead_n 0 k (by omega) (by omega) W
 have K2 : Hid (∀ W, Calls Tryz.prog 28 #[.int .i64 4, .int .u64 2] W (Ret (str (headL 4 2)) W)) := fun W => rHead_n 4 2 (by omega) (by omega) W
 have KT : Hid (∀ W, Calls Tryz.prog 28 #[.int .i64 0, .int .u64 (p.t : Int)] W (Ret (str (headL 0 p.t)) W)) := fun W => rHead_n 0 p.t (by omega) (by omega) W
 have KQ : Hid (∀ W, Calls Tryz.prog 28 #[.int .i64 0, .int .u64 (p.q : Int)] W (Ret (str (headL 0 p.q)) W)) := fun W => rHead_n 0 p.q (by omega) (by omega) W
 have KL : Hid (∀ W, Calls Tryz.prog 28 #[.int .i64 0, .int .u64 (p.l : Int)] W (Ret (str (headL 0 p.l)) W)) := fun W => rHead_n 0 p.l (by omega) (by omega) W
 have KO : Hid (∀ W, Calls Tryz.prog 28 #[.int .i64 0, .int .u64 (p.o : Int)] W (Ret (str (headL 0 p.o)) W)) := fun W => rHead_n 0 p.o (by omega) (by omega) W
 have KM : Hid (∀ W, Calls Tryz.prog 28 #[.int .i64 0, .int .u64 (p.n : Int)] W (Ret (str (headL 0 p.n)) W)) := fun W => rHead_n 0 p.n (by omega) (by omega) W
 have lN := headL_le 4 N
 generalize headL 4 N = BN at *
 have lV := headL_le 0 7
 generalize headL 0 7 = BV at *
 have lF := headL_le 0 p.fl
 generalize headL 0 p.fl = BF at *
 have lK := headL_le 0 k
 generalize headL 0 k = BK at *
 have l2 := headL_le 4 2
 generalize headL 4 2 = B2 at *
 have lT := headL_le 0 p.t
 generalize headL 0 p.t = BT at *
 have lQ := headL_le 0 p.q
 generalize headL 0 p.q = BQ at *
 have lL := headL_le 0 p.l
 generalize headL 0 p.l = BL at *
 have lO := headL_le 0 p.o
 generalize headL 0 p.o = BO at *
 have lM := headL_le 0 p.n
 generalize headL 0 p.n = BM at *
 generalize headL 2 sum.length ++ sum = BU at *
 generalize eidT p.d = TD at *
 generalize eidT p.s = TS at *
 generalize eidT p.r = TR at *
 generalize TD.bytes = BD at *
 generalize TS.bytes = BS at *
 generalize TR.bytes = BR at *
 have HE := hid ((Mod.refl [] w).alloc (.cells p.c 26))
 have HB := hid (Blk.new w 26 p.c)
 have HF0 := hid f0
 clear h e1 e2 e3 c0 c1 f0 t0 q0 l0 o0 n0 hN hs
 have hk2 := hid hk
 clear hk
 go_enter Tryz.func54, Tryz.ntmps54
 go_upto_region 1 with fail
 generalize w.alloc (.cells p.c 26) = V at *
 have x0 : ∀ e : Later V, e.x.cell? ⟨w.heap.size, 0, none⟩ = some (.int .u64 (p.fl : Int)) := HB.out.cellL 0 rfl
 have x2 : ∀ e : Later V, e.x.cell? ⟨w.heap.size, 2, none⟩ = some (.int .i64 p.d.sch) := HB.out.cellL 2 rfl
 have x3 : ∀ e : Later V, e.x.cell? ⟨w.heap.size, 3, none⟩ = some (str p.d.name) := HB.out.cellL 3 rfl
 have x4 : ∀ e : Later V, e.x.cell? ⟨w.heap.size, 4, none⟩ = some (.int .u64 (p.d.node : Int)) := HB.out.cellL 4 rfl
 have x5 : ∀ e : Later V, e.x.cell? ⟨w.heap.size, 5, none⟩ = some (.int .u64 (p.d.svc : Int)) := HB.out.cellL 5 rfl
 have x6 : ∀ e : Later V, e.x.cell? ⟨w.heap.size, 6, none⟩ = some (.int .i64 p.s.sch) := HB.out.cellL 6 rfl
 have x7 : ∀ e : Later V, e.x.cell? ⟨w.heap.size, 7, none⟩ = some (str p.s.name) := HB.out.cellL 7 rfl
 have x8 : ∀ e : Later V, e.x.cell? ⟨w.heap.size, 8, none⟩ = some (.int .u64 (p.s.node : Int)) := HB.out.cellL 8 rfl
 have x9 : ∀ e : Later V, e.x.cell? ⟨w.heap.size, 9, none⟩ = some (.int .u64 (p.s.svc : Int)) := HB.out.cellL 9 rfl
 have x10 : ∀ e : Later V, e.x.cell? ⟨w.heap.size, 10, none⟩ = some (.int .i64 p.r.sch) := HB.out.cellL 10 rfl
 have x11 : ∀ e : Later V, e.x.cell? ⟨w.heap.size, 11, none⟩ = some (str p.r.name) := HB.out.cellL 11 rfl
 have x12 : ∀ e : Later V, e.x.cell? ⟨w.heap.size, 12, none⟩ = some (.int .u64 (p.r.node : Int)) := HB.out.cellL 12 rfl
 have x13 : ∀ e : Later V, e.x.cell? ⟨w.heap.size, 13, none⟩ = some (.int .u64 (p.r.svc : Int)) := HB.out.cellL 13 rfl
 have x14 : ∀ e : Later V, e.x.cell? ⟨w.heap.size, 14, none⟩ = some (.int .u64 (p.t : Int)) := HB.out.cellL 14 rfl
 have x15 : ∀ e : Later V, e.x.cell? ⟨w.heap.size, 15, none⟩ = some (.int .u64 (p.q : Int)) := HB.out.cellL 15 rfl
 have x16 : ∀ e : Later V, e.x.cell? ⟨w.heap.size, 16, none⟩ = some (.int .u64 (p.l : Int)) := HB.out.cellL 16 rfl
 have x17 : ∀ e : Later V, e.x.cell? ⟨w.heap.size, 17, none⟩ = some (.int .u64 (p.o : Int)) := HB.out.cellL 17 rfl
 have x18 : ∀ e : Later V, e.x.cell? ⟨w.heap.size, 18, none⟩ = some (.int .u64 (p.n : Int)) := HB.out.cellL 18 rfl
 obtain ⟨e, he⟩ := Later.self V
 rw [he]
 clear he
 refine wp_region_later (by kernel_rfl) (by kernel_rfl) ?_
 repeat (first | (refine q_cat (by rfl) _ _ _ _ rfl _ _ rfl rfl (by (try simp only [List.length_append]); omega) ?_; (try simp only [Act.put, sTl, s0l, sSl])) | go_big_quiet_step ((first | (go_at_call 75; with_reducible exact Ret.later (KC.out _)) | (go_at_call 28; first | (with_reducible exact Ret.later (KN.out _)) | (with_reducible exact Ret.later (KV.out _)) | (with_reducible exact Ret.later (KF.out _)) | (with_reducible exact Ret.later (KK.out _)) | (with_reducible exact Ret.later (K2.out _)) | (with_reducible exact Ret.later (KT.out _)) | (with_reducible exact Ret.later (KQ.out _)) | (with_reducible exact Ret.later (KL.out _)) | (with_reducible exact Ret.later (KO.out _)) | (with_reducible exact Ret.later (KM.out _))))))
 refine wpQuiet_nil ?_
 rintro _ ⟨e, rfl⟩
 try simp only [List.append_assoc]
 have lg1 : (BN ++ (BV ++ (BF ++ BK))).length <= 100 := by simp only [List.length_append]; omega
 generalize hq1 : BN ++ (BV ++ (BF ++ BK)) = q1 at *
 have HQ1 := hid hq1
 clear hq1
 go_upto_region 2 with fail
 have HS2 : Hid (∀ W, Ext V W -> W.cell? ⟨w.heap.size, 2, none⟩ = some (.int .i64 p.d.sch)) := fun W hW => (HB.out.ext hW).cell 2
 have HS3 : Hid (∀ W, Ext V W -> W.cell? ⟨w.heap.size, 3, none⟩ = some (str p.d.name)) := fun W hW => (HB.out.ext hW).cell 3
 have HS4 : Hid (∀ W, Ext V W -> W.cell? ⟨w.heap.size, 4, none⟩ = some (.int .u64 (p.d.node : Int))) := fun W hW => (HB.out.ext hW).cell 4
 have HS5 : Hid (∀ W, Ext V W -> W.cell? ⟨w.heap.size, 5, none⟩ = some (.int .u64 (p.d.svc : Int))) := fun W hW => (HB.out.ext hW).cell 5
 have HS6 : Hid (∀ W, Ext V W -> W.cell? ⟨w.heap.size, 6, none⟩ = some (.int .i64 p.s.sch)) := fun W hW => (HB.out.ext hW).cell 6
 have HS7 : Hid (∀ W, Ext V W -> W.cell? ⟨w.heap.size, 7, none⟩ = some (str p.s.name)) := fun W hW => (HB.out.ext hW).cell 7
 have HS8 : Hid (∀ W, Ext V W -> W.cell? ⟨w.heap.size, 8, none⟩ = some (.int .u64 (p.s.node : Int))) := fun W hW => (HB.out.ext hW).cell 8
 have HS9 : Hid (∀ W, Ext V W -> W.cell? ⟨w.heap.size, 9, none⟩ = some (.int .u64 (p.s.svc : Int))) := fun W hW => (HB.out.ext hW).cell 9
 have HS10 : Hid (∀ W, Ext V W -> W.cell? ⟨w.heap.size, 10, none⟩ = some (.int .i64 p.r.sch)) := fun W hW => (HB.out.ext hW).cell 10
 have HS11 : Hid (∀ W, Ext V W -> W.cell? ⟨w.heap.size, 11, none⟩ = some (str p.r.name)) := fun W hW => (HB.out.ext hW).cell 11
 have HS12 : Hid (∀ W, Ext V W -> W.cell? ⟨w.heap.size, 12, none⟩ = some (.int .u64 (p.r.node : Int))) := fun W hW => (HB.out.ext hW).cell 12
 have HS13 : Hid (∀ W, Ext V W -> W.cell? ⟨w.heap.size, 13, none⟩ = some (.int .u64 (p.r.svc : Int))) := fun W hW => (HB.out.ext hW).cell 13
 refine wp_region_held_drew (S := fun w' => Ext V w' /\ True) (by kernel_rfl) ⟨(Later.h e).drew, trivial⟩ (fun hHeld => ?_)
 refine' wpAnyH_take (i := 0) (v := _) rfl (by kernel_rfl) (by kernel_rfl) (by kernel_rfl) (fun _ _ _ h => h) (Or.inl ⟨by rfl, ?hy⟩) hHeld ?rest
 case hy => (rintro W ⟨hM, _⟩; go_simp; (try with_reducible rfl))
 case rest =>
 (try simp only [Act.put, sTl, s0l, sSl])
 refine' wpAnyH_take (i := 1) (v := _) rfl (by kernel_rfl) (by kernel_rfl) (by kernel_rfl) (fun _ _ _ h => h) (Or.inl ⟨by rfl, ?hy⟩) hHeld ?rest
 case hy => (rintro W ⟨hM, _⟩; go_simp; (try with_reducible rfl))
 case rest =>
 (try simp only [Act.put, sTl, s0l, sSl])
 refine' wpAnyH_take (i := 2) (v := _) rfl (by kernel_rfl) (by kernel_rfl) (by kernel_rfl) (fun _ _ _ h => h) (Or.inl ⟨by rfl, ?hy⟩) hHeld ?rest
 case hy => (rintro W ⟨hM, _⟩; have x2 := HS2.out W hM; have x3 := HS3.out W hM; have x4 := HS4.out W hM; have x5 := HS5.out W hM; go_simp; (try with_reducible rfl))
 case rest =>
 (try simp only [Act.put, sTl, s0l, sSl])
 refine' wpAnyH_take (i := 5) (v := _) rfl (by kernel_rfl) (by kernel_rfl) (by kernel_rfl) (fun _ _ _ h => h) (Or.inl ⟨by rfl, ?hy⟩) hHeld ?rest
 case hy => (rintro W ⟨hM, _⟩; go_simp; (try with_reducible rfl))
 case rest =>
 (try simp only [Act.put, sTl, s0l, sSl])
 refine' wpAnyH_take (i := 6) (v := _) rfl (by kernel_rfl) (by kernel_rfl) (by kernel_rfl) (fun _ _ _ h => h) (Or.inl ⟨by rfl, ?hy⟩) hHeld ?rest
 case hy => (rintro W ⟨hM, _⟩; have x6 := HS6.out W hM; have x7 := HS7.out W hM; have x8 := HS8.out W hM; have x9 := HS9.out W hM; go_simp; (try with_reducible rfl))
 case rest =>
 (try simp only [Act.put, sTl, s0l, sSl])
 refine' wpAnyH_take (i := 10) (v := _) rfl (by kernel_rfl) (by kernel_rfl) (by kernel_rfl) (fun _ _ _ h => h) (Or.inl ⟨by rfl, ?hy⟩) hHeld ?rest
 case hy => (rintro W ⟨hM, _⟩; go_simp; (try with_reducible rfl))
 case rest =>
 (try simp only [Act.put, sTl, s0l, sSl])
 refine' wpAnyH_take (i := 11) (v := _) rfl (by kernel_rfl) (by kernel_rfl) (by kernel_rfl) (fun _ _ _ h => h) (Or.inl ⟨by rfl, ?hy⟩) hHeld ?rest
 case hy => (rintro W ⟨hM, _⟩; have x10 := HS10.out W hM; have x11 := HS11.out W hM; have x12 := HS12.out W hM; have x13 := HS13.out W hM; go_simp; (try with_reducible rfl))
 case rest =>
 (try simp only [Act.put, sTl, s0l, sSl])
 refine wpAnyH_ready (rs := [3]) (by kernel_rfl) (by simp) ?_
 refine AllReadyH.cons rfl (fun K hK => ?_) AllReadyH.nil
 go_simp
 (go_at_call 73; refine (ID.out _).mono ?_; rintro x w1 ⟨A1, rfl, hb1, hi1⟩; have HI1 := hid (IsL.weak (R := fun _ => True) (fun _ _ _ => trivial) _ hi1))
 refine hK.out _ _ ⟨hHeld.1.trans hb1, trivial⟩ (fun hHeld => ?_)
 clear hK K
 (try simp only [Act.put, sTl, s0l, sSl])
 refine wpAnyH_ready (rs := [4]) (by kernel_rfl) (by simp) ?_
 refine AllReadyH.cons rfl (fun K hK => ?_) AllReadyH.nil
 go_simp
 (go_at_call 72; refine (YD.out _ _ HI1.out).mono ?_; rintro x w2 ⟨rfl, hb2⟩)
 refine hK.out _ _ ⟨hHeld.1.trans hb2, trivial⟩ (fun hHeld => ?_)
 clear hK K
 (try simp only [Act.put, sTl, s0l, sSl])
 refine wpAnyH_ready (rs := [7]) (by kernel_rfl) (by simp) ?_
 refine AllReadyH.cons rfl (fun K hK => ?_) AllReadyH.nil
 go_simp
 (go_at_call 73; refine (IS.out _).mono ?_; rintro x w3 ⟨A2, rfl, hb3, hi3⟩; have HI3 := hid (IsL.weak (R := fun _ => True) (fun _ _ _ => trivial) _ hi3))
 refine hK.out _ _ ⟨hHeld.1.trans hb3, trivial⟩ (fun hHeld => ?_)
 clear hK K
 (try simp only [Act.put, sTl, s0l, sSl])
 refine wpAnyH_ready (rs := [8]) (by kernel_rfl) (by simp) ?_
 refine AllReadyH.cons rfl (fun K hK => ?_) AllReadyH.nil
 go_simp
 (go_at_call 72; refine (YS.out _ _ HI3.out).mono ?_; rintro x w4 ⟨rfl, hb4⟩)
 refine hK.out _ _ ⟨hHeld.1.trans hb4, trivial⟩ (fun hHeld => ?_)
 clear hK K
 (try simp only [Act.put, sTl, s0l, sSl])
 refine wpAnyH_take (i := 9) rfl (by kernel_rfl) (by kernel_rfl) (by kernel_rfl) (fun _ _ _ h => h) (yieldsIf_cat (by rfl) _ _ _ _ rfl _ _ rfl rfl (by (try simp only [List.length_append]); omega)) hHeld ?_
 (try simp only [Act.put, sTl, s0l, sSl])
 refine wpAnyH_ready (rs := [12]) (by kernel_rfl) (by simp) ?_
 refine AllReadyH.cons rfl (fun K hK => ?_) AllReadyH.nil
 go_simp
 (go_at_call 73; refine (IR.out _).mono ?_; rintro x w5 ⟨A3, rfl, hb5, hi5⟩; have HI5 := hid (IsL.weak (R := fun _ => True) (fun _ _ _ => trivial) _ hi5))
 refine hK.out _ _ ⟨hHeld.1.trans hb5, trivial⟩ (fun hHeld => ?_)
 clear hK K
 (try simp only [Act.put, sTl, s0l, sSl])
 refine wpAnyH_ready (rs := [13]) (by kernel_rfl) (by simp) ?_
 refine AllReadyH.cons rfl (fun K hK => ?_) AllReadyH.nil
 go_simp
 (go_at_call 72; refine (YR.out _ _ HI5.out).mono ?_; rintro x w6 ⟨rfl, hb6⟩)
 refine hK.out _ _ ⟨hHeld.1.trans hb6, trivial⟩ (fun hHeld => ?_)
 clear hK K
 (try simp only [Act.put, sTl, s0l, sSl])
 refine wpAnyH_take (i := 14) rfl (by kernel_rfl) (by kernel_rfl) (by kernel_rfl) (fun _ _ _ h => h) (yieldsIf_cat (by rfl) _ _ _ _ rfl _ _ rfl rfl (by (try simp only [List.length_append]); omega)) hHeld ?_
 (try simp only [Act.put, sTl, s0l, sSl])
 refine wpAnyH_take (i := 15) rfl (by kernel_rfl) (by kernel_rfl) (by kernel_rfl) (fun _ _ _ h => h) (yieldsIf_cat (by rfl) _ _ _ _ rfl _ _ rfl rfl (by (try simp only [List.length_append]); omega)) hHeld ?_
 (try simp only [Act.put, sTl, s0l, sSl])
 refine wpAnyH_ready (rs := [16]) (by kernel_rfl) (by simp) ?_
 refine AllReadyH.cons rfl (fun K hK => ?_) AllReadyH.nil
 go_simp
 refine hK.out _ _ hHeld (fun hHeld => ?_)
 clear hK K
 (try simp only [Act.put, sTl, s0l, sSl])
 refine wpAnyH_done (by kernel_rfl) ?_ _
 obtain ⟨e, rfl⟩ : ∃ e : Later V, w6 = e.x := ⟨⟨_, hHeld.1⟩, rfl⟩
 try simp only [List.append_assoc]
 have lg2 : (q1 ++ (BD ++ (BS ++ BR))).length <= 40000 := by simp only [List.length_append]; omega
 generalize hq2 : q1 ++ (BD ++ (BS ++ BR)) = q2 at *
 have HQ2 := hid hq2
 clear hq2
 go_upto_region 3 with fail
 refine wp_region_later (by kernel_rfl) (by kernel_rfl) ?_
 repeat (first | (refine q_cat (by rfl) _ _ _ _ rfl _ _ rfl rfl (by (try simp only [List.length_append]); omega) ?_; (try simp only [Act.put, sTl, s0l, sSl])) | go_big_quiet_step ((go_at_call 28; first | (with_reducible exact Ret.later (KN.out _)) | (with_reducible exact Ret.later (KV.out _)) | (with_reducible exact Ret.later (KF.out _)) | (with_reducible exact Ret.later (KK.out _)) | (with_reducible exact Ret.later (K2.out _)) | (with_reducible exact Ret.later (KT.out _)) | (with_reducible exact Ret.later (KQ.out _)) | (with_reducible exact Ret.later (KL.out _)) | (with_reducible exact Ret.later (KO.out _)) | (with_reducible exact Ret.later (KM.out _)))))
 refine wpQuiet_nil ?_
 rintro _ ⟨e, rfl⟩
 try simp only [List.append_assoc]
 have lg3 : (q2 ++ (B2 ++ (BT ++ (BQ ++ BL)))).length <= 41000 := by simp only [List.length_append]; omega
 generalize hq3 : q2 ++ (B2 ++ (BT ++ (BQ ++ BL))) = q3 at *
 have HQ3 := hid hq3
 clear hq3
 cases hh : has p.fl 1
 all_goals rw [hh] at KHas
 .
  have HX2 : Hid (priB p k sum = q3 ++ (if k = 0 then [] else BU)) := by
   have hx : ¬ p.fl % 2 = 1 := by simpa [has] using hh
   unfold Hid
   rw [HX.out, if_neg hx, <- HQ3.out, <- HQ2.out, <- HQ1.out]
   simp only [List.append_assoc, List.nil_append]
  clear hh
  go_upto_region 6 with (go_at_call 22; refine (Ret.later (KHas.out _)).mono ?_; rintro x _ ⟨rfl, e, rfl⟩)
  have lg4 : ¬ 9223372036854775807 < q3.length + BU.length := by omega
  have hk := hk2.out
  have h3 : k = 0 \/ k = 1 \/ k = 2 := by omega
  rcases h3 with rfl | rfl | rfl
  .
   have HX3 : Hid (priB p 0 sum = q3) := by unfold Hid; rw [HX2.out]; exact List.append_nil _
   clear hk hk2 HX HQ1 HQ2 HQ3 HX2
   go_wp2_with (go_at_call 76; refine (Ret.later (KSUM.out _)).mono ?_; rintro x _ ⟨rfl, e, rfl⟩)
   go_ret
   refine Ret.mk ?_ (HE.out.trans e.h)
   rw [HX3.out]
   rfl
  .
   have HX3 : Hid (priB p 1 sum = q3 ++ BU) := by unfold Hid; rw [HX2.out]; rfl
   clear hk hk2 HX HQ1 HQ2 HQ3 HX2
   go_wp2_with (go_at_call 76; refine (Ret.later (KSUM.out _)).mono ?_; rintro x _ ⟨rfl, e, rfl⟩)
   go_ret
   refine Ret.mk ?_ (HE.out.trans e.h)
   rw [HX3.out]
   exact str_app _ _
  .
   have HX3 : Hid (priB p 2 sum = q3 ++ BU) := by unfold Hid; rw [HX2.out]; rfl
   clear hk hk2 HX HQ1 HQ2 HQ3 HX2
   go_wp2_with (go_at_call 76; refine (Ret.later (KSUM.out _)).mono ?_; rintro x _ ⟨rfl, e, rfl⟩)
   go_ret
   refine Ret.mk ?_ (HE.out.trans e.h)
   rw [HX3.out]
   exact str_app _ _
 .
  have HX2 : Hid (priB p k sum = (q3 ++ (BO ++ BM)) ++ (if k = 0 then [] else BU)) := by
   have hx : p.fl % 2 = 1 := by simpa [has] using hh
   unfold Hid
   rw [HX.out, if_pos hx, <- HQ3.out, <- HQ2.out, <- HQ1.out]
   simp only [List.append_assoc]
  clear hh
  go_upto_region 5 with (go_at_call 22; refine (Ret.later (KHas.out _)).mono ?_; rintro x _ ⟨rfl, e, rfl⟩)
  refine wp_region_later (by kernel_rfl) (by kernel_rfl) ?_
  repeat (first | (refine q_cat (by rfl) _ _ _ _ rfl _ _ rfl rfl (by (try simp only [List.length_append]); omega) ?_; (try simp only [Act.put, sTl, s0l, sSl])) | go_big_quiet_step ((go_at_call 28; first | (with_reducible exact Ret.later (KN.out _)) | (with_reducible exact Ret.later (KV.out _)) | (with_reducible exact Ret.later (KF.out _)) | (with_reducible exact Ret.later (KK.out _)) | (with_reducible exact Ret.later (K2.out _)) | (with_reducible exact Ret.later (KT.out _)) | (with_reducible exact Ret.later (KQ.out _)) | (with_reducible exact Ret.later (KL.out _)) | (with_reducible exact Ret.later (KO.out _)) | (with_reducible exact Ret.later (KM.out _)))))
  refine wpQuiet_nil ?_
  rintro _ ⟨e, rfl⟩
  try simp only [List.append_assoc]
  have lg4 : (q3 ++ (BO ++ BM)).length <= 42000 := by simp only [List.length_append]; omega
  generalize hq4 : q3 ++ (BO ++ BM) = q4 at *
  clear hq4
  go_upto_region 6 with fail
  have lg5 : ¬ 9223372036854775807 < q4.length + BU.length := by omega
  have hk := hk2.out
  have h3 : k = 0 \/ k = 1 \/ k = 2 := by omega
  rcases h3 with rfl | rfl | rfl
  .
   have HX3 : Hid (priB p 0 sum = q4) := by unfold Hid; rw [HX2.out]; exact List.append_nil _
   clear hk hk2 HX HQ1 HQ2 HQ3 HX2
   go_wp2_with (go_at_call 76; refine (Ret.later (KSUM.out _)).mono ?_; rintro x _ ⟨rfl, e, rfl⟩)
   go_ret
   refine Ret.mk ?_ (HE.out.trans e.h)
   rw [HX3.out]
   rfl
  .
   have HX3 : Hid (priB p 1 sum = q4 ++ BU) := by unfold Hid; rw [HX2.out]; rfl
   clear hk hk2 HX HQ1 HQ2 HQ3 HX2
   go_wp2_with (go_at_call 76; refine (Ret.later (KSUM.out _)).mono ?_; rintro x _ ⟨rfl, e, rfl⟩)
   go_ret
   refine Ret.mk ?_ (HE.out.trans e.h)
   rw [HX3.out]
   exact str_app _ _
  .
   have HX3 : Hid (priB p 2 sum = q4 ++ BU) := by unfold Hid; rw [HX2.out]; rfl
   clear hk hk2 HX HQ1 HQ2 HQ3 HX2
   go_wp2_with (go_at_call 76; refine (Ret.later (KSUM.out _)).mono ?_; rintro x _ ⟨rfl, e, rfl⟩)
   go_ret
   refine Ret.mk ?_ (HE.out.trans e.h)
   rw [HX3.out]
   exact str_app _ _
theorem priB_length {p : PV} (h : p.ranged = true) {k : Nat} (hk : k <= 2) {s : List UInt8} (hs : s.length <= 90) : (priB p k s).length < 1000000 := by
 obtain ⟨a, b, c⟩ := priT_all h hk (sum := s) hs
 rw [<- priT_bytes]
 have := T.bytes_le (priT p k s)
 omega
set_option maxRecDepth 20000 in
set_option maxHeartbeats 800000 in
theorem r11Build_ok (p : PV) (h : p.ranged = true) (w : World) : Calls Tryz.prog 26 #[.agg p.c] w (Ret (str p.bytes) w) := by
 have hrs := PV.ranged_spec h
 obtain ⟨k, hc⟩ := Int.eq_ofNat_of_zero_le hrs.2.2.2.1
 have hk : k <= 2 := by omega
 have KB := hid (fun W => r11bytes_any p h k hk (List.replicate (2 * k) 0) (by simp; omega) W)
 have KC : Hid (∀ W, Calls Tryz.prog 53 #[.int .i64 (k : Int), str (priB p k (List.replicate (2 * k) 0))] W (Ret (str (priSum p k)) W)) := fun W => R4B_any k hk (priB p k (List.replicate (2 * k) 0)) (priB_length h hk (by simp; omega)) W
 have KE := hid (fun W => r11bytes_any p h k hk (priSum p k) (by rw [priSum_length p hk]; omega) W)
 have HV : Hid (p.bytes = priB p k (priSum p k)) := by unfold Hid PV.bytes; rw [hc]; rfl
 have hmk : ∀ W : World, (Instr.makeSlice 100 (.int .i64 (2 * (k : Int))) (.int .i64 (2 * (k : Int)))).run Tryz.prog W = .ok (.slice (some ⟨W.heap.size, 0, none⟩) (2 * k) (2 * k)) (W.alloc (.cells (madeCells #[.int .u8 0] (2 * k)) 5)) := by
  intro W
  have := run_make_row' (P := Tryz.prog) 100 5 (.int .u8 0) 1 vqB infoByte8 rfl .i64 .i64 (2 * k) (by omega) (by omega) W
  simpa using this
 have hcv := conv_made (2 * k) (2 * k)
 have t2 : IntKind.i64.wrap (2 * (k : Int)) = 2 * (k : Int) := IntWalk.i64_in _ (by omega)
 have t1 : IntKind.u64.wrap (k : Int) = (k : Int) := IntWalk.u64_in _ (by omega)
 generalize List.replicate (2 * k) (0 : UInt8) = Z at *
 generalize priB p k Z = X at *
 generalize priSum p k = Y at *
 generalize priB p k Y = R at *
 have HE := hid ((Mod.refl [] w).alloc (.cells p.c 26))
 have HB := hid (Blk.new w 26 p.c)
 have HC := hid hc
 clear h hrs hc hk
 go_enter Tryz.func26, Tryz.ntmps26
 go_upto_region 1 with fail
 generalize w.alloc (.cells p.c 26) = V at *
 have HBL : Hid (∀ e : Later V, Blk e.x w.heap.size 26 p.c) := fun e => HB.out.later e
 have HBM : Hid (∀ W, Ext V W -> Blk W w.heap.size 26 p.c) := fun W hW => HB.out.ext hW
 have HS1 : Hid (∀ W, Ext V W -> W.cell? ⟨w.heap.size, 1, none⟩ = some (.int .i64 (k : Int))) := fun W hW => by rw [<- HC.out]; exact (HB.out.ext hW).cell 1
 have x1 : ∀ e : Later V, e.x.cell? ⟨w.heap.size, 1, none⟩ = some (.int .i64 (k : Int)) := fun e => HS1.out _ e.h
 obtain ⟨e, he⟩ := Later.self V
 rw [he]
 clear he
 have hcv2 : (convert 100 9 (.slice (some ⟨e.x.heap.size, 0, none⟩) (2 * k) (2 * k))).run Tryz.prog (e.x.alloc (.cells (madeCells #[.int .u8 0] (2 * k)) 5)).drew = .ok (str Z) (e.x.alloc (.cells (madeCells #[.int .u8 0] (2 * k)) 5)).drew := hcv e.x.drew
 refine wp_region_held_drew (S := fun w' => Ext V w' /\ True) (by kernel_rfl) ⟨(Later.h e).drew, trivial⟩ (fun hHeld => ?_)
 refine' wpAnyH_take (i := 0) (v := _) rfl (by kernel_rfl) (by kernel_rfl) (by kernel_rfl) (fun _ _ _ h => h) (Or.inl ⟨by rfl, ?hy⟩) hHeld ?rest
 case hy => (rintro W ⟨hM, _⟩; go_simp; (try with_reducible rfl))
 case rest =>
 (try simp only [Act.put, sTl, s0l, sSl])
 refine' wpAnyH_take (i := 1) (v := _) rfl (by kernel_rfl) (by kernel_rfl) (by kernel_rfl) (fun _ _ _ h => h) (Or.inl ⟨by rfl, ?hy⟩) hHeld ?rest
 case hy => (rintro W ⟨hM, _⟩; have x1 := HS1.out W hM; go_simp; (try with_reducible rfl))
 case rest =>
 (try simp only [Act.put, sTl, s0l, sSl])
 refine wpAnyH_take (i := 2) rfl (by kernel_rfl) (by kernel_rfl) (by kernel_rfl) (fun _ _ _ h => h) (yieldsIf_row (by rfl) 26 _ rfl _ rfl (fun W h => HBM.out W h.1) vqC rfl (by kernel_rfl)) hHeld ?_
 (try simp only [Act.put, sTl, s0l, sSl])
 refine' wpAnyH_take (i := 3) (v := _) rfl (by kernel_rfl) (by kernel_rfl) (by kernel_rfl) (fun _ _ _ h => h) (Or.inl ⟨by rfl, ?hy⟩) hHeld ?rest
 case hy => (rintro W ⟨hM, _⟩; go_simp; (try with_reducible rfl))
 case rest =>
 (try simp only [Act.put, sTl, s0l, sSl])
 refine' wpAnyH_take (i := 4) (v := _) rfl (by kernel_rfl) (by kernel_rfl) (by kernel_rfl) (fun _ _ _ h => h) (Or.inl ⟨by rfl, ?hy⟩) hHeld ?rest
 case hy => (rintro W ⟨hM, _⟩; have x1 := HS1.out W hM; go_simp; (try with_reducible rfl))
 case rest =>
 (try simp only [Act.put, sTl, s0l, sSl])
 refine' wpAnyH_take (i := 5) (v := _) rfl (by kernel_rfl) (by kernel_rfl) (by kernel_rfl) (fun _ _ _ h => h) (Or.inl ⟨by rfl, ?hy⟩) hHeld ?rest
 case hy => (rintro W ⟨hM, _⟩; go_simp; (try with_reducible rfl))
 case rest =>
 (try simp only [Act.put, sTl, s0l, sSl])
 refine' wpAnyH_take (i := 6) (v := _) rfl (by kernel_rfl) (by kernel_rfl) (by kernel_rfl) (fun _ _ _ h => h) (Or.inl ⟨by rfl, ?hy⟩) hHeld ?rest
 case hy => (rintro W ⟨hM, _⟩; go_simp; (try with_reducible rfl))
 case rest =>
 (try simp only [Act.put, sTl, s0l, sSl])
 refine' wpAnyH_take (i := 7) (v := _) rfl (by kernel_rfl) (by kernel_rfl) (by kernel_rfl) (fun _ _ _ h => h) (Or.inl ⟨by rfl, ?hy⟩) hHeld ?rest
 case hy => (rintro W ⟨hM, _⟩; have x1 := HS1.out W hM; go_simp; (try with_reducible rfl))
 case rest =>
 (try simp only [Act.put, sTl, s0l, sSl])
 refine' wpAnyH_take (i := 8) (v := _) rfl (by kernel_rfl) (by kernel_rfl) (by kernel_rfl) (fun _ _ _ h => h) (Or.inl ⟨by rfl, ?hy⟩) hHeld ?rest
 case hy => (rintro W ⟨hM, _⟩; go_simp; (try with_reducible rfl))
 case rest =>
 (try simp only [Act.put, sTl, s0l, sSl])
 refine wpAnyH_ready (rs := [9]) (by kernel_rfl) (by simp) ?_
 refine AllReadyH.cons rfl (fun K hK => ?_) AllReadyH.nil
 go_simp
 refine hK.out _ _ ⟨hHeld.1.alloc _, trivial⟩ (fun hHeld => ?_)
 clear hK K
 (try simp only [Act.put, sTl, s0l, sSl])
 refine wpAnyH_ready (rs := [10]) (by kernel_rfl) (by simp) ?_
 refine AllReadyH.cons rfl (fun K hK => ?_) AllReadyH.nil
 go_simp
 refine hK.out _ _ hHeld (fun hHeld => ?_)
 clear hK K
 (try simp only [Act.put, sTl, s0l, sSl])
 refine wpAnyH_ready (rs := [11]) (by kernel_rfl) (by simp) ?_
 refine AllReadyH.cons rfl (fun K hK => ?_) AllReadyH.nil
 go_simp
 (go_at_call 54; refine (KB.out _).mono ?_; rintro x w1 ⟨rfl, hb1⟩)
 refine hK.out _ _ ⟨hHeld.1.trans hb1, trivial⟩ (fun hHeld => ?_)
 clear hK K
 (try simp only [Act.put, sTl, s0l, sSl])
 refine wpAnyH_ready (rs := [12]) (by kernel_rfl) (by simp) ?_
 refine AllReadyH.cons rfl (fun K hK => ?_) AllReadyH.nil
 go_simp
 (go_at_call 53; refine (KC.out _).mono ?_; rintro x w2 ⟨rfl, hb2⟩)
 refine hK.out _ _ ⟨hHeld.1.trans hb2, trivial⟩ (fun hHeld => ?_)
 clear hK K
 (try simp only [Act.put, sTl, s0l, sSl])
 refine wpAnyH_ready (rs := [13]) (by kernel_rfl) (by simp) ?_
 refine AllReadyH.cons rfl (fun K hK => ?_) AllReadyH.nil
 go_simp
 refine hK.out _ _ hHeld (fun hHeld => ?_)
 clear hK K
 (try simp only [Act.put, sTl, s0l, sSl])
 refine wpAnyH_done (by kernel_rfl) ?_ _
 obtain ⟨e2, rfl⟩ : ∃ e2 : Later V, w2 = e2.x := ⟨⟨_, hHeld.1⟩, rfl⟩
 clear hb1 hb2 hHeld hcv2 hcv hmk
 go_wp2_with (first | (refine wpList_row (by rfl) 26 _ rfl _ rfl (HBL.out _) vqC rfl (by kernel_rfl) ?_) | (go_at_call 54; refine (Ret.later (KE.out _)).mono ?_; rintro x _ ⟨rfl, e3, rfl⟩))
 go_ret
 exact Ret.mk (by rw [HV.out]; rfl) (HE.out.trans e3.h)
def BV.bytes (b : BV) : List UInt8 := blkB b.ty.toNat b.num.toNat b.fl b.crc.toNat b.data (sumB b.ty.toNat b.num.toNat b.fl b.crc.toNat b.data)
def cntB (bs : Nat -> BV) (typ : Int) : Nat -> Nat
 | 0 => 0
 | k + 1 => cntB bs typ k + (if (bs k).ty = typ then 1 else 0)
theorem cntB_le (bs : Nat -> BV) (typ : Int) : ∀ k, cntB bs typ k <= k
 | 0 => Nat.le_refl _
 | k + 1 => by have := cntB_le bs typ k; rw [cntB]; split <;> omega
theorem cntB_no {bs : Nat -> BV} {typ : Int} : ∀ {k : Nat}, (∀ j, j < k -> tyB bs typ j = false) -> cntB bs typ k = 0
 | 0, _ => rfl
 | k + 1, h => by
  have h1 := h k (by omega)
  have : (bs k).ty ≠ typ := by intro e; rw [tyB_yes e] at h1; cases h1
  rw [cntB, cntB_no fun j hj => h j (by omega), if_neg this]
theorem cntB_pos {bs : Nat -> BV} {typ : Int} {i : Nat} : ∀ {k : Nat}, i < k -> tyB bs typ i = true -> 1 <= cntB bs typ k
 | k + 1, h, ht => by
  rw [cntB]
  by_cases e : i = k
  .
   subst e
   have : (bs i).ty = typ := by simpa [tyB] using ht
   rw [if_pos this]; omega
  . have := cntB_pos (k := k) (by omega) ht; omega
theorem cntB_find {bs : Nat -> BV} {typ : Int} {k : Nat} : (firstOf (tyB bs typ) k).isSome = decide (cntB bs typ k ≠ 0) := by
 cases h : firstOf (tyB bs typ) k with
 | none => rw [cntB_no (firstOf_no h)]; rfl
 | some i => have := cntB_pos (firstOf_spec h).1 (firstOf_spec h).2.1; symm; simp; omega
def hasNumOf (bs : Nat -> BV) (i j : Nat) : Bool := decide ((bs i).num = (bs j).num)
def dupAt (bs : Nat -> BV) (i : Nat) : Bool := (firstOf (hasNumOf bs i) i).isSome
def dupB (bs : Nat -> BV) (k : Nat) : Bool := (firstOf (dupAt bs) k).isSome
def blksB (bs : Nat -> BV) : Nat -> List UInt8
 | 0 => []
 | k + 1 => blksB bs k ++ (bs k).bytes
def bunBytes (p : PV) (bs : Nat -> BV) (k : Nat) : List UInt8 := 159 :: p.bytes ++ blksB bs k ++ [255]
def badAt (bs : Nat -> BV) (i : Nat) : Bool := decide ((bs i).right ≠ 0)
def bunRule1 (bs : Nat -> BV) (k : Nat) : Bool := decide (k = 0) || decide (cntB bs 1 k ≠ 1) || dupB bs k || decide (1 < cntB bs 6 k) || decide (1 < cntB bs 7 k) || decide (1 < cntB bs 10 k)
def bunRule2 (p : PV) (bs : Nat -> BV) (k : Nat) : Bool := decide ((bs (k - 1)).ty ≠ 1) || (decide (p.t = 0) && decide (cntB bs 7 k = 0))
def bunRule3 (p : PV) (bs : Nat -> BV) (k : Nat) : Bool := has p.fl 1 && decide (p.n < p.o + (bs (k - 1)).data.length)
def bunRight (p : PV) (bs : Nat -> BV) (k : Nat) : Int :=
 if p.right ≠ 0 then p.right else match firstOf (badAt bs) k with
  | some i => (bs i).right
  | none => if 16 < k then 4 else if bunRule1 bs k then 8 else if bunRule2 p bs k then 8 else if bunRule3 p bs k then 8 else if 4000 < (bunBytes p bs k).length then 4 else 0
theorem bad_no {bs : Nat -> BV} {i : Nat} (h : badAt bs i = false) : (bs i).right = 0 := by unfold badAt at h; simpa using h
theorem bunRight_zero {p : PV} {bs : Nat -> BV} {k : Nat} (h : bunRight p bs k = 0) : p.right = 0 /\ (∀ i, i < k -> (bs i).right = 0) /\ k <= 16 /\ bunRule1 bs k = false /\ bunRule2 p bs k = false /\ bunRule3 p bs k = false /\ (bunBytes p bs k).length <= 4000 := by
 unfold bunRight at h
 by_cases hb : p.right = 0
 .
  rw [if_neg (by simpa using hb)] at h
  cases hf : firstOf (badAt bs) k with
  | some i => rw [hf] at h; have := (firstOf_spec hf).2.1; exact absurd h (by simpa [badAt] using this)
  | none =>
   rw [hf] at h
   dsimp only at h
   by_cases h1 : 16 < k
   . rw [if_pos h1] at h; exact absurd h (by decide)
   .
    rw [if_neg h1] at h
    cases h2 : bunRule1 bs k with
    | true => rw [h2, if_pos rfl] at h; exact absurd h (by decide)
    | false =>
     rw [h2, if_neg (by decide)] at h
     cases h3 : bunRule2 p bs k with
     | true => rw [h3, if_pos rfl] at h; exact absurd h (by decide)
     | false =>
      rw [h3, if_neg (by decide)] at h
      cases h4 : bunRule3 p bs k with
      | true => rw [h4, if_pos rfl] at h; exact absurd h (by decide)
      | false =>
       rw [h4, if_neg (by decide)] at h
       by_cases h5 : 4000 < (bunBytes p bs k).length
       . rw [if_pos h5] at h; exact absurd h (by decide)
       . exact ⟨hb, fun i hi => bad_no (firstOf_no hf i hi), by omega, rfl, rfl, rfl, by omega⟩
 . rw [if_pos hb] at h; exact absurd h hb
theorem dup_no {bs : Nat -> BV} {k : Nat} (h : dupB bs k = false) {i j : Nat} (hi : i < k) (hj : j < i) : (bs i).num ≠ (bs j).num := by
 unfold dupB at h
 have h1 : firstOf (dupAt bs) k = none := by cases hf : firstOf (dupAt bs) k with | none => rfl | some x => rw [hf] at h; cases h
 have h2 := firstOf_no h1 i hi
 unfold dupAt at h2
 have h3 : firstOf (hasNumOf bs i) i = none := by cases hf : firstOf (hasNumOf bs i) i with | none => rfl | some x => rw [hf] at h2; cases h2
 have h4 := firstOf_no h3 j hj
 simpa [hasNumOf] using h4
theorem BV.bytes_length {b : BV} (h : b.right = 0) : b.bytes.length < 1000000 := by
 obtain ⟨h1, h2, h3, h4, h5, h6, h7, h8, h9⟩ := BV.right_zero h
 exact blkB_length h8 (by rw [sumB_length (by omega)]; omega)
theorem blksB_length {bs : Nat -> BV} : ∀ {k : Nat}, (∀ i, i < k -> (bs i).right = 0) -> (blksB bs k).length <= k * 1000000
 | 0, _ => by simp [blksB]
 | k + 1, h => by
  have h1 := blksB_length (k := k) fun i hi => h i (by omega)
  have h2 := BV.bytes_length (h k (by omega))
  rw [blksB, List.length_append]
  omega
theorem r12Build_any {b : BV} (h : b.right = 0) (w : World) : Calls Tryz.prog 27 #[b.v] w (Ret (str b.bytes) w) := by
 have hz := BV.right_zero h
 obtain ⟨ty, num, e⟩ := bv_nat h
 obtain ⟨crc, e2⟩ : ∃ c : Nat, b.crc = (c : Int) := ⟨b.crc.toNat, by omega⟩
 obtain ⟨bty, bnum, bfl, bcrc, bdata⟩ := b
 simp only [BV.mk.injEq] at e e2
 obtain ⟨rfl, rfl, -⟩ := e
 subst e2
 simp only [] at hz
 simpa [BV.bytes] using rBuild_ok ty num bfl crc bdata (by unfold Hid; omega) (by unfold Hid; omega) (by unfold Hid; omega) (by unfold Hid; omega) (by unfold Hid; omega) w
def spec (t : Int) : Prop := t = 6 \/ t = 7 \/ t = 10
structure Lk1 (a r : BV) : Prop where
 ty : a.ty = r.ty
 num : a.num = r.num
 fl : a.fl = r.fl
 crc : a.crc = r.crc
 d : a.data = r.data \/ (spec r.ty /\ a.data.length <= 70)
def Lk (R : Nat -> BV) (k : Nat) (bs : Nat -> BV) : Prop := ∀ i, i < k -> Lk1 (bs i) (R i)
theorem Lk.refl (R : Nat -> BV) (k : Nat) : Lk R k R := fun i hi => ⟨rfl, rfl, rfl, rfl, .inl rfl⟩
theorem Lk.set {R bs : Nat -> BV} {k : Nat} (h : Lk R k bs) {i : Nat} (hs : spec (R i).ty) {d : List UInt8} (hd : d.length <= 70) : Lk R k (fun j => if j = i then { bs i with data := d } else bs j) := fun j hj => by
 by_cases e : j = i
 .
  subst e
  have g := h j hj
  show Lk1 (if j = j then _ else _) _
  rw [if_pos rfl]
  exact ⟨g.ty, g.num, g.fl, g.crc, .inr ⟨hs, hd⟩⟩
 .
  show Lk1 (if j = i then _ else _) _
  rw [if_neg e]
  exact h j hj
theorem firstOf_congr' {p q : Nat -> Bool} {k : Nat} (h : ∀ j, j < k -> p j = q j) : firstOf p k = firstOf q k := by
 cases hq : firstOf q k with
 | none => exact firstOf_none fun j hj => by rw [h j hj]; exact firstOf_no hq j hj
 | some i =>
  obtain ⟨h1, h2, h3⟩ := firstOf_spec hq
  exact firstOf_some h1 (by rw [h i h1]; exact h2) fun j hj => by rw [h j (by omega)]; exact h3 j hj
theorem cntB_congr' {bs bs' : Nat -> BV} (t : Int) : ∀ {k : Nat}, (∀ j, j < k -> (bs j).ty = (bs' j).ty) -> cntB bs t k = cntB bs' t k
 | 0, _ => rfl
 | k + 1, h => by rw [cntB, cntB, cntB_congr' t fun j hj => h j (by omega), h k (by omega)]
theorem dupB_iff {bs : Nat -> BV} {k : Nat} : dupB bs k = false ↔ ∀ i j, i < k -> j < i -> (bs i).num ≠ (bs j).num := by
 constructor
 . intro h i j hi hj; exact dup_no h hi hj
 .
  intro h
  unfold dupB
  rw [firstOf_none]
  . rfl
  .
   intro i hi
   unfold dupAt
   rw [firstOf_none]
   . rfl
   .
    intro j hj
    unfold hasNumOf
    exact decide_eq_false (h i j hi hj)
structure BOK (p : PV) (bs : Nat -> BV) (k : Nat) : Prop where
 pr : p.right = 0
 br : ∀ i, i < k -> (bs i).right = 0
 k16 : k <= 16
 k0 : 0 < k
 c1 : cntB bs 1 k = 1
 du : dupB bs k = false
 c6 : cntB bs 6 k <= 1
 c7 : cntB bs 7 k <= 1
 c10 : cntB bs 10 k <= 1
 la : (bs (k - 1)).ty = 1
 t0 : p.t = 0 -> cntB bs 7 k ≠ 0
 fr : has p.fl 1 = true -> p.o + (bs (k - 1)).data.length <= p.n
 l : (bunBytes p bs k).length <= 4000
theorem bok_of {p : PV} {bs : Nat -> BV} {k : Nat} (h : bunRight p bs k = 0) : BOK p bs k := by
 obtain ⟨h1, h2, h3, h4, h5, h6, h7⟩ := bunRight_zero h
 unfold bunRule1 at h4
 unfold bunRule2 at h5
 unfold bunRule3 at h6
 simp only [Bool.or_eq_false_iff, decide_eq_false_iff_not] at h4 h5
 obtain ⟨⟨⟨⟨⟨a1, a2⟩, a3⟩, a4⟩, a5⟩, a6⟩ := h4
 obtain ⟨b1, b2⟩ := h5
 refine ⟨h1, h2, h3, by omega, by omega, a3, by omega, by omega, by omega, by simpa using b1, fun e c => ?_, fun hh => ?_, h7⟩
 . rw [e, c] at b2; exact absurd b2 (by decide)
 .
  rw [hh] at h6
  simp at h6
  omega
theorem bok_to {p : PV} {bs : Nat -> BV} {k : Nat} (h : BOK p bs k) : bunRight p bs k = 0 := by
 have h1 : bunRule1 bs k = false := by
  unfold bunRule1
  simp only [Bool.or_eq_false_iff, decide_eq_false_iff_not]
  exact ⟨⟨⟨⟨⟨by have := h.k0; omega, by have := h.c1; omega⟩, h.du⟩, by have := h.c6; omega⟩, by have := h.c7; omega⟩, by have := h.c10; omega⟩
 have h2 : bunRule2 p bs k = false := by
  unfold bunRule2
  simp only [Bool.or_eq_false_iff, decide_eq_false_iff_not]
  refine ⟨by have := h.la; simpa using this, ?_⟩
  by_cases e : p.t = 0
  . rw [decide_eq_false (h.t0 e)]; simp
  . rw [decide_eq_false e]; rfl
 have h3 : bunRule3 p bs k = false := by
  unfold bunRule3
  cases hh : has p.fl 1 with
  | false => rfl
  | true => have := h.fr hh; simp; omega
 unfold bunRight
 rw [if_neg (by simpa using h.pr), firstOf_none (p := badAt bs) fun j hj => by unfold badAt; simpa using h.br j hj]
 dsimp only
 rw [if_neg (by have := h.k16; omega), h1, if_neg (by decide), h2, if_neg (by decide), h3, if_neg (by decide), if_neg (by have := h.l; omega)]
theorem BV.bytes_le {b : BV} (h : b.right = 0) : b.bytes.length <= b.data.length + 60 := by
 obtain ⟨h1, h2, h3, h4, h5, h6, h7, h8, h9⟩ := BV.right_zero h
 have a0 : ∀ x, (headL 4 x).length <= 9 := headL_le 4
 have s : (sumB b.ty.toNat b.num.toNat b.fl b.crc.toNat b.data).length <= 4 := by rw [sumB_length (by omega)]; omega
 unfold BV.bytes blkB
 generalize sumB b.ty.toNat b.num.toNat b.fl b.crc.toNat b.data = S at *
 have e1 : ∀ x, x < 24 -> (headL 4 x).length = 1 := fun x hx => by unfold headL; rw [if_pos hx]; rfl
 have e2 : ∀ x, x < 24 -> (headL 2 x).length = 1 := fun x hx => by unfold headL; rw [if_pos hx]; rfl
 have a1 := headL_le 0 b.ty.toNat
 have a2 := headL_le 0 b.num.toNat
 have a3 := headL_le 0 b.fl
 have a4 := headL_le 0 b.crc.toNat
 have a5 := headL_le 2 b.data.length
 have a6 : (if b.crc.toNat = 0 then ([] : List UInt8) else headL 2 S.length ++ S).length <= 5 := by
  split
  . simp
  . rw [List.length_append, e2 _ (by omega)]; omega
 have a7 : (headL 4 (if b.crc.toNat = 0 then 5 else 6)).length = 1 := e1 _ (by split <;> omega)
 simp only [List.length_append]
 omega
theorem blks_le {R bs : Nat -> BV} : ∀ {k : Nat}, (∀ i, i < k -> (bs i).bytes.length <= (R i).bytes.length + ((if (R i).ty = 6 then 130 else 0) + (if (R i).ty = 7 then 130 else 0) + (if (R i).ty = 10 then 130 else 0))) -> (blksB bs k).length <= (blksB R k).length + 130 * (cntB R 6 k + cntB R 7 k + cntB R 10 k)
 | 0, _ => by simp [blksB]
 | k + 1, h => by
  have h1 := blks_le (k := k) fun i hi => h i (by omega)
  have h2 := h k (by omega)
  rw [blksB, blksB, List.length_append, List.length_append, cntB, cntB, cntB]
  split at h2 <;> split at h2 <;> split at h2 <;> simp_all <;> omega
theorem Lk.bok {p : PV} {R bs : Nat -> BV} {k : Nat} (h : Lk R k bs) (hR : BOK p R k) (hl : (bunBytes p R k).length <= 3400) : BOK p bs k := by
 have hb : ∀ i, i < k -> (bs i).right = 0 := fun i hi => by
  have g := h i hi
  have r := hR.br i hi
  unfold BV.right at r ⊢
  rw [g.ty, g.num, g.fl, g.crc]
  split at r
  . exact absurd r (by decide)
  rename_i n1
  split at r
  . exact absurd r (by decide)
  rename_i n2
  have n3 : ¬ 4000 < (bs i).data.length := by
   rcases g.d with e | ⟨_, e⟩
   . rw [e]; exact n2
   . omega
  rw [if_neg n1, if_neg n3]
  exact r
 have hc : ∀ t, cntB bs t k = cntB R t k := fun t => cntB_congr' t fun j hj => (h j hj).ty
 have k0 := hR.k0
 have hla := h (k - 1) (by omega)
 have hld : (bs (k - 1)).data = (R (k - 1)).data := by
  rcases hla.d with e | ⟨e, _⟩
  . exact e
  . rw [hR.la] at e; exact absurd e (by unfold spec; decide)
 refine ⟨hR.pr, hb, hR.k16, k0, by rw [hc]; exact hR.c1, ?_, by rw [hc]; exact hR.c6, by rw [hc]; exact hR.c7, by rw [hc]; exact hR.c10, by rw [hla.ty]; exact hR.la, fun e => by rw [hc]; exact hR.t0 e, fun e => by rw [hld]; exact hR.fr e, ?_⟩
 .
  rw [dupB_iff]
  intro i j hi hj
  rw [(h i hi).num, (h j (by omega)).num]
  exact dupB_iff.1 hR.du i j hi hj
 .
  have hx := blks_le (R := R) (bs := bs) (k := k) fun i hi => by
   have g := h i hi
   rcases g.d with e | ⟨e, hd⟩
   .
    have : bs i = R i := by
     have q : ∀ a b : BV, a.ty = b.ty -> a.num = b.num -> a.fl = b.fl -> a.crc = b.crc -> a.data = b.data -> a = b := fun a b => by cases a; cases b; rintro rfl rfl rfl rfl rfl; rfl
     exact q _ _ g.ty g.num g.fl g.crc e
    rw [this]; omega
   .
    have b1 := BV.bytes_le (hb i hi)
    rcases e with e | e | e
    . rw [if_pos e]; omega
    . rw [if_pos (c := (R i).ty = 7) e]; omega
    . rw [if_pos (c := (R i).ty = 10) e]; omega
  have c6 := hR.c6
  have c7 := hR.c7
  have c10 := hR.c10
  unfold bunBytes at hl ⊢
  simp only [List.cons_append, List.length_cons, List.length_append] at hl ⊢
  omega
theorem num_first {bs : Nat -> BV} {k i : Nat} (hd : dupB bs k = false) (hi : i < k) : firstOf (fun j => decide ((bs j).num = (bs i).num)) k = some i :=
 firstOf_some hi (by simp) fun j hj => by
  have := dupB_iff.1 hd i j hi hj
  simp; exact fun e => this e.symm
def insP (bs : Nat -> BV) (i : Nat) (x : BV) : Nat -> BV := fun j => if j < i then bs j else if j = i then x else bs (j - 1)
theorem insP_cnt {bs : Nat -> BV} {i : Nat} {x : BV} (t : Int) : ∀ {k : Nat}, i <= k -> cntB (insP bs i x) t (k + 1) = cntB bs t k + (if x.ty = t then 1 else 0) := by
 have lo : ∀ {k : Nat}, k <= i -> cntB (insP bs i x) t k = cntB bs t k := fun {k} hk => cntB_congr' t fun j hj => by unfold insP; rw [if_pos (by omega)]
 intro k
 induction k with
 | zero =>
  intro h
  obtain rfl : i = 0 := by omega
  rw [cntB, cntB, cntB]
  unfold insP; simp
 | succ k ih =>
  intro h
  by_cases e : i = k + 1
  .
   subst e
   have : insP bs (k + 1) x (k + 1) = x := by unfold insP; simp
   rw [cntB, lo (Nat.le_refl _), this]
  .
   rw [cntB, ih (by omega), cntB]
   have : insP bs i x (k + 1) = bs k := by unfold insP; rw [if_neg (by omega), if_neg (by omega)]; rfl
   rw [this]; omega
theorem insP_len {bs : Nat -> BV} {i : Nat} {x : BV} : ∀ {k : Nat}, i <= k -> (blksB (insP bs i x) (k + 1)).length = (blksB bs k).length + x.bytes.length := by
 have lo : ∀ {k : Nat}, k <= i -> blksB (insP bs i x) k = blksB bs k := by
  intro k
  induction k with
  | zero => intro _; rfl
  | succ k ih =>
   intro h
   have : insP bs i x k = bs k := by unfold insP; rw [if_pos (by omega)]
   rw [blksB, blksB, ih (by omega), this]
 intro k
 induction k with
 | zero =>
  intro h
  obtain rfl : i = 0 := by omega
  have : insP bs 0 x 0 = x := by unfold insP; simp
  simp [blksB, this]
 | succ k ih =>
  intro h
  by_cases e : i = k + 1
  .
   subst e
   have : insP bs (k + 1) x (k + 1) = x := by unfold insP; simp
   rw [blksB, lo (Nat.le_refl _), this, List.length_append]
  .
   have : insP bs i x (k + 1) = bs k := by unfold insP; rw [if_neg (by omega), if_neg (by omega)]; rfl
   rw [blksB, List.length_append, ih (by omega), this, blksB, List.length_append]; omega
theorem insP_bok {p : PV} {bs : Nat -> BV} {k : Nat} (h : BOK p bs k) {x : BV} (hx : x.right = 0) (ht : x.ty = 6) (h6 : cntB bs 6 k = 0) (hk : k <= 15) (hn : ∀ j, j < k -> (bs j).num ≠ x.num) (hl : (bunBytes p bs k).length + x.bytes.length <= 4000) : BOK p (insP bs (k - 1) x) (k + 1) /\ (bunBytes p (insP bs (k - 1) x) (k + 1)).length = (bunBytes p bs k).length + x.bytes.length := by
 have k0 := h.k0
 have hc : ∀ t, cntB (insP bs (k - 1) x) t (k + 1) = cntB bs t k + (if x.ty = t then 1 else 0) := fun t => insP_cnt t (by omega)
 have hla : insP bs (k - 1) x k = bs (k - 1) := by unfold insP; rw [if_neg (by omega), if_neg (by omega)]
 have hlen : (bunBytes p (insP bs (k - 1) x) (k + 1)).length = (bunBytes p bs k).length + x.bytes.length := by
  unfold bunBytes
  simp only [List.cons_append, List.length_cons, List.length_append]
  rw [insP_len (by omega)]; omega
 refine ⟨⟨h.pr, fun i hi => ?_, by omega, by omega, by rw [hc, ht]; have := h.c1; simpa using this, ?_, by rw [hc, ht, h6]; simp, by rw [hc, ht]; have := h.c7; simpa using this, by rw [hc, ht]; have := h.c10; simpa using this, by rw [Nat.add_sub_cancel, hla]; exact h.la, fun e => by rw [hc, ht]; have := h.t0 e; simpa using this, fun e => by rw [Nat.add_sub_cancel, hla]; exact h.fr e, by rw [hlen]; exact hl⟩, hlen⟩
 .
  unfold insP
  split
  . exact h.br i (by omega)
  .
   split
   . exact hx
   . exact h.br (i - 1) (by omega)
 .
  rw [dupB_iff]
  intro i j hi hj
  have hd := dupB_iff.1 h.du
  unfold insP
  by_cases a : i < k - 1
  . rw [if_pos a, if_pos (by omega)]; exact hd i j (by omega) hj
  .
   rw [if_neg a]
   by_cases b : i = k - 1
   . rw [if_pos b, if_pos (by omega)]; exact fun e => hn j (by omega) e.symm
   .
    rw [if_neg b]
    by_cases c : j < k - 1
    . rw [if_pos c]; exact hd (i - 1) j (by omega) (by omega)
    . rw [if_neg c, if_pos (by omega)]; exact hn (i - 1) (by omega)
section
open Go.Maps
def cntNo (bs : Nat -> BV) (num : Int) : Nat -> Nat
 | 0 => 0
 | i + 1 => cntNo bs num i + (if (bs i).num = num then 1 else 0)
theorem cntNo_le (bs : Nat -> BV) (num : Int) : ∀ k, cntNo bs num k <= k
 | 0 => Nat.le_refl _
 | k + 1 => by have := cntNo_le bs num k; rw [cntNo]; split <;> omega
theorem cntNo_zero {bs : Nat -> BV} {num : Int} : ∀ {k : Nat}, (∀ j, j < k -> (bs j).num ≠ num) -> cntNo bs num k = 0
 | 0, _ => rfl
 | k + 1, h => by rw [cntNo, cntNo_zero fun j hj => h j (by omega), if_neg (h k (by omega))]
theorem cntNo_pos {bs : Nat -> BV} {num : Int} {i : Nat} : ∀ {k : Nat}, i < k -> (bs i).num = num -> 1 <= cntNo bs num k
 | k + 1, h, ht => by
  rw [cntNo]
  by_cases e : i = k
  . subst e; rw [if_pos ht]; omega
  . have := cntNo_pos (k := k) (by omega) ht; omega
theorem cntNo_dup {bs : Nat -> BV} {i : Nat} : dupAt bs i = decide (1 <= cntNo bs (bs i).num i) := by
 unfold dupAt
 cases h : firstOf (hasNumOf bs i) i with
 | none =>
  have h2 := firstOf_no h
  rw [cntNo_zero fun j hj e => by have := h2 j hj; simp [hasNumOf] at this; exact this e.symm]; rfl
 | some j =>
  obtain ⟨h1, h2, _⟩ := firstOf_spec h
  have := cntNo_pos (num := (bs i).num) h1 (by simp [hasNumOf] at h2; exact h2.symm)
  symm; simpa using this
def onceB (bs : Nat -> BV) (k : Nat) : Bool := !dupB bs k && decide (cntB bs 1 k = 1) && decide (cntB bs 6 k < 2) && decide (cntB bs 7 k < 2) && decide (cntB bs 10 k < 2)
theorem cntNo_upd (bs : Nat -> BV) (i : Nat) (x : Int) : upd (fun x => cntNo bs x i) (bs i).num x = cntNo bs x (i + 1) := by
 unfold upd
 rw [cntNo]
 by_cases e : x = (bs i).num
 . subst e; rw [if_pos rfl, if_pos rfl]
 . rw [if_neg e, if_neg (fun h => e h.symm)]; rfl
theorem cntB_upd (bs : Nat -> BV) (i : Nat) (x : Int) : upd (fun x => cntB bs x i) (bs i).ty x = cntB bs x (i + 1) := by
 unfold upd
 rw [cntB]
 by_cases e : x = (bs i).ty
 . subst e; rw [if_pos rfl, if_pos rfl]
 . rw [if_neg e, if_neg (fun h => e h.symm)]; rfl
set_option maxRecDepth 20000 in
set_option maxHeartbeats 4000000 in
theorem once_any (bs : Nat -> BV) (k c : Nat) (A : Option Addr) (hk : k <= 16) (hr : ∀ i, i < k -> InI (bs i).num /\ InI (bs i).ty) (w : World) (h : BsL w A k bs) : Calls Tryz.prog 111 #[.slice A k c] w (Ret (.bool (onceB bs k)) w) := by
 have HL := hid h
 have HI := hid hr
 have k1 : (k : Int) <= 16 := by omega
 have HK := hid hk
 have hmm := @run_makeMap Tryz.prog
 clear h hr hk
 go_enter Tryz.func111, Tryz.ntmps111
 go_upto_region 2 with fail
 have HE0 : Hid (Ext w ((w.alloc (.map #[] 0)).alloc (.map #[] 0))) := hid (((Mod.refl [] w).alloc _).alloc _)
 have HN0 : Hid (Counts ((w.alloc (.map #[] 0)).alloc (.map #[] 0)) w.heap.size 0 (fun _ => 0)) := hid ((Counts.made w).kept ((Mod.refl [] _).alloc _) (by simp))
 have HT0 : Hid (Counts ((w.alloc (.map #[] 0)).alloc (.map #[] 0)) (w.heap.size + 1) 0 (fun _ => 0)) := hid (by have := Counts.made (w.alloc (.map #[] 0)); simpa using this)
 clear hmm
 generalize (w.alloc (.map #[] 0)).alloc (.map #[] 0) = V at *
 generalize hM : w.heap.size = M at *
 have HM := hid hM
 clear hM
 go_upto_region 3 with fail
 go_loopw [11] (fun s11 wr => ∃ i : Nat, s11 = .int .i64 (i : Int) /\ Hid (i <= k /\ (∀ j, j < i -> dupAt bs j = false) /\ Ext w wr /\ Counts wr M i (fun x => cntNo bs x i) /\ Counts wr (M + 1) i (fun x => cntB bs x i))) (fun s11 _ => k - (intOf s11).toNat)
 case atStart => exact ⟨0, rfl, (show Hid _ from ⟨Nat.zero_le _, fun j hj => by omega, HE0.out, HN0.out, HT0.out⟩)⟩
 case round =>
  clear HE0 HN0 HT0
  obtain ⟨i, rfl, hS⟩ := hrel
  rename World => wr
  have i0 : (0 : Int) <= (i : Int) := by omega
  by_cases hlt : i < k
  .
   obtain ⟨b, o, rfl, hb, q0, q1, q2, q3, q4⟩ := HL.out.cells hlt
   have tc : decide (i < k) = true := by simp [hlt]
   have i1 : (i : Int) < (k : Int) := by omega
   have i2 : i <= 16 := by have := HK.out; omega
   have HLT := hid hlt
   have u0 : wr.cell? ⟨b, o + i * 5, none⟩ = _ := q0 ⟨wr, hS.out.2.2.1⟩
   have u1 : wr.cell? ⟨b, o + i * 5 + 1, none⟩ = _ := q1 ⟨wr, hS.out.2.2.1⟩
   have u2 : wr.cell? ⟨b, o + i * 5 + 2, none⟩ = _ := q2 ⟨wr, hS.out.2.2.1⟩
   have u3 : wr.cell? ⟨b, o + i * 5 + 3, none⟩ = _ := q3 ⟨wr, hS.out.2.2.1⟩
   have u4 : wr.cell? ⟨b, o + i * 5 + 4, none⟩ = _ := q4 ⟨wr, hS.out.2.2.1⟩
   clear q0 q1 q2 q3 q4
   obtain ⟨hin, hit⟩ := HI.out i hlt
   clear hlt
   go_upto_region 5 with fail
   generalize hW1 : World.alloc wr _ = W1
   have HG1 : Hid (Blk W1 wr.heap.size 38 (BV.c (bs i))) := hid (by rw [<- hW1]; exact Blk.new _ _ _)
   have hS1 : Hid (Ext w W1 /\ Counts W1 M i (fun x => cntNo bs x i) /\ Counts W1 (M + 1) i (fun x => cntB bs x i)) := hid (by
    have h := hS.out.2.2
    rw [<- hW1]
    exact ⟨h.1.alloc _, h.2.1.kept (Mod.alloc (S := []) (Mod.refl _ _) _) (by simp), h.2.2.kept (Mod.alloc (S := []) (Mod.refl _ _) _) (by simp)⟩)
   have HGM : Hid (wr.heap.size ≠ M /\ wr.heap.size ≠ M + 1) := hid ⟨by have := hS.out.2.2.2.1.lt; omega, by have := hS.out.2.2.2.2.lt; omega⟩
   have hno := hS.out.2.1
   have HNO := hid hno
   clear hW1 hS u0 u1 u2 u3 u4 hno
   generalize wr.heap.size = G at *
   have HDA := hid (cntNo_dup (bs := bs) (i := i))
   have hUN := cntNo_upd bs i
   have hUT := cntB_upd bs i
   have HUN := hid hUN
   have HUT := hid hUT
   clear hUN hUT
   have hn1 := cntNo_le bs (bs i).num i
   have hn2 := cntB_le bs (bs i).ty i
   have g0 : W1.cell? ⟨G, 0, none⟩ = some (.int .i64 (bs i).ty) := HG1.out.cell 0
   have g1 : W1.cell? ⟨G, 1, none⟩ = some (.int .i64 (bs i).num) := HG1.out.cell 1
   have hl := hS1.out.2.1.look hin
   try dsimp only at hl
   have hN1 : cntNo bs (bs i).num (i + 1) = cntNo bs (bs i).num i + 1 := by rw [cntNo, if_pos rfl]
   have HN1 := hid hN1
   clear hN1
   obtain ⟨D, hown, hat⟩ := hS1.out.2.1
   have hkey := keyOf3 hin
   have u0 : (0 : Int) <= (cntNo bs (bs i).num i : Nat) := by omega
   have u1 : ((cntNo bs (bs i).num i : Nat) : Int) <= 16 := by omega
   have hw1 : (Lit.int .i64 (((cntNo bs (bs i).num i : Nat) : Int) + 1)).wf = true := InI.wf (by unfold InI; omega)
   generalize hnn : cntNo bs (bs i).num i = n1 at *
   have HNN := hid hnn
   clear hnn hn1
   go_upto_region 6 with (at_mapUpdate; refine wpList_mapUpdate_own _ rfl _ _ _ 165 rfl 3 3 law3 Tryz.underlying165 _ M i _ rfl hown (by unfold maxLen; omega) _ _ _ rfl rfl hkey _ [] (plainElem_int vqH hw1) ?_; intro w2 hown2 hgrow2)
   have hC2 : Hid (Counts w2 M (i + 1) (fun x => cntNo bs x (i + 1))) := hid ((Counts.put (f := fun x => cntNo bs x i) hin hown hat (by (try dsimp only); rw [HNN.out]; exact hown2)).congr HUN.out)
   have m2 : Mod [M] W1 w2 := (Mod.refl _ _).grown hgrow2 (fun kk hkk => .inl (by cases hkk; simp))
   have HG2 := hid (HG1.out.mod m2 (by simpa using HGM.out.1))
   have HE2 : Hid (Ext w w2) := hid (Mod.new (S := [M]) (hS1.out.1.of_ext.trans m2) (fun kk hkk => .inr (by have := HM.out; simp at hkk; omega)))
   have hT2 := hS1.out.2.2.kept m2 (by simp)
   clear hl hown hat hown2 hgrow2 m2 g0 g1 hkey hw1 HG1 hS1 u0 u1
   have g0 : w2.cell? ⟨G, 0, none⟩ = some (.int .i64 (bs i).ty) := HG2.out.cell 0
   have hl := hT2.look hit
   try dsimp only at hl
   obtain ⟨D2, hown, hat⟩ := hT2
   have hkey := keyOf3 hit
   have u0 : (0 : Int) <= (cntB bs (bs i).ty i : Nat) := by omega
   have u1 : ((cntB bs (bs i).ty i : Nat) : Int) <= 16 := by omega
   have hw1 : (Lit.int .i64 (((cntB bs (bs i).ty i : Nat) : Int) + 1)).wf = true := InI.wf (by unfold InI; omega)
   generalize hnn2 : cntB bs (bs i).ty i = n2 at *
   have HNN2 := hid hnn2
   clear hnn2 hn2
   go_upto_region 7 with (at_mapUpdate; refine wpList_mapUpdate_own _ rfl _ _ _ 165 rfl 3 3 law3 Tryz.underlying165 _ (M + 1) i _ rfl hown (by unfold maxLen; omega) _ _ _ rfl rfl hkey _ [] (plainElem_int vqH hw1) ?_; intro w3 hown3 hgrow3)
   have hC3 : Hid (Counts w3 (M + 1) (i + 1) (fun x => cntB bs x (i + 1))) := hid ((Counts.put (f := fun x => cntB bs x i) hit hown hat (by (try dsimp only); rw [HNN2.out]; exact hown3)).congr HUT.out)
   have m3 : Mod [M + 1] w2 w3 := (Mod.refl _ _).grown hgrow3 (fun kk hkk => .inl (by cases hkk; simp))
   have HG3 := hid (HG2.out.mod m3 (by simpa using HGM.out.2))
   have HE3 : Hid (Ext w w3) := hid (Mod.new (S := [M + 1]) (HE2.out.of_ext.trans m3) (fun kk hkk => .inr (by have := HM.out; simp at hkk; omega)))
   have hC4 := hid (hC2.out.kept m3 (by simp))
   clear hl hown hat hown3 hgrow3 m3 g0 hkey hw1 HG2 HE2 hC2 u0 u1
   have g1 : w3.cell? ⟨G, 1, none⟩ = some (.int .i64 (bs i).num) := HG3.out.cell 1
   have hl := hC4.out.look hin
   try dsimp only at hl
   rw [HN1.out, show ((n1 + 1 : Nat) : Int) = (n1 : Int) + 1 by omega] at hl
   by_cases hd : 1 <= n1
   .
    have HF : Hid (onceB bs k = false) := by
     have h1 : dupAt bs i = true := by rw [HDA.out]; simpa using hd
     have h2 : dupB bs k = true := by unfold dupB; rw [firstOf_some HLT.out h1 HNO.out]; rfl
     unfold Hid onceB; rw [h2]; rfl
    have ta : decide ((1 : Int) < (n1 : Int) + 1) = true := decide_eq_true (by omega)
    have tb : ((1 : Int) < (n1 : Int) + 1) = True := eq_true (by omega)
    have td : decide (1 < n1 + 1) = true := decide_eq_true (by omega)
    have te : (1 < n1 + 1) = True := eq_true (by omega)
    have te2 : (0 < n1) = True := eq_true (by omega)
    clear hd
    go_wp2_with fail
    go_ret
    exact Ret.mk (by rw [HF.out]; rfl) HE3.out
   .
    obtain rfl : n1 = 0 := by omega
    have HN : Hid (dupAt bs i = false) := hid (by rw [HDA.out]; rfl)
    clear hd
    go_wp2_with fail
    go_roundw
    case rel => exact ⟨i + 1, by go_num, (show Hid _ from ⟨HLT.out, fun j hj => by
     by_cases hji : j = i
     . subst hji; exact HN.out
     . exact HNO.out j (by omega), HE3.out, hC4.out, hC3.out⟩)⟩
    case measure => have := HLT.out; simp [intOf]; omega
  .
   obtain rfl : i = k := by have := hS.out.1; omega
   have tc : decide (i < i) = false := by simp
   have HD : Hid (dupB bs i = false) := by unfold Hid dupB; rw [firstOf_none hS.out.2.1]; rfl
   have HE := hid hS.out.2.2.1
   have hT := hS.out.2.2.2.2
   have l1 := hT.look (id := 1) (by unfold InI; omega)
   have l6 := hT.look (id := 6) (by unfold InI; omega)
   have l7 := hT.look (id := 7) (by unfold InI; omega)
   have l10 := hT.look (id := 10) (by unfold InI; omega)
   try dsimp only at l1 l6 l7 l10
   have HF : Hid (onceB bs i = (decide (cntB bs 1 i = 1) && decide (cntB bs 6 i < 2) && decide (cntB bs 7 i < 2) && decide (cntB bs 10 i < 2))) := by unfold Hid onceB; rw [HD.out]; rfl
   clear hT hS HD hlt HL
   generalize onceB bs i = R at *
   generalize cntB bs 1 i = n1 at *
   generalize cntB bs 6 i = n6 at *
   generalize cntB bs 7 i = n7 at *
   generalize cntB bs 10 i = n10 at *
   by_cases z1 : n1 = 1
   .
    subst z1
    have z1 : True := trivial
    by_cases z6 : n6 < 2
    .
     have HZ6 := hid z6
     have t6a : decide ((n6 : Int) < 2) = true := decide_eq_true (by omega)
     have t6b : ((n6 : Int) < 2) = True := eq_true (by omega)
     have t6na : decide (n6 < 2) = true := decide_eq_true (by omega)
     have t6nb : (n6 < 2) = True := eq_true (by omega)
     clear z6
     by_cases z7 : n7 < 2
     .
      have HZ7 := hid z7
      have t7a : decide ((n7 : Int) < 2) = true := decide_eq_true (by omega)
      have t7b : ((n7 : Int) < 2) = True := eq_true (by omega)
      have t7na : decide (n7 < 2) = true := decide_eq_true (by omega)
      have t7nb : (n7 < 2) = True := eq_true (by omega)
      clear z7
      by_cases z10 : n10 < 2
      .
       have HZ10 := hid z10
       have t10a : decide ((n10 : Int) < 2) = true := decide_eq_true (by omega)
       have t10b : ((n10 : Int) < 2) = True := eq_true (by omega)
       have t10na : decide (n10 < 2) = true := decide_eq_true (by omega)
       have t10nb : (n10 < 2) = True := eq_true (by omega)
       clear z10
       go_wp2_with fail
       go_ret
       exact Ret.mk (by rw [HF.out]; simp [HZ6.out, HZ7.out, HZ10.out]) HE.out
      .
       have HZ10 := hid z10
       have t10a : decide ((n10 : Int) < 2) = false := decide_eq_false (by omega)
       have t10b : ((n10 : Int) < 2) = False := eq_false (by omega)
       have t10na : decide (n10 < 2) = false := decide_eq_false (by omega)
       have t10nb : (n10 < 2) = False := eq_false (by omega)
       clear z10
       go_wp2_with fail
       go_ret
       exact Ret.mk (by rw [HF.out]; simp [HZ6.out, HZ7.out, HZ10.out]) HE.out
     .
      have HZ7 := hid z7
      have t7a : decide ((n7 : Int) < 2) = false := decide_eq_false (by omega)
      have t7b : ((n7 : Int) < 2) = False := eq_false (by omega)
      have t7na : decide (n7 < 2) = false := decide_eq_false (by omega)
      have t7nb : (n7 < 2) = False := eq_false (by omega)
      clear z7
      go_wp2_with fail
      go_ret
      exact Ret.mk (by rw [HF.out]; simp [HZ6.out, HZ7.out]) HE.out
    .
     have HZ6 := hid z6
     have t6a : decide ((n6 : Int) < 2) = false := decide_eq_false (by omega)
     have t6b : ((n6 : Int) < 2) = False := eq_false (by omega)
     have t6na : decide (n6 < 2) = false := decide_eq_false (by omega)
     have t6nb : (n6 < 2) = False := eq_false (by omega)
     clear z6
     go_wp2_with fail
     go_ret
     exact Ret.mk (by rw [HF.out]; simp [HZ6.out]) HE.out
   .
    have HZ1 := hid z1
    have t1a : (((n1 : Int)) == (1)) = false := by rw [beq_eq_false_iff_ne]; omega
    have t1b : (((n1 : Int)) = (1)) = False := eq_false (by omega)
    have t1c : (((n1 : Int)) != (1)) = true := by rw [bne_iff_ne]; omega
    have t1na : ((n1) == (1)) = false := by rw [beq_eq_false_iff_ne]; omega
    have t1nb : ((n1) = (1)) = False := eq_false (by omega)
    have t1nc : ((n1) != (1)) = true := by rw [bne_iff_ne]; omega
    clear z1
    go_wp2_with fail
    go_ret
    exact Ret.mk (by rw [HF.out]; simp [HZ1.out]) HE.out
end
section
section
variable {P : Program} {ops : Array Oper} {rest : List Oper} {o : Oper} {a : Act} {w : World}
theorem wpList_cat {Q : Exit -> Act -> World -> Prop} (hw : Region.wanted o (yielded ops a.tmps) = true) (ty t2 : TypeId) (x y : Operand) (ho : o.op = .binOp .add ty x y t2) (l1 l2 : List UInt8) (hx : a.eval x = str l1) (hy : a.eval y = str l2)
  (hl : l1.length + l2.length <= 9223372036854775807) (h : wpList P ops Q rest (a.put o.dst (str (l1 ++ l2))) w) : wpList P ops Q (o :: rest) a w :=
 wpList_step fun K hK => by
  rw [if_pos hw]
  have hl' : ¬ 9223372036854775807 < l1.length + l2.length := by omega
  have hk := hK _ _ h
  unfold Oper.wp execOp
  simp only [ho, hx, hy]
  simp [go_sem, hl']
  rw [ByteArray.mk_append_mk]
  exact hk
end
end
set_option maxRecDepth 20000 in
set_option maxHeartbeats 800000 in
theorem r13count_any (bs : Nat -> BV) (k c : Nat) (A : Option Addr) (typ : Int) (hk : k < 4611686018427387904) (w : World) (h : BsL w A k bs) : Calls Tryz.prog 20 #[.slice A k c, .int .i64 typ] w (Ret (.int .i64 (cntB bs typ k : Nat)) w) := by
 have HL := hid h
 have k1 : (k : Int) < 4611686018427387904 := by omega
 clear h hk
 obtain ⟨e0, he0⟩ := Later.self w
 go_enter Tryz.func20, Tryz.ntmps20
 go_wp2_with fail
 go_loopw [5, 6] (fun s5 s6 wr => ∃ i : Nat, s6 = .int .i64 (i : Int) /\ s5 = .int .i64 (cntB bs typ i : Nat) /\ Hid (i <= k) /\ ∃ e : Later w, wr = e.x) (fun _ s6 _ => k - (intOf s6).toNat)
 case atStart => exact ⟨0, rfl, rfl, (show Hid _ from Nat.zero_le _), e0, (by first | exact he0 | rfl)⟩
 case round =>
  clear he0 e0
  obtain ⟨i, rfl, rfl, hi, e, rfl⟩ := hrel
  have i0 : (0 : Int) <= (i : Int) := by omega
  by_cases hlt : i < k
  .
   obtain ⟨b, o, rfl, hb, q0, q1, q2, q3, q4⟩ := HL.out.cells hlt
   have tc : decide (i < k) = true := by simp [hlt]
   have i1 : (i : Int) < (k : Int) := by omega
   have HLT := hid hlt
   have hc0 : (0 : Int) <= (cntB bs typ i : Nat) := by omega
   have hc1 : ((cntB bs typ i : Nat) : Int) < 4611686018427387904 := by have := cntB_le bs typ i; omega
   clear hlt
   by_cases ht : (bs i).ty = typ
   .
    have HC : Hid (cntB bs typ (i + 1) = cntB bs typ i + 1) := by unfold Hid; rw [cntB, if_pos ht]
    have t1 : ((bs i).ty == typ) = true := by simpa using ht
    have t2 : ((bs i).ty = typ) = True := by simpa using ht
    clear ht
    generalize cntB bs typ i = n at *
    go_wp2_with fail
    go_roundw
    case rel => exact ⟨i + 1, by go_num, by rw [HC.out]; go_num, (show Hid _ from HLT.out), e, rfl⟩
    case measure => have := HLT.out; simp [intOf]; omega
   .
    have HC : Hid (cntB bs typ (i + 1) = cntB bs typ i) := by unfold Hid; rw [cntB, if_neg ht]; rfl
    have t1 : ((bs i).ty == typ) = false := by simpa using ht
    have t2 : ((bs i).ty = typ) = False := by simpa using ht
    clear ht
    generalize cntB bs typ i = n at *
    go_wp2_with fail
    go_roundw
    case rel => exact ⟨i + 1, by go_num, by rw [HC.out], (show Hid _ from HLT.out), e, rfl⟩
    case measure => have := HLT.out; simp [intOf]; omega
  .
   obtain rfl : i = k := by have := hi.out; omega
   have tc : decide (i < i) = false := by simp
   go_wp2_with fail
   go_ret
   exact Ret.mk rfl e.h
set_option maxRecDepth 20000 in
set_option maxHeartbeats 1600000 in
theorem r13twice_any (bs : Nat -> BV) (k c : Nat) (A : Option Addr) (hk : k < 4611686018427387904) (w : World) (h : BsL w A k bs) : Calls Tryz.prog 21 #[.slice A k c] w (Ret (.bool (dupB bs k)) w) := by
 have HL := hid h
 have k1 : (k : Int) < 4611686018427387904 := by omega
 clear h hk
 obtain ⟨e0, he0⟩ := Later.self w
 go_enter Tryz.func21, Tryz.ntmps21
 go_wp2_with fail
 go_loopw [3] (fun s3 wr => ∃ i : Nat, s3 = .int .i64 (i : Int) /\ Hid (i <= k /\ ∀ j, j < i -> dupAt bs j = false) /\ ∃ e : Later w, wr = e.x) (fun s3 _ => k - (intOf s3).toNat)
 case atStart => exact ⟨0, rfl, (show Hid _ from ⟨Nat.zero_le _, fun j hj => by omega⟩), e0, (by first | exact he0 | rfl)⟩
 case round =>
  clear he0 e0
  obtain ⟨i, rfl, hi, e, rfl⟩ := hrel
  have i0 : (0 : Int) <= (i : Int) := by omega
  by_cases hlt : i < k
  .
   obtain ⟨b, o, rfl, hb, q0, q1, q2, q3, q4⟩ := HL.out.cells hlt
   have tc : decide (i < k) = true := by simp [hlt]
   have i1 : (i : Int) < (k : Int) := by omega
   have HLT := hid hlt
   clear hlt
   go_wp2_with fail
   go_loopw [4] (fun s4 wr => ∃ j : Nat, s4 = .int .i64 (j : Int) /\ Hid (j <= i /\ ∀ m, m < j -> hasNumOf bs i m = false) /\ ∃ e : Later w, wr = e.x) (fun s4 _ => i - (intOf s4).toNat)
   case atStart => exact ⟨0, rfl, (show Hid _ from ⟨Nat.zero_le _, fun j hj => by omega⟩), e, rfl⟩
   case round =>
    obtain ⟨j, rfl, hj, e3, rfl⟩ := hrel
    have j0 : (0 : Int) <= (j : Int) := by omega
    by_cases hjt : j < i
    .
     have hjk : j < k := Nat.lt_trans hjt HLT.out
     obtain ⟨b', o', hA', hb', u0, u1, u2, u3, u4⟩ := HL.out.cells hjk
     cases hA'
     have tj : decide (j < i) = true := by simp [hjt]
     have j1 : (j : Int) < (i : Int) := by omega
     have j2 : (j : Int) < (k : Int) := by omega
     have HJT := hid hjt
     clear hjt hjk
     by_cases ht : hasNumOf bs i j = true
     .
      have HF : Hid (dupB bs k = true) := by
       unfold Hid dupB
       rw [firstOf_some HLT.out (by unfold dupAt; rw [firstOf_some HJT.out ht hj.out.2]; rfl) hi.out.2]; rfl
      have hn : (bs i).num = (bs j).num := by simpa [hasNumOf] using ht
      have t1 : ((bs i).num == (bs j).num) = true := by simpa using hn
      have t2 : ((bs i).num = (bs j).num) = True := by simpa using hn
      clear ht hn
      generalize (bs i).num = ni at *
      generalize (bs j).num = nj at *
      clear hb hb'
      go_upto_region 7 with fail
      refine wp_region_later (by kernel_rfl) (by kernel_rfl) ?_
      repeat (first | go_big_quiet_step (fail))
      refine wpQuiet_nil ?_
      rintro _ ⟨e, rfl⟩
      go_wp2_with fail
      go_ret
      exact Ret.mk (by rw [HF.out]; rfl) e.h
     .
      have HN : Hid (hasNumOf bs i j = false) := by unfold Hid; simpa using ht
      have hn : ¬ (bs i).num = (bs j).num := by simpa [hasNumOf] using ht
      have t1 : ((bs i).num == (bs j).num) = false := by simpa using hn
      have t2 : ((bs i).num = (bs j).num) = False := by simpa using hn
      clear ht hn
      generalize hni : (bs i).num = ni at *
      generalize hnj : (bs j).num = nj at *
      clear hni hnj hb hb'
      go_upto_region 7 with fail
      refine wp_region_later (by kernel_rfl) (by kernel_rfl) ?_
      repeat (first | go_big_quiet_step (fail))
      refine wpQuiet_nil ?_
      rintro _ ⟨e, rfl⟩
      go_wp2_with fail
      go_roundw
      case rel => exact ⟨j + 1, by go_num, (show Hid _ from ⟨HJT.out, fun m hm => by
       by_cases hmj : m = j
       . subst hmj; exact HN.out
       . exact hj.out.2 m (by omega)⟩), e, rfl⟩
      case measure => have := HJT.out; simp [intOf]; omega
    .
     obtain rfl : j = i := by have := hj.out.1; omega
     have tj : decide (j < j) = false := by simp
     have HN : Hid (dupAt bs j = false) := by unfold Hid dupAt; rw [firstOf_none hj.out.2]; rfl
     go_wp2_with fail
     go_roundw
     case rel => exact ⟨j + 1, by go_num, (show Hid _ from ⟨HLT.out, fun m hm => by
      by_cases hmj : m = j
      . subst hmj; exact HN.out
      . exact hi.out.2 m (by omega)⟩), e3, rfl⟩
     case measure => have := HLT.out; simp [intOf]; omega
  .
   obtain rfl : i = k := by have := hi.out.1; omega
   have tc : decide (i < i) = false := by simp
   have HF : Hid (dupB bs i = false) := by unfold Hid dupB; rw [firstOf_none hi.out.2]; rfl
   go_wp2_with fail
   go_ret
   exact Ret.mk (by rw [HF.out]; rfl) e.h
set_option maxRecDepth 20000 in
set_option maxHeartbeats 1600000 in
theorem r13Bytes_any (p : PV) (bs : Nat -> BV) (k c : Nat) (A : Option Addr) (hk : k <= 100000) (hp : p.right = 0) (hbs : ∀ i, i < k -> (bs i).right = 0) (w : World) (h : BsL w A k bs) : Calls Tryz.prog 9 #[bunV p A k c] w (Ret (str (bunBytes p bs k)) w) := by
 have HE := hid ((Mod.refl [] w).alloc (.cells (bunC p A k c) 29))
 have HB0 : Hid (Blk (w.alloc (.cells (bunC p A k c) 29)) w.heap.size 29 (bunC p A k c)) := hid (Blk.new w 29 (bunC p A k c))
 have HL := hid (BsL.ext h HE.out)
 have k1 : (k : Int) <= 100000 := by omega
 have HK := hid hk
 have HBS := hid hbs
 have KP := hid (fun W => r11Build_ok p (PV.right_ranged hp) W)
 have lP : p.bytes.length <= 40000 := PV.bytes_length (PV.right_ranged hp)
 have HRes : Hid (bunBytes p bs k = (159 :: p.bytes) ++ blksB bs k ++ [255]) := rfl
 clear h hk hbs hp
 generalize p.bytes = PB at *
 generalize bunBytes p bs k = RES at *
 go_enter Tryz.func9, Tryz.ntmps9
 go_upto_region 1 with fail
 generalize (w.alloc (.cells (bunC p A k c) 29)) = V at *
 have HPR : Hid (∀ e : Later V, e.x.rangeAt w.heap.size 0 p.c.toList) := HB0.out.range 0 19 (by rw [Array.toList_extract]; rfl)
 have b19 : ∀ e : Later V, e.x.cell? ⟨w.heap.size, 19, none⟩ = some (.slice A k c) := HB0.out.cellL 19 rfl
 obtain ⟨e0, he0⟩ := Later.self V
 rw [he0]
 go_wp2_with (first | (refine wpList_mid (by rfl) 26 _ rfl _ 0 rfl _ _ (HPR.out _) vqC rfl (by kernel_rfl) ?_) | (go_at_call 26; refine (Ret.later (KP.out _)).mono ?_; rintro x _ ⟨rfl, e, rfl⟩) | (refine wpList_cat (by rfl) _ _ [159] PB rfl _ _ rfl rfl (by simp only [List.length_cons, List.length_nil]; omega) ?_))
 go_loopw [3, 4] (fun s3 s4 wr => ∃ i : Nat, s4 = .int .i64 (i : Int) /\ s3 = str ((159 :: PB) ++ blksB bs i) /\ Hid (i <= k) /\ ∃ e : Later V, wr = e.x) (fun _ s4 _ => k - (intOf s4).toNat)
 case atStart => exact ⟨0, rfl, by simp only [blksB, List.append_nil]; exact str_app [159] PB, (show Hid _ from Nat.zero_le _), e, rfl⟩
 case round =>
  clear he0 e0 e
  obtain ⟨i, rfl, rfl, hi, e, rfl⟩ := hrel
  have i0 : (0 : Int) <= (i : Int) := by omega
  have lX : ((159 :: PB) ++ blksB bs i).length <= 200000000000 := by
   have := blksB_length (bs := bs) (k := i) (fun j hj => HBS.out j (by have := hi.out; omega))
   have := hi.out
   have := HK.out
   rw [List.length_append, List.length_cons]
   omega
  by_cases hlt : i < k
  .
   obtain ⟨b, o, rfl, hb, q0, q1, q2, q3, q4⟩ := HL.out.cells hlt
   have tc : decide (i < k) = true := by simp [hlt]
   have i1 : (i : Int) < (k : Int) := by omega
   have HLT := hid hlt
   have KB := hid (fun W => r12Build_any (HBS.out i hlt) W)
   have lB := BV.bytes_length (HBS.out i hlt)
   have HC : Hid ((159 :: PB) ++ blksB bs (i + 1) = ((159 :: PB) ++ blksB bs i) ++ (bs i).bytes) := by unfold Hid; rw [blksB, List.append_assoc]
   clear hlt
   generalize (bs i).bytes = BB at *
   generalize (159 :: PB) ++ blksB bs i = X at *
   go_wp2_with (first | (go_at_call 27; refine (Ret.later (KB.out _)).mono ?_; rintro x _ ⟨rfl, e, rfl⟩) | (refine wpList_cat (by rfl) _ _ _ _ rfl _ _ rfl rfl (by (try simp only [List.length_append, List.length_cons, List.length_nil]); omega) ?_))
   go_roundw
   case rel => exact ⟨i + 1, by go_num, by (rw [HC.out]) <;> exact str_app _ _, (show Hid _ from HLT.out), e, rfl⟩
   case measure => have := HLT.out; simp [intOf]; omega
  .
   obtain rfl : i = k := by have := hi.out; omega
   have tc : decide (i < i) = false := by simp
   generalize (159 :: PB) ++ blksB bs i = X at *
   go_wp2_with (refine wpList_cat (by rfl) _ _ X [255] rfl _ _ rfl rfl (by simp only [List.length_cons, List.length_nil]; omega) ?_)
   go_ret
   exact Ret.mk (by rw [HRes.out]; rfl) (HE.out.trans e.h)
def partsR (p : PV) (bs : Nat -> BV) (k : Nat) : Int := if p.right ≠ 0 then p.right else match firstOf (badAt bs) k with | some i => (bs i).right | none => 0
theorem cBuildB_any {b : BV} (h : b.right = 0) (w : World) : Calls Tryz.prog 114 #[b.v] w (Ret (.tuple #[str b.bytes, .int .i64 0]) w) := by
 have hz := BV.right_zero h
 obtain ⟨ty, num, e⟩ := bv_nat h
 obtain ⟨crc, e2⟩ : ∃ c : Nat, b.crc = (c : Int) := ⟨b.crc.toNat, by omega⟩
 obtain ⟨bty, bnum, bfl, bcrc, bdata⟩ := b
 simp only [BV.mk.injEq] at e e2
 obtain ⟨rfl, rfl, -⟩ := e
 subst e2
 simpa [BV.bytes] using Build_any ty num bfl crc bdata h w
set_option maxRecDepth 20000 in
theorem parts_p (p : PV) (bs : Nat -> BV) (k c : Nat) (A : Option Addr) (hnl : Hid (p.d.name.length < 4611686018427387904 /\ p.s.name.length < 4611686018427387904 /\ p.r.name.length < 4611686018427387904)) (hf : p.fl < 18446744073709551616) (hb : p.right ≠ 0) (w : World) (h : BsL w A k bs) : Calls Tryz.prog 92 #[bunV p A k c] w (Ret (.int .i64 p.right) w) := by
 have KP := hid (fun W => cPriRight_any p hnl hf W)
 have HE := hid ((Mod.refl [] w).alloc (.cells (bunC p A k c) 29))
 have HB0 : Hid (Blk (w.alloc (.cells (bunC p A k c) 29)) w.heap.size 29 (bunC p A k c)) := hid (Blk.new w 29 (bunC p A k c))
 generalize p.right = r at *
 have ra : ((r) == (0)) = false := by rw [beq_eq_false_iff_ne]; exact hb
 have rb : ((r) = (0)) = False := eq_false (by exact hb)
 have rc : ((r) != (0)) = true := by rw [bne_iff_ne]; exact hb
 clear hb hf h
 go_enter Tryz.func92, Tryz.ntmps92
 go_upto_region 1 with fail
 generalize (w.alloc (.cells (bunC p A k c) 29)) = V at *
 have HPR : Hid (∀ e : Later V, e.x.rangeAt w.heap.size 0 p.c.toList) := HB0.out.range 0 19 (by rw [Array.toList_extract]; rfl)
 obtain ⟨e, he⟩ := Later.self V
 rw [he]
 clear he
 go_wp2_with (first | (refine wpList_mid (by rfl) 26 _ rfl _ 0 rfl _ _ (HPR.out _) vqC rfl (by kernel_rfl) ?_) | (go_at_call 108; refine (Ret.later (KP.out _)).mono ?_; rintro x _ ⟨rfl, e, rfl⟩))
 go_ret
 exact Ret.mk rfl (HE.out.trans e.h)
set_option maxRecDepth 20000 in
set_option maxHeartbeats 1600000 in
theorem parts_ok (p : PV) (bs : Nat -> BV) (k c : Nat) (A : Option Addr) (hnl : Hid (p.d.name.length < 4611686018427387904 /\ p.s.name.length < 4611686018427387904 /\ p.r.name.length < 4611686018427387904)) (hf : p.fl < 18446744073709551616) (hk : k < 4611686018427387904) (hb : p.right = 0) (w : World) (h : BsL w A k bs) : Calls Tryz.prog 92 #[bunV p A k c] w (Ret (.int .i64 (match firstOf (badAt bs) k with | some i => (bs i).right | none => 0)) w) := by
 generalize hRES : (match firstOf (badAt bs) k with | some i => (bs i).right | none => 0) = RES
 have HRES := hid hRES
 clear hRES
 have KP := hid (fun W => cPriRight_any p hnl hf W)
 rw [hb] at KP
 have HE := hid ((Mod.refl [] w).alloc (.cells (bunC p A k c) 29))
 have HB0 : Hid (Blk (w.alloc (.cells (bunC p A k c) 29)) w.heap.size 29 (bunC p A k c)) := hid (Blk.new w 29 (bunC p A k c))
 have HL := hid (BsL.ext h HE.out)
 have k1 : (k : Int) < 4611686018427387904 := by omega
 clear hb hf hk h
 go_enter Tryz.func92, Tryz.ntmps92
 go_upto_region 1 with fail
 generalize (w.alloc (.cells (bunC p A k c) 29)) = V at *
 have HPR : Hid (∀ e : Later V, e.x.rangeAt w.heap.size 0 p.c.toList) := HB0.out.range 0 19 (by rw [Array.toList_extract]; rfl)
 have b19 : ∀ e : Later V, e.x.cell? ⟨w.heap.size, 19, none⟩ = some (.slice A k c) := HB0.out.cellL 19 rfl
 obtain ⟨e, he⟩ := Later.self V
 rw [he]
 clear he
 go_upto_region 5 with (first | (refine wpList_mid (by rfl) 26 _ rfl _ 0 rfl _ _ (HPR.out _) vqC rfl (by kernel_rfl) ?_) | (go_at_call 108; refine (Ret.later (KP.out _)).mono ?_; rintro x _ ⟨rfl, e, rfl⟩))
 go_loopw [16] (fun s5 wr => ∃ i : Nat, s5 = .int .i64 (i : Int) /\ Hid (i <= k /\ ∀ j, j < i -> badAt bs j = false) /\ ∃ e : Later V, wr = e.x) (fun s5 _ => k - (intOf s5).toNat)
 case atStart => exact ⟨0, rfl, (show Hid _ from ⟨Nat.zero_le _, fun j hj => by omega⟩), e, rfl⟩
 case round =>
  clear e
  obtain ⟨i, rfl, hi, e, rfl⟩ := hrel
  have i0 : (0 : Int) <= (i : Int) := by omega
  by_cases hlt : i < k
  .
   obtain ⟨b, o, rfl, hb, q0, q1, q2, q3, q4⟩ := HL.out.cells hlt
   have tc : decide (i < k) = true := by simp [hlt]
   have i1 : (i : Int) < (k : Int) := by omega
   have HLT := hid hlt
   have KX := hid (fun W => cbRight_any (bs i) W)
   clear hlt
   by_cases ht : badAt bs i = true
   .
    have HR : Hid (RES = (bs i).right) := by unfold Hid; rw [<- HRES.out, firstOf_some HLT.out ht hi.out.2]
    have hx : (bs i).right ≠ 0 := by simpa [badAt] using ht
    clear ht
    generalize (bs i).right = r at *
    have ra : ((r) == (0)) = false := by rw [beq_eq_false_iff_ne]; exact hx
    have rb : ((r) = (0)) = False := eq_false (by exact hx)
    have rc : ((r) != (0)) = true := by rw [bne_iff_ne]; exact hx
    clear hx
    go_wp2_with (go_at_call 109; refine (Ret.laterW ((Later.h e).alloc _) (KX.out _)).mono ?_; rintro x _ ⟨rfl, e1, rfl⟩)
    go_ret
    exact Ret.mk (by rw [HR.out]; rfl) (HE.out.trans e1.h)
   .
    have HN : Hid (badAt bs i = false) := by unfold Hid; simpa using ht
    rw [bad_no HN.out] at KX
    clear ht
    go_wp2_with (go_at_call 109; refine (Ret.laterW ((Later.h e).alloc _) (KX.out _)).mono ?_; rintro x _ ⟨rfl, e1, rfl⟩)
    go_roundw
    case rel => exact ⟨i + 1, by go_num, (show Hid _ from ⟨HLT.out, fun j hj => by
     by_cases hji : j = i
     . subst hji; exact HN.out
     . exact hi.out.2 j (by omega)⟩), e1, rfl⟩
    case measure => have := HLT.out; simp [intOf]; omega
  .
   obtain rfl : i = k := by have := hi.out.1; omega
   have tc : decide (i < i) = false := by simp
   have HR1 : Hid (RES = 0) := by unfold Hid; rw [<- HRES.out, firstOf_none hi.out.2]
   go_wp2_with fail
   go_ret
   exact Ret.mk (by rw [HR1.out]; rfl) (HE.out.trans e.h)
theorem bparts_any (p : PV) (bs : Nat -> BV) (k c : Nat) (A : Option Addr) (hnl : Hid (p.d.name.length < 4611686018427387904 /\ p.s.name.length < 4611686018427387904 /\ p.r.name.length < 4611686018427387904)) (hf : p.fl < 18446744073709551616) (hk : k < 4611686018427387904) (w : World) (h : BsL w A k bs) : Calls Tryz.prog 92 #[bunV p A k c] w (Ret (.int .i64 (partsR p bs k)) w) := by
 unfold partsR
 by_cases hb : p.right = 0
 . rw [if_neg (by simpa using hb)]; exact parts_ok p bs k c A hnl hf hk hb w h
 . rw [if_pos hb]; exact parts_p p bs k c A hnl hf hb w h
set_option maxRecDepth 20000 in
theorem lasts_0 (bs : Nat -> BV) (c : Nat) (A : Option Addr) (w : World) : Calls Tryz.prog 110 #[.slice A 0 c] w (Ret (.bool false) w) := by
 go_enter Tryz.func110, Tryz.ntmps110
 go_wp2_with fail
 go_ret
 exact Ret.mk rfl (Mod.refl _ _)
set_option maxRecDepth 20000 in
theorem lasts_S (bs : Nat -> BV) (m c : Nat) (A : Option Addr) (hm : m < 4611686018427387904) (w : World) (h : BsL w A (m + 1) bs) : Calls Tryz.prog 110 #[.slice A (m + 1 : Nat) c] w (Ret (.bool (decide ((bs m).ty = 1))) w) := by
 obtain ⟨b, o, rfl, hb, q0, q1, q2, q3, q4⟩ := h.cells (Nat.lt_succ_self m)
 have m0 : (0 : Int) <= (m : Int) := by omega
 have m1 : (m : Int) < 4611686018427387904 := by omega
 have u0 : w.cell? ⟨b, o + m * 5, none⟩ = some (.int .i64 (bs m).ty) := q0 ⟨w, Mod.refl _ _⟩
 have tp : decide ((0 : Int) < ((m + 1 : Nat) : Int)) = true := decide_eq_true (by omega)
 have tq : ((0 : Int) < ((m + 1 : Nat) : Int)) = True := eq_true (by omega)
 have tr : decide ((0 : Int) < (m : Int) + 1) = true := decide_eq_true (by omega)
 have ts : ((0 : Int) < (m : Int) + 1) = True := eq_true (by omega)
 clear q0 q1 q2 q3 q4 h hb hm
 generalize (bs m).ty = ty at *
 by_cases ht : ty = 1
 .
  have HT := hid ht
  have ta : ((ty) == (1)) = true := by rw [beq_iff_eq]; exact ht
  have tb : ((ty) = (1)) = True := eq_true (by exact ht)
  have tc : ((ty) != (1)) = false := by rw [bne_eq_false_iff_eq]; exact ht
  clear ht
  go_enter Tryz.func110, Tryz.ntmps110
  go_wp2_with fail
  go_ret
  exact Ret.mk (by simp [HT.out]) (Mod.refl _ _)
 .
  have HT := hid ht
  have ta : ((ty) == (1)) = false := by rw [beq_eq_false_iff_ne]; exact ht
  have tb : ((ty) = (1)) = False := eq_false (by exact ht)
  have tc : ((ty) != (1)) = true := by rw [bne_iff_ne]; exact ht
  clear ht
  go_enter Tryz.func110, Tryz.ntmps110
  go_wp2_with fail
  go_ret
  exact Ret.mk (by simp [HT.out]) (Mod.refl _ _)
set_option maxRecDepth 20000 in
set_option maxHeartbeats 800000 in
theorem fits_S (p : PV) (bs : Nat -> BV) (m c : Nat) (A : Option Addr) (hm : m < 4611686018427387904) (hf : p.fl < 18446744073709551616) (po : p.o <= 1099511627776) (hd : (bs m).data.length <= 100000) (w : World) (h : BsL w A (m + 1) bs) : Calls Tryz.prog 112 #[bunV p A (m + 1) c] w (Ret (.bool (!(has p.fl 1 && decide (p.n < p.o + (bs m).data.length)))) w) := by
 have HE := hid ((Mod.refl [] w).alloc (.cells (bunC p A (m + 1) c) 29))
 have HB0 := hid (Blk.new w 29 (bunC p A (m + 1) c))
 have HL := hid (BsL.ext h HE.out)
 obtain ⟨b, o, rfl, hb, q0, q1, q2, q3, q4⟩ := HL.out.cells (Nat.lt_succ_self m)
 have m0 : (0 : Int) <= (m : Int) := by omega
 have m1 : (m : Int) < 4611686018427387904 := by omega
 have ld : ((bs m).data.length : Int) <= 100000 := by omega
 have po2 : (p.o : Int) <= 1099511627776 := by omega
 have HA := hid (u64_and_powP p.fl 0 hf (by omega))
 clear q0 q1 q2 q3 h hb hm HL hd po
 have HRES : Hid (has p.fl 1 = decide (p.fl % 2 = 1)) := by unfold Hid has; simp
 go_enter Tryz.func112, Tryz.ntmps112
 go_upto_region 1 with fail
 generalize w.alloc (.cells (bunC p (some ⟨b, o, none⟩) (m + 1) c) 29) = V at *
 have b19 : V.cell? ⟨w.heap.size, 19, none⟩ = some (.slice (some ⟨b, o, none⟩) (m + 1) c) := HB0.out.cell 19
 have b0 : V.cell? ⟨w.heap.size, 0, none⟩ = some (.int .u64 (p.fl : Int)) := HB0.out.cell 0
 have b17 : V.cell? ⟨w.heap.size, 17, none⟩ = some (.int .u64 (p.o : Int)) := HB0.out.cell 17
 have b18 : V.cell? ⟨w.heap.size, 18, none⟩ = some (.int .u64 (p.n : Int)) := HB0.out.cell 18
 have u4 : V.cell? ⟨b, o + m * 5 + 4, none⟩ = some (str (bs m).data) := q4 ⟨V, Mod.refl _ _⟩
 clear q4
 generalize (bs m).data = dat at *
 generalize p.o = po at *
 generalize p.n = pn at *
 go_upto_region 2 with fail
 by_cases hh : p.fl % 2 = 1
 .
  have ha : bits .and .u64 (p.fl : Int) 1 = 1 := by have := HA.out; simpa [hh] using this
  have HR : Hid (has p.fl 1 = true) := by unfold Hid; rw [HRES.out]; simpa using hh
  clear hh HA HRES
  by_cases hv : pn < po + dat.length
  .
   have HV := hid hv
   have va : decide ((po : Int) + (dat.length : Int) <= (pn : Int)) = false := decide_eq_false (by omega)
   have vb : ((po : Int) + (dat.length : Int) <= (pn : Int)) = False := eq_false (by omega)
   have vc : decide (po + dat.length <= pn) = false := decide_eq_false (by omega)
   clear hv
   go_wp2_with fail
   go_ret
   exact Ret.mk (by rw [HR.out]; simp [HV.out]) HE.out
  .
   have HV := hid hv
   have va : decide ((po : Int) + (dat.length : Int) <= (pn : Int)) = true := decide_eq_true (by omega)
   have vb : ((po : Int) + (dat.length : Int) <= (pn : Int)) = True := eq_true (by omega)
   have vc : decide (po + dat.length <= pn) = true := decide_eq_true (by omega)
   clear hv
   go_wp2_with fail
   go_ret
   exact Ret.mk (by rw [HR.out]; simp [HV.out]) HE.out
 .
  have ha : bits .and .u64 (p.fl : Int) 1 = 0 := by have := HA.out; simpa [hh] using this
  have HR : Hid (has p.fl 1 = false) := by unfold Hid; rw [HRES.out]; simpa using hh
  clear hh HA HRES
  go_wp2_with fail
  go_ret
  exact Ret.mk (by rw [HR.out]; simp) HE.out
set_option maxRecDepth 20000 in
set_option maxHeartbeats 1600000 in
theorem bbuild_any (p : PV) (bs : Nat -> BV) (k c : Nat) (A : Option Addr) (hnl : Hid (p.d.name.length < 4611686018427387904 /\ p.s.name.length < 4611686018427387904 /\ p.r.name.length < 4611686018427387904)) (hf : p.fl < 18446744073709551616) (hk : k <= 100000) (hp : p.right = 0) (hbs : ∀ i, i < k -> (bs i).right = 0) (w : World) (h : BsL w A k bs) : Calls Tryz.prog 94 #[bunV p A k c] w (Ret (str (bunBytes p bs k)) w) := by
 have HE := hid ((Mod.refl [] w).alloc (.cells (bunC p A k c) 29))
 have HB0 : Hid (Blk (w.alloc (.cells (bunC p A k c) 29)) w.heap.size 29 (bunC p A k c)) := hid (Blk.new w 29 (bunC p A k c))
 have HL := hid (BsL.ext h HE.out)
 have k1 : (k : Int) <= 100000 := by omega
 have HK := hid hk
 have HBS := hid hbs
 have KP := hid (fun W => cPriBuild_ok p hnl hf hp W)
 have KO4 : Hid (∀ W, Calls Tryz.prog 106 #[.int .i64 4] W (Ret (str [159]) W)) := fun W => by have := open_yes 4 (by rfl) W; rw [show openL ((4 : Nat) : Int) = [159] from by decide] at this; exact this
 have KO7 : Hid (∀ W, Calls Tryz.prog 106 #[.int .i64 7] W (Ret (str [255]) W)) := fun W => by have := open_yes 7 (by rfl) W; rw [show openL ((7 : Nat) : Int) = [255] from by decide] at this; exact this
 have lP : p.bytes.length <= 40000 := PV.bytes_length (PV.right_ranged hp)
 have HRes : Hid (bunBytes p bs k = (159 :: p.bytes) ++ blksB bs k ++ [255]) := rfl
 clear h hk hbs hp hf
 generalize p.bytes = PB at *
 generalize bunBytes p bs k = RES at *
 go_enter Tryz.func94, Tryz.ntmps94
 go_upto_region 1 with fail
 generalize (w.alloc (.cells (bunC p A k c) 29)) = V at *
 have HPR : Hid (∀ e : Later V, e.x.rangeAt w.heap.size 0 p.c.toList) := HB0.out.range 0 19 (by rw [Array.toList_extract]; rfl)
 have b19 : ∀ e : Later V, e.x.cell? ⟨w.heap.size, 19, none⟩ = some (.slice A k c) := HB0.out.cellL 19 rfl
 obtain ⟨e, he⟩ := Later.self V
 rw [he]
 clear he
 go_upto_region 4 with (first | (refine wpList_mid (by rfl) 26 _ rfl _ 0 rfl _ _ (HPR.out _) vqC rfl (by kernel_rfl) ?_) | (go_at_call 113; refine (Ret.later (KP.out _)).mono ?_; rintro x _ ⟨rfl, e, rfl⟩) | (go_at_call 106; refine (Ret.later (KO4.out _)).mono ?_; rintro x _ ⟨rfl, e, rfl⟩))
 go_loopw [3, 21] (fun s3 s4 wr => ∃ i : Nat, s4 = .int .i64 (i : Int) /\ s3 = str ((159 :: PB) ++ blksB bs i) /\ Hid (i <= k) /\ ∃ e : Later V, wr = e.x) (fun _ s4 _ => k - (intOf s4).toNat)
 case atStart => exact ⟨0, rfl, by simp only [blksB, List.append_nil]; exact str_app [159] PB, (show Hid _ from Nat.zero_le _), e, rfl⟩
 case round =>
  clear e
  obtain ⟨i, rfl, rfl, hi, e, rfl⟩ := hrel
  have i0 : (0 : Int) <= (i : Int) := by omega
  have lX : ((159 :: PB) ++ blksB bs i).length <= 200000000000 := by
   have := blksB_length (bs := bs) (k := i) (fun j hj => HBS.out j (by have := hi.out; omega))
   have := hi.out
   have := HK.out
   rw [List.length_append, List.length_cons]
   omega
  by_cases hlt : i < k
  .
   obtain ⟨b, o, rfl, hb, q0, q1, q2, q3, q4⟩ := HL.out.cells hlt
   have tc : decide (i < k) = true := by simp [hlt]
   have i1 : (i : Int) < (k : Int) := by omega
   have HLT := hid hlt
   have KB := hid (fun W => cBuildB_any (HBS.out i hlt) W)
   have lB := BV.bytes_length (HBS.out i hlt)
   have HC : Hid ((159 :: PB) ++ blksB bs (i + 1) = ((159 :: PB) ++ blksB bs i) ++ (bs i).bytes) := by unfold Hid; rw [blksB, List.append_assoc]
   clear hlt
   generalize (bs i).bytes = BB at *
   generalize (159 :: PB) ++ blksB bs i = X at *
   go_wp2_with (first | (go_at_call 114; refine (Ret.laterW ((Later.h e).alloc _) (KB.out _)).mono ?_; rintro x _ ⟨rfl, e1, rfl⟩) | (refine wpList_cat (by rfl) _ _ _ _ rfl _ _ rfl rfl (by (try simp only [List.length_append, List.length_cons, List.length_nil]); omega) ?_))
   go_roundw
   case rel => exact ⟨i + 1, by go_num, by (rw [HC.out]) <;> exact str_app _ _, (show Hid _ from HLT.out), e1, rfl⟩
   case measure => have := HLT.out; simp [intOf]; omega
  .
   obtain rfl : i = k := by have := hi.out; omega
   have tc : decide (i < i) = false := by simp
   generalize (159 :: PB) ++ blksB bs i = X at *
   go_wp2_with (first | (go_at_call 106; refine (Ret.later (KO7.out _)).mono ?_; rintro x _ ⟨rfl, e, rfl⟩) | (refine wpList_cat (by rfl) _ _ X [255] rfl _ _ rfl rfl (by simp only [List.length_cons, List.length_nil]; omega) ?_))
   go_ret
   exact Ret.mk (by rw [HRes.out]; rfl) (HE.out.trans e.h)
set_option maxHeartbeats 800000 in
theorem CloneB_any (bs : Nat -> BV) (k : Nat) (hk : Hid (0 < k /\ k <= 100000)) (A : Option Addr) (c : Nat) (w : World) (h : BsL w A k bs) :
  Calls Tryz.prog 82 #[.slice A k c] w (fun e w' => ∃ (g c' : Nat), e = .returned (.slice (some ⟨g, 0, none⟩) k c') /\ Ext w w' /\ w'.ownsRow w.heap.size 38 5 (.slice (some ⟨g, 0, none⟩) k c') k (flatB bs k)) := by
 have he := Lib.run_eql_slice_nil (P := Tryz.prog)
 obtain ⟨i0, hi, hz0, hz1, hz2⟩ := info_parts infoBlock
 obtain ⟨b, o, rfl, hb, hc⟩ := h hk.out.1
 have hl := World.ownsRow_lit (base := w.heap.size) (e := 38) (size := 5) w #[] 0 (Nat.le_refl _) (Nat.zero_le _) rfl
 have hnews : Hid (∀ j u, (flatB bs k)[j]? = some u -> (w.alloc (.cells #[] 38)).cell? ((⟨b, o, none⟩ : Addr).add j) = some u) := flatB_news fun i hi => (hc i hi).mod (S := []) ((Mod.refl _ _).alloc _) hb (by simp)
 have hfl := hid (flatB_length bs k)
 have hfc := hid (flatB_one bs k)
 clear hc h
 go_enter Tryz.func82, Tryz.ntmps82
 go_wp2_with (at_builtin; refine wpList_append_own _ rfl _ _ 27 rfl w.heap.size 38 i0 _ 5 48 vqF hi hz0 hz1 hz2 rfl (by decide) _ _ _ rfl hl ⟨b, o, none⟩ k c (flatB bs k) rfl hfl.out hnews.out hfc.out (by have := hk.out; unfold maxLen; omega) (by have := hk.out; omega) (by simp) ?_; intro v' w1 hown' hgrow hnil)
 have hg2 : (w.alloc (.cells #[] 38)).grownBy w1 (some w.heap.size) := hgrow
 have hm : Ext w w1 := ((Mod.refl [] w).alloc (.cells #[] 38)).grown hg2 (fun k hk => .inr (by cases hk; exact Nat.le_refl _))
 have hown2 : w1.ownsRow w.heap.size 38 5 v' k (flatB bs k) := by simpa using hown'
 obtain ⟨m, rfl⟩ : ∃ m, k = m + 1 := ⟨k - 1, by have := hk.out.1; omega⟩
 obtain ⟨g, c', rfl, hg, hlt⟩ := own_form hown2
 go_wp2
 go_ret
 exact ⟨g, c', rfl, hm, hown2⟩
section
section
variable {f g : Nat -> List Value} {z : Nat}
end
end
end Go.Proofs.YthecmnbkjchjmaaGreat
