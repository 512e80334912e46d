/-
 Security texts: the reference's bytes; Right.
-/
import Derived.Test.YtmckfdmdkljomaaGreatDoorMMixLessCardar
import Derived.Test.YtmckfdmdkljomaaGreatDoorMMixLessCardat
import Derived.Deep.RegionLaw
import Derived.Lib.SliceRun
namespace Go.Proofs.YtmckfdmdkljomaaGreatDoor
open Go.RowKit
set_option linter.unusedVariables false
set_option linter.unusedSimpArgs false
theorem right_plain {t : T} {d : Nat} (h : t.right d = true) : t.plain = true := by
 rw [T.right_eq, Bool.and_eq_true] at h
 exact h.2
def catP (p : PL) (i : Nat) : List UInt8 := headL 4 p.k ++ T.cat (fun i => (pairT (p.a i)).bytes) i
theorem pair_bytes {p : PR} : (pairT p).bytes = [130] ++ headL 0 p.id.toNat ++ p.t.bytes := by
 unfold pairT
 rw [listT_bytes]
 simp [numT, T.bytes, headL]
 decide
theorem pl_bytes {p : PL} : (plT p).bytes = catP p p.k := by
 show T.bytes (T.mk 4 0 [] false p.k fun i => pairT (p.a i)) = _
 rw [T.bytes, if_neg (by decide), if_neg (by decide)]
 simp [catP]
theorem cat_lt {f : Nat -> List UInt8} {B k : Nat} (h : ∀ i, i < k -> (f i).length <= B) : ∀ i, i <= k -> (T.cat f i).length <= i * B := by
 intro i
 induction i with
 | zero => intro _; simp [T.cat]
 | succ i ih =>
  intro hi
  have := ih (by omega)
  have := h i (by omega)
  rw [T.cat, List.length_append, Nat.succ_mul]; omega
theorem pair_size {p : PR} : (pairT p).size = 2 + p.t.size := by
 simp [pairT, listT, T.size, T.sum, numT]
 omega
set_option maxRecDepth 20000 in
set_option maxHeartbeats 4000000 in
theorem r15list_any (p : PL) (hk : p.k <= 1000) (hw : p.wf) (hp : pairsB p = true) (hz : ∀ i, i < p.k -> (p.a i).t.size <= 100000) (A : Option Addr) (c : Nat) (w : World) (h : PsL w anyQ A p) : Calls Tryz.prog 68 #[.slice A p.k c] w (Ret (str (plT p).bytes) w) := by
 rw [pl_bytes]
 obtain ⟨hv, hu⟩ := pairsB_iff.1 hp
 have HL := hid h
 have HW := hid hw
 have HV := hid hv
 have HU := hid (unlikeB_coded hu)
 have HZ := hid hz
 have k0 : (p.k : Int) <= 1000 := by omega
 have t1 : IntKind.u64.wrap (p.k : Int) = (p.k : Int) := IntWalk.u64_in _ (by omega)
 have KH := hid (fun W => rHead_n 4 p.k (by decide) (by omega) W)
 have HLN : Hid (∀ i, i <= p.k -> (catP p i).length <= 2000000000) := hid (fun i hi => by
  have h1 := cat_lt (f := fun i => (pairT (p.a i)).bytes) (B := 1000100) (k := p.k) (fun j hj => by have := T.bytes_le (pairT (p.a j)); have := pair_size (p := p.a j); have := hz j hj; show (pairT (p.a j)).bytes.length <= _; omega) i hi
  have h2 := headL_le 4 p.k
  unfold catP
  rw [List.length_append]
  have h3 : i * 1000100 <= 1000 * 1000100 := Nat.mul_le_mul_right _ (by omega)
  omega)
 have HC0 : Hid (catP p 0 = headL 4 p.k) := hid (by simp [catP, T.cat])
 clear h hw hp hv hu hz hk
 go_enter Tryz.func68, Tryz.ntmps68
 go_upto_region 3 with (go_at_call 65; (try rw [t1]); refine (Ret.laterW (Mod.refl [] w) (KH.out _)).mono ?_; rintro x _ ⟨rfl, e, rfl⟩)
 go_loopw [3, 4] (fun s3 s4 wr => ∃ i : Nat, s4 = .int .i64 (i : Int) /\ s3 = str (catP p i) /\ Hid (i <= p.k) /\ ∃ e : Later w, wr = e.x) (fun _ s4 _ => p.k - (intOf s4).toNat)
 case atStart => exact ⟨0, rfl, by rw [HC0.out], (show Hid _ from Nat.zero_le _), e, rfl⟩
 case round =>
  clear e
  obtain ⟨i, rfl, rfl, hi, e, rfl⟩ := hrel
  have i0 : (0 : Int) <= (i : Int) := by omega
  by_cases hlt : i < p.k
  .
   obtain ⟨b, o, Ai, ci, rfl, hb, hat, hI⟩ := HL.out.at (Mod.refl [] w) hlt
   have RI : Hid (∀ e : Later w, e.x.rangeAt b (o + i * 6 + 1) _) := hid (fun e => (hat.mod e.h hb (by simp)).five.range)
   have tc : decide (i < p.k) = true := by simp [hlt]
   have i1 : (i : Int) < (p.k : Int) := by omega
   have hidn := HU.out i hlt
   obtain ⟨nid, hnid⟩ := Int.eq_ofNat_of_zero_le hidn.1
   have hnid : (p.a i).id = (nid : Int) := hnid
   have qi : ∀ e : Later w, e.x.cell? ⟨b, o + i * 6, none⟩ = some (.int .i64 (nid : Int)) := fun e => by rw [<- hnid]; exact cellL hat.1 e
   have t2 : IntKind.u64.wrap (nid : Int) = (nid : Int) := IntWalk.u64_in _ (by omega)
   have KI := hid (fun W => rHead_n 0 nid (by decide) (by omega) W)
   have KB := hid (fun e : Later w => rBytesI_any (p.a i).t ((HW.out.2 i hlt).1) (right_plain (valB_right (HV.out i hlt))) (HZ.out i hlt) Ai ci e.x (hI.ext e.h))
   have lX := HLN.out i (by omega)
   have lH := headL_le 0 nid
   have lB : (p.a i).t.bytes.length <= 1000000 := by have := T.bytes_le (p.a i).t; have := HZ.out i hlt; omega
   have HC : Hid (catP p (i + 1) = catP p i ++ (([130] ++ headL 0 nid) ++ (p.a i).t.bytes)) := hid (by unfold catP; rw [T.cat, <- List.append_assoc]; rw [pair_bytes, hnid]; rfl)
   have HLT := hid hlt
   have HT2 := hid t2
   clear hlt hat hI hb hidn t2 hnid
   generalize catP p i = X at *
   generalize headL 0 nid = HH at *
   generalize (p.a i).t.bytes = BB at *
   go_upto_region 5 with fail
   have t2 := HT2.out
   refine wp_region_later (by kernel_rfl) (by kernel_rfl) ?_
   repeat (first | (refine later_mid (by rfl) 68 _ rfl _ _ rfl _ _ RI.out vqC rfl (by kernel_rfl) ?_; simp only [Act.put, List.setIfInBounds_toArray, List.set_cons_zero, List.set_cons_succ]) | (refine q_cat (by rfl) _ _ _ _ rfl _ _ rfl rfl (by (try simp only [List.length_append, List.length_cons, List.length_nil]); omega) ?_; (try simp only [Act.put, sTl, s0l, sSl])) | go_big_quiet_step ((first | (go_at_call 65; (try rw [t2]); exact Ret.later (KI.out _)) | (go_at_call 66; exact Ret.later (KB.out _)))))
   refine wpQuiet_nil ?_
   rintro _ ⟨e, rfl⟩
   go_wp2_with fail
   go_roundw
   case rel => exact ⟨i + 1, by go_num, (by (rw [HC.out]) <;> (first | rfl | simp)), (show Hid _ from HLT.out), e, rfl⟩
   case measure => have := HLT.out; simp [intOf]; omega
  .
   have hik : i = p.k := by have := hi.out; omega
   subst hik
   have tc : decide (p.k < p.k) = false := by simp
   generalize catP p p.k = X at *
   go_wp2_with fail
   go_ret
   exact Ret.mk rfl e.h
def catT (a : AV) (i : Nat) : List UInt8 := headL 4 a.tk ++ T.cat (fun i => headL 0 (a.tg i).toNat) i
def midB (a : AV) : List UInt8 := if a.ps.k = 0 then [0] ++ (eidT a.src).bytes else ([1] ++ (eidT a.src).bytes) ++ (plT a.ps).bytes
def preR (a : AV) : List UInt8 := ((catT a a.tk ++ headL 0 a.ctx.toNat) ++ midB a) ++ headL 4 a.tk
def catR15 (a : AV) (i : Nat) : List UInt8 := preR a ++ T.cat (fun i => (plT (a.rs i)).bytes) i
theorem av_bytes {a : AV} (h : a.rk = a.tk) : a.bytes = catR15 a a.rk := by
 have e1 : (tgT a.tk a.tg).bytes = catT a a.tk := by
  show T.bytes (T.mk 4 0 [] false a.tk fun i => numT (a.tg i).toNat) = _
  rw [T.bytes, if_neg (by decide), if_neg (by decide)]
  simp [catT, numT, T.bytes]
 have e2 : (rsT a.rk a.rs).bytes = headL 4 a.tk ++ T.cat (fun i => (plT (a.rs i)).bytes) a.rk := by
  show T.bytes (T.mk 4 0 [] false a.rk fun i => plT (a.rs i)) = _
  rw [T.bytes, if_neg (by decide), if_neg (by decide), <- h]
  simp
 have n0 : ∀ n, (numT n).bytes = headL 0 n := fun n => rfl
 have h0 : headL 0 0 = [0] := by decide
 have h1 : headL 0 1 = [1] := by decide
 unfold AV.bytes AV.items catR15 preR midB
 split
 . simp [e1, e2, n0, h0]
 . simp [e1, e2, n0, h1]
theorem pl_size_mem {p : PL} {i : Nat} (hi : i < p.k) : (p.a i).t.size <= (plT p).size := by
 have h1 : (pairT (p.a i)).size <= (plT p).size := T.size_ch (ch := fun i => pairT (p.a i)) hi
 rw [pair_size] at h1
 omega
theorem rs_size_mem {k : Nat} {f : Nat -> PL} {i : Nat} (hi : i < k) : (plT (f i)).size <= (rsT k f).size := T.size_ch (ch := fun i => plT (f i)) hi
set_option maxRecDepth 20000 in
set_option maxHeartbeats 8000000 in
theorem r15Bytes_any (a : AV) (hw : a.wf) (hsm : a.small) (hs : a.shaped = true) (m : AA) (w : World) (h : AsL w anyQ a m) : Calls Tryz.prog 37 #[asbV a m] w (Ret (str a.bytes) w) := by
 obtain ⟨mt, mtc, mp, mpc, mr, mrc⟩ := m
 obtain ⟨⟨h1, h2⟩, h3, h4, h5, h6, h7, h8, h9⟩ := AV.shaped_iff.1 hs
 rw [av_bytes h8]
 have HE := hid ((Mod.refl [] w).alloc (.cells (asbC a ⟨mt, mtc, mp, mpc, mr, mrc⟩) 65))
 have HB0 := hid (Blk.new w 65 (asbC a ⟨mt, mtc, mp, mpc, mr, mrc⟩))
 have HL := hid (h.ext HE.out)
 have HTG := hid (unlikeB_coded h3)
 have HRC := hid (T.all_iff.1 h9)
 have HRK := hid h8
 have HWR := hid hw.2.2.2.2.2
 have HSR := hid hsm.2
 have k16 : (a.tk : Int) <= 16 := by omega
 have r16 : (a.rk : Int) <= 16 := by omega
 have hcc := codedB_iff.1 h4
 obtain ⟨cn, hcn⟩ := Int.eq_ofNat_of_zero_le hcc.1
 have hcn : a.ctx = (cn : Int) := hcn
 have tcx : IntKind.u64.wrap (cn : Int) = (cn : Int) := IntWalk.u64_in _ (by omega)
 have ttk : IntKind.u64.wrap (a.tk : Int) = (a.tk : Int) := IntWalk.u64_in _ (by omega)
 have KT := hid (fun W => rHead_n 4 a.tk (by decide) (by omega) W)
 have KX := hid (fun W => rHead_n 0 cn (by decide) (by omega) W)
 have KE := hid (fun W => r10Item_ok a.src h5 W)
 have KB := hid (fun A W (hl : IsL W anyQ (eidT a.src) A) => rBytesI_any (eidT a.src) (eidT_ok h5).1 (eidT_ok h5).2.2.1 (eidT_ok h5).2.2.2 A 2 W hl)
 have lE : (eidT a.src).bytes.length <= 1000000 := by have := T.bytes_le (eidT a.src); have := (eidT_ok h5).2.2.2; omega
 have lP : (plT a.ps).bytes.length <= 1000000 := by have := T.bytes_le (plT a.ps); have := hsm.1; omega
 have lT := headL_le 4 a.tk
 have lC := headL_le 0 cn
 have HCT : Hid (∀ i, i <= a.tk -> (catT a i).length <= 100000) := hid (fun i hi => by
  have h1 := cat_lt (f := fun i => headL 0 (a.tg i).toNat) (B := 1000) (k := a.tk) (fun j hj => by have := headL_le 0 (a.tg j).toNat; show (headL 0 (a.tg j).toNat).length <= _; omega) i hi
  unfold catT
  rw [List.length_append]
  omega)
 have lM : (midB a).length <= 3000000 := by
  unfold midB
  split <;> simp only [List.length_append, List.length_cons, List.length_nil] <;> omega
 have lPre : (preR a).length <= 4000000 := by
  have := HCT.out a.tk (Nat.le_refl _)
  have hcx : (headL 0 a.ctx.toNat).length <= 1000 := by have := headL_le 0 a.ctx.toNat; omega
  unfold preR
  simp only [List.length_append]
  omega
 have HCR : Hid (∀ i, i <= a.rk -> (catR15 a i).length <= 200000000) := hid (fun i hi => by
  have h1 := cat_lt (f := fun i => (plT (a.rs i)).bytes) (B := 1000000) (k := a.rk) (fun j hj => by have := T.bytes_le (plT (a.rs j)); have := rs_size_mem (f := a.rs) hj; have := hsm.2; show (plT (a.rs j)).bytes.length <= _; omega) i hi
  unfold catR15
  rw [List.length_append]
  have h3 : i * 1000000 <= 16 * 1000000 := Nat.mul_le_mul_right _ (by omega)
  omega)
 have KP : Hid (∀ W, Ext (w.alloc (.cells (asbC a ⟨mt, mtc, mp, mpc, mr, mrc⟩) 65)) W -> Calls Tryz.prog 68 #[.slice mp a.ps.k mpc] W (Ret (str (plT a.ps).bytes) W)) := hid (fun W hW => r15list_any a.ps (by omega) hw.2.2.2.1 h7 (fun i hi => by have := pl_size_mem hi; have := hsm.1; omega) mp mpc W (HL.out.p.ext hW))
 have HM0 : Hid (a.ps.k = 0 -> midB a = [0] ++ (eidT a.src).bytes) := hid (fun h => by unfold midB; rw [if_pos h])
 have HM1 : Hid (a.ps.k ≠ 0 -> midB a = ([1] ++ (eidT a.src).bytes) ++ (plT a.ps).bytes) := hid (fun h => by unfold midB; rw [if_neg h])
 have HPR : Hid (preR a = ((catT a a.tk ++ headL 0 cn) ++ midB a) ++ headL 4 a.tk) := hid (by unfold preR; rw [hcn]; rfl)
 have HC00 : Hid (catT a 0 = headL 4 a.tk) := hid (by simp [catT, T.cat])
 have HR00 : Hid (catR15 a 0 = preR a) := hid (by simp [catR15, T.cat])
 have pk0 : (a.ps.k : Int) <= 8 := by omega
 have HCN := hid hcn
 clear hw hsm hs h h1 h2 h3 h4 h5 h6 h7 h8 h9 hcc hcn
 go_enter Tryz.func37, Tryz.ntmps37
 go_upto_region 1 with fail
 generalize w.alloc (.cells (asbC a ⟨mt, mtc, mp, mpc, mr, mrc⟩) 65) = V at *
 have b0 : ∀ e : Later V, e.x.cell? ⟨w.heap.size, 0, none⟩ = some (.slice mt a.tk mtc) := HB0.out.cellL 0 rfl
 have b1 : ∀ e : Later V, e.x.cell? ⟨w.heap.size, 1, none⟩ = some (.int .i64 (cn : Int)) := HB0.out.cellL 1 (by rw [<- HCN.out]; rfl)
 have b6 : ∀ e : Later V, e.x.cell? ⟨w.heap.size, 6, none⟩ = some (.slice mp a.ps.k mpc) := HB0.out.cellL 6 rfl
 have b7 : ∀ e : Later V, e.x.cell? ⟨w.heap.size, 7, none⟩ = some (.slice mr a.rk mrc) := HB0.out.cellL 7 rfl
 have HRE : Hid (∀ e : Later V, e.x.rangeAt w.heap.size 2 [.int .i64 a.src.sch, str a.src.name, .int .u64 (a.src.node : Int), .int .u64 (a.src.svc : Int)]) := HB0.out.range 2 4 (by rfl)
 obtain ⟨e, he⟩ := Later.self V
 rw [he]
 clear he
 go_upto_region 4 with (go_at_call 65; (try rw [ttk]); refine (Ret.later (KT.out _)).mono ?_; rintro x _ ⟨rfl, e, rfl⟩)
 go_loopw [4, 5] (fun s4 s5 wr => ∃ i : Nat, s5 = .int .i64 (i : Int) /\ s4 = str (catT a i) /\ Hid (i <= a.tk) /\ ∃ e : Later V, wr = e.x) (fun _ s5 _ => a.tk - (intOf s5).toNat)
 case atStart => exact ⟨0, rfl, by rw [HC00.out], (show Hid _ from Nat.zero_le _), e, rfl⟩
 case round =>
  clear e
  obtain ⟨i, rfl, rfl, hi, e, rfl⟩ := hrel
  have i0 : (0 : Int) <= (i : Int) := by omega
  by_cases hlt : i < a.tk
  .
   obtain ⟨bA, oA, hA, hbA, hcA⟩ := HL.out.t (by omega)
   have hA : mt = some ⟨bA, oA, none⟩ := hA
   subst hA
   have hidn := HTG.out i hlt
   obtain ⟨nid, hnid⟩ := Int.eq_ofNat_of_zero_le hidn.1
   have hnid : a.tg i = (nid : Int) := hnid
   have cA : ∀ e : Later V, e.x.cell? ⟨bA, oA + i, none⟩ = some (.int .i64 (nid : Int)) := fun e => by rw [<- hnid]; exact (e.h.cell hbA (by simp)).trans (hcA i hlt)
   have t2 : IntKind.u64.wrap (nid : Int) = (nid : Int) := IntWalk.u64_in _ (by omega)
   have KI := hid (fun W => rHead_n 0 nid (by decide) (by omega) W)
   have tc : decide (i < a.tk) = true := by simp [hlt]
   have i1 : (i : Int) < (a.tk : Int) := by omega
   have lX := HCT.out i (by omega)
   have lH := headL_le 0 nid
   have HC : Hid (catT a (i + 1) = catT a i ++ headL 0 nid) := hid (by unfold catT; rw [T.cat, <- List.append_assoc, hnid]; rfl)
   have HLT := hid hlt
   clear hlt hcA hbA hidn hnid HPR HR00 HC00
   generalize catT a i = X at *
   generalize headL 0 nid = HH at *
   go_wp2_with (first | (go_at_call 65; (try rw [t2]); refine (Ret.later (KI.out _)).mono ?_; rintro x _ ⟨rfl, e, rfl⟩) | (refine wpList_cat (by rfl) _ _ _ _ rfl _ _ rfl rfl (by (try simp only [List.length_append, List.length_cons, List.length_nil]); omega) ?_))
   go_roundw
   case rel => exact ⟨i + 1, by go_num, (by (rw [HC.out]) <;> (first | exact str_app _ _ | rfl | simp)), (show Hid _ from HLT.out), e, rfl⟩
   case measure => have := HLT.out; simp [intOf]; omega
  .
   have hik : i = a.tk := by have := hi.out; omega
   subst hik
   have tc : decide (a.tk < a.tk) = false := by simp
   have lX := HCT.out a.tk (Nat.le_refl _)
   generalize catT a a.tk = X at *
   generalize (eidT a.src).bytes = EB at *
   generalize (plT a.ps).bytes = PB at *
   generalize headL 0 cn = CH at *
   go_upto_region 9 with (first | (go_at_call 65; (try rw [tcx]); refine (Ret.later (KX.out _)).mono ?_; rintro x _ ⟨rfl, e, rfl⟩) | (refine wpList_cat (by rfl) _ _ _ _ rfl _ _ rfl rfl (by (try simp only [List.length_append, List.length_cons, List.length_nil]); omega) ?_) | (refine wpList_mid (by rfl) 24 _ rfl _ 2 rfl _ _ (HRE.out _) vqE rfl (by kernel_rfl) ?_) | (go_at_call 67; refine (KE.out _).mono ?_; rintro x w6 ⟨As, rfl, hb6, hl6⟩; have H6 := hid (e.h.trans hb6); have HI6 := hid (IsL.weak (R := anyQ) (fun _ _ _ => trivial) _ hl6); clear hb6 hl6) | (go_at_call 66; refine (KB.out As w6 HI6.out).mono ?_; rintro x w7 ⟨rfl, hb7⟩; obtain ⟨e, rfl⟩ : ∃ e : Later V, w7 = e.x := ⟨⟨w7, H6.out.trans hb7⟩, rfl⟩; clear hb7))
   obtain ⟨M, hMM⟩ : ∃ M, midB a = M := ⟨_, rfl⟩
   rw [hMM] at HPR HM0 HM1 lM
   clear hMM
   have HFINAL : Hid (∀ (e : Later V), True) := hid (fun _ => trivial)
   by_cases hp : a.ps.k = 0
   case pos =>
    have HMX := hid (HM0.out hp)
    have paa : decide ((0 : Int) < (a.ps.k : Int)) = false := decide_eq_false (by omega)
    have pab : ((0 : Int) < (a.ps.k : Int)) = False := eq_false (by omega)
    have pba : decide (0 < a.ps.k) = false := decide_eq_false (by omega)
    have pbb : (0 < a.ps.k) = False := eq_false (by omega)
    clear hp HM0 HM1
    go_upto_region 14 with (first | (go_at_call 65; refine (Ret.later (KT.out _)).mono ?_; rintro x _ ⟨rfl, e, rfl⟩) | (refine wpList_cat (by rfl) _ _ _ _ rfl _ _ rfl rfl (by (try simp only [List.length_append, List.length_cons, List.length_nil]); omega) ?_))
    have HPRX : Hid (preR a = X ++ CH ++ (0 :: EB) ++ headL 4 a.tk) := hid (by rw [HPR.out, HMX.out]; simp)
    go_loopw [4, 7] (fun s4 s7 wr => ∃ i : Nat, s7 = .int .i64 (i : Int) /\ s4 = str (catR15 a i) /\ Hid (i <= a.rk) /\ ∃ e : Later V, wr = e.x) (fun _ s7 _ => a.rk - (intOf s7).toNat)
    case atStart => exact ⟨0, rfl, (by (rw [HR00.out, HPRX.out]) <;> (first | rfl | simp)), (show Hid _ from Nat.zero_le _), e, rfl⟩
    case round =>
     clear e
     obtain ⟨i, rfl, rfl, hi, e, rfl⟩ := hrel
     have i0 : (0 : Int) <= (i : Int) := by omega
     by_cases hlt : i < a.rk
     .
      obtain ⟨bR, oR, Ai, ci, hR, hbR, qR, hkR, hPRR⟩ := HL.out.r.at (Mod.refl _ V) hlt
      have hR : mr = some ⟨bR, oR, none⟩ := hR
      subst hR
      have cR : ∀ e : Later V, e.x.cell? ⟨bR, oR + i, none⟩ = some (.slice Ai (a.rs i).k ci) := fun e => cellL qR e
      have KQ := hid (fun e : Later V => r15list_any (a.rs i) (by have := (resB_iff.1 (HRC.out i hlt)).1; omega) (HWR.out i hlt) (resB_iff.1 (HRC.out i hlt)).2 (fun j hj => by have := pl_size_mem hj; have := rs_size_mem (f := a.rs) hlt; have := HSR.out; omega) Ai ci e.x (hPRR.ext e.h))
      have tc : decide (i < a.rk) = true := by simp [hlt]
      have i1 : (i : Int) < (a.rk : Int) := by omega
      have lX := HCR.out i (by omega)
      have lB : (plT (a.rs i)).bytes.length <= 1000000 := by have := T.bytes_le (plT (a.rs i)); have := rs_size_mem (f := a.rs) hlt; have := HSR.out; omega
      have HC : Hid (catR15 a (i + 1) = catR15 a i ++ (plT (a.rs i)).bytes) := hid (by unfold catR15; rw [T.cat, <- List.append_assoc])
      have HLT := hid hlt
      clear hlt hPRR hkR hbR qR HPRX HPR HR00
      generalize catR15 a i = Y at *
      generalize (plT (a.rs i)).bytes = BB at *
      go_wp2_with (first | (go_at_call 68; refine (Ret.later (KQ.out _)).mono ?_; rintro x _ ⟨rfl, e, rfl⟩) | (refine wpList_cat (by rfl) _ _ _ _ rfl _ _ rfl rfl (by (try simp only [List.length_append, List.length_cons, List.length_nil]); omega) ?_))
      go_roundw
      case rel => exact ⟨i + 1, by go_num, (by (rw [HC.out]) <;> (first | exact str_app _ _ | rfl | simp)), (show Hid _ from HLT.out), e, rfl⟩
      case measure => have := HLT.out; simp [intOf]; omega
     .
      have hik : i = a.rk := by have := hi.out; omega
      subst hik
      have tc : decide (a.rk < a.rk) = false := by simp
      generalize catR15 a a.rk = Y at *
      go_wp2_with fail
      go_ret
      exact Ret.mk rfl (HE.out.trans e.h)
   have HMX := hid (HM1.out hp)
   have KP2 := hid (fun e : Later V => KP.out e.x e.h)
   have paa : decide ((0 : Int) < (a.ps.k : Int)) = true := decide_eq_true (by omega)
   have pab : ((0 : Int) < (a.ps.k : Int)) = True := eq_true (by omega)
   have pba : decide (0 < a.ps.k) = true := decide_eq_true (by omega)
   have pbb : (0 < a.ps.k) = True := eq_true (by omega)
   clear hp HM0 HM1
   go_upto_region 14 with (first | (go_at_call 68; refine (Ret.later (KP2.out _)).mono ?_; rintro x _ ⟨rfl, e, rfl⟩) | (go_at_call 65; refine (Ret.later (KT.out _)).mono ?_; rintro x _ ⟨rfl, e, rfl⟩) | (refine wpList_cat (by rfl) _ _ _ _ rfl _ _ rfl rfl (by (try simp only [List.length_append, List.length_cons, List.length_nil]); omega) ?_))
   have HPRX : Hid (preR a = X ++ CH ++ (1 :: EB ++ PB) ++ headL 4 a.tk) := hid (by rw [HPR.out, HMX.out]; simp)
   go_loopw [4, 7] (fun s4 s7 wr => ∃ i : Nat, s7 = .int .i64 (i : Int) /\ s4 = str (catR15 a i) /\ Hid (i <= a.rk) /\ ∃ e : Later V, wr = e.x) (fun _ s7 _ => a.rk - (intOf s7).toNat)
   case atStart => exact ⟨0, rfl, (by (rw [HR00.out, HPRX.out]) <;> (first | rfl | simp)), (show Hid _ from Nat.zero_le _), e, rfl⟩
   case round =>
    clear e
    obtain ⟨i, rfl, rfl, hi, e, rfl⟩ := hrel
    have i0 : (0 : Int) <= (i : Int) := by omega
    by_cases hlt : i < a.rk
    .
     obtain ⟨bR, oR, Ai, ci, hR, hbR, qR, hkR, hPRR⟩ := HL.out.r.at (Mod.refl _ V) hlt
     have hR : mr = some ⟨bR, oR, none⟩ := hR
     subst hR
     have cR : ∀ e : Later V, e.x.cell? ⟨bR, oR + i, none⟩ = some (.slice Ai (a.rs i).k ci) := fun e => cellL qR e
     have KQ := hid (fun e : Later V => r15list_any (a.rs i) (by have := (resB_iff.1 (HRC.out i hlt)).1; omega) (HWR.out i hlt) (resB_iff.1 (HRC.out i hlt)).2 (fun j hj => by have := pl_size_mem hj; have := rs_size_mem (f := a.rs) hlt; have := HSR.out; omega) Ai ci e.x (hPRR.ext e.h))
     have tc : decide (i < a.rk) = true := by simp [hlt]
     have i1 : (i : Int) < (a.rk : Int) := by omega
     have lX := HCR.out i (by omega)
     have lB : (plT (a.rs i)).bytes.length <= 1000000 := by have := T.bytes_le (plT (a.rs i)); have := rs_size_mem (f := a.rs) hlt; have := HSR.out; omega
     have HC : Hid (catR15 a (i + 1) = catR15 a i ++ (plT (a.rs i)).bytes) := hid (by unfold catR15; rw [T.cat, <- List.append_assoc])
     have HLT := hid hlt
     clear hlt hPRR hkR hbR qR HPRX HPR HR00
     generalize catR15 a i = Y at *
     generalize (plT (a.rs i)).bytes = BB at *
     go_wp2_with (first | (go_at_call 68; refine (Ret.later (KQ.out _)).mono ?_; rintro x _ ⟨rfl, e, rfl⟩) | (refine wpList_cat (by rfl) _ _ _ _ rfl _ _ rfl rfl (by (try simp only [List.length_append, List.length_cons, List.length_nil]); omega) ?_))
     go_roundw
     case rel => exact ⟨i + 1, by go_num, (by (rw [HC.out]) <;> (first | exact str_app _ _ | rfl | simp)), (show Hid _ from HLT.out), e, rfl⟩
     case measure => have := HLT.out; simp [intOf]; omega
    .
     have hik : i = a.rk := by have := hi.out; omega
     subst hik
     have tc : decide (a.rk < a.rk) = false := by simp
     generalize catR15 a a.rk = Y at *
     go_wp2_with fail
     go_ret
     exact Ret.mk rfl (HE.out.trans e.h)
theorem T.right_plain {t : T} {d : Nat} (h : t.right d = true) : t.plain = true := by
 rw [T.right_eq, Bool.and_eq_true] at h; exact h.2
theorem T.right_up (t : T) : ∀ d, t.right d = true -> t.right (d + 1) = true := by
 induction t with
 | nil => intro d h; exact h
 | mk kind n s op k ch ih =>
  intro d h
  unfold T.right at h ⊢
  by_cases h0 : d < 1
  . rw [if_pos h0] at h; cases h
  .
   rw [if_neg h0, Bool.and_eq_true, T.all_iff] at h
   rw [if_neg (by omega), Bool.and_eq_true, T.all_iff]
   exact ⟨h.1, fun i hi => by have := ih i (d - 1) (h.2 i hi); rw [show d + 1 - 1 = d - 1 + 1 by omega]; exact this⟩
def BV.bytes (b : BV) : List UInt8 := blkB b.ty.toNat b.num.toNat b.fl b.crc.toNat b.data (sumB b.ty.toNat b.num.toNat b.fl b.crc.toNat b.data)
def cntB (bs : Nat -> BV) (typ : Int) : Nat -> Nat
 | 0 => 0
 | k + 1 => cntB bs typ k + (if (bs k).ty = typ then 1 else 0)
theorem cntB_le (bs : Nat -> BV) (typ : Int) : ∀ k, cntB bs typ k <= k
 | 0 => Nat.le_refl _
 | k + 1 => by have := cntB_le bs typ k; rw [cntB]; split <;> omega
theorem cntB_no {bs : Nat -> BV} {typ : Int} : ∀ {k : Nat}, (∀ j, j < k -> tyB bs typ j = false) -> cntB bs typ k = 0
 | 0, _ => rfl
 | k + 1, h => by
  have h1 := h k (by omega)
  have : (bs k).ty ≠ typ := by intro e; rw [tyB_yes e] at h1; cases h1
  rw [cntB, cntB_no fun j hj => h j (by omega), if_neg this]
theorem cntB_pos {bs : Nat -> BV} {typ : Int} {i : Nat} : ∀ {k : Nat}, i < k -> tyB bs typ i = true -> 1 <= cntB bs typ k
 | k + 1, h, ht => by
  rw [cntB]
  by_cases e : i = k
  .
   subst e
   have : (bs i).ty = typ := by simpa [tyB] using ht
   rw [if_pos this]; omega
  . have := cntB_pos (k := k) (by omega) ht; omega
theorem cntB_find {bs : Nat -> BV} {typ : Int} {k : Nat} : (firstOf (tyB bs typ) k).isSome = decide (cntB bs typ k ≠ 0) := by
 cases h : firstOf (tyB bs typ) k with
 | none => rw [cntB_no (firstOf_no h)]; rfl
 | some i => have := cntB_pos (firstOf_spec h).1 (firstOf_spec h).2.1; symm; simp; omega
def hasNumOf (bs : Nat -> BV) (i j : Nat) : Bool := decide ((bs i).num = (bs j).num)
def dupAt (bs : Nat -> BV) (i : Nat) : Bool := (firstOf (hasNumOf bs i) i).isSome
def dupB (bs : Nat -> BV) (k : Nat) : Bool := (firstOf (dupAt bs) k).isSome
def blksB (bs : Nat -> BV) : Nat -> List UInt8
 | 0 => []
 | k + 1 => blksB bs k ++ (bs k).bytes
def bunBytes (p : PV) (bs : Nat -> BV) (k : Nat) : List UInt8 := 159 :: p.bytes ++ blksB bs k ++ [255]
def badAt (bs : Nat -> BV) (i : Nat) : Bool := decide ((bs i).right ≠ 0)
def bunRule1 (bs : Nat -> BV) (k : Nat) : Bool := decide (k = 0) || decide (cntB bs 1 k ≠ 1) || dupB bs k || decide (1 < cntB bs 6 k) || decide (1 < cntB bs 7 k) || decide (1 < cntB bs 10 k)
def bunRule2 (p : PV) (bs : Nat -> BV) (k : Nat) : Bool := decide ((bs (k - 1)).ty ≠ 1) || (decide (p.t = 0) && decide (cntB bs 7 k = 0))
def bunRule3 (p : PV) (bs : Nat -> BV) (k : Nat) : Bool := has p.fl 1 && decide (p.n < p.o + (bs (k - 1)).data.length)
def bunRight (p : PV) (bs : Nat -> BV) (k : Nat) : Int :=
 if p.right ≠ 0 then p.right else match firstOf (badAt bs) k with
  | some i => (bs i).right
  | none => if 16 < k then 4 else if bunRule1 bs k then 8 else if bunRule2 p bs k then 8 else if bunRule3 p bs k then 8 else if 4000 < (bunBytes p bs k).length then 4 else 0
theorem bad_no {bs : Nat -> BV} {i : Nat} (h : badAt bs i = false) : (bs i).right = 0 := by unfold badAt at h; simpa using h
theorem bunRight_zero {p : PV} {bs : Nat -> BV} {k : Nat} (h : bunRight p bs k = 0) : p.right = 0 /\ (∀ i, i < k -> (bs i).right = 0) /\ k <= 16 /\ bunRule1 bs k = false /\ bunRule2 p bs k = false /\ bunRule3 p bs k = false /\ (bunBytes p bs k).length <= 4000 := by
 unfold bunRight at h
 by_cases hb : p.right = 0
 .
  rw [if_neg (by simpa using hb)] at h
  cases hf : firstOf (badAt bs) k with
  | some i => rw [hf] at h; have := (firstOf_spec hf).2.1; exact absurd h (by simpa [badAt] using this)
  | none =>
   rw [hf] at h
   dsimp only at h
   by_cases h1 : 16 < k
   . rw [if_pos h1] at h; exact absurd h (by decide)
   .
    rw [if_neg h1] at h
    cases h2 : bunRule1 bs k with
    | true => rw [h2, if_pos rfl] at h; exact absurd h (by decide)
    | false =>
     rw [h2, if_neg (by decide)] at h
     cases h3 : bunRule2 p bs k with
     | true => rw [h3, if_pos rfl] at h; exact absurd h (by decide)
     | false =>
      rw [h3, if_neg (by decide)] at h
      cases h4 : bunRule3 p bs k with
      | true => rw [h4, if_pos rfl] at h; exact absurd h (by decide)
      | false =>
       rw [h4, if_neg (by decide)] at h
       by_cases h5 : 4000 < (bunBytes p bs k).length
       . rw [if_pos h5] at h; exact absurd h (by decide)
       . exact ⟨hb, fun i hi => bad_no (firstOf_no hf i hi), by omega, rfl, rfl, rfl, by omega⟩
 . rw [if_pos hb] at h; exact absurd h hb
theorem dup_no {bs : Nat -> BV} {k : Nat} (h : dupB bs k = false) {i j : Nat} (hi : i < k) (hj : j < i) : (bs i).num ≠ (bs j).num := by
 unfold dupB at h
 have h1 : firstOf (dupAt bs) k = none := by cases hf : firstOf (dupAt bs) k with | none => rfl | some x => rw [hf] at h; cases h
 have h2 := firstOf_no h1 i hi
 unfold dupAt at h2
 have h3 : firstOf (hasNumOf bs i) i = none := by cases hf : firstOf (hasNumOf bs i) i with | none => rfl | some x => rw [hf] at h2; cases h2
 have h4 := firstOf_no h3 j hj
 simpa [hasNumOf] using h4
theorem BV.bytes_length {b : BV} (h : b.right = 0) : b.bytes.length < 1000000 := by
 obtain ⟨h1, h2, h3, h4, h5, h6, h7, h8, h9⟩ := BV.right_zero h
 exact blkB_length h8 (by rw [sumB_length (by omega)]; omega)
theorem blksB_length {bs : Nat -> BV} : ∀ {k : Nat}, (∀ i, i < k -> (bs i).right = 0) -> (blksB bs k).length <= k * 1000000
 | 0, _ => by simp [blksB]
 | k + 1, h => by
  have h1 := blksB_length (k := k) fun i hi => h i (by omega)
  have h2 := BV.bytes_length (h k (by omega))
  rw [blksB, List.length_append]
  omega
end Go.Proofs.YtmckfdmdkljomaaGreatDoor
