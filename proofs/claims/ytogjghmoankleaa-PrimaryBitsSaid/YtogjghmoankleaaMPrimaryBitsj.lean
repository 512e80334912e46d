/-
  Of a primary with a sum no bit can be turned, plainly.
  The law PrimaryBits, walked.
-/
import Derived.Test.YtogjghmoankleaaMPrimaryBitsi
import Derived.StillTailTactics

namespace Go.Proofs.Ytogjghmoankleaa
open Go.RowKit
set_option linter.unusedVariables false
set_option linter.unusedSimpArgs false

theorem pri_even {p : PV} {k : Nat} (hk : p.crc = (k : Int)) (h1 : 1 ≤ k) (h2 : k ≤ 2) : Crc.parL p.bytes = false := by
  have hkn : p.crc.toNat = k := by omega
  have hk0 : ¬ k = 0 := by omega
  unfold PV.bytes
  rw [hkn]
  have hsl := priSum_length p h2
  obtain ⟨Q, hQ⟩ : ∃ Q, headL 4 (priN p k) ++ (headL 0 7 ++ (headL 0 p.fl ++ (headL 0 k ++ ((eidT p.d).bytes ++ ((eidT p.s).bytes ++ ((eidT p.r).bytes ++ (headL 4 2 ++ (headL 0 p.t ++ (headL 0 p.q ++ (headL 0 p.l ++ ((if p.fl % 2 = 1 then headL 0 p.o ++ headL 0 p.n else []) ++ headL 2 (2 * k)))))))))))) = Q := ⟨_, rfl⟩
  have key : ∀ s : List UInt8, s.length = 2 * k → priB p k s = Q ++ s := fun s hs => by
    unfold priB
    rw [if_neg hk0, hs, ← hQ]
    simp only [List.append_assoc]
  rw [key _ hsl]
  unfold priSum
  rw [if_neg hk0, key (List.replicate (2 * k) 0) (by simp)]
  exact Crc.even_of_sum h1 h2 Q
theorem pri_head {p : PV} {k : Nat} (hk : p.crc = (k : Int)) : ∃ X, p.bytes = (if p.fl % 2 = 1 then (if k = 0 then 138 else 139) else (if k = 0 then 136 else 137)) :: (headL 0 7 ++ (headL 0 p.fl ++ (headL 0 k ++ X))) := by
  have hkn : p.crc.toNat = k := by omega
  have h8 : headL 4 8 = [136] := by decide
  have h9 : headL 4 9 = [137] := by decide
  have h10 : headL 4 10 = [138] := by decide
  have h11 : headL 4 11 = [139] := by decide
  unfold PV.bytes priB
  rw [hkn]
  unfold priN
  by_cases hf : p.fl % 2 = 1 <;> by_cases h0 : k = 0
  · rw [if_pos hf, if_pos h0, if_pos hf, if_pos h0, show 8 + (2 + 0) = 10 from rfl, h10]; exact ⟨_, by rw [if_pos hf, if_pos h0]; rfl⟩
  · rw [if_pos hf, if_neg h0, if_pos hf, if_neg h0, show 8 + (2 + 1) = 11 from rfl, h11]; exact ⟨_, by rw [if_pos hf, if_neg h0]; rfl⟩
  · rw [if_neg hf, if_pos h0, if_neg hf, if_pos h0, show 8 + (0 + 0) = 8 from rfl, h8]; exact ⟨_, by rw [if_neg hf, if_pos h0]; rfl⟩
  · rw [if_neg hf, if_neg h0, if_neg hf, if_neg h0, show 8 + (0 + 1) = 9 from rfl, h9]; exact ⟨_, by rw [if_neg hf, if_neg h0]; rfl⟩
theorem PV.bytes_five {p : PV} (h : p.ranged = true) : p.bytes.length ≤ 5000 := by
  obtain ⟨d1, d2, d3, c0, c2, _⟩ := PV.ranged_spec h
  have s1 := eidT_small d1
  have s2 := eidT_small d2
  have s3 := eidT_small d3
  have b1 : (eidT p.d).bytes.length ≤ 1000 := Nat.le_trans (T.bytes_le (eidT p.d)) (Nat.mul_le_mul_left 10 s1)
  have b2 : (eidT p.s).bytes.length ≤ 1000 := Nat.le_trans (T.bytes_le (eidT p.s)) (Nat.mul_le_mul_left 10 s2)
  have b3 : (eidT p.r).bytes.length ≤ 1000 := Nat.le_trans (T.bytes_le (eidT p.r)) (Nat.mul_le_mul_left 10 s3)
  clear s1 s2 s3
  have hs := priSum_length p (k := p.crc.toNat) (by omega)
  have hk2 : p.crc.toNat ≤ 2 := by omega
  unfold PV.bytes priB
  generalize priSum p p.crc.toNat = S at *
  have l1 := headL_le 4 (priN p p.crc.toNat)
  have l2 := headL_le 0 7
  have l3 := headL_le 0 p.fl
  have l4 := headL_le 0 p.crc.toNat
  have l5 := headL_le 4 2
  have l6 := headL_le 0 p.t
  have l7 := headL_le 0 p.q
  have l8 := headL_le 0 p.l
  have l9 := headL_le 0 p.o
  have l10 := headL_le 0 p.n
  have l11 := headL_le 2 S.length
  generalize headL 4 (priN p p.crc.toNat) = H1 at *
  generalize headL 0 7 = H2 at *
  generalize headL 0 p.fl = H3 at *
  generalize headL 0 p.crc.toNat = H4 at *
  generalize headL 4 2 = H5 at *
  generalize headL 0 p.t = H6 at *
  generalize headL 0 p.q = H7 at *
  generalize headL 0 p.l = H8 at *
  generalize headL 0 p.o = H9 at *
  generalize headL 0 p.n = H10 at *
  generalize headL 2 S.length = H11 at *
  generalize (eidT p.d).bytes = D1 at *
  generalize (eidT p.s).bytes = D2 at *
  generalize (eidT p.r).bytes = D3 at *
  clear h d1 d2 d3 c0 c2
  generalize p.crc.toNat = k at *
  have t1 : H1.length + (H2.length + (H3.length + H4.length)) ≤ 36 := by clear b1 b2 b3 hs l5 l6 l7 l8 l9 l10 l11; omega
  have t2 : H5.length + (H6.length + (H7.length + H8.length)) ≤ 36 := by clear b1 b2 b3 hs l1 l2 l3 l4 l9 l10 l11 t1; omega
  have t3 : H9.length + (H10.length + (H11.length + S.length)) ≤ 36 := by clear b1 b2 b3 l1 l2 l3 l4 l5 l6 l7 l8 t1 t2; omega
  have t4 : D1.length + (D2.length + D3.length) ≤ 3000 := by clear hs l1 l2 l3 l4 l5 l6 l7 l8 l9 l10 l11 t1 t2 t3; omega
  clear l1 l2 l3 l4 l5 l6 l7 l8 l9 l10 l11 b1 b2 b3 hs hk2
  by_cases f1 : p.fl % 2 = 1 <;> by_cases f2 : k = 0
  · rw [if_pos f1, if_pos f2]; simp only [List.length_append, List.length_nil]; clear f1 f2; omega
  · rw [if_pos f1, if_neg f2]; simp only [List.length_append, List.length_nil]; clear f1 f2; omega
  · rw [if_neg f1, if_pos f2]; simp only [List.length_append, List.length_nil]; clear f1 f2; omega
  · rw [if_neg f1, if_neg f2]; simp only [List.length_append, List.length_nil]; clear f1 f2; omega
theorem bits_noP {p : PV} (hz : p.right = 0) (hc : p.crc ≠ 0) {m : Nat} (hm : m < 8 * p.bytes.length) {t : T} (hok : t.ok) (hr : t.right 8 = true) (hsz : t.size ≤ 5000) (hb : t.bytes = flipL p.bytes m) : (ofP t).2 ≠ 0 := by
  intro h0
  obtain ⟨P, hP⟩ : ∃ P, ofP t = (P, 0) := ⟨(ofP t).1, by rw [← h0]⟩
  obtain ⟨hPz, hPs⟩ := of_ok hr hok hsz hP
  obtain ⟨_, _, _, c0, c2, f1, _⟩ := PV.ranged_spec (PV.right_ranged hz)
  obtain ⟨_, _, _, d0, d2, f2, _⟩ := PV.ranged_spec (PV.right_ranged hPz)
  obtain ⟨k, hk⟩ : ∃ k : Nat, p.crc = (k : Int) := ⟨p.crc.toNat, by omega⟩
  obtain ⟨j, hj⟩ : ∃ j : Nat, P.crc = (j : Int) := ⟨P.crc.toNat, by omega⟩
  have hbb : P.bytes = flipL p.bytes m := by
    rw [← (PV.tree_all (PV.right_ranged hPz)).2.2.2, ← hb]
    exact T.same_bytes _ _ hok hPs
  by_cases hj0 : j = 0
  · obtain ⟨X, hX⟩ := pri_head hj
    obtain ⟨Y, hY⟩ := pri_head hk
    rw [hX, hY, hj0] at hbb
    have hk0 : k ≠ 0 := by omega
    unfold flipL at hbb
    by_cases hm0 : m / 8 = 0
    · rw [hm0, List.set_cons_zero] at hbb
      have ht := (List.cons.inj hbb).2
      have e1 := (headL_inj (by omega) (by omega) ht).2
      have e2 := (headL_inj (by omega) (by omega) e1).2
      have e3 := (headL_inj (by omega) (by omega) e2).1
      exact hk0 e3.symm
    · obtain ⟨i, hi⟩ : ∃ i, m / 8 = i + 1 := ⟨m / 8 - 1, by omega⟩
      rw [hi, List.set_cons_succ] at hbb
      have hh := (List.cons.inj hbb).1
      rw [if_pos rfl, if_neg hk0] at hh
      by_cases g1 : P.fl % 2 = 1 <;> by_cases g2 : p.fl % 2 = 1 <;> simp only [g1, g2, if_true, if_false, hk0] at hh <;> exact absurd hh (by decide)
  · have h1 := pri_even hj (by omega) (by omega)
    rw [hbb, flipL_par _ _ hm, pri_even hk (by omega) (by omega)] at h1
    exact absurd h1 (by decide)
end Go.Proofs.Ytogjghmoankleaa


namespace Go.Proofs.Ytogjghmoankleaa
open Go.RowKit
set_option linter.unusedVariables false
set_option linter.unusedSimpArgs false

set_option maxRecDepth 20000 in
set_option maxHeartbeats 16000000 in
theorem lawPBits_any (p : PV) (hw : p.wf) (kk : Nat) (hk : kk < 65536) (w : World) : Calls Try.prog 8 #[.agg p.c, .int .u16 (kk : Int)] w (Ret (.bool true) w) := by
  have KA := hid (fun W => awake11_any W)
  have KF := hid (fun W => few11P_any p W)
  have KR := hid (fun W => r11Right_any p hw.1 W)
  have HE := hid ((Mod.refl [] w).alloc (.cells p.c 68))
  have HB0 : Hid (Blk (w.alloc (.cells p.c 68)) w.heap.size 68 p.c) := hid (Blk.new w 68 p.c)
  go_enter Try.func8, Try.ntmps8
  go_upto_region 1 with fail
  generalize (w.alloc (.cells p.c 68)) = V at *
  obtain ⟨e, he⟩ := Later.self V
  rw [he]
  clear he
  have HBL : Hid (∀ e : Later V, Blk e.x w.heap.size 68 p.c) := hid (fun e => HB0.out.later e)
  have d1 : ∀ e : Later V, e.x.cell? ⟨w.heap.size, 1, none⟩ = some (.int .i64 p.crc) := HB0.out.cellL 1 rfl
  have tk1 : True := trivial
  have tk2 : True := trivial
  cases hf : p.few with
  | false =>
    rw [hf] at KF
    clear hf hw hk
    go_wp2_with (first | (clear tk1; refine wpList_row (by rfl) 68 _ rfl _ rfl (HBL.out _) Try.underlying68 rfl (by kernel_rfl) ?_) | (go_at_call 30; refine (Ret.later (KA.out _)).mono ?_; rintro x _ ⟨rfl, e, rfl⟩) | (go_at_call 31; refine (Ret.later (KF.out _)).mono ?_; rintro x _ ⟨rfl, e, rfl⟩))
    go_ret
    exact Ret.mk rfl (HE.out.trans e.h)
  | true =>
  rw [hf] at KF
  have hnm : p.d.name.length ≤ 100 ∧ p.s.name.length ≤ 100 ∧ p.r.name.length ≤ 100 := by
    unfold PV.few at hf
    simp only [Bool.and_eq_true, decide_eq_true_eq] at hf
    exact ⟨hf.1.1, hf.1.2, hf.2⟩
  have hnl : Hid (p.d.name.length < 4611686018427387904 ∧ p.s.name.length < 4611686018427387904 ∧ p.r.name.length < 4611686018427387904) := hid ⟨by omega, by omega, by omega⟩
  by_cases hR : p.right = 0
  case neg =>
    have t1a : ((p.right) == (0)) = false := by rw [beq_eq_false_iff_ne]; exact hR
    have t1b : ((p.right) = (0)) = False := eq_false (by exact hR)
    have t1c : ((p.right) != (0)) = true := by rw [bne_iff_ne]; exact hR
    clear hf hw hk hnm hnl hR
    go_wp2_with (first | (clear tk1; refine wpList_row (by rfl) 68 _ rfl _ rfl (HBL.out _) Try.underlying68 rfl (by kernel_rfl) ?_) | (clear tk2; refine wpList_row (by rfl) 68 _ rfl _ rfl (HBL.out _) Try.underlying68 rfl (by kernel_rfl) ?_) | (go_at_call 30; refine (Ret.later (KA.out _)).mono ?_; rintro x _ ⟨rfl, e, rfl⟩) | (go_at_call 31; refine (Ret.later (KF.out _)).mono ?_; rintro x _ ⟨rfl, e, rfl⟩) | (go_at_call 32; refine (Ret.later (KR.out _)).mono ?_; rintro x _ ⟨rfl, e, rfl⟩))
    go_ret
    exact Ret.mk rfl (HE.out.trans e.h)
  have KR : Hid (∀ W, Calls Try.prog 32 #[.agg p.c] W (Ret (.int .i64 0) W)) := hid (fun W => by have := KR.out W; rw [hR] at this; exact this)
  by_cases hc : p.crc = 0
  case pos =>
    have t1a : ((p.crc) == (0)) = true := by rw [beq_iff_eq]; exact hc
    have t1b : ((p.crc) = (0)) = True := eq_true (by exact hc)
    have t1c : ((p.crc) != (0)) = false := by rw [bne_eq_false_iff_eq]; exact hc
    clear hf hw hk hnm hnl hR hc
    go_wp2_with (first | (clear tk1; refine wpList_row (by rfl) 68 _ rfl _ rfl (HBL.out _) Try.underlying68 rfl (by kernel_rfl) ?_) | (clear tk2; refine wpList_row (by rfl) 68 _ rfl _ rfl (HBL.out _) Try.underlying68 rfl (by kernel_rfl) ?_) | (go_at_call 30; refine (Ret.later (KA.out _)).mono ?_; rintro x _ ⟨rfl, e, rfl⟩) | (go_at_call 31; refine (Ret.later (KF.out _)).mono ?_; rintro x _ ⟨rfl, e, rfl⟩) | (go_at_call 32; refine (Ret.later (KR.out _)).mono ?_; rintro x _ ⟨rfl, e, rfl⟩))
    go_ret
    exact Ret.mk rfl (HE.out.trans e.h)
  have KB := hid (fun W => cPriBuild_ok p hnl hw.1 hR W)
  have hbl := PV.bytes_length (PV.right_ranged hR)
  obtain ⟨g1, g2, g3, g4⟩ := PV.tree_all (PV.right_ranged hR)
  have hn : 0 < p.bytes.length ∧ p.bytes.length ≤ 40000 := ⟨by
    obtain ⟨_, _, _, c0, _⟩ := PV.ranged_spec (PV.right_ranged hR)
    obtain ⟨X, hX⟩ := pri_head (p := p) (k := p.crc.toNat) (by omega)
    rw [hX]; simp, hbl⟩
  have HNO := hid (fun (m : Nat) (hm : m < 8 * p.bytes.length) (t : T) (h1 : t.ok) (h2 : t.right 8 = true) (h3 : t.size ≤ 5000) (h4 : t.bytes = flipL p.bytes m) => bits_noP hR hc hm h1 h2 h3 h4)
  have hbl5 : p.bytes.length ≤ 5000 := by have := PV.bytes_five (PV.right_ranged hR); omega
  have tca : ((p.crc) == (0)) = false := by rw [beq_eq_false_iff_ne]; exact hc
  have tcb : ((p.crc) = (0)) = False := eq_false (by exact hc)
  have tcc : ((p.crc) != (0)) = true := by rw [bne_iff_ne]; exact hc
  clear hf hw hnm hnl hR hc hbl g1 g2 g3 g4
  obtain ⟨LX, hL⟩ : ∃ L, p.bytes = L := ⟨_, rfl⟩
  rw [hL] at KB HNO hn hbl5
  clear hL
  have hm : kk % (8 * LX.length) < 8 * LX.length := Nat.mod_lt _ (by omega)
  obtain ⟨m, hmm⟩ : ∃ m, kk % (8 * LX.length) = m := ⟨_, rfl⟩
  rw [hmm] at hm
  have HMM := hid hmm
  have HM := hid hm
  have HN := hid hn
  have HL5 := hid hbl5
  clear hmm hm hbl5
  have n0 : (1 : Int) ≤ (LX.length : Int) := by omega
  have n1 : (LX.length : Int) < 1000000 := by omega
  have k0 : (0 : Int) ≤ (kk : Int) := by omega
  have k1 : (kk : Int) < 65536 := by omega
  have hne0 : LX ≠ [] := by intro h; rw [h] at hn; exact absurd hn.1 (by decide)
  have nea : ((LX) == ([])) = false := by rw [beq_eq_false_iff_ne]; exact hne0
  have neb : ((LX) = ([])) = False := eq_false (by exact hne0)
  have nec : ((LX) != ([])) = true := by rw [bne_iff_ne]; exact hne0
  clear hne0 hk hn
  have hconv := fun (w : World) (s : ByteArray) => run_bytes_of_string (P := Try.prog) w 9 73 5 s Try.underlying9 Try.underlying73 Try.underlying5
  go_upto_region 3 with (first | (clear tk1; refine wpList_row (by rfl) 68 _ rfl _ rfl (HBL.out _) Try.underlying68 rfl (by kernel_rfl) ?_) | (clear tk2; refine wpList_row (by rfl) 68 _ rfl _ rfl (HBL.out _) Try.underlying68 rfl (by kernel_rfl) ?_) | (go_at_call 30; refine (Ret.later (KA.out _)).mono ?_; rintro x _ ⟨rfl, e, rfl⟩) | (go_at_call 31; refine (Ret.later (KF.out _)).mono ?_; rintro x _ ⟨rfl, e, rfl⟩) | (go_at_call 32; refine (Ret.later (KR.out _)).mono ?_; rintro x _ ⟨rfl, e, rfl⟩))
  clear d1 KA KF KR tca tcb tcc
  have tk1 : True := trivial
  go_upto_region 6 with (first | (clear tk1; refine wpList_row (by rfl) 68 _ rfl _ rfl (HBL.out _) Try.underlying68 rfl (by kernel_rfl) ?_) | (go_at_call 33; refine (Ret.later (KB.out _)).mono ?_; rintro x _ ⟨rfl, e, rfl⟩))
  go_upto_region 7 with fail
  generalize hY : World.drew _ = V6
  have HBY : Hid (BytesAt V6 e.x.heap.size LX) := hid (by rw [← hY]; exact (bytesAt_new _ _ _ _).ext (Mod.refl [] _).drew)
  have HXY : Hid (Ext V V6) := hid (by rw [← hY]; exact (e.h.alloc _).drew)
  have HE6 := hid (HE.out.trans HXY.out)
  have HB6 := hid (HB0.out.ext HXY.out)
  have HB0_lt := hid HB0.out.lt
  clear hY HXY HE HB0 hconv HBL KB nea neb nec
  have HG : Hid (w.heap.size + 1 ≤ e.x.heap.size) := hid (Nat.le_trans (Nat.succ_le_of_lt HB0_lt.out) e.h.size)
  generalize e.x.heap.size = G at *
  generalize grownCap e.x LX.length 0 _ = cap at *
  clear e
  have HW6 := hid (Mod.refl [] V6)
  go_cut [8] (fun s8 wx => s8 = .int .i64 (m : Int) ∧ Hid (Ext V6 wx))
  case first =>
    go_wp2_with fail
    go_meet
    exact ⟨by have h := HMM.out; rw [← h]; rfl, HW6⟩
  obtain ⟨rfl, hW⟩ := hcut
  generalize wc = W7 at *
  have HBG := hid (HBY.out.ext hW.out)
  have HE7 := hid (HE6.out.trans hW.out)
  have HB7 := hid (HB6.out.ext hW.out)
  clear hW HBY HE6 HB6 HW6 k0 k1 HMM
  obtain ⟨q, hq⟩ : ∃ q, m / 8 = q := ⟨_, rfl⟩
  obtain ⟨r, hr⟩ : ∃ r, m % 8 = r := ⟨_, rfl⟩
  have hm := HM.out
  have hmq : m = 8 * q + r := by omega
  have hr8 : r < 8 := by omega
  have hql : q < LX.length := by omega
  obtain ⟨x, hx⟩ : ∃ x : UInt8, LX[q] = x := ⟨_, rfl⟩
  have HFL : Hid (flipL LX m = LX.set q (b8 (x.toNat ^^^ 2 ^ r))) := hid (by unfold flipL; rw [hq, hr, List.getD_eq_getElem?_getD, List.getElem?_eq_getElem hql, hx]; rfl)
  have HXQ := hid (fun W (hW : Mod [] W7 W) => by have := (HBG.out.ext hW).2 q hql; rw [hx] at this; exact this)
  have q0 : (0 : Int) ≤ (q : Int) := by omega
  have q1 : (q : Int) < (LX.length : Int) := by omega
  have x0 : (x.toNat : Int) < 256 := by have := x.toNat_lt; omega
  have x1 : (0 : Int) ≤ (x.toNat : Int) := by omega
  have m0 : (0 : Int) ≤ (m : Int) := by omega
  have m1 : (m : Int) < 8000000 := by omega
  have mq : (m : Int) / 8 = (q : Int) := by omega
  have HQL := hid hql
  have HRL : Hid ((r = 0 ∨ r = 1 ∨ r = 2 ∨ r = 3) ∨ (r = 4 ∨ r = 5 ∨ r = 6 ∨ r = 7)) := hid (by omega)
  have mr : (m : Int) % 8 = (r : Int) := by omega
  have HWQ : Hid (IntKind.i64.wrap (q : Int) = (q : Int)) := hid (IntWalk.i64_in _ (by have := HN.out; omega))
  have HMT : Hid ((m : Int).tmod 8 = (r : Int)) := hid (by rw [Int.tmod_eq_emod_of_nonneg m0]; exact mr)
  clear hq hr hm hmq hr8 hx mr
  go_upto_region 8 with fail
  go_cut [] (fun wx => Hid (Mod [G] W7 wx ∧ BytesAt wx G (flipL LX m)))
  case first =>
    have hxor : ∀ c : Nat, c < 256 → bits .xor .u8 (x.toNat : Int) (c : Int) = ((x.toNat ^^^ c : Nat) : Int) := fun c hc => u8_xor_nat _ _ (by have := x.toNat_lt; omega) hc
    rcases HRL.out with (rfl | rfl | rfl | rfl) | (rfl | rfl | rfl | rfl)
    · have HX8 : Hid (bits .xor .u8 (x.toNat : Int) 1 = ((x.toNat ^^^ 1 : Nat) : Int)) := hid (hxor 1 (by decide))
      clear hxor
      have wq := HWQ.out
      have mt := HMT.out
      have p1 := (HXQ.out W7 (Mod.refl [] W7)).1
      go_still_tail 10, (by kernel_rfl)
      clear wq mt p1
      change wpList _ _ _ _ _ W7.drew
      have hB := (HBG.out.ext (Mod.refl [] W7).drew)
      have hM : Mod [G] W7 W7.drew := (Mod.refl _ _).drew
      generalize W7.drew = U8 at *
      have y1 := (hB.2 q HQL.out).1
      have y2 := (hB.2 q HQL.out).2
      have hN := hB.set q (b8 (x.toNat ^^^ 1)) HQL.out
      rw [toNat_b8 (Nat.xor_lt_two_pow (n := 8) x.toNat_lt (by decide))] at hN
      have hF : flipL LX m = LX.set q (b8 (x.toNat ^^^ 1)) := HFL.out
      rw [← hF] at hN
      have HN2 := hid hN
      have HM2 := hid (hM.setCell (p := ⟨G, q, none⟩) (.inl (by simp)) (.int .u8 ((x.toNat ^^^ 1 : Nat) : Int)))
      clear hB hM hN hF
      go_wp2_with fail
      go_meet
      rw [HX8.out]
      exact ⟨HM2.out, HN2.out⟩
    · have HX8 : Hid (bits .xor .u8 (x.toNat : Int) 2 = ((x.toNat ^^^ 2 : Nat) : Int)) := hid (hxor 2 (by decide))
      clear hxor
      have wq := HWQ.out
      have mt := HMT.out
      have p1 := (HXQ.out W7 (Mod.refl [] W7)).1
      go_still_tail 10, (by kernel_rfl)
      clear wq mt p1
      change wpList _ _ _ _ _ W7.drew
      have hB := (HBG.out.ext (Mod.refl [] W7).drew)
      have hM : Mod [G] W7 W7.drew := (Mod.refl _ _).drew
      generalize W7.drew = U8 at *
      have y1 := (hB.2 q HQL.out).1
      have y2 := (hB.2 q HQL.out).2
      have hN := hB.set q (b8 (x.toNat ^^^ 2)) HQL.out
      rw [toNat_b8 (Nat.xor_lt_two_pow (n := 8) x.toNat_lt (by decide))] at hN
      have hF : flipL LX m = LX.set q (b8 (x.toNat ^^^ 2)) := HFL.out
      rw [← hF] at hN
      have HN2 := hid hN
      have HM2 := hid (hM.setCell (p := ⟨G, q, none⟩) (.inl (by simp)) (.int .u8 ((x.toNat ^^^ 2 : Nat) : Int)))
      clear hB hM hN hF
      go_wp2_with fail
      go_meet
      rw [HX8.out]
      exact ⟨HM2.out, HN2.out⟩
    · have HX8 : Hid (bits .xor .u8 (x.toNat : Int) 4 = ((x.toNat ^^^ 4 : Nat) : Int)) := hid (hxor 4 (by decide))
      clear hxor
      have wq := HWQ.out
      have mt := HMT.out
      have p1 := (HXQ.out W7 (Mod.refl [] W7)).1
      go_still_tail 10, (by kernel_rfl)
      clear wq mt p1
      change wpList _ _ _ _ _ W7.drew
      have hB := (HBG.out.ext (Mod.refl [] W7).drew)
      have hM : Mod [G] W7 W7.drew := (Mod.refl _ _).drew
      generalize W7.drew = U8 at *
      have y1 := (hB.2 q HQL.out).1
      have y2 := (hB.2 q HQL.out).2
      have hN := hB.set q (b8 (x.toNat ^^^ 4)) HQL.out
      rw [toNat_b8 (Nat.xor_lt_two_pow (n := 8) x.toNat_lt (by decide))] at hN
      have hF : flipL LX m = LX.set q (b8 (x.toNat ^^^ 4)) := HFL.out
      rw [← hF] at hN
      have HN2 := hid hN
      have HM2 := hid (hM.setCell (p := ⟨G, q, none⟩) (.inl (by simp)) (.int .u8 ((x.toNat ^^^ 4 : Nat) : Int)))
      clear hB hM hN hF
      go_wp2_with fail
      go_meet
      rw [HX8.out]
      exact ⟨HM2.out, HN2.out⟩
    · have HX8 : Hid (bits .xor .u8 (x.toNat : Int) 8 = ((x.toNat ^^^ 8 : Nat) : Int)) := hid (hxor 8 (by decide))
      clear hxor
      have wq := HWQ.out
      have mt := HMT.out
      have p1 := (HXQ.out W7 (Mod.refl [] W7)).1
      go_still_tail 10, (by kernel_rfl)
      clear wq mt p1
      change wpList _ _ _ _ _ W7.drew
      have hB := (HBG.out.ext (Mod.refl [] W7).drew)
      have hM : Mod [G] W7 W7.drew := (Mod.refl _ _).drew
      generalize W7.drew = U8 at *
      have y1 := (hB.2 q HQL.out).1
      have y2 := (hB.2 q HQL.out).2
      have hN := hB.set q (b8 (x.toNat ^^^ 8)) HQL.out
      rw [toNat_b8 (Nat.xor_lt_two_pow (n := 8) x.toNat_lt (by decide))] at hN
      have hF : flipL LX m = LX.set q (b8 (x.toNat ^^^ 8)) := HFL.out
      rw [← hF] at hN
      have HN2 := hid hN
      have HM2 := hid (hM.setCell (p := ⟨G, q, none⟩) (.inl (by simp)) (.int .u8 ((x.toNat ^^^ 8 : Nat) : Int)))
      clear hB hM hN hF
      go_wp2_with fail
      go_meet
      rw [HX8.out]
      exact ⟨HM2.out, HN2.out⟩
    · have HX8 : Hid (bits .xor .u8 (x.toNat : Int) 16 = ((x.toNat ^^^ 16 : Nat) : Int)) := hid (hxor 16 (by decide))
      clear hxor
      have wq := HWQ.out
      have mt := HMT.out
      have p1 := (HXQ.out W7 (Mod.refl [] W7)).1
      go_still_tail 10, (by kernel_rfl)
      clear wq mt p1
      change wpList _ _ _ _ _ W7.drew
      have hB := (HBG.out.ext (Mod.refl [] W7).drew)
      have hM : Mod [G] W7 W7.drew := (Mod.refl _ _).drew
      generalize W7.drew = U8 at *
      have y1 := (hB.2 q HQL.out).1
      have y2 := (hB.2 q HQL.out).2
      have hN := hB.set q (b8 (x.toNat ^^^ 16)) HQL.out
      rw [toNat_b8 (Nat.xor_lt_two_pow (n := 8) x.toNat_lt (by decide))] at hN
      have hF : flipL LX m = LX.set q (b8 (x.toNat ^^^ 16)) := HFL.out
      rw [← hF] at hN
      have HN2 := hid hN
      have HM2 := hid (hM.setCell (p := ⟨G, q, none⟩) (.inl (by simp)) (.int .u8 ((x.toNat ^^^ 16 : Nat) : Int)))
      clear hB hM hN hF
      go_wp2_with fail
      go_meet
      rw [HX8.out]
      exact ⟨HM2.out, HN2.out⟩
    · have HX8 : Hid (bits .xor .u8 (x.toNat : Int) 32 = ((x.toNat ^^^ 32 : Nat) : Int)) := hid (hxor 32 (by decide))
      clear hxor
      have wq := HWQ.out
      have mt := HMT.out
      have p1 := (HXQ.out W7 (Mod.refl [] W7)).1
      go_still_tail 10, (by kernel_rfl)
      clear wq mt p1
      change wpList _ _ _ _ _ W7.drew
      have hB := (HBG.out.ext (Mod.refl [] W7).drew)
      have hM : Mod [G] W7 W7.drew := (Mod.refl _ _).drew
      generalize W7.drew = U8 at *
      have y1 := (hB.2 q HQL.out).1
      have y2 := (hB.2 q HQL.out).2
      have hN := hB.set q (b8 (x.toNat ^^^ 32)) HQL.out
      rw [toNat_b8 (Nat.xor_lt_two_pow (n := 8) x.toNat_lt (by decide))] at hN
      have hF : flipL LX m = LX.set q (b8 (x.toNat ^^^ 32)) := HFL.out
      rw [← hF] at hN
      have HN2 := hid hN
      have HM2 := hid (hM.setCell (p := ⟨G, q, none⟩) (.inl (by simp)) (.int .u8 ((x.toNat ^^^ 32 : Nat) : Int)))
      clear hB hM hN hF
      go_wp2_with fail
      go_meet
      rw [HX8.out]
      exact ⟨HM2.out, HN2.out⟩
    · have HX8 : Hid (bits .xor .u8 (x.toNat : Int) 64 = ((x.toNat ^^^ 64 : Nat) : Int)) := hid (hxor 64 (by decide))
      clear hxor
      have wq := HWQ.out
      have mt := HMT.out
      have p1 := (HXQ.out W7 (Mod.refl [] W7)).1
      go_still_tail 10, (by kernel_rfl)
      clear wq mt p1
      change wpList _ _ _ _ _ W7.drew
      have hB := (HBG.out.ext (Mod.refl [] W7).drew)
      have hM : Mod [G] W7 W7.drew := (Mod.refl _ _).drew
      generalize W7.drew = U8 at *
      have y1 := (hB.2 q HQL.out).1
      have y2 := (hB.2 q HQL.out).2
      have hN := hB.set q (b8 (x.toNat ^^^ 64)) HQL.out
      rw [toNat_b8 (Nat.xor_lt_two_pow (n := 8) x.toNat_lt (by decide))] at hN
      have hF : flipL LX m = LX.set q (b8 (x.toNat ^^^ 64)) := HFL.out
      rw [← hF] at hN
      have HN2 := hid hN
      have HM2 := hid (hM.setCell (p := ⟨G, q, none⟩) (.inl (by simp)) (.int .u8 ((x.toNat ^^^ 64 : Nat) : Int)))
      clear hB hM hN hF
      go_wp2_with fail
      go_meet
      rw [HX8.out]
      exact ⟨HM2.out, HN2.out⟩
    · have HX8 : Hid (bits .xor .u8 (x.toNat : Int) 128 = ((x.toNat ^^^ 128 : Nat) : Int)) := hid (hxor 128 (by decide))
      clear hxor
      have wq := HWQ.out
      have mt := HMT.out
      have p1 := (HXQ.out W7 (Mod.refl [] W7)).1
      go_still_tail 10, (by kernel_rfl)
      clear wq mt p1
      change wpList _ _ _ _ _ W7.drew
      have hB := (HBG.out.ext (Mod.refl [] W7).drew)
      have hM : Mod [G] W7 W7.drew := (Mod.refl _ _).drew
      generalize W7.drew = U8 at *
      have y1 := (hB.2 q HQL.out).1
      have y2 := (hB.2 q HQL.out).2
      have hN := hB.set q (b8 (x.toNat ^^^ 128)) HQL.out
      rw [toNat_b8 (Nat.xor_lt_two_pow (n := 8) x.toNat_lt (by decide))] at hN
      have hF : flipL LX m = LX.set q (b8 (x.toNat ^^^ 128)) := HFL.out
      rw [← hF] at hN
      have HN2 := hid hN
      have HM2 := hid (hM.setCell (p := ⟨G, q, none⟩) (.inl (by simp)) (.int .u8 ((x.toNat ^^^ 128 : Nat) : Int)))
      clear hB hM hN hF
      go_wp2_with fail
      go_meet
      rw [HX8.out]
      exact ⟨HM2.out, HN2.out⟩
  have HMF := hid hcut.out.1
  have HBF := hid hcut.out.2
  have HE9 : Hid (Ext w wc) := hid ((HE7.out.of_ext.trans HMF.out).new (fun kk hkk => .inr (by have := HG.out; simp at hkk; omega)))
  clear hcut HB7 HE7 HMF HXQ HBG HFL HWQ HMT HRL HQL q0 q1 x0 x1 m0 m1 mq
  obtain ⟨LF, hLF⟩ : ∃ LF, flipL LX m = LF := ⟨_, rfl⟩
  have hlen : LF.length = LX.length := by rw [← hLF, flipL_length]
  have HNO := hid (fun (t : T) (h1 : t.ok) (h2 : t.right 8 = true) (h3 : t.size ≤ 5000) (h4 : t.bytes = LF) => HNO.out m HM.out t h1 h2 h3 (by rw [hLF]; exact h4))
  rw [hLF] at HBF
  have HLF := hid hlen
  have hcv : (convert 73 9 (.slice (some ⟨G, 0, none⟩) LX.length cap)).run Try.prog wc = .ok (str LF) wc := by rw [← hlen]; exact HBF.out.conv cap
  clear hLF hlen HM
  have HP := hid (fun W => parse_anyC LF (by unfold Hid; have := HN.out; have := HLF.out; omega) W)
  have hl9 : LF.length < 1000000 := by have := HN.out; have := HLF.out; omega
  have HL9 := hid hl9
  clear hl9
  go_upto_region 9 with fail
  by_cases hE : (parseR LF).2 = 0
  · have KP : Hid (∀ W, Calls Try.prog 34 #[str LF] W (fun e w' => ∃ t A c, e = .returned (.tuple #[itemV t A c, .int .i64 (-1), .int .i64 0]) ∧ Ext W w' ∧ (t.ok ∧ t.size ≤ 5000 ∧ (ofP t).2 ≠ 0 ∧ t.k ≤ c) ∧ IsL w' (fun _ => True) t A)) := hid (fun W => (HP.out W).mono fun e w' ⟨hx, h⟩ => by
      rcases h with ⟨h, _⟩ | ⟨_, t, A, c, h1, ⟨h2, h3⟩, h4, h5⟩
      · exact absurd hE h
      · have hs : t.size ≤ 5000 := by have := T.size_le t (T.plain_of h2); rw [h4] at this; have := HL5.out; have := HLF.out; omega
        exact ⟨t, A, c, h1, hx, ⟨h3, hs, HNO.out t h3 h2 hs h4, h5.cap⟩, h5.isL⟩)
    have KO : Hid (∀ W t A c, t.ok → t.size ≤ 5000 → (ofP t).2 ≠ 0 → t.k ≤ c → IsL W (fun _ => True) t A → Calls Try.prog 35 #[itemV t A c] W (fun e w' => ∃ (zc : Array Value) (r : Int), e = .returned (.tuple #[.agg zc, .int .i64 r]) ∧ Ext W w' ∧ r ≠ 0 ∧ ((Try.prog.info? 68).map (·.size) = some zc.size ∧ zc.all (·.oneCell') = true ∧ zc.size ≤ 19))) := hid (fun W t A c h1 h2 h3 h4 hW => (pof_any t h1 h2 A c h4 W hW).mono fun e w' ⟨he, hm⟩ => ⟨(ofP t).1.c, (ofP t).2, he, hm, h3, by kernel_rfl, PV.one _, Nat.le_refl 19⟩)
    clear hE HP HNO
    obtain ⟨e9, he⟩ := Later.self wc
    have HE10 := hid (HE9.out)
    rw [he] at hcv ⊢
    clear he
    go_upto_region 10 with (first | (go_at_call 34; refine (KP.out _).mono ?_; rintro y w3 ⟨t, A2, c2, rfl, hb, h1, hl⟩; have HT1 := hid h1; have HI2 := hid hl; clear h1 hl; have HBX := hid hb; clear hb))
    generalize hZ : World.alloc w3 _ = Zy
    clear hcv
    have By : Hid (Blk Zy w3.heap.size 38 (itemC t A2 c2)) := hid (by rw [← hZ]; exact Blk.new _ _ _)
    have HZU : Hid (Ext wc Zy) := hid (by rw [← hZ]; exact (e9.h.trans HBX.out).alloc _)
    have HZw : Hid (Ext w3 Zy) := hid (by rw [← hZ]; exact (Mod.refl [] w3).alloc _)
    have HI2 := hid (HI2.out.ext HZw.out)
    have HE10 := hid (HE10.out.trans HZU.out)
    clear hZ HZU HZw HBX e9
    generalize w3.heap.size = Ny at *
    obtain ⟨ey, he⟩ := Later.self Zy
    rw [he]
    clear he
    go_wp2_with (first | (refine wpList_row (by rfl) 38 _ rfl _ rfl (By.out.later _) Try.underlying38 rfl (by kernel_rfl) ?_) | (go_at_call 35; refine (KO.out _ t A2 c2 HT1.out.1 HT1.out.2.1 HT1.out.2.2.1 HT1.out.2.2.2 (HI2.out.ext (Later.h _))).mono ?_; rintro y w4 ⟨zc, r, rfl, hb, hr, hz⟩; have HBX := hid hb; have HZZ := hid hz; have r1 : (r == 0) = false := (by simpa using hr); have r2 : (r = 0) = False := (by simpa using hr); have r3 : (r != 0) = true := (by simpa using hr); clear hb hr hz) | (refine wpList_store_mid rfl 68 _ _ rfl w4.heap.size 0 zc (by rfl) (by rfl) ((Blk.new _ _ _).there HZZ.out.2.2) HZZ.out.1 HZZ.out.2.1 ?_))
    go_ret
    exact Ret.mk rfl (setCells_mod _ _ ((HE10.out.trans (ey.h.trans HBX.out)).alloc _) (.inr (HE10.out.trans (ey.h.trans HBX.out)).size))
  · obtain ⟨er, her⟩ : ∃ er, (parseR LF).2 = er := ⟨_, rfl⟩
    obtain ⟨pl, hpl⟩ : ∃ pl, (parseR LF).1 = pl := ⟨_, rfl⟩
    have KP : Hid (∀ W, Calls Try.prog 34 #[str LF] W (fun e w' => e = .returned (.tuple #[itemV nulT none 0, .int .i64 (pl : Int), .int .i64 er]) ∧ Ext W w')) := hid (fun W => (HP.out W).mono fun e w' ⟨hx, h⟩ => by
      rcases h with ⟨_, h⟩ | ⟨h, _⟩
      · rw [← her, ← hpl]; exact ⟨h, hx⟩
      · exact absurd h hE)
    rw [her] at hE
    have tea : ((er) == (0)) = false := by rw [beq_eq_false_iff_ne]; exact hE
    have teb : ((er) = (0)) = False := eq_false (by exact hE)
    have tec : ((er) != (0)) = true := by rw [bne_iff_ne]; exact hE
    clear hE her hpl HP HNO
    go_wp2_with (go_at_call 34; refine (KP.out _).mono ?_; rintro y w3 ⟨rfl, hb⟩; have HBX := hid hb; clear hb)
    go_ret
    exact Ret.mk rfl ((HE9.out.trans HBX.out).alloc _)
end Go.Proofs.Ytogjghmoankleaa
