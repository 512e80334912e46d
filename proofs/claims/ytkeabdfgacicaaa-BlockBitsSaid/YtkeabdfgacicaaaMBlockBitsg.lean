/-
  The law BlockBits, walked.
-/
import Derived.Test.YtkeabdfgacicaaaMBlockBitsf
import Derived.StillTailTactics

namespace Go.Proofs.Ytkeabdfgacicaaa
open Go.RowKit
set_option linter.unusedVariables false
set_option linter.unusedSimpArgs false

set_option maxRecDepth 20000 in
set_option maxHeartbeats 800000 in
theorem bits_long (b : BV) (k : Int) (hl : 500 < b.data.length) (w : World) : Calls Try.prog 5 #[b.v, .int .u16 k] w (Ret (.bool true) w) := by
  have KA := hid (fun W => awake12_any W)
  have KR := hid (fun W => rbRight_any b W)
  have laa : decide (500 < b.data.length) = true := decide_eq_true (by omega)
  have lab : (500 < b.data.length) = True := eq_true (by omega)
  have lba : decide ((500 : Int) < (b.data.length : Int)) = true := decide_eq_true (by omega)
  have lbb : ((500 : Int) < (b.data.length : Int)) = True := eq_true (by omega)
  clear hl
  have HE := hid ((Mod.refl [] w).alloc (.cells (BV.c b) 32))
  have HB0 : Hid (Blk (w.alloc (.cells (BV.c b) 32)) w.heap.size 32 (BV.c b)) := hid (Blk.new w 32 (BV.c b))
  go_enter Try.func5, Try.ntmps5
  go_upto_region 1 with fail
  generalize (w.alloc (.cells (BV.c b) 32)) = V at *
  have d4 : ∀ e : Later V, e.x.cell? ⟨w.heap.size, 4, none⟩ = some (str b.data) := HB0.out.cellL 4 rfl
  have d3 : ∀ e : Later V, e.x.cell? ⟨w.heap.size, 3, none⟩ = some (.int .i64 b.crc) := HB0.out.cellL 3 rfl
  obtain ⟨e, he⟩ := Later.self V
  rw [he]
  clear he
  go_wp2_with (first | (go_at_call 16; refine (Ret.later (KA.out _)).mono ?_; rintro x _ ⟨rfl, e, rfl⟩) | (go_at_call 17; refine (Ret.later (KR.out _)).mono ?_; rintro x _ ⟨rfl, e, rfl⟩) | (refine wpList_row (by rfl) 32 _ rfl _ rfl (HB0.out.later _) Try.underlying32 rfl (by kernel_rfl) ?_))
  go_ret
  exact Ret.mk rfl (HE.out.trans e.h)
set_option maxRecDepth 20000 in
set_option maxHeartbeats 800000 in
theorem bits_none (b : BV) (k : Int) (hl : ¬ 500 < b.data.length) (hc : b.crc = 0) (w : World) : Calls Try.prog 5 #[b.v, .int .u16 k] w (Ret (.bool true) w) := by
  have KA := hid (fun W => awake12_any W)
  have KR := hid (fun W => rbRight_any b W)
  have laa : decide (500 < b.data.length) = false := decide_eq_false (by omega)
  have lab : (500 < b.data.length) = False := eq_false (by omega)
  have lba : decide ((500 : Int) < (b.data.length : Int)) = false := decide_eq_false (by omega)
  have lbb : ((500 : Int) < (b.data.length : Int)) = False := eq_false (by omega)
  have tca : ((b.crc) == (0)) = true := by rw [beq_iff_eq]; omega
  have tcb : ((b.crc) = (0)) = True := eq_true (by omega)
  have tcc : ((b.crc) != (0)) = false := by rw [bne_eq_false_iff_eq]; omega
  clear hl hc
  have HE := hid ((Mod.refl [] w).alloc (.cells (BV.c b) 32))
  have HB0 : Hid (Blk (w.alloc (.cells (BV.c b) 32)) w.heap.size 32 (BV.c b)) := hid (Blk.new w 32 (BV.c b))
  go_enter Try.func5, Try.ntmps5
  go_upto_region 1 with fail
  generalize (w.alloc (.cells (BV.c b) 32)) = V at *
  have d4 : ∀ e : Later V, e.x.cell? ⟨w.heap.size, 4, none⟩ = some (str b.data) := HB0.out.cellL 4 rfl
  have d3 : ∀ e : Later V, e.x.cell? ⟨w.heap.size, 3, none⟩ = some (.int .i64 b.crc) := HB0.out.cellL 3 rfl
  obtain ⟨e, he⟩ := Later.self V
  rw [he]
  clear he
  go_wp2_with (first | (go_at_call 16; refine (Ret.later (KA.out _)).mono ?_; rintro x _ ⟨rfl, e, rfl⟩) | (go_at_call 17; refine (Ret.later (KR.out _)).mono ?_; rintro x _ ⟨rfl, e, rfl⟩) | (refine wpList_row (by rfl) 32 _ rfl _ rfl (HB0.out.later _) Try.underlying32 rfl (by kernel_rfl) ?_))
  go_ret
  exact Ret.mk rfl (HE.out.trans e.h)
set_option maxRecDepth 20000 in
set_option maxHeartbeats 800000 in
theorem bits_bad (b : BV) (k : Int) (hl : ¬ 500 < b.data.length) (hc : b.crc ≠ 0) (hb : b.right ≠ 0) (w : World) : Calls Try.prog 5 #[b.v, .int .u16 k] w (Ret (.bool true) w) := by
  have KA := hid (fun W => awake12_any W)
  have KR := hid (fun W => rbRight_any b W)
  have laa : decide (500 < b.data.length) = false := decide_eq_false (by omega)
  have lab : (500 < b.data.length) = False := eq_false (by omega)
  have lba : decide ((500 : Int) < (b.data.length : Int)) = false := decide_eq_false (by omega)
  have lbb : ((500 : Int) < (b.data.length : Int)) = False := eq_false (by omega)
  have tca : ((b.crc) == (0)) = false := by rw [beq_eq_false_iff_ne]; exact hc
  have tcb : ((b.crc) = (0)) = False := eq_false (by exact hc)
  have tcc : ((b.crc) != (0)) = true := by rw [bne_iff_ne]; exact hc
  generalize b.right = r at *
  have ra : ((r) == (0)) = false := by rw [beq_eq_false_iff_ne]; exact hb
  have rb : ((r) = (0)) = False := eq_false (by exact hb)
  have rc : ((r) != (0)) = true := by rw [bne_iff_ne]; exact hb
  clear hl hb hc
  have HE := hid ((Mod.refl [] w).alloc (.cells (BV.c b) 32))
  have HB0 : Hid (Blk (w.alloc (.cells (BV.c b) 32)) w.heap.size 32 (BV.c b)) := hid (Blk.new w 32 (BV.c b))
  go_enter Try.func5, Try.ntmps5
  go_upto_region 1 with fail
  generalize (w.alloc (.cells (BV.c b) 32)) = V at *
  have d4 : ∀ e : Later V, e.x.cell? ⟨w.heap.size, 4, none⟩ = some (str b.data) := HB0.out.cellL 4 rfl
  have d3 : ∀ e : Later V, e.x.cell? ⟨w.heap.size, 3, none⟩ = some (.int .i64 b.crc) := HB0.out.cellL 3 rfl
  obtain ⟨e, he⟩ := Later.self V
  rw [he]
  clear he
  go_wp2_with (first | (go_at_call 16; refine (Ret.later (KA.out _)).mono ?_; rintro x _ ⟨rfl, e, rfl⟩) | (go_at_call 17; refine (Ret.later (KR.out _)).mono ?_; rintro x _ ⟨rfl, e, rfl⟩) | (refine wpList_row (by rfl) 32 _ rfl _ rfl (HB0.out.later _) Try.underlying32 rfl (by kernel_rfl) ?_))
  go_ret
  exact Ret.mk rfl (HE.out.trans e.h)
set_option maxRecDepth 20000 in
set_option maxHeartbeats 4000000 in
theorem bits_ok (ty num fl crc : Nat) (data : List UInt8) (kk : Nat) (hk : kk < 65536) (hb : BV.right ⟨(ty : Int), (num : Int), fl, (crc : Int), data⟩ = 0) (hc : crc ≠ 0) (hl : ¬ data.length > 500) (w : World) : Calls Try.prog 5 #[BV.v ⟨(ty : Int), (num : Int), fl, (crc : Int), data⟩, .int .u16 (kk : Int)] w (Ret (.bool true) w) := by
  have KA := hid (fun W => awake12_any W)
  have KR : Hid (∀ W, Calls Try.prog 17 #[BV.v ⟨(ty : Int), (num : Int), fl, (crc : Int), data⟩] W (Ret (.int .i64 0) W)) := fun W => by rw [← hb]; exact rbRight_any _ W
  have KB := hid (fun W => Build_any ty num fl crc data hb W)
  have hz := BV.right_zero hb
  dsimp only at hz
  have HZ := hid hb
  have HCR := hid hc
  obtain ⟨LX, hL⟩ : ∃ L, (blkB ty num fl crc data (sumB ty num fl crc data)) = L := ⟨_, rfl⟩
  rw [hL] at KB
  have HLX := hid hL
  clear hL
  have hn : 0 < LX.length ∧ LX.length < 1000000 := by
    rw [← HLX.out]
    refine ⟨?_, blkB_length (by omega) (by rw [sumB_length (by omega)]; omega)⟩
    unfold blkB
    have := headL_pos 4 5
    have := headL_pos 4 6
    split <;> simp only [List.length_append] <;> omega
  have hm : kk % (8 * LX.length) < 8 * LX.length := Nat.mod_lt _ (by omega)
  obtain ⟨m, hmm⟩ : ∃ m, kk % (8 * LX.length) = m := ⟨_, rfl⟩
  rw [hmm] at hm
  have HMM := hid hmm
  have HM := hid hm
  have HN := hid hn
  clear hmm hm
  have n0 : (1 : Int) ≤ (LX.length : Int) := by omega
  have n1 : (LX.length : Int) < 1000000 := by omega
  have k0 : (0 : Int) ≤ (kk : Int) := by omega
  have k1 : (kk : Int) < 65536 := by omega
  have hne0 : LX ≠ [] := by intro h; rw [h] at hn; exact absurd hn.1 (by decide)
  have nea : ((LX) == ([])) = false := by rw [beq_eq_false_iff_ne]; exact hne0
  have neb : ((LX) = ([])) = False := eq_false (by exact hne0)
  have nec : ((LX) != ([])) = true := by rw [bne_iff_ne]; exact hne0
  clear hne0
  have laa : decide (500 < data.length) = false := decide_eq_false (by omega)
  have lab : (500 < data.length) = False := eq_false (by omega)
  have lba : decide ((500 : Int) < (data.length : Int)) = false := decide_eq_false (by omega)
  have lbb : ((500 : Int) < (data.length : Int)) = False := eq_false (by omega)
  have tca : (((crc : Int)) == (0)) = false := by rw [beq_eq_false_iff_ne]; omega
  have tcb : (((crc : Int)) = (0)) = False := eq_false (by omega)
  have tcc : (((crc : Int)) != (0)) = true := by rw [bne_iff_ne]; omega
  have tda : ((crc) == (0)) = false := by rw [beq_eq_false_iff_ne]; omega
  have tdb : ((crc) = (0)) = False := eq_false (by omega)
  have tdc : ((crc) != (0)) = true := by rw [bne_iff_ne]; omega
  clear hb hz hc hl hk hn
  have hconv := fun (w : World) (s : ByteArray) => run_bytes_of_string (P := Try.prog) w 9 58 5 s Try.underlying9 Try.underlying58 Try.underlying5
  have HE := hid ((Mod.refl [] w).alloc (.cells (BV.c ⟨(ty : Int), (num : Int), fl, (crc : Int), data⟩) 32))
  have HB0 : Hid (Blk (w.alloc (.cells (BV.c ⟨(ty : Int), (num : Int), fl, (crc : Int), data⟩) 32)) w.heap.size 32 (BV.c ⟨(ty : Int), (num : Int), fl, (crc : Int), data⟩)) := hid (Blk.new w 32 (BV.c ⟨(ty : Int), (num : Int), fl, (crc : Int), data⟩))
  go_enter Try.func5, Try.ntmps5
  go_upto_region 1 with fail
  generalize (w.alloc (.cells (BV.c ⟨(ty : Int), (num : Int), fl, (crc : Int), data⟩) 32)) = V at *
  have d4 : ∀ e : Later V, e.x.cell? ⟨w.heap.size, 4, none⟩ = some (str data) := HB0.out.cellL 4 rfl
  have d3 : ∀ e : Later V, e.x.cell? ⟨w.heap.size, 3, none⟩ = some (.int .i64 (crc : Int)) := HB0.out.cellL 3 rfl
  obtain ⟨e, he⟩ := Later.self V
  rw [he]
  clear he
  go_upto_region 3 with (first | (go_at_call 16; refine (Ret.later (KA.out _)).mono ?_; rintro x _ ⟨rfl, e, rfl⟩) | (go_at_call 17; refine (Ret.later (KR.out _)).mono ?_; rintro x _ ⟨rfl, e, rfl⟩) | (refine wpList_row (by rfl) 32 _ rfl _ rfl (HB0.out.later _) Try.underlying32 rfl (by kernel_rfl) ?_))
  clear d4 d3
  go_upto_region 6 with (first | (refine wpList_row (by rfl) 32 _ rfl _ rfl (HB0.out.later _) Try.underlying32 rfl (by kernel_rfl) ?_) | (go_at_call 20; refine (Ret.later (KB.out _)).mono ?_; rintro x _ ⟨rfl, e, rfl⟩))
  go_upto_region 7 with fail
  generalize hY : World.drew _ = V6
  have HBY : Hid (BytesAt V6 e.x.heap.size LX) := hid (by rw [← hY]; exact (bytesAt_new _ _ _ _).ext (Mod.refl [] _).drew)
  have HXY : Hid (Ext V V6) := hid (by rw [← hY]; exact (e.h.alloc _).drew)
  have HE6 := hid (HE.out.trans HXY.out)
  have HB6 := hid (HB0.out.ext HXY.out)
  have HB0_lt := hid HB0.out.lt
  clear hY HXY HE HB0 hconv
  have HG : Hid (w.heap.size + 1 ≤ e.x.heap.size) := hid (Nat.le_trans (Nat.succ_le_of_lt HB0_lt.out) e.h.size)
  generalize e.x.heap.size = G at *
  generalize grownCap e.x LX.length 0 _ = cap at *
  clear e
  have HW6 := hid (Mod.refl [] V6)
  go_cut [8] (fun s8 wx => s8 = .int .i64 (m : Int) ∧ Hid (Ext V6 wx))
  case first =>
    go_wp2_with fail
    go_meet
    exact ⟨by have h := HMM.out; rw [← h]; rfl, HW6⟩
  obtain ⟨rfl, hW⟩ := hcut
  generalize wc = W7 at *
  have HBG := hid (HBY.out.ext hW.out)
  have HE7 := hid (HE6.out.trans hW.out)
  have HB7 := hid (HB6.out.ext hW.out)
  clear hW HBY HE6 HB6 HW6 k0 k1 HMM
  obtain ⟨q, hq⟩ : ∃ q, m / 8 = q := ⟨_, rfl⟩
  obtain ⟨r, hr⟩ : ∃ r, m % 8 = r := ⟨_, rfl⟩
  have hm := HM.out
  have hmq : m = 8 * q + r := by omega
  have hr8 : r < 8 := by omega
  have hql : q < LX.length := by omega
  obtain ⟨x, hx⟩ : ∃ x : UInt8, LX[q] = x := ⟨_, rfl⟩
  have HFL : Hid (flipL LX m = LX.set q (b8 (x.toNat ^^^ 2 ^ r))) := hid (by unfold flipL; rw [hq, hr, List.getD_eq_getElem?_getD, List.getElem?_eq_getElem hql, hx]; rfl)
  have HXQ := hid (fun W (hW : Mod [] W7 W) => by have := (HBG.out.ext hW).2 q hql; rw [hx] at this; exact this)
  have q0 : (0 : Int) ≤ (q : Int) := by omega
  have q1 : (q : Int) < (LX.length : Int) := by omega
  have x0 : (x.toNat : Int) < 256 := by have := x.toNat_lt; omega
  have x1 : (0 : Int) ≤ (x.toNat : Int) := by omega
  have m0 : (0 : Int) ≤ (m : Int) := by omega
  have m1 : (m : Int) < 8000000 := by omega
  have mq : (m : Int) / 8 = (q : Int) := by omega
  have HQL := hid hql
  have HRL : Hid ((r = 0 ∨ r = 1 ∨ r = 2 ∨ r = 3) ∨ (r = 4 ∨ r = 5 ∨ r = 6 ∨ r = 7)) := hid (by omega)
  have mr : (m : Int) % 8 = (r : Int) := by omega
  have HWQ : Hid (IntKind.i64.wrap (q : Int) = (q : Int)) := hid (IntWalk.i64_in _ (by have := HN.out; omega))
  have HMT : Hid ((m : Int).tmod 8 = (r : Int)) := hid (by rw [Int.tmod_eq_emod_of_nonneg m0]; exact mr)
  clear hq hr hm hmq hr8 hx mr
  go_upto_region 8 with fail
  go_cut [] (fun wx => Hid (Mod [G] W7 wx ∧ BytesAt wx G (flipL LX m)))
  case first =>
    have hxor : ∀ c : Nat, c < 256 → bits .xor .u8 (x.toNat : Int) (c : Int) = ((x.toNat ^^^ c : Nat) : Int) := fun c hc => u8_xor_nat _ _ (by have := x.toNat_lt; omega) hc
    rcases HRL.out with (rfl | rfl | rfl | rfl) | (rfl | rfl | rfl | rfl)
    · have HX8 : Hid (bits .xor .u8 (x.toNat : Int) 1 = ((x.toNat ^^^ 1 : Nat) : Int)) := hid (hxor 1 (by decide))
      clear hxor
      have wq := HWQ.out
      have mt := HMT.out
      have p1 := (HXQ.out W7 (Mod.refl [] W7)).1
      go_still_tail 10, (by kernel_rfl)
      clear wq mt p1
      change wpList _ _ _ _ _ W7.drew
      have hB := (HBG.out.ext (Mod.refl [] W7).drew)
      have hM : Mod [G] W7 W7.drew := (Mod.refl _ _).drew
      generalize W7.drew = U8 at *
      have y1 := (hB.2 q HQL.out).1
      have y2 := (hB.2 q HQL.out).2
      have hN := hB.set q (b8 (x.toNat ^^^ 1)) HQL.out
      rw [toNat_b8 (Nat.xor_lt_two_pow (n := 8) x.toNat_lt (by decide))] at hN
      have hF : flipL LX m = LX.set q (b8 (x.toNat ^^^ 1)) := HFL.out
      rw [← hF] at hN
      have HN2 := hid hN
      have HM2 := hid (hM.setCell (p := ⟨G, q, none⟩) (.inl (by simp)) (.int .u8 ((x.toNat ^^^ 1 : Nat) : Int)))
      clear hB hM hN hF
      go_wp2_with fail
      go_meet
      rw [HX8.out]
      exact ⟨HM2.out, HN2.out⟩
    · have HX8 : Hid (bits .xor .u8 (x.toNat : Int) 2 = ((x.toNat ^^^ 2 : Nat) : Int)) := hid (hxor 2 (by decide))
      clear hxor
      have wq := HWQ.out
      have mt := HMT.out
      have p1 := (HXQ.out W7 (Mod.refl [] W7)).1
      go_still_tail 10, (by kernel_rfl)
      clear wq mt p1
      change wpList _ _ _ _ _ W7.drew
      have hB := (HBG.out.ext (Mod.refl [] W7).drew)
      have hM : Mod [G] W7 W7.drew := (Mod.refl _ _).drew
      generalize W7.drew = U8 at *
      have y1 := (hB.2 q HQL.out).1
      have y2 := (hB.2 q HQL.out).2
      have hN := hB.set q (b8 (x.toNat ^^^ 2)) HQL.out
      rw [toNat_b8 (Nat.xor_lt_two_pow (n := 8) x.toNat_lt (by decide))] at hN
      have hF : flipL LX m = LX.set q (b8 (x.toNat ^^^ 2)) := HFL.out
      rw [← hF] at hN
      have HN2 := hid hN
      have HM2 := hid (hM.setCell (p := ⟨G, q, none⟩) (.inl (by simp)) (.int .u8 ((x.toNat ^^^ 2 : Nat) : Int)))
      clear hB hM hN hF
      go_wp2_with fail
      go_meet
      rw [HX8.out]
      exact ⟨HM2.out, HN2.out⟩
    · have HX8 : Hid (bits .xor .u8 (x.toNat : Int) 4 = ((x.toNat ^^^ 4 : Nat) : Int)) := hid (hxor 4 (by decide))
      clear hxor
      have wq := HWQ.out
      have mt := HMT.out
      have p1 := (HXQ.out W7 (Mod.refl [] W7)).1
      go_still_tail 10, (by kernel_rfl)
      clear wq mt p1
      change wpList _ _ _ _ _ W7.drew
      have hB := (HBG.out.ext (Mod.refl [] W7).drew)
      have hM : Mod [G] W7 W7.drew := (Mod.refl _ _).drew
      generalize W7.drew = U8 at *
      have y1 := (hB.2 q HQL.out).1
      have y2 := (hB.2 q HQL.out).2
      have hN := hB.set q (b8 (x.toNat ^^^ 4)) HQL.out
      rw [toNat_b8 (Nat.xor_lt_two_pow (n := 8) x.toNat_lt (by decide))] at hN
      have hF : flipL LX m = LX.set q (b8 (x.toNat ^^^ 4)) := HFL.out
      rw [← hF] at hN
      have HN2 := hid hN
      have HM2 := hid (hM.setCell (p := ⟨G, q, none⟩) (.inl (by simp)) (.int .u8 ((x.toNat ^^^ 4 : Nat) : Int)))
      clear hB hM hN hF
      go_wp2_with fail
      go_meet
      rw [HX8.out]
      exact ⟨HM2.out, HN2.out⟩
    · have HX8 : Hid (bits .xor .u8 (x.toNat : Int) 8 = ((x.toNat ^^^ 8 : Nat) : Int)) := hid (hxor 8 (by decide))
      clear hxor
      have wq := HWQ.out
      have mt := HMT.out
      have p1 := (HXQ.out W7 (Mod.refl [] W7)).1
      go_still_tail 10, (by kernel_rfl)
      clear wq mt p1
      change wpList _ _ _ _ _ W7.drew
      have hB := (HBG.out.ext (Mod.refl [] W7).drew)
      have hM : Mod [G] W7 W7.drew := (Mod.refl _ _).drew
      generalize W7.drew = U8 at *
      have y1 := (hB.2 q HQL.out).1
      have y2 := (hB.2 q HQL.out).2
      have hN := hB.set q (b8 (x.toNat ^^^ 8)) HQL.out
      rw [toNat_b8 (Nat.xor_lt_two_pow (n := 8) x.toNat_lt (by decide))] at hN
      have hF : flipL LX m = LX.set q (b8 (x.toNat ^^^ 8)) := HFL.out
      rw [← hF] at hN
      have HN2 := hid hN
      have HM2 := hid (hM.setCell (p := ⟨G, q, none⟩) (.inl (by simp)) (.int .u8 ((x.toNat ^^^ 8 : Nat) : Int)))
      clear hB hM hN hF
      go_wp2_with fail
      go_meet
      rw [HX8.out]
      exact ⟨HM2.out, HN2.out⟩
    · have HX8 : Hid (bits .xor .u8 (x.toNat : Int) 16 = ((x.toNat ^^^ 16 : Nat) : Int)) := hid (hxor 16 (by decide))
      clear hxor
      have wq := HWQ.out
      have mt := HMT.out
      have p1 := (HXQ.out W7 (Mod.refl [] W7)).1
      go_still_tail 10, (by kernel_rfl)
      clear wq mt p1
      change wpList _ _ _ _ _ W7.drew
      have hB := (HBG.out.ext (Mod.refl [] W7).drew)
      have hM : Mod [G] W7 W7.drew := (Mod.refl _ _).drew
      generalize W7.drew = U8 at *
      have y1 := (hB.2 q HQL.out).1
      have y2 := (hB.2 q HQL.out).2
      have hN := hB.set q (b8 (x.toNat ^^^ 16)) HQL.out
      rw [toNat_b8 (Nat.xor_lt_two_pow (n := 8) x.toNat_lt (by decide))] at hN
      have hF : flipL LX m = LX.set q (b8 (x.toNat ^^^ 16)) := HFL.out
      rw [← hF] at hN
      have HN2 := hid hN
      have HM2 := hid (hM.setCell (p := ⟨G, q, none⟩) (.inl (by simp)) (.int .u8 ((x.toNat ^^^ 16 : Nat) : Int)))
      clear hB hM hN hF
      go_wp2_with fail
      go_meet
      rw [HX8.out]
      exact ⟨HM2.out, HN2.out⟩
    · have HX8 : Hid (bits .xor .u8 (x.toNat : Int) 32 = ((x.toNat ^^^ 32 : Nat) : Int)) := hid (hxor 32 (by decide))
      clear hxor
      have wq := HWQ.out
      have mt := HMT.out
      have p1 := (HXQ.out W7 (Mod.refl [] W7)).1
      go_still_tail 10, (by kernel_rfl)
      clear wq mt p1
      change wpList _ _ _ _ _ W7.drew
      have hB := (HBG.out.ext (Mod.refl [] W7).drew)
      have hM : Mod [G] W7 W7.drew := (Mod.refl _ _).drew
      generalize W7.drew = U8 at *
      have y1 := (hB.2 q HQL.out).1
      have y2 := (hB.2 q HQL.out).2
      have hN := hB.set q (b8 (x.toNat ^^^ 32)) HQL.out
      rw [toNat_b8 (Nat.xor_lt_two_pow (n := 8) x.toNat_lt (by decide))] at hN
      have hF : flipL LX m = LX.set q (b8 (x.toNat ^^^ 32)) := HFL.out
      rw [← hF] at hN
      have HN2 := hid hN
      have HM2 := hid (hM.setCell (p := ⟨G, q, none⟩) (.inl (by simp)) (.int .u8 ((x.toNat ^^^ 32 : Nat) : Int)))
      clear hB hM hN hF
      go_wp2_with fail
      go_meet
      rw [HX8.out]
      exact ⟨HM2.out, HN2.out⟩
    · have HX8 : Hid (bits .xor .u8 (x.toNat : Int) 64 = ((x.toNat ^^^ 64 : Nat) : Int)) := hid (hxor 64 (by decide))
      clear hxor
      have wq := HWQ.out
      have mt := HMT.out
      have p1 := (HXQ.out W7 (Mod.refl [] W7)).1
      go_still_tail 10, (by kernel_rfl)
      clear wq mt p1
      change wpList _ _ _ _ _ W7.drew
      have hB := (HBG.out.ext (Mod.refl [] W7).drew)
      have hM : Mod [G] W7 W7.drew := (Mod.refl _ _).drew
      generalize W7.drew = U8 at *
      have y1 := (hB.2 q HQL.out).1
      have y2 := (hB.2 q HQL.out).2
      have hN := hB.set q (b8 (x.toNat ^^^ 64)) HQL.out
      rw [toNat_b8 (Nat.xor_lt_two_pow (n := 8) x.toNat_lt (by decide))] at hN
      have hF : flipL LX m = LX.set q (b8 (x.toNat ^^^ 64)) := HFL.out
      rw [← hF] at hN
      have HN2 := hid hN
      have HM2 := hid (hM.setCell (p := ⟨G, q, none⟩) (.inl (by simp)) (.int .u8 ((x.toNat ^^^ 64 : Nat) : Int)))
      clear hB hM hN hF
      go_wp2_with fail
      go_meet
      rw [HX8.out]
      exact ⟨HM2.out, HN2.out⟩
    · have HX8 : Hid (bits .xor .u8 (x.toNat : Int) 128 = ((x.toNat ^^^ 128 : Nat) : Int)) := hid (hxor 128 (by decide))
      clear hxor
      have wq := HWQ.out
      have mt := HMT.out
      have p1 := (HXQ.out W7 (Mod.refl [] W7)).1
      go_still_tail 10, (by kernel_rfl)
      clear wq mt p1
      change wpList _ _ _ _ _ W7.drew
      have hB := (HBG.out.ext (Mod.refl [] W7).drew)
      have hM : Mod [G] W7 W7.drew := (Mod.refl _ _).drew
      generalize W7.drew = U8 at *
      have y1 := (hB.2 q HQL.out).1
      have y2 := (hB.2 q HQL.out).2
      have hN := hB.set q (b8 (x.toNat ^^^ 128)) HQL.out
      rw [toNat_b8 (Nat.xor_lt_two_pow (n := 8) x.toNat_lt (by decide))] at hN
      have hF : flipL LX m = LX.set q (b8 (x.toNat ^^^ 128)) := HFL.out
      rw [← hF] at hN
      have HN2 := hid hN
      have HM2 := hid (hM.setCell (p := ⟨G, q, none⟩) (.inl (by simp)) (.int .u8 ((x.toNat ^^^ 128 : Nat) : Int)))
      clear hB hM hN hF
      go_wp2_with fail
      go_meet
      rw [HX8.out]
      exact ⟨HM2.out, HN2.out⟩
  have HMF := hid hcut.out.1
  have HBF := hid hcut.out.2
  have HE9 : Hid (Ext w wc) := hid ((HE7.out.of_ext.trans HMF.out).new (fun kk hkk => .inr (by have := HG.out; simp at hkk; omega)))
  clear hcut HB7 HE7 HMF HXQ HBG HFL HWQ HMT HRL HQL q0 q1 x0 x1 m0 m1 mq
  obtain ⟨LF, hLF⟩ : ∃ LF, flipL LX m = LF := ⟨_, rfl⟩
  have hlen : LF.length = LX.length := by rw [← hLF, flipL_length]
  have HNO := hid (fun (t : T) (h1 : t.ok) (h2 : t.bytes = LF) => bits_no HZ.out HCR.out (m := m) (by rw [HLX.out]; exact HM.out) h1 (by rw [HLX.out, hLF]; exact h2))
  rw [hLF] at HBF
  have HLF := hid hlen
  have hcv : (convert 58 9 (.slice (some ⟨G, 0, none⟩) LX.length cap)).run Try.prog wc = .ok (str LF) wc := by rw [← hlen]; exact HBF.out.conv cap
  clear hLF hlen HM HLX
  have HP := hid (fun W => parse_any LF (by unfold Hid; have := HN.out; have := HLF.out; omega) W)
  have hl9 : LF.length < 1000000 := by have := HN.out; have := HLF.out; omega
  have HL9 := hid hl9
  clear hl9
  go_upto_region 9 with fail
  by_cases hE : (parseR LF).2 = 0
  · have KP : Hid (∀ W, Calls Try.prog 21 #[str LF] W (fun e w' => ∃ t A c, e = .returned (.tuple #[itemV t A c, .int .i64 (-1), .int .i64 0]) ∧ Ext W w' ∧ (t.ok ∧ t.size ≤ 50000 ∧ ¬ BlkOK t) ∧ IsL w' (fun _ => True) t A)) := fun W => (HP.out W).mono fun e w' ⟨hx, h⟩ => by
      rcases h with ⟨h, _⟩ | ⟨_, t, A, c, h1, ⟨h2, h3⟩, h4, h5⟩
      · exact absurd hE h
      · exact ⟨t, A, c, h1, hx, ⟨h3, (HNO.out t h3 h4).2 (T.plain_of h2), (HNO.out t h3 h4).1⟩, h5⟩
    have KO : Hid (∀ W t A c, t.ok → t.size ≤ 50000 → ¬ BlkOK t → IsL W (fun _ => True) t A → Calls Try.prog 19 #[itemV t A c] W (fun e w' => ∃ r : Int, e = .returned (.tuple #[zeroB.v, .int .i64 r]) ∧ Ext W w' ∧ r ≠ 0)) := fun W t A c h1 h2 h3 hW => (bOf_any t h1 h2 A c W hW).mono fun e w' h => by
      rcases h with ⟨h, _⟩ | ⟨_, r, hr, h4, h5⟩
      · exact absurd h h3
      · exact ⟨r, h4, h5, hr⟩
    clear hE HP HNO
    obtain ⟨e9, he⟩ := Later.self wc
    have HE10 := hid (HE9.out)
    rw [he] at hcv ⊢
    clear he
    go_upto_region 10 with (first | (go_at_call 21; refine (KP.out _).mono ?_; rintro y w3 ⟨t, A2, c2, rfl, hb, h1, hl⟩; have HT1 := hid h1; have HI2 := hid hl; clear h1 hl; have HBX := hid hb; clear hb))
    generalize hZ : World.alloc w3 _ = Zy
    clear hcv
    have By : Hid (Blk Zy w3.heap.size 48 (itemC t A2 c2)) := hid (by rw [← hZ]; exact Blk.new _ _ _)
    have HZU : Hid (Ext wc Zy) := hid (by rw [← hZ]; exact (e9.h.trans HBX.out).alloc _)
    have HZw : Hid (Ext w3 Zy) := hid (by rw [← hZ]; exact (Mod.refl [] w3).alloc _)
    have HI2 := hid (HI2.out.ext HZw.out)
    have HE10 := hid (HE10.out.trans HZU.out)
    clear hZ HZU HZw HBX e9
    generalize w3.heap.size = Ny at *
    obtain ⟨ey, he⟩ := Later.self Zy
    rw [he]
    clear he
    go_wp2_with (first | (refine wpList_row (by rfl) 48 _ rfl _ rfl (By.out.later _) Try.underlying48 rfl (by kernel_rfl) ?_) | (go_at_call 19; refine (KO.out _ t A2 c2 HT1.out.1 HT1.out.2.1 HT1.out.2.2 (HI2.out.ext (Later.h _))).mono ?_; rintro y w4 ⟨r, rfl, hb, hr⟩; have HBX := hid hb; have r1 : (r == 0) = false := (by simpa using hr); have r2 : (r = 0) = False := (by simpa using hr); have r3 : (r != 0) = true := (by simpa using hr); clear hb hr))
    go_ret
    exact Ret.mk rfl ((HE10.out.trans (ey.h.trans HBX.out)).alloc _)
  · obtain ⟨er, her⟩ : ∃ er, (parseR LF).2 = er := ⟨_, rfl⟩
    obtain ⟨pl, hpl⟩ : ∃ pl, (parseR LF).1 = pl := ⟨_, rfl⟩
    have KP : Hid (∀ W, Calls Try.prog 21 #[str LF] W (fun e w' => e = .returned (.tuple #[itemV nulT none 0, .int .i64 (pl : Int), .int .i64 er]) ∧ Ext W w')) := fun W => (HP.out W).mono fun e w' ⟨hx, h⟩ => by
      rcases h with ⟨_, h⟩ | ⟨h, _⟩
      · rw [← her, ← hpl]; exact ⟨h, hx⟩
      · exact absurd h hE
    rw [her] at hE
    have tea : ((er) == (0)) = false := by rw [beq_eq_false_iff_ne]; exact hE
    have teb : ((er) = (0)) = False := eq_false (by exact hE)
    have tec : ((er) != (0)) = true := by rw [bne_iff_ne]; exact hE
    clear hE her hpl HP HNO
    go_wp2_with (go_at_call 21; refine (KP.out _).mono ?_; rintro y w3 ⟨rfl, hb⟩; have HBX := hid hb; clear hb)
    go_ret
    exact Ret.mk rfl ((HE9.out.trans HBX.out).alloc _)
theorem lawBits_any (b : BV) (kk : Nat) (hk : kk < 65536) (w : World) : Calls Try.prog 5 #[b.v, .int .u16 (kk : Int)] w (Ret (.bool true) w) := by
  by_cases hl : 500 < b.data.length
  · exact bits_long b kk hl w
  · by_cases hc : b.crc = 0
    · exact bits_none b kk hl hc w
    · by_cases hb : b.right = 0
      · obtain ⟨ty, num, fl, crc, data, rfl⟩ : ∃ (ty num fl crc : Nat) (data : List UInt8), b = ⟨(ty : Int), (num : Int), fl, (crc : Int), data⟩ := by
          have hz := BV.right_zero hb
          exact ⟨b.ty.toNat, b.num.toNat, b.fl, b.crc.toNat, b.data, by
            obtain ⟨ty, num, fl, crc, data⟩ := b
            simp only [BV.mk.injEq]
            dsimp only at hz
            simp only [true_and, and_true]
            refine ⟨by omega, by omega, by omega⟩⟩
        exact bits_ok ty num fl crc data kk hk hb (fun h => hc (by simp [h])) hl w
      · exact bits_bad b kk hl hc hb w
end Go.Proofs.Ytkeabdfgacicaaa
