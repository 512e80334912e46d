/-
  The walks of (*Reader).head, a case at a time.
-/
import Derived.Test.YtagjhkknefiieaaRd
namespace Go.Proofs.Ytagjhkknefiieaa
open Go.RowKit
set_option linter.unusedVariables false
theorem and_small : ∀ c : Fin 256, bits .and .u8 (c.val : Int) 31 = ((c.val % 32 : Nat) : Int) := by decide +kernel
theorem and31 (c : UInt8) : bits .and .u8 (c.toNat : Int) 31 = ((c.toNat % 32 : Nat) : Int) := and_small ⟨c.toNat, c.toNat_lt⟩
theorem first_div (c : UInt8) (l : List UInt8) {m : Nat} (h : 0 < (⟨(c :: l).toArray⟩ : ByteArray).size) (hm : Hid (c.toNat / 32 = m)) : Value.int .i64 (wrap64 (((⟨(c :: l).toArray⟩ : ByteArray)[0].toNat : Int) / 32)) = .int .i64 (m : Int) := by
  rw [← hm.out]
  show Value.int .i64 (wrap64 ((c.toNat : Int) / 32)) = _
  rw [IntWalk.wrap64_in _ (by have := c.toNat_lt; omega)]; rfl
theorem first_mod (c : UInt8) (l : List UInt8) {k : Nat} (h : 0 < (⟨(c :: l).toArray⟩ : ByteArray).size) (hk : Hid (c.toNat % 32 = k)) : Value.int .i64 (wrap64 (bits .and .u8 ((⟨(c :: l).toArray⟩ : ByteArray)[0].toNat : Int) 31)) = .int .i64 (k : Int) := by
  rw [← hk.out]
  show Value.int .i64 (wrap64 (bits .and .u8 (c.toNat : Int) 31)) = _
  rw [and31, IntWalk.wrap64_in _ (by omega)]
theorem extract_one (c : UInt8) (l : List UInt8) (S : Nat) : Value.string ((⟨(c :: l).toArray⟩ : ByteArray).extract 1 (1 + S)) = str (l.take S) := by
  rw [extract_str, List.drop_succ_cons, List.drop_zero, Nat.add_sub_cancel_left]
set_option maxRecDepth 20000 in
set_option maxHeartbeats 400000 in
theorem head_small (b : Nat) (r : RS) (hok : r.ok) (h0 : Hid (r.e = 0)) (c : UInt8) (l : List UInt8) (hd : Hid (r.s.drop r.at_ = c :: l)) (m k : Nat) (hmm : Hid (c.toNat / 32 = m)) (hkk : Hid (c.toNat % 32 = k)) (hk : Hid (k < 24)) (w : World) (h : RdAt w b r) : Calls Try.prog 91 #[.pointer (some ⟨b, 0, none⟩)] w
    (RetS [b] (.tuple #[.int .i64 (m : Int), .int .u64 (k : Int), .bool false]) (fun w' => RdAt w' b { r with at_ := r.at_ + 1 }) w) := by
  have c0 := h.s
  have c1 := h.at_
  have c3 : w.cell? ⟨b, 3, none⟩ = some (.int .i64 0) := by have := h.e; rw [h0.out] at this; exact this
  have f1 := h.froz 1
  have b1 := hok.1
  have hx := extract_rest r.s r.at_
  have hx2 := hd.out
  go_enter Try.func91, Try.ntmps91
  go_upto_region 3 with fail
  go_quiet (fail)
  go_upto_region 7 with fail
  go_cut [6, 7] (fun s6 s7 wx => s6 = .int .i64 (m : Int) ∧ s7 = .int .i64 (k : Int) ∧ ∃ n, wx = w.drewN n)
  case first =>
    have hlen : (0 : Int) < (l.length : Int) + 1 := by omega
    go_quiet (fail)
    go_wp2_with fail
    go_meet
    exact ⟨first_div c l _ hmm, first_mod c l _ hkk, _, World.drewN_drewN _ _ _⟩
  obtain ⟨rfl, rfl, nw, rfl⟩ := hcut
  clear hx hx2
  have hcn := Blk.drewN h nw
  have hk32 : Hid (k ≤ 31) := by have := hkk.out; unfold Hid; omega
  have hlr : Hid (r.at_ + (l.length + 1) = r.s.length) := by
    have h1 := congrArg List.length hd.out
    rw [List.length_drop, List.length_cons] at h1
    have h2 := hok.1
    unfold Hid; omega
  have hbig := hid hok.2.2
  have t1 : decide ((k : Int) < 24) = true := by have h1 := hk.out; have h2 := hk32.out; simp; omega
  have hw1 : IntKind.u64.wrap (k : Int) = k := IntWalk.u64_in _ (by have := hk32.out; omega)
  have hw2 : wrap64 ((r.at_ : Int) + 1) = ((r.at_ + 1 : Nat) : Int) := IntWalk.wrap64_in _ (by have := hlr.out; have := hbig.out; omega)
  go_wp2
  go_ret3
  exact RetS.mk rfl (((Mod.refl _ _).drewN _).setCell (.inl (by simp)) _) (Blk.set_ hcn 1 _)

set_option maxRecDepth 20000 in
set_option maxHeartbeats 400000 in
theorem head_open (b : Nat) (r : RS) (hok : r.ok) (h0 : Hid (r.e = 0)) (c : UInt8) (l : List UInt8) (hd : Hid (r.s.drop r.at_ = c :: l)) (m k : Nat) (hmm : Hid (c.toNat / 32 = m)) (hkk : Hid (c.toNat % 32 = k)) (hk : Hid (k = 31)) (ho : opensB (m : Int) = true) (w : World) (h : RdAt w b r) : Calls Try.prog 91 #[.pointer (some ⟨b, 0, none⟩)] w
    (RetS [b] (.tuple #[.int .i64 (m : Int), .int .u64 0, .bool true]) (fun w' => RdAt w' b { r with at_ := r.at_ + 1 }) w) := by
  have c0 := h.s
  have c1 := h.at_
  have c3 : w.cell? ⟨b, 3, none⟩ = some (.int .i64 0) := by have := h.e; rw [h0.out] at this; exact this
  have f1 := h.froz 1
  have b1 := hok.1
  have hx := extract_rest r.s r.at_
  have hx2 := hd.out
  go_enter Try.func91, Try.ntmps91
  go_upto_region 3 with fail
  go_quiet (fail)
  go_upto_region 7 with fail
  go_cut [6, 7] (fun s6 s7 wx => s6 = .int .i64 (m : Int) ∧ s7 = .int .i64 (k : Int) ∧ ∃ n, wx = w.drewN n)
  case first =>
    have hlen : (0 : Int) < (l.length : Int) + 1 := by omega
    go_quiet (fail)
    go_wp2_with fail
    go_meet
    exact ⟨first_div c l _ hmm, first_mod c l _ hkk, _, World.drewN_drewN _ _ _⟩
  obtain ⟨rfl, rfl, nw, rfl⟩ := hcut
  clear hx hx2
  have hcn := Blk.drewN h nw
  have hk32 : Hid (k ≤ 31) := by have := hkk.out; unfold Hid; omega
  have hlr : Hid (r.at_ + (l.length + 1) = r.s.length) := by
    have h1 := congrArg List.length hd.out
    rw [List.length_drop, List.length_cons] at h1
    have h2 := hok.1
    unfold Hid; omega
  have hbig := hid hok.2.2
  have t1 : decide ((k : Int) < 24) = false := by have h1 := hk.out; have h2 := hk32.out; simp; omega
  have t2 : ((k : Int) == 31) = true := by have h1 := hk.out; have h2 := hk32.out; simp; omega
  have hw2 : wrap64 ((r.at_ : Int) + 1) = ((r.at_ + 1 : Nat) : Int) := IntWalk.wrap64_in _ (by have := hlr.out; have := hbig.out; omega)
  go_wp2_with (go_at_call 89; refine (opens_any _ _).mono ?_; rintro x w2 ⟨rfl, rfl⟩)
  go_ret3
  exact RetS.mk rfl (((Mod.refl _ _).drewN _).setCell (.inl (by simp)) _) (Blk.set_ hcn 1 _)

set_option maxRecDepth 20000 in
set_option maxHeartbeats 400000 in
theorem head_shut (b : Nat) (r : RS) (hok : r.ok) (h0 : Hid (r.e = 0)) (c : UInt8) (l : List UInt8) (hd : Hid (r.s.drop r.at_ = c :: l)) (m k : Nat) (hmm : Hid (c.toNat / 32 = m)) (hkk : Hid (c.toNat % 32 = k)) (hk : Hid (k = 31)) (ho : opensB (m : Int) = false) (w : World) (h : RdAt w b r) : Calls Try.prog 91 #[.pointer (some ⟨b, 0, none⟩)] w
    (RetS [b] (.tuple #[.int .i64 0, .int .u64 0, .bool false]) (fun w' => RdAt w' b (r.fail 2)) w) := by
  have c0 := h.s
  have c1 := h.at_
  have c3 : w.cell? ⟨b, 3, none⟩ = some (.int .i64 0) := by have := h.e; rw [h0.out] at this; exact this
  have f1 := h.froz 1
  have b1 := hok.1
  have hx := extract_rest r.s r.at_
  have hx2 := hd.out
  go_enter Try.func91, Try.ntmps91
  go_upto_region 3 with fail
  go_quiet (fail)
  go_upto_region 7 with fail
  go_cut [6, 7] (fun s6 s7 wx => s6 = .int .i64 (m : Int) ∧ s7 = .int .i64 (k : Int) ∧ ∃ n, wx = w.drewN n)
  case first =>
    have hlen : (0 : Int) < (l.length : Int) + 1 := by omega
    go_quiet (fail)
    go_wp2_with fail
    go_meet
    exact ⟨first_div c l _ hmm, first_mod c l _ hkk, _, World.drewN_drewN _ _ _⟩
  obtain ⟨rfl, rfl, nw, rfl⟩ := hcut
  clear hx hx2
  have hcn := Blk.drewN h nw
  have hk32 : Hid (k ≤ 31) := by have := hkk.out; unfold Hid; omega
  have hlr : Hid (r.at_ + (l.length + 1) = r.s.length) := by
    have h1 := congrArg List.length hd.out
    rw [List.length_drop, List.length_cons] at h1
    have h2 := hok.1
    unfold Hid; omega
  have hbig := hid hok.2.2
  have t1 : decide ((k : Int) < 24) = false := by have h1 := hk.out; have h2 := hk32.out; simp; omega
  have t2 : ((k : Int) == 31) = true := by have h1 := hk.out; have h2 := hk32.out; simp; omega
  have t3 : decide (28 ≤ (k : Int)) = true := by have h1 := hk.out; have h2 := hk32.out; simp; omega
  go_wp2_with (first | (go_at_call 89; refine (opens_any _ _).mono ?_; rintro x w2 ⟨rfl, rfl⟩) | (go_at_call 94; refine (fail_any b r 2 _ (by exact hcn)).mono ?_; rintro x w1 ⟨rfl, hmf, hrf⟩))
  go_ret3
  exact RetS.mk rfl (((Mod.refl _ _).drewN _).trans hmf) hrf

set_option maxRecDepth 20000 in
set_option maxHeartbeats 400000 in
theorem head_big (b : Nat) (r : RS) (hok : r.ok) (h0 : Hid (r.e = 0)) (c : UInt8) (l : List UInt8) (hd : Hid (r.s.drop r.at_ = c :: l)) (m k : Nat) (hmm : Hid (c.toNat / 32 = m)) (hkk : Hid (c.toNat % 32 = k)) (hk : Hid (28 ≤ k ∧ k ≠ 31)) (w : World) (h : RdAt w b r) : Calls Try.prog 91 #[.pointer (some ⟨b, 0, none⟩)] w
    (RetS [b] (.tuple #[.int .i64 0, .int .u64 0, .bool false]) (fun w' => RdAt w' b (r.fail 2)) w) := by
  have c0 := h.s
  have c1 := h.at_
  have c3 : w.cell? ⟨b, 3, none⟩ = some (.int .i64 0) := by have := h.e; rw [h0.out] at this; exact this
  have f1 := h.froz 1
  have b1 := hok.1
  have hx := extract_rest r.s r.at_
  have hx2 := hd.out
  go_enter Try.func91, Try.ntmps91
  go_upto_region 3 with fail
  go_quiet (fail)
  go_upto_region 7 with fail
  go_cut [6, 7] (fun s6 s7 wx => s6 = .int .i64 (m : Int) ∧ s7 = .int .i64 (k : Int) ∧ ∃ n, wx = w.drewN n)
  case first =>
    have hlen : (0 : Int) < (l.length : Int) + 1 := by omega
    go_quiet (fail)
    go_wp2_with fail
    go_meet
    exact ⟨first_div c l _ hmm, first_mod c l _ hkk, _, World.drewN_drewN _ _ _⟩
  obtain ⟨rfl, rfl, nw, rfl⟩ := hcut
  clear hx hx2
  have hcn := Blk.drewN h nw
  have hk32 : Hid (k ≤ 31) := by have := hkk.out; unfold Hid; omega
  have hlr : Hid (r.at_ + (l.length + 1) = r.s.length) := by
    have h1 := congrArg List.length hd.out
    rw [List.length_drop, List.length_cons] at h1
    have h2 := hok.1
    unfold Hid; omega
  have hbig := hid hok.2.2
  have t1 : decide ((k : Int) < 24) = false := by have h1 := hk.out; have h2 := hk32.out; simp; omega
  have t2 : ((k : Int) == 31) = false := by have h1 := hk.out; have h2 := hk32.out; simp; omega
  have t3 : decide (28 ≤ (k : Int)) = true := by have h1 := hk.out; have h2 := hk32.out; simp; omega
  go_wp2_with (go_at_call 94; refine (fail_any b r 2 _ (by exact hcn)).mono ?_; rintro x w1 ⟨rfl, hmf, hrf⟩)
  go_ret3
  exact RetS.mk rfl (((Mod.refl _ _).drewN _).trans hmf) hrf

set_option maxRecDepth 20000 in
set_option maxHeartbeats 400000 in
theorem head_short (b : Nat) (r : RS) (hok : r.ok) (h0 : Hid (r.e = 0)) (c : UInt8) (l : List UInt8) (hd : Hid (r.s.drop r.at_ = c :: l)) (m k : Nat) (hmm : Hid (c.toNat / 32 = m)) (hkk : Hid (c.toNat % 32 = k)) (S : Nat) (hS : Hid (2 ^ (k - 24) = S)) (hk : Hid (24 ≤ k ∧ k < 28)) (hs : Hid (l.length < S)) (w : World) (h : RdAt w b r) : Calls Try.prog 91 #[.pointer (some ⟨b, 0, none⟩)] w
    (RetS [b] (.tuple #[.int .i64 0, .int .u64 0, .bool false]) (fun w' => RdAt w' b (r.fail 2)) w) := by
  have c0 := h.s
  have c1 := h.at_
  have c3 : w.cell? ⟨b, 3, none⟩ = some (.int .i64 0) := by have := h.e; rw [h0.out] at this; exact this
  have f1 := h.froz 1
  have b1 := hok.1
  have hx := extract_rest r.s r.at_
  have hx2 := hd.out
  go_enter Try.func91, Try.ntmps91
  go_upto_region 3 with fail
  go_quiet (fail)
  go_upto_region 7 with fail
  go_cut [6, 7] (fun s6 s7 wx => s6 = .int .i64 (m : Int) ∧ s7 = .int .i64 (k : Int) ∧ ∃ n, wx = w.drewN n)
  case first =>
    have hlen : (0 : Int) < (l.length : Int) + 1 := by omega
    go_quiet (fail)
    go_wp2_with fail
    go_meet
    exact ⟨first_div c l _ hmm, first_mod c l _ hkk, _, World.drewN_drewN _ _ _⟩
  obtain ⟨rfl, rfl, nw, rfl⟩ := hcut
  clear hx hx2
  have hcn := Blk.drewN h nw
  have hk32 : Hid (k ≤ 31) := by have := hkk.out; unfold Hid; omega
  have hlr : Hid (r.at_ + (l.length + 1) = r.s.length) := by
    have h1 := congrArg List.length hd.out
    rw [List.length_drop, List.length_cons] at h1
    have h2 := hok.1
    unfold Hid; omega
  have hbig := hid hok.2.2
  have t1 : decide ((k : Int) < 24) = false := by have h1 := hk.out; have h2 := hk32.out; simp; omega
  have t2 : ((k : Int) == 31) = false := by have h1 := hk.out; have h2 := hk32.out; simp; omega
  have t3 : decide (28 ≤ (k : Int)) = false := by have h1 := hk.out; have h2 := hk32.out; simp; omega
  go_upto_region 17 with fail
  go_cut [8] (fun s wx => s = .int .i64 (S : Int) ∧ wx = w.drewN nw)
  case first =>
    have hk4 : k = 24 ∨ k = 25 ∨ k = 26 ∨ k = 27 := by have := hk.out; omega
    rcases hk4 with rfl | rfl | rfl | rfl
    all_goals go_wp2
    all_goals go_meet
    all_goals exact ⟨by rw [← hS.out]; rfl, rfl⟩
  obtain ⟨rfl, rfl⟩ := hcut
  have hw3 : wrap64 (1 + (S : Int)) = 1 + (S : Int) := IntWalk.wrap64_in _ (by have := hS.out; have h2 : S ≤ 8 := by { have h1 := hk.out; rw [← hS.out]; exact Nat.le_trans (Nat.pow_le_pow_right (by omega) (show k - 24 ≤ 3 by omega)) (by decide) }; omega)
  have hS8 : Hid (S ≤ 8) := by
    have h1 := hk.out
    unfold Hid
    rw [← hS.out]
    exact Nat.le_trans (Nat.pow_le_pow_right (by omega) (show k - 24 ≤ 3 by omega)) (by decide)
  have t4 : decide ((l.length : Int) + 1 < 1 + (S : Int)) = true := by have := hs.out; simp; omega
  go_wp2_with (go_at_call 94; refine (fail_any b r 2 _ (by exact hcn)).mono ?_; rintro x w1 ⟨rfl, hmf, hrf⟩)
  go_ret3
  exact RetS.mk rfl (((Mod.refl _ _).drewN _).trans hmf) hrf

set_option maxRecDepth 20000 in
set_option maxHeartbeats 400000 in
theorem head_long (b : Nat) (r : RS) (hok : r.ok) (h0 : Hid (r.e = 0)) (c : UInt8) (l : List UInt8) (hd : Hid (r.s.drop r.at_ = c :: l)) (m k : Nat) (hmm : Hid (c.toNat / 32 = m)) (hkk : Hid (c.toNat % 32 = k)) (S : Nat) (hS : Hid (2 ^ (k - 24) = S)) (hk : Hid (24 ≤ k ∧ k < 28)) (n : Nat) (hn : Hid (fromBE (l.take S) = n)) (hs : Hid (S ≤ l.length)) (hc : Hid ((headL m n).length ≠ 1 + S)) (w : World) (h : RdAt w b r) : Calls Try.prog 91 #[.pointer (some ⟨b, 0, none⟩)] w
    (RetS [b] (.tuple #[.int .i64 0, .int .u64 0, .bool false]) (fun w' => RdAt w' b (r.fail 2)) w) := by
  have c0 := h.s
  have c1 := h.at_
  have c3 : w.cell? ⟨b, 3, none⟩ = some (.int .i64 0) := by have := h.e; rw [h0.out] at this; exact this
  have f1 := h.froz 1
  have b1 := hok.1
  have hx := extract_rest r.s r.at_
  have hx2 := hd.out
  go_enter Try.func91, Try.ntmps91
  go_upto_region 3 with fail
  go_quiet (fail)
  go_upto_region 7 with fail
  go_cut [6, 7] (fun s6 s7 wx => s6 = .int .i64 (m : Int) ∧ s7 = .int .i64 (k : Int) ∧ ∃ n, wx = w.drewN n)
  case first =>
    have hlen : (0 : Int) < (l.length : Int) + 1 := by omega
    go_quiet (fail)
    go_wp2_with fail
    go_meet
    exact ⟨first_div c l _ hmm, first_mod c l _ hkk, _, World.drewN_drewN _ _ _⟩
  obtain ⟨rfl, rfl, nw, rfl⟩ := hcut
  clear hx hx2
  have hcn := Blk.drewN h nw
  have hk32 : Hid (k ≤ 31) := by have := hkk.out; unfold Hid; omega
  have hlr : Hid (r.at_ + (l.length + 1) = r.s.length) := by
    have h1 := congrArg List.length hd.out
    rw [List.length_drop, List.length_cons] at h1
    have h2 := hok.1
    unfold Hid; omega
  have hbig := hid hok.2.2
  have t1 : decide ((k : Int) < 24) = false := by have h1 := hk.out; have h2 := hk32.out; simp; omega
  have t2 : ((k : Int) == 31) = false := by have h1 := hk.out; have h2 := hk32.out; simp; omega
  have t3 : decide (28 ≤ (k : Int)) = false := by have h1 := hk.out; have h2 := hk32.out; simp; omega
  go_upto_region 17 with fail
  go_cut [8] (fun s wx => s = .int .i64 (S : Int) ∧ wx = w.drewN nw)
  case first =>
    have hk4 : k = 24 ∨ k = 25 ∨ k = 26 ∨ k = 27 := by have := hk.out; omega
    rcases hk4 with rfl | rfl | rfl | rfl
    all_goals go_wp2
    all_goals go_meet
    all_goals exact ⟨by rw [← hS.out]; rfl, rfl⟩
  obtain ⟨rfl, rfl⟩ := hcut
  have hw3 : wrap64 (1 + (S : Int)) = 1 + (S : Int) := IntWalk.wrap64_in _ (by have := hS.out; have h2 : S ≤ 8 := by { have h1 := hk.out; rw [← hS.out]; exact Nat.le_trans (Nat.pow_le_pow_right (by omega) (show k - 24 ≤ 3 by omega)) (by decide) }; omega)
  have hS8 : Hid (S ≤ 8) := by
    have h1 := hk.out
    unfold Hid
    rw [← hS.out]
    exact Nat.le_trans (Nat.pow_le_pow_right (by omega) (show k - 24 ≤ 3 by omega)) (by decide)
  have t4 : decide ((l.length : Int) + 1 < 1 + (S : Int)) = false := by have := hs.out; simp; omega
  have t5 : (S : Int) ≤ (l.length : Int) := by have := hs.out; omega
  have t6 : (((headL m n).length : Int) == 1 + (S : Int)) = false := by have := hc.out; simp; omega
  have t7 : (((headL m n).length : Int) != 1 + (S : Int)) = true := by have := hc.out; simp; omega
  have hn64 : Hid (n < 18446744073709551616 ∧ m ≤ 7) := by
    have h1 := fromBE_lt (l.take S)
    have h2 : (l.take S).length ≤ 8 := by have := hS8.out; rw [List.length_take]; omega
    have h3 : 2 ^ (8 * (l.take S).length) ≤ 2 ^ (8 * 8) := Nat.pow_le_pow_right (by omega) (by omega)
    rw [hn.out] at h1
    have := c.toNat_lt
    have := hmm.out
    exact ⟨Nat.lt_of_lt_of_le h1 h3, by omega⟩
  have hl8 : Hid ((l.take S).length ≤ 8) := by have := hS8.out; unfold Hid; rw [List.length_take]; omega
  go_wp2_with (first | (go_at_call 97; rw [extract_one]; refine (join_n (l.take S) hl8.out _).mono ?_; rintro x w2 ⟨rfl, hb2⟩; rw [hn.out]) | (go_at_call 72; refine (head_in m n (by omega) (by have := hn64.out; omega) (by omega) (by have := hn64.out; omega) _).mono ?_; rintro x w3 ⟨rfl, hb3⟩; simp only [Int.toNat_natCast]; have hr3 : RdAt w3 b r := (Blk.ext hcn hb2).ext hb3; have c1' := hr3.at_; have f1' := hr3.froz 1) | (go_at_call 94; refine (fail_any b r 2 _ hr3).mono ?_; rintro x w1 ⟨rfl, hmf, hrf⟩))
  go_ret3
  exact RetS.mk rfl ((((((Mod.refl _ _).drewN _).trans hb2.of_ext).trans hb3.of_ext)).trans hmf) hrf

set_option maxRecDepth 20000 in
set_option maxHeartbeats 400000 in
theorem head_good (b : Nat) (r : RS) (hok : r.ok) (h0 : Hid (r.e = 0)) (c : UInt8) (l : List UInt8) (hd : Hid (r.s.drop r.at_ = c :: l)) (m k : Nat) (hmm : Hid (c.toNat / 32 = m)) (hkk : Hid (c.toNat % 32 = k)) (S : Nat) (hS : Hid (2 ^ (k - 24) = S)) (hk : Hid (24 ≤ k ∧ k < 28)) (n : Nat) (hn : Hid (fromBE (l.take S) = n)) (hs : Hid (S ≤ l.length)) (hc : Hid ((headL m n).length = 1 + S)) (w : World) (h : RdAt w b r) : Calls Try.prog 91 #[.pointer (some ⟨b, 0, none⟩)] w
    (RetS [b] (.tuple #[.int .i64 (m : Int), .int .u64 (n : Int), .bool false]) (fun w' => RdAt w' b { r with at_ := r.at_ + (1 + S) }) w) := by
  have c0 := h.s
  have c1 := h.at_
  have c3 : w.cell? ⟨b, 3, none⟩ = some (.int .i64 0) := by have := h.e; rw [h0.out] at this; exact this
  have f1 := h.froz 1
  have b1 := hok.1
  have hx := extract_rest r.s r.at_
  have hx2 := hd.out
  go_enter Try.func91, Try.ntmps91
  go_upto_region 3 with fail
  go_quiet (fail)
  go_upto_region 7 with fail
  go_cut [6, 7] (fun s6 s7 wx => s6 = .int .i64 (m : Int) ∧ s7 = .int .i64 (k : Int) ∧ ∃ n, wx = w.drewN n)
  case first =>
    have hlen : (0 : Int) < (l.length : Int) + 1 := by omega
    go_quiet (fail)
    go_wp2_with fail
    go_meet
    exact ⟨first_div c l _ hmm, first_mod c l _ hkk, _, World.drewN_drewN _ _ _⟩
  obtain ⟨rfl, rfl, nw, rfl⟩ := hcut
  clear hx hx2
  have hcn := Blk.drewN h nw
  have hk32 : Hid (k ≤ 31) := by have := hkk.out; unfold Hid; omega
  have hlr : Hid (r.at_ + (l.length + 1) = r.s.length) := by
    have h1 := congrArg List.length hd.out
    rw [List.length_drop, List.length_cons] at h1
    have h2 := hok.1
    unfold Hid; omega
  have hbig := hid hok.2.2
  have t1 : decide ((k : Int) < 24) = false := by have h1 := hk.out; have h2 := hk32.out; simp; omega
  have t2 : ((k : Int) == 31) = false := by have h1 := hk.out; have h2 := hk32.out; simp; omega
  have t3 : decide (28 ≤ (k : Int)) = false := by have h1 := hk.out; have h2 := hk32.out; simp; omega
  go_upto_region 17 with fail
  go_cut [8] (fun s wx => s = .int .i64 (S : Int) ∧ wx = w.drewN nw)
  case first =>
    have hk4 : k = 24 ∨ k = 25 ∨ k = 26 ∨ k = 27 := by have := hk.out; omega
    rcases hk4 with rfl | rfl | rfl | rfl
    all_goals go_wp2
    all_goals go_meet
    all_goals exact ⟨by rw [← hS.out]; rfl, rfl⟩
  obtain ⟨rfl, rfl⟩ := hcut
  have hw3 : wrap64 (1 + (S : Int)) = 1 + (S : Int) := IntWalk.wrap64_in _ (by have := hS.out; have h2 : S ≤ 8 := by { have h1 := hk.out; rw [← hS.out]; exact Nat.le_trans (Nat.pow_le_pow_right (by omega) (show k - 24 ≤ 3 by omega)) (by decide) }; omega)
  have hS8 : Hid (S ≤ 8) := by
    have h1 := hk.out
    unfold Hid
    rw [← hS.out]
    exact Nat.le_trans (Nat.pow_le_pow_right (by omega) (show k - 24 ≤ 3 by omega)) (by decide)
  have t4 : decide ((l.length : Int) + 1 < 1 + (S : Int)) = false := by have := hs.out; simp; omega
  have t5 : (S : Int) ≤ (l.length : Int) := by have := hs.out; omega
  have t6 : (((headL m n).length : Int) == 1 + (S : Int)) = true := by have := hc.out; simp; omega
  have t7 : (((headL m n).length : Int) != 1 + (S : Int)) = false := by have := hc.out; simp; omega
  have hw4 : wrap64 ((r.at_ : Int) + (1 + (S : Int))) = ((r.at_ + (1 + S) : Nat) : Int) := IntWalk.wrap64_in _ (by have := hlr.out; have := hbig.out; have := hS8.out; omega)
  have hn64 : Hid (n < 18446744073709551616 ∧ m ≤ 7) := by
    have h1 := fromBE_lt (l.take S)
    have h2 : (l.take S).length ≤ 8 := by have := hS8.out; rw [List.length_take]; omega
    have h3 : 2 ^ (8 * (l.take S).length) ≤ 2 ^ (8 * 8) := Nat.pow_le_pow_right (by omega) (by omega)
    rw [hn.out] at h1
    have := c.toNat_lt
    have := hmm.out
    exact ⟨Nat.lt_of_lt_of_le h1 h3, by omega⟩
  have hl8 : Hid ((l.take S).length ≤ 8) := by have := hS8.out; unfold Hid; rw [List.length_take]; omega
  go_wp2_with (first | (go_at_call 97; rw [extract_one]; refine (join_n (l.take S) hl8.out _).mono ?_; rintro x w2 ⟨rfl, hb2⟩; rw [hn.out]) | (go_at_call 72; refine (head_in m n (by omega) (by have := hn64.out; omega) (by omega) (by have := hn64.out; omega) _).mono ?_; rintro x w3 ⟨rfl, hb3⟩; simp only [Int.toNat_natCast]; have hr3 : RdAt w3 b r := (Blk.ext hcn hb2).ext hb3; have c1' := hr3.at_; have f1' := hr3.froz 1) | (go_at_call 94; refine (fail_any b r 2 _ hr3).mono ?_; rintro x w1 ⟨rfl, hmf, hrf⟩))
  go_ret3
  exact RetS.mk rfl (((((Mod.refl _ _).drewN _).trans hb2.of_ext).trans hb3.of_ext).setCell (.inl (by simp)) _) (Blk.set_ hr3 1 _)

end Go.Proofs.Ytagjhkknefiieaa
