/-
  The reference's Do, whatever it is asked; the walk of the law's own call of a reader.
-/
import Derived.Test.YtmekhofncflhaaaDo4
import Derived.Test.YtmekhofncflhaaaNewRd
namespace Go.Proofs.Ytmekhofncflhaaa
open Go.RowKit
set_option linter.unusedVariables false

theorem do_of {r r' : RS} {t : RS.Told} {kd k : Nat} {N : Int} {w : World} (h : r.rdo k N = (r', t)) (hc : Calls Try.prog 30 #[rrV r, opV kd N] w (Ret (.tuple #[rrV r', tV t]) w)) :
    Calls Try.prog 30 #[rrV r, opV kd N] w (Ret (.tuple #[rrV (r.rdo k N).1, tV (r.rdo k N).2]) w) := by rw [h]; exact hc
theorem do_any (r : RS) (hok : r.ok) (kd : Nat) (hkd : kd < 256) (N : Int) (hN : N < 9223372036854775808) (w : World) :
    Calls Try.prog 30 #[rrV r, opV kd N] w (Ret (.tuple #[rrV (r.rdo (kd % 6) N).1, tV (r.rdo (kd % 6) N).2]) w) := by
  obtain ⟨k, hk⟩ : ∃ k, kd % 6 = k := ⟨_, rfl⟩
  have hk6 : k < 6 := by omega
  rw [hk]
  by_cases he : r.e = 0
  case neg => exact do_of (by unfold RS.rdo; rw [if_neg he]) (do_off r kd k hkd hk N he w)
  by_cases h5 : k = 5
  · exact do_of (by unfold RS.rdo; rw [if_pos he, if_pos h5]) (do_five r kd k hkd hk N he h5 w)
  cases hrd : readH (r.s.drop r.at_) with
  | none => exact do_of (by unfold RS.rdo; rw [if_pos he, if_neg h5, hrd]) (do_none r kd k hkd hk N hok he hrd (by unfold Hid; omega) w)
  | some x =>
    obtain ⟨sz, m, n, o⟩ := x
    by_cases h0 : k = 0
    · exact do_of (by unfold RS.rdo; rw [if_pos he, if_neg h5, hrd]; dsimp only; rw [if_pos h0]) (do_zero r kd k hkd hk N hok he sz m n o hrd h0 w)
    by_cases h1 : k = 1
    · by_cases hm : m = 0
      · exact do_of (by unfold RS.rdo; rw [if_pos he, if_neg h5, hrd]; dsimp only; rw [if_neg h0, if_pos h1, if_pos hm]) (do_one_g r kd k hkd hk N hok he sz m n o hrd h1 hm w)
      · exact do_of (by unfold RS.rdo; rw [if_pos he, if_neg h5, hrd]; dsimp only; rw [if_neg h0, if_pos h1, if_neg hm]) (do_one_m r kd k hkd hk N hok he sz m n o hrd h1 hm w)
    by_cases h4 : k = 4
    · by_cases hm : m = 4
      · cases o
        · by_cases hn : 1000 < n
          · exact do_of (by unfold RS.rdo; rw [if_pos he, if_neg h5, hrd]; dsimp only; rw [if_neg h0, if_neg h1, if_pos h4, if_pos hm, if_neg (by simp), if_pos hn]) (do_four_l r kd k hkd hk N hok he sz m n _ hrd h4 hm rfl hn w)
          · exact do_of (by unfold RS.rdo; rw [if_pos he, if_neg h5, hrd]; dsimp only; rw [if_neg h0, if_neg h1, if_pos h4, if_pos hm, if_neg (by simp), if_neg hn]) (do_four_g r kd k hkd hk N hok he sz m n _ hrd h4 hm rfl hn w)
        · exact do_of (by unfold RS.rdo; rw [if_pos he, if_neg h5, hrd]; dsimp only; rw [if_neg h0, if_neg h1, if_pos h4, if_pos hm, if_pos rfl]) (do_four_o r kd k hkd hk N hok he sz m n _ hrd h4 hm rfl w)
      · exact do_of (by unfold RS.rdo; rw [if_pos he, if_neg h5, hrd]; dsimp only; rw [if_neg h0, if_neg h1, if_pos h4, if_neg hm]) (do_four_m r kd k hkd hk N hok he sz m n o hrd h4 hm w)
    have hkk : k = 2 ∨ k = 3 := by omega
    by_cases hm : m = k
    · cases o
      · by_cases hn : r.s.length - (r.at_ + sz) < n
        · exact do_of (by unfold RS.rdo; rw [if_pos he, if_neg h5, hrd]; dsimp only; rw [if_neg h0, if_neg h1, if_neg h4, if_pos (.inr (.inr hn))]) (do_ss r kd k hkd hk N hok he sz m n _ hrd hkk hm rfl hn w)
        · have hno : ¬ (m ≠ k ∨ false = true ∨ r.s.length - (r.at_ + sz) < n) := by simp [hm, hn]
          by_cases l1 : N < 0
          · exact do_of (by unfold RS.rdo; rw [if_pos he, if_neg h5, hrd]; dsimp only; rw [if_neg h0, if_neg h1, if_neg h4, if_neg hno, if_pos (.inl l1)]) (do_sl1 r kd k hkd hk N hok he sz m n _ hrd hkk hm rfl hn l1 w)
          · by_cases l2 : N < (n : Int)
            · exact do_of (by unfold RS.rdo; rw [if_pos he, if_neg h5, hrd]; dsimp only; rw [if_neg h0, if_neg h1, if_neg h4, if_neg hno, if_pos (.inr l2)]) (do_sl2 r kd k hkd hk N hok he sz m n _ hrd hkk hm rfl hn hN ⟨by omega, l2⟩ w)
            · exact do_of (by unfold RS.rdo; rw [if_pos he, if_neg h5, hrd]; dsimp only; rw [if_neg h0, if_neg h1, if_neg h4, if_neg hno, if_neg (by rintro (x | x); exact l1 x; exact l2 x)]) (do_sg r kd k hkd hk N hok he sz m n _ hrd hkk hm rfl hn hN ⟨by omega, by omega⟩ w)
      · exact do_of (by unfold RS.rdo; rw [if_pos he, if_neg h5, hrd]; dsimp only; rw [if_neg h0, if_neg h1, if_neg h4, if_pos (.inr (.inl rfl))]) (do_so r kd k hkd hk N hok he sz m n _ hrd hkk hm rfl w)
    · exact do_of (by unfold RS.rdo; rw [if_pos he, if_neg h5, hrd]; dsimp only; rw [if_neg h0, if_neg h1, if_neg h4, if_pos (.inl hm)]) (do_sm r kd k hkd hk N hok he sz m n o hrd hkk hm w)

set_option maxRecDepth 20000 in
set_option maxHeartbeats 400000 in
theorem Fail_bad (b : Nat) (r : RS) (e : Int) (h0 : Hid (r.e ≠ 0)) (w : World) (h : RdAt w b r) : Calls Try.prog 57 #[.pointer (some ⟨b, 0, none⟩), .int .i64 e] w fun x w' => x = .returned (.tuple #[]) ∧ w = w' := by
  have c3 := h.e
  have t := beq0_false h0.out
  go_enter Try.func57, Try.ntmps57
  go_wp2
  go_end0
  exact ⟨rfl, rfl⟩
set_option maxRecDepth 20000 in
set_option maxHeartbeats 400000 in
theorem Fail_good (b : Nat) (r : RS) (e : Int) (he : Hid (e ≠ 0)) (h0 : Hid (r.e = 0)) (w : World) (h : RdAt w b r) : Calls Try.prog 57 #[.pointer (some ⟨b, 0, none⟩), .int .i64 e] w
    fun x w' => x = .returned (.tuple #[]) ∧ w' = (w.setCell ⟨b, 2, none⟩ (.int .i64 r.at_)).setCell ⟨b, 3, none⟩ (.int .i64 e) := by
  have c1 := h.at_
  have c2 := h.bad
  have c3 : w.cell? ⟨b, 3, none⟩ = some (.int .i64 0) := by have := h.e; rw [h0.out] at this; exact this
  have f2 := h.froz 2
  have f3 := h.froz 3
  have t : (e != 0) = true := by simp [he.out]
  go_enter Try.func57, Try.ntmps57
  go_wp2
  go_end0
  exact ⟨rfl, rfl⟩
theorem Fail_any (b : Nat) (r : RS) (e : Int) (he : e ≠ 0) (w : World) (h : RdAt w b r) : Calls Try.prog 57 #[.pointer (some ⟨b, 0, none⟩), .int .i64 e] w (RetS [b] (.tuple #[]) (fun w' => RdAt w' b (r.Fail e)) w) := by
  by_cases h0 : r.e = 0
  · refine (Fail_good b r e he h0 w h).mono ?_
    rintro x w' ⟨rfl, rfl⟩
    refine RetS.mk rfl (((Mod.refl _ _).setCell (.inl (by simp)) _).setCell (.inl (by simp)) _) ?_
    unfold RS.Fail
    rw [if_pos h0]
    exact (Blk.set_ h 2 _).set_ 3 _
  · refine (Fail_bad b r e h0 w h).mono ?_
    rintro x w' ⟨rfl, rfl⟩
    refine RetS.mk rfl (Mod.refl _ _) ?_
    unfold RS.Fail
    rw [if_neg h0]
    exact h

set_option maxRecDepth 20000 in
set_option maxHeartbeats 800000 in
theorem call_0 (b : Nat) (r : RS) (hok : r.ok) (kd k : Nat) (hkd : kd < 256) (hk : Hid (kd % 6 = k)) (hkk : Hid (k = 0)) (N : Int) (hN : Hid (N < 9223372036854775808)) (w : World) (h : RdAt w b r) :
    Calls Try.prog 31 #[.pointer (some ⟨b, 0, none⟩), opV kd N] w (RetS [b] (tV (r.call 0 N).2) (fun w' => RdAt w' b (r.call 0 N).1) w) := by
  have hbl := Blk.lt h
  show Calls Try.prog 31 #[.pointer (some ⟨b, 0, none⟩), .agg #[.int .u8 (kd : Int), .int .i64 N]] w _
  go_enter Try.func31, Try.ntmps31
  go_upto_region 1 with fail
  go_cut [10] (fun s wx => s = .int .u8 (k : Int) ∧ Ext w wx ∧ RdAt wx b r ∧ Blk wx w.heap.size 51 #[.int .u8 (kd : Int), .int .i64 N] ∧ Blk wx (w.heap.size + 1) 47 #[.int .i64 0, .int .u64 0, .bool false, str [], .int .i64 0])
  case first =>
    go_wp2_with fail
    go_meet
    exact ⟨kind_mod hkd hk, ((Mod.refl _ _).alloc _).alloc _, (Blk.alloc h _).alloc _, (blk_new' rfl).alloc _, blk_new' (by simp)⟩
  obtain ⟨rfl, hE, hr, BO, B0⟩ := hcut
  obtain ⟨o0, o1⟩ := blk2 BO
  have tk0 : ((k : Int) == 0) = true := by have := hkk.out; simp; omega
  go_wp2_with (go_at_call 46; refine (Head_any_r b r hok _ hr).mono ?_; rintro x w1 ⟨rfl, hm1, hr1⟩; have B1 := B0.mod hm1 (by simp; omega); obtain ⟨y0, y1, y2, y3, y4⟩ := blk5 B1; have z1 := B1.frozen)
  refine bodyPost_ret (v := tV (r.call 0 N).2) (by simp [results, Try.results31, go_sem, tV, toldV, RS.call, y0, y1, y2, y3, y4]) rfl (RetS.mk rfl ?_ ?_)
  · repeat (refine Mod.setCell ?_ (.inr (by dsimp only; omega)) _)
    exact hE.of_ext.trans hm1
  · have hne : b ≠ w.heap.size + 1 := by omega
    repeat (refine Blk.far ?_ hne _)
    exact hr1

set_option maxRecDepth 20000 in
set_option maxHeartbeats 800000 in
theorem call_1 (b : Nat) (r : RS) (hok : r.ok) (kd k : Nat) (hkd : kd < 256) (hk : Hid (kd % 6 = k)) (hkk : Hid (k = 1)) (N : Int) (hN : Hid (N < 9223372036854775808)) (w : World) (h : RdAt w b r) :
    Calls Try.prog 31 #[.pointer (some ⟨b, 0, none⟩), opV kd N] w (RetS [b] (tV (r.call 1 N).2) (fun w' => RdAt w' b (r.call 1 N).1) w) := by
  have hbl := Blk.lt h
  show Calls Try.prog 31 #[.pointer (some ⟨b, 0, none⟩), .agg #[.int .u8 (kd : Int), .int .i64 N]] w _
  go_enter Try.func31, Try.ntmps31
  go_upto_region 1 with fail
  go_cut [10] (fun s wx => s = .int .u8 (k : Int) ∧ Ext w wx ∧ RdAt wx b r ∧ Blk wx w.heap.size 51 #[.int .u8 (kd : Int), .int .i64 N] ∧ Blk wx (w.heap.size + 1) 47 #[.int .i64 0, .int .u64 0, .bool false, str [], .int .i64 0])
  case first =>
    go_wp2_with fail
    go_meet
    exact ⟨kind_mod hkd hk, ((Mod.refl _ _).alloc _).alloc _, (Blk.alloc h _).alloc _, (blk_new' rfl).alloc _, blk_new' (by simp)⟩
  obtain ⟨rfl, hE, hr, BO, B0⟩ := hcut
  obtain ⟨o0, o1⟩ := blk2 BO
  have tk0 : ((k : Int) == 0) = false := by have := hkk.out; simp; omega
  have tk1 : ((k : Int) == 1) = true := by have := hkk.out; simp; omega
  go_wp2_with (go_at_call 17; refine (Uint_any b r hok _ hr).mono ?_; rintro x w1 ⟨rfl, hm1, hr1⟩; have B1 := B0.mod hm1 (by simp; omega); obtain ⟨y0, y1, y2, y3, y4⟩ := blk5 B1; have z1 := B1.frozen)
  refine bodyPost_ret (v := tV (r.call 1 N).2) (by simp [results, Try.results31, go_sem, tV, toldV, RS.call, y0, y1, y2, y3, y4]) rfl (RetS.mk rfl ?_ ?_)
  · repeat (refine Mod.setCell ?_ (.inr (by dsimp only; omega)) _)
    exact hE.of_ext.trans hm1
  · have hne : b ≠ w.heap.size + 1 := by omega
    repeat (refine Blk.far ?_ hne _)
    exact hr1

set_option maxRecDepth 20000 in
set_option maxHeartbeats 800000 in
theorem call_2 (b : Nat) (r : RS) (hok : r.ok) (kd k : Nat) (hkd : kd < 256) (hk : Hid (kd % 6 = k)) (hkk : Hid (k = 2)) (N : Int) (hN : Hid (N < 9223372036854775808)) (w : World) (h : RdAt w b r) :
    Calls Try.prog 31 #[.pointer (some ⟨b, 0, none⟩), opV kd N] w (RetS [b] (tV (r.call 2 N).2) (fun w' => RdAt w' b (r.call 2 N).1) w) := by
  have hbl := Blk.lt h
  show Calls Try.prog 31 #[.pointer (some ⟨b, 0, none⟩), .agg #[.int .u8 (kd : Int), .int .i64 N]] w _
  go_enter Try.func31, Try.ntmps31
  go_upto_region 1 with fail
  go_cut [10] (fun s wx => s = .int .u8 (k : Int) ∧ Ext w wx ∧ RdAt wx b r ∧ Blk wx w.heap.size 51 #[.int .u8 (kd : Int), .int .i64 N] ∧ Blk wx (w.heap.size + 1) 47 #[.int .i64 0, .int .u64 0, .bool false, str [], .int .i64 0])
  case first =>
    go_wp2_with fail
    go_meet
    exact ⟨kind_mod hkd hk, ((Mod.refl _ _).alloc _).alloc _, (Blk.alloc h _).alloc _, (blk_new' rfl).alloc _, blk_new' (by simp)⟩
  obtain ⟨rfl, hE, hr, BO, B0⟩ := hcut
  obtain ⟨o0, o1⟩ := blk2 BO
  have tk0 : ((k : Int) == 0) = false := by have := hkk.out; simp; omega
  have tk1 : ((k : Int) == 1) = false := by have := hkk.out; simp; omega
  have tk2 : ((k : Int) == 2) = true := by have := hkk.out; simp; omega
  go_wp2_with (go_at_call 28; refine (RBytes_any b r hok N hN _ hr).mono ?_; rintro x w1 ⟨rfl, hm1, hr1⟩; have B1 := B0.mod hm1 (by simp; omega); obtain ⟨y0, y1, y2, y3, y4⟩ := blk5 B1; have z1 := B1.frozen)
  refine bodyPost_ret (v := tV (r.call 2 N).2) (by simp [results, Try.results31, go_sem, tV, toldV, RS.call, y0, y1, y2, y3, y4]) rfl (RetS.mk rfl ?_ ?_)
  · repeat (refine Mod.setCell ?_ (.inr (by dsimp only; omega)) _)
    exact hE.of_ext.trans hm1
  · have hne : b ≠ w.heap.size + 1 := by omega
    repeat (refine Blk.far ?_ hne _)
    exact hr1

set_option maxRecDepth 20000 in
set_option maxHeartbeats 800000 in
theorem call_3 (b : Nat) (r : RS) (hok : r.ok) (kd k : Nat) (hkd : kd < 256) (hk : Hid (kd % 6 = k)) (hkk : Hid (k = 3)) (N : Int) (hN : Hid (N < 9223372036854775808)) (w : World) (h : RdAt w b r) :
    Calls Try.prog 31 #[.pointer (some ⟨b, 0, none⟩), opV kd N] w (RetS [b] (tV (r.call 3 N).2) (fun w' => RdAt w' b (r.call 3 N).1) w) := by
  have hbl := Blk.lt h
  show Calls Try.prog 31 #[.pointer (some ⟨b, 0, none⟩), .agg #[.int .u8 (kd : Int), .int .i64 N]] w _
  go_enter Try.func31, Try.ntmps31
  go_upto_region 1 with fail
  go_cut [10] (fun s wx => s = .int .u8 (k : Int) ∧ Ext w wx ∧ RdAt wx b r ∧ Blk wx w.heap.size 51 #[.int .u8 (kd : Int), .int .i64 N] ∧ Blk wx (w.heap.size + 1) 47 #[.int .i64 0, .int .u64 0, .bool false, str [], .int .i64 0])
  case first =>
    go_wp2_with fail
    go_meet
    exact ⟨kind_mod hkd hk, ((Mod.refl _ _).alloc _).alloc _, (Blk.alloc h _).alloc _, (blk_new' rfl).alloc _, blk_new' (by simp)⟩
  obtain ⟨rfl, hE, hr, BO, B0⟩ := hcut
  obtain ⟨o0, o1⟩ := blk2 BO
  have tk0 : ((k : Int) == 0) = false := by have := hkk.out; simp; omega
  have tk1 : ((k : Int) == 1) = false := by have := hkk.out; simp; omega
  have tk2 : ((k : Int) == 2) = false := by have := hkk.out; simp; omega
  have tk3 : ((k : Int) == 3) = true := by have := hkk.out; simp; omega
  go_wp2_with (go_at_call 29; refine (RText_any b r hok N hN _ hr).mono ?_; rintro x w1 ⟨rfl, hm1, hr1⟩; have B1 := B0.mod hm1 (by simp; omega); obtain ⟨y0, y1, y2, y3, y4⟩ := blk5 B1; have z1 := B1.frozen)
  refine bodyPost_ret (v := tV (r.call 3 N).2) (by simp [results, Try.results31, go_sem, tV, toldV, RS.call, y0, y1, y2, y3, y4]) rfl (RetS.mk rfl ?_ ?_)
  · repeat (refine Mod.setCell ?_ (.inr (by dsimp only; omega)) _)
    exact hE.of_ext.trans hm1
  · have hne : b ≠ w.heap.size + 1 := by omega
    repeat (refine Blk.far ?_ hne _)
    exact hr1

set_option maxRecDepth 20000 in
set_option maxHeartbeats 800000 in
theorem call_4 (b : Nat) (r : RS) (hok : r.ok) (kd k : Nat) (hkd : kd < 256) (hk : Hid (kd % 6 = k)) (hkk : Hid (k = 4)) (N : Int) (hN : Hid (N < 9223372036854775808)) (w : World) (h : RdAt w b r) :
    Calls Try.prog 31 #[.pointer (some ⟨b, 0, none⟩), opV kd N] w (RetS [b] (tV (r.call 4 N).2) (fun w' => RdAt w' b (r.call 4 N).1) w) := by
  have hbl := Blk.lt h
  show Calls Try.prog 31 #[.pointer (some ⟨b, 0, none⟩), .agg #[.int .u8 (kd : Int), .int .i64 N]] w _
  go_enter Try.func31, Try.ntmps31
  go_upto_region 1 with fail
  go_cut [10] (fun s wx => s = .int .u8 (k : Int) ∧ Ext w wx ∧ RdAt wx b r ∧ Blk wx w.heap.size 51 #[.int .u8 (kd : Int), .int .i64 N] ∧ Blk wx (w.heap.size + 1) 47 #[.int .i64 0, .int .u64 0, .bool false, str [], .int .i64 0])
  case first =>
    go_wp2_with fail
    go_meet
    exact ⟨kind_mod hkd hk, ((Mod.refl _ _).alloc _).alloc _, (Blk.alloc h _).alloc _, (blk_new' rfl).alloc _, blk_new' (by simp)⟩
  obtain ⟨rfl, hE, hr, BO, B0⟩ := hcut
  obtain ⟨o0, o1⟩ := blk2 BO
  have tk0 : ((k : Int) == 0) = false := by have := hkk.out; simp; omega
  have tk1 : ((k : Int) == 1) = false := by have := hkk.out; simp; omega
  have tk2 : ((k : Int) == 2) = false := by have := hkk.out; simp; omega
  have tk3 : ((k : Int) == 3) = false := by have := hkk.out; simp; omega
  have tk4 : ((k : Int) == 4) = true := by have := hkk.out; simp; omega
  go_wp2_with (go_at_call 56; refine (Array_any b r hok _ hr).mono ?_; rintro x w1 ⟨rfl, hm1, hr1⟩; have B1 := B0.mod hm1 (by simp; omega); obtain ⟨y0, y1, y2, y3, y4⟩ := blk5 B1; have z1 := B1.frozen)
  refine bodyPost_ret (v := tV (r.call 4 N).2) (by simp [results, Try.results31, go_sem, tV, toldV, RS.call, y0, y1, y2, y3, y4]) rfl (RetS.mk rfl ?_ ?_)
  · repeat (refine Mod.setCell ?_ (.inr (by dsimp only; omega)) _)
    exact hE.of_ext.trans hm1
  · have hne : b ≠ w.heap.size + 1 := by omega
    repeat (refine Blk.far ?_ hne _)
    exact hr1

set_option maxRecDepth 20000 in
set_option maxHeartbeats 800000 in
theorem call_5 (b : Nat) (r : RS) (hok : r.ok) (kd k : Nat) (hkd : kd < 256) (hk : Hid (kd % 6 = k)) (hkk : Hid (k = 5)) (N : Int) (hN : Hid (N < 9223372036854775808)) (w : World) (h : RdAt w b r) :
    Calls Try.prog 31 #[.pointer (some ⟨b, 0, none⟩), opV kd N] w (RetS [b] (tV (r.call 5 N).2) (fun w' => RdAt w' b (r.call 5 N).1) w) := by
  have hbl := Blk.lt h
  show Calls Try.prog 31 #[.pointer (some ⟨b, 0, none⟩), .agg #[.int .u8 (kd : Int), .int .i64 N]] w _
  go_enter Try.func31, Try.ntmps31
  go_upto_region 1 with fail
  go_cut [10] (fun s wx => s = .int .u8 (k : Int) ∧ Ext w wx ∧ RdAt wx b r ∧ Blk wx w.heap.size 51 #[.int .u8 (kd : Int), .int .i64 N] ∧ Blk wx (w.heap.size + 1) 47 #[.int .i64 0, .int .u64 0, .bool false, str [], .int .i64 0])
  case first =>
    go_wp2_with fail
    go_meet
    exact ⟨kind_mod hkd hk, ((Mod.refl _ _).alloc _).alloc _, (Blk.alloc h _).alloc _, (blk_new' rfl).alloc _, blk_new' (by simp)⟩
  obtain ⟨rfl, hE, hr, BO, B0⟩ := hcut
  obtain ⟨o0, o1⟩ := blk2 BO
  have tk0 : ((k : Int) == 0) = false := by have := hkk.out; simp; omega
  have tk1 : ((k : Int) == 1) = false := by have := hkk.out; simp; omega
  have tk2 : ((k : Int) == 2) = false := by have := hkk.out; simp; omega
  have tk3 : ((k : Int) == 3) = false := by have := hkk.out; simp; omega
  have tk4 : ((k : Int) == 4) = false := by have := hkk.out; simp; omega
  go_wp2_with (go_at_call 57; refine (Fail_any b r 9 (by omega) _ hr).mono ?_; rintro x w1 ⟨rfl, hm1, hr1⟩; have B1 := B0.mod hm1 (by simp; omega); obtain ⟨y0, y1, y2, y3, y4⟩ := blk5 B1; have z1 := B1.frozen)
  refine bodyPost_ret (v := tV (r.call 5 N).2) (by simp [results, Try.results31, go_sem, tV, toldV, RS.call, RS.zero, y0, y1, y2, y3, y4]) rfl (RetS.mk rfl ?_ ?_)
  · repeat (refine Mod.setCell ?_ (.inr (by dsimp only; omega)) _)
    exact hE.of_ext.trans hm1
  · have hne : b ≠ w.heap.size + 1 := by omega
    repeat (refine Blk.far ?_ hne _)
    exact hr1

theorem call_any (b : Nat) (r : RS) (hok : r.ok) (kd : Nat) (hkd : kd < 256) (N : Int) (hN : Hid (N < 9223372036854775808)) (w : World) (h : RdAt w b r) :
    Calls Try.prog 31 #[.pointer (some ⟨b, 0, none⟩), opV kd N] w (RetS [b] (tV (r.call (kd % 6) N).2) (fun w' => RdAt w' b (r.call (kd % 6) N).1) w) := by
  have : kd % 6 = 0 ∨ kd % 6 = 1 ∨ kd % 6 = 2 ∨ kd % 6 = 3 ∨ kd % 6 = 4 ∨ kd % 6 = 5 := by omega
  rcases this with e | e | e | e | e | e <;> rw [e]
  · exact call_0 b r hok kd _ hkd rfl e N hN w h
  · exact call_1 b r hok kd _ hkd rfl e N hN w h
  · exact call_2 b r hok kd _ hkd rfl e N hN w h
  · exact call_3 b r hok kd _ hkd rfl e N hN w h
  · exact call_4 b r hok kd _ hkd rfl e N hN w h
  · exact call_5 b r hok kd _ hkd rfl e N hN w h
end Go.Proofs.Ytmekhofncflhaaa
