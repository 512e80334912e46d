/-
  The walks of the reader's calls: each returns what the plain reader returns, and leaves the reader as the plain one.
-/
import Derived.Test.YtagjhkknefiieaaRdHead
namespace Go.Proofs.Ytagjhkknefiieaa
open Go.RowKit
set_option linter.unusedVariables false

theorem head_of {b : Nat} {w : World} {r r' : RS} {m n : Nat} {o : Bool} (hm : r.head = (r', m, n, o))
    (h : Calls Try.prog 91 #[.pointer (some ⟨b, 0, none⟩)] w (RetS [b] (.tuple #[.int .i64 (m : Int), .int .u64 (n : Int), .bool o]) (fun w' => RdAt w' b r') w)) :
    Calls Try.prog 91 #[.pointer (some ⟨b, 0, none⟩)] w
      (RetS [b] (.tuple #[.int .i64 (r.head.2.1 : Int), .int .u64 (r.head.2.2.1 : Int), .bool r.head.2.2.2]) (fun w' => RdAt w' b r.head.1) w) := by
  rw [hm]; exact h
theorem head_any_r (b : Nat) (r : RS) (hok : r.ok) (w : World) (h : RdAt w b r) : Calls Try.prog 91 #[.pointer (some ⟨b, 0, none⟩)] w
    (RetS [b] (.tuple #[.int .i64 (r.head.2.1 : Int), .int .u64 (r.head.2.2.1 : Int), .bool r.head.2.2.2]) (fun w' => RdAt w' b r.head.1) w) := by
  by_cases h0 : r.e = 0
  case neg => exact head_of (by unfold RS.head; rw [if_neg h0]) (head_off b r h0 w h)
  cases hd : r.s.drop r.at_ with
  | nil => exact head_of (by unfold RS.head; rw [if_pos h0, hd]; rfl) (head_end b r hok h0 hd w h)
  | cons c l =>
    have hc := c.toNat_lt
    by_cases h1 : c.toNat % 32 < 24
    · exact head_of (by unfold RS.head; rw [if_pos h0, hd]; unfold readH; dsimp only; rw [if_pos h1]) (head_small b r hok h0 c l hd _ _ rfl rfl h1 w h)
    by_cases h2 : c.toNat % 32 = 31
    · cases ho : opensB ((c.toNat / 32 : Nat) : Int)
      · exact head_of (by unfold RS.head; rw [if_pos h0, hd]; unfold readH; dsimp only; rw [if_neg h1, if_neg (by rw [ho]; simp), if_pos (by omega)]) (head_shut b r hok h0 c l hd _ _ rfl rfl h2 ho w h)
      · exact head_of (by unfold RS.head; rw [if_pos h0, hd]; unfold readH; dsimp only; rw [if_neg h1, if_pos ⟨h2, ho⟩]) (head_open b r hok h0 c l hd _ _ rfl rfl h2 ho w h)
    by_cases h3 : 28 ≤ c.toNat % 32
    · exact head_of (by unfold RS.head; rw [if_pos h0, hd]; unfold readH; dsimp only; rw [if_neg h1, if_neg (fun x => h2 x.1), if_pos h3]) (head_big b r hok h0 c l hd _ _ rfl rfl ⟨h3, h2⟩ w h)
    by_cases h4 : l.length < 2 ^ (c.toNat % 32 - 24)
    · exact head_of (by unfold RS.head; rw [if_pos h0, hd]; unfold readH; dsimp only; rw [if_neg h1, if_neg (fun x => h2 x.1), if_neg h3, if_pos h4]) (head_short b r hok h0 c l hd _ _ rfl rfl _ rfl ⟨by omega, by omega⟩ h4 w h)
    by_cases h5 : (headL (c.toNat / 32) (fromBE (l.take (2 ^ (c.toNat % 32 - 24))))).length = 1 + 2 ^ (c.toNat % 32 - 24)
    · exact head_of (by unfold RS.head; rw [if_pos h0, hd]; unfold readH; dsimp only; rw [if_neg h1, if_neg (fun x => h2 x.1), if_neg h3, if_neg h4, if_pos h5]) (head_good b r hok h0 c l hd _ _ rfl rfl _ rfl ⟨by omega, by omega⟩ _ rfl (Nat.le_of_not_lt h4) h5 w h)
    · exact head_of (by unfold RS.head; rw [if_pos h0, hd]; unfold readH; dsimp only; rw [if_neg h1, if_neg (fun x => h2 x.1), if_neg h3, if_neg h4, if_neg h5]) (head_long b r hok h0 c l hd _ _ rfl rfl _ rfl ⟨by omega, by omega⟩ _ rfl (Nat.le_of_not_lt h4) h5 w h)

set_option maxRecDepth 20000 in
set_option maxHeartbeats 400000 in
theorem Head_any_r (b : Nat) (r : RS) (hok : r.ok) (w : World) (h : RdAt w b r) : Calls Try.prog 77 #[.pointer (some ⟨b, 0, none⟩)] w
    (RetS [b] (.tuple #[.int .i64 (r.Head.2.1 : Int), .int .u64 (r.Head.2.2.1 : Int), .bool r.Head.2.2.2]) (fun w' => RdAt w' b r.Head.1) w) := by
  have c1 := h.at_
  have c4 := h.fr
  have f4 := h.froz 4
  have hs : RdAt (w.setCell ⟨b, 4, none⟩ (.int .i64 (r.at_ : Int))) b { r with fr := r.at_ } := Blk.set_ h 4 _
  have hok2 : RS.ok { r with fr := r.at_ } := ⟨hok.1, hok.1, hok.2.2⟩
  go_enter Try.func77, Try.ntmps77
  go_wp2_with (go_at_call 91; refine (head_any_r b _ hok2 _ hs).mono ?_; rintro x w1 ⟨rfl, hm, hr⟩)
  go_ret3
  exact RetS.mk rfl (((Mod.refl _ _).setCell (.inl (by simp)) _).trans hm) hr

set_option maxRecDepth 20000 in
set_option maxHeartbeats 400000 in
theorem At_any (b : Nat) (r : RS) (w : World) (h : RdAt w b r) : Calls Try.prog 79 #[.pointer (some ⟨b, 0, none⟩)] w fun e w' => e = .returned (.int .i64 r.at_) ∧ w = w' := by
  have c1 := h.at_
  go_enter Try.func79, Try.ntmps79
  go_wp2
  go_ret
  exact ⟨rfl, rfl⟩
set_option maxRecDepth 20000 in
set_option maxHeartbeats 400000 in
theorem Array_e (b : Nat) (r : RS) (hok : r.ok) (he : Hid (r.Head.1.e ≠ 0)) (w : World) (h : RdAt w b r) : Calls Try.prog 81 #[.pointer (some ⟨b, 0, none⟩)] w (RetS [b] (.int .i64 0) (fun w' => RdAt w' b r.Head.1) w) := by
  have te : (r.Head.1.e != 0) = true := by have := he.out; simp [this]
  go_enter Try.func81, Try.ntmps81
  go_wp2_with (go_at_call 77; refine (Head_any_r b r hok _ h).mono ?_; rintro x w1 ⟨rfl, hm1, hr1⟩; have c0 := hr1.s; have c1 := hr1.at_; have c3 := hr1.e; have f1 := hr1.froz 1)
  go_ret
  exact RetS.mk rfl hm1 hr1

set_option maxRecDepth 20000 in
set_option maxHeartbeats 400000 in
theorem Array_m (b : Nat) (r : RS) (hok : r.ok) (he : Hid (r.Head.1.e = 0)) (hm : Hid (r.Head.2.1 ≠ 4)) (w : World) (h : RdAt w b r) : Calls Try.prog 81 #[.pointer (some ⟨b, 0, none⟩)] w (RetS [b] (.int .i64 0) (fun w' => RdAt w' b (r.Head.1.fail 2)) w) := by
  have te : (r.Head.1.e != 0) = false := by have := he.out; simp [this]
  have tm : ((r.Head.2.1 : Int) != 4) = true := by have := hm.out; simp; omega
  go_enter Try.func81, Try.ntmps81
  go_wp2_with (first | (go_at_call 77; refine (Head_any_r b r hok _ h).mono ?_; rintro x w1 ⟨rfl, hm1, hr1⟩; have c0 := hr1.s; have c1 := hr1.at_; have c3 := hr1.e; have f1 := hr1.froz 1) | (go_at_call 94; refine (fail_any b r.Head.1 2 _ (by first | exact hr1 | exact Blk.drewN hr1 _)).mono ?_; rintro x w2 ⟨rfl, hm2, hr2⟩))
  go_ret
  exact RetS.mk rfl (hm1.trans hm2) hr2

set_option maxRecDepth 20000 in
set_option maxHeartbeats 400000 in
theorem Array_o (b : Nat) (r : RS) (hok : r.ok) (he : Hid (r.Head.1.e = 0)) (hm : Hid (r.Head.2.1 = 4)) (ho : r.Head.2.2.2 = true) (w : World) (h : RdAt w b r) : Calls Try.prog 81 #[.pointer (some ⟨b, 0, none⟩)] w (RetS [b] (.int .i64 (-1)) (fun w' => RdAt w' b r.Head.1) w) := by
  have te : (r.Head.1.e != 0) = false := by have := he.out; simp [this]
  have tm : ((r.Head.2.1 : Int) != 4) = false := by have := hm.out; simp; omega
  go_enter Try.func81, Try.ntmps81
  go_wp2_with (go_at_call 77; refine (Head_any_r b r hok _ h).mono ?_; rintro x w1 ⟨rfl, hm1, hr1⟩; have c0 := hr1.s; have c1 := hr1.at_; have c3 := hr1.e; have f1 := hr1.froz 1)
  go_ret
  exact RetS.mk rfl hm1 hr1

set_option maxRecDepth 20000 in
set_option maxHeartbeats 400000 in
theorem Array_l (b : Nat) (r : RS) (hok : r.ok) (he : Hid (r.Head.1.e = 0)) (hm : Hid (r.Head.2.1 = 4)) (ho : r.Head.2.2.2 = false) (hn : Hid (1000 < r.Head.2.2.1)) (w : World) (h : RdAt w b r) : Calls Try.prog 81 #[.pointer (some ⟨b, 0, none⟩)] w (RetS [b] (.int .i64 0) (fun w' => RdAt w' b (r.Head.1.fail 4)) w) := by
  have te : (r.Head.1.e != 0) = false := by have := he.out; simp [this]
  have tm : ((r.Head.2.1 : Int) != 4) = false := by have := hm.out; simp; omega
  have tn : decide (1000 < (r.Head.2.2.1 : Int)) = true := by have := hn.out; simp; omega
  go_enter Try.func81, Try.ntmps81
  go_wp2_with (first | (go_at_call 77; refine (Head_any_r b r hok _ h).mono ?_; rintro x w1 ⟨rfl, hm1, hr1⟩; have c0 := hr1.s; have c1 := hr1.at_; have c3 := hr1.e; have f1 := hr1.froz 1) | (go_at_call 94; refine (fail_any b r.Head.1 4 _ (by first | exact hr1 | exact Blk.drewN hr1 _)).mono ?_; rintro x w2 ⟨rfl, hm2, hr2⟩))
  go_ret
  exact RetS.mk rfl (hm1.trans hm2) hr2

set_option maxRecDepth 20000 in
set_option maxHeartbeats 400000 in
theorem Array_g (b : Nat) (r : RS) (hok : r.ok) (he : Hid (r.Head.1.e = 0)) (hm : Hid (r.Head.2.1 = 4)) (ho : r.Head.2.2.2 = false) (hn : Hid (¬ 1000 < r.Head.2.2.1)) (w : World) (h : RdAt w b r) : Calls Try.prog 81 #[.pointer (some ⟨b, 0, none⟩)] w (RetS [b] (.int .i64 (r.Head.2.2.1 : Int)) (fun w' => RdAt w' b r.Head.1) w) := by
  have te : (r.Head.1.e != 0) = false := by have := he.out; simp [this]
  have tm : ((r.Head.2.1 : Int) != 4) = false := by have := hm.out; simp; omega
  have tn : decide (1000 < (r.Head.2.2.1 : Int)) = false := by have := hn.out; simp; omega
  have hw : Hid (wrap64 (r.Head.2.2.1 : Int) = (r.Head.2.2.1 : Int)) := IntWalk.wrap64_in _ (by have := hn.out; omega)
  go_enter Try.func81, Try.ntmps81
  go_wp2_with (go_at_call 77; refine (Head_any_r b r hok _ h).mono ?_; rintro x w1 ⟨rfl, hm1, hr1⟩; have c0 := hr1.s; have c1 := hr1.at_; have c3 := hr1.e; have f1 := hr1.froz 1)
  go_ret
  exact RetS.mk (congrArg (Value.int .i64) hw.out) hm1 hr1

theorem Array_any (b : Nat) (r : RS) (hok : r.ok) (w : World) (h : RdAt w b r) : Calls Try.prog 81 #[.pointer (some ⟨b, 0, none⟩)] w (RetS [b] (.int .i64 r.Array.2) (fun w' => RdAt w' b r.Array.1) w) := by
  by_cases he : r.Head.1.e = 0
  · by_cases hm : r.Head.2.1 = 4
    · cases ho : r.Head.2.2.2
      · by_cases hn : 1000 < r.Head.2.2.1
        · have e : r.Array = (r.Head.1.fail 4, 0) := by unfold RS.Array; rw [if_pos he, if_neg (fun x => x hm), if_neg (by simp [ho]), if_pos hn]
          rw [e]; exact Array_l b r hok he hm ho hn w h
        · have e : r.Array = (r.Head.1, (r.Head.2.2.1 : Int)) := by unfold RS.Array; rw [if_pos he, if_neg (fun x => x hm), if_neg (by simp [ho]), if_neg hn]
          rw [e]; exact Array_g b r hok he hm ho hn w h
      · have e : r.Array = (r.Head.1, -1) := by unfold RS.Array; rw [if_pos he, if_neg (fun x => x hm), if_pos ho]
        rw [e]; exact Array_o b r hok he hm ho w h
    · have e : r.Array = (r.Head.1.fail 2, 0) := by unfold RS.Array; rw [if_pos he, if_pos hm]
      rw [e]; exact Array_m b r hok he hm w h
  · have e : r.Array = (r.Head.1, 0) := by unfold RS.Array; rw [if_neg he]
    rw [e]; exact Array_e b r hok he w h

set_option maxRecDepth 20000 in
set_option maxHeartbeats 400000 in
theorem str_e (b : Nat) (r : RS) (hok : r.ok) (want : Nat) (most : Int) (he : Hid (r.Head.1.e ≠ 0)) (w : World) (h : RdAt w b r) : Calls Try.prog 98 #[.pointer (some ⟨b, 0, none⟩), .int .i64 (want : Int), .int .i64 most] w (RetS [b] (str []) (fun w' => RdAt w' b r.Head.1) w) := by
  have te : (r.Head.1.e != 0) = true := by have := he.out; simp [this]
  go_enter Try.func98, Try.ntmps98
  go_wp2_with (go_at_call 77; refine (Head_any_r b r hok _ h).mono ?_; rintro x w1 ⟨rfl, hm1, hr1⟩; have c0 := hr1.s; have c1 := hr1.at_; have c3 := hr1.e; have f1 := hr1.froz 1)
  go_ret
  exact RetS.mk rfl hm1 hr1

set_option maxRecDepth 20000 in
set_option maxHeartbeats 400000 in
theorem str_m (b : Nat) (r : RS) (hok : r.ok) (want : Nat) (most : Int) (he : Hid (r.Head.1.e = 0)) (hm : Hid (r.Head.2.1 ≠ want)) (w : World) (h : RdAt w b r) : Calls Try.prog 98 #[.pointer (some ⟨b, 0, none⟩), .int .i64 (want : Int), .int .i64 most] w (RetS [b] (str []) (fun w' => RdAt w' b (r.Head.1.fail 2)) w) := by
  have te : (r.Head.1.e != 0) = false := by have := he.out; simp [this]
  have tm : ((r.Head.2.1 : Int) != (want : Int)) = true := by have := hm.out; simp; omega
  go_enter Try.func98, Try.ntmps98
  go_upto_region 4 with (go_at_call 77; refine (Head_any_r b r hok _ h).mono ?_; rintro x w1 ⟨rfl, hm1, hr1⟩; have c0 := hr1.s; have c1 := hr1.at_; have c3 := hr1.e; have f1 := hr1.froz 1)
  go_quiet (fail)
  go_wp2_with (go_at_call 94; refine (fail_any b r.Head.1 2 _ (by first | exact hr1 | exact Blk.drewN hr1 _)).mono ?_; rintro x w2 ⟨rfl, hm2, hr2⟩)
  go_ret
  exact RetS.mk rfl ((hm1.drewN _).trans hm2) hr2

set_option maxRecDepth 20000 in
set_option maxHeartbeats 400000 in
theorem str_o (b : Nat) (r : RS) (hok : r.ok) (want : Nat) (most : Int) (he : Hid (r.Head.1.e = 0)) (hm : Hid (r.Head.2.1 = want)) (ho : r.Head.2.2.2 = true) (w : World) (h : RdAt w b r) : Calls Try.prog 98 #[.pointer (some ⟨b, 0, none⟩), .int .i64 (want : Int), .int .i64 most] w (RetS [b] (str []) (fun w' => RdAt w' b (r.Head.1.fail 2)) w) := by
  have te : (r.Head.1.e != 0) = false := by have := he.out; simp [this]
  have tm : ((r.Head.2.1 : Int) != (want : Int)) = false := by have := hm.out; simp; omega
  go_enter Try.func98, Try.ntmps98
  go_upto_region 4 with (go_at_call 77; refine (Head_any_r b r hok _ h).mono ?_; rintro x w1 ⟨rfl, hm1, hr1⟩; have c0 := hr1.s; have c1 := hr1.at_; have c3 := hr1.e; have f1 := hr1.froz 1)
  go_quiet (fail)
  go_wp2_with (go_at_call 94; refine (fail_any b r.Head.1 2 _ (by first | exact hr1 | exact Blk.drewN hr1 _)).mono ?_; rintro x w2 ⟨rfl, hm2, hr2⟩)
  go_ret
  exact RetS.mk rfl ((hm1.drewN _).trans hm2) hr2

set_option maxRecDepth 20000 in
set_option maxHeartbeats 400000 in
theorem str_s (b : Nat) (r : RS) (hok : r.ok) (want : Nat) (most : Int) (he : Hid (r.Head.1.e = 0)) (hm : Hid (r.Head.2.1 = want)) (ho : r.Head.2.2.2 = false) (hn : Hid (r.Head.1.s.length - r.Head.1.at_ < r.Head.2.2.1)) (w : World) (h : RdAt w b r) : Calls Try.prog 98 #[.pointer (some ⟨b, 0, none⟩), .int .i64 (want : Int), .int .i64 most] w (RetS [b] (str []) (fun w' => RdAt w' b (r.Head.1.fail 2)) w) := by
  have te : (r.Head.1.e != 0) = false := by have := he.out; simp [this]
  have tm : ((r.Head.2.1 : Int) != (want : Int)) = false := by have := hm.out; simp; omega
  have hok1 := RS.Head_ok hok
  have hle := hid hok1.1
  have hbig := hid hok1.2.2
  have hw : IntKind.u64.wrap (wrap64 ((r.Head.1.s.length : Int) - (r.Head.1.at_ : Int))) = (r.Head.1.s.length : Int) - (r.Head.1.at_ : Int) := by
    have h1 := hle.out; have h2 := hbig.out
    rw [IntWalk.wrap64_in _ (by omega), IntWalk.u64_in _ (by omega)]
  have tn : decide ((r.Head.1.s.length : Int) - (r.Head.1.at_ : Int) < (r.Head.2.2.1 : Int)) = true := by have h1 := hn.out; have h2 := hle.out; simp; omega
  go_enter Try.func98, Try.ntmps98
  go_upto_region 4 with (go_at_call 77; refine (Head_any_r b r hok _ h).mono ?_; rintro x w1 ⟨rfl, hm1, hr1⟩; have c0 := hr1.s; have c1 := hr1.at_; have c3 := hr1.e; have f1 := hr1.froz 1)
  go_quiet (fail)
  go_wp2_with (go_at_call 94; refine (fail_any b r.Head.1 2 _ (by first | exact hr1 | exact Blk.drewN hr1 _)).mono ?_; rintro x w2 ⟨rfl, hm2, hr2⟩)
  go_ret
  exact RetS.mk rfl ((hm1.drewN _).trans hm2) hr2

set_option maxRecDepth 20000 in
set_option maxHeartbeats 400000 in
theorem str_l1 (b : Nat) (r : RS) (hok : r.ok) (want : Nat) (most : Int) (he : Hid (r.Head.1.e = 0)) (hm : Hid (r.Head.2.1 = want)) (ho : r.Head.2.2.2 = false) (hn : Hid (¬ r.Head.1.s.length - r.Head.1.at_ < r.Head.2.2.1)) (hl : Hid (most < 0)) (w : World) (h : RdAt w b r) : Calls Try.prog 98 #[.pointer (some ⟨b, 0, none⟩), .int .i64 (want : Int), .int .i64 most] w (RetS [b] (str []) (fun w' => RdAt w' b (r.Head.1.fail 4)) w) := by
  have te : (r.Head.1.e != 0) = false := by have := he.out; simp [this]
  have tm : ((r.Head.2.1 : Int) != (want : Int)) = false := by have := hm.out; simp; omega
  have hok1 := RS.Head_ok hok
  have hle := hid hok1.1
  have hbig := hid hok1.2.2
  have hw : IntKind.u64.wrap (wrap64 ((r.Head.1.s.length : Int) - (r.Head.1.at_ : Int))) = (r.Head.1.s.length : Int) - (r.Head.1.at_ : Int) := by
    have h1 := hle.out; have h2 := hbig.out
    rw [IntWalk.wrap64_in _ (by omega), IntWalk.u64_in _ (by omega)]
  have tn : decide ((r.Head.1.s.length : Int) - (r.Head.1.at_ : Int) < (r.Head.2.2.1 : Int)) = false := by have h1 := hn.out; have h2 := hle.out; simp; omega
  have t1 : decide (most < 0) = true := by have := hl.out; simp; omega
  go_enter Try.func98, Try.ntmps98
  go_upto_region 4 with (go_at_call 77; refine (Head_any_r b r hok _ h).mono ?_; rintro x w1 ⟨rfl, hm1, hr1⟩; have c0 := hr1.s; have c1 := hr1.at_; have c3 := hr1.e; have f1 := hr1.froz 1)
  go_quiet (fail)
  go_wp2_with (go_at_call 94; refine (fail_any b r.Head.1 4 _ (by first | exact hr1 | exact Blk.drewN hr1 _)).mono ?_; rintro x w2 ⟨rfl, hm2, hr2⟩)
  go_ret
  exact RetS.mk rfl ((hm1.drewN _).trans hm2) hr2

set_option maxRecDepth 20000 in
set_option maxHeartbeats 400000 in
theorem str_l2 (b : Nat) (r : RS) (hok : r.ok) (want : Nat) (most : Int) (hmb : Hid (most < 9223372036854775808)) (he : Hid (r.Head.1.e = 0)) (hm : Hid (r.Head.2.1 = want)) (ho : r.Head.2.2.2 = false) (hn : Hid (¬ r.Head.1.s.length - r.Head.1.at_ < r.Head.2.2.1)) (hl : Hid (0 ≤ most ∧ most < (r.Head.2.2.1 : Int))) (w : World) (h : RdAt w b r) : Calls Try.prog 98 #[.pointer (some ⟨b, 0, none⟩), .int .i64 (want : Int), .int .i64 most] w (RetS [b] (str []) (fun w' => RdAt w' b (r.Head.1.fail 4)) w) := by
  have te : (r.Head.1.e != 0) = false := by have := he.out; simp [this]
  have tm : ((r.Head.2.1 : Int) != (want : Int)) = false := by have := hm.out; simp; omega
  have hok1 := RS.Head_ok hok
  have hle := hid hok1.1
  have hbig := hid hok1.2.2
  have hw : IntKind.u64.wrap (wrap64 ((r.Head.1.s.length : Int) - (r.Head.1.at_ : Int))) = (r.Head.1.s.length : Int) - (r.Head.1.at_ : Int) := by
    have h1 := hle.out; have h2 := hbig.out
    rw [IntWalk.wrap64_in _ (by omega), IntWalk.u64_in _ (by omega)]
  have tn : decide ((r.Head.1.s.length : Int) - (r.Head.1.at_ : Int) < (r.Head.2.2.1 : Int)) = false := by have h1 := hn.out; have h2 := hle.out; simp; omega
  have t1 : decide (most < 0) = false := by have := hl.out; simp; omega
  have hwm : IntKind.u64.wrap most = most := IntWalk.u64_in _ (by have h1 := hl.out; have h2 := hmb.out; omega)
  have t2 : decide (most < (r.Head.2.2.1 : Int)) = true := by have := hl.out; simp; omega
  go_enter Try.func98, Try.ntmps98
  go_upto_region 4 with (go_at_call 77; refine (Head_any_r b r hok _ h).mono ?_; rintro x w1 ⟨rfl, hm1, hr1⟩; have c0 := hr1.s; have c1 := hr1.at_; have c3 := hr1.e; have f1 := hr1.froz 1)
  go_quiet (fail)
  go_wp2_with (go_at_call 94; refine (fail_any b r.Head.1 4 _ (by first | exact hr1 | exact Blk.drewN hr1 _)).mono ?_; rintro x w2 ⟨rfl, hm2, hr2⟩)
  go_ret
  exact RetS.mk rfl ((hm1.drewN _).trans hm2) hr2

set_option maxRecDepth 20000 in
set_option maxHeartbeats 400000 in
theorem str_g (b : Nat) (r : RS) (hok : r.ok) (want : Nat) (most : Int) (hmb : Hid (most < 9223372036854775808)) (he : Hid (r.Head.1.e = 0)) (hm : Hid (r.Head.2.1 = want)) (ho : r.Head.2.2.2 = false) (hn : Hid (¬ r.Head.1.s.length - r.Head.1.at_ < r.Head.2.2.1)) (hl : Hid (0 ≤ most ∧ (r.Head.2.2.1 : Int) ≤ most)) (w : World) (h : RdAt w b r) : Calls Try.prog 98 #[.pointer (some ⟨b, 0, none⟩), .int .i64 (want : Int), .int .i64 most] w (RetS [b] (str ((r.Head.1.s.drop r.Head.1.at_).take r.Head.2.2.1)) (fun w' => RdAt w' b { r.Head.1 with at_ := r.Head.1.at_ + r.Head.2.2.1 }) w) := by
  have te : (r.Head.1.e != 0) = false := by have := he.out; simp [this]
  have tm : ((r.Head.2.1 : Int) != (want : Int)) = false := by have := hm.out; simp; omega
  have hok1 := RS.Head_ok hok
  have hle := hid hok1.1
  have hbig := hid hok1.2.2
  have hw : IntKind.u64.wrap (wrap64 ((r.Head.1.s.length : Int) - (r.Head.1.at_ : Int))) = (r.Head.1.s.length : Int) - (r.Head.1.at_ : Int) := by
    have h1 := hle.out; have h2 := hbig.out
    rw [IntWalk.wrap64_in _ (by omega), IntWalk.u64_in _ (by omega)]
  have tn : decide ((r.Head.1.s.length : Int) - (r.Head.1.at_ : Int) < (r.Head.2.2.1 : Int)) = false := by have h1 := hn.out; have h2 := hle.out; simp; omega
  have t1 : decide (most < 0) = false := by have := hl.out; simp; omega
  have hwm : IntKind.u64.wrap most = most := IntWalk.u64_in _ (by have h1 := hl.out; have h2 := hmb.out; omega)
  have t2 : decide (most < (r.Head.2.2.1 : Int)) = false := by have := hl.out; simp; omega
  have hw1 : wrap64 (r.Head.2.2.1 : Int) = (r.Head.2.2.1 : Int) := IntWalk.wrap64_in _ (by have h1 := hn.out; have h2 := hbig.out; omega)
  have hw2 : wrap64 ((r.Head.1.at_ : Int) + (r.Head.2.2.1 : Int)) = ((r.Head.1.at_ + r.Head.2.2.1 : Nat) : Int) := IntWalk.wrap64_in _ (by have h1 := hn.out; have h2 := hbig.out; have h3 := hle.out; omega)
  have hsl : (r.Head.1.at_ : Int) + (r.Head.2.2.1 : Int) ≤ (r.Head.1.s.length : Int) := by have h1 := hn.out; have h3 := hle.out; omega
  have hex : Hid (_ = _) := (extract_str r.Head.1.s r.Head.1.at_ (r.Head.1.at_ + r.Head.2.2.1)).trans (by rw [Nat.add_sub_cancel_left])
  go_enter Try.func98, Try.ntmps98
  go_upto_region 4 with (go_at_call 77; refine (Head_any_r b r hok _ h).mono ?_; rintro x w1 ⟨rfl, hm1, hr1⟩; have c0 := hr1.s; have c1 := hr1.at_; have c3 := hr1.e; have f1 := hr1.froz 1)
  go_quiet (fail)
  go_upto_region 10 with fail
  go_quiet (fail)
  go_wp2
  go_ret
  exact RetS.mk hex.out ((hm1.drewN _).setCell (.inl (List.mem_singleton.2 rfl)) _) (Blk.set_ (Blk.drewN hr1 _) 1 _)

theorem str_any (b : Nat) (r : RS) (hok : r.ok) (want : Nat) (most : Int) (hmb : most < 9223372036854775808) (w : World) (h : RdAt w b r) : Calls Try.prog 98 #[.pointer (some ⟨b, 0, none⟩), .int .i64 (want : Int), .int .i64 most] w (RetS [b] (str (r.str want most).2) (fun w' => RdAt w' b (r.str want most).1) w) := by
  by_cases he : r.Head.1.e = 0
  · by_cases hm : r.Head.2.1 = want
    · cases ho : r.Head.2.2.2
      · by_cases hn : r.Head.1.s.length - r.Head.1.at_ < r.Head.2.2.1
        · have e : r.str want most = (r.Head.1.fail 2, []) := by unfold RS.str; rw [if_pos he, if_pos (.inr (.inr hn))]
          rw [e]; exact str_s b r hok want most he hm ho hn w h
        · have hno : ¬ (r.Head.2.1 ≠ want ∨ r.Head.2.2.2 = true ∨ r.Head.1.s.length - r.Head.1.at_ < r.Head.2.2.1) := by rw [ho]; simp [hm, hn]
          by_cases h1 : most < 0
          · have e : r.str want most = (r.Head.1.fail 4, []) := by unfold RS.str; rw [if_pos he, if_neg hno, if_pos (.inl h1)]
            rw [e]; exact str_l1 b r hok want most he hm ho hn h1 w h
          · by_cases h2 : most < (r.Head.2.2.1 : Int)
            · have e : r.str want most = (r.Head.1.fail 4, []) := by unfold RS.str; rw [if_pos he, if_neg hno, if_pos (.inr h2)]
              rw [e]; exact str_l2 b r hok want most hmb he hm ho hn ⟨by omega, h2⟩ w h
            · have e : r.str want most = ({ r.Head.1 with at_ := r.Head.1.at_ + r.Head.2.2.1 }, (r.Head.1.s.drop r.Head.1.at_).take r.Head.2.2.1) := by
                unfold RS.str; rw [if_pos he, if_neg hno, if_neg (by rintro (x | x); exact h1 x; exact h2 x)]
              rw [e]; exact str_g b r hok want most hmb he hm ho hn ⟨by omega, by omega⟩ w h
      · have e : r.str want most = (r.Head.1.fail 2, []) := by unfold RS.str; rw [if_pos he, if_pos (.inr (.inl ho))]
        rw [e]; exact str_o b r hok want most he hm ho w h
    · have e : r.str want most = (r.Head.1.fail 2, []) := by unfold RS.str; rw [if_pos he, if_pos (.inl hm)]
      rw [e]; exact str_m b r hok want most he hm w h
  · have e : r.str want most = (r.Head.1, []) := by unfold RS.str; rw [if_neg he]
    rw [e]; exact str_e b r hok want most he w h

set_option maxRecDepth 20000 in
set_option maxHeartbeats 400000 in
theorem RBytes_any (b : Nat) (r : RS) (hok : r.ok) (most : Int) (hmb : Hid (most < 9223372036854775808)) (w : World) (h : RdAt w b r) : Calls Try.prog 92 #[.pointer (some ⟨b, 0, none⟩), .int .i64 most] w (RetS [b] (str (r.str 2 most).2) (fun w' => RdAt w' b (r.str 2 most).1) w) := by
  go_enter Try.func92, Try.ntmps92
  go_wp2_with (go_at_call 98; refine (str_any b r hok 2 most hmb.out _ h).mono ?_; rintro x w1 ⟨rfl, hm, hr⟩)
  go_ret
  exact RetS.mk rfl hm hr

set_option maxRecDepth 20000 in
set_option maxHeartbeats 400000 in
theorem RText_any (b : Nat) (r : RS) (hok : r.ok) (most : Int) (hmb : Hid (most < 9223372036854775808)) (w : World) (h : RdAt w b r) : Calls Try.prog 93 #[.pointer (some ⟨b, 0, none⟩), .int .i64 most] w (RetS [b] (str (r.str 3 most).2) (fun w' => RdAt w' b (r.str 3 most).1) w) := by
  go_enter Try.func93, Try.ntmps93
  go_wp2_with (go_at_call 98; refine (str_any b r hok 3 most hmb.out _ h).mono ?_; rintro x w1 ⟨rfl, hm, hr⟩)
  go_ret
  exact RetS.mk rfl hm hr

set_option maxRecDepth 20000 in
set_option maxHeartbeats 400000 in
theorem Bad_any (b : Nat) (r : RS) (w : World) (h : RdAt w b r) : Calls Try.prog 78 #[.pointer (some ⟨b, 0, none⟩)] w (Ret (.tuple #[.int .i64 r.bad, .int .i64 r.e]) w) := by
  have c2 := h.bad
  have c3 := h.e
  go_enter Try.func78, Try.ntmps78
  go_upto_region 1 with fail
  go_quiet (fail)
  go_wp2
  go_ret2
  exact Ret.mk rfl ((Mod.refl _ _).drewN _)
end Go.Proofs.Ytagjhkknefiieaa
