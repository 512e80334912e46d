/-
 The walks of package cbor's reading functions: join, fail.
-/
import Derived.Test.YtmckfdmdkljomaaGreatDoorMMixLessCardac
import Derived.Lib.Strings
namespace Go.Proofs.YtmckfdmdkljomaaGreatDoor
open Go.RowKit
set_option linter.unusedVariables false
set_option linter.unusedSimpArgs false
def RS.cells (r : RS) : _root_.Array Value := rdr r.s r.at_ r.bad r.e r.fr
def RdAt (w : World) (b : Nat) (r : RS) : Prop := Blk w b 202 r.cells
section
variable {w : World} {b : Nat} {r : RS}
theorem RdAt.s (h : RdAt w b r) : w.cell? ⟨b, 0, none⟩ = some (str r.s) := Blk.cell h 0
theorem RdAt.at_ (h : RdAt w b r) : w.cell? ⟨b, 1, none⟩ = some (.int .i64 r.at_) := Blk.cell h 1
theorem RdAt.bad (h : RdAt w b r) : w.cell? ⟨b, 2, none⟩ = some (.int .i64 r.bad) := Blk.cell h 2
theorem RdAt.e (h : RdAt w b r) : w.cell? ⟨b, 3, none⟩ = some (.int .i64 r.e) := Blk.cell h 3
theorem RdAt.fr (h : RdAt w b r) : w.cell? ⟨b, 4, none⟩ = some (.int .i64 r.fr) := Blk.cell h 4
end
theorem beq0_false {x : Int} (h : x ≠ 0) : (x == 0) = false := by simp [h]
set_option maxHeartbeats 400000 in
theorem fail_bad (b : Nat) (r : RS) (e : Int) (h0 : Hid (r.e ≠ 0)) (w : World) (h : RdAt w b r) : Calls Tryz.prog 171 #[.pointer (some ⟨b, 0, none⟩), .int .i64 e] w fun x w' => x = .returned (.tuple #[]) /\ w = w' := by
 have c3 := h.e
 have t := beq0_false h0.out
 go_enter Tryz.func171, Tryz.ntmps171
 go_wp2
 go_end0
 exact ⟨rfl, rfl⟩
set_option maxHeartbeats 400000 in
theorem fail_good (b : Nat) (r : RS) (e : Int) (h0 : Hid (r.e = 0)) (w : World) (h : RdAt w b r) : Calls Tryz.prog 171 #[.pointer (some ⟨b, 0, none⟩), .int .i64 e] w
  fun x w' => x = .returned (.tuple #[]) /\ w' = ((w.setCell ⟨b, 1, none⟩ (.int .i64 r.fr)).setCell ⟨b, 2, none⟩ (.int .i64 r.fr)).setCell ⟨b, 3, none⟩ (.int .i64 e) := by
 have c1 := h.at_
 have c2 := h.bad
 have c3 : w.cell? ⟨b, 3, none⟩ = some (.int .i64 0) := by have := h.e; rw [h0.out] at this; exact this
 have c4 := h.fr
 have f1 := Blk.frozen h 1
 have f2 := Blk.frozen h 2
 have f3 := Blk.frozen h 3
 go_enter Tryz.func171, Tryz.ntmps171
 go_wp2
 go_end0
 exact ⟨rfl, rfl⟩
theorem fail_any (b : Nat) (r : RS) (e : Int) (w : World) (h : RdAt w b r) : Calls Tryz.prog 171 #[.pointer (some ⟨b, 0, none⟩), .int .i64 e] w (RetS [b] (.tuple #[]) (fun w' => RdAt w' b (r.fail e)) w) := by
 by_cases h0 : r.e = 0
 .
  refine (fail_good b r e h0 w h).mono ?_
  rintro x w' ⟨rfl, rfl⟩
  refine RetS.mk rfl ((((Mod.refl _ _).setCell (.inl (by simp)) _).setCell (.inl (by simp)) _).setCell (.inl (by simp)) _) ?_
  unfold RS.fail
  rw [if_pos h0]
  exact ((Blk.set_ h 1 _).set_ 2 _).set_ 3 _
 .
  refine (fail_bad b r e h0 w h).mono ?_
  rintro x w' ⟨rfl, rfl⟩
  refine RetS.mk rfl (Mod.refl _ _) ?_
  unfold RS.fail
  rw [if_neg h0]
  exact h
/-! The number of bytes. -/
theorem or_byte_small (n c : Nat) (hc : c < 256) : (n * 256) ||| c = n * 256 + c := by
 rw [show n * 256 = n <<< 8 from by simp [Nat.shiftLeft_eq], <- Nat.shiftLeft_add_eq_or_of_lt (by simpa using hc)]
theorem join_val {n : Nat} (c : UInt8) (h : n < 72057594037927936) : Value.int .u64 (bits .or .u64 (IntKind.u64.wrap ((n : Int) * 256)) (IntKind.u64.wrap (c.toNat : Int))) = .int .u64 ((n * 256 + c.toNat : Nat) : Int) := by
 have hc := c.toNat_lt
 rw [IntWalk.u64_in _ (by omega), IntWalk.u64_in _ (by omega)]
 have := u64_or_nat (n * 256) c.toNat (by omega) (by omega)
 rw [or_byte_small _ _ (by omega)] at this
 rw [<- this]; simp
theorem join_step {l : List UInt8} {j q : Nat} {x : UInt8} (hj : j < l.length) (hl : l.length <= 8) (hx : l[j] = x) (hq : fromBE (l.take j) = q) :
  Value.int .u64 (bits .or .u64 (IntKind.u64.wrap ((q : Int) * 256)) (IntKind.u64.wrap (x.toNat : Int))) = .int .u64 ((fromBE (l.take (j + 1)) : Nat) : Int) := by
 have hlt := fromBE_lt (l.take j)
 have hle : (l.take j).length <= 7 := by rw [List.length_take]; omega
 have hp : 2 ^ (8 * (l.take j).length) <= 2 ^ (8 * 7) := Nat.pow_le_pow_right (by omega) (by omega)
 rw [join_val x (by rw [<- hq]; exact Nat.lt_of_lt_of_le hlt (by simpa using hp)), List.take_succ_eq_append_getElem hj, fromBE_snoc, hq, hx]
theorem cell_bytesRow (w : World) (l : List UInt8) (cap t : Nat) (fz : Nat × Nat) (j : Nat) (h : j < l.length) :
  (w.alloc (.cells (bytesRow ⟨l.toArray⟩ cap) t fz)).cell? ⟨w.heap.size, j, none⟩ = some (.int .u8 (l[j].toNat : Int)) := by
 rw [World.cell?_alloc_mark]
 simp only [bytesRow]
 rw [Array.getElem?_append_left (by simpa using h)]
 simp [h]
set_option maxHeartbeats 400000 in
theorem join_n (l : List UInt8) (hl : l.length <= 8) (w : World) : Calls Tryz.prog 189 #[str l] w (Ret (.int .u64 (fromBE l)) w) := by
 have hconv := fun (w : World) (s : ByteArray) => run_bytes_of_string (P := Tryz.prog) w 9 123 5 s vqI vqD vqH
 go_enter Tryz.func189, Tryz.ntmps189
 go_wp2
 have hext : Ext w ((w.alloc (Obj.cells (bytesRow { data := l.toArray } (grownCap w l.length 0 5)) 5 ((bytesRow { data := l.toArray } (grownCap w l.length 0 5)).size, (bytesRow { data := l.toArray } (grownCap w l.length 0 5)).size + 1))).drew) :=
  ((Mod.refl _ _).alloc _).drew
 have hcell : ∀ j (h : j < l.length), ((w.alloc (Obj.cells (bytesRow { data := l.toArray } (grownCap w l.length 0 5)) 5 ((bytesRow { data := l.toArray } (grownCap w l.length 0 5)).size, (bytesRow { data := l.toArray } (grownCap w l.length 0 5)).size + 1))).drew).cell? ⟨w.heap.size, j, none⟩ = some (.int .u8 (l[j].toNat : Int)) := by
  intro j h
  rw [World.cell?_drew]
  exact cell_bytesRow w l _ _ _ j h
 generalize hW : World.drew (World.alloc w _) = W at *
 have HW := hid hW; clear hW
 have HC := hid hcell; clear hcell
 go_loop [3, 9] (fun n i => ∃ j : Nat, j <= l.length /\ i = .int .i64 j /\ n = .int .u64 ((fromBE (l.take j) : Nat) : Int)) (fun _ i => l.length - (intOf i).toNat)
 case atStart => exact ⟨0, Nat.zero_le _, rfl, rfl⟩
 case round =>
  obtain ⟨j, hj, rfl, rfl⟩ := hrel
  by_cases hlt : j < l.length
  .
   have hc := HC.out j hlt
   generalize hx : l[j] = x at *
   generalize hq : fromBE (l.take j) = q at *
   have HX := hid hx; clear hx
   have HQ := hid hq; clear hq
   go_wp2
   go_round
   case rel => exact ⟨j + 1, by omega, by go_num, join_step hlt hl HX.out HQ.out⟩
   case measure => simp [intOf]; omega
  .
   obtain rfl : j = l.length := by omega
   have ht : l.take l.length = l := List.take_length
   rw [ht]
   go_wp2
   go_ret
   exact ⟨rfl, hext⟩
theorem RdAt.froz {w : World} {b : Nat} {r : RS} (h : RdAt w b r) (i : Nat) : w.frozen? ⟨b, i, none⟩ = false := Blk.frozen h i
theorem extract_str (l : List UInt8) (a b : Nat) : Value.string ((⟨l.toArray⟩ : ByteArray).extract a b) = str ((l.drop a).take (b - a)) := by
 rw [Go.Lib.extract_eq]
theorem extract_rest (l : List UInt8) (a : Nat) : Value.string ((⟨l.toArray⟩ : ByteArray).extract a l.length) = str (l.drop a) := by
 rw [extract_str, List.take_of_length_le]; simp
set_option maxHeartbeats 400000 in
theorem head_off (b : Nat) (r : RS) (h0 : Hid (r.e ≠ 0)) (w : World) (h : RdAt w b r) : Calls Tryz.prog 168 #[.pointer (some ⟨b, 0, none⟩)] w
  (RetS [b] (.tuple #[.int .i64 0, .int .u64 0, .bool false]) (fun w' => RdAt w' b r) w) := by
 have c3 := h.e
 have t : (r.e != 0) = true := by simp [h0.out]
 go_enter Tryz.func168, Tryz.ntmps168
 go_wp2
 go_ret3
 exact RetS.mk rfl (Mod.refl _ _) h
set_option maxHeartbeats 400000 in
theorem head_end (b : Nat) (r : RS) (hok : r.ok) (h0 : Hid (r.e = 0)) (hend : Hid (r.s.drop r.at_ = [])) (w : World) (h : RdAt w b r) : Calls Tryz.prog 168 #[.pointer (some ⟨b, 0, none⟩)] w
  (RetS [b] (.tuple #[.int .i64 0, .int .u64 0, .bool false]) (fun w' => RdAt w' b (r.fail 2)) w) := by
 have c0 := h.s
 have c1 := h.at_
 have c3 : w.cell? ⟨b, 3, none⟩ = some (.int .i64 0) := by have := h.e; rw [h0.out] at this; exact this
 have b1 := hok.1
 have hx := extract_rest r.s r.at_
 have hx2 := hend.out
 go_enter Tryz.func168, Tryz.ntmps168
 go_upto_region 3 with fail
 go_quiet (fail)
 go_wp2_with (go_at_call 171; refine (fail_any b r 2 _ (Blk.drewN h nq)).mono ?_; rintro x w' ⟨rfl, hm, hr⟩)
 go_ret3
 exact RetS.mk rfl (((Mod.refl _ _).drewN nq).trans hm) hr
theorem and_small : ∀ c : Fin 256, bits .and .u8 (c.val : Int) 31 = ((c.val % 32 : Nat) : Int) := by decide +kernel
theorem and31 (c : UInt8) : bits .and .u8 (c.toNat : Int) 31 = ((c.toNat % 32 : Nat) : Int) := and_small ⟨c.toNat, c.toNat_lt⟩
theorem first_div (c : UInt8) (l : List UInt8) {m : Nat} (h : 0 < (⟨(c :: l).toArray⟩ : ByteArray).size) (hm : Hid (c.toNat / 32 = m)) : Value.int .i64 (wrap64 (((⟨(c :: l).toArray⟩ : ByteArray)[0].toNat : Int) / 32)) = .int .i64 (m : Int) := by
 rw [<- hm.out]
 show Value.int .i64 (wrap64 ((c.toNat : Int) / 32)) = _
 rw [IntWalk.wrap64_in _ (by have := c.toNat_lt; omega)]; rfl
theorem first_mod (c : UInt8) (l : List UInt8) {k : Nat} (h : 0 < (⟨(c :: l).toArray⟩ : ByteArray).size) (hk : Hid (c.toNat % 32 = k)) : Value.int .i64 (wrap64 (bits .and .u8 ((⟨(c :: l).toArray⟩ : ByteArray)[0].toNat : Int) 31)) = .int .i64 (k : Int) := by
 rw [<- hk.out]
 show Value.int .i64 (wrap64 (bits .and .u8 (c.toNat : Int) 31)) = _
 rw [and31, IntWalk.wrap64_in _ (by omega)]
theorem extract_one (c : UInt8) (l : List UInt8) (S : Nat) : Value.string ((⟨(c :: l).toArray⟩ : ByteArray).extract 1 (1 + S)) = str (l.take S) := by
 rw [extract_str, List.drop_succ_cons, List.drop_zero, Nat.add_sub_cancel_left]
set_option maxRecDepth 20000 in
set_option maxHeartbeats 400000 in
theorem head_small (b : Nat) (r : RS) (hok : r.ok) (h0 : Hid (r.e = 0)) (c : UInt8) (l : List UInt8) (hd : Hid (r.s.drop r.at_ = c :: l)) (m k : Nat) (hmm : Hid (c.toNat / 32 = m)) (hkk : Hid (c.toNat % 32 = k)) (hk : Hid (k < 24)) (w : World) (h : RdAt w b r) : Calls Tryz.prog 168 #[.pointer (some ⟨b, 0, none⟩)] w
  (RetS [b] (.tuple #[.int .i64 (m : Int), .int .u64 (k : Int), .bool false]) (fun w' => RdAt w' b { r with at_ := r.at_ + 1 }) w) := by
 have c0 := h.s
 have c1 := h.at_
 have c3 : w.cell? ⟨b, 3, none⟩ = some (.int .i64 0) := by have := h.e; rw [h0.out] at this; exact this
 have f1 := h.froz 1
 have b1 := hok.1
 have hx := extract_rest r.s r.at_
 have hx2 := hd.out
 go_enter Tryz.func168, Tryz.ntmps168
 go_upto_region 3 with fail
 go_quiet (fail)
 go_upto_region 7 with fail
 go_cut [6, 7] (fun s6 s7 wx => s6 = .int .i64 (m : Int) /\ s7 = .int .i64 (k : Int) /\ ∃ n, wx = w.drewN n)
 case first =>
  have hlen : (0 : Int) < (l.length : Int) + 1 := by omega
  go_quiet (fail)
  go_wp2_with fail
  go_meet
  exact ⟨first_div c l _ hmm, first_mod c l _ hkk, _, World.drewN_drewN _ _ _⟩
 obtain ⟨rfl, rfl, nw, rfl⟩ := hcut
 clear hx hx2
 have hcn := Blk.drewN h nw
 have hk32 : Hid (k <= 31) := by have := hkk.out; unfold Hid; omega
 have hlr : Hid (r.at_ + (l.length + 1) = r.s.length) := by
  have h1 := congrArg List.length hd.out
  rw [List.length_drop, List.length_cons] at h1
  have h2 := hok.1
  unfold Hid; omega
 have hbig := hid hok.2.2
 have t1 : decide ((k : Int) < 24) = true := by have h1 := hk.out; have h2 := hk32.out; simp; omega
 have hw1 : IntKind.u64.wrap (k : Int) = k := IntWalk.u64_in _ (by have := hk32.out; omega)
 have hw2 : wrap64 ((r.at_ : Int) + 1) = ((r.at_ + 1 : Nat) : Int) := IntWalk.wrap64_in _ (by have := hlr.out; have := hbig.out; omega)
 go_wp2
 go_ret3
 exact RetS.mk rfl (((Mod.refl _ _).drewN _).setCell (.inl (by simp)) _) (Blk.set_ hcn 1 _)
set_option maxRecDepth 20000 in
set_option maxHeartbeats 400000 in
theorem head_open (b : Nat) (r : RS) (hok : r.ok) (h0 : Hid (r.e = 0)) (c : UInt8) (l : List UInt8) (hd : Hid (r.s.drop r.at_ = c :: l)) (m k : Nat) (hmm : Hid (c.toNat / 32 = m)) (hkk : Hid (c.toNat % 32 = k)) (hk : Hid (k = 31)) (ho : opensB (m : Int) = true) (w : World) (h : RdAt w b r) : Calls Tryz.prog 168 #[.pointer (some ⟨b, 0, none⟩)] w
  (RetS [b] (.tuple #[.int .i64 (m : Int), .int .u64 0, .bool true]) (fun w' => RdAt w' b { r with at_ := r.at_ + 1 }) w) := by
 have c0 := h.s
 have c1 := h.at_
 have c3 : w.cell? ⟨b, 3, none⟩ = some (.int .i64 0) := by have := h.e; rw [h0.out] at this; exact this
 have f1 := h.froz 1
 have b1 := hok.1
 have hx := extract_rest r.s r.at_
 have hx2 := hd.out
 go_enter Tryz.func168, Tryz.ntmps168
 go_upto_region 3 with fail
 go_quiet (fail)
 go_upto_region 7 with fail
 go_cut [6, 7] (fun s6 s7 wx => s6 = .int .i64 (m : Int) /\ s7 = .int .i64 (k : Int) /\ ∃ n, wx = w.drewN n)
 case first =>
  have hlen : (0 : Int) < (l.length : Int) + 1 := by omega
  go_quiet (fail)
  go_wp2_with fail
  go_meet
  exact ⟨first_div c l _ hmm, first_mod c l _ hkk, _, World.drewN_drewN _ _ _⟩
 obtain ⟨rfl, rfl, nw, rfl⟩ := hcut
 clear hx hx2
 have hcn := Blk.drewN h nw
 have hk32 : Hid (k <= 31) := by have := hkk.out; unfold Hid; omega
 have hlr : Hid (r.at_ + (l.length + 1) = r.s.length) := by
  have h1 := congrArg List.length hd.out
  rw [List.length_drop, List.length_cons] at h1
  have h2 := hok.1
  unfold Hid; omega
 have hbig := hid hok.2.2
 have t1 : decide ((k : Int) < 24) = false := by have h1 := hk.out; have h2 := hk32.out; simp; omega
 have t2 : ((k : Int) == 31) = true := by have h1 := hk.out; have h2 := hk32.out; simp; omega
 have hw2 : wrap64 ((r.at_ : Int) + 1) = ((r.at_ + 1 : Nat) : Int) := IntWalk.wrap64_in _ (by have := hlr.out; have := hbig.out; omega)
 go_wp2_with (go_at_call 120; refine (opens_any _ _).mono ?_; rintro x w2 ⟨rfl, rfl⟩)
 go_ret3
 exact RetS.mk rfl (((Mod.refl _ _).drewN _).setCell (.inl (by simp)) _) (Blk.set_ hcn 1 _)
set_option maxRecDepth 20000 in
set_option maxHeartbeats 400000 in
theorem head_shut (b : Nat) (r : RS) (hok : r.ok) (h0 : Hid (r.e = 0)) (c : UInt8) (l : List UInt8) (hd : Hid (r.s.drop r.at_ = c :: l)) (m k : Nat) (hmm : Hid (c.toNat / 32 = m)) (hkk : Hid (c.toNat % 32 = k)) (hk : Hid (k = 31)) (ho : opensB (m : Int) = false) (w : World) (h : RdAt w b r) : Calls Tryz.prog 168 #[.pointer (some ⟨b, 0, none⟩)] w
  (RetS [b] (.tuple #[.int .i64 0, .int .u64 0, .bool false]) (fun w' => RdAt w' b (r.fail 2)) w) := by
 have c0 := h.s
 have c1 := h.at_
 have c3 : w.cell? ⟨b, 3, none⟩ = some (.int .i64 0) := by have := h.e; rw [h0.out] at this; exact this
 have f1 := h.froz 1
 have b1 := hok.1
 have hx := extract_rest r.s r.at_
 have hx2 := hd.out
 go_enter Tryz.func168, Tryz.ntmps168
 go_upto_region 3 with fail
 go_quiet (fail)
 go_upto_region 7 with fail
 go_cut [6, 7] (fun s6 s7 wx => s6 = .int .i64 (m : Int) /\ s7 = .int .i64 (k : Int) /\ ∃ n, wx = w.drewN n)
 case first =>
  have hlen : (0 : Int) < (l.length : Int) + 1 := by omega
  go_quiet (fail)
  go_wp2_with fail
  go_meet
  exact ⟨first_div c l _ hmm, first_mod c l _ hkk, _, World.drewN_drewN _ _ _⟩
 obtain ⟨rfl, rfl, nw, rfl⟩ := hcut
 clear hx hx2
 have hcn := Blk.drewN h nw
 have hk32 : Hid (k <= 31) := by have := hkk.out; unfold Hid; omega
 have hlr : Hid (r.at_ + (l.length + 1) = r.s.length) := by
  have h1 := congrArg List.length hd.out
  rw [List.length_drop, List.length_cons] at h1
  have h2 := hok.1
  unfold Hid; omega
 have hbig := hid hok.2.2
 have t1 : decide ((k : Int) < 24) = false := by have h1 := hk.out; have h2 := hk32.out; simp; omega
 have t2 : ((k : Int) == 31) = true := by have h1 := hk.out; have h2 := hk32.out; simp; omega
 have t3 : decide (28 <= (k : Int)) = true := by have h1 := hk.out; have h2 := hk32.out; simp; omega
 go_wp2_with (first | (go_at_call 120; refine (opens_any _ _).mono ?_; rintro x w2 ⟨rfl, rfl⟩) | (go_at_call 171; refine (fail_any b r 2 _ (by exact hcn)).mono ?_; rintro x w1 ⟨rfl, hmf, hrf⟩))
 go_ret3
 exact RetS.mk rfl (((Mod.refl _ _).drewN _).trans hmf) hrf
set_option maxRecDepth 20000 in
set_option maxHeartbeats 400000 in
theorem head_big (b : Nat) (r : RS) (hok : r.ok) (h0 : Hid (r.e = 0)) (c : UInt8) (l : List UInt8) (hd : Hid (r.s.drop r.at_ = c :: l)) (m k : Nat) (hmm : Hid (c.toNat / 32 = m)) (hkk : Hid (c.toNat % 32 = k)) (hk : Hid (28 <= k /\ k ≠ 31)) (w : World) (h : RdAt w b r) : Calls Tryz.prog 168 #[.pointer (some ⟨b, 0, none⟩)] w
  (RetS [b] (.tuple #[.int .i64 0, .int .u64 0, .bool false]) (fun w' => RdAt w' b (r.fail 2)) w) := by
 have c0 := h.s
 have c1 := h.at_
 have c3 : w.cell? ⟨b, 3, none⟩ = some (.int .i64 0) := by have := h.e; rw [h0.out] at this; exact this
 have f1 := h.froz 1
 have b1 := hok.1
 have hx := extract_rest r.s r.at_
 have hx2 := hd.out
 go_enter Tryz.func168, Tryz.ntmps168
 go_upto_region 3 with fail
 go_quiet (fail)
 go_upto_region 7 with fail
 go_cut [6, 7] (fun s6 s7 wx => s6 = .int .i64 (m : Int) /\ s7 = .int .i64 (k : Int) /\ ∃ n, wx = w.drewN n)
 case first =>
  have hlen : (0 : Int) < (l.length : Int) + 1 := by omega
  go_quiet (fail)
  go_wp2_with fail
  go_meet
  exact ⟨first_div c l _ hmm, first_mod c l _ hkk, _, World.drewN_drewN _ _ _⟩
 obtain ⟨rfl, rfl, nw, rfl⟩ := hcut
 clear hx hx2
 have hcn := Blk.drewN h nw
 have hk32 : Hid (k <= 31) := by have := hkk.out; unfold Hid; omega
 have hlr : Hid (r.at_ + (l.length + 1) = r.s.length) := by
  have h1 := congrArg List.length hd.out
  rw [List.length_drop, List.length_cons] at h1
  have h2 := hok.1
  unfold Hid; omega
 have hbig := hid hok.2.2
 have t1 : decide ((k : Int) < 24) = false := by have h1 := hk.out; have h2 := hk32.out; simp; omega
 have t2 : ((k : Int) == 31) = false := by have h1 := hk.out; have h2 := hk32.out; simp; omega
 have t3 : decide (28 <= (k : Int)) = true := by have h1 := hk.out; have h2 := hk32.out; simp; omega
 go_wp2_with (go_at_call 171; refine (fail_any b r 2 _ (by exact hcn)).mono ?_; rintro x w1 ⟨rfl, hmf, hrf⟩)
 go_ret3
 exact RetS.mk rfl (((Mod.refl _ _).drewN _).trans hmf) hrf
set_option maxRecDepth 20000 in
set_option maxHeartbeats 400000 in
theorem head_short (b : Nat) (r : RS) (hok : r.ok) (h0 : Hid (r.e = 0)) (c : UInt8) (l : List UInt8) (hd : Hid (r.s.drop r.at_ = c :: l)) (m k : Nat) (hmm : Hid (c.toNat / 32 = m)) (hkk : Hid (c.toNat % 32 = k)) (S : Nat) (hS : Hid (2 ^ (k - 24) = S)) (hk : Hid (24 <= k /\ k < 28)) (hs : Hid (l.length < S)) (w : World) (h : RdAt w b r) : Calls Tryz.prog 168 #[.pointer (some ⟨b, 0, none⟩)] w
  (RetS [b] (.tuple #[.int .i64 0, .int .u64 0, .bool false]) (fun w' => RdAt w' b (r.fail 2)) w) := by
 have c0 := h.s
 have c1 := h.at_
 have c3 : w.cell? ⟨b, 3, none⟩ = some (.int .i64 0) := by have := h.e; rw [h0.out] at this; exact this
 have f1 := h.froz 1
 have b1 := hok.1
 have hx := extract_rest r.s r.at_
 have hx2 := hd.out
 go_enter Tryz.func168, Tryz.ntmps168
 go_upto_region 3 with fail
 go_quiet (fail)
 go_upto_region 7 with fail
 go_cut [6, 7] (fun s6 s7 wx => s6 = .int .i64 (m : Int) /\ s7 = .int .i64 (k : Int) /\ ∃ n, wx = w.drewN n)
 case first =>
  have hlen : (0 : Int) < (l.length : Int) + 1 := by omega
  go_quiet (fail)
  go_wp2_with fail
  go_meet
  exact ⟨first_div c l _ hmm, first_mod c l _ hkk, _, World.drewN_drewN _ _ _⟩
 obtain ⟨rfl, rfl, nw, rfl⟩ := hcut
 clear hx hx2
 have hcn := Blk.drewN h nw
 have hk32 : Hid (k <= 31) := by have := hkk.out; unfold Hid; omega
 have hlr : Hid (r.at_ + (l.length + 1) = r.s.length) := by
  have h1 := congrArg List.length hd.out
  rw [List.length_drop, List.length_cons] at h1
  have h2 := hok.1
  unfold Hid; omega
 have hbig := hid hok.2.2
 have t1 : decide ((k : Int) < 24) = false := by have h1 := hk.out; have h2 := hk32.out; simp; omega
 have t2 : ((k : Int) == 31) = false := by have h1 := hk.out; have h2 := hk32.out; simp; omega
 have t3 : decide (28 <= (k : Int)) = false := by have h1 := hk.out; have h2 := hk32.out; simp; omega
 go_upto_region 17 with fail
 go_cut [8] (fun s wx => s = .int .i64 (S : Int) /\ wx = w.drewN nw)
 case first =>
  have hk4 : k = 24 \/ k = 25 \/ k = 26 \/ k = 27 := by have := hk.out; omega
  rcases hk4 with rfl | rfl | rfl | rfl
  all_goals go_wp2
  all_goals go_meet
  all_goals exact ⟨by rw [<- hS.out]; rfl, rfl⟩
 obtain ⟨rfl, rfl⟩ := hcut
 have hw3 : wrap64 (1 + (S : Int)) = 1 + (S : Int) := IntWalk.wrap64_in _ (by have := hS.out; have h2 : S <= 8 := by { have h1 := hk.out; rw [<- hS.out]; exact Nat.le_trans (Nat.pow_le_pow_right (by omega) (show k - 24 <= 3 by omega)) (by decide) }; omega)
 have hS8 : Hid (S <= 8) := by
  have h1 := hk.out
  unfold Hid
  rw [<- hS.out]
  exact Nat.le_trans (Nat.pow_le_pow_right (by omega) (show k - 24 <= 3 by omega)) (by decide)
 have t4 : decide ((l.length : Int) + 1 < 1 + (S : Int)) = true := by have := hs.out; simp; omega
 go_wp2_with (go_at_call 171; refine (fail_any b r 2 _ (by exact hcn)).mono ?_; rintro x w1 ⟨rfl, hmf, hrf⟩)
 go_ret3
 exact RetS.mk rfl (((Mod.refl _ _).drewN _).trans hmf) hrf
set_option maxRecDepth 20000 in
set_option maxHeartbeats 400000 in
theorem head_long (b : Nat) (r : RS) (hok : r.ok) (h0 : Hid (r.e = 0)) (c : UInt8) (l : List UInt8) (hd : Hid (r.s.drop r.at_ = c :: l)) (m k : Nat) (hmm : Hid (c.toNat / 32 = m)) (hkk : Hid (c.toNat % 32 = k)) (S : Nat) (hS : Hid (2 ^ (k - 24) = S)) (hk : Hid (24 <= k /\ k < 28)) (n : Nat) (hn : Hid (fromBE (l.take S) = n)) (hs : Hid (S <= l.length)) (hc : Hid ((headL m n).length ≠ 1 + S)) (w : World) (h : RdAt w b r) : Calls Tryz.prog 168 #[.pointer (some ⟨b, 0, none⟩)] w
  (RetS [b] (.tuple #[.int .i64 0, .int .u64 0, .bool false]) (fun w' => RdAt w' b (r.fail 2)) w) := by
 have c0 := h.s
 have c1 := h.at_
 have c3 : w.cell? ⟨b, 3, none⟩ = some (.int .i64 0) := by have := h.e; rw [h0.out] at this; exact this
 have f1 := h.froz 1
 have b1 := hok.1
 have hx := extract_rest r.s r.at_
 have hx2 := hd.out
 go_enter Tryz.func168, Tryz.ntmps168
 go_upto_region 3 with fail
 go_quiet (fail)
 go_upto_region 7 with fail
 go_cut [6, 7] (fun s6 s7 wx => s6 = .int .i64 (m : Int) /\ s7 = .int .i64 (k : Int) /\ ∃ n, wx = w.drewN n)
 case first =>
  have hlen : (0 : Int) < (l.length : Int) + 1 := by omega
  go_quiet (fail)
  go_wp2_with fail
  go_meet
  exact ⟨first_div c l _ hmm, first_mod c l _ hkk, _, World.drewN_drewN _ _ _⟩
 obtain ⟨rfl, rfl, nw, rfl⟩ := hcut
 clear hx hx2
 have hcn := Blk.drewN h nw
 have hk32 : Hid (k <= 31) := by have := hkk.out; unfold Hid; omega
 have hlr : Hid (r.at_ + (l.length + 1) = r.s.length) := by
  have h1 := congrArg List.length hd.out
  rw [List.length_drop, List.length_cons] at h1
  have h2 := hok.1
  unfold Hid; omega
 have hbig := hid hok.2.2
 have t1 : decide ((k : Int) < 24) = false := by have h1 := hk.out; have h2 := hk32.out; simp; omega
 have t2 : ((k : Int) == 31) = false := by have h1 := hk.out; have h2 := hk32.out; simp; omega
 have t3 : decide (28 <= (k : Int)) = false := by have h1 := hk.out; have h2 := hk32.out; simp; omega
 go_upto_region 17 with fail
 go_cut [8] (fun s wx => s = .int .i64 (S : Int) /\ wx = w.drewN nw)
 case first =>
  have hk4 : k = 24 \/ k = 25 \/ k = 26 \/ k = 27 := by have := hk.out; omega
  rcases hk4 with rfl | rfl | rfl | rfl
  all_goals go_wp2
  all_goals go_meet
  all_goals exact ⟨by rw [<- hS.out]; rfl, rfl⟩
 obtain ⟨rfl, rfl⟩ := hcut
 have hw3 : wrap64 (1 + (S : Int)) = 1 + (S : Int) := IntWalk.wrap64_in _ (by have := hS.out; have h2 : S <= 8 := by { have h1 := hk.out; rw [<- hS.out]; exact Nat.le_trans (Nat.pow_le_pow_right (by omega) (show k - 24 <= 3 by omega)) (by decide) }; omega)
 have hS8 : Hid (S <= 8) := by
  have h1 := hk.out
  unfold Hid
  rw [<- hS.out]
  exact Nat.le_trans (Nat.pow_le_pow_right (by omega) (show k - 24 <= 3 by omega)) (by decide)
 have t4 : decide ((l.length : Int) + 1 < 1 + (S : Int)) = false := by have := hs.out; simp; omega
 have t5 : (S : Int) <= (l.length : Int) := by have := hs.out; omega
 have t6 : (((headL m n).length : Int) == 1 + (S : Int)) = false := by have := hc.out; simp; omega
 have t7 : (((headL m n).length : Int) != 1 + (S : Int)) = true := by have := hc.out; simp; omega
 have hn64 : Hid (n < 18446744073709551616 /\ m <= 7) := by
  have h1 := fromBE_lt (l.take S)
  have h2 : (l.take S).length <= 8 := by have := hS8.out; rw [List.length_take]; omega
  have h3 : 2 ^ (8 * (l.take S).length) <= 2 ^ (8 * 8) := Nat.pow_le_pow_right (by omega) (by omega)
  rw [hn.out] at h1
  have := c.toNat_lt
  have := hmm.out
  exact ⟨Nat.lt_of_lt_of_le h1 h3, by omega⟩
 have hl8 : Hid ((l.take S).length <= 8) := by have := hS8.out; unfold Hid; rw [List.length_take]; omega
 go_wp2_with (first | (go_at_call 189; rw [extract_one]; refine (join_n (l.take S) hl8.out _).mono ?_; rintro x w2 ⟨rfl, hb2⟩; rw [hn.out]) | (go_at_call 177; refine (head_in m n (by omega) (by have := hn64.out; omega) (by omega) (by have := hn64.out; omega) _).mono ?_; rintro x w3 ⟨rfl, hb3⟩; simp only [Int.toNat_natCast]; have hr3 : RdAt w3 b r := (Blk.ext hcn hb2).ext hb3; have c1' := hr3.at_; have f1' := hr3.froz 1) | (go_at_call 171; refine (fail_any b r 2 _ hr3).mono ?_; rintro x w1 ⟨rfl, hmf, hrf⟩))
 go_ret3
 exact RetS.mk rfl ((((((Mod.refl _ _).drewN _).trans hb2.of_ext).trans hb3.of_ext)).trans hmf) hrf
set_option maxRecDepth 20000 in
set_option maxHeartbeats 400000 in
theorem head_good (b : Nat) (r : RS) (hok : r.ok) (h0 : Hid (r.e = 0)) (c : UInt8) (l : List UInt8) (hd : Hid (r.s.drop r.at_ = c :: l)) (m k : Nat) (hmm : Hid (c.toNat / 32 = m)) (hkk : Hid (c.toNat % 32 = k)) (S : Nat) (hS : Hid (2 ^ (k - 24) = S)) (hk : Hid (24 <= k /\ k < 28)) (n : Nat) (hn : Hid (fromBE (l.take S) = n)) (hs : Hid (S <= l.length)) (hc : Hid ((headL m n).length = 1 + S)) (w : World) (h : RdAt w b r) : Calls Tryz.prog 168 #[.pointer (some ⟨b, 0, none⟩)] w
  (RetS [b] (.tuple #[.int .i64 (m : Int), .int .u64 (n : Int), .bool false]) (fun w' => RdAt w' b { r with at_ := r.at_ + (1 + S) }) w) := by
 have c0 := h.s
 have c1 := h.at_
 have c3 : w.cell? ⟨b, 3, none⟩ = some (.int .i64 0) := by have := h.e; rw [h0.out] at this; exact this
 have f1 := h.froz 1
 have b1 := hok.1
 have hx := extract_rest r.s r.at_
 have hx2 := hd.out
 go_enter Tryz.func168, Tryz.ntmps168
 go_upto_region 3 with fail
 go_quiet (fail)
 go_upto_region 7 with fail
 go_cut [6, 7] (fun s6 s7 wx => s6 = .int .i64 (m : Int) /\ s7 = .int .i64 (k : Int) /\ ∃ n, wx = w.drewN n)
 case first =>
  have hlen : (0 : Int) < (l.length : Int) + 1 := by omega
  go_quiet (fail)
  go_wp2_with fail
  go_meet
  exact ⟨first_div c l _ hmm, first_mod c l _ hkk, _, World.drewN_drewN _ _ _⟩
 obtain ⟨rfl, rfl, nw, rfl⟩ := hcut
 clear hx hx2
 have hcn := Blk.drewN h nw
 have hk32 : Hid (k <= 31) := by have := hkk.out; unfold Hid; omega
 have hlr : Hid (r.at_ + (l.length + 1) = r.s.length) := by
  have h1 := congrArg List.length hd.out
  rw [List.length_drop, List.length_cons] at h1
  have h2 := hok.1
  unfold Hid; omega
 have hbig := hid hok.2.2
 have t1 : decide ((k : Int) < 24) = false := by have h1 := hk.out; have h2 := hk32.out; simp; omega
 have t2 : ((k : Int) == 31) = false := by have h1 := hk.out; have h2 := hk32.out; simp; omega
 have t3 : decide (28 <= (k : Int)) = false := by have h1 := hk.out; have h2 := hk32.out; simp; omega
 go_upto_region 17 with fail
 go_cut [8] (fun s wx => s = .int .i64 (S : Int) /\ wx = w.drewN nw)
 case first =>
  have hk4 : k = 24 \/ k = 25 \/ k = 26 \/ k = 27 := by have := hk.out; omega
  rcases hk4 with rfl | rfl | rfl | rfl
  all_goals go_wp2
  all_goals go_meet
  all_goals exact ⟨by rw [<- hS.out]; rfl, rfl⟩
 obtain ⟨rfl, rfl⟩ := hcut
 have hw3 : wrap64 (1 + (S : Int)) = 1 + (S : Int) := IntWalk.wrap64_in _ (by have := hS.out; have h2 : S <= 8 := by { have h1 := hk.out; rw [<- hS.out]; exact Nat.le_trans (Nat.pow_le_pow_right (by omega) (show k - 24 <= 3 by omega)) (by decide) }; omega)
 have hS8 : Hid (S <= 8) := by
  have h1 := hk.out
  unfold Hid
  rw [<- hS.out]
  exact Nat.le_trans (Nat.pow_le_pow_right (by omega) (show k - 24 <= 3 by omega)) (by decide)
 have t4 : decide ((l.length : Int) + 1 < 1 + (S : Int)) = false := by have := hs.out; simp; omega
 have t5 : (S : Int) <= (l.length : Int) := by have := hs.out; omega
 have t6 : (((headL m n).length : Int) == 1 + (S : Int)) = true := by have := hc.out; simp; omega
 have t7 : (((headL m n).length : Int) != 1 + (S : Int)) = false := by have := hc.out; simp; omega
 have hw4 : wrap64 ((r.at_ : Int) + (1 + (S : Int))) = ((r.at_ + (1 + S) : Nat) : Int) := IntWalk.wrap64_in _ (by have := hlr.out; have := hbig.out; have := hS8.out; omega)
 have hn64 : Hid (n < 18446744073709551616 /\ m <= 7) := by
  have h1 := fromBE_lt (l.take S)
  have h2 : (l.take S).length <= 8 := by have := hS8.out; rw [List.length_take]; omega
  have h3 : 2 ^ (8 * (l.take S).length) <= 2 ^ (8 * 8) := Nat.pow_le_pow_right (by omega) (by omega)
  rw [hn.out] at h1
  have := c.toNat_lt
  have := hmm.out
  exact ⟨Nat.lt_of_lt_of_le h1 h3, by omega⟩
 have hl8 : Hid ((l.take S).length <= 8) := by have := hS8.out; unfold Hid; rw [List.length_take]; omega
 go_wp2_with (first | (go_at_call 189; rw [extract_one]; refine (join_n (l.take S) hl8.out _).mono ?_; rintro x w2 ⟨rfl, hb2⟩; rw [hn.out]) | (go_at_call 177; refine (head_in m n (by omega) (by have := hn64.out; omega) (by omega) (by have := hn64.out; omega) _).mono ?_; rintro x w3 ⟨rfl, hb3⟩; simp only [Int.toNat_natCast]; have hr3 : RdAt w3 b r := (Blk.ext hcn hb2).ext hb3; have c1' := hr3.at_; have f1' := hr3.froz 1) | (go_at_call 171; refine (fail_any b r 2 _ hr3).mono ?_; rintro x w1 ⟨rfl, hmf, hrf⟩))
 go_ret3
 exact RetS.mk rfl (((((Mod.refl _ _).drewN _).trans hb2.of_ext).trans hb3.of_ext).setCell (.inl (by simp)) _) (Blk.set_ hr3 1 _)
theorem head_of {b : Nat} {w : World} {r r' : RS} {m n : Nat} {o : Bool} (hm : r.head = (r', m, n, o))
  (h : Calls Tryz.prog 168 #[.pointer (some ⟨b, 0, none⟩)] w (RetS [b] (.tuple #[.int .i64 (m : Int), .int .u64 (n : Int), .bool o]) (fun w' => RdAt w' b r') w)) :
  Calls Tryz.prog 168 #[.pointer (some ⟨b, 0, none⟩)] w
   (RetS [b] (.tuple #[.int .i64 (r.head.2.1 : Int), .int .u64 (r.head.2.2.1 : Int), .bool r.head.2.2.2]) (fun w' => RdAt w' b r.head.1) w) := by
 rw [hm]; exact h
theorem head_any_r (b : Nat) (r : RS) (hok : r.ok) (w : World) (h : RdAt w b r) : Calls Tryz.prog 168 #[.pointer (some ⟨b, 0, none⟩)] w
  (RetS [b] (.tuple #[.int .i64 (r.head.2.1 : Int), .int .u64 (r.head.2.2.1 : Int), .bool r.head.2.2.2]) (fun w' => RdAt w' b r.head.1) w) := by
 by_cases h0 : r.e = 0
 case neg => exact head_of (by unfold RS.head; rw [if_neg h0]) (head_off b r h0 w h)
 cases hd : r.s.drop r.at_ with
 | nil => exact head_of (by unfold RS.head; rw [if_pos h0, hd]; rfl) (head_end b r hok h0 hd w h)
 | cons c l =>
  have hc := c.toNat_lt
  by_cases h1 : c.toNat % 32 < 24
  . exact head_of (by unfold RS.head; rw [if_pos h0, hd]; unfold readH; dsimp only; rw [if_pos h1]) (head_small b r hok h0 c l hd _ _ rfl rfl h1 w h)
  by_cases h2 : c.toNat % 32 = 31
  .
   cases ho : opensB ((c.toNat / 32 : Nat) : Int)
   . exact head_of (by unfold RS.head; rw [if_pos h0, hd]; unfold readH; dsimp only; rw [if_neg h1, if_neg (by rw [ho]; simp), if_pos (by omega)]) (head_shut b r hok h0 c l hd _ _ rfl rfl h2 ho w h)
   . exact head_of (by unfold RS.head; rw [if_pos h0, hd]; unfold readH; dsimp only; rw [if_neg h1, if_pos ⟨h2, ho⟩]) (head_open b r hok h0 c l hd _ _ rfl rfl h2 ho w h)
  by_cases h3 : 28 <= c.toNat % 32
  . exact head_of (by unfold RS.head; rw [if_pos h0, hd]; unfold readH; dsimp only; rw [if_neg h1, if_neg (fun x => h2 x.1), if_pos h3]) (head_big b r hok h0 c l hd _ _ rfl rfl ⟨h3, h2⟩ w h)
  by_cases h4 : l.length < 2 ^ (c.toNat % 32 - 24)
  . exact head_of (by unfold RS.head; rw [if_pos h0, hd]; unfold readH; dsimp only; rw [if_neg h1, if_neg (fun x => h2 x.1), if_neg h3, if_pos h4]) (head_short b r hok h0 c l hd _ _ rfl rfl _ rfl ⟨by omega, by omega⟩ h4 w h)
  by_cases h5 : (headL (c.toNat / 32) (fromBE (l.take (2 ^ (c.toNat % 32 - 24))))).length = 1 + 2 ^ (c.toNat % 32 - 24)
  . exact head_of (by unfold RS.head; rw [if_pos h0, hd]; unfold readH; dsimp only; rw [if_neg h1, if_neg (fun x => h2 x.1), if_neg h3, if_neg h4, if_pos h5]) (head_good b r hok h0 c l hd _ _ rfl rfl _ rfl ⟨by omega, by omega⟩ _ rfl (Nat.le_of_not_lt h4) h5 w h)
  . exact head_of (by unfold RS.head; rw [if_pos h0, hd]; unfold readH; dsimp only; rw [if_neg h1, if_neg (fun x => h2 x.1), if_neg h3, if_neg h4, if_neg h5]) (head_long b r hok h0 c l hd _ _ rfl rfl _ rfl ⟨by omega, by omega⟩ _ rfl (Nat.le_of_not_lt h4) h5 w h)
set_option maxRecDepth 20000 in
set_option maxHeartbeats 400000 in
theorem Head_any_r (b : Nat) (r : RS) (hok : r.ok) (w : World) (h : RdAt w b r) : Calls Tryz.prog 139 #[.pointer (some ⟨b, 0, none⟩)] w
  (RetS [b] (.tuple #[.int .i64 (r.Head.2.1 : Int), .int .u64 (r.Head.2.2.1 : Int), .bool r.Head.2.2.2]) (fun w' => RdAt w' b r.Head.1) w) := by
 have c1 := h.at_
 have c4 := h.fr
 have f4 := h.froz 4
 have hs : RdAt (w.setCell ⟨b, 4, none⟩ (.int .i64 (r.at_ : Int))) b { r with fr := r.at_ } := Blk.set_ h 4 _
 have hok2 : RS.ok { r with fr := r.at_ } := ⟨hok.1, hok.1, hok.2.2⟩
 go_enter Tryz.func139, Tryz.ntmps139
 go_wp2_with (go_at_call 168; refine (head_any_r b _ hok2 _ hs).mono ?_; rintro x w1 ⟨rfl, hm, hr⟩)
 go_ret3
 exact RetS.mk rfl (((Mod.refl _ _).setCell (.inl (by simp)) _).trans hm) hr
set_option maxRecDepth 20000 in
set_option maxHeartbeats 400000 in
theorem At_any (b : Nat) (r : RS) (w : World) (h : RdAt w b r) : Calls Tryz.prog 141 #[.pointer (some ⟨b, 0, none⟩)] w fun e w' => e = .returned (.int .i64 r.at_) /\ w = w' := by
 have c1 := h.at_
 go_enter Tryz.func141, Tryz.ntmps141
 go_wp2
 go_ret
 exact ⟨rfl, rfl⟩
set_option maxRecDepth 20000 in
set_option maxHeartbeats 400000 in
theorem Array_e (b : Nat) (r : RS) (hok : r.ok) (he : Hid (r.Head.1.e ≠ 0)) (w : World) (h : RdAt w b r) : Calls Tryz.prog 144 #[.pointer (some ⟨b, 0, none⟩)] w (RetS [b] (.int .i64 0) (fun w' => RdAt w' b r.Head.1) w) := by
 have te : (r.Head.1.e != 0) = true := by have := he.out; simp [this]
 go_enter Tryz.func144, Tryz.ntmps144
 go_wp2_with (go_at_call 139; refine (Head_any_r b r hok _ h).mono ?_; rintro x w1 ⟨rfl, hm1, hr1⟩; have c0 := hr1.s; have c1 := hr1.at_; have c3 := hr1.e; have f1 := hr1.froz 1)
 go_ret
 exact RetS.mk rfl hm1 hr1
set_option maxRecDepth 20000 in
set_option maxHeartbeats 400000 in
theorem Array_m (b : Nat) (r : RS) (hok : r.ok) (he : Hid (r.Head.1.e = 0)) (hm : Hid (r.Head.2.1 ≠ 4)) (w : World) (h : RdAt w b r) : Calls Tryz.prog 144 #[.pointer (some ⟨b, 0, none⟩)] w (RetS [b] (.int .i64 0) (fun w' => RdAt w' b (r.Head.1.fail 2)) w) := by
 have te : (r.Head.1.e != 0) = false := by have := he.out; simp [this]
 have tm : ((r.Head.2.1 : Int) != 4) = true := by have := hm.out; simp; omega
 go_enter Tryz.func144, Tryz.ntmps144
 go_wp2_with (first | (go_at_call 139; refine (Head_any_r b r hok _ h).mono ?_; rintro x w1 ⟨rfl, hm1, hr1⟩; have c0 := hr1.s; have c1 := hr1.at_; have c3 := hr1.e; have f1 := hr1.froz 1) | (go_at_call 171; refine (fail_any b r.Head.1 2 _ (by first | exact hr1 | exact Blk.drewN hr1 _)).mono ?_; rintro x w2 ⟨rfl, hm2, hr2⟩))
 go_ret
 exact RetS.mk rfl (hm1.trans hm2) hr2
set_option maxRecDepth 20000 in
set_option maxHeartbeats 400000 in
theorem Array_o (b : Nat) (r : RS) (hok : r.ok) (he : Hid (r.Head.1.e = 0)) (hm : Hid (r.Head.2.1 = 4)) (ho : r.Head.2.2.2 = true) (w : World) (h : RdAt w b r) : Calls Tryz.prog 144 #[.pointer (some ⟨b, 0, none⟩)] w (RetS [b] (.int .i64 (-1)) (fun w' => RdAt w' b r.Head.1) w) := by
 have te : (r.Head.1.e != 0) = false := by have := he.out; simp [this]
 have tm : ((r.Head.2.1 : Int) != 4) = false := by have := hm.out; simp; omega
 go_enter Tryz.func144, Tryz.ntmps144
 go_wp2_with (go_at_call 139; refine (Head_any_r b r hok _ h).mono ?_; rintro x w1 ⟨rfl, hm1, hr1⟩; have c0 := hr1.s; have c1 := hr1.at_; have c3 := hr1.e; have f1 := hr1.froz 1)
 go_ret
 exact RetS.mk rfl hm1 hr1
set_option maxRecDepth 20000 in
set_option maxHeartbeats 400000 in
theorem Array_l (b : Nat) (r : RS) (hok : r.ok) (he : Hid (r.Head.1.e = 0)) (hm : Hid (r.Head.2.1 = 4)) (ho : r.Head.2.2.2 = false) (hn : Hid (1000 < r.Head.2.2.1)) (w : World) (h : RdAt w b r) : Calls Tryz.prog 144 #[.pointer (some ⟨b, 0, none⟩)] w (RetS [b] (.int .i64 0) (fun w' => RdAt w' b (r.Head.1.fail 4)) w) := by
 have te : (r.Head.1.e != 0) = false := by have := he.out; simp [this]
 have tm : ((r.Head.2.1 : Int) != 4) = false := by have := hm.out; simp; omega
 have tn : decide (1000 < (r.Head.2.2.1 : Int)) = true := by have := hn.out; simp; omega
 go_enter Tryz.func144, Tryz.ntmps144
 go_wp2_with (first | (go_at_call 139; refine (Head_any_r b r hok _ h).mono ?_; rintro x w1 ⟨rfl, hm1, hr1⟩; have c0 := hr1.s; have c1 := hr1.at_; have c3 := hr1.e; have f1 := hr1.froz 1) | (go_at_call 171; refine (fail_any b r.Head.1 4 _ (by first | exact hr1 | exact Blk.drewN hr1 _)).mono ?_; rintro x w2 ⟨rfl, hm2, hr2⟩))
 go_ret
 exact RetS.mk rfl (hm1.trans hm2) hr2
set_option maxRecDepth 20000 in
set_option maxHeartbeats 400000 in
theorem Array_g (b : Nat) (r : RS) (hok : r.ok) (he : Hid (r.Head.1.e = 0)) (hm : Hid (r.Head.2.1 = 4)) (ho : r.Head.2.2.2 = false) (hn : Hid (¬ 1000 < r.Head.2.2.1)) (w : World) (h : RdAt w b r) : Calls Tryz.prog 144 #[.pointer (some ⟨b, 0, none⟩)] w (RetS [b] (.int .i64 (r.Head.2.2.1 : Int)) (fun w' => RdAt w' b r.Head.1) w) := by
 have te : (r.Head.1.e != 0) = false := by have := he.out; simp [this]
 have tm : ((r.Head.2.1 : Int) != 4) = false := by have := hm.out; simp; omega
 have tn : decide (1000 < (r.Head.2.2.1 : Int)) = false := by have := hn.out; simp; omega
 have hw : Hid (wrap64 (r.Head.2.2.1 : Int) = (r.Head.2.2.1 : Int)) := IntWalk.wrap64_in _ (by have := hn.out; omega)
 go_enter Tryz.func144, Tryz.ntmps144
 go_wp2_with (go_at_call 139; refine (Head_any_r b r hok _ h).mono ?_; rintro x w1 ⟨rfl, hm1, hr1⟩; have c0 := hr1.s; have c1 := hr1.at_; have c3 := hr1.e; have f1 := hr1.froz 1)
 go_ret
 exact RetS.mk (congrArg (Value.int .i64) hw.out) hm1 hr1
theorem Array_any (b : Nat) (r : RS) (hok : r.ok) (w : World) (h : RdAt w b r) : Calls Tryz.prog 144 #[.pointer (some ⟨b, 0, none⟩)] w (RetS [b] (.int .i64 r.Array.2) (fun w' => RdAt w' b r.Array.1) w) := by
 by_cases he : r.Head.1.e = 0
 .
  by_cases hm : r.Head.2.1 = 4
  .
   cases ho : r.Head.2.2.2
   .
    by_cases hn : 1000 < r.Head.2.2.1
    .
     have e : r.Array = (r.Head.1.fail 4, 0) := by unfold RS.Array; rw [if_pos he, if_neg (fun x => x hm), if_neg (by simp [ho]), if_pos hn]
     rw [e]; exact Array_l b r hok he hm ho hn w h
    .
     have e : r.Array = (r.Head.1, (r.Head.2.2.1 : Int)) := by unfold RS.Array; rw [if_pos he, if_neg (fun x => x hm), if_neg (by simp [ho]), if_neg hn]
     rw [e]; exact Array_g b r hok he hm ho hn w h
   .
    have e : r.Array = (r.Head.1, -1) := by unfold RS.Array; rw [if_pos he, if_neg (fun x => x hm), if_pos ho]
    rw [e]; exact Array_o b r hok he hm ho w h
  .
   have e : r.Array = (r.Head.1.fail 2, 0) := by unfold RS.Array; rw [if_pos he, if_pos hm]
   rw [e]; exact Array_m b r hok he hm w h
 .
  have e : r.Array = (r.Head.1, 0) := by unfold RS.Array; rw [if_neg he]
  rw [e]; exact Array_e b r hok he w h
set_option maxRecDepth 20000 in
set_option maxHeartbeats 400000 in
theorem str_e (b : Nat) (r : RS) (hok : r.ok) (want : Nat) (most : Int) (he : Hid (r.Head.1.e ≠ 0)) (w : World) (h : RdAt w b r) : Calls Tryz.prog 190 #[.pointer (some ⟨b, 0, none⟩), .int .i64 (want : Int), .int .i64 most] w (RetS [b] (str []) (fun w' => RdAt w' b r.Head.1) w) := by
 have te : (r.Head.1.e != 0) = true := by have := he.out; simp [this]
 go_enter Tryz.func190, Tryz.ntmps190
 go_wp2_with (go_at_call 139; refine (Head_any_r b r hok _ h).mono ?_; rintro x w1 ⟨rfl, hm1, hr1⟩; have c0 := hr1.s; have c1 := hr1.at_; have c3 := hr1.e; have f1 := hr1.froz 1)
 go_ret
 exact RetS.mk rfl hm1 hr1
set_option maxRecDepth 20000 in
set_option maxHeartbeats 400000 in
theorem str_m (b : Nat) (r : RS) (hok : r.ok) (want : Nat) (most : Int) (he : Hid (r.Head.1.e = 0)) (hm : Hid (r.Head.2.1 ≠ want)) (w : World) (h : RdAt w b r) : Calls Tryz.prog 190 #[.pointer (some ⟨b, 0, none⟩), .int .i64 (want : Int), .int .i64 most] w (RetS [b] (str []) (fun w' => RdAt w' b (r.Head.1.fail 2)) w) := by
 have te : (r.Head.1.e != 0) = false := by have := he.out; simp [this]
 have tm : ((r.Head.2.1 : Int) != (want : Int)) = true := by have := hm.out; simp; omega
 go_enter Tryz.func190, Tryz.ntmps190
 go_upto_region 4 with (go_at_call 139; refine (Head_any_r b r hok _ h).mono ?_; rintro x w1 ⟨rfl, hm1, hr1⟩; have c0 := hr1.s; have c1 := hr1.at_; have c3 := hr1.e; have f1 := hr1.froz 1)
 go_quiet (fail)
 go_wp2_with (go_at_call 171; refine (fail_any b r.Head.1 2 _ (by first | exact hr1 | exact Blk.drewN hr1 _)).mono ?_; rintro x w2 ⟨rfl, hm2, hr2⟩)
 go_ret
 exact RetS.mk rfl ((hm1.drewN _).trans hm2) hr2
set_option maxRecDepth 20000 in
set_option maxHeartbeats 400000 in
theorem str_o (b : Nat) (r : RS) (hok : r.ok) (want : Nat) (most : Int) (he : Hid (r.Head.1.e = 0)) (hm : Hid (r.Head.2.1 = want)) (ho : r.Head.2.2.2 = true) (w : World) (h : RdAt w b r) : Calls Tryz.prog 190 #[.pointer (some ⟨b, 0, none⟩), .int .i64 (want : Int), .int .i64 most] w (RetS [b] (str []) (fun w' => RdAt w' b (r.Head.1.fail 2)) w) := by
 have te : (r.Head.1.e != 0) = false := by have := he.out; simp [this]
 have tm : ((r.Head.2.1 : Int) != (want : Int)) = false := by have := hm.out; simp; omega
 go_enter Tryz.func190, Tryz.ntmps190
 go_upto_region 4 with (go_at_call 139; refine (Head_any_r b r hok _ h).mono ?_; rintro x w1 ⟨rfl, hm1, hr1⟩; have c0 := hr1.s; have c1 := hr1.at_; have c3 := hr1.e; have f1 := hr1.froz 1)
 go_quiet (fail)
 go_wp2_with (go_at_call 171; refine (fail_any b r.Head.1 2 _ (by first | exact hr1 | exact Blk.drewN hr1 _)).mono ?_; rintro x w2 ⟨rfl, hm2, hr2⟩)
 go_ret
 exact RetS.mk rfl ((hm1.drewN _).trans hm2) hr2
set_option maxRecDepth 20000 in
set_option maxHeartbeats 400000 in
theorem str_s (b : Nat) (r : RS) (hok : r.ok) (want : Nat) (most : Int) (he : Hid (r.Head.1.e = 0)) (hm : Hid (r.Head.2.1 = want)) (ho : r.Head.2.2.2 = false) (hn : Hid (r.Head.1.s.length - r.Head.1.at_ < r.Head.2.2.1)) (w : World) (h : RdAt w b r) : Calls Tryz.prog 190 #[.pointer (some ⟨b, 0, none⟩), .int .i64 (want : Int), .int .i64 most] w (RetS [b] (str []) (fun w' => RdAt w' b (r.Head.1.fail 2)) w) := by
 have te : (r.Head.1.e != 0) = false := by have := he.out; simp [this]
 have tm : ((r.Head.2.1 : Int) != (want : Int)) = false := by have := hm.out; simp; omega
 have hok1 := RS.Head_ok hok
 have hle := hid hok1.1
 have hbig := hid hok1.2.2
 have hw : IntKind.u64.wrap (wrap64 ((r.Head.1.s.length : Int) - (r.Head.1.at_ : Int))) = (r.Head.1.s.length : Int) - (r.Head.1.at_ : Int) := by
  have h1 := hle.out; have h2 := hbig.out
  rw [IntWalk.wrap64_in _ (by omega), IntWalk.u64_in _ (by omega)]
 have tn : decide ((r.Head.1.s.length : Int) - (r.Head.1.at_ : Int) < (r.Head.2.2.1 : Int)) = true := by have h1 := hn.out; have h2 := hle.out; simp; omega
 go_enter Tryz.func190, Tryz.ntmps190
 go_upto_region 4 with (go_at_call 139; refine (Head_any_r b r hok _ h).mono ?_; rintro x w1 ⟨rfl, hm1, hr1⟩; have c0 := hr1.s; have c1 := hr1.at_; have c3 := hr1.e; have f1 := hr1.froz 1)
 go_quiet (fail)
 go_wp2_with (go_at_call 171; refine (fail_any b r.Head.1 2 _ (by first | exact hr1 | exact Blk.drewN hr1 _)).mono ?_; rintro x w2 ⟨rfl, hm2, hr2⟩)
 go_ret
 exact RetS.mk rfl ((hm1.drewN _).trans hm2) hr2
set_option maxRecDepth 20000 in
set_option maxHeartbeats 400000 in
theorem str_l1 (b : Nat) (r : RS) (hok : r.ok) (want : Nat) (most : Int) (he : Hid (r.Head.1.e = 0)) (hm : Hid (r.Head.2.1 = want)) (ho : r.Head.2.2.2 = false) (hn : Hid (¬ r.Head.1.s.length - r.Head.1.at_ < r.Head.2.2.1)) (hl : Hid (most < 0)) (w : World) (h : RdAt w b r) : Calls Tryz.prog 190 #[.pointer (some ⟨b, 0, none⟩), .int .i64 (want : Int), .int .i64 most] w (RetS [b] (str []) (fun w' => RdAt w' b (r.Head.1.fail 4)) w) := by
 have te : (r.Head.1.e != 0) = false := by have := he.out; simp [this]
 have tm : ((r.Head.2.1 : Int) != (want : Int)) = false := by have := hm.out; simp; omega
 have hok1 := RS.Head_ok hok
 have hle := hid hok1.1
 have hbig := hid hok1.2.2
 have hw : IntKind.u64.wrap (wrap64 ((r.Head.1.s.length : Int) - (r.Head.1.at_ : Int))) = (r.Head.1.s.length : Int) - (r.Head.1.at_ : Int) := by
  have h1 := hle.out; have h2 := hbig.out
  rw [IntWalk.wrap64_in _ (by omega), IntWalk.u64_in _ (by omega)]
 have tn : decide ((r.Head.1.s.length : Int) - (r.Head.1.at_ : Int) < (r.Head.2.2.1 : Int)) = false := by have h1 := hn.out; have h2 := hle.out; simp; omega
 have t1 : decide (most < 0) = true := by have := hl.out; simp; omega
 go_enter Tryz.func190, Tryz.ntmps190
 go_upto_region 4 with (go_at_call 139; refine (Head_any_r b r hok _ h).mono ?_; rintro x w1 ⟨rfl, hm1, hr1⟩; have c0 := hr1.s; have c1 := hr1.at_; have c3 := hr1.e; have f1 := hr1.froz 1)
 go_quiet (fail)
 go_wp2_with (go_at_call 171; refine (fail_any b r.Head.1 4 _ (by first | exact hr1 | exact Blk.drewN hr1 _)).mono ?_; rintro x w2 ⟨rfl, hm2, hr2⟩)
 go_ret
 exact RetS.mk rfl ((hm1.drewN _).trans hm2) hr2
set_option maxRecDepth 20000 in
set_option maxHeartbeats 400000 in
theorem str_l2 (b : Nat) (r : RS) (hok : r.ok) (want : Nat) (most : Int) (hmb : Hid (most < 9223372036854775808)) (he : Hid (r.Head.1.e = 0)) (hm : Hid (r.Head.2.1 = want)) (ho : r.Head.2.2.2 = false) (hn : Hid (¬ r.Head.1.s.length - r.Head.1.at_ < r.Head.2.2.1)) (hl : Hid (0 <= most /\ most < (r.Head.2.2.1 : Int))) (w : World) (h : RdAt w b r) : Calls Tryz.prog 190 #[.pointer (some ⟨b, 0, none⟩), .int .i64 (want : Int), .int .i64 most] w (RetS [b] (str []) (fun w' => RdAt w' b (r.Head.1.fail 4)) w) := by
 have te : (r.Head.1.e != 0) = false := by have := he.out; simp [this]
 have tm : ((r.Head.2.1 : Int) != (want : Int)) = false := by have := hm.out; simp; omega
 have hok1 := RS.Head_ok hok
 have hle := hid hok1.1
 have hbig := hid hok1.2.2
 have hw : IntKind.u64.wrap (wrap64 ((r.Head.1.s.length : Int) - (r.Head.1.at_ : Int))) = (r.Head.1.s.length : Int) - (r.Head.1.at_ : Int) := by
  have h1 := hle.out; have h2 := hbig.out
  rw [IntWalk.wrap64_in _ (by omega), IntWalk.u64_in _ (by omega)]
 have tn : decide ((r.Head.1.s.length : Int) - (r.Head.1.at_ : Int) < (r.Head.2.2.1 : Int)) = false := by have h1 := hn.out; have h2 := hle.out; simp; omega
 have t1 : decide (most < 0) = false := by have := hl.out; simp; omega
 have hwm : IntKind.u64.wrap most = most := IntWalk.u64_in _ (by have h1 := hl.out; have h2 := hmb.out; omega)
 have t2 : decide (most < (r.Head.2.2.1 : Int)) = true := by have := hl.out; simp; omega
 go_enter Tryz.func190, Tryz.ntmps190
 go_upto_region 4 with (go_at_call 139; refine (Head_any_r b r hok _ h).mono ?_; rintro x w1 ⟨rfl, hm1, hr1⟩; have c0 := hr1.s; have c1 := hr1.at_; have c3 := hr1.e; have f1 := hr1.froz 1)
 go_quiet (fail)
 go_wp2_with (go_at_call 171; refine (fail_any b r.Head.1 4 _ (by first | exact hr1 | exact Blk.drewN hr1 _)).mono ?_; rintro x w2 ⟨rfl, hm2, hr2⟩)
 go_ret
 exact RetS.mk rfl ((hm1.drewN _).trans hm2) hr2
set_option maxRecDepth 20000 in
set_option maxHeartbeats 400000 in
theorem str_g (b : Nat) (r : RS) (hok : r.ok) (want : Nat) (most : Int) (hmb : Hid (most < 9223372036854775808)) (he : Hid (r.Head.1.e = 0)) (hm : Hid (r.Head.2.1 = want)) (ho : r.Head.2.2.2 = false) (hn : Hid (¬ r.Head.1.s.length - r.Head.1.at_ < r.Head.2.2.1)) (hl : Hid (0 <= most /\ (r.Head.2.2.1 : Int) <= most)) (w : World) (h : RdAt w b r) : Calls Tryz.prog 190 #[.pointer (some ⟨b, 0, none⟩), .int .i64 (want : Int), .int .i64 most] w (RetS [b] (str ((r.Head.1.s.drop r.Head.1.at_).take r.Head.2.2.1)) (fun w' => RdAt w' b { r.Head.1 with at_ := r.Head.1.at_ + r.Head.2.2.1 }) w) := by
 have te : (r.Head.1.e != 0) = false := by have := he.out; simp [this]
 have tm : ((r.Head.2.1 : Int) != (want : Int)) = false := by have := hm.out; simp; omega
 have hok1 := RS.Head_ok hok
 have hle := hid hok1.1
 have hbig := hid hok1.2.2
 have hw : IntKind.u64.wrap (wrap64 ((r.Head.1.s.length : Int) - (r.Head.1.at_ : Int))) = (r.Head.1.s.length : Int) - (r.Head.1.at_ : Int) := by
  have h1 := hle.out; have h2 := hbig.out
  rw [IntWalk.wrap64_in _ (by omega), IntWalk.u64_in _ (by omega)]
 have tn : decide ((r.Head.1.s.length : Int) - (r.Head.1.at_ : Int) < (r.Head.2.2.1 : Int)) = false := by have h1 := hn.out; have h2 := hle.out; simp; omega
 have t1 : decide (most < 0) = false := by have := hl.out; simp; omega
 have hwm : IntKind.u64.wrap most = most := IntWalk.u64_in _ (by have h1 := hl.out; have h2 := hmb.out; omega)
 have t2 : decide (most < (r.Head.2.2.1 : Int)) = false := by have := hl.out; simp; omega
 have hw1 : wrap64 (r.Head.2.2.1 : Int) = (r.Head.2.2.1 : Int) := IntWalk.wrap64_in _ (by have h1 := hn.out; have h2 := hbig.out; omega)
 have hw2 : wrap64 ((r.Head.1.at_ : Int) + (r.Head.2.2.1 : Int)) = ((r.Head.1.at_ + r.Head.2.2.1 : Nat) : Int) := IntWalk.wrap64_in _ (by have h1 := hn.out; have h2 := hbig.out; have h3 := hle.out; omega)
 have hsl : (r.Head.1.at_ : Int) + (r.Head.2.2.1 : Int) <= (r.Head.1.s.length : Int) := by have h1 := hn.out; have h3 := hle.out; omega
 have hex : Hid (_ = _) := (extract_str r.Head.1.s r.Head.1.at_ (r.Head.1.at_ + r.Head.2.2.1)).trans (by rw [Nat.add_sub_cancel_left])
 go_enter Tryz.func190, Tryz.ntmps190
 go_upto_region 4 with (go_at_call 139; refine (Head_any_r b r hok _ h).mono ?_; rintro x w1 ⟨rfl, hm1, hr1⟩; have c0 := hr1.s; have c1 := hr1.at_; have c3 := hr1.e; have f1 := hr1.froz 1)
 go_quiet (fail)
 go_upto_region 10 with fail
 go_quiet (fail)
 go_wp2
 go_ret
 exact RetS.mk hex.out ((hm1.drewN _).setCell (.inl (List.mem_singleton.2 rfl)) _) (Blk.set_ (Blk.drewN hr1 _) 1 _)
theorem str_any (b : Nat) (r : RS) (hok : r.ok) (want : Nat) (most : Int) (hmb : most < 9223372036854775808) (w : World) (h : RdAt w b r) : Calls Tryz.prog 190 #[.pointer (some ⟨b, 0, none⟩), .int .i64 (want : Int), .int .i64 most] w (RetS [b] (str (r.str want most).2) (fun w' => RdAt w' b (r.str want most).1) w) := by
 by_cases he : r.Head.1.e = 0
 .
  by_cases hm : r.Head.2.1 = want
  .
   cases ho : r.Head.2.2.2
   .
    by_cases hn : r.Head.1.s.length - r.Head.1.at_ < r.Head.2.2.1
    .
     have e : r.str want most = (r.Head.1.fail 2, []) := by unfold RS.str; rw [if_pos he, if_pos (.inr (.inr hn))]
     rw [e]; exact str_s b r hok want most he hm ho hn w h
    .
     have hno : ¬ (r.Head.2.1 ≠ want \/ r.Head.2.2.2 = true \/ r.Head.1.s.length - r.Head.1.at_ < r.Head.2.2.1) := by rw [ho]; simp [hm, hn]
     by_cases h1 : most < 0
     .
      have e : r.str want most = (r.Head.1.fail 4, []) := by unfold RS.str; rw [if_pos he, if_neg hno, if_pos (.inl h1)]
      rw [e]; exact str_l1 b r hok want most he hm ho hn h1 w h
     .
      by_cases h2 : most < (r.Head.2.2.1 : Int)
      .
       have e : r.str want most = (r.Head.1.fail 4, []) := by unfold RS.str; rw [if_pos he, if_neg hno, if_pos (.inr h2)]
       rw [e]; exact str_l2 b r hok want most hmb he hm ho hn ⟨by omega, h2⟩ w h
      .
       have e : r.str want most = ({ r.Head.1 with at_ := r.Head.1.at_ + r.Head.2.2.1 }, (r.Head.1.s.drop r.Head.1.at_).take r.Head.2.2.1) := by
        unfold RS.str; rw [if_pos he, if_neg hno, if_neg (by rintro (x | x); exact h1 x; exact h2 x)]
       rw [e]; exact str_g b r hok want most hmb he hm ho hn ⟨by omega, by omega⟩ w h
   .
    have e : r.str want most = (r.Head.1.fail 2, []) := by unfold RS.str; rw [if_pos he, if_pos (.inr (.inl ho))]
    rw [e]; exact str_o b r hok want most he hm ho w h
  .
   have e : r.str want most = (r.Head.1.fail 2, []) := by unfold RS.str; rw [if_pos he, if_pos (.inl hm)]
   rw [e]; exact str_m b r hok want most he hm w h
 .
  have e : r.str want most = (r.Head.1, []) := by unfold RS.str; rw [if_neg he]
  rw [e]; exact str_e b r hok want most he w h
set_option maxRecDepth 20000 in
set_option maxHeartbeats 400000 in
theorem RBytes_any (b : Nat) (r : RS) (hok : r.ok) (most : Int) (hmb : Hid (most < 9223372036854775808)) (w : World) (h : RdAt w b r) : Calls Tryz.prog 169 #[.pointer (some ⟨b, 0, none⟩), .int .i64 most] w (RetS [b] (str (r.str 2 most).2) (fun w' => RdAt w' b (r.str 2 most).1) w) := by
 go_enter Tryz.func169, Tryz.ntmps169
 go_wp2_with (go_at_call 190; refine (str_any b r hok 2 most hmb.out _ h).mono ?_; rintro x w1 ⟨rfl, hm, hr⟩)
 go_ret
 exact RetS.mk rfl hm hr
set_option maxRecDepth 20000 in
set_option maxHeartbeats 400000 in
theorem RText_any (b : Nat) (r : RS) (hok : r.ok) (most : Int) (hmb : Hid (most < 9223372036854775808)) (w : World) (h : RdAt w b r) : Calls Tryz.prog 170 #[.pointer (some ⟨b, 0, none⟩), .int .i64 most] w (RetS [b] (str (r.str 3 most).2) (fun w' => RdAt w' b (r.str 3 most).1) w) := by
 go_enter Tryz.func170, Tryz.ntmps170
 go_wp2_with (go_at_call 190; refine (str_any b r hok 3 most hmb.out _ h).mono ?_; rintro x w1 ⟨rfl, hm, hr⟩)
 go_ret
 exact RetS.mk rfl hm hr
set_option maxRecDepth 20000 in
set_option maxHeartbeats 400000 in
theorem Bad_any (b : Nat) (r : RS) (w : World) (h : RdAt w b r) : Calls Tryz.prog 140 #[.pointer (some ⟨b, 0, none⟩)] w (Ret (.tuple #[.int .i64 r.bad, .int .i64 r.e]) w) := by
 have c2 := h.bad
 have c3 := h.e
 go_enter Tryz.func140, Tryz.ntmps140
 go_upto_region 1 with fail
 go_quiet (fail)
 go_wp2
 go_ret2
 exact Ret.mk rfl ((Mod.refl _ _).drewN _)
end Go.Proofs.YtmckfdmdkljomaaGreatDoor
