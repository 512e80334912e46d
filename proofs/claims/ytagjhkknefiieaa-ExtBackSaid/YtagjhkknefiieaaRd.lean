/-
  The walks of package cbor's reading functions: join, fail.
-/
import Derived.Test.YtagjhkknefiieaaOpen
import Derived.Test.YtagjhkknefiieaaRdPlain
import Derived.Lib.Strings
namespace Go.Proofs.Ytagjhkknefiieaa
open Go.RowKit
set_option linter.unusedVariables false

def RS.cells (r : RS) : _root_.Array Value := rdr r.s r.at_ r.bad r.e r.fr
/-- The reader behind a pointer. -/
def RdAt (w : World) (b : Nat) (r : RS) : Prop := Blk w b 137 r.cells
section
variable {w : World} {b : Nat} {r : RS}
theorem RdAt.s (h : RdAt w b r) : w.cell? ⟨b, 0, none⟩ = some (str r.s) := Blk.cell h 0
theorem RdAt.at_ (h : RdAt w b r) : w.cell? ⟨b, 1, none⟩ = some (.int .i64 r.at_) := Blk.cell h 1
theorem RdAt.bad (h : RdAt w b r) : w.cell? ⟨b, 2, none⟩ = some (.int .i64 r.bad) := Blk.cell h 2
theorem RdAt.e (h : RdAt w b r) : w.cell? ⟨b, 3, none⟩ = some (.int .i64 r.e) := Blk.cell h 3
theorem RdAt.fr (h : RdAt w b r) : w.cell? ⟨b, 4, none⟩ = some (.int .i64 r.fr) := Blk.cell h 4
end

theorem beq0_false {x : Int} (h : x ≠ 0) : (x == 0) = false := by simp [h]
set_option maxHeartbeats 400000 in
theorem fail_bad (b : Nat) (r : RS) (e : Int) (h0 : Hid (r.e ≠ 0)) (w : World) (h : RdAt w b r) : Calls Try.prog 94 #[.pointer (some ⟨b, 0, none⟩), .int .i64 e] w fun x w' => x = .returned (.tuple #[]) ∧ w = w' := by
  have c3 := h.e
  have t := beq0_false h0.out
  go_enter Try.func94, Try.ntmps94
  go_wp2
  go_end0
  exact ⟨rfl, rfl⟩
set_option maxHeartbeats 400000 in
theorem fail_good (b : Nat) (r : RS) (e : Int) (h0 : Hid (r.e = 0)) (w : World) (h : RdAt w b r) : Calls Try.prog 94 #[.pointer (some ⟨b, 0, none⟩), .int .i64 e] w
    fun x w' => x = .returned (.tuple #[]) ∧ w' = ((w.setCell ⟨b, 1, none⟩ (.int .i64 r.fr)).setCell ⟨b, 2, none⟩ (.int .i64 r.fr)).setCell ⟨b, 3, none⟩ (.int .i64 e) := by
  have c1 := h.at_
  have c2 := h.bad
  have c3 : w.cell? ⟨b, 3, none⟩ = some (.int .i64 0) := by have := h.e; rw [h0.out] at this; exact this
  have c4 := h.fr
  have f1 := Blk.frozen h 1
  have f2 := Blk.frozen h 2
  have f3 := Blk.frozen h 3
  go_enter Try.func94, Try.ntmps94
  go_wp2
  go_end0
  exact ⟨rfl, rfl⟩
theorem fail_any (b : Nat) (r : RS) (e : Int) (w : World) (h : RdAt w b r) : Calls Try.prog 94 #[.pointer (some ⟨b, 0, none⟩), .int .i64 e] w (RetS [b] (.tuple #[]) (fun w' => RdAt w' b (r.fail e)) w) := by
  by_cases h0 : r.e = 0
  · refine (fail_good b r e h0 w h).mono ?_
    rintro x w' ⟨rfl, rfl⟩
    refine RetS.mk rfl ((((Mod.refl _ _).setCell (.inl (by simp)) _).setCell (.inl (by simp)) _).setCell (.inl (by simp)) _) ?_
    unfold RS.fail
    rw [if_pos h0]
    exact ((Blk.set_ h 1 _).set_ 2 _).set_ 3 _
  · refine (fail_bad b r e h0 w h).mono ?_
    rintro x w' ⟨rfl, rfl⟩
    refine RetS.mk rfl (Mod.refl _ _) ?_
    unfold RS.fail
    rw [if_neg h0]
    exact h

/-! The number of bytes. -/
theorem or_byte_small (n c : Nat) (hc : c < 256) : (n * 256) ||| c = n * 256 + c := by
  rw [show n * 256 = n <<< 8 from by simp [Nat.shiftLeft_eq], ← Nat.shiftLeft_add_eq_or_of_lt (by simpa using hc)]
theorem join_val {n : Nat} (c : UInt8) (h : n < 72057594037927936) : Value.int .u64 (bits .or .u64 (IntKind.u64.wrap ((n : Int) * 256)) (IntKind.u64.wrap (c.toNat : Int))) = .int .u64 ((n * 256 + c.toNat : Nat) : Int) := by
  have hc := c.toNat_lt
  rw [IntWalk.u64_in _ (by omega), IntWalk.u64_in _ (by omega)]
  have := u64_or_nat (n * 256) c.toNat (by omega) (by omega)
  rw [or_byte_small _ _ (by omega)] at this
  rw [← this]; simp
theorem join_step {l : List UInt8} {j q : Nat} {x : UInt8} (hj : j < l.length) (hl : l.length ≤ 8) (hx : l[j] = x) (hq : fromBE (l.take j) = q) :
    Value.int .u64 (bits .or .u64 (IntKind.u64.wrap ((q : Int) * 256)) (IntKind.u64.wrap (x.toNat : Int))) = .int .u64 ((fromBE (l.take (j + 1)) : Nat) : Int) := by
  have hlt := fromBE_lt (l.take j)
  have hle : (l.take j).length ≤ 7 := by rw [List.length_take]; omega
  have hp : 2 ^ (8 * (l.take j).length) ≤ 2 ^ (8 * 7) := Nat.pow_le_pow_right (by omega) (by omega)
  rw [join_val x (by rw [← hq]; exact Nat.lt_of_lt_of_le hlt (by simpa using hp)), List.take_succ_eq_append_getElem hj, fromBE_snoc, hq, hx]
theorem cell_bytesRow (w : World) (l : List UInt8) (cap t : Nat) (fz : Nat × Nat) (j : Nat) (h : j < l.length) :
    (w.alloc (.cells (bytesRow ⟨l.toArray⟩ cap) t fz)).cell? ⟨w.heap.size, j, none⟩ = some (.int .u8 (l[j].toNat : Int)) := by
  rw [World.cell?_alloc_mark]
  simp only [bytesRow]
  rw [Array.getElem?_append_left (by simpa using h)]
  simp [h]
set_option maxHeartbeats 400000 in
theorem join_n (l : List UInt8) (hl : l.length ≤ 8) (w : World) : Calls Try.prog 97 #[str l] w (Ret (.int .u64 (fromBE l)) w) := by
  have hconv := fun (w : World) (s : ByteArray) => run_bytes_of_string (P := Try.prog) w 9 97 5 s Try.underlying9 Try.underlying97 Try.underlying5
  go_enter Try.func97, Try.ntmps97
  go_wp2
  have hext : Ext w ((w.alloc (Obj.cells (bytesRow { data := l.toArray } (grownCap w l.length 0 5)) 5 ((bytesRow { data := l.toArray } (grownCap w l.length 0 5)).size, (bytesRow { data := l.toArray } (grownCap w l.length 0 5)).size + 1))).drew) :=
    ((Mod.refl _ _).alloc _).drew
  have hcell : ∀ j (h : j < l.length), ((w.alloc (Obj.cells (bytesRow { data := l.toArray } (grownCap w l.length 0 5)) 5 ((bytesRow { data := l.toArray } (grownCap w l.length 0 5)).size, (bytesRow { data := l.toArray } (grownCap w l.length 0 5)).size + 1))).drew).cell? ⟨w.heap.size, j, none⟩ = some (.int .u8 (l[j].toNat : Int)) := by
    intro j h
    rw [World.cell?_drew]
    exact cell_bytesRow w l _ _ _ j h
  generalize hW : World.drew (World.alloc w _) = W at *
  have HW := hid hW; clear hW
  have HC := hid hcell; clear hcell
  go_loop [3, 9] (fun n i => ∃ j : Nat, j ≤ l.length ∧ i = .int .i64 j ∧ n = .int .u64 ((fromBE (l.take j) : Nat) : Int)) (fun _ i => l.length - (intOf i).toNat)
  case atStart => exact ⟨0, Nat.zero_le _, rfl, rfl⟩
  case round =>
    obtain ⟨j, hj, rfl, rfl⟩ := hrel
    by_cases hlt : j < l.length
    · have hc := HC.out j hlt
      generalize hx : l[j] = x at *
      generalize hq : fromBE (l.take j) = q at *
      have HX := hid hx; clear hx
      have HQ := hid hq; clear hq
      go_wp2
      go_round
      case rel => exact ⟨j + 1, by omega, by go_num, join_step hlt hl HX.out HQ.out⟩
      case measure => simp [intOf]; omega
    · obtain rfl : j = l.length := by omega
      have ht : l.take l.length = l := List.take_length
      rw [ht]
      go_wp2
      go_ret
      exact ⟨rfl, hext⟩
theorem RdAt.froz {w : World} {b : Nat} {r : RS} (h : RdAt w b r) (i : Nat) : w.frozen? ⟨b, i, none⟩ = false := Blk.frozen h i
theorem extract_str (l : List UInt8) (a b : Nat) : Value.string ((⟨l.toArray⟩ : ByteArray).extract a b) = str ((l.drop a).take (b - a)) := by
  rw [Go.Lib.extract_eq]
theorem extract_rest (l : List UInt8) (a : Nat) : Value.string ((⟨l.toArray⟩ : ByteArray).extract a l.length) = str (l.drop a) := by
  rw [extract_str, List.take_of_length_le]; simp

set_option maxHeartbeats 400000 in
theorem head_off (b : Nat) (r : RS) (h0 : Hid (r.e ≠ 0)) (w : World) (h : RdAt w b r) : Calls Try.prog 91 #[.pointer (some ⟨b, 0, none⟩)] w
    (RetS [b] (.tuple #[.int .i64 0, .int .u64 0, .bool false]) (fun w' => RdAt w' b r) w) := by
  have c3 := h.e
  have t : (r.e != 0) = true := by simp [h0.out]
  go_enter Try.func91, Try.ntmps91
  go_wp2
  go_ret3
  exact RetS.mk rfl (Mod.refl _ _) h
set_option maxHeartbeats 400000 in
theorem head_end (b : Nat) (r : RS) (hok : r.ok) (h0 : Hid (r.e = 0)) (hend : Hid (r.s.drop r.at_ = [])) (w : World) (h : RdAt w b r) : Calls Try.prog 91 #[.pointer (some ⟨b, 0, none⟩)] w
    (RetS [b] (.tuple #[.int .i64 0, .int .u64 0, .bool false]) (fun w' => RdAt w' b (r.fail 2)) w) := by
  have c0 := h.s
  have c1 := h.at_
  have c3 : w.cell? ⟨b, 3, none⟩ = some (.int .i64 0) := by have := h.e; rw [h0.out] at this; exact this
  have b1 := hok.1
  have hx := extract_rest r.s r.at_
  have hx2 := hend.out
  go_enter Try.func91, Try.ntmps91
  go_upto_region 3 with fail
  go_quiet (fail)
  go_wp2_with (go_at_call 94; refine (fail_any b r 2 _ (Blk.drewN h nq)).mono ?_; rintro x w' ⟨rfl, hm, hr⟩)
  go_ret3
  exact RetS.mk rfl (((Mod.refl _ _).drewN nq).trans hm) hr
end Go.Proofs.Ytagjhkknefiieaa
