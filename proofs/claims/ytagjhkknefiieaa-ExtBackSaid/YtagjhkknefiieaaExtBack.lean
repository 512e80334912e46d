/-
  The law ExtBack: its walk.
-/
import Derived.Test.YtagjhkknefiieaaExtR3
namespace Go.Proofs.Ytagjhkknefiieaa
open Go.RowKit
set_option linter.unusedVariables false

set_option maxRecDepth 20000 in
set_option maxHeartbeats 3200000 in
theorem extBack_walk (e : EV) (n : Nat) (hn : Hid (n < 18446744073709551616)) (h0 h1 : Nat) (hh0 : Hid (h0 ≤ 255)) (hh1 : Hid (h1 ≤ 255)) (w : World) : Calls Try.prog 5 #[e.v, .int .u64 (n : Int), .agg #[.int .u8 (h0 : Int), .int .u8 (h1 : Int)]] w (Ret (.bool true) w) := by
  have KR := hid (fun W => r10_any e W)
  have HE0 := hid (((Mod.refl [] w).alloc (.cells e.c 24)).alloc (.cells #[.int .u8 (h0 : Int), .int .u8 (h1 : Int)] 50))
  have HB0 := hid ((Blk.new w 24 e.c).alloc (.cells #[.int .u8 (h0 : Int), .int .u8 (h1 : Int)] 50))
  have HH0 : Hid (Blk ((w.alloc (.cells e.c 24)).alloc (.cells #[.int .u8 (h0 : Int), .int .u8 (h1 : Int)] 50)) (w.heap.size + 1) 50 #[.int .u8 (h0 : Int), .int .u8 (h1 : Int)]) := by
    have := Blk.new (w.alloc (.cells e.c 24)) 50 #[.int .u8 (h0 : Int), .int .u8 (h1 : Int)]
    unfold Hid
    simpa using this
  go_enter Try.func5, Try.ntmps5
  go_wp2_with fail
  refine (awake14_any _).mono ?_
  rintro e1 w1 ⟨rfl, hb1⟩
  have HE1 := hid (HE0.out.trans hb1)
  have HB1 := hid (HB0.out.ext hb1)
  have HH1 := hid (HH0.out.ext hb1)
  clear hb1
  go_wp2_with (refine wpList_row (by rfl) 24 _ rfl _ rfl HB1.out Try.underlying24 rfl (by kernel_rfl) ?_)
  refine (KR.out _).mono ?_
  rintro e1 w2 ⟨rfl, hb2⟩
  have HE2 := hid (HE1.out.trans hb2)
  have HB2 := hid (HB1.out.ext hb2)
  have HH2 := hid (HH1.out.ext hb2)
  clear hb2
  by_cases ho : e.ok = true
  case neg =>
    have ho2 : e.ok = false := by simpa using ho
    rw [ho2]
    go_wp2_with fail
    refine (awake14_any _).mono ?_
    rintro e1 w3 ⟨rfl, hb3⟩
    go_wp2_with fail
    go_ret
    exact Ret.mk rfl (HE2.out.trans hb3)
  rw [ho]
  have KP := hid (fun W => Prev_yes e ho W)
  have KQ := hid (fun W => ReadPrev_yes e ho W)
  have KA := hid (fun W => Age_yes (n % 1099511627776) (by omega) W)
  have KB := hid (fun W => ReadAge_yes (n % 1099511627776) (by omega) W)
  obtain ⟨l, hl⟩ : ∃ l : Nat, l = max h0 1 := ⟨_, rfl⟩
  have hm : mayB (l : Int) (h1 : Int) = true := by have := hh0.out; have := hh1.out; simp [mayB]; omega
  have KH := hid (fun W => Hops_yes l h1 hm W)
  have KI := hid (fun W => ReadHops_yes l h1 hm W)
  clear hm ho KR
  generalize (eidT e).bytes = Z at *
  generalize (130 : UInt8) :: (headL 0 l ++ headL 0 h1) = X at *
  have en : (n : Int) % 1099511627776 = ((n % 1099511627776 : Nat) : Int) := by omega
  generalize n % 1099511627776 = m at *
  generalize headL 0 m = Y at *
  go_wp2_with (refine wpList_row (by rfl) 24 _ rfl _ rfl HB2.out Try.underlying24 rfl (by kernel_rfl) ?_)
  refine (KP.out _).mono ?_
  rintro e1 w3 ⟨rfl, hb3⟩
  have HE3 := hid (HE2.out.trans hb3)
  have HB3 := hid (HB2.out.ext hb3)
  have HH3 := hid (HH2.out.ext hb3)
  clear hb3
  go_wp2_with fail
  refine (KQ.out _).mono ?_
  rintro e1 w4 ⟨rfl, hb4⟩
  have HE4 := hid ((HE3.out.trans hb4).alloc (.cells e.c 24))
  have HB4 := hid ((HB3.out.ext hb4).alloc (.cells e.c 24))
  have HH4 := hid ((HH3.out.ext hb4).alloc (.cells e.c 24))
  have HV4 := hid (Blk.new w4 24 e.c)
  clear hb4
  go_wp2_with fail
  refine (KA.out _).mono ?_
  rintro e1 w5 ⟨rfl, hb5⟩
  have HE5 := hid (HE4.out.trans hb5)
  have HB5 := hid (HB4.out.ext hb5)
  have HH5 := hid (HH4.out.ext hb5)
  have HV5 := hid (HV4.out.ext hb5)
  clear hb5
  go_wp2_with fail
  refine (KB.out _).mono ?_
  rintro e1 w6 ⟨rfl, hb6⟩
  have HE6 := hid (HE5.out.trans hb6)
  have HB6 := hid (HB5.out.ext hb6)
  have HH6 := hid (HH5.out.ext hb6)
  have HV6 := hid (HV5.out.ext hb6)
  clear hb6
  have y0 : w6.cell? ⟨w.heap.size + 1, 0, none⟩ = some (.int .u8 (h0 : Int)) := HH6.out.cell 0
  have y1 : w6.cell? ⟨w.heap.size + 1, 1, none⟩ = some (.int .u8 (h1 : Int)) := HH6.out.cell 1
  have b0 := hh0.out
  have b1 := hh1.out
  by_cases hz : h0 = 0
  · subst hz
    obtain rfl : l = 1 := hl
    go_wp2_with fail
    refine (KH.out _).mono ?_
    rintro e1 w7 ⟨rfl, hb7⟩
    have HE7 := hid (HE6.out.trans hb7)
    have HB7 := hid (HB6.out.ext hb7)
    have HH7 := hid (HH6.out.ext hb7)
    have HV7 := hid (HV6.out.ext hb7)
    clear hb7 y0 y1
    go_wp2_with fail
    refine (KI.out _).mono ?_
    rintro e1 w8 ⟨rfl, hb8⟩
    have HE8 := hid (HE7.out.trans hb8)
    have HB8 := hid (HB7.out.ext hb8)
    have HV8 := hid (HV7.out.ext hb8)
    have y1 : w8.cell? ⟨w.heap.size + 1, 1, none⟩ = some (.int .u8 (h1 : Int)) := (HH7.out.ext hb8).cell 1
    clear hb8
    go_wp2_with (first
      | (refine wpList_row (by rfl) 24 _ rfl _ rfl HB8.out Try.underlying24 rfl (by kernel_rfl) ?_)
      | (refine wpList_row (by rfl) 24 _ rfl _ rfl HV8.out Try.underlying24 rfl (by kernel_rfl) ?_))
    go_ret
    exact Ret.mk rfl HE8.out
  · obtain rfl : l = h0 := by omega
    have hz1 : 1 ≤ l := by omega
    have m1 : ((l : Int) < 1) = False := by simp; omega
    clear hl hz
    go_wp2_with fail
    refine (KH.out _).mono ?_
    rintro e1 w7 ⟨rfl, hb7⟩
    have HE7 := hid (HE6.out.trans hb7)
    have HB7 := hid (HB6.out.ext hb7)
    have HH7 := hid (HH6.out.ext hb7)
    have HV7 := hid (HV6.out.ext hb7)
    clear hb7 y0 y1
    go_wp2_with fail
    refine (KI.out _).mono ?_
    rintro e1 w8 ⟨rfl, hb8⟩
    have HE8 := hid (HE7.out.trans hb8)
    have HB8 := hid (HB7.out.ext hb8)
    have HV8 := hid (HV7.out.ext hb8)
    have y1 : w8.cell? ⟨w.heap.size + 1, 1, none⟩ = some (.int .u8 (h1 : Int)) := (HH7.out.ext hb8).cell 1
    clear hb8
    go_wp2_with (first
      | (refine wpList_row (by rfl) 24 _ rfl _ rfl HB8.out Try.underlying24 rfl (by kernel_rfl) ?_)
      | (refine wpList_row (by rfl) 24 _ rfl _ rfl HV8.out Try.underlying24 rfl (by kernel_rfl) ?_))
    go_ret
    exact Ret.mk rfl HE8.out
end Go.Proofs.Ytagjhkknefiieaa
