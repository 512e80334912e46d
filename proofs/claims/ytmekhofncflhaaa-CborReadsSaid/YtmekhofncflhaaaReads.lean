/-
  The law CborReads: its walk.
-/
import Derived.Test.YtmekhofncflhaaaCall
namespace Go.Proofs.Ytmekhofncflhaaa
open Go.RowKit
set_option linter.unusedVariables false

set_option maxRecDepth 20000 in
set_option maxHeartbeats 400000 in
theorem Done_q (b : Nat) (r : RS) (w : World) (h : RdAt w b r) : Calls Try.prog 18 #[.pointer (some ⟨b, 0, none⟩)] w fun e w' => e = .returned (.bool r.done) ∧ ∃ n, w' = w.drewN n := by
  have c0 := h.s
  have c1 := h.at_
  by_cases h0 : r.e = 0
  · have c3 : w.cell? ⟨b, 3, none⟩ = some (.int .i64 0) := by have := h.e; rw [h0] at this; exact this
    have e : Hid (Value.bool ((r.at_ : Int) == (r.s.length : Int)) = Value.bool r.done) := by unfold RS.done Hid; rw [show decide (r.e = 0) = true from by simp [h0]]; congr 1; rw [Bool.eq_iff_iff]; simp; omega
    have H0 := hid h0; clear h0
    go_enter Try.func18, Try.ntmps18
    go_upto_region 1 with fail
    go_quiet (fail)
    go_wp2
    go_ret
    exact ⟨congrArg Ending.returned e.out, _, rfl⟩
  · have c3 := h.e
    have te : (r.e == 0) = false := by simp [h0]
    have e : Hid (Value.bool false = Value.bool r.done) := by unfold RS.done Hid; rw [show decide (r.e = 0) = false from by simp [h0]]; rfl
    have H0 := hid h0; clear h0
    go_enter Try.func18, Try.ntmps18
    go_upto_region 1 with fail
    go_quiet (fail)
    go_wp2
    go_ret
    exact ⟨congrArg Ending.returned e.out, _, rfl⟩

theorem sim_rrV {a b : RS} (h : RS.sim a b) : rrV a = rrV b := by
  obtain ⟨h1, h2, h3, h4⟩ := h
  unfold rrV; rw [h1, h2, h3, h4]

theorem mod_cells {S : List Nat} {W w1 : World} (hb : Mod S W w1) : ∀ b o, b < W.heap.size → b ∉ S → w1.cell? ⟨b, o, none⟩ = W.cell? ⟨b, o, none⟩ := fun b o h hs => hb.cell h hs

/-- A slice of calls that came in. -/
def IsOps (w : World) (A : Option Addr) (xs : List (Nat × Int)) : Prop :=
  0 < xs.length → ∃ b o, A = some ⟨b, o, none⟩ ∧ b < w.heap.size ∧ ∀ i (h : i < xs.length), xs[i].1 < 256 ∧ xs[i].2 < 9223372036854775808 ∧
    w.cell? ⟨b, o + i * 2, none⟩ = some (.int .u8 (xs[i].1 : Int)) ∧ w.cell? ⟨b, o + i * 2 + 1, none⟩ = some (.int .i64 xs[i].2)

theorem neq_told (t : RS.Told) (w : World) : (binOp .neq 47 (tV t) (tV t)).run Try.prog w = .ok (.bool false) w := by
  unfold tV toldV
  simp [go_sem]

theorem fresh_call {r : RS} (hf : r.fresh) {k : Nat} (hk : k < 6) (N : Int) : (r.call k N).1.fresh := by
  have h := (RS.call_sim hf hk N).2
  intro he
  have h4 : (r.rdo k N).1.e = 0 := by rw [h.2.2.2]; exact he
  rw [← h.2.2.1]
  unfold RS.rdo at h4 ⊢
  by_cases h0 : r.e = 0
  · rw [if_pos h0] at h4 ⊢
    revert h4
    split
    · intro x; exact absurd x (by simp [RS.rf])
    · cases readH (r.s.drop r.at_) with
      | none => intro x; exact absurd x (by simp [RS.rf])
      | some x =>
        obtain ⟨sz, m, n, o⟩ := x
        dsimp only
        repeat' split
        all_goals (intro x; first | rfl | exact absurd x (by simp [RS.rf]))
  · rw [if_neg h0] at h4; exact absurd h4 h0
theorem ok_call {r : RS} (h : r.ok) (k : Nat) (N : Int) : (r.call k N).1.ok := by
  unfold RS.call
  repeat' split
  · exact RS.Head_ok h
  · exact RS.Uint_ok h
  · exact RS.str_ok h _ _
  · exact RS.str_ok h _ _
  · exact RS.Array_ok h
  · exact RS.Fail_ok h _
theorem rstr_s (r : RS) (want : Nat) (most : Int) : (r.str want most).1.s = r.s := by
  unfold RS.str; repeat' split
  all_goals first | exact RS.Head_s r | exact (RS.fail_s _ _).trans (RS.Head_s r)
theorem s_call (r : RS) (k : Nat) (N : Int) : (r.call k N).1.s = r.s := by
  unfold RS.call
  repeat' split
  · exact RS.Head_s r
  · unfold RS.Uint; split
    · exact (RS.fail_s _ _).trans (RS.Head_s r)
    · exact RS.Head_s r
  · exact rstr_s r _ _
  · exact rstr_s r _ _
  · unfold RS.Array; repeat' split
    all_goals first | exact RS.Head_s r | exact (RS.fail_s _ _).trans (RS.Head_s r)
  · unfold RS.Fail; split <;> rfl

set_option maxRecDepth 20000 in
set_option maxHeartbeats 1600000 in
theorem reads_loop (L : List UInt8) (A : Option Addr) (cap : Nat) (xs : List (Nat × Int)) (hL : Hid (¬ 500 < L.length)) (hX : Hid (¬ 40 < xs.length)) (w : World) (hops : Hid (IsOps w A xs)) :
    Calls Try.prog 7 #[str L, .slice A xs.length cap] w (Ret (.bool true) w) := by
  have t1 : decide (500 < (L.length : Int)) = false := by have := hL.out; simp; omega
  have t2 : decide (40 < (xs.length : Int)) = false := by have := hX.out; simp; omega
  go_enter Try.func7, Try.ntmps7
  go_upto_region 3 with (go_at_call 12; refine (awake1_any _).mono ?_; rintro e w1 ⟨rfl, hb1⟩)
  go_cut [5] (fun s wx => ∃ rb, s = .pointer (some ⟨rb, 0, none⟩) ∧ w.heap.size ≤ rb ∧ Ext w wx ∧ RdAt wx rb (RS.new L))
  case first =>
    go_wp2_with (go_at_call 16; refine (newReader_rd L _).mono ?_; rintro e w2 ⟨rfl, hb2, hr2⟩)
    go_meet
    exact ⟨_, rfl, hb1.size, hb1.trans hb2, hr2⟩
  obtain ⟨rb, rfl, hrb, hE, hr⟩ := hcut
  go_upto_region 4 with fail
  go_cut [6] (fun s wx => ∃ wb, s = .pointer (some ⟨wb, 0, none⟩) ∧ w.heap.size ≤ wb ∧ wb ≠ rb ∧ Ext w wx ∧ RdAt wx rb (RS.new L) ∧ Blk wx wb 45 #[str L, .int .i64 0, .int .i64 (-1), .int .i64 0])
  case first =>
    go_wp2_with fail
    go_meet
    exact ⟨_, rfl, hE.size, by have := Blk.lt hr; omega, hE.alloc _, Blk.alloc hr _, Blk.new _ _ _⟩
  obtain ⟨wb, rfl, hwb, hne, hE2, hr2, B0⟩ := hcut
  go_wp2_with fail
  go_loopw [7] (fun i wr => ∃ (j : Nat) (r : RS), j ≤ xs.length ∧ i = .int .i64 j ∧ Ext w wr ∧ RdAt wr rb r ∧ r.ok ∧ r.fresh ∧ r.s = L ∧ Blk wr wb 45 #[str r.s, .int .i64 (r.at_ : Int), .int .i64 r.bad, .int .i64 r.e]) (fun i _ => xs.length - (intOf i).toNat)
  case atStart => exact ⟨0, RS.new L, Nat.zero_le _, rfl, hE2, hr2, RS.new_ok (by have := hL.out; omega), fun _ => rfl, rfl, B0⟩
  case round =>
    obtain ⟨j, r, hj, rfl, hE3, hr3, hok, hfr, hs, B1⟩ := hrel
    have HS := hid hs; clear hs
    have HF := hid hfr; clear hfr
    have HOK := hid hok; clear hok
    by_cases hlt : j < xs.length
    · obtain ⟨ab, ao, hA, hab, hcells⟩ := hops.out (by omega)
      obtain ⟨hk256, hN63, k0, k1⟩ := hcells j hlt
      have hkb : ∀ (wx : World), Ext w wx → wx.cell? ⟨ab, ao + j * 2, none⟩ = some (.int .u8 (xs[j].1 : Int)) ∧ wx.cell? ⟨ab, ao + j * 2 + 1, none⟩ = some (.int .i64 xs[j].2) := fun wx hx =>
        ⟨(hx.cell hab (by simp)).trans k0, (hx.cell hab (by simp)).trans k1⟩
      clear k0 k1 hcells
      generalize hkd : xs[j].1 = kd at *
      generalize hN : xs[j].2 = N at *
      have HKB := hid hkb
      obtain ⟨k0, k1⟩ := hkb _ hE3
      clear hkb
      have H256 := hid hk256; clear hk256
      have H63 := hid hN63; clear hN63
      have HKD := hid hkd; clear hkd
      have HN := hid hN; clear hN
      subst hA
      obtain ⟨v0, v1, v2, v3⟩ := blk4 B1
      have hj1 : (0 : Int) ≤ (j : Int) := by omega
      have hj2 : (j : Int) < (xs.length : Int) := by omega
      have hn2 : ∀ n : Nat, n < n + 1 + 1 := fun n => by omega
      have hwb9 := Blk.lt B1
      have hab9 : ab < wr.heap.size := Nat.lt_of_lt_of_le hab hE3.size
      have hq5 : wr.heap.size ≠ wb := by omega
      have hq6 : wr.heap.size + 1 ≠ wb := by omega
      have hq7 : wr.heap.size ≠ ab := by omega
      have hq8 : wr.heap.size + 1 ≠ ab := by omega
      have tj : decide (j < xs.length) = true := by simp [hlt]
      go_upto_region 8 with fail
      go_cut [8, 9] (fun s8 s9 wx => ∃ g8 g9, s8 = .pointer (some ⟨g8, 0, none⟩) ∧ s9 = .pointer (some ⟨g9, 0, none⟩) ∧ wr.heap.size ≤ g8 ∧ wr.heap.size ≤ g9 ∧ g9 < wx.heap.size ∧ Ext wr wx ∧
        (wx.cell? ⟨g8, 0, none⟩ = some (str (r.rdo (kd % 6) N).1.s) ∧ wx.cell? ⟨g8, 1, none⟩ = some (.int .i64 ((r.rdo (kd % 6) N).1.at_ : Int)) ∧ wx.cell? ⟨g8, 2, none⟩ = some (.int .i64 (r.rdo (kd % 6) N).1.bad) ∧ wx.cell? ⟨g8, 3, none⟩ = some (.int .i64 (r.rdo (kd % 6) N).1.e)) ∧
        wx.cell? ⟨g9, 0, none⟩ = some (.int .i64 ((r.rdo (kd % 6) N).2.1 : Int)) ∧ wx.cell? ⟨g9, 1, none⟩ = some (.int .u64 ((r.rdo (kd % 6) N).2.2.1 : Int)) ∧ wx.cell? ⟨g9, 2, none⟩ = some (.bool (r.rdo (kd % 6) N).2.2.2.1) ∧ wx.cell? ⟨g9, 3, none⟩ = some (str (r.rdo (kd % 6) N).2.2.2.2.1) ∧ wx.cell? ⟨g9, 4, none⟩ = some (.int .i64 (r.rdo (kd % 6) N).2.2.2.2.2))
      case first =>
        go_region_held3 (fun w' => w'.cell? ⟨wb, 0, none⟩ = some (str r.s) ∧ w'.cell? ⟨wb, 1, none⟩ = some (.int .i64 (r.at_ : Int)) ∧ w'.cell? ⟨wb, 2, none⟩ = some (.int .i64 r.bad) ∧ w'.cell? ⟨wb, 3, none⟩ = some (.int .i64 r.e) ∧ w'.cell? ⟨ab, ao + j * 2, none⟩ = some (.int .u8 (kd : Int)) ∧ w'.cell? ⟨ab, ao + j * 2 + 1, none⟩ = some (.int .i64 N))
          (go_keep)
          (first | (go_at_call 30; refine (do_any r HOK.out kd H256.out N H63.out _).mono ?_; rintro e w3 ⟨rfl, hb3⟩; unfold rrV tV toldV; obtain ⟨hc3, hf3⟩ := ext_cells hb3; have hz3 := hb3.size; (try simp at hz3); have hs0 : w3.cell? ⟨wb, 0, none⟩ = some (str r.s) := (hc3 _ _ (by first | (simp; omega) | (simp; done))).trans (by go_simp); have hs1 : w3.cell? ⟨wb, 1, none⟩ = some (.int .i64 (r.at_ : Int)) := (hc3 _ _ (by first | (simp; omega) | (simp; done))).trans (by go_simp); have hs2 : w3.cell? ⟨wb, 2, none⟩ = some (.int .i64 r.bad) := (hc3 _ _ (by first | (simp; omega) | (simp; done))).trans (by go_simp); have hs3 : w3.cell? ⟨wb, 3, none⟩ = some (.int .i64 r.e) := (hc3 _ _ (by first | (simp; omega) | (simp; done))).trans (by go_simp); have hs4 : w3.cell? ⟨ab, ao + j * 2, none⟩ = some (.int .u8 (kd : Int)) := (hc3 _ _ (by first | (simp; omega) | (simp; done))).trans (by go_simp); have hs5 : w3.cell? ⟨ab, ao + j * 2 + 1, none⟩ = some (.int .i64 N) := (hc3 _ _ (by first | (simp; omega) | (simp; done))).trans (by go_simp); (try (have hq1 : w3.heap.size ≠ wb := by omega)); (try (have hq2 : w3.heap.size + 1 ≠ wb := by omega)); (try (have hq3 : w3.heap.size ≠ ab := by omega)); (try (have hq4 : w3.heap.size + 1 ≠ ab := by omega)); (try (have hz4 : wr.heap.size < w3.heap.size := by omega)); (try (have hz6 : wr.heap.size ≠ w3.heap.size := by omega)); (try (have hz5 : wr.heap.size + 1 < w3.heap.size := by omega)); (try (have hz7 : wr.heap.size + 1 ≠ w3.heap.size := by omega))))
        all_goals go_wp2_with fail
        all_goals go_meet
        all_goals refine ⟨_, _, rfl, rfl, by omega, by omega, by go_simp <;> omega, ?_, ⟨by go_simp, by go_simp, by go_simp, by go_simp⟩, by go_simp, by go_simp, by go_simp, by go_simp, by go_simp⟩
        all_goals repeat (first | with_reducible refine Mod.drew ?_ | with_reducible refine Mod.setCell ?_ (.inr ?_) _ | with_reducible refine Mod.alloc ?_ _ | (with_reducible refine Mod.trans ?_ hb3; clear hb3) | with_reducible exact Mod.refl _ _)
        all_goals (dsimp only; omega)
      obtain ⟨g8, g9, rfl, rfl, hg8, hg9, hg9s, hE4, ⟨m0, m1, m2, m3⟩, p0, p1, p2, p3, p4⟩ := hcut
      have hrblt := Blk.lt hr3
      have hwblt := Blk.lt B1
      have hr4 : RdAt wc rb r := Blk.ext hr3 hE4
      have B2 := B1.ext hE4
      have hE5 : Ext w wc := hE3.trans hE4
      clear v0 v1 v2 v3 k0 k1
      obtain ⟨v0, v1, v2, v3⟩ := blk4 B2
      have z0 := B2.frozen
      have hn8 : wb ≠ g8 := by omega
      have hn9 : wb ≠ g9 := by omega
      have hsim := RS.call_sim HF.out (show kd % 6 < 6 by omega) N
      have HSIM := hid hsim
      clear hsim
      go_upto_region 9 with fail
      go_cut [7] (fun s wx => s = .int .i64 (j : Int) ∧ Ext w wx ∧ RdAt wx rb r ∧ Blk wx wb 45 #[str (r.rdo (kd % 6) N).1.s, .int .i64 ((r.rdo (kd % 6) N).1.at_ : Int), .int .i64 (r.rdo (kd % 6) N).1.bad, .int .i64 (r.rdo (kd % 6) N).1.e] ∧
        (g9 < wx.heap.size ∧ wx.cell? ⟨g9, 0, none⟩ = some (.int .i64 ((r.rdo (kd % 6) N).2.1 : Int)) ∧ wx.cell? ⟨g9, 1, none⟩ = some (.int .u64 ((r.rdo (kd % 6) N).2.2.1 : Int)) ∧ wx.cell? ⟨g9, 2, none⟩ = some (.bool (r.rdo (kd % 6) N).2.2.2.1) ∧ wx.cell? ⟨g9, 3, none⟩ = some (str (r.rdo (kd % 6) N).2.2.2.2.1) ∧ wx.cell? ⟨g9, 4, none⟩ = some (.int .i64 (r.rdo (kd % 6) N).2.2.2.2.2)))
      case first =>
        go_wp2_with fail
        go_meet
        refine ⟨rfl, ?_, ?_, ?_, by go_simp <;> omega, by go_simp, by go_simp, by go_simp, by go_simp, by go_simp⟩
        · repeat (first | with_reducible refine Mod.setCell ?_ (.inr ?_) _ | with_reducible exact hE5)
          all_goals exact hwb
        · exact Blk.far (Blk.far (Blk.far (Blk.far hr4 (Ne.symm hne) _) (Ne.symm hne) _) (Ne.symm hne) _) (Ne.symm hne) _
        · refine cast ?_ ((((B2.set_ 0 (str (r.rdo (kd % 6) N).1.s)).set_ 1 (.int .i64 ((r.rdo (kd % 6) N).1.at_ : Int))).set_ 2 (.int .i64 (r.rdo (kd % 6) N).1.bad)).set_ 3 (.int .i64 (r.rdo (kd % 6) N).1.e))
          rfl
      clear v0 v1 v2 v3 z0 hg9s B2 hE4 hE5 hr4 hg8 hn8 m0 m1 m2 m3 p0 p1 p2 p3 p4 hrblt hwblt
      obtain ⟨rfl, hE6, hr6, B6, hg9s, p0, p1, p2, p3, p4⟩ := hcut
      obtain ⟨ht, hs1, hs2, hs3, hs4⟩ := HSIM.out
      rw [hs1, hs2, hs3, hs4] at B6
      rw [ht] at p0 p1 p2 p3 p4
      clear ht hs1 hs2 hs3 hs4
      obtain ⟨k0, k1⟩ := HKB.out _ hE6
      have hrblt := Blk.lt hr6
      have hwblt := Blk.lt B6
      have hab9 : ab < wc.heap.size := Nat.lt_of_lt_of_le hab hE6.size
      have n1 : ab ≠ rb := by omega
      have n2 : wb ≠ rb := hne
      have n3 : g9 ≠ rb := by have := Blk.lt hr3; omega
      go_step
      go_step
      go_cut [7] (fun s wx => s = .int .i64 (j : Int) ∧ Ext w wx ∧ RdAt wx rb (r.call (kd % 6) N).1 ∧ Blk wx wb 45 #[str (r.call (kd % 6) N).1.s, .int .i64 ((r.call (kd % 6) N).1.at_ : Int), .int .i64 (r.call (kd % 6) N).1.bad, .int .i64 (r.call (kd % 6) N).1.e])
      case first =>
        go_upto_region 10 with fail
        go_region_held3 (fun w' => (w'.cell? ⟨ab, ao + j * 2, none⟩ = some (.int .u8 (kd : Int)) ∧ w'.cell? ⟨ab, ao + j * 2 + 1, none⟩ = some (.int .i64 N)) ∧ w'.cell? ⟨g9, 0, none⟩ = some (.int .i64 ((r.call (kd % 6) N).2.1 : Int)) ∧ w'.cell? ⟨g9, 1, none⟩ = some (.int .u64 ((r.call (kd % 6) N).2.2.1 : Int)) ∧ w'.cell? ⟨g9, 2, none⟩ = some (.bool (r.call (kd % 6) N).2.2.2.1) ∧ w'.cell? ⟨g9, 3, none⟩ = some (str (r.call (kd % 6) N).2.2.2.2.1) ∧ w'.cell? ⟨g9, 4, none⟩ = some (.int .i64 (r.call (kd % 6) N).2.2.2.2.2))
          (go_keep)
          (first | (go_at_call 31; refine (call_any rb r HOK.out kd H256.out N H63 _ (by exact hr6)).mono ?_; rintro e w3 ⟨rfl, hb3, hr3⟩; have hc3 := mod_cells hb3; have hs0 : w3.cell? ⟨ab, ao + j * 2, none⟩ = some (.int .u8 (kd : Int)) := (hc3 _ _ (by first | (simp; omega) | (simp; done)) (by simp [n1, n2, n3])).trans (by go_simp); have hs1 : w3.cell? ⟨ab, ao + j * 2 + 1, none⟩ = some (.int .i64 N) := (hc3 _ _ (by first | (simp; omega) | (simp; done)) (by simp [n1, n2, n3])).trans (by go_simp); have hs2 : w3.cell? ⟨g9, 0, none⟩ = some (.int .i64 ((r.call (kd % 6) N).2.1 : Int)) := (hc3 _ _ (by first | (simp; omega) | (simp; done)) (by simp [n1, n2, n3])).trans (by go_simp); have hs3 : w3.cell? ⟨g9, 1, none⟩ = some (.int .u64 ((r.call (kd % 6) N).2.2.1 : Int)) := (hc3 _ _ (by first | (simp; omega) | (simp; done)) (by simp [n1, n2, n3])).trans (by go_simp); have hs4 : w3.cell? ⟨g9, 2, none⟩ = some (.bool (r.call (kd % 6) N).2.2.2.1) := (hc3 _ _ (by first | (simp; omega) | (simp; done)) (by simp [n1, n2, n3])).trans (by go_simp); have hs5 : w3.cell? ⟨g9, 3, none⟩ = some (str (r.call (kd % 6) N).2.2.2.2.1) := (hc3 _ _ (by first | (simp; omega) | (simp; done)) (by simp [n1, n2, n3])).trans (by go_simp); have hs6 : w3.cell? ⟨g9, 4, none⟩ = some (.int .i64 (r.call (kd % 6) N).2.2.2.2.2) := (hc3 _ _ (by first | (simp; omega) | (simp; done)) (by simp [n1, n2, n3])).trans (by go_simp); unfold tV toldV))
        all_goals go_wp2_with fail
        all_goals go_meet
        all_goals refine ⟨rfl, ?_, ?_, ?_⟩
        all_goals first
          | (refine Mod.new (S := [rb]) ?_ (fun k hk => .inr (by simp at hk; omega))
             repeat (first | with_reducible refine Mod.drew ?_ | (with_reducible refine Mod.trans ?_ hb3; clear hb3) | with_reducible exact hE6.of_ext))
          | with_reducible exact hr3
          | with_reducible exact Blk.drew hr3
          | exact Blk.mod (Blk.drew B6) hb3 (by simp; exact n2)
          | exact Blk.drew (Blk.mod (Blk.drew B6) hb3 (by simp; exact n2))
          | skip
      clear hE6 hr6 B6 hg9s hrblt hwblt p0 p1 p2 p3 p4 k0 k1 n3
      obtain ⟨rfl, hE7, hr7, B7⟩ := hcut
      generalize hc : r.call (kd % 6) N = c at *
      have HC := hid hc
      clear hc
      obtain ⟨v0, v1, v2, v3⟩ := blk4 B7
      have fok : c.1.ok := by rw [← HC.out]; exact ok_call HOK.out _ _
      have ffr : c.1.fresh := by rw [← HC.out]; exact fresh_call HF.out (by omega) _
      have fs : c.1.s = L := by rw [← HC.out, s_call]; exact HS.out
      have FOK := hid fok; have FFR := hid ffr; have FS := hid fs
      clear fok ffr fs HC
      generalize c.1 = r' at *
      go_upto_region 12 with fail
      go_cut [10, 11] (fun s t wx => s = .int .i64 r'.bad ∧ t = .int .i64 r'.e ∧ Ext w wx ∧ RdAt wx rb r' ∧ Blk wx wb 45 #[str r'.s, .int .i64 (r'.at_ : Int), .int .i64 r'.bad, .int .i64 r'.e])
      case first =>
        go_wp2_with (go_at_call 32; refine (Bad_any rb r' _ (by exact hr7)).mono ?_; rintro e w4 ⟨rfl, hb4⟩)
        go_meet
        exact ⟨rfl, rfl, hE7.trans hb4, Blk.ext hr7 hb4, Blk.ext B7 hb4⟩
      clear v0 v1 v2 v3 hE7 hr7 B7
      obtain ⟨rfl, rfl, hE8, hr8, B8⟩ := hcut
      obtain ⟨v0, v1, v2, v3⟩ := blk4 B8
      go_step
      go_step
      go_cut [11, 89] (fun _ s wx => s = .bool false ∧ Ext w wx ∧ RdAt wx rb r' ∧ Blk wx wb 45 #[str r'.s, .int .i64 (r'.at_ : Int), .int .i64 r'.bad, .int .i64 r'.e])
      case first =>
        by_cases he : r'.e = 0
        · have dn : Hid (r'.done = ((r'.at_ : Int) == (L.length : Int))) := by
            unfold RS.done Hid; rw [show decide (r'.e = 0) = true from by simp [he], FS.out]; rw [Bool.eq_iff_iff]; simp; omega
          rw [he] at v3
          have HE := hid he
          go_upto_region 13 with fail
          rw [he]
          clear he
          have DQ : ∀ wx, RdAt wx rb r' → Calls Try.prog 18 #[.pointer (some ⟨rb, 0, none⟩)] wx fun e w' => e = .returned (.bool ((r'.at_ : Int) == (L.length : Int))) ∧ ∃ n, w' = wx.drewN n := fun wx h => by rw [← dn.out]; exact Done_q rb r' wx h
          have tb : (((r'.at_ : Int) == (L.length : Int)) != ((r'.at_ : Int) == (L.length : Int))) = false := by simp
          go_quiet (first | (go_at_call 33; exact Calls.quiet_of_same ((At_any rb r' _ (by exact hr8)).mono fun _ _ h => ⟨h.1, h.2.symm⟩)) | (go_at_call 18; exact Calls.quiet_of (DQ _ (by exact hr8))))
          go_wp2_with fail
          go_meet
          exact ⟨rfl, hE8.drewN _, hr8.drewN _, B8.drewN _⟩
        · have tf : (r'.e == 0) = false := by simp [he]
          have dn : Hid (r'.done = false) := by
            unfold RS.done Hid; rw [show decide (r'.e = 0) = false from by simp [he]]; rfl
          have HE := hid he
          go_upto_region 13 with fail
          clear he
          have DQ : ∀ wx, RdAt wx rb r' → Calls Try.prog 18 #[.pointer (some ⟨rb, 0, none⟩)] wx fun e w' => e = .returned (.bool false) ∧ ∃ n, w' = wx.drewN n := fun wx h => by rw [← dn.out]; exact Done_q rb r' wx h
          go_quiet (first | (go_at_call 33; exact Calls.quiet_of_same ((At_any rb r' _ (by exact hr8)).mono fun _ _ h => ⟨h.1, h.2.symm⟩)) | (go_at_call 18; exact Calls.quiet_of (DQ _ (by exact hr8))))
          go_wp2_with fail
          go_meet
          exact ⟨rfl, hE8.drewN _, hr8.drewN _, B8.drewN _⟩
      clear v0 v1 v2 v3 hE8 hr8 B8
      obtain ⟨rfl, hE9, hr9, B9⟩ := hcut
      have tw : IntKind.i64.wrap ((j : Int) + 1) = ((j + 1 : Nat) : Int) := by
        have := hX.out
        rw [show ((j + 1 : Nat) : Int) = (j : Int) + 1 from by omega]; exact IntWalk.i64_in _ (by omega)
      go_wp2_with fail
      refine ⟨⟨j + 1, r', by omega, by simp, hE9, hr9, FOK.out, FFR.out, FS.out, B9⟩, ?_⟩
      simp only [intOf]
      omega
    · have hjx : j = xs.length := by omega
      subst hjx
      go_wp2_with fail
      go_ret
      exact Ret.mk rfl hE3

set_option maxRecDepth 20000 in
set_option maxHeartbeats 400000 in
theorem reads_big (L : List UInt8) (A : Option Addr) (n cap : Nat) (hl : Hid (500 < L.length ∨ 40 < n)) (hn : Hid (n ≤ maxLen)) (w : World) : Calls Try.prog 7 #[str L, .slice A n cap] w (Ret (.bool true) w) := by
  by_cases h : 500 < L.length
  · have t1 : decide (500 < (L.length : Int)) = true := by simp; omega
    have H := hid h; clear h
    go_enter Try.func7, Try.ntmps7
    go_wp2_with fail
    refine (awake1_any _).mono ?_; rintro e w1 ⟨rfl, hb1⟩
    go_wp2_with fail
    refine (awake1_any _).mono ?_; rintro e w2 ⟨rfl, hb2⟩
    go_wp2_with fail
    go_ret
    exact Ret.mk rfl (hb1.trans hb2)
  · have t1 : decide (500 < (L.length : Int)) = false := by simp; omega
    have t2 : decide (40 < (n : Int)) = true := by have := hl.out; simp; omega
    have H := hid h; clear h
    go_enter Try.func7, Try.ntmps7
    go_wp2_with fail
    refine (awake1_any _).mono ?_; rintro e w1 ⟨rfl, hb1⟩
    go_wp2_with fail
    refine (awake1_any _).mono ?_; rintro e w2 ⟨rfl, hb2⟩
    go_wp2_with fail
    go_ret
    exact Ret.mk rfl (hb1.trans hb2)

theorem reads_walk (L : List UInt8) (A : Option Addr) (n cap : Nat) (hn : n ≤ maxLen) (w : World) (h : ∃ xs : List (Nat × Int), xs.length = n ∧ IsOps w A xs) :
    Calls Try.prog 7 #[str L, .slice A n cap] w (Ret (.bool true) w) := by
  by_cases hb : 500 < L.length ∨ 40 < n
  · exact reads_big L A n cap hb hn w
  · obtain ⟨xs, rfl, hx⟩ := h
    exact reads_loop L A cap xs (by unfold Hid; omega) (by unfold Hid; omega) w hx
end Go.Proofs.Ytmekhofncflhaaa
