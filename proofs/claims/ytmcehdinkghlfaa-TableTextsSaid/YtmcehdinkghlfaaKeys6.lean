/-
  The law KeysSpent, and what a program that does nothing does not answer.
-/
import Derived.Test.YtmcehdinkghlfaaKeys5
namespace Go.Proofs.Ytmcehdinkghlfaa
open Go.RowKit Go.Shelf Go.Maps
set_option linter.unusedVariables false

def ks1 : List Key := [(1, [107])]
def ks2 : List Key := [(1, [97]), (2, [98])]
theorem may1 : May 7 ks1 := ⟨by omega, by decide, fun i h => by
  match i, h with
  | 0, _ => exact ⟨⟨by simp [ks1], by simp [ks1], by simp [ks1], by simp [ks1]⟩, fun k hk => absurd hk (Nat.not_lt_zero _)⟩
  | i + 1, h => simp [ks1] at h⟩
theorem may2 (node : Nat) (hn : node ≤ 4294967295) : May node ks2 := ⟨hn, by decide, fun i h => by
  match i, h with
  | 0, _ => exact ⟨⟨by simp [ks2], by simp [ks2], by simp [ks2], by simp [ks2]⟩, fun k hk => absurd hk (Nat.not_lt_zero _)⟩
  | 1, _ => exact ⟨⟨by simp [ks2], by simp [ks2], by simp [ks2], by simp [ks2]⟩, fun k hk => by obtain rfl : k = 0 := (by omega); simp [ks2]⟩
  | i + 2, h => simp [ks2] at h; omega⟩
theorem isKeys1 (w : World) (t : TypeId) : IsKeys (w.alloc (.cells #[.int .i64 1, .string ⟨#[107]⟩] t)) (some ⟨w.heap.size, 0, none⟩) ks1 := fun _ =>
  ⟨w.heap.size, 0, rfl, by simp, fun i h => by
    match i, h with
    | 0, _ => exact ⟨by simp [ks1, go_sem], by simp [ks1, go_sem]⟩
    | i + 1, h => simp [ks1] at h⟩
theorem isKeys2 (w : World) (t : TypeId) : IsKeys (w.alloc (.cells #[.int .i64 1, .string ⟨#[97]⟩, .int .i64 2, .string ⟨#[98]⟩] t)) (some ⟨w.heap.size, 0, none⟩) ks2 := fun _ =>
  ⟨w.heap.size, 0, rfl, by simp, fun i h => by
    match i, h with
    | 0, _ => exact ⟨by simp [ks2, go_sem], by simp [ks2, go_sem]⟩
    | 1, _ => exact ⟨by simp [ks2, go_sem], by simp [ks2, go_sem]⟩
    | i + 2, h => simp [ks2] at h; omega⟩
theorem NewPost.yes {node : Nat} {zs : List Key} {w w' : World} {e : Ending} (h : NewPost node zs w e w') (hm : May node zs) :
    ∃ s m, e = .returned (.tuple #[.pointer (some ⟨s, 0, none⟩), .int .i64 0]) ∧ Ext w w' ∧ w.heap.size ≤ s ∧ w.heap.size ≤ m ∧ St w' s m 0 node zs (fun _ => 0) := by
  obtain ⟨hE, _, hy⟩ := h
  obtain ⟨s, m, h1, h2, h3, h4⟩ := hy hm
  exact ⟨s, m, h1, hE, h2, h3, h4.st⟩
theorem NewPost.yesL {node : Nat} {zs : List Key} {w w' : World} {e : Ending} (h : NewPost node zs w e w') (hm : May node zs) :
    ∃ s m, e = .returned (.tuple #[.pointer (some ⟨s, 0, none⟩), .int .i64 0]) ∧ Ext w w' ∧ w.heap.size ≤ s ∧ w.heap.size ≤ m ∧ StL w.heap.size w'.heap.size w' s m 0 node zs (fun _ => 0) := by
  obtain ⟨hE, _, hy⟩ := h
  obtain ⟨s, m, h1, h2, h3, h4⟩ := hy hm
  exact ⟨s, m, h1, hE, h2, h3, h4⟩
theorem inI_small {x : Int} (h : 0 ≤ x ∧ x ≤ 100000) : InI x := by unfold InI; omega

set_option maxRecDepth 20000 in
set_option maxHeartbeats 800000 in
theorem awake20_any (w : World) : Calls Try.prog 8 #[] w (Ret (.bool true) w) := by
  have hnew : Hid (∀ W B, IsKeys W (some ⟨B, 0, none⟩) ks1 → Calls Try.prog 11 #[.int .u64 7, .slice (some ⟨B, 0, none⟩) 1 1] W (NewPost 7 ks1 W)) := fun W B h => New_any 7 _ ks1 1 (fun h => by cases h) (by unfold Hid; decide) W h
  have hr : Hid (nonceR 7 ks1 (fun _ => 0) 1 = ([0, 0, 0, 7, 0, 0, 0, 0, 0, 0, 0, 1], 0)) := by unfold Hid; decide
  go_enter Try.func8, Try.ntmps8
  go_upto_region 2 with (go_at_call 11; refine (hnew.out _ _ (isKeys1 _ _)).mono ?_; rintro e w1 hp; obtain ⟨s, m, rfl, hE, hs, hm, hst⟩ := hp.yes may1; clear hp)
  go_wp2_with (go_at_call 12; refine (Nonce_any s m 0 7 ks1 _ 1 (inI_small (by omega)) (by omega) (by omega) (by decide) _ hst).mono ?_; rintro e w2 ⟨rfl, hm2, hst2⟩; rw [hr.out])
  go_ret
  refine Ret.mk rfl (Mod.new (S := [m]) ((Mod.of_ext (((Mod.refl [] w).alloc _).trans hE)).trans hm2) (fun k hk => .inr ?_))
  simp at hk hm
  omega

def f1 (i : Nat) : Int → Nat := fun x => if x = 1 then min i 1000 else 0
theorem get1 : getR ks2 1 = ([97], 0) := by decide
theorem get2 : getR ks2 2 = ([98], 0) := by decide
theorem nonceF1 (i : Nat) : nonceF ks2 (f1 i) 1 = f1 (i + 1) := by
  funext x
  unfold nonceF
  rw [get1]
  by_cases h : 1000 ≤ i
  · have e : 1000 ≤ f1 i 1 := by simp [f1]; omega
    rw [if_neg (by simp), if_pos e]
    simp only [f1]
    split <;> omega
  · have e : ¬ 1000 ≤ f1 i 1 := by simp [f1]; omega
    rw [if_neg (by simp), if_neg e]
    simp only [upd, f1]
    split <;> simp <;> omega
theorem nonceR1 (node i : Nat) (h : i < 1000) : nonceR node ks2 (f1 i) 1 = (be node 4 ++ be (i + 1) 8, 0) := by
  unfold nonceR
  rw [get1]
  have e : ¬ 1000 ≤ f1 i 1 := by simp [f1]; omega
  rw [if_neg (by simp), if_neg e]
  have : f1 i 1 = i := by simp [f1]; omega
  rw [this]
theorem nonceR1' (node i : Nat) (h : ¬ i < 1000) : nonceR node ks2 (f1 i) 1 = ([], 13) := by
  unfold nonceR
  rw [get1]
  have e : 1000 ≤ f1 i 1 := by simp [f1]; omega
  rw [if_neg (by simp), if_pos e]
theorem nonceR2 (node i : Nat) : nonceR node ks2 (f1 i) 2 = (be node 4 ++ be 1 8, 0) := by
  unfold nonceR
  rw [get2]
  have e : ¬ 1000 ≤ f1 i 2 := by simp [f1]
  rw [if_neg (by simp), if_neg e]
  rfl
theorem nonceF2 (i : Nat) : nonceF ks2 (f1 i) 2 = upd (f1 i) 2 := by
  unfold nonceF
  rw [get2]
  have e : ¬ 1000 ≤ f1 i 2 := by simp [f1]
  rw [if_neg (by simp), if_neg e]

set_option maxRecDepth 20000 in
set_option maxHeartbeats 1600000 in
theorem keysSpent_walk (node n : Nat) (hnode : Hid (node ≤ 4294967295)) (hn : Hid (n ≤ 65535)) (w : World) : Calls Try.prog 6 #[.int .u32 (node : Int), .int .u16 (n : Int)] w (Ret (.bool true) w) := by
  have hnew : Hid (∀ W B, IsKeys W (some ⟨B, 0, none⟩) ks2 → Calls Try.prog 11 #[.int .u64 (node : Int), .slice (some ⟨B, 0, none⟩) 2 2] W (NewPost node ks2 W)) := fun W B h => New_any node _ ks2 2 (fun h => by cases h) (by unfold Hid; decide) W h
  have n0 : (0 : Int) ≤ (node : Int) := by omega
  have n1 : (node : Int) ≤ 4294967295 := by have := hnode.out; omega
  have n2 : (0 : Int) ≤ (n : Int) := by omega
  have n3 : (n : Int) ≤ 65535 := by have := hn.out; omega
  obtain ⟨k, hk⟩ : ∃ k, k = 990 + n % 110 := ⟨_, rfl⟩
  have k0 : Hid (k = 990 + n % 110) := hk
  go_enter Try.func6, Try.ntmps6
  go_upto_region 4 with (first | (go_at_call 8; refine (awake20_any _).mono ?_; rintro e w1 ⟨rfl, hb1⟩) | (go_at_call 11; refine (hnew.out _ _ (isKeys2 _ _)).mono ?_; rintro e w2 hp; obtain ⟨s, m, rfl, hE, hs, hm, hst⟩ := hp.yes (may2 node hnode.out); clear hp))
  have hM0 : Mod [m] w w2 := (Mod.of_ext ((hb1.alloc _).trans hE))
  have hmw : w.heap.size ≤ m := by have := hb1.size; simp at hm; omega
  have hst0 : St w2 s m 0 node ks2 (f1 0) := by rw [show f1 0 = fun _ => 0 from by funext x; simp [f1]]; exact hst
  have HST := hid hst0
  clear hst hst0 hE hs hm
  go_upto_region 6 with fail
  go_cut [7] (fun s7 wx => s7 = .int .i64 (k : Int) ∧ wx = w2)
  case first =>
    go_wp2
    go_meet
    refine ⟨?_, rfl⟩
    rw [hk]
    congr 1
  obtain ⟨rfl, rfl⟩ := hcut
  have kk : (k : Int) ≤ 1099 := by omega
  have kn : (0 : Int) ≤ (k : Int) := by omega
  clear hk
  go_wp2
  go_loopw [8] (fun s8 wr => ∃ i : Nat, i ≤ k ∧ s8 = .int .i64 i ∧ Mod [m] w wr ∧ Hid (St wr s m i node ks2 (f1 i))) (fun i _ => k - (intOf i).toNat)
  case atStart => exact ⟨0, Nat.zero_le _, rfl, hM0, HST.out⟩
  case round =>
    obtain ⟨i, hi, rfl, hM, hst⟩ := hrel
    have i0 : (0 : Int) ≤ (i : Int) := by omega
    by_cases hlt : i < k
    · have ti : decide (i < k) = true := by simp [hlt]
      have ik : (i : Int) < (k : Int) := by omega
      have hc6 : Hid (i < 1000000) := by unfold Hid; omega
      by_cases hth : i < 1000
      · have tt : decide ((i : Int) < 1000) = true := by simp; omega
        have hr := hid (nonceR1 node i hth)
        have H1 := hid hth; have HL := hid hlt
        clear hth hlt
        go_wp2_with (go_at_call 12; refine (Nonce_any s m i node ks2 _ 1 (inI_small (by omega)) hc6.out hnode.out (by decide) _ hst.out).mono ?_; rintro e w2 ⟨rfl, hm2, hst2⟩; rw [hr.out])
        rw [nonceF1] at hst2
        refine ⟨⟨i + 1, by have := HL.out; omega, by simp, hM.trans hm2, hst2⟩, ?_⟩
        have := HL.out
        simp only [intOf]
        omega
      · have tt : decide ((i : Int) < 1000) = false := by simp; omega
        have hr := hid (nonceR1' node i hth)
        have H1 := hid hth; have HL := hid hlt
        clear hth hlt
        go_wp2_with (go_at_call 12; refine (Nonce_any s m i node ks2 _ 1 (inI_small (by omega)) hc6.out hnode.out (by decide) _ hst.out).mono ?_; rintro e w2 ⟨rfl, hm2, hst2⟩; rw [hr.out])
        rw [nonceF1] at hst2
        refine ⟨⟨i + 1, by have := HL.out; omega, by simp, hM.trans hm2, hst2⟩, ?_⟩
        have := HL.out
        simp only [intOf]
        omega
    · obtain rfl : i = k := by omega
      have ti : decide (i < i) = false := by simp
      have hr := hid (nonceR2 node i)
      have hc6 : Hid (i < 1000000) := by unfold Hid; omega
      have u1 : Hid (upd (f1 i) 2 1 = min i 1000) := by simp [upd, f1, Hid]
      have u2 : Hid (upd (f1 i) 2 2 = 1) := by simp [upd, f1, Hid]
      have HU : ∀ q : Nat, Hid (min i 1000 = q) → Hid (∀ W, St W s m (i + 1) node ks2 (upd (f1 i) 2) → Calls Try.prog 15 #[.pointer (some ⟨s, 0, none⟩), .int .i64 1] W (Ret (.int .i64 (q : Int)) W)) := fun q hq W h => by
        have := Used_any s m (i + 1) node ks2 (upd (f1 i) 2) 1 (hid (inI_small (by omega))) W (hid h)
        rwa [u1.out, hq.out] at this
      have HU2 : Hid (∀ W, St W s m (i + 1) node ks2 (upd (f1 i) 2) → Calls Try.prog 15 #[.pointer (some ⟨s, 0, none⟩), .int .i64 2] W (Ret (.int .i64 1) W)) := fun W h => by
        have := Used_any s m (i + 1) node ks2 (upd (f1 i) 2) 2 (hid (inI_small (by omega))) W (hid h)
        rwa [u2.out] at this
      by_cases hth : i ≤ 1000
      · have hmin : Hid (min i 1000 = i) := by unfold Hid; omega
        have HU1 := HU i hmin
        clear HU
        have tt : ((1000 : Int) < (i : Int)) = False := by simp; omega
        have tt2 : ((i : Int) ≤ 1000) = True := by simp; omega
        have H1 := hid hth
        clear hth
        go_wp2_with fail
        refine (Nonce_any s m i node ks2 _ 2 (inI_small (by omega)) hc6.out hnode.out (by decide) _ hst.out).mono ?_; rintro e w2 ⟨rfl, hm2, hst2⟩; rw [hr.out]; rw [nonceF2] at hst2
        go_wp2_with fail
        (with_reducible refine (HU1.out _ hst2).mono ?_); rintro e w3 ⟨rfl, hb3⟩; have hst3 := hst2.kept hb3
        go_wp2_with fail
        (with_reducible refine (HU2.out _ hst3).mono ?_); rintro e w4 ⟨rfl, hb4⟩
        go_wp2_with fail
        go_ret
        refine Ret.mk rfl (Mod.new (S := [m]) ((hM.trans hm2).trans (Mod.of_ext (hb3.trans hb4))) (fun k hk => .inr ?_))
        simp at hk
        omega
      · have hmin : Hid (min i 1000 = 1000) := by unfold Hid; omega
        have HU1 := HU 1000 hmin
        clear HU
        have tt : ((i : Int) ≤ 1000) = False := by simp; omega
        have tt2 : ((1000 : Int) < (i : Int)) = True := by simp; omega
        have H1 := hid hth
        clear hth
        go_wp2_with fail
        refine (Nonce_any s m i node ks2 _ 2 (inI_small (by omega)) hc6.out hnode.out (by decide) _ hst.out).mono ?_; rintro e w2 ⟨rfl, hm2, hst2⟩; rw [hr.out]; rw [nonceF2] at hst2
        go_wp2_with fail
        (with_reducible refine (HU1.out _ hst2).mono ?_); rintro e w3 ⟨rfl, hb3⟩; have hst3 := hst2.kept hb3
        go_wp2_with fail
        (with_reducible refine (HU2.out _ hst3).mono ?_); rintro e w4 ⟨rfl, hb4⟩
        go_wp2_with fail
        go_ret
        refine Ret.mk rfl (Mod.new (S := [m]) ((hM.trans hm2).trans (Mod.of_ext (hb3.trans hb4))) (fun k hk => .inr ?_))
        simp at hk
        omega
end Go.Proofs.Ytmcehdinkghlfaa
