/-
 A bundle with one block more.
-/
import Derived.Test.YthecmnbkjchjmaaGreatMExtAgesbj

namespace Go.Proofs.YthecmnbkjchjmaaGreat
open Go.RowKit
set_option linter.unusedVariables false
set_option linter.unusedSimpArgs false

set_option maxRecDepth 20000 in
set_option maxHeartbeats 8000000 in
theorem Put_some (p : PV) (bs : Nat -> BV) (k c : Nat) (A : Option Addr) (x : BV) (hnl : Hid (p.d.name.length < 4611686018427387904 /\ p.s.name.length < 4611686018427387904 /\ p.r.name.length < 4611686018427387904)) (hf : p.fl < 18446744073709551616) (h0 : 0 < k) (hk : k <= 1000) (w : World) (h : BsL w A k bs) : Calls Tryz.prog 62 #[bunV p A k c, x.v] w (fun e w' => ∃ A' c', e = .returned (chkV p A' (k + 1) c' (bunRight p (insB bs (k - 1) x) (k + 1))) /\ Ext w w' /\ BsL w' A' (k + 1) (insB bs (k - 1) x) /\ SlA A' (k + 1) c') := by
 have KC := hid (fun W (hW : BsL W A k bs) => CloneB_any bs k (by unfold Hid; omega) A c W hW)
 have hw1 : IntKind.i64.wrap ((k : Int) - 1) = ((k - 1 : Nat) : Int) := by rw [IntWalk.i64_in _ (by omega)]; omega
 have KI := hid (fun W base g c' vb hown hv hvb hb => InsB_any bs x base g k c' (k - 1) vb (by omega) (by omega) W hown hv hvb hb)
 rw [<- hw1] at KI
 have KK := hid (fun W A' c' (hW : BsL W A' (k + 1) (insB bs (k - 1) x)) hlt => checked_any p (insB bs (k - 1) x) k c (k + 1) c' A A' hnl hf (by omega) W hW hlt)
 have HE := hid ((((Mod.refl [] w).alloc (.cells (bunC p A k c) 29)).alloc (.cells (BV.c x) 38)).alloc (.cells #[.int .u64 0, .int .i64 0, .int .i64 0, .string ⟨#[]⟩, .int .u64 0, .int .u64 0, .int .i64 0, .string ⟨#[]⟩, .int .u64 0, .int .u64 0, .int .i64 0, .string ⟨#[]⟩, .int .u64 0, .int .u64 0, .int .u64 0, .int .u64 0, .int .u64 0, .int .u64 0, .int .u64 0, .slice none 0 0] 29))
 have HB0 : Hid (Blk (((w.alloc (.cells (bunC p A k c) 29)).alloc (.cells (BV.c x) 38)).alloc (.cells #[.int .u64 0, .int .i64 0, .int .i64 0, .string ⟨#[]⟩, .int .u64 0, .int .u64 0, .int .i64 0, .string ⟨#[]⟩, .int .u64 0, .int .u64 0, .int .i64 0, .string ⟨#[]⟩, .int .u64 0, .int .u64 0, .int .u64 0, .int .u64 0, .int .u64 0, .int .u64 0, .int .u64 0, .slice none 0 0] 29)) w.heap.size 29 (bunC p A k c)) := hid (((Blk.new w 29 (bunC p A k c)).alloc (.cells (BV.c x) 38)).alloc (.cells #[.int .u64 0, .int .i64 0, .int .i64 0, .string ⟨#[]⟩, .int .u64 0, .int .u64 0, .int .i64 0, .string ⟨#[]⟩, .int .u64 0, .int .u64 0, .int .i64 0, .string ⟨#[]⟩, .int .u64 0, .int .u64 0, .int .u64 0, .int .u64 0, .int .u64 0, .int .u64 0, .int .u64 0, .slice none 0 0] 29))
 have HB1 : Hid (Blk (((w.alloc (.cells (bunC p A k c) 29)).alloc (.cells (BV.c x) 38)).alloc (.cells #[.int .u64 0, .int .i64 0, .int .i64 0, .string ⟨#[]⟩, .int .u64 0, .int .u64 0, .int .i64 0, .string ⟨#[]⟩, .int .u64 0, .int .u64 0, .int .i64 0, .string ⟨#[]⟩, .int .u64 0, .int .u64 0, .int .u64 0, .int .u64 0, .int .u64 0, .int .u64 0, .int .u64 0, .slice none 0 0] 29)) (w.heap.size + 1) 38 (BV.c x)) := by unfold Hid; have := (Blk.newL (N := (w.heap.size + 1)) (w.alloc (.cells (bunC p A k c) 29)) 38 (BV.c x) (by simp)); exact (this.alloc (.cells #[.int .u64 0, .int .i64 0, .int .i64 0, .string ⟨#[]⟩, .int .u64 0, .int .u64 0, .int .i64 0, .string ⟨#[]⟩, .int .u64 0, .int .u64 0, .int .i64 0, .string ⟨#[]⟩, .int .u64 0, .int .u64 0, .int .u64 0, .int .u64 0, .int .u64 0, .int .u64 0, .int .u64 0, .slice none 0 0] 29))
 have HB2 : Hid (Blk (((w.alloc (.cells (bunC p A k c) 29)).alloc (.cells (BV.c x) 38)).alloc (.cells #[.int .u64 0, .int .i64 0, .int .i64 0, .string ⟨#[]⟩, .int .u64 0, .int .u64 0, .int .i64 0, .string ⟨#[]⟩, .int .u64 0, .int .u64 0, .int .i64 0, .string ⟨#[]⟩, .int .u64 0, .int .u64 0, .int .u64 0, .int .u64 0, .int .u64 0, .int .u64 0, .int .u64 0, .slice none 0 0] 29)) (w.heap.size + 1 + 1) 29 #[.int .u64 0, .int .i64 0, .int .i64 0, .string ⟨#[]⟩, .int .u64 0, .int .u64 0, .int .i64 0, .string ⟨#[]⟩, .int .u64 0, .int .u64 0, .int .i64 0, .string ⟨#[]⟩, .int .u64 0, .int .u64 0, .int .u64 0, .int .u64 0, .int .u64 0, .int .u64 0, .int .u64 0, .slice none 0 0]) := by unfold Hid; exact Blk.newL _ _ _ (by simp)
 have HL := hid (BsL.ext h HE.out)
 have k0 : (0 : Int) <= (k : Int) := by omega
 have k1 : (k : Int) <= 1000 := by omega
 have t1 : ((k : Int) == 0) = false := by rw [beq_eq_false_iff_ne]; omega
 have t2 : ((k : Int) = 0) = False := eq_false (by omega)
 have t3 : (k = 0) = False := eq_false (by omega)
 have t4 : (k == 0) = false := by rw [beq_eq_false_iff_ne]; omega
 have HLW := hid h
 clear h hk hf h0 hw1
 go_enter Tryz.func62, Tryz.ntmps62
 go_upto_region 1 with fail
 generalize (((w.alloc (.cells (bunC p A k c) 29)).alloc (.cells (BV.c x) 38)).alloc (.cells #[.int .u64 0, .int .i64 0, .int .i64 0, .string ⟨#[]⟩, .int .u64 0, .int .u64 0, .int .i64 0, .string ⟨#[]⟩, .int .u64 0, .int .u64 0, .int .i64 0, .string ⟨#[]⟩, .int .u64 0, .int .u64 0, .int .u64 0, .int .u64 0, .int .u64 0, .int .u64 0, .int .u64 0, .slice none 0 0] 29)) = V at *
 have b19 : ∀ e : Later V, e.x.cell? ⟨w.heap.size, 19, none⟩ = some (.slice A k c) := HB0.out.cellL 19 rfl
 obtain ⟨e, he⟩ := Later.self V
 rw [he]
 clear he
 go_upto_region 4 with fail
 clear b19
 have HVS : Hid (w.heap.size + 3 <= V.heap.size) := hid (Nat.succ_le_of_lt HB2.out.lt)
 have HS : Hid (∀ W, Mod [(w.heap.size + 1 + 1)] V W -> W.cell? ⟨w.heap.size, 19, none⟩ = some (.slice A k c)) := hid (fun W hW => (HB0.out.mod hW (by simp; omega)).cell 19)
 have HRow : Hid (∀ W, Mod [(w.heap.size + 1 + 1)] V W -> Blk W w.heap.size 29 (bunC p A k c)) := hid (fun W hW => HB0.out.mod hW (by simp; omega))
 have HRx : Hid (∀ W, Mod [(w.heap.size + 1 + 1)] V W -> Blk W (w.heap.size + 1) 38 (BV.c x)) := hid (fun W hW => HB1.out.mod hW (by simp))
 have HLL : Hid (∀ W, Mod [(w.heap.size + 1 + 1)] V W -> BsL W A k bs) := hid (fun W hW hn => by
  obtain ⟨bb, oo, hA, hbl, hcc⟩ := HL.out hn
  obtain ⟨b2, o2, hA2, hb2, _⟩ := HLW.out hn
  have e1 : bb = b2 := by rw [hA] at hA2; cases hA2; rfl
  exact ⟨bb, oo, hA, Nat.lt_of_lt_of_le hbl hW.size, fun j hj => (hcc j hj).mod hW hbl (by simp; omega)⟩)
 refine wp_region_held_drew (S := fun w' => Mod [(w.heap.size + 1 + 1)] V w' /\ ∃ cs : Array Value, Blk w' (w.heap.size + 1 + 1) 29 cs /\ cs.size = 20) (by kernel_rfl) ⟨((Later.h e).of_ext).drew, #[.int .u64 0, .int .i64 0, .int .i64 0, .string ⟨#[]⟩, .int .u64 0, .int .u64 0, .int .i64 0, .string ⟨#[]⟩, .int .u64 0, .int .u64 0, .int .i64 0, .string ⟨#[]⟩, .int .u64 0, .int .u64 0, .int .u64 0, .int .u64 0, .int .u64 0, .int .u64 0, .int .u64 0, .slice none 0 0], (HB2.out.later e).drew, rfl⟩ (fun hHeld => ?_)
 refine wpAnyH_take (i := 0) rfl (by kernel_rfl) (by kernel_rfl) (by kernel_rfl) (fun _ _ _ h => h) (yieldsIf_row (by rfl) 29 _ rfl _ rfl (fun W h => HRow.out W h.1) Tryz.underlying29 rfl (by kernel_rfl)) hHeld ?_
 (try simp only [Act.put, sTl, s0l, sSl])
 refine' wpAnyH_take (i := 1) (v := _) rfl (by kernel_rfl) (by kernel_rfl) (by kernel_rfl) (fun _ _ _ h => h) (Or.inl ⟨by rfl, ?hy⟩) hHeld ?rest
 case hy => (rintro W ⟨hM, _⟩; go_simp; (try with_reducible rfl))
 case rest =>
 (try simp only [Act.put, sTl, s0l, sSl])
 refine' wpAnyH_take (i := 2) (v := _) rfl (by kernel_rfl) (by kernel_rfl) (by kernel_rfl) (fun _ _ _ h => h) (Or.inl ⟨by rfl, ?hy⟩) hHeld ?rest
 case hy => (rintro W ⟨hM, _⟩; have x1 := HS.out W hM; go_simp; (try with_reducible rfl))
 case rest =>
 (try simp only [Act.put, sTl, s0l, sSl])
 refine' wpAnyH_take (i := 4) (v := _) rfl (by kernel_rfl) (by kernel_rfl) (by kernel_rfl) (fun _ _ _ h => h) (Or.inl ⟨by rfl, ?hy⟩) hHeld ?rest
 case hy => (rintro W ⟨hM, _⟩; go_simp; (try with_reducible rfl))
 case rest =>
 (try simp only [Act.put, sTl, s0l, sSl])
 refine' wpAnyH_take (i := 5) (v := _) rfl (by kernel_rfl) (by kernel_rfl) (by kernel_rfl) (fun _ _ _ h => h) (Or.inl ⟨by rfl, ?hy⟩) hHeld ?rest
 case hy => (rintro W ⟨hM, _⟩; go_simp; (try with_reducible rfl))
 case rest =>
 (try simp only [Act.put, sTl, s0l, sSl])
 refine wpAnyH_take (i := 6) rfl (by kernel_rfl) (by kernel_rfl) (by kernel_rfl) (fun _ _ _ h => h) (yieldsIf_row (by rfl) 38 _ rfl _ rfl (fun W h => HRx.out W h.1) Tryz.underlying38 rfl (by kernel_rfl)) hHeld ?_
 (try simp only [Act.put, sTl, s0l, sSl])
 refine wpAnyH_ready (rs := [3, 7]) (by kernel_rfl) (by simp) ?_
 refine AllReadyH.cons rfl (fun K hK => ?_) (AllReadyH.cons rfl (fun K hK => ?_) AllReadyH.nil)
 .
  go_simp
  (go_at_call 82; refine (KC.out _ (HLL.out _ hHeld.1)).mono ?_; rintro y w1 ⟨g, c1, rfl, hb3, ho1⟩; have HO1 := hid ho1; have HN1 := hid hHeld.1.size)
  refine hK.out _ _ ⟨hHeld.1.trans (Mod.of_ext hb3), let ⟨cs, hb, hc⟩ := hHeld.2; ⟨cs, hb.ext hb3, hc⟩⟩ (fun hHeld => ?_)
  clear hK K
  (try simp only [Act.put, sTl, s0l, sSl])
  refine wpAnyH_ready (rs := [7]) (by kernel_rfl) (by simp) ?_
  refine AllReadyH.cons rfl (fun K hK => ?_) AllReadyH.nil
  go_simp
  refine hK.out _ _ ⟨hHeld.1.alloc _, let ⟨cs, hb, hc⟩ := hHeld.2; ⟨cs, hb.alloc _, hc⟩⟩ (fun hHeld => ?_)
  clear hK K
  (try simp only [Act.put, sTl, s0l, sSl])
  have HVB : Hid (Blk (w1.alloc (.cells (BV.c x) 38)) w1.heap.size 38 (BV.c x)) := hid (Blk.new _ _ _)
  have HOA := hid (HO1.out.alloc (.cells (BV.c x) 38))
  have HNE : Hid (w1.heap.size ≠ g) := hid (by have := (HO1.out.lt g rfl).2; omega)
  have HBW := hid (show _ <= (w1.alloc (.cells (BV.c x) 38)).heap.size from Nat.le_trans (HO1.out.lt g rfl).1 (Nat.le_of_lt (Nat.lt_trans (HO1.out.lt g rfl).2 (by simp))))
  have HGV : Hid (V.heap.size <= g) := hid (Nat.le_trans HN1.out (HO1.out.lt g rfl).1)
  have HBV := HN1
  refine wpAnyH_ready (rs := [8]) (by kernel_rfl) (by simp) ?_
  refine AllReadyH.cons rfl (fun K hK => ?_) AllReadyH.nil
  go_simp
  (go_at_call 81; refine (KI.out _ _ g c1 w1.heap.size HOA.out HVB.out HNE.out HBW.out).mono ?_; rintro y w3 ⟨g2, c2, rfl, hm2, ho2⟩; have HO2 := hid ho2)
  refine hK.out _ _ ⟨modg hHeld.1 hm2 HGV.out, let ⟨cs, hb, hc⟩ := hHeld.2; ⟨cs, hb.mod hm2 (by have := HGV.out; have := HVS.out; simp; omega), hc⟩⟩ (fun hHeld => ?_)
  clear hK K
  (try simp only [Act.put, sTl, s0l, sSl])
  refine wpAnyH_ready (rs := [9]) (by kernel_rfl) (by simp) ?_
  refine AllReadyH.cons rfl (fun K hK => ?_) AllReadyH.nil
  go_simp
  (go_at_call 80; refine (KK.out _ (some ⟨g2, 0, none⟩) c2 (own_BsL HO2.out) (fun kk o' hA => by cases hA; exact (HO2.out.lt _ rfl).2)).mono ?_; rintro y w4 ⟨rfl, hb3⟩; obtain ⟨zc, r0, hz, hz1, hz2, hz3⟩ := chk_cells p (some ⟨g2, 0, none⟩) (k + 1) c2 (bunRight p (insB bs (k - 1) x) (k + 1)); rw [hz]; have HZ := hid hz; have HZ1 := hid hz1; have HZ2 := hid hz2; have HZ3 := hid hz3; have HM3 := hid hb3; clear hz hz1 hz2 hz3)
  refine hK.out _ _ ⟨hHeld.1.trans (Mod.of_ext hb3), let ⟨cs, hb, hc⟩ := hHeld.2; ⟨cs, hb.ext hb3, hc⟩⟩ (fun hHeld => ?_)
  clear hK K
  (try simp only [Act.put, sTl, s0l, sSl])
  refine' wpAnyH_take (i := 10) (v := _) rfl (by kernel_rfl) (by kernel_rfl) (by kernel_rfl) (fun _ _ _ h => h) (Or.inl ⟨by rfl, ?hy⟩) hHeld ?rest
  case hy => (rintro W ⟨hM, _⟩; go_simp; (try with_reducible rfl))
  case rest =>
  (try simp only [Act.put, sTl, s0l, sSl])
  refine' wpAnyH_take (i := 11) (v := _) rfl (by kernel_rfl) (by kernel_rfl) (by kernel_rfl) (fun _ _ _ h => h) (Or.inl ⟨by rfl, ?hy⟩) hHeld ?rest
  case hy => (rintro W ⟨hM, _⟩; go_simp; (try with_reducible rfl))
  case rest =>
  (try simp only [Act.put, sTl, s0l, sSl])
  refine wpAnyH_ready (rs := [12]) (by kernel_rfl) (by simp) ?_
  refine AllReadyH.cons rfl (fun K hK => ?_) AllReadyH.nil
  obtain ⟨cs0, hb0, hc0⟩ := hHeld.2
  refine wp_store_mid 29 _ _ rfl (w.heap.size + 1 + 1) 0 zc (by rfl) (by rfl) (hb0.there (by rw [HZ3.out, hc0]; exact Nat.le_refl _)) HZ1.out HZ2.out ?_
  have hZB := setCells_all (ds := zc) hb0 (by rw [Array.length_toList, HZ3.out, hc0])
  have hZM := setCells_mod (b := (w.heap.size + 1 + 1)) zc.toList 0 hHeld.1 (.inl (by simp))
  generalize hZ : World.setCells w4 (w.heap.size + 1 + 1) 0 zc.toList = Z at *
  have HZM3 : Hid (Mod [(w.heap.size + 1 + 1)] w4 Z) := hid (by rw [<- hZ]; exact setCells_mod _ _ (Mod.refl _ _) (.inl (by simp)))
  clear hZ
  refine hK.out _ _ ⟨hZM, zc, hZB, HZ3.out⟩ (fun hHeld => ?_)
  clear hK K
  (try simp only [Act.put, sTl, s0l, sSl])
  refine wpAnyH_ready (rs := [13]) (by kernel_rfl) (by simp) ?_
  refine AllReadyH.cons rfl (fun K hK => ?_) AllReadyH.nil
  go_simp
  refine hK.out _ _ hHeld (fun hHeld => ?_)
  clear hK K
  (try simp only [Act.put, sTl, s0l, sSl])
  refine wpAnyH_done (by kernel_rfl) ?_ _
  go_wp2_with fail
  refine bodyPost_ret (v := .tuple #[.agg zc, .int .i64 r0]) (results_cell2 Tryz.results62 _ rfl rfl hZB Tryz.underlying29 rfl (by rw [HZ1.out])) rfl ?_
  obtain ⟨A9, c9, hA9, hsa⟩ := own_slA HO2.out
  simp only [Value.slice.injEq, true_and] at hA9
  obtain ⟨rfl, rfl⟩ := hA9
  refine ⟨some ⟨g2, 0, none⟩, c2, by rw [HZ.out], (HE.out.of_ext.trans hZM).new (fun kk hkk => .inr (by simp at hkk; omega)), ?_, hsa⟩
  intro hn
  obtain ⟨bb, oo, hA, hbl, hcc⟩ := (own_BsL HO2.out).ext HM3.out hn
  have hbb : bb = g2 := by cases hA; rfl
  have hg2 : V.heap.size <= g2 := Nat.le_trans HBV.out (HO2.out.lt g2 rfl).1
  exact ⟨bb, oo, hA, Nat.lt_of_lt_of_le hbl HZM3.out.size, fun j hj => (hcc j hj).mod HZM3.out hbl (by have := HVS.out; simp; omega)⟩
 .
  have hVB0 := hid (Blk.new e.x.drew 38 (BV.c x))
  go_simp
  refine hK.out _ _ ⟨hHeld.1.alloc _, let ⟨cs, hb, hc⟩ := hHeld.2; ⟨cs, hb.alloc _, hc⟩⟩ (fun hHeld => ?_)
  clear hK K
  (try simp only [Act.put, sTl, s0l, sSl])
  refine wpAnyH_ready (rs := [3]) (by kernel_rfl) (by simp) ?_
  refine AllReadyH.cons rfl (fun K hK => ?_) AllReadyH.nil
  go_simp
  (go_at_call 82; refine (KC.out _ (HLL.out _ hHeld.1)).mono ?_; rintro y w1 ⟨g, c1, rfl, hb3, ho1⟩; have HO1 := hid ho1; have HM1 := hid hb3; have HN1 := hid hHeld.1.size)
  refine hK.out _ _ ⟨hHeld.1.trans (Mod.of_ext hb3), let ⟨cs, hb, hc⟩ := hHeld.2; ⟨cs, hb.ext hb3, hc⟩⟩ (fun hHeld => ?_)
  clear hK K
  (try simp only [Act.put, sTl, s0l, sSl])
  have HVB : Hid (Blk w1 e.x.heap.size 38 (BV.c x)) := hid (hVB0.out.ext HM1.out)
  have HOA := HO1
  have HNE : Hid (e.x.heap.size ≠ g) := hid (by have := (HO1.out.lt g rfl).1; simp at this; omega)
  have HBW := hid HM1.out.size
  have HGV : Hid (V.heap.size <= g) := hid (Nat.le_trans HN1.out (HO1.out.lt g rfl).1)
  have HBV := HN1
  refine wpAnyH_ready (rs := [8]) (by kernel_rfl) (by simp) ?_
  refine AllReadyH.cons rfl (fun K hK => ?_) AllReadyH.nil
  go_simp
  (go_at_call 81; refine (KI.out _ _ g c1 e.x.heap.size HOA.out HVB.out HNE.out HBW.out).mono ?_; rintro y w3 ⟨g2, c2, rfl, hm2, ho2⟩; have HO2 := hid ho2)
  refine hK.out _ _ ⟨modg hHeld.1 hm2 HGV.out, let ⟨cs, hb, hc⟩ := hHeld.2; ⟨cs, hb.mod hm2 (by have := HGV.out; have := HVS.out; simp; omega), hc⟩⟩ (fun hHeld => ?_)
  clear hK K
  (try simp only [Act.put, sTl, s0l, sSl])
  refine wpAnyH_ready (rs := [9]) (by kernel_rfl) (by simp) ?_
  refine AllReadyH.cons rfl (fun K hK => ?_) AllReadyH.nil
  go_simp
  (go_at_call 80; refine (KK.out _ (some ⟨g2, 0, none⟩) c2 (own_BsL HO2.out) (fun kk o' hA => by cases hA; exact (HO2.out.lt _ rfl).2)).mono ?_; rintro y w4 ⟨rfl, hb3⟩; obtain ⟨zc, r0, hz, hz1, hz2, hz3⟩ := chk_cells p (some ⟨g2, 0, none⟩) (k + 1) c2 (bunRight p (insB bs (k - 1) x) (k + 1)); rw [hz]; have HZ := hid hz; have HZ1 := hid hz1; have HZ2 := hid hz2; have HZ3 := hid hz3; have HM3 := hid hb3; clear hz hz1 hz2 hz3)
  refine hK.out _ _ ⟨hHeld.1.trans (Mod.of_ext hb3), let ⟨cs, hb, hc⟩ := hHeld.2; ⟨cs, hb.ext hb3, hc⟩⟩ (fun hHeld => ?_)
  clear hK K
  (try simp only [Act.put, sTl, s0l, sSl])
  refine' wpAnyH_take (i := 10) (v := _) rfl (by kernel_rfl) (by kernel_rfl) (by kernel_rfl) (fun _ _ _ h => h) (Or.inl ⟨by rfl, ?hy⟩) hHeld ?rest
  case hy => (rintro W ⟨hM, _⟩; go_simp; (try with_reducible rfl))
  case rest =>
  (try simp only [Act.put, sTl, s0l, sSl])
  refine' wpAnyH_take (i := 11) (v := _) rfl (by kernel_rfl) (by kernel_rfl) (by kernel_rfl) (fun _ _ _ h => h) (Or.inl ⟨by rfl, ?hy⟩) hHeld ?rest
  case hy => (rintro W ⟨hM, _⟩; go_simp; (try with_reducible rfl))
  case rest =>
  (try simp only [Act.put, sTl, s0l, sSl])
  refine wpAnyH_ready (rs := [12]) (by kernel_rfl) (by simp) ?_
  refine AllReadyH.cons rfl (fun K hK => ?_) AllReadyH.nil
  obtain ⟨cs0, hb0, hc0⟩ := hHeld.2
  refine wp_store_mid 29 _ _ rfl (w.heap.size + 1 + 1) 0 zc (by rfl) (by rfl) (hb0.there (by rw [HZ3.out, hc0]; exact Nat.le_refl _)) HZ1.out HZ2.out ?_
  have hZB := setCells_all (ds := zc) hb0 (by rw [Array.length_toList, HZ3.out, hc0])
  have hZM := setCells_mod (b := (w.heap.size + 1 + 1)) zc.toList 0 hHeld.1 (.inl (by simp))
  generalize hZ : World.setCells w4 (w.heap.size + 1 + 1) 0 zc.toList = Z at *
  have HZM3 : Hid (Mod [(w.heap.size + 1 + 1)] w4 Z) := hid (by rw [<- hZ]; exact setCells_mod _ _ (Mod.refl _ _) (.inl (by simp)))
  clear hZ
  refine hK.out _ _ ⟨hZM, zc, hZB, HZ3.out⟩ (fun hHeld => ?_)
  clear hK K
  (try simp only [Act.put, sTl, s0l, sSl])
  refine wpAnyH_ready (rs := [13]) (by kernel_rfl) (by simp) ?_
  refine AllReadyH.cons rfl (fun K hK => ?_) AllReadyH.nil
  go_simp
  refine hK.out _ _ hHeld (fun hHeld => ?_)
  clear hK K
  (try simp only [Act.put, sTl, s0l, sSl])
  refine wpAnyH_done (by kernel_rfl) ?_ _
  go_wp2_with fail
  refine bodyPost_ret (v := .tuple #[.agg zc, .int .i64 r0]) (results_cell2 Tryz.results62 _ rfl rfl hZB Tryz.underlying29 rfl (by rw [HZ1.out])) rfl ?_
  obtain ⟨A9, c9, hA9, hsa⟩ := own_slA HO2.out
  simp only [Value.slice.injEq, true_and] at hA9
  obtain ⟨rfl, rfl⟩ := hA9
  refine ⟨some ⟨g2, 0, none⟩, c2, by rw [HZ.out], (HE.out.of_ext.trans hZM).new (fun kk hkk => .inr (by simp at hkk; omega)), ?_, hsa⟩
  intro hn
  obtain ⟨bb, oo, hA, hbl, hcc⟩ := (own_BsL HO2.out).ext HM3.out hn
  have hbb : bb = g2 := by cases hA; rfl
  have hg2 : V.heap.size <= g2 := Nat.le_trans HBV.out (HO2.out.lt g2 rfl).1
  exact ⟨bb, oo, hA, Nat.lt_of_lt_of_le hbl HZM3.out.size, fun j hj => (hcc j hj).mod HZM3.out hbl (by have := HVS.out; simp; omega)⟩
end Go.Proofs.YthecmnbkjchjmaaGreat
