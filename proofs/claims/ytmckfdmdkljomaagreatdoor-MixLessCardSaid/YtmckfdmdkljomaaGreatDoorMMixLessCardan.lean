/-
 Security texts: their items.
-/
import Derived.Test.YtmckfdmdkljomaaGreatDoorMMixLessCardah
import Derived.Test.YtmckfdmdkljomaaGreatDoorMMixLessCardai
import Derived.Test.YtmckfdmdkljomaaGreatDoorMMixLessCardal
namespace Go.Proofs.YtmckfdmdkljomaaGreatDoor
open Go.RowKit
set_option linter.unusedVariables false
set_option linter.unusedSimpArgs false
theorem AsL.old {w : World} {Q : Nat -> Prop} {a : AV} {m : AA} (h : AsL w Q a m) : AsL w (fun b => Q b /\ b < w.heap.size) a m :=
 ⟨h.t, fun b o hA h0 => ⟨h.tq b o hA h0, by obtain ⟨b', o', hA', hb, _⟩ := h.t h0; rw [hA] at hA'; cases hA'; exact hb⟩, h.p.weak (fun k hk hq => ⟨hq, hk⟩), h.r.weak (fun k hk hq => ⟨hq, hk⟩)⟩
theorem Blk.thereAt {W : World} {b : Nat} {t : TypeId} {cs : Array Value} (h : Blk W b t cs) {o n : Nat} (hn : o + n <= cs.size) : W.there b o n := fun j hj => by
 refine ⟨?_, h.frozen (o + j)⟩
 rw [h.cell (o + j), Array.getElem?_eq_getElem (by omega)]; rfl
theorem Rw.blk {W : World} {base g n : Nat} {L : List T} {al : List (Option Addr × Nat)} {cs : Array Value} (h : Blk W g 68 cs) (hb : base <= g) (hn : n <= maxLen) (hs : cs.size = n * 5) (hcs : cs.toList = flatC (chL L) (acL al) n) (hI : ∀ i, i < n -> IsL W (fun b => b < g) (chL L i) (acL al i).1) : Rw W anyQ base (some ⟨g, 0, none⟩) n n (chL L) (acL al) :=
 ⟨hcs ▸ own_of_blk h hb hn hs, fun j hj => IsL.weak (fun b _ hb => ⟨trivial, fun g' hg' => by cases hg'; exact Nat.ne_of_lt hb⟩) _ (hI j hj)⟩
set_option maxRecDepth 20000 in
set_option maxHeartbeats 16000000 in
theorem aitems_any (a : AV) (hw : a.wf) (hs : a.shaped = true) (m : AA) (w : World) (h : AsL w anyQ a m) : Calls Tryz.prog 129 #[asbV a m] w (fun e w' => ∃ A c, e = .returned (.slice A a.items.length c) /\ Ext w w' /\ IsL w' anyQ (listT a.items) A) := by
 obtain ⟨⟨h1, h2⟩, h3, h4, h5, h6, h7, h8, h9⟩ := AV.shaped_iff.1 hs
 obtain ⟨mt, mtc, mp, mpc, mr, mrc⟩ := m
 obtain ⟨bt, ot, hmt, hbt, hct⟩ := h.t (by omega)
 have hmt : mt = some ⟨bt, ot, none⟩ := hmt
 obtain ⟨br, orr, hmr, hbr, _, hcr⟩ := h.r (by omega)
 have hmr : mr = some ⟨br, orr, none⟩ := hmr
 subst hmt hmr
 have HCT := hid hct
 have HBT := hid hbt
 clear hct hbt hcr hbr
 have HE := hid ((Mod.refl [] w).alloc (.cells (asbC a ⟨some ⟨bt, ot, none⟩, mtc, mp, mpc, some ⟨br, orr, none⟩, mrc⟩) 65))
 have HB0 := hid (Blk.new w 65 (asbC a ⟨some ⟨bt, ot, none⟩, mtc, mp, mpc, some ⟨br, orr, none⟩, mrc⟩))
 have HL := hid (h.old.ext HE.out)
 have HW := hid hw
 have HTG := hid (unlikeB_coded h3)
 have HP := hid (unlikeB_coded (pairsB_iff.1 h7).2)
 have HRES := hid (T.all_iff.1 h9)
 have HRC := hid (fun i (hi : i < a.rk) => unlikeB_coded (pairsB_iff.1 (resB_iff.1 (T.all_iff.1 h9 i hi)).2).2)
 have KE := hid (fun W => eidItem_ok a.src h5 W)
 have HK := hid h2
 have HRK := hid h8
 have HP8 := hid h6
 have hcc := codedB_iff.1 h4
 obtain ⟨cn, hcn⟩ := Int.eq_ofNat_of_zero_le hcc.1
 have tctx : IntKind.u64.wrap (cn : Int) = (cn : Int) := IntWalk.u64_in _ (by omega)
 have HCN := hid hcn
 have k0 : (a.tk : Int) <= 16 := by omega
 generalize hkk : a.tk = k at *
 have HKK := hid hkk
 clear hw hs h h1 h2 h3 h4 h5 h6 h7 h8 h9 hkk hcc hcn
 go_enter Tryz.func129, Tryz.ntmps129
 go_upto_region 1 with fail
 generalize hV : w.alloc (.cells (asbC a ⟨some ⟨bt, ot, none⟩, mtc, mp, mpc, some ⟨br, orr, none⟩, mrc⟩) 65) = V at *
 have HVS : Hid (w.heap.size < V.heap.size) := hid (by rw [<- hV]; simp)
 have b0 : ∀ e : Later V, e.x.cell? ⟨w.heap.size, 0, none⟩ = some (.slice (some ⟨bt, ot, none⟩) k mtc) := HB0.out.cellL 0 (by rw [<- HKK.out]; rfl)
 have b7 : ∀ e : Later V, e.x.cell? ⟨w.heap.size, 7, none⟩ = some (.slice (some ⟨br, orr, none⟩) a.rk mrc) := HB0.out.cellL 7 rfl
 clear hV
 obtain ⟨e, he⟩ := Later.self V
 rw [he]
 go_upto_region 3 with fail
 go_loopw [3, 4, 13] (fun s3 s4 s13 wr => ∃ (i : Nat) (A1 : Option Addr) (c1 : Nat) (A2 : Option Addr) (c2 : Nat) (ac2 : Nat -> Option Addr × Nat), s13 = .int .i64 (i : Int) /\ s3 = .slice A1 i c1 /\ s4 = .slice A2 i c2 /\ Hid (i <= k /\ Ext V wr /\ wr.ownsRow V.heap.size 68 5 (.slice A1 i c1) i (flatC (fun j => numT (a.tg j).toNat) (fun _ => (none, 0)) i) /\ Rw wr (offA A1) V.heap.size A2 c2 i (fun j => plT (a.rs j)) ac2 /\ ∀ g, A2 = some g -> offA A1 g.block)) (fun _ _ s13 _ => k - (intOf s13).toNat)
 case atStart => exact ⟨0, none, 0, none, 0, fun _ => (none, 0), rfl, rfl, rfl, (show Hid _ from ⟨Nat.zero_le _, he ▸ Mod.refl _ _, World.ownsRow_nil _ _ _ _, Rw.nil, fun g hg => by cases hg⟩)⟩
 case round =>
  clear he e
  obtain ⟨i, A1, c1, A2, c2, ac2, rfl, rfl, rfl, hS⟩ := hrel
  rename World => wr
  have i0 : (0 : Int) <= (i : Int) := by omega
  by_cases hlt : i < k
  .
   obtain ⟨e, he⟩ : ∃ e : Later V, wr = e.x := ⟨⟨wr, hS.out.2.1⟩, rfl⟩
   have c0 : wr.cell? ⟨bt, ot + i, none⟩ = some (.int .i64 (a.tg i)) := ((HE.out.trans hS.out.2.1).cell HBT.out (by simp)).trans (HCT.out i hlt)
   have B7 := hid b7
   clear b7
   have b0w := b0 e
   rw [<- he] at b0w
   have tc : decide (i < k) = true := by simp [hlt]
   have i1 : (i : Int) < (k : Int) := by omega
   have HLT := hid hlt
   have t1 : IntKind.u64.wrap (a.tg i) = ((a.tg i).toNat : Int) := by
    have := HTG.out i hlt
    rw [Int.toNat_of_nonneg this.1]; exact IntWalk.u64_in _ (by omega)
   clear hlt he e b0
   obtain ⟨ib, hi, hz0, hz1, hz2⟩ := info_parts infoItem
   have HR1 : Hid (∀ e : Later wr, e.x.ownsRow V.heap.size 68 5 (.slice A1 i c1) i (flatC (fun j => numT (a.tg j).toNat) (fun _ => (none, 0)) i)) := hid (fun e => ownsRow_mod hS.out.2.2.1 e.h (fun _ _ => by simp))
   have HR2 := hid hS.out.2.2.2.1
   have HAP := hid hS.out.2.2.2.2
   have HEV := hid hS.out.2.1
   have HSZ : Hid (V.heap.size <= wr.heap.size) := hid hS.out.2.1.size
   clear hS
   obtain ⟨e, he⟩ := Later.self wr
   have c0 : ∀ e : Later wr, e.x.cell? ⟨bt, ot + i, none⟩ = some (.int .i64 (a.tg i)) := fun e => cellL c0 e
   rw [he]
   clear he
   go_upto_region 6 with (first | (go_at_call 142; refine (Ret.later (NumI_any _ _)).mono ?_; rintro x _ ⟨rfl, e, rfl⟩) | (at_builtin; refine wpList_append_lies _ rfl _ _ 66 rfl V.heap.size 68 ib _ 5 64 vqF hi hz0 hz1 hz2 rfl (by decide) _ i _ rfl ((HR1.out e).alloc _) ⟨e.x.heap.size, 0, none⟩ 1 1 [.int .i64 0, .int .u64 ((a.tg i).toNat : Int), str [], .slice none 0 0, .bool false] rfl rfl (fun j u hu => by rw [addr_add, Nat.zero_add, (Blk.new _ _ _).cell j]; simpa using hu) (fun u hu => by simp only [List.mem_cons, List.not_mem_nil, or_false] at hu; rcases hu with h | h | h | h | h <;> (subst h; rfl)) (by decide) (by have := HLT.out; have := HK.out; unfold maxLen; omega) (by have := HLT.out; have := HK.out; omega) (by have := e.h.size; have := HSZ.out; simp; omega) _ rfl ?_; intro g1 d1 w4 hown' hgr' hat' hlt'; have HO1 := hid hown'; have HG1 := hid hgr'; have HA1 := hid hat'; have HLL1 := hid hlt'; clear hown' hgr' hat' hlt'))
   clear c0 b0w
   have hZ := two_first (HR2.out.ext (e.h.trans ((Mod.refl [] e.x).alloc _))) HAP.out HG1.out HA1.out
   have HE4 : Hid (Ext V w4) := hid (by
    refine ((Mod.of_ext (S := obs A1) (HEV.out.trans (e.h.trans ((Mod.refl [] e.x).alloc _)))).trans (grown_obs HG1.out)).new (fun k hk => .inr ?_)
    cases A1 with
    | none => cases hk
    | some g => have := ((HR1.out e).lt g.block rfl).1; simp [obs] at hk; omega)
   have HO4 : Hid (w4.ownsRow V.heap.size 68 5 (.slice (some ⟨g1, 0, none⟩) (i + 1) d1) (i + 1) (flatC (fun j => numT (a.tg j).toNat) (fun _ => (none, 0)) (i + 1))) := hid HO1.out
   have HR4 := hid hZ.1
   have HAP4 := hid hZ.2
   have HS4 : Hid (V.heap.size <= w4.heap.size) := hid HE4.out.size
   clear hZ HO1 HG1 HA1 HR1 HR2 HAP HEV HSZ HLL1
   obtain ⟨br', or', Ai, ci, hmr, hbr, cr, hkc, hPi⟩ := HL.out.r.at HE4.out (i := i) (by have := HLT.out; have := HRK.out; omega)
   have KL : Hid (Calls Tryz.prog 157 #[.slice Ai (a.rs i).k ci] w4 (fun e w' => ∃ A' c', e = .returned (.agg #[.int .i64 4, .int .u64 0, str [], .slice A' (a.rs i).k c', .bool false]) /\ Ext w4 w' /\ IsL w' (fun b => (True /\ b < w.heap.size) \/ w4.heap.size <= b) (plT (a.rs i)) A')) := hid (alist_any (a.rs i) (by have := (resB_iff.1 (HRES.out i (by have := HLT.out; have := HRK.out; omega))).1; omega) (HRC.out i (by have := HLT.out; have := HRK.out; omega)) Ai ci w4 hPi)
   obtain ⟨e4, he4⟩ : ∃ e : Later V, w4 = e.x := ⟨⟨w4, HE4.out⟩, rfl⟩
   have b7w := B7.out e4
   rw [<- he4] at b7w
   have hmr : (some ⟨br, orr, none⟩ : Option Addr) = some ⟨br', or', none⟩ := hmr
   cases hmr
   have i2 : (i : Int) < (a.rk : Int) := by have := HRK.out; omega
   clear hPi hkc hbr he4 e4
   go_upto_region 7 with (first | (go_at_call 157; refine KL.out.mono ?_; rintro x w5 ⟨A5, c5, rfl, hb5, hi5⟩; have H5 := hid hb5; have HI5 := hid hi5; have HSZ5 : Hid (w4.heap.size <= w5.heap.size) := hid hb5.size; clear hb5 hi5) | (at_builtin; refine wpList_append_lies _ rfl _ _ 66 rfl V.heap.size 68 ib _ 5 64 vqF hi hz0 hz1 hz2 rfl (by decide) _ i _ rfl ((HR4.out.ext H5.out).own.alloc _) ⟨w5.heap.size, 0, none⟩ 1 1 [.int .i64 4, .int .u64 0, str [], .slice A5 (a.rs i).k c5, .bool false] rfl rfl (fun j u hu => by rw [addr_add, Nat.zero_add, (Blk.new _ _ _).cell j]; simpa using hu) (fun u hu => by simp only [List.mem_cons, List.not_mem_nil, or_false] at hu; rcases hu with h | h | h | h | h <;> (subst h; rfl)) (by decide) (by have := HLT.out; have := HK.out; unfold maxLen; omega) (by have := HLT.out; have := HK.out; omega) (by have := HS4.out; have := HSZ5.out; simp; omega) _ rfl ?_; intro g2 d2 w6 hown' hgr' hat' hlt'; have HO2 := hid hown'; have HG2 := hid hgr'; have HA2 := hid hat'; have HLL2 := hid hlt'; clear hown' hgr' hat' hlt'))
   clear cr b7w
   have HZ2 := two_second (ownsRow_mod HO4.out (H5.out.alloc _) (fun _ _ => by simp)) HAP4.out HG2.out HA2.out
   have HOFF : Hid (IsL (w5.alloc (.cells #[.int .i64 4, .int .u64 0, str [], .slice A5 (a.rs i).k c5, .bool false] 68)) (fun b => offA (some ⟨g1, 0, none⟩) b /\ offA A2 b) (plT (a.rs i)) A5) := hid (IsL.weak (fun b _ hb => by
    have o1 := (HO4.out.lt g1 rfl)
    constructor
    .
     intro g hg
     cases hg
     rcases hb with hb | hb
     . have := hb.2; have := HVS.out; show b ≠ g1; omega
     . show b ≠ g1; omega
    .
     intro g hg
     have o2 := HR4.out.own.lt g.block (by subst hg; rfl)
     rcases hb with hb | hb
     . have := hb.2; have := HVS.out; omega
     . omega) _ (HI5.out.ext ((Mod.refl [] w5).alloc _)))
   obtain ⟨ac', hR6⟩ := (HR4.out.ext (H5.out.alloc _)).append HOFF.out rfl HO2.out HG2.out HA2.out
   have HR6 := hid hR6
   have HE6 : Hid (Ext V w6) := hid (by
    refine ((Mod.of_ext (S := obs A2) (HE4.out.trans (H5.out.alloc _))).trans (grown_obs HG2.out)).new (fun k hk => .inr ?_)
    cases A2 with
    | none => cases hk
    | some g => have := (HR4.out.own.lt g.block rfl).1; simp [obs] at hk; omega)
   have HZ2 := hid HZ2
   clear hR6 HOFF HO2 HG2 HA2 HR4 HAP4 H5 HI5 KL
   go_wp2_with fail
   go_roundw
   case rel => exact ⟨i + 1, some ⟨g1, 0, none⟩, d1, some ⟨g2, 0, none⟩, d2, ac', by go_num, rfl, rfl, (show Hid _ from ⟨HLT.out, HE6.out, HZ2.out.1, HR6.out, HZ2.out.2⟩)⟩
   case measure => have := HLT.out; simp [intOf]; omega
  .
   obtain rfl : i = k := by have := hS.out.1; omega
   have tc : decide (i < i) = false := by simp
   have HSE := hid hS.out.2.1
   have HR1 := hid hS.out.2.2.1
   have HR2 := hid hS.out.2.2.2.1
   have HSZ : Hid (V.heap.size <= wr.heap.size) := hid hS.out.2.1.size
   clear hS b0 b7
   have HRE : Hid (∀ e : Later V, e.x.rangeAt w.heap.size 2 [.int .i64 a.src.sch, str a.src.name, .int .u64 (a.src.node : Int), .int .u64 (a.src.svc : Int)]) := HB0.out.range 2 4 (by rfl)
   obtain ⟨e0, he0⟩ : ∃ e : Later V, wr = e.x := ⟨⟨wr, HSE.out⟩, rfl⟩
   subst he0
   go_upto_region 9 with (first | (refine wpList_mid (by rfl) 24 _ rfl _ 2 rfl _ _ (HRE.out _) vqE rfl (by kernel_rfl) ?_) | (go_at_call 147; refine (KE.out _).mono ?_; rintro x w6 ⟨As, rfl, hb6, hl6⟩; have H6 := hid hb6; have HI6 := hid hl6; clear hb6 hl6))
   generalize hG : World.alloc w6 _ = W9
   have HN : Hid (Blk W9 w6.heap.size 68 (itemC (eidT a.src) As 2)) := hid (by rw [<- hG]; exact Blk.new _ _ _)
   have HX9 : Hid (Ext e0.x W9) := hid (by rw [<- hG]; exact H6.out.alloc _)
   have LS : Hid (IsL W9 anyQ (eidT a.src) As) := hid (by rw [<- hG]; exact IsL.weak (fun _ _ _ => trivial) _ (HI6.out.ext ((Mod.refl [] w6).alloc _)))
   have L1 : Hid (IsL W9 anyQ (tgT i a.tg) A1) := hid (Rw.isL (base := V.heap.size) (c := c1) (ac := fun _ => (none, 0)) ⟨ownsRow_mod HR1.out HX9.out (fun _ _ => by simp), fun j hj => IsL.leaf⟩ (fun _ _ => trivial))
   have L2 : Hid (IsL W9 anyQ (rsT i a.rs) A2) := hid (((HR2.out.weak (R := anyQ) (fun _ _ _ => trivial)).ext HX9.out).isL (fun _ _ => trivial))
   have HV9 : Hid (Ext V W9) := hid (HSE.out.trans HX9.out)
   have HC1 : Hid (∀ W, Ext W9 W -> W.cell? ⟨w.heap.size, 1, none⟩ = some (.int .i64 (cn : Int))) := hid (fun W hW => ((HB0.out.ext (HV9.out.trans hW)).cell 1).trans (by show some (Value.int .i64 a.ctx) = _; rw [HCN.out]))
   clear hG H6 HI6 HR1 HR2 HRE
   generalize w6.heap.size = g6 at *
   refine wp_region_held_drew (S := fun w' => Ext W9 w') (by kernel_rfl) (Mod.refl _ _).drew (fun hHeld => ?_)
   generalize W9.drew = v0 at *
   refine' wpAnyH_take (i := 0) (v := _) rfl (by kernel_rfl) (by kernel_rfl) (by kernel_rfl) (fun _ _ _ h => h) (Or.inl ⟨by rfl, ?hy1⟩) hHeld ?rest1
   case hy1 => (rintro W hM; go_simp; (try with_reducible rfl))
   case rest1 =>
   (try simp only [Act.put, gTl, g0l, gSl, sTl, s0l, sSl])
   refine' wpAnyH_take (i := 2) (v := _) rfl (by kernel_rfl) (by kernel_rfl) (by kernel_rfl) (fun _ _ _ h => h) (Or.inl ⟨by rfl, ?hy2⟩) hHeld ?rest2
   case hy2 => (rintro W hM; go_simp; (try with_reducible rfl))
   case rest2 =>
   (try simp only [Act.put, gTl, g0l, gSl, sTl, s0l, sSl])
   refine' wpAnyH_take (i := 3) (v := _) rfl (by kernel_rfl) (by kernel_rfl) (by kernel_rfl) (fun _ _ _ h => h) (Or.inl ⟨by rfl, ?hy3⟩) hHeld ?rest3
   case hy3 => (rintro W hM; have g1 := HC1.out W hM; go_simp; (try with_reducible rfl))
   case rest3 =>
   (try simp only [Act.put, gTl, g0l, gSl, sTl, s0l, sSl])
   refine' wpAnyH_take (i := 4) (v := _) rfl (by kernel_rfl) (by kernel_rfl) (by kernel_rfl) (fun _ _ _ h => h) (Or.inl ⟨by rfl, ?hy4⟩) hHeld ?rest4
   case hy4 => (rintro W hM; go_simp; (try with_reducible rfl))
   case rest4 =>
   (try simp only [Act.put, gTl, g0l, gSl, sTl, s0l, sSl])
   refine wpAnyH_take (i := 7) rfl (by kernel_rfl) (by kernel_rfl) (by kernel_rfl) (fun _ _ _ h => h) (yieldsIf_row (by rfl) 68 _ rfl _ rfl (fun W hM => HN.out.ext hM) vqC rfl (by kernel_rfl)) hHeld ?_
   (try simp only [Act.put, gTl, g0l, gSl, sTl, s0l, sSl])
   refine wpAnyH_ready (rs := [1]) (by kernel_rfl) (by simp) ?_
   refine AllReadyH.cons rfl (fun K hK => ?_) AllReadyH.nil
   go_simp
   go_at_call 158
   refine (ListV_any _ _ _ _).mono ?_
   rintro x v1 ⟨rfl, hb⟩
   refine hK.out _ _ (hHeld.trans hb) (fun hHeld => ?_)
   clear hK K
   (try simp only [Act.put, gTl, g0l, gSl, sTl, s0l, sSl])
   refine wpAnyH_ready (rs := [5]) (by kernel_rfl) (by simp) ?_
   refine AllReadyH.cons rfl (fun K hK => ?_) AllReadyH.nil
   go_simp
   (try rw [tctx])
   go_at_call 142
   refine (NumI_any _ _).mono ?_
   rintro x v2 ⟨rfl, hb⟩
   refine hK.out _ _ (hHeld.trans hb) (fun hHeld => ?_)
   clear hK K
   (try simp only [Act.put, gTl, g0l, gSl, sTl, s0l, sSl])
   refine wpAnyH_ready (rs := [6]) (by kernel_rfl) (by simp) ?_
   refine AllReadyH.cons rfl (fun K hK => ?_) AllReadyH.nil
   go_simp
   go_at_call 142
   refine (NumI_any _ _).mono ?_
   rintro x v3 ⟨rfl, hb⟩
   refine hK.out _ _ (hHeld.trans hb) (fun hHeld => ?_)
   clear hK K
   (try simp only [Act.put, gTl, g0l, gSl, sTl, s0l, sSl])
   refine wpAnyH_ready (rs := [8]) (by kernel_rfl) (by simp) ?_
   refine AllReadyH.cons rfl (fun K hK => ?_) AllReadyH.nil
   go_simp
   have HX3 := hid hHeld
   have HB9 : Hid (Blk (World.alloc v3 (.cells #[.int .i64 4, .int .u64 0, str [], .slice A1 i c1, .bool false, .int .i64 0, .int .u64 (cn : Int), str [], .slice none 0 0, .bool false, .int .i64 0, .int .u64 0, str [], .slice none 0 0, .bool false, .int .i64 (eidT a.src).kind, .int .u64 ((eidT a.src).n : Int), str (eidT a.src).s, .slice As (eidT a.src).k 2, .bool (eidT a.src).op] 68)) v3.heap.size 68 #[.int .i64 4, .int .u64 0, str [], .slice A1 i c1, .bool false, .int .i64 0, .int .u64 (cn : Int), str [], .slice none 0 0, .bool false, .int .i64 0, .int .u64 0, str [], .slice none 0 0, .bool false, .int .i64 (eidT a.src).kind, .int .u64 ((eidT a.src).n : Int), str (eidT a.src).s, .slice As (eidT a.src).k 2, .bool (eidT a.src).op]) := hid (Blk.new _ _ _)
   have HX4 : Hid (Ext v3 (World.alloc v3 (.cells #[.int .i64 4, .int .u64 0, str [], .slice A1 i c1, .bool false, .int .i64 0, .int .u64 (cn : Int), str [], .slice none 0 0, .bool false, .int .i64 0, .int .u64 0, str [], .slice none 0 0, .bool false, .int .i64 (eidT a.src).kind, .int .u64 ((eidT a.src).n : Int), str (eidT a.src).s, .slice As (eidT a.src).k 2, .bool (eidT a.src).op] 68))) := hid ((Mod.refl [] _).alloc _)
   generalize World.alloc v3 (.cells #[.int .i64 4, .int .u64 0, str [], .slice A1 i c1, .bool false, .int .i64 0, .int .u64 (cn : Int), str [], .slice none 0 0, .bool false, .int .i64 0, .int .u64 0, str [], .slice none 0 0, .bool false, .int .i64 (eidT a.src).kind, .int .u64 ((eidT a.src).n : Int), str (eidT a.src).s, .slice As (eidT a.src).k 2, .bool (eidT a.src).op] 68) = v4 at *
   refine hK.out _ _ (hHeld.trans HX4.out) (fun hHeld => ?_)
   clear hK K
   (try simp only [Act.put, gTl, g0l, gSl, sTl, s0l, sSl])
   refine' wpAnyH_take (i := 9) (v := _) rfl (by kernel_rfl) (by kernel_rfl) (by kernel_rfl) (fun _ _ _ h => h) (Or.inl ⟨by rfl, ?hy5⟩) hHeld ?rest5
   case hy5 => (rintro W hM; go_simp; (try with_reducible rfl))
   case rest5 =>
   (try simp only [Act.put, gTl, g0l, gSl, sTl, s0l, sSl])
   refine wpAnyH_done (by kernel_rfl) ?_ _
   have HX34 : Hid (Ext W9 v4) := hid hHeld
   have kd : ∀ {t : T} {A : Option Addr}, IsL W9 anyQ t A -> IsL v4 (fun b => b < v3.heap.size) t A := fun h => (IsL.weak (fun b hb _ => hb) _ (h.ext HX3.out)).ext HX4.out
   have K0 := hid (kd L1.out)
   have K2 := hid (kd L2.out)
   have K3 := hid (kd LS.out)
   have HBG : Hid (V.heap.size <= v3.heap.size) := hid (Nat.le_trans HV9.out.size HX3.out.size)
   have HVX : Hid (Ext V v4) := hid (HV9.out.trans HX34.out)
   have HGS : Hid (v3.heap.size < v4.heap.size) := hid HB9.out.lt
   clear kd L1 L2 LS HX3 HX4 HX34 HN HC1 hHeld HX9 HSE HV9
   generalize v3.heap.size = g9 at *
   have b6 : ∀ e : Later v4, e.x.cell? ⟨w.heap.size, 6, none⟩ = some (.slice mp a.ps.k mpc) := (HB0.out.ext HVX.out).cellL 6 rfl
   obtain ⟨ib, hi, hz0, hz1, hz2⟩ := info_parts infoItem
   by_cases hp : a.ps.k = 0
   case pos =>
    have HIT : Hid (a.items = [tgT i a.tg, numT cn, numT 0, eidT a.src, rsT i a.rs]) := hid (by unfold AV.items; rw [if_pos hp, HRK.out, HKK.out, HCN.out]; rfl)
    have tpa : decide ((0 : Int) < (a.ps.k : Int)) = false := decide_eq_false (by omega)
    have tpb : ((0 : Int) < (a.ps.k : Int)) = False := eq_false (by omega)
    have tqa : decide (0 < a.ps.k) = false := decide_eq_false (by omega)
    have tqb : (0 < a.ps.k) = False := eq_false (by omega)
    clear hp
    have HRW : Hid (Rw v4 anyQ V.heap.size (some ⟨g9, 0, none⟩) 4 4 (chL [tgT i a.tg, numT cn, numT 0, eidT a.src, rsT i a.rs]) (acL [(A1, c1), (none, 0), (none, 0), (As, 2)])) := hid (Rw.blk HB9.out HBG.out (by decide) rfl rfl (fun j hj => by match j, hj with | 0, _ => exact K0.out | 1, _ => exact IsL.leaf | 2, _ => exact IsL.leaf | 3, _ => exact K3.out))
    obtain ⟨e, he⟩ := Later.self v4
    rw [he]
    go_wp2_with (first | (go_at_call 158; refine (Ret.later (ListV_any _ _ _ _)).mono ?_; rintro x _ ⟨rfl, e, rfl⟩) | (at_builtin; refine wpList_append_lies _ rfl _ _ 66 rfl V.heap.size 68 ib _ 5 64 vqF hi hz0 hz1 hz2 rfl (by decide) _ 4 _ rfl ((HRW.out.ext e.h).own.alloc _) ⟨e.x.heap.size, 0, none⟩ 1 1 [.int .i64 4, .int .u64 0, str [], .slice A2 i c2, .bool false] rfl rfl (fun j u hu => by rw [addr_add, Nat.zero_add, (Blk.new _ _ _).cell j]; simpa using hu) (fun u hu => by simp only [List.mem_cons, List.not_mem_nil, or_false] at hu; rcases hu with h | h | h | h | h <;> (subst h; rfl)) (by decide) (by decide) (by decide) (by have := e.h.size; have := HBG.out; have := HGS.out; simp; omega) _ rfl ?_; intro g8 d8 w8 hown' hgr' hat' hlt'; have HO8 := hid hown'; have HG8 := hid hgr'; have HA8 := hid hat'; have HLL8 := hid hlt'; clear hown' hgr' hat' hlt'))
    obtain ⟨ac8, HR8⟩ := (HRW.out.ext (e.h.trans ((Mod.refl [] e.x).alloc _))).append (IsL.weak (fun b _ hb => ⟨trivial, fun g hg => by cases hg; exact Nat.ne_of_lt hb⟩) _ (K2.out.ext (e.h.trans ((Mod.refl [] e.x).alloc _)))) rfl HO8.out HG8.out HA8.out
    have HM8 := grown_obs HG8.out
    have HV8 : Ext V w8 := ((Mod.of_ext (S := [g9]) (HVX.out.trans (e.h.trans ((Mod.refl [] e.x).alloc _)))).trans HM8).new (fun k hk => .inr (by rw [List.mem_singleton] at hk; subst hk; exact HBG.out))
    go_ret
    exact ⟨some ⟨g8, 0, none⟩, d8, by rw [HIT.out]; rfl, HE.out.trans HV8, by rw [HIT.out]; exact HR8.isL (fun _ _ => trivial)⟩
   have HIT : Hid (a.items = [tgT i a.tg, numT cn, numT 1, eidT a.src, plT a.ps, rsT i a.rs]) := hid (by unfold AV.items; rw [if_neg hp, HRK.out, HKK.out, HCN.out]; rfl)
   have tpa : decide ((0 : Int) < (a.ps.k : Int)) = true := decide_eq_true (by omega)
   have tpb : ((0 : Int) < (a.ps.k : Int)) = True := eq_true (by omega)
   have tqa : decide (0 < a.ps.k) = true := decide_eq_true (by omega)
   have tqb : (0 < a.ps.k) = True := eq_true (by omega)
   clear hp
   obtain ⟨e, he⟩ := Later.self v4
   rw [he]
   clear he
   have tk1 : True := trivial
   go_upto_region 12 with (first | (go_at_call 142; refine (Ret.later (NumI_any _ _)).mono ?_; rintro x _ ⟨rfl, e, rfl⟩) | (clear tk1; refine wpList_store_mid rfl 68 _ _ rfl g9 10 #[.int .i64 0, .int .u64 1, str [], .slice none 0 0, .bool false] (by rfl) (by rfl) ((HB9.out.later e).thereAt (by show 10 + 5 <= 20; omega)) (by kernel_rfl) (by simp [Value.oneCell']) ?_))
   generalize hZ : World.setCells _ g9 10 _ = Z
   have HBZ : Hid (Blk Z g9 68 #[.int .i64 4, .int .u64 0, str [], .slice A1 i c1, .bool false, .int .i64 0, .int .u64 (cn : Int), str [], .slice none 0 0, .bool false, .int .i64 0, .int .u64 1, str [], .slice none 0 0, .bool false, .int .i64 (eidT a.src).kind, .int .u64 ((eidT a.src).n : Int), str (eidT a.src).s, .slice As (eidT a.src).k 2, .bool (eidT a.src).op]) := hid (by
    have := setRow_blk [.int .i64 0, .int .u64 1, str [], .slice none 0 0, .bool false] e.x 10 _ (HB9.out.later e)
    rw [setRow_eq] at this
    rw [<- hZ]
    exact this)
   have HZM : Hid (Mod [g9] e.x Z) := hid (by rw [<- hZ]; exact setCells_mod _ _ (Mod.refl _ _) (.inl (by simp)))
   have kz : ∀ {t : T} {A : Option Addr}, IsL v4 (fun b => b < g9) t A -> IsL Z (fun b => b < g9) t A := fun h => IsL.mod HZM.out (fun k hk _ => by simp; omega) _ (h.ext e.h)
   have J0 := hid (kz K0.out)
   have J2 := hid (kz K2.out)
   have J3 := hid (kz K3.out)
   have HVZ : Hid (Ext V Z) := hid (((Mod.of_ext (S := [g9]) (HVX.out.trans e.h)).trans HZM.out).new (fun k hk => .inr (by rw [List.mem_singleton] at hk; subst hk; exact HBG.out)))
   have HGZ : Hid (g9 < Z.heap.size) := hid HBZ.out.lt
   clear kz hZ HZM K0 K2 K3 HVX HGS b6 HB9
   generalize e = e0z at *
   have b6 : ∀ e : Later Z, e.x.cell? ⟨w.heap.size, 6, none⟩ = some (.slice mp a.ps.k mpc) := (HB0.out.ext HVZ.out).cellL 6 rfl
   have HRW : Hid (Rw Z anyQ V.heap.size (some ⟨g9, 0, none⟩) 4 4 (chL [tgT i a.tg, numT cn, numT 1, eidT a.src, plT a.ps, rsT i a.rs]) (acL [(A1, c1), (none, 0), (none, 0), (As, 2)])) := hid (Rw.blk HBZ.out HBG.out (by decide) rfl rfl (fun j hj => by match j, hj with | 0, _ => exact J0.out | 1, _ => exact IsL.leaf | 2, _ => exact IsL.leaf | 3, _ => exact J3.out))
   have KL : Hid (∀ e : Later Z, Calls Tryz.prog 157 #[.slice mp a.ps.k mpc] e.x (fun r w' => ∃ A' c', r = .returned (.agg #[.int .i64 4, .int .u64 0, str [], .slice A' a.ps.k c', .bool false]) /\ Ext e.x w' /\ IsL w' (fun b => (True /\ b < w.heap.size) \/ e.x.heap.size <= b) (plT a.ps) A')) := hid (fun e => alist_any a.ps (by have := HP8.out; omega) HP.out mp mpc e.x (HL.out.p.ext (HVZ.out.trans e.h)))
   obtain ⟨e, he⟩ := Later.self Z
   rw [he]
   clear he
   go_upto_region 13 with (first | (go_at_call 157; refine (KL.out _).mono ?_; rintro x w5 ⟨A5, c5, rfl, hb5, hi5⟩; have H5 := hid (e.h.trans hb5); have HI5 := hid hi5; have HSZ5 : Hid (Z.heap.size <= w5.heap.size) := hid (e.h.trans hb5).size; have HSE5 := hid e.h.size; clear hb5 hi5) | (at_builtin; refine wpList_append_lies _ rfl _ _ 66 rfl V.heap.size 68 ib _ 5 64 vqF hi hz0 hz1 hz2 rfl (by decide) _ 4 _ rfl ((HRW.out.ext H5.out).own.alloc _) ⟨w5.heap.size, 0, none⟩ 1 1 [.int .i64 4, .int .u64 0, str [], .slice A5 a.ps.k c5, .bool false] rfl rfl (fun j u hu => by rw [addr_add, Nat.zero_add, (Blk.new _ _ _).cell j]; simpa using hu) (fun u hu => by simp only [List.mem_cons, List.not_mem_nil, or_false] at hu; rcases hu with h | h | h | h | h <;> (subst h; rfl)) (by decide) (by decide) (by decide) (by have := HBG.out; have := HGZ.out; have := HSZ5.out; simp; omega) _ rfl ?_; intro g7 d7 w7 hown' hgr' hat' hlt'; have HO7 := hid hown'; have HG7 := hid hgr'; have HA7 := hid hat'; have HLL7 := hid hlt'; clear hown' hgr' hat' hlt'))
   obtain ⟨ac7, HR7⟩ := (HRW.out.ext (H5.out.alloc _)).append (t := plT a.ps) (At := A5) (ct := c5) (IsL.weak (fun b _ hb => ⟨trivial, fun g hg => by
    cases hg
    show b ≠ g9
    have := HGZ.out
    have := HSE5.out
    have := HBG.out
    have := HVS.out
    rcases hb with hb | hb
    . have := hb.2; omega
    . omega⟩) _ (HI5.out.ext ((Mod.refl [] w5).alloc _))) rfl HO7.out HG7.out HA7.out
   have HR7 := hid HR7
   have HM7 := hid (grown_obs HG7.out)
   have HV7 : Hid (Ext V w7) := hid (((Mod.of_ext (S := [g9]) (HVZ.out.trans (H5.out.alloc _))).trans HM7.out).new (fun k hk => .inr (by rw [List.mem_singleton] at hk; subst hk; exact HBG.out)))
   have J7 : Hid (IsL w7 (fun b => b < g9) (rsT i a.rs) A2) := hid (IsL.mod HM7.out (fun k hk _ => by simp [obs]; omega) _ (J2.out.ext (H5.out.alloc _)))
   have HG9 : Hid (g9 <= g7) := hid (by
    rcases HA7.out with h | h
    .
     have : g9 = g7 := Option.some.inj h
     omega
    . have := HSZ5.out; have := HGZ.out; simp at h; omega)
   have HGB7 : Hid (V.heap.size <= g7) := hid (by have := HBG.out; have := HG9.out; omega)
   clear HO7 HG7 HA7 HM7 J2 J0 J3 HRW H5 HI5 b6 KL
   obtain ⟨e, he⟩ := Later.self w7
   rw [he]
   clear he
   go_wp2_with (first | (go_at_call 158; refine (Ret.later (ListV_any _ _ _ _)).mono ?_; rintro x _ ⟨rfl, e, rfl⟩) | (at_builtin; refine wpList_append_lies _ rfl _ _ 66 rfl V.heap.size 68 ib _ 5 64 vqF hi hz0 hz1 hz2 rfl (by decide) _ 5 _ rfl ((HR7.out.ext e.h).own.alloc _) ⟨e.x.heap.size, 0, none⟩ 1 1 [.int .i64 4, .int .u64 0, str [], .slice A2 i c2, .bool false] rfl rfl (fun j u hu => by rw [addr_add, Nat.zero_add, (Blk.new _ _ _).cell j]; simpa using hu) (fun u hu => by simp only [List.mem_cons, List.not_mem_nil, or_false] at hu; rcases hu with h | h | h | h | h <;> (subst h; rfl)) (by decide) (by decide) (by decide) (by have := e.h.size; have := HGB7.out; have := HLL7.out; simp; omega) _ rfl ?_; intro g8 d8 w8 hown' hgr' hat' hlt'; have HO8 := hid hown'; have HG8 := hid hgr'; have HA8 := hid hat'; have HLL8 := hid hlt'; clear hown' hgr' hat' hlt'))
   obtain ⟨ac8, HR8⟩ := (HR7.out.ext (e.h.trans ((Mod.refl [] e.x).alloc _))).append (IsL.weak (fun b _ hb => ⟨trivial, fun g hg => by cases hg; show b ≠ g7; have := HG9.out; omega⟩) _ (J7.out.ext (e.h.trans ((Mod.refl [] e.x).alloc _)))) rfl HO8.out HG8.out HA8.out
   have HM8 := grown_obs HG8.out
   have HV8 : Ext V w8 := ((Mod.of_ext (S := [g7]) (HV7.out.trans (e.h.trans ((Mod.refl [] e.x).alloc _)))).trans HM8).new (fun k hk => .inr (by rw [List.mem_singleton] at hk; subst hk; exact HGB7.out))
   go_ret
   exact ⟨some ⟨g8, 0, none⟩, d8, by rw [HIT.out]; rfl, HE.out.trans HV8, by rw [HIT.out]; exact HR8.isL (fun _ _ => trivial)⟩
def catL (L : List T) (i : Nat) : List UInt8 := ((L.take i).map T.bytes).flatten
theorem catL_succ {L : List T} {i : Nat} (h : i < L.length) : catL L (i + 1) = catL L i ++ (chL L i).bytes := by
 unfold catL chL
 rw [List.take_add_one, List.map_append, List.flatten_append, List.getElem?_eq_getElem h]
 simp
theorem catL_le {L : List T} {B : Nat} (h : ∀ t ∈ L, t.bytes.length <= B) : ∀ i, i <= L.length -> (catL L i).length <= i * B := by
 intro i
 induction i with
 | zero => intro _; simp [catL]
 | succ i ih =>
  intro hi
  have := ih (by omega)
  have h2 := h (chL L i) (getD_mem (by omega))
  rw [catL_succ (by omega), List.length_append, Nat.succ_mul]
  omega
theorem AV.items_length (a : AV) : a.items.length <= 6 := by
 unfold AV.items
 split <;> simp
set_option maxRecDepth 20000 in
set_option maxHeartbeats 4000000 in
theorem abuild_any (a : AV) (hw : a.wf) (hsm : a.small) (hs : a.shaped = true) (m : AA) (w : World) (h : AsL w anyQ a m) : Calls Tryz.prog 103 #[asbV a m] w (Ret (str a.bytes) w) := by
 have HE := hid ((Mod.refl [] w).alloc (.cells (asbC a m) 65))
 have HB0 := hid (Blk.new w 65 (asbC a m))
 have HL := hid (h.ext HE.out)
 have HALL := hid (AV.items_all hw hsm hs)
 have KI : Hid (∀ W, Ext (w.alloc (.cells (asbC a m) 65)) W -> _) := hid (fun W hW => aitems_any a hw hs m W (HL.out.ext hW))
 have HBY : Hid (a.bytes = catL a.items a.items.length) := hid (by unfold AV.bytes catL; rw [List.take_length])
 have HN6 := hid (AV.items_length a)
 have HBL : Hid (∀ i, i <= a.items.length -> (catL a.items i).length <= i * 1000000) := hid (catL_le (B := 1000000) (fun t ht => by have := T.bytes_le t; have := (HALL.out t ht).2.2; omega))
 generalize a.items = L at *
 generalize a.bytes = RES at *
 clear hw hsm hs h
 go_enter Tryz.func103, Tryz.ntmps103
 go_upto_region 2 with fail
 generalize w.alloc (.cells (asbC a m) 65) = V at *
 go_upto_region 3 with (first | (refine wpList_row (by rfl) 65 _ rfl _ rfl HB0.out vqB rfl (by kernel_rfl) ?_) | (go_at_call 129; refine (KI.out _ (Mod.refl _ _)).mono ?_; rintro x w1 ⟨AI, cI, rfl, hb1, hi1⟩; have H1 := hid hb1; have HI := hid hi1; clear hb1 hi1))
 generalize hk : L.length = k at *
 have HK := hid hk
 have k0 : (k : Int) <= 6 := by have := HN6.out; omega
 clear hk KI
 go_loopw [3, 11] (fun s3 s11 wr => ∃ i : Nat, s11 = .int .i64 (i : Int) /\ s3 = str (catL L i) /\ Hid (i <= k) /\ ∃ e : Later w1, wr = e.x) (fun _ s11 _ => k - (intOf s11).toNat)
 case atStart => obtain ⟨e, he⟩ := Later.self w1; exact ⟨0, rfl, rfl, (show Hid _ from Nat.zero_le _), e, he⟩
 case round =>
  obtain ⟨i, rfl, rfl, hi, e, rfl⟩ := hrel
  have i0 : (0 : Int) <= (i : Int) := by omega
  by_cases hlt : i < k
  .
   obtain ⟨b, o, Ai, ci, rfl, hb, ⟨q0, q1, q2, q3, q4⟩, hI⟩ := IsL.cells (W := e.x) (i := i) HI.out e.h (by have := HK.out; omega)
   have tc : decide (i < k) = true := by simp [hlt]
   have i1 : (i : Int) < (k : Int) := by omega
   have HLT := hid hlt
   have hm : chL L i ∈ L := getD_mem (by have := HK.out; omega)
   have HC : Hid (catL L (i + 1) = catL L i ++ (chL L i).bytes) := hid (catL_succ (by have := HK.out; omega))
   have lX : (catL L i).length <= 6000000 := by have := HBL.out i (by omega); have := HN6.out; omega
   have lB : (chL L i).bytes.length <= 1000000 := by have := T.bytes_le (chL L i); have := (HALL.out _ hm).2.2; omega
   have KB := hid (fun W (hW : Ext e.x W) => (show Calls Tryz.prog 130 #[itemV (chL L i) Ai ci] W (Ret (.tuple #[str (chL L i).bytes, .int .i64 0]) W) from by
    have := iBuild_any (chL L i) (HALL.out _ hm).1 (HALL.out _ hm).2.2 Ai ci W (IsL.weak (fun _ _ _ => trivial) _ (hI.ext hW))
    unfold buildV at this
    rw [if_pos (HALL.out _ hm).2.1] at this
    exact this))
   change e.x.cell? ⟨b, o + i * 5, none⟩ = some (.int .i64 (chL L i).kind) at q0
   change e.x.cell? ⟨b, o + i * 5 + 1, none⟩ = some (.int .u64 ((chL L i).n : Int)) at q1
   change e.x.cell? ⟨b, o + i * 5 + 2, none⟩ = some (str (chL L i).s) at q2
   change e.x.cell? ⟨b, o + i * 5 + 3, none⟩ = some (.slice Ai (chL L i).k ci) at q3
   change e.x.cell? ⟨b, o + i * 5 + 4, none⟩ = some (.bool (chL L i).op) at q4
   clear hlt hm hb hI
   generalize chL L i = t at *
   generalize t.bytes = BB at *
   generalize catL L i = X at *
   have e00 := e
   go_upto_region 5 with fail
   generalize hW1 : World.alloc e.x _ = W1
   have HG1 : Hid (Blk W1 e.x.heap.size 68 (itemC t Ai ci)) := hid (by rw [<- hW1]; exact Blk.new _ _ _)
   have HX1 : Hid (Ext e.x W1) := hid (by rw [<- hW1]; exact (Mod.refl [] _).alloc _)
   clear hW1 q0 q1 q2 q3 q4
   go_wp2_with (first | (refine wpList_row (by rfl) 68 _ rfl _ rfl HG1.out vqC rfl (by kernel_rfl) ?_) | (go_at_call 130; refine (KB.out _ HX1.out).mono ?_; rintro x w5 ⟨rfl, hb5⟩; have H5 := hid hb5; clear hb5) | (refine wpList_cat (by rfl) _ _ _ _ rfl _ _ rfl rfl (by (try simp only [List.length_append, List.length_cons, List.length_nil]); omega) ?_))
   go_roundw
   case rel => exact ⟨i + 1, by go_num, by (rw [HC.out]) <;> exact str_app _ _, (show Hid _ from HLT.out), ⟨_, e.h.trans (HX1.out.trans H5.out)⟩, rfl⟩
   case measure => have := HLT.out; simp [intOf]; omega
  .
   obtain rfl : i = k := by have := hi.out; omega
   have tc : decide (i < i) = false := by simp
   generalize catL L i = X at *
   go_wp2_with fail
   go_ret
   exact Ret.mk (by rw [HBY.out]; rfl) ((HE.out.trans H1.out).trans e.h)
set_option maxRecDepth 20000 in
set_option maxHeartbeats 4000000 in
theorem aRight_any (a : AV) (hw : a.wf) (hsm : a.shaped = true -> a.small) (m : AA) (hmt : a.tk <= m.tc) (w : World) (h : AsL w anyQ a m) : Calls Tryz.prog 102 #[asbV a m] w (Ret (.bool a.right) w) := by
 have HE := hid ((Mod.refl [] w).alloc (.cells (asbC a m) 65))
 have HB0 := hid (Blk.new w 65 (asbC a m))
 have HL := hid (h.ext HE.out)
 have HWF := hid hw
 have KS : Hid (∀ W, Ext (w.alloc (.cells (asbC a m) 65)) W -> Calls Tryz.prog 128 #[asbV a m] W (Ret (.bool a.shaped) W)) := hid (fun W hW => shaped_any a HWF.out m hmt W (HL.out.ext hW))
 have KB : Hid (a.shaped = true -> ∀ W, Ext (w.alloc (.cells (asbC a m) 65)) W -> Calls Tryz.prog 103 #[asbV a m] W (Ret (str a.bytes) W)) := hid (fun hs W hW => abuild_any a HWF.out (hsm hs) hs m W (HL.out.ext hW))
 have HR : Hid (a.right = (a.shaped && decide (a.bytes.length <= 4000))) := rfl
 have HBL : Hid (a.shaped = true -> a.bytes.length <= 6000000) := hid (fun hs => by
  have h1 := catL_le (L := a.items) (B := 1000000) (fun t ht => by have := T.bytes_le t; have := (AV.items_all HWF.out (hsm hs) hs t ht).2.2; omega) a.items.length (Nat.le_refl _)
  have h2 : a.bytes = catL a.items a.items.length := by unfold AV.bytes catL; rw [List.take_length]
  have h3 := AV.items_length a
  rw [h2]; omega)
 clear hw hsm hmt h
 cases hs : a.shaped with
 | false =>
  rw [hs] at KS
  have HX : Hid (a.right = false) := hid (by rw [HR.out, hs]; rfl)
  clear hs KB HBL
  go_enter Tryz.func102, Tryz.ntmps102
  go_upto_region 1 with fail
  generalize w.alloc (.cells (asbC a m) 65) = V at *
  obtain ⟨e, he⟩ := Later.self V
  rw [he]
  clear he
  have tk1 : True := trivial
  have tk2 : True := trivial
  go_wp2_with (first | (clear tk1; refine wpList_row (by rfl) 65 _ rfl _ rfl (HB0.out.later _) vqB rfl (by kernel_rfl) ?_) | (go_at_call 128; refine (Ret.later (KS.out _ (Later.h _))).mono ?_; rintro x _ ⟨rfl, e, rfl⟩))
  go_ret
  exact Ret.mk (by rw [HX.out]; rfl) (HE.out.trans e.h)
 | true =>
  rw [hs] at KS
  have KB := hid (KB.out hs)
  have hbl := HBL.out hs
  have HX : Hid (a.right = decide (a.bytes.length <= 4000)) := hid (by rw [HR.out, hs]; rfl)
  clear hs HBL HR
  generalize a.bytes = BB at *
  go_enter Tryz.func102, Tryz.ntmps102
  go_upto_region 1 with fail
  generalize w.alloc (.cells (asbC a m) 65) = V at *
  obtain ⟨e, he⟩ := Later.self V
  rw [he]
  clear he
  have tk1 : True := trivial
  have tk2 : True := trivial
  go_wp2_with (first | (clear tk1; refine wpList_row (by rfl) 65 _ rfl _ rfl (HB0.out.later _) vqB rfl (by kernel_rfl) ?_) | (go_at_call 128; refine (Ret.later (KS.out _ (Later.h _))).mono ?_; rintro x _ ⟨rfl, e, rfl⟩) | (clear tk2; refine wpList_row (by rfl) 65 _ rfl _ rfl (HB0.out.later _) vqB rfl (by kernel_rfl) ?_) | (go_at_call 103; refine (Ret.later (KB.out _ (Later.h _))).mono ?_; rintro x _ ⟨rfl, e, rfl⟩))
  go_ret
  refine Ret.mk ?_ (HE.out.trans e.h)
  rw [HX.out]
  simp
  try omega
def lastT (ch : Nat -> T) (s : List UInt8) : T := T.mk 4 0 [] false 6 fun i => if i = 5 then strT s else ch i
def bldL (t : T) : List UInt8 := if t.right 8 then t.bytes else []
theorem buildV_bld (t : T) : ∃ E, buildV t = .tuple #[str (bldL t), .int .i64 E] := by
 unfold buildV bldL
 split
 . exact ⟨_, rfl⟩
 . exact ⟨_, rfl⟩
theorem lastK {W W' : World} {g : Nat} {Q : Nat -> Prop} {ch : Nat -> T} {ac : Nat -> Option Addr × Nat} (hm : Mod [g] W W') (hq : ∀ b, Q b -> b ≠ g) (h : ∀ i, i < 6 -> IsL W Q (ch i) (ac i).1) (s : List UInt8) :
  ∀ i, i < 6 -> IsL W' Q ((fun i => if i = 5 then strT s else ch i) i) ((fun i => if i = 5 then ((none : Option Addr), 0) else ac i) i).1 := by
 intro i hi
 by_cases e : i = 5
 . subst e; simp only [if_true]; exact fun h => absurd h (by decide)
 .
  simp only [if_neg e]
  exact IsL.mod hm (fun k hk _ hm => by rw [List.mem_singleton] at hm; exact hq k hk hm) _ (h i hi)
set_option maxRecDepth 20000 in
set_option maxHeartbeats 1600000 in
theorem summed_any (ch : Nat -> T) (kind : Nat) (k1 : Hid (1 <= kind)) (k2 : Hid (kind <= 2)) (hok : Hid ((lastT ch (List.replicate (2 * kind) 0)).ok /\ (lastT ch (List.replicate (2 * kind) 0)).size <= 100000)) (hbl : Hid ((bldL (lastT ch (List.replicate (2 * kind) 0))).length < 1000000)) (N : Nat) (A : Option Addr) (c : Nat) (w : World) (hN : Hid (N <= w.heap.size)) (h : IsL w (fun b => N <= b) (T.mk 4 0 [] false 6 ch) A) :
  Calls Tryz.prog 165 #[.int .i64 (kind : Int), .agg #[.int .i64 4, .int .u64 0, str [], .slice A 6 c, .bool false]] w (fun e w' => ∃ A c, e = .returned (itemV (lastT ch (Crc.sumL kind (bldL (lastT ch (List.replicate (2 * kind) 0))))) A c) /\ Ext w w' /\ IsL w' (fun b => N <= b) (lastT ch (Crc.sumL kind (bldL (lastT ch (List.replicate (2 * kind) 0))))) A) := by
 have e1 : ((kind : Int) = 0) = False := by have := k1.out; simp; omega
 have e2 : ((kind : Int) == 0) = false := by have := k1.out; simp; omega
 have HI : Hid (IsL w (fun b => N <= b /\ b < w.heap.size) (T.mk 4 0 [] false 6 ch) A) := IsL.weak (fun k hk hq => ⟨hq, hk⟩) _ h
 clear h
 have KR := hid (fun W => Repeat_zero (2 * kind) (by have := k2.out; omega) W)
 have KS := hid (fun W => Sum_any kind k1.out k2.out (bldL (lastT ch (List.replicate (2 * kind) 0))) hbl W)
 obtain ⟨E, hE⟩ := buildV_bld (lastT ch (List.replicate (2 * kind) 0))
 have HV := hid hE; clear hE
 have hTk : (lastT ch (List.replicate (2 * kind) 0)) = T.mk 4 0 [] false 6 (fun i => if i = 5 then strT (List.replicate (2 * kind) 0) else ch i) := rfl
 have HT := hid hTk; clear hTk
 generalize bldL (lastT ch (List.replicate (2 * kind) 0)) = B at *
 have HU : Hid (lastT ch (Crc.sumL kind B) = T.mk 4 0 [] false 6 (fun i => if i = 5 then strT (Crc.sumL kind B) else if i = 5 then strT (List.replicate (2 * kind) 0) else ch i)) := by
  unfold Hid lastT
  congr 1
  funext i
  split <;> rfl
 generalize lastT ch (Crc.sumL kind B) = U at *
 generalize lastT ch (List.replicate (2 * kind) 0) = Y at *
 generalize List.replicate (2 * kind) (0 : UInt8) = Z at *
 generalize Crc.sumL kind B = S at *
 have HE := hid (((Mod.refl [] w).alloc (.cells #[.int .i64 4, .int .u64 0, str [], .slice A 6 c, .bool false] 68)).alloc (.cells #[.int .i64 0, .int .u64 0, .string ⟨#[]⟩, .slice none 0 0, .bool false] 68))
 have HR : Hid (Blk ((w.alloc (.cells #[.int .i64 4, .int .u64 0, str [], .slice A 6 c, .bool false] 68)).alloc (.cells #[.int .i64 0, .int .u64 0, .string ⟨#[]⟩, .slice none 0 0, .bool false] 68)) (w.heap.size + 1) 68 (itemC (numT 0) none 0)) := by
  have := Blk.new (w.alloc (.cells #[.int .i64 4, .int .u64 0, str [], .slice A 6 c, .bool false] 68)) 68 (itemC (numT 0) none 0)
  unfold Hid
  simpa [itemC, numT, T.kind, T.n, T.s, T.k, T.op] using this
 go_enter Tryz.func165, Tryz.ntmps165
 go_wp2_with fail
 refine (CloneI_any ch 6 (by unfold Hid; omega) A c _ (HI.out.ext HE.out)).mono ?_
 rintro e w1 ⟨g, c', ac, rfl, hb1, hg1, hlt1, hown1, hk1⟩
 have HE1 := hid (HE.out.trans hb1)
 have HR1 := hid (HR.out.ext hb1)
 have HO1 := hid hown1
 have HK1 := hid hk1
 have HG : Hid (w.heap.size + 2 <= g) := by unfold Hid; simpa using hg1
 have HL1 := hid hlt1
 clear hb1 hg1 hlt1 hown1 hk1 HE HR HI
 go_wp2_with fail
 refine (Size_any kind k2.out _).mono ?_
 rintro e w2 ⟨rfl, hb2⟩
 have HE2 := hid (HE1.out.trans hb2)
 have HR2 := hid (HR1.out.ext hb2)
 have HO2 := hid (ownsRow_mod HO1.out hb2 (by simp))
 have HK2 : Hid (∀ i, i < 6 -> IsL w2 (fun b => N <= b /\ b < w.heap.size) (ch i) (ac i).1) := fun i hi => (HK1.out i hi).ext hb2
 have HL2 := hid (Nat.lt_of_lt_of_le HL1.out hb2.size)
 clear hb2 HE1 HR1 HO1 HK1 HL1
 go_wp2_with fail
 refine (KR.out _).mono ?_
 rintro e w3 ⟨rfl, hb3⟩
 have HE3 := hid (HE2.out.trans hb3)
 have HR3 := hid (HR2.out.ext hb3)
 have HO3 := hid (ownsRow_mod HO2.out hb3 (by simp))
 have HK3 : Hid (∀ i, i < 6 -> IsL w3 (fun b => N <= b /\ b < w.heap.size) (ch i) (ac i).1) := fun i hi => (HK2.out i hi).ext hb3
 have HL3 := hid (Nat.lt_of_lt_of_le HL2.out hb3.size)
 clear hb3 HE2 HR2 HO2 HK2 HL2
 go_wp2_with fail
 refine (StrV_any _ _).mono ?_
 rintro e w4 ⟨rfl, hb4⟩
 have HE4 := hid (HE3.out.trans hb4)
 have HR4 := hid (HR3.out.ext hb4)
 have HO4 := hid (ownsRow_mod HO3.out hb4 (by simp))
 have HK4 : Hid (∀ i, i < 6 -> IsL w4 (fun b => N <= b /\ b < w.heap.size) (ch i) (ac i).1) := fun i hi => (HK3.out i hi).ext hb4
 have HL4 := hid (Nat.lt_of_lt_of_le HL3.out hb4.size)
 clear hb4 HE3 HR3 HO3 HK3 HL3
 obtain ⟨x0, x1, x2, x3, x4⟩ := flatC_get ch ac 6 5 (by omega)
 have y0 := own_cells HO4.out x0
 have y1 := own_cells HO4.out x1
 have y2 := own_cells HO4.out x2
 have y3 := own_cells HO4.out x3
 have y4 := own_cells HO4.out x4
 clear x0 x1 x2 x3 x4
 have z0 := HO4.out.frozenAt 25
 have z1 := HO4.out.frozenAt 26
 have z2 := HO4.out.frozenAt 27
 have z3 := HO4.out.frozenAt 28
 have z4 := HO4.out.frozenAt 29
 go_wp2_with fail
 clear y0 y1 y2 y3 y4 z0 z1 z2 z3 z4
 have HO5 := hid (own_last (n := 5) (strT Z) none 0 HO4.out)
 have HM5 := hid (((((((Mod.refl [g] w4).setCell (p := ⟨g, 25, none⟩) (.inl (by simp)) (.int .i64 2)).setCell (p := ⟨g, 26, none⟩) (.inl (by simp)) (.int .u64 0)).setCell (p := ⟨g, 27, none⟩) (.inl (by simp)) (str Z)).setCell (p := ⟨g, 28, none⟩) (.inl (by simp)) (.slice none 0 0)).setCell (p := ⟨g, 29, none⟩) (.inl (by simp)) (.bool false)))
 have HE5 := hid (((((HE4.out.setCell (p := ⟨g, 25, none⟩) (.inr (by have := HG.out; show w.heap.size <= g; omega)) (.int .i64 2)).setCell (p := ⟨g, 26, none⟩) (.inr (by have := HG.out; show w.heap.size <= g; omega)) (.int .u64 0)).setCell (p := ⟨g, 27, none⟩) (.inr (by have := HG.out; show w.heap.size <= g; omega)) (str Z)).setCell (p := ⟨g, 28, none⟩) (.inr (by have := HG.out; show w.heap.size <= g; omega)) (.slice none 0 0)).setCell (p := ⟨g, 29, none⟩) (.inr (by have := HG.out; show w.heap.size <= g; omega)) (.bool false))
 change Hid (World.ownsRow (((((w4.setCell ⟨g, 25, none⟩ (.int .i64 2)).setCell ⟨g, 26, none⟩ (.int .u64 0)).setCell ⟨g, 27, none⟩ (str Z)).setCell ⟨g, 28, none⟩ (.slice none 0 0)).setCell ⟨g, 29, none⟩ (.bool false)) _ _ _ _ _ _) at HO5
 change Hid (Mod [g] w4 (((((w4.setCell ⟨g, 25, none⟩ (.int .i64 2)).setCell ⟨g, 26, none⟩ (.int .u64 0)).setCell ⟨g, 27, none⟩ (str Z)).setCell ⟨g, 28, none⟩ (.slice none 0 0)).setCell ⟨g, 29, none⟩ (.bool false))) at HM5
 change Hid (Mod [] w (((((w4.setCell ⟨g, 25, none⟩ (.int .i64 2)).setCell ⟨g, 26, none⟩ (.int .u64 0)).setCell ⟨g, 27, none⟩ (str Z)).setCell ⟨g, 28, none⟩ (.slice none 0 0)).setCell ⟨g, 29, none⟩ (.bool false))) at HE5
 generalize (((((w4.setCell ⟨g, 25, none⟩ (.int .i64 2)).setCell ⟨g, 26, none⟩ (.int .u64 0)).setCell ⟨g, 27, none⟩ (str Z)).setCell ⟨g, 28, none⟩ (.slice none 0 0)).setCell ⟨g, 29, none⟩ (.bool false)) = w5 at *
 have HR5 := hid (HR4.out.mod HM5.out (by have := HG.out; simp; omega))
 have HK5 := hid (lastK HM5.out (fun b hb => by have := HG.out; omega) HK4.out Z)
 have HL5 := hid (Nat.lt_of_lt_of_le HL4.out HM5.out.size)
 clear HE4 HR4 HO4 HK4 HL4 HM5
 generalize hch : (fun i => if i = 5 then strT Z else ch i) = ch5 at *
 generalize hac : (fun i => if i = 5 then ((none : Option Addr), 0) else ac i) = ac5 at *
 have Hch5 := hid hch; clear hch; clear hac
 refine (ListV_any 6 _ c' _).mono ?_
 rintro e w6 ⟨rfl, hb6⟩
 have HE6 := hid (HE5.out.trans hb6)
 have HR6 := hid (HR5.out.ext hb6)
 have HO6 := hid (ownsRow_mod HO5.out hb6 (by simp))
 have HK6 : Hid (∀ i, i < 6 -> IsL w6 (fun b => N <= b /\ b < w.heap.size) (ch5 i) (ac5 i).1) := fun i hi => (HK5.out i hi).ext hb6
 have HL6 := hid (Nat.lt_of_lt_of_le HL5.out hb6.size)
 clear hb6 HE5 HR5 HO5 HK5 HL5
 have HY : Hid (Y = T.mk 4 0 [] false 6 ch5) := HT.out
 have HIY : Hid (IsL w6 (fun _ => True) Y (some ⟨g, 0, none⟩)) := by
  rw [HY.out]
  exact own_IsL HL6.out trivial HO6.out (fun i hi => IsL.weak (fun _ _ _ => trivial) _ (HK6.out i hi))
 have HBY : Hid (∀ W, IsL W (fun _ => True) Y (some ⟨g, 0, none⟩) -> Calls Tryz.prog 130 #[.agg #[.int .i64 4, .int .u64 0, str [], .slice (some ⟨g, 0, none⟩) 6 c', .bool false]] W (Ret (.tuple #[str B, .int .i64 E]) W)) := fun W hW => by
  have := iBuild_any Y hok.out.1 hok.out.2 (some ⟨g, 0, none⟩) c' W hW
  rw [HV.out, HY.out] at this
  exact this
 go_wp2_with fail
 refine (HBY.out _ HIY.out).mono ?_
 rintro e w7 ⟨rfl, hb7⟩
 have HE7 := hid (HE6.out.trans hb7)
 have HR7 := hid (HR6.out.ext hb7)
 have HO7 := hid (ownsRow_mod HO6.out hb7 (by simp))
 have HK7 : Hid (∀ i, i < 6 -> IsL w7 (fun b => N <= b /\ b < w.heap.size) (ch5 i) (ac5 i).1) := fun i hi => (HK6.out i hi).ext hb7
 have HL7 := hid (Nat.lt_of_lt_of_le HL6.out hb7.size)
 clear hb7 HE6 HR6 HO6 HK6 HL6
 clear HIY HBY HV
 go_wp2_with fail
 refine (KS.out _).mono ?_
 rintro e w8 ⟨rfl, hb8⟩
 have HE8 := hid (HE7.out.trans hb8)
 have HR8 := hid (HR7.out.ext hb8)
 have HO8 := hid (ownsRow_mod HO7.out hb8 (by simp))
 have HK8 : Hid (∀ i, i < 6 -> IsL w8 (fun b => N <= b /\ b < w.heap.size) (ch5 i) (ac5 i).1) := fun i hi => (HK7.out i hi).ext hb8
 have HL8 := hid (Nat.lt_of_lt_of_le HL7.out hb8.size)
 clear hb8 HE7 HR7 HO7 HK7 HL7
 go_wp2_with fail
 refine (StrV_any _ _).mono ?_
 rintro e w9 ⟨rfl, hb9⟩
 have HE9 := hid (HE8.out.trans hb9)
 have HR9 := hid (HR8.out.ext hb9)
 have HO9 := hid (ownsRow_mod HO8.out hb9 (by simp))
 have HK9 : Hid (∀ i, i < 6 -> IsL w9 (fun b => N <= b /\ b < w.heap.size) (ch5 i) (ac5 i).1) := fun i hi => (HK8.out i hi).ext hb9
 have HL9 := hid (Nat.lt_of_lt_of_le HL8.out hb9.size)
 clear hb9 HE8 HR8 HO8 HK8 HL8
 obtain ⟨x0, x1, x2, x3, x4⟩ := flatC_get ch5 ac5 6 5 (by omega)
 have y0 := own_cells HO9.out x0
 have y1 := own_cells HO9.out x1
 have y2 := own_cells HO9.out x2
 have y3 := own_cells HO9.out x3
 have y4 := own_cells HO9.out x4
 clear x0 x1 x2 x3 x4
 have z0 := HO9.out.frozenAt 25
 have z1 := HO9.out.frozenAt 26
 have z2 := HO9.out.frozenAt 27
 have z3 := HO9.out.frozenAt 28
 have z4 := HO9.out.frozenAt 29
 go_wp2_with fail
 clear y0 y1 y2 y3 y4 z0 z1 z2 z3 z4
 have HO10 := hid (own_last (n := 5) (strT S) none 0 HO9.out)
 have HM10 := hid (((((((Mod.refl [g] w9).setCell (p := ⟨g, 25, none⟩) (.inl (by simp)) (.int .i64 2)).setCell (p := ⟨g, 26, none⟩) (.inl (by simp)) (.int .u64 0)).setCell (p := ⟨g, 27, none⟩) (.inl (by simp)) (str S)).setCell (p := ⟨g, 28, none⟩) (.inl (by simp)) (.slice none 0 0)).setCell (p := ⟨g, 29, none⟩) (.inl (by simp)) (.bool false)))
 have HE10 := hid (((((HE9.out.setCell (p := ⟨g, 25, none⟩) (.inr (by have := HG.out; show w.heap.size <= g; omega)) (.int .i64 2)).setCell (p := ⟨g, 26, none⟩) (.inr (by have := HG.out; show w.heap.size <= g; omega)) (.int .u64 0)).setCell (p := ⟨g, 27, none⟩) (.inr (by have := HG.out; show w.heap.size <= g; omega)) (str S)).setCell (p := ⟨g, 28, none⟩) (.inr (by have := HG.out; show w.heap.size <= g; omega)) (.slice none 0 0)).setCell (p := ⟨g, 29, none⟩) (.inr (by have := HG.out; show w.heap.size <= g; omega)) (.bool false))
 change Hid (World.ownsRow (((((w9.setCell ⟨g, 25, none⟩ (.int .i64 2)).setCell ⟨g, 26, none⟩ (.int .u64 0)).setCell ⟨g, 27, none⟩ (str S)).setCell ⟨g, 28, none⟩ (.slice none 0 0)).setCell ⟨g, 29, none⟩ (.bool false)) _ _ _ _ _ _) at HO10
 change Hid (Mod [g] w9 (((((w9.setCell ⟨g, 25, none⟩ (.int .i64 2)).setCell ⟨g, 26, none⟩ (.int .u64 0)).setCell ⟨g, 27, none⟩ (str S)).setCell ⟨g, 28, none⟩ (.slice none 0 0)).setCell ⟨g, 29, none⟩ (.bool false))) at HM10
 change Hid (Mod [] w (((((w9.setCell ⟨g, 25, none⟩ (.int .i64 2)).setCell ⟨g, 26, none⟩ (.int .u64 0)).setCell ⟨g, 27, none⟩ (str S)).setCell ⟨g, 28, none⟩ (.slice none 0 0)).setCell ⟨g, 29, none⟩ (.bool false))) at HE10
 generalize (((((w9.setCell ⟨g, 25, none⟩ (.int .i64 2)).setCell ⟨g, 26, none⟩ (.int .u64 0)).setCell ⟨g, 27, none⟩ (str S)).setCell ⟨g, 28, none⟩ (.slice none 0 0)).setCell ⟨g, 29, none⟩ (.bool false)) = w10 at *
 have HR10 := hid (HR9.out.mod HM10.out (by have := HG.out; simp; omega))
 have HK10 := hid (lastK HM10.out (fun b hb => by have := HG.out; omega) HK9.out S)
 have HL10 := hid (Nat.lt_of_lt_of_le HL9.out HM10.out.size)
 clear HE9 HR9 HO9 HK9 HL9 HM10
 generalize hch : (fun i => if i = 5 then strT S else ch5 i) = ch10 at *
 generalize hac : (fun i => if i = 5 then ((none : Option Addr), 0) else ac5 i) = ac10 at *
 have Hch10 := hid hch; clear hch; clear hac
 refine (ListV_any 6 _ c' _).mono ?_
 rintro e w11 ⟨rfl, hb11⟩
 have HE11 := hid (HE10.out.trans hb11)
 have HR11 := hid (HR10.out.ext hb11)
 have HO11 := hid (ownsRow_mod HO10.out hb11 (by simp))
 have HK11 : Hid (∀ i, i < 6 -> IsL w11 (fun b => N <= b /\ b < w.heap.size) (ch10 i) (ac10 i).1) := fun i hi => (HK10.out i hi).ext hb11
 have HL11 := hid (Nat.lt_of_lt_of_le HL10.out hb11.size)
 clear hb11 HE10 HR10 HO10 HK10 HL10
 have HU2 : U = T.mk 4 0 [] false 6 ch10 := by rw [HU.out, <- Hch10.out, <- Hch5.out]
 have HIU : Hid (IsL w11 (fun b => b ≠ w.heap.size + 1 /\ N <= b) U (some ⟨g, 0, none⟩)) := by
  rw [HU2]
  exact own_IsL HL11.out (by have := HG.out; have := hN.out; omega) HO11.out (fun i hi => IsL.weak (fun k _ hq => ⟨by omega, hq.1⟩) _ (HK11.out i hi))
 obtain ⟨c0, c1, c2, c3, c4⟩ := cells5 HR11.out
 have f0 := Blk.frozen HR11.out 0
 have f1 := Blk.frozen HR11.out 1
 have f2 := Blk.frozen HR11.out 2
 have f3 := Blk.frozen HR11.out 3
 have f4 := Blk.frozen HR11.out 4
 go_wp2_with fail
 obtain ⟨d0, d1, d2, d3, d4⟩ := cells5 (set5_blk (t := T.mk 4 0 [] false 6 ch10) (A := some ⟨g, 0, none⟩) (c := c') HR11.out)
 clear c0 c1 c2 c3 c4 f0 f1 f2 f3 f4
 show bodyPost _ _ _ _ _ (set5 w11 (w.heap.size + 1) (T.mk 4 0 [] false 6 ch10) (some ⟨g, 0, none⟩) c')
 refine bodyPost_ret (v := itemV (T.mk 4 0 [] false 6 ch10) (some ⟨g, 0, none⟩) c') (by simp [results, Tryz.results165, go_sem, d0, d1, d2, d3, d4]) rfl ?_
 refine ⟨some ⟨g, 0, none⟩, c', by rw [HU2], set5_mod HE11.out (by omega), ?_⟩
 refine IsL.weak (fun _ _ h => h.2) _ (IsL.mod (Q := fun b => b ≠ w.heap.size + 1 /\ N <= b) set5_modb (fun k hq hk hm => by rw [List.mem_singleton] at hm; exact hq.1 hm) _ HIU.out)
section
open Go.ChangeShapes Go.WideShapes Go.ChangeAt Go.Deep
def SlA (A : Option Addr) (k c : Nat) : Prop := (A = none -> k = 0 /\ c = 0) /\ k <= c /\ c <= maxLen
def EV.wf (e : EV) : Prop := (-9223372036854775808 <= e.sch /\ e.sch <= 9223372036854775807) /\ e.node < 18446744073709551616 /\ e.svc < 18446744073709551616
def PV.wf (p : PV) : Prop := p.fl < 18446744073709551616 /\ (-9223372036854775808 <= p.crc /\ p.crc <= 9223372036854775807) /\ p.d.wf /\ p.s.wf /\ p.r.wf /\ p.t < 18446744073709551616 /\ p.q < 18446744073709551616 /\ p.l < 18446744073709551616 /\ p.o < 18446744073709551616 /\ p.n < 18446744073709551616
def BV.wf (b : BV) : Prop := (-9223372036854775808 <= b.ty /\ b.ty <= 9223372036854775807) /\ (-9223372036854775808 <= b.num /\ b.num <= 9223372036854775807) /\ b.fl < 18446744073709551616 /\ (-9223372036854775808 <= b.crc /\ b.crc <= 9223372036854775807)
section
variable {H : Type} {enc : TypeId × Value -> H} {w : World} {base b0 : Nat} {spare : Nat -> Bool} {held : Bool} {r : Reach}
theorem fldB {P : Program} {n k : Nat} {ty : TypeId} {l : List Value} {off : Nat} {y : Option (DataW H × List MemPlace)} (hk : P.cellsOf ty = k) (h : DataW.trod enc P w base spare held n ty ((l.drop off).take (P.cellsOf ty)) = y) : DataW.trod enc P w base spare held n ty ((l.drop off).take k) = y := by rw [hk] at h; exact h
set_option maxRecDepth 100000 in
theorem trod_blkC {fuel : Nat} {L : List Value} {x : DataW H × List MemPlace} (h : DataW.trod enc Tryz.prog w base spare held fuel 45 L = some x) : ∃ b : BV, L = [.int .i64 b.ty, .int .i64 b.num, .int .u64 (b.fl : Int), .int .i64 b.crc, str b.data] /\ b.wf := by
 obtain ⟨ys, n', hn', hy, hlen, hyl, hfl⟩ := DataW.trod_struct vqG h
 clear h
 match L, hlen with
 | [c0, c1, c2, c3, c4], _ =>
  have h0 := field_at (by kernel_rfl) hfl (i := 0) rfl rfl
  have h1 := field_at (by kernel_rfl) hfl (i := 1) rfl rfl
  have h2 := field_at (by kernel_rfl) hfl (i := 2) rfl rfl
  have h3 := field_at (by kernel_rfl) hfl (i := 3) rfl rfl
  have h4 := field_at (by kernel_rfl) hfl (i := 4) rfl rfl
  clear hfl
  match ys, hyl with
  | [y0, y1, y2, y3, y4], _ =>
   obtain ⟨ty, e0, _, w0⟩ := DataW.trod_int (k := .i64) (by kernel_rfl) h0
   obtain ⟨num, e1, _, w1⟩ := DataW.trod_int (k := .i64) (by kernel_rfl) h1
   obtain ⟨fl, e2, _, w2⟩ := DataW.trod_int (k := .u64) (by kernel_rfl) h2
   obtain ⟨crc, e3, _, w3⟩ := DataW.trod_int (k := .i64) (by kernel_rfl) h3
   obtain ⟨s, e4, _, _⟩ := DataW.trod_string (by kernel_rfl) h4
   have q0 : c0 = .int .i64 ty := by have : [c0] = [Value.int .i64 ty] := e0; simpa using this
   have q1 : c1 = .int .i64 num := by have : [c1] = [Value.int .i64 num] := e1; simpa using this
   have q2 : c2 = .int .u64 fl := by have : [c2] = [Value.int .u64 fl] := e2; simpa using this
   have q3 : c3 = .int .i64 crc := by have : [c3] = [Value.int .i64 crc] := e3; simpa using this
   have q4 : c4 = .string s := by have : [c4] = [Value.string s] := e4; simpa using this
   subst q0 q1 q2 q3 q4
   have b0 : -9223372036854775808 <= ty /\ ty <= 9223372036854775807 := by simpa [Lit.wf, IntKind.min, IntKind.max, IntKind.signed, IntKind.bits] using w0
   have b1 : -9223372036854775808 <= num /\ num <= 9223372036854775807 := by simpa [Lit.wf, IntKind.min, IntKind.max, IntKind.signed, IntKind.bits] using w1
   have b2 : 0 <= fl /\ fl <= 18446744073709551615 := by simpa [Lit.wf, IntKind.min, IntKind.max, IntKind.signed, IntKind.bits] using w2
   have b3 : -9223372036854775808 <= crc /\ crc <= 9223372036854775807 := by simpa [Lit.wf, IntKind.min, IntKind.max, IntKind.signed, IntKind.bits] using w3
   obtain ⟨fl, rfl⟩ := Int.eq_ofNat_of_zero_le b2.1
   exact ⟨⟨ty, num, fl, crc, s.data.toList⟩, rfl, b0, b1, by show fl < _; omega, b3⟩
set_option maxRecDepth 100000 in
theorem trod_priC {fuel : Nat} {L : List Value} {x : DataW H × List MemPlace} (h : DataW.trod enc Tryz.prog w base spare held fuel 26 L = some x) : ∃ p : PV, L = p.c.toList /\ p.wf := by
 obtain ⟨ys, n', hn', hy, hlen, hyl, hfl⟩ := DataW.trod_struct vqJ h
 clear h
 have k1 : Tryz.prog.cellsOf 22 = 1 := by kernel_rfl
 have k2 : Tryz.prog.cellsOf 3 = 1 := by kernel_rfl
 have k3 : Tryz.prog.cellsOf 24 = 4 := by kernel_rfl
 match L, hlen with
 | [c0, c1, c2, c3, c4, c5, c6, c7, c8, c9, c10, c11, c12, c13, c14, c15, c16, c17, c18], _ =>
  match ys, hyl with
  | [y0, y1, y2, y3, y4, y5, y6, y7, y8, y9], _ =>
   have h0 : DataW.trod enc Tryz.prog w base spare held n' 22 [c0] = some y0 := fldB k1 (hfl 0 _ rfl)
   have h1 : DataW.trod enc Tryz.prog w base spare held n' 3 [c1] = some y1 := fldB k2 (hfl 1 _ rfl)
   have h2 : DataW.trod enc Tryz.prog w base spare held n' 24 [c2, c3, c4, c5] = some y2 := fldB k3 (hfl 2 _ rfl)
   have h3 : DataW.trod enc Tryz.prog w base spare held n' 24 [c6, c7, c8, c9] = some y3 := fldB k3 (hfl 3 _ rfl)
   have h4 : DataW.trod enc Tryz.prog w base spare held n' 24 [c10, c11, c12, c13] = some y4 := fldB k3 (hfl 4 _ rfl)
   have h5 : DataW.trod enc Tryz.prog w base spare held n' 22 [c14] = some y5 := fldB k1 (hfl 5 _ rfl)
   have h6 : DataW.trod enc Tryz.prog w base spare held n' 22 [c15] = some y6 := fldB k1 (hfl 6 _ rfl)
   have h7 : DataW.trod enc Tryz.prog w base spare held n' 22 [c16] = some y7 := fldB k1 (hfl 7 _ rfl)
   have h8 : DataW.trod enc Tryz.prog w base spare held n' 22 [c17] = some y8 := fldB k1 (hfl 8 _ rfl)
   have h9 : DataW.trod enc Tryz.prog w base spare held n' 22 [c18] = some y9 := fldB k1 (hfl 9 _ rfl)
   clear hfl
   obtain ⟨z1, e1, _, w1⟩ := DataW.trod_int (k := .i64) (by kernel_rfl) h1
   have b1 : -9223372036854775808 <= z1 /\ z1 <= 9223372036854775807 := by simpa [Lit.wf, IntKind.min, IntKind.max, IntKind.signed, IntKind.bits] using w1
   obtain ⟨E2, e2, n2, s2, x2⟩ := trod_eid h2
   obtain ⟨E3, e3, n3, s3, x3⟩ := trod_eid h3
   obtain ⟨E4, e4, n4, s4, x4⟩ := trod_eid h4
   obtain ⟨z0, e0, _, w0⟩ := DataW.trod_int (k := .u64) (by kernel_rfl) h0
   have b0 : 0 <= z0 /\ z0 <= 18446744073709551615 := by simpa [Lit.wf, IntKind.min, IntKind.max, IntKind.signed, IntKind.bits] using w0
   obtain ⟨z0, rfl⟩ := Int.eq_ofNat_of_zero_le b0.1
   obtain ⟨z5, e5, _, w5⟩ := DataW.trod_int (k := .u64) (by kernel_rfl) h5
   have b5 : 0 <= z5 /\ z5 <= 18446744073709551615 := by simpa [Lit.wf, IntKind.min, IntKind.max, IntKind.signed, IntKind.bits] using w5
   obtain ⟨z5, rfl⟩ := Int.eq_ofNat_of_zero_le b5.1
   obtain ⟨z6, e6, _, w6⟩ := DataW.trod_int (k := .u64) (by kernel_rfl) h6
   have b6 : 0 <= z6 /\ z6 <= 18446744073709551615 := by simpa [Lit.wf, IntKind.min, IntKind.max, IntKind.signed, IntKind.bits] using w6
   obtain ⟨z6, rfl⟩ := Int.eq_ofNat_of_zero_le b6.1
   obtain ⟨z7, e7, _, w7⟩ := DataW.trod_int (k := .u64) (by kernel_rfl) h7
   have b7 : 0 <= z7 /\ z7 <= 18446744073709551615 := by simpa [Lit.wf, IntKind.min, IntKind.max, IntKind.signed, IntKind.bits] using w7
   obtain ⟨z7, rfl⟩ := Int.eq_ofNat_of_zero_le b7.1
   obtain ⟨z8, e8, _, w8⟩ := DataW.trod_int (k := .u64) (by kernel_rfl) h8
   have b8 : 0 <= z8 /\ z8 <= 18446744073709551615 := by simpa [Lit.wf, IntKind.min, IntKind.max, IntKind.signed, IntKind.bits] using w8
   obtain ⟨z8, rfl⟩ := Int.eq_ofNat_of_zero_le b8.1
   obtain ⟨z9, e9, _, w9⟩ := DataW.trod_int (k := .u64) (by kernel_rfl) h9
   have b9 : 0 <= z9 /\ z9 <= 18446744073709551615 := by simpa [Lit.wf, IntKind.min, IntKind.max, IntKind.signed, IntKind.bits] using w9
   obtain ⟨z9, rfl⟩ := Int.eq_ofNat_of_zero_le b9.1
   simp only [List.cons.injEq, and_true] at e0 e1 e2 e3 e4 e5 e6 e7 e8 e9
   obtain ⟨rfl, rfl, rfl, rfl⟩ := e2
   obtain ⟨rfl, rfl, rfl, rfl⟩ := e3
   obtain ⟨rfl, rfl, rfl, rfl⟩ := e4
   subst e0 e1 e5 e6 e7 e8 e9
   exact ⟨⟨z0, z1, E2, E3, E4, z5, z6, z7, z8, z9⟩, rfl, by show z0 < _; omega, b1, ⟨x2, n2, s2⟩, ⟨x3, n3, s3⟩, ⟨x4, n4, s4⟩, by show z5 < _; omega, by show z6 < _; omega, by show z7 < _; omega, by show z8 < _; omega, by show z9 < _; omega⟩
theorem trod_blksS {fuel : Nat} {c3 : Value} {y : DataW H × List MemPlace} (h3 : DataW.trod enc Tryz.prog w base spare held fuel 27 [c3] = some y) (hz : ∀ n ∈ y.1.weights Tryz.prog 27, n <= reachBytes) :
  ∃ (A : Option Addr) (k c : Nat) (bs : Nat -> BV), c3 = .slice A k c /\ k < 4611686018427387904 /\ BsL w A k bs /\ (∀ i, i < k -> (bs i).wf) /\ SlA A k c := by
 have hR : reachBytes < 140737488355328 := by decide
 rcases DataW.trod_slice (e := 45) (by kernel_rfl) h3 with ⟨hcs, _⟩ | ⟨a, len, cap', elems, rest, f, hf, hcs, hx, hb, hl, hm, hlen, hel, _, _⟩
 .
  have e3 : c3 = .slice none 0 0 := by simpa using hcs
  subst e3
  exact ⟨none, 0, 0, fun _ => zeroB, rfl, by omega, fun h => by omega, fun i hi => by omega, fun _ => ⟨rfl, rfl⟩, Nat.le_refl _, Nat.zero_le _⟩
 .
  have e3 : c3 = .slice (some a) len cap' := by simpa using hcs
  subst e3
  have hC : Tryz.prog.cellsOf 45 = 5 := by kernel_rfl
  have hBy : Tryz.prog.bytesOf 45 = 48 := by kernel_rfl
  have hzs := hz
  rw [hx] at hzs
  simp only [DataW.weights, Tryz.underlying27] at hzs
  have bl : len < 4611686018427387904 := by
   have h8 := hzs _ List.mem_cons_self
   rw [hBy, List.length_map, hlen] at h8
   have h9 : len * 48 <= (len + (List.map (fun x => x.1) rest).length) * 48 := Nat.mul_le_mul_right _ (Nat.le_add_right _ _)
   omega
  have key : ∀ i, i < len -> ∃ t : BV, (w.cell? ((a.add (i * 5)).add 0) = some (.int .i64 t.ty) /\ w.cell? ((a.add (i * 5)).add 1) = some (.int .i64 t.num) /\ w.cell? ((a.add (i * 5)).add 2) = some (.int .u64 (t.fl : Int)) /\ w.cell? ((a.add (i * 5)).add 3) = some (.int .i64 t.crc) /\ w.cell? ((a.add (i * 5)).add 4) = some (str t.data)) /\ t.wf := by
   intro i hin
   have hi := hel i hin
   rw [List.getElem?_eq_getElem (by omega)] at hi
   obtain ⟨cs', hc, ht⟩ := Option.bind_eq_some_iff.1 hi
   obtain ⟨t, rfl, hw⟩ := trod_blkC ht
   rw [hC] at hc
   obtain ⟨_, hcl, hat⟩ := World.cells?_some hc
   exact ⟨t, ⟨hat 0 (by simp), hat 1 (by simp), hat 2 (by simp), hat 3 (by simp), hat 4 (by simp)⟩, hw⟩
  have key2 : ∀ i, ∃ t : BV, i < len -> (w.cell? ((a.add (i * 5)).add 0) = some (.int .i64 t.ty) /\ w.cell? ((a.add (i * 5)).add 1) = some (.int .i64 t.num) /\ w.cell? ((a.add (i * 5)).add 2) = some (.int .u64 (t.fl : Int)) /\ w.cell? ((a.add (i * 5)).add 3) = some (.int .i64 t.crc) /\ w.cell? ((a.add (i * 5)).add 4) = some (str t.data)) /\ t.wf := fun i => by
   by_cases hin : i < len
   .
    obtain ⟨t, h5⟩ := key i hin
    exact ⟨t, fun _ => h5⟩
   . exact ⟨zeroB, fun h => absurd h hin⟩
  obtain ⟨g, hg⟩ : ∃ g : Nat -> BV, ∀ i, i < len -> (w.cell? ((a.add (i * 5)).add 0) = some (.int .i64 (g i).ty) /\ w.cell? ((a.add (i * 5)).add 1) = some (.int .i64 (g i).num) /\ w.cell? ((a.add (i * 5)).add 2) = some (.int .u64 ((g i).fl : Int)) /\ w.cell? ((a.add (i * 5)).add 3) = some (.int .i64 (g i).crc) /\ w.cell? ((a.add (i * 5)).add 4) = some (str (g i).data)) /\ (g i).wf :=
   ⟨fun i => Classical.choose (key2 i), fun i => Classical.choose_spec (key2 i)⟩
  refine ⟨some a, len, cap', g, rfl, bl, fun h0 => ?_, fun i hi => (hg i hi).2, (fun h => by cases h), hl, hm⟩
  obtain ⟨⟨z0, _⟩, _⟩ := hg 0 h0
  have z1 : w.cell? a = some (.int .i64 (g 0).ty) := by simpa [Addr.add] using z0
  have hsp := World.cell?_spot z1
  obtain ⟨ab, ao, sp⟩ := a
  simp only at hsp
  subst hsp
  refine ⟨ab, ao, rfl, World.block_lt_of_cell? w _ z1, fun i hin => ?_⟩
  obtain ⟨⟨g0, g1, g2, g3, g4⟩, _⟩ := hg i hin
  rw [addr_add, addr_add] at g0 g1 g2 g3 g4
  exact ⟨g0, g1, g2, g3, g4⟩
set_option maxRecDepth 100000 in
theorem open_bundleS {v : Value} {d : DataW H} {q : List MemPlace} (hval : Value.okWide Tryz.prog w r b0 29 v) (h : DataW.Trod enc Tryz.prog w base spare held 29 v d q) (hz : ∀ n ∈ d.weights Tryz.prog 29, n <= reachBytes) :
  ∃ (p : PV) (A : Option Addr) (k c : Nat) (bs : Nat -> BV), v = bunV p A k c /\ p.wf /\ k < 4611686018427387904 /\ BsL w A k bs /\ (∀ i, i < k -> (bs i).wf) /\ SlA A k c := by
 obtain ⟨cs, rfl, hsz⟩ := okWide_struct vqA hval
 obtain ⟨fuel, hf⟩ := h
 obtain ⟨ys, n', hn', hy, hlen, hyl, hfl⟩ := DataW.trod_struct vqA hf
 have hcs : (Value.agg cs).cells.toList = cs.toList := rfl
 rw [hcs] at hlen hfl
 obtain ⟨L, hL⟩ : ∃ L, L = cs.toList := ⟨_, rfl⟩
 rw [<- hL] at hlen hfl
 have hcsL : cs = L.toArray := by rw [hL]
 subst hcsL
 have hd : d = .agg (ys.map (·.1)) := by simpa using congrArg Prod.fst hy
 have hz' : ∀ n ∈ DataW.weightsEach Tryz.prog [26, 27] (ys.map (·.1)), n <= reachBytes := by
  intro n hn
  apply hz
  rw [hd]
  simp only [DataW.weights, vqA]
  exact hn
 clear hL hcs hf hval hsz hz
 have k1 : Tryz.prog.cellsOf 26 = 19 := by kernel_rfl
 have k2 : Tryz.prog.cellsOf 27 = 1 := by kernel_rfl
 match L, hlen with
 | [c0, c1, c2, c3, c4, c5, c6, c7, c8, c9, c10, c11, c12, c13, c14, c15, c16, c17, c18, c19], _ =>
  obtain ⟨y0, y1, rfl⟩ : ∃ y0 y1, ys = [y0, y1] := by clear hd hz' hy hfl; match ys, hyl with | [a, b], _ => exact ⟨a, b, rfl⟩
  .
   have h0 : DataW.trod enc Tryz.prog w base spare held n' 26 [c0, c1, c2, c3, c4, c5, c6, c7, c8, c9, c10, c11, c12, c13, c14, c15, c16, c17, c18] = some y0 := fldB k1 (hfl 0 _ rfl)
   have h1 : DataW.trod enc Tryz.prog w base spare held n' 27 [c19] = some y1 := fldB k2 (hfl 1 _ rfl)
   clear hfl
   obtain ⟨p, hp, hw⟩ := trod_priC h0
   obtain ⟨A, k, c, bs, rfl, hk, hL, hbw⟩ := trod_blksS h1 (fun n hn => hz' n (DataW.weights_mem_each (j := 1) rfl rfl n hn))
   refine ⟨p, A, k, c, bs, ?_, hw, hk, hL, hbw⟩
   simp only [PV.c, List.cons.injEq, and_true] at hp
   obtain ⟨rfl, rfl, rfl, rfl, rfl, rfl, rfl, rfl, rfl, rfl, rfl, rfl, rfl, rfl, rfl, rfl, rfl, rfl, rfl⟩ := hp
   rfl
end
end
end Go.Proofs.YtmckfdmdkljomaaGreatDoor
