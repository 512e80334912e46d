/-
  Security texts: the reference's text without a target.
  Two strings become one, in a plain region.
  Security texts: their bytes; what a program that does nothing does not answer.
  Security texts: Right, Build; what a program that does nothing does not answer.
  Which names, primaries and bundles are of a size that is looked at.
  Security texts: of a size that is looked at; a number, and bytes, among pairs.
  Security texts: a number, and bytes, among pairs; the law AsbValues: its walk.
  Security texts: a number, and bytes, among pairs; the law AsbValues: its walk.
-/
import Derived.Test.YtogjghmoankleaaMAsbOwnf

namespace Go.Proofs.Ytogjghmoankleaa
open Go.RowKit
set_option linter.unusedVariables false
set_option linter.unusedSimpArgs false

set_option maxRecDepth 20000 in
set_option maxHeartbeats 64000000 in
theorem r15Without_some (a : AV) (hw : a.wf) (hf : a.fits) (t : Int) (i : Nat) (hx : atT a t = some i) (m : AA) (w : World) (h : AsL w anyQ a m) : Calls Try.prog 19 #[asbV a m, .int .i64 t] w (fun e w' => Ext w w' ∧ ∃ m', e = .returned (asbV (a.wo i) m') ∧ AsL w' anyQ (a.wo i) m') := by
  obtain ⟨mt, mtc, mp, mpc, mr, mrc⟩ := m
  have HF := hid hf
  have HW := hid hw
  have tk0 : (a.tk : Int) ≤ 100000 := by have := hf.1; omega
  have rk0 : (a.rk : Int) ≤ 100000 := by have := hf.2.2.1; omega
  have HE := hid (((Mod.refl [] w).alloc (.cells (asbC a ⟨mt, mtc, mp, mpc, mr, mrc⟩) 29)).alloc (.cells #[.slice none 0 0, .int .i64 0, .int .i64 0, .string ⟨#[]⟩, .int .u64 0, .int .u64 0, .slice none 0 0, .slice none 0 0] 29))
  have HB0 := hid ((Blk.new w 29 (asbC a ⟨mt, mtc, mp, mpc, mr, mrc⟩)).alloc (.cells #[.slice none 0 0, .int .i64 0, .int .i64 0, .string ⟨#[]⟩, .int .u64 0, .int .u64 0, .slice none 0 0, .slice none 0 0] 29))
  have HB1 : Hid (Blk ((w.alloc (.cells (asbC a ⟨mt, mtc, mp, mpc, mr, mrc⟩) 29)).alloc (.cells #[.slice none 0 0, .int .i64 0, .int .i64 0, .string ⟨#[]⟩, .int .u64 0, .int .u64 0, .slice none 0 0, .slice none 0 0] 29)) (w.heap.size + 1) 29 #[.slice none 0 0, .int .i64 0, .int .i64 0, .string ⟨#[]⟩, .int .u64 0, .int .u64 0, .slice none 0 0, .slice none 0 0]) := Blk.newL _ _ _ (by simp)
  have HL := hid (h.ext HE.out)
  have HL0 := hid (h.old.ext HE.out)
  have HX := hid (firstI_some hx)
  have HIK : Hid (i < a.tk) := hid (firstOf_spec hx).1
  have i0 : (0 : Int) ≤ (i : Int) := by omega
  clear hw hf h hx
  go_enter Try.func19, Try.ntmps19
  go_upto_region 1 with fail
  show Code.wp _ _ _ _ ((w.alloc (.cells (asbC a ⟨mt, mtc, mp, mpc, mr, mrc⟩) 29)).alloc (.cells #[.slice none 0 0, .int .i64 0, .int .i64 0, .string ⟨#[]⟩, .int .u64 0, .int .u64 0, .slice none 0 0, .slice none 0 0] 29))
  have HVS : Hid (w.heap.size + 2 = ((w.alloc (.cells (asbC a ⟨mt, mtc, mp, mpc, mr, mrc⟩) 29)).alloc (.cells #[.slice none 0 0, .int .i64 0, .int .i64 0, .string ⟨#[]⟩, .int .u64 0, .int .u64 0, .slice none 0 0, .slice none 0 0] 29)).heap.size) := hid (by simp)
  generalize (w.alloc (.cells (asbC a ⟨mt, mtc, mp, mpc, mr, mrc⟩) 29)).alloc (.cells #[.slice none 0 0, .int .i64 0, .int .i64 0, .string ⟨#[]⟩, .int .u64 0, .int .u64 0, .slice none 0 0, .slice none 0 0] 29) = V at *
  have b0 : ∀ e : Later V, e.x.cell? ⟨w.heap.size, 0, none⟩ = some (.slice mt a.tk mtc) := HB0.out.cellL 0 rfl
  have b1 : ∀ e : Later V, e.x.cell? ⟨w.heap.size, 1, none⟩ = some (.int .i64 a.ctx) := HB0.out.cellL 1 rfl
  have b6 : ∀ e : Later V, e.x.cell? ⟨w.heap.size, 6, none⟩ = some (.slice mp a.ps.k mpc) := HB0.out.cellL 6 rfl
  have b7 : ∀ e : Later V, e.x.cell? ⟨w.heap.size, 7, none⟩ = some (.slice mr a.rk mrc) := HB0.out.cellL 7 rfl
  have HRE : Hid (∀ e : Later V, e.x.rangeAt w.heap.size 2 [.int .i64 a.src.sch, str a.src.name, .int .u64 (a.src.node : Int), .int .u64 (a.src.svc : Int)]) := HB0.out.range 2 4 (by rfl)
  have KA := hid (fun e : Later V => r15At_any a HW.out t ⟨mt, mtc, mp, mpc, mr, mrc⟩ e.x (HL.out.ext e.h))
  rw [HX.out] at KA
  obtain ⟨e, he⟩ := Later.self V
  rw [he]
  clear he
  have tk1 : True := trivial
  have tk2 : True := trivial
  go_upto_region 3 with (first | (clear tk1; refine wpList_row (by rfl) 29 _ rfl _ rfl (HB0.out.later _) Try.underlying29 rfl (by kernel_rfl) ?_) | (go_at_call 14; refine (Ret.later (KA.out _)).mono ?_; rintro x _ ⟨rfl, e, rfl⟩) | (clear tk2; refine wpList_mid (by rfl) 26 _ rfl _ 2 rfl _ _ (HRE.out _) Try.underlying26 rfl (by kernel_rfl) ?_))
  generalize hz : World.alloc e.x _ = z
  have HBO : Hid (Blk z e.x.heap.size 29 #[.slice none 0 0, .int .i64 a.ctx, .int .i64 a.src.sch, str a.src.name, .int .u64 (a.src.node : Int), .int .u64 (a.src.svc : Int), .slice mp a.ps.k mpc, .slice none 0 0]) := hid (by rw [← hz]; exact Blk.new _ _ _)
  have HVZ : Hid (Ext V z) := hid (by rw [← hz]; exact e.h.alloc _)
  have HOV : Hid (V.heap.size ≤ e.x.heap.size) := hid e.h.size
  clear hz KA HX
  generalize e.x.heap.size = O at *
  have HOZ : Hid (O < z.heap.size) := hid HBO.out.lt
  have HZV : Hid (V.heap.size ≤ z.heap.size) := hid HVZ.out.size
  go_upto_region 4 with fail
  go_loopw [7] (fun s7 wr => ∃ j : Nat, s7 = .int .i64 (j : Int) ∧ Hid (∃ A' c' ac, j ≤ a.tk ∧ Ext V wr ∧ z.heap.size ≤ wr.heap.size ∧ Blk wr O 29 #[.slice A' (cntW i j) c', .int .i64 a.ctx, .int .i64 a.src.sch, str a.src.name, .int .u64 (a.src.node : Int), .int .u64 (a.src.svc : Int), .slice mp a.ps.k mpc, .slice none 0 0] ∧ RwG intH 3 wr (fun b => b ≠ O) z.heap.size A' c' (cntW i j) (delN a.tg i) ac)) (fun s7 _ => a.tk - (intOf s7).toNat)
  case atStart => exact ⟨0, rfl, (show Hid _ from ⟨none, 0, fun _ => (none, 0), Nat.zero_le _, HVZ.out, Nat.le_refl _, HBO.out, RwG.nil⟩)⟩
  case round =>
    obtain ⟨j, rfl, hS⟩ := hrel
    rename World => wr
    have j0 : (0 : Int) ≤ (j : Int) := by omega
    have b0w : wr.cell? ⟨w.heap.size, 0, none⟩ = some (.slice mt a.tk mtc) := b0 ⟨wr, hS.out.choose_spec.choose_spec.choose_spec.2.1⟩
    by_cases hlt : j < a.tk
    · obtain ⟨A', c', ac, hjk, hVW, hzw, hB', hR'⟩ := hS.out
      obtain ⟨bA, oA, hA, hbA, hcA⟩ := HL.out.t (by omega)
      have hA : mt = some ⟨bA, oA, none⟩ := hA
      subst hA
      have HVW := hid hVW
      have HWZ := hid hzw
      have HB := hid hB'
      have HR := hid hR'
      have tc : decide (j < a.tk) = true := by simp [hlt]
      have j1 : (j : Int) < (a.tk : Int) := by omega
      have HLT := hid hlt
      have HCA := hid (hcA j hlt)
      have HBA := hid hbA
      clear hlt hjk hVW hzw hB' hR' hS hcA hbA
      by_cases hji : j = i
      · subst hji
        have ea : ((j : Int) == (j : Int)) = true := by simp
        have eb : ((j : Int) != (j : Int)) = false := by simp
        go_wp2_with fail
        go_roundw
        case rel => exact ⟨j + 1, by go_num, (show Hid _ from ⟨A', c', ac, HLT.out, HVW.out, HWZ.out, by rw [show cntW j (j + 1) = cntW j j by unfold cntW; rw [if_neg (by omega), if_pos (Nat.le_refl _)]; rfl]; exact HB.out, by rw [show cntW j (j + 1) = cntW j j by unfold cntW; rw [if_neg (by omega), if_pos (Nat.le_refl _)]; rfl]; exact HR.out⟩)⟩
        case measure => have := HLT.out; simp [intOf]; omega
      · have ea : ((j : Int) == (i : Int)) = false := by rw [beq_eq_false_iff_ne]; omega
        have eb : ((j : Int) != (i : Int)) = true := by rw [bne_iff_ne]; omega
        have ec : ((j : Int) = (i : Int)) = False := eq_false (by omega)
        have ed : (j = i) = False := eq_false hji
        have HCN : Hid (cntW i (j + 1) = cntW i j + 1) := hid (by unfold cntW; split <;> split <;> omega)
        have HWP : Hid (delN a.tg i (cntW i j) = a.tg j) := hid (by unfold cntW delN; split <;> split <;> first | rfl | (congr 1; omega) | (exfalso; omega))
        have HCB : Hid (cntW i j ≤ j) := hid (by unfold cntW; split <;> omega)
        clear hji
        generalize cntW i j = nn at *
        have HX0 : Hid (∀ W, Mod (O :: obs A') wr W → W.cell? ⟨w.heap.size, 0, none⟩ = some (.slice (some ⟨bA, oA, none⟩) a.tk mtc)) := hid (fun W hW => ((HB0.out.ext HVW.out).mod hW (fun hm => (List.mem_cons.1 hm).elim (fun h => by have := HOV.out; have := HVS.out; omega) (offA_obs (fun g hg => by have := (HR.out.off g hg).1; have := HZV.out; have := HVS.out; omega)))).cell 0)
        have HX1 : Hid (∀ W, Mod (O :: obs A') wr W → W.cell? ⟨bA, oA + j, none⟩ = some (.int .i64 (a.tg j))) := hid (fun W hW => ((hW.cell (Nat.lt_of_lt_of_le HBA.out HVW.out.size) (fun hm => (List.mem_cons.1 hm).elim (fun h => by have := HOV.out; have := HBA.out; omega) (offA_obs (fun g hg => by have := (HR.out.off g hg).1; have := HZV.out; have := HBA.out; show bA ≠ g.block; omega)))).trans ((HVW.out.cell HBA.out (by simp)).trans HCA.out)))
        go_upto_region 7 with fail
        clear b0w
        refine wp_region_held_drew (S := fun w' => Mod (O :: obs A') wr w') (by kernel_rfl) (Mod.refl _ _).drew (fun hHeld => ?_)
        have hO9 : Blk wr.drew O 29 #[.slice A' nn c', .int .i64 a.ctx, .int .i64 a.src.sch, str a.src.name, .int .u64 (a.src.node : Int), .int .u64 (a.src.svc : Int), .slice mp a.ps.k mpc, .slice none 0 0] := HB.out.drew
        have hR9 := HR.out.ext ((Mod.refl [] wr).drew)
        generalize wr.drew = y0 at *
        refine' wpAnyH_take (i := 0) (v := _) rfl (by kernel_rfl) (by kernel_rfl) (by kernel_rfl) (fun _ _ _ h => h) (Or.inl ⟨by rfl, ?hy1⟩) hHeld ?rest1
        case hy1 => (rintro W hM; go_simp; (try with_reducible rfl))
        case rest1 =>
        (try simp only [Act.put, List.getElem_toArray, List.getElem_cons_zero, List.getElem_cons_succ, List.setIfInBounds_toArray, List.set_cons_zero, List.set_cons_succ])
        refine' wpAnyH_take (i := 2) (v := _) rfl (by kernel_rfl) (by kernel_rfl) (by kernel_rfl) (fun _ _ _ h => h) (Or.inl ⟨by rfl, ?hy2⟩) hHeld ?rest2
        case hy2 => (rintro W hM; go_simp; (try with_reducible rfl))
        case rest2 =>
        (try simp only [Act.put, List.getElem_toArray, List.getElem_cons_zero, List.getElem_cons_succ, List.setIfInBounds_toArray, List.set_cons_zero, List.set_cons_succ])
        refine' wpAnyH_take (i := 3) (v := _) rfl (by kernel_rfl) (by kernel_rfl) (by kernel_rfl) (fun _ _ _ h => h) (Or.inl ⟨by rfl, ?hy3⟩) hHeld ?rest3
        case hy3 => (rintro W hM; have q := HX0.out W hM; go_simp; (try with_reducible rfl))
        case rest3 =>
        (try simp only [Act.put, List.getElem_toArray, List.getElem_cons_zero, List.getElem_cons_succ, List.setIfInBounds_toArray, List.set_cons_zero, List.set_cons_succ])
        refine' wpAnyH_take (i := 4) (v := _) rfl (by kernel_rfl) (by kernel_rfl) (by kernel_rfl) (fun _ _ _ h => h) (Or.inl ⟨by rfl, ?hy4⟩) hHeld ?rest4
        case hy4 => (rintro W hM; go_simp; (try with_reducible rfl))
        case rest4 =>
        (try simp only [Act.put, List.getElem_toArray, List.getElem_cons_zero, List.getElem_cons_succ, List.setIfInBounds_toArray, List.set_cons_zero, List.set_cons_succ])
        refine' wpAnyH_take (i := 5) (v := _) rfl (by kernel_rfl) (by kernel_rfl) (by kernel_rfl) (fun _ _ _ h => h) (Or.inl ⟨by rfl, ?hy5⟩) hHeld ?rest5
        case hy5 => (rintro W hM; go_simp; (try with_reducible rfl))
        case rest5 =>
        (try simp only [Act.put, List.getElem_toArray, List.getElem_cons_zero, List.getElem_cons_succ, List.setIfInBounds_toArray, List.set_cons_zero, List.set_cons_succ])
        refine' wpAnyH_take (i := 6) (v := _) rfl (by kernel_rfl) (by kernel_rfl) (by kernel_rfl) (fun _ _ _ h => h) (Or.inl ⟨by rfl, ?hy6⟩) hHeld ?rest6
        case hy6 => (rintro W hM; have q := HX1.out W hM; go_simp; (try with_reducible rfl))
        case rest6 =>
        (try simp only [Act.put, List.getElem_toArray, List.getElem_cons_zero, List.getElem_cons_succ, List.setIfInBounds_toArray, List.set_cons_zero, List.set_cons_succ])
        refine wpAnyH_ready (rs := [1, 7]) (by kernel_rfl) (by simp) ?_
        refine AllReadyH.cons rfl (fun K hK => ?_) (AllReadyH.cons rfl (fun K hK => ?_) AllReadyH.nil)
        · have c7 : y0.cell? ⟨O, 0, none⟩ = some (.slice A' nn c') := hO9.cell 0
          go_simp
          refine hK.out _ _ hHeld (fun hHeld => ?_)
          clear hK K c7
          (try simp only [Act.put, List.getElem_toArray, List.getElem_cons_zero, List.getElem_cons_succ, List.setIfInBounds_toArray, List.set_cons_zero, List.set_cons_succ])
          refine wpAnyH_ready (rs := [7]) (by kernel_rfl) (by simp) ?_
          refine AllReadyH.cons rfl (fun K hK => ?_) AllReadyH.nil
          go_simp
          have hQ2 : Blk (World.alloc y0 (.cells #[.int .i64 (a.tg j)] 3)) y0.heap.size 3 #[.int .i64 (a.tg j)] := Blk.new _ _ _
          have hXX : Ext y0 (World.alloc y0 (.cells #[.int .i64 (a.tg j)] 3)) := (Mod.refl [] _).alloc _
          generalize World.alloc y0 (.cells #[.int .i64 (a.tg j)] 3) = y2 at *
          have hO9 := hO9.ext hXX
          have hR9 := hR9.ext hXX
          refine hK.out _ _ (hHeld.trans (hXX.mono (by simp))) (fun hHeld => ?_)
          clear hK K
          (try simp only [Act.put, List.getElem_toArray, List.getElem_cons_zero, List.getElem_cons_succ, List.setIfInBounds_toArray, List.set_cons_zero, List.set_cons_succ])
          generalize y0.heap.size = gq at *
          refine wpAnyH_ready (rs := [8]) (by kernel_rfl) (by simp) ?_
          refine AllReadyH.cons rfl (fun K hK => ?_) AllReadyH.nil
          have hI : intH.hang y2 (fun b => (b ≠ O) ∧ offA A' b) (a.tg j) (none, 0) := (fun _ _ => trivial) y2 hHeld
          obtain ⟨ib, hi, hz0, hz1, hz2⟩ := info_parts infoInt
          refine wp_append_lies _ _ _ 23 (by rfl) z.heap.size 3 ib _ 1 8 Try.underlying23 hi hz0 hz1 hz2 (by rfl) (by decide) _ nn _ (by rfl) hR9.own ⟨gq, 0, none⟩ 1 1 [.int .i64 (a.tg j)] (by rfl) (by rfl) ?gnewy3 ?goney3 (by decide) ?gmy3 ?gby3 ?gbasey3 (y2.heap.size) rfl ?gky3
          case gnewy3 =>
            intro j' u hu
            rw [addr_add, Nat.zero_add, hQ2.cell j']
            simpa using hu
          case goney3 => intro u hu; simp at hu; subst hu; rfl
          case gmy3 => have := HLT.out; have := HF.out.1; have := HCB.out; unfold maxLen; omega
          case gby3 => have := HLT.out; have := HF.out.1; have := HCB.out; omega
          case gbasey3 => have := HWZ.out; have := hHeld.size; omega
          intro g' cp' y3 hown' hgr' hat' hlt'
          obtain ⟨ac', hR5⟩ := hR9.append hI HWP.out hown' hgr' hat'
          have hOO : O ∉ obs A' := by
            refine offA_obs (fun g' hg' => ?_)
            have := (HR.out.off g' hg').1
            have := HOZ.out
            omega
          have hO9 := hO9.mod (grown_obs hgr') hOO
          refine hK.out _ _ (hHeld.trans ((grown_obs hgr').mono (by simp; exact fun k hk => .inr hk))) (fun hHeld => ?_)
          clear hK K
          (try simp only [Act.put, List.getElem_toArray, List.getElem_cons_zero, List.getElem_cons_succ, List.setIfInBounds_toArray, List.set_cons_zero, List.set_cons_succ])
          refine' wpAnyH_take (i := 9) (v := _) rfl (by kernel_rfl) (by kernel_rfl) (by kernel_rfl) (fun _ _ _ h => h) (Or.inl ⟨by rfl, ?hy7⟩) hHeld ?rest7
          case hy7 => (rintro W hM; go_simp; (try with_reducible rfl))
          case rest7 =>
          (try simp only [Act.put, List.getElem_toArray, List.getElem_cons_zero, List.getElem_cons_succ, List.setIfInBounds_toArray, List.set_cons_zero, List.set_cons_succ])
          refine wpAnyH_ready (rs := [10]) (by kernel_rfl) (by simp) ?_
          refine AllReadyH.cons rfl (fun K hK => ?_) AllReadyH.nil
          have c7 : y3.cell? ⟨O, 0, none⟩ = some (.slice A' nn c') := hO9.cell 0
          have f7 := hO9.frozen 0
          go_simp
          have hOf := hO9.set_ 0 (.slice (some ⟨g', 0, none⟩) (nn + 1) cp')
          have hM7 := (Mod.refl [O] y3).setCell (p := ⟨O, 0, none⟩) (.inl (by simp)) (.slice (some ⟨g', 0, none⟩) (nn + 1) cp')
          generalize World.setCell y3 ⟨O, 0, none⟩ _ = yf at *
          refine hK.out _ _ (hHeld.trans (hM7.mono (by simp))) (fun hHeld => ?_)
          clear hK K c7 f7
          (try simp only [Act.put, List.getElem_toArray, List.getElem_cons_zero, List.getElem_cons_succ, List.setIfInBounds_toArray, List.set_cons_zero, List.set_cons_succ])
          refine wpAnyH_done (by kernel_rfl) ?_ _
          have hg'z : g' ≠ O := by
            have h1 : z.heap.size ≤ g' := (hR5.off _ rfl).1
            have := HOZ.out
            omega
          have HBF : Hid (Blk yf O 29 #[.slice (some ⟨g', 0, none⟩) (nn + 1) cp', .int .i64 a.ctx, .int .i64 a.src.sch, str a.src.name, .int .u64 (a.src.node : Int), .int .u64 (a.src.svc : Int), .slice mp a.ps.k mpc, .slice none 0 0]) := hid hOf
          have HRF := hid (hR5.modQ hM7 (fun g'' hg'' => by cases hg''; simpa using hg'z) (fun k hk _ => by simpa using hk))
          have HMF : Hid (Mod (O :: obs A') wr yf) := hid hHeld
          clear hOf hR5 hM7 hHeld hO9 hR9 hown' hgr' hat' hlt' hQ2 hI hOO
          go_wp2_with fail
          go_roundw
          case rel =>
            refine ⟨j + 1, by go_num, (show Hid _ from ⟨some ⟨g', 0, none⟩, cp', ac', HLT.out, ?_, Nat.le_trans HWZ.out HMF.out.size, by rw [HCN.out]; exact HBF.out, by rw [HCN.out]; exact HRF.out⟩)⟩
            · exact ((Mod.of_ext (S := O :: obs A') HVW.out).trans HMF.out).new (fun k hk => .inr (by
                rcases List.mem_cons.1 hk with rfl | hk
                · exact HOV.out
                · cases A' with
                  | none => cases hk
                  | some g'' => have := (HR.out.off g'' rfl).1; have := HZV.out; simp [obs] at hk; omega))
          case measure => have := HLT.out; simp [intOf]; omega
        · go_simp
          have hQ2 : Blk (World.alloc y0 (.cells #[.int .i64 (a.tg j)] 3)) y0.heap.size 3 #[.int .i64 (a.tg j)] := Blk.new _ _ _
          have hXX : Ext y0 (World.alloc y0 (.cells #[.int .i64 (a.tg j)] 3)) := (Mod.refl [] _).alloc _
          generalize World.alloc y0 (.cells #[.int .i64 (a.tg j)] 3) = y4 at *
          have hO9 := hO9.ext hXX
          have hR9 := hR9.ext hXX
          refine hK.out _ _ (hHeld.trans (hXX.mono (by simp))) (fun hHeld => ?_)
          clear hK K
          (try simp only [Act.put, List.getElem_toArray, List.getElem_cons_zero, List.getElem_cons_succ, List.setIfInBounds_toArray, List.set_cons_zero, List.set_cons_succ])
          generalize y0.heap.size = gq at *
          refine wpAnyH_ready (rs := [1]) (by kernel_rfl) (by simp) ?_
          refine AllReadyH.cons rfl (fun K hK => ?_) AllReadyH.nil
          have c7 : y4.cell? ⟨O, 0, none⟩ = some (.slice A' nn c') := hO9.cell 0
          go_simp
          refine hK.out _ _ hHeld (fun hHeld => ?_)
          clear hK K c7
          (try simp only [Act.put, List.getElem_toArray, List.getElem_cons_zero, List.getElem_cons_succ, List.setIfInBounds_toArray, List.set_cons_zero, List.set_cons_succ])
          refine wpAnyH_ready (rs := [8]) (by kernel_rfl) (by simp) ?_
          refine AllReadyH.cons rfl (fun K hK => ?_) AllReadyH.nil
          have hI : intH.hang y4 (fun b => (b ≠ O) ∧ offA A' b) (a.tg j) (none, 0) := (fun _ _ => trivial) y4 hHeld
          obtain ⟨ib, hi, hz0, hz1, hz2⟩ := info_parts infoInt
          refine wp_append_lies _ _ _ 23 (by rfl) z.heap.size 3 ib _ 1 8 Try.underlying23 hi hz0 hz1 hz2 (by rfl) (by decide) _ nn _ (by rfl) hR9.own ⟨gq, 0, none⟩ 1 1 [.int .i64 (a.tg j)] (by rfl) (by rfl) ?gnewy6 ?goney6 (by decide) ?gmy6 ?gby6 ?gbasey6 (y4.heap.size) rfl ?gky6
          case gnewy6 =>
            intro j' u hu
            rw [addr_add, Nat.zero_add, hQ2.cell j']
            simpa using hu
          case goney6 => intro u hu; simp at hu; subst hu; rfl
          case gmy6 => have := HLT.out; have := HF.out.1; have := HCB.out; unfold maxLen; omega
          case gby6 => have := HLT.out; have := HF.out.1; have := HCB.out; omega
          case gbasey6 => have := HWZ.out; have := hHeld.size; omega
          intro g' cp' y6 hown' hgr' hat' hlt'
          obtain ⟨ac', hR5⟩ := hR9.append hI HWP.out hown' hgr' hat'
          have hOO : O ∉ obs A' := by
            refine offA_obs (fun g' hg' => ?_)
            have := (HR.out.off g' hg').1
            have := HOZ.out
            omega
          have hO9 := hO9.mod (grown_obs hgr') hOO
          refine hK.out _ _ (hHeld.trans ((grown_obs hgr').mono (by simp; exact fun k hk => .inr hk))) (fun hHeld => ?_)
          clear hK K
          (try simp only [Act.put, List.getElem_toArray, List.getElem_cons_zero, List.getElem_cons_succ, List.setIfInBounds_toArray, List.set_cons_zero, List.set_cons_succ])
          refine' wpAnyH_take (i := 9) (v := _) rfl (by kernel_rfl) (by kernel_rfl) (by kernel_rfl) (fun _ _ _ h => h) (Or.inl ⟨by rfl, ?hy8⟩) hHeld ?rest8
          case hy8 => (rintro W hM; go_simp; (try with_reducible rfl))
          case rest8 =>
          (try simp only [Act.put, List.getElem_toArray, List.getElem_cons_zero, List.getElem_cons_succ, List.setIfInBounds_toArray, List.set_cons_zero, List.set_cons_succ])
          refine wpAnyH_ready (rs := [10]) (by kernel_rfl) (by simp) ?_
          refine AllReadyH.cons rfl (fun K hK => ?_) AllReadyH.nil
          have c7 : y6.cell? ⟨O, 0, none⟩ = some (.slice A' nn c') := hO9.cell 0
          have f7 := hO9.frozen 0
          go_simp
          have hOf := hO9.set_ 0 (.slice (some ⟨g', 0, none⟩) (nn + 1) cp')
          have hM7 := (Mod.refl [O] y6).setCell (p := ⟨O, 0, none⟩) (.inl (by simp)) (.slice (some ⟨g', 0, none⟩) (nn + 1) cp')
          generalize World.setCell y6 ⟨O, 0, none⟩ _ = yf at *
          refine hK.out _ _ (hHeld.trans (hM7.mono (by simp))) (fun hHeld => ?_)
          clear hK K c7 f7
          (try simp only [Act.put, List.getElem_toArray, List.getElem_cons_zero, List.getElem_cons_succ, List.setIfInBounds_toArray, List.set_cons_zero, List.set_cons_succ])
          refine wpAnyH_done (by kernel_rfl) ?_ _
          have hg'z : g' ≠ O := by
            have h1 : z.heap.size ≤ g' := (hR5.off _ rfl).1
            have := HOZ.out
            omega
          have HBF : Hid (Blk yf O 29 #[.slice (some ⟨g', 0, none⟩) (nn + 1) cp', .int .i64 a.ctx, .int .i64 a.src.sch, str a.src.name, .int .u64 (a.src.node : Int), .int .u64 (a.src.svc : Int), .slice mp a.ps.k mpc, .slice none 0 0]) := hid hOf
          have HRF := hid (hR5.modQ hM7 (fun g'' hg'' => by cases hg''; simpa using hg'z) (fun k hk _ => by simpa using hk))
          have HMF : Hid (Mod (O :: obs A') wr yf) := hid hHeld
          clear hOf hR5 hM7 hHeld hO9 hR9 hown' hgr' hat' hlt' hQ2 hI hOO
          go_wp2_with fail
          go_roundw
          case rel =>
            refine ⟨j + 1, by go_num, (show Hid _ from ⟨some ⟨g', 0, none⟩, cp', ac', HLT.out, ?_, Nat.le_trans HWZ.out HMF.out.size, by rw [HCN.out]; exact HBF.out, by rw [HCN.out]; exact HRF.out⟩)⟩
            · exact ((Mod.of_ext (S := O :: obs A') HVW.out).trans HMF.out).new (fun k hk => .inr (by
                rcases List.mem_cons.1 hk with rfl | hk
                · exact HOV.out
                · cases A' with
                  | none => cases hk
                  | some g'' => have := (HR.out.off g'' rfl).1; have := HZV.out; simp [obs] at hk; omega))
          case measure => have := HLT.out; simp [intOf]; omega
    · have hjt : j = a.tk := by obtain ⟨_, _, _, hjk, _⟩ := hS.out; omega
      subst hjt
      have tc : decide (a.tk < a.tk) = false := by simp
      obtain ⟨At, ct, ac, hjk, hVW, hzw, hB', hR'⟩ := hS.out
      obtain ⟨z2, hz2⟩ : ∃ z2, wr = z2 := ⟨_, rfl⟩
      subst hz2
      have HVZ2 := hid hVW
      have HB2 := hid hB'
      have HN2 := hid hR'.ns.1
      have HG2 : Hid (∀ g, At = some g → z.heap.size ≤ g.block ∧ g.block < wr.heap.size) := hid (fun g hg => hR'.off g hg)
      have HOZ1 := HOZ
      have HOZ : Hid (O < wr.heap.size) := hid (by have := HOZ.out; omega)
      have HZV : Hid (V.heap.size ≤ wr.heap.size) := hid HVZ2.out.size
      have HZZ := hid hzw
      clear hS hjk hVW hzw hB' hR'
      have HNT : Hid (cntW i a.tk = a.tk - 1) := hid (by unfold cntW; have := HIK.out; split <;> omega)
      generalize cntW i a.tk = ntk at *
      go_upto_region 9 with fail
      clear b0w
      generalize wr = z2 at *
      go_loopw [8] (fun s8 wr => ∃ j : Nat, s8 = .int .i64 (j : Int) ∧ Hid (∃ A' c' ac, j ≤ a.rk ∧ Ext V wr ∧ z2.heap.size ≤ wr.heap.size ∧ Blk wr O 29 #[.slice At ntk ct, .int .i64 a.ctx, .int .i64 a.src.sch, str a.src.name, .int .u64 (a.src.node : Int), .int .u64 (a.src.svc : Int), .slice mp a.ps.k mpc, .slice A' (cntW i j) c'] ∧ RwG resH 22 wr (fun b => b ≠ O ∧ b ≠ w.heap.size + 1) z2.heap.size A' c' (cntW i j) (woP a.rs i) ac ∧ NsL wr At ntk (delN a.tg i))) (fun s8 _ => a.rk - (intOf s8).toNat)
      case atStart => exact ⟨0, rfl, (show Hid _ from ⟨none, 0, fun _ => (none, 0), Nat.zero_le _, HVZ2.out, Nat.le_refl _, HB2.out, RwG.nil, HN2.out⟩)⟩
      case round =>
        obtain ⟨j, rfl, hS⟩ := hrel
        rename World => wr
        have j0 : (0 : Int) ≤ (j : Int) := by omega
        have b7w : wr.cell? ⟨w.heap.size, 7, none⟩ = some (.slice mr a.rk mrc) := b7 ⟨wr, hS.out.choose_spec.choose_spec.choose_spec.2.1⟩
        by_cases hlt : j < a.rk
        · obtain ⟨A', c', ac, hjk, hVW, hzw, hB', hR', hN'⟩ := hS.out
          obtain ⟨bA, oA, Aj, cj, hA, hbA, q0, hkc, hPj⟩ := HL0.out.r.at (Mod.refl [] V) hlt
          have hA : mr = some ⟨bA, oA, none⟩ := hA
          subst hA
          have HVW := hid hVW
          have HWZ := hid hzw
          have HB := hid hB'
          have HR := hid hR'
          have HN := hid hN'
          have tc : decide (j < a.rk) = true := by simp [hlt]
          have j1 : (j : Int) < (a.rk : Int) := by omega
          have HLT := hid hlt
          have HCA := hid q0
          have HBA := hid hbA
          have HPJ := hid (hPj.weak (R := fun b => b < w.heap.size) (fun b hb hq => hq.2))
          have HKC := hid hkc
          clear hlt hjk hVW hzw hB' hR' hN' hS q0 hbA hPj hkc
          by_cases hji : j = i
          · subst hji
            have ea : ((j : Int) == (j : Int)) = true := by simp
            have eb : ((j : Int) != (j : Int)) = false := by simp
            go_wp2_with fail
            go_roundw
            case rel => exact ⟨j + 1, by go_num, (show Hid _ from ⟨A', c', ac, HLT.out, HVW.out, HWZ.out, by rw [show cntW j (j + 1) = cntW j j by unfold cntW; rw [if_neg (by omega), if_pos (Nat.le_refl _)]; rfl]; exact HB.out, by rw [show cntW j (j + 1) = cntW j j by unfold cntW; rw [if_neg (by omega), if_pos (Nat.le_refl _)]; rfl]; exact HR.out, HN.out⟩)⟩
            case measure => have := HLT.out; simp [intOf]; omega
          · have ea : ((j : Int) == (i : Int)) = false := by rw [beq_eq_false_iff_ne]; omega
            have eb : ((j : Int) != (i : Int)) = true := by rw [bne_iff_ne]; omega
            have ec : ((j : Int) = (i : Int)) = False := eq_false (by omega)
            have ed : (j = i) = False := eq_false hji
            have HCN : Hid (cntW i (j + 1) = cntW i j + 1) := hid (by unfold cntW; split <;> split <;> omega)
            have HWP : Hid (woP a.rs i (cntW i j) = a.rs j) := hid (by unfold cntW woP; split <;> split <;> first | rfl | (congr 1; omega) | (exfalso; omega))
            have HCB : Hid (cntW i j ≤ j) := hid (by unfold cntW; split <;> omega)
            clear hji
            generalize cntW i j = nn at *
            have HX0 : Hid (∀ W, Mod (O :: obs A') wr W → W.cell? ⟨w.heap.size, 7, none⟩ = some (.slice (some ⟨bA, oA, none⟩) a.rk mrc)) := hid (fun W hW => ((HB0.out.ext HVW.out).mod hW (fun hm => (List.mem_cons.1 hm).elim (fun h => by have := HOV.out; have := HVS.out; omega) (offA_obs (fun g hg => by have := (HR.out.off g hg).1; have := HZV.out; have := HVS.out; omega)))).cell 7)
            have HX1 : Hid (∀ W, Mod (O :: obs A') wr W → W.cell? ⟨bA, oA + j, none⟩ = some (.slice Aj (a.rs j).k cj)) := hid (fun W hW => ((hW.cell (Nat.lt_of_lt_of_le HBA.out HVW.out.size) (fun hm => (List.mem_cons.1 hm).elim (fun h => by have := HOV.out; have := HBA.out; omega) (offA_obs (fun g hg => by have := (HR.out.off g hg).1; have := HZV.out; have := HBA.out; show bA ≠ g.block; omega)))).trans ((HVW.out.cell HBA.out (by simp)).trans HCA.out)))
            have HHG : Hid (∀ W, Mod (O :: obs A') wr W → resH.hang W (fun b => (b ≠ O ∧ b ≠ w.heap.size + 1) ∧ offA A' b) (a.rs j) (Aj, cj)) := hid (fun W hW => ⟨((HPJ.out.ext HVW.out).mod hW (fun k hk _ hm => (List.mem_cons.1 hm).elim (fun h => by have := HOV.out; have := HVS.out; have hk : k < w.heap.size := hk; omega) (offA_obs (fun g hg => by have := (HR.out.off g hg).1; have := HZV.out; have := HVS.out; have hk : k < w.heap.size := hk; omega)))).weak (fun b _ hb => ⟨⟨by have := HOV.out; have := HVS.out; have hb : b < w.heap.size := hb; omega, by have hb : b < w.heap.size := hb; omega⟩, fun g hg => by have := (HR.out.off g hg).1; have := HZV.out; have := HVS.out; have hb : b < w.heap.size := hb; omega⟩), HKC.out⟩)
            go_upto_region 12 with fail
            clear b7w
            refine wp_region_held_drew (S := fun w' => Mod (O :: obs A') wr w') (by kernel_rfl) (Mod.refl _ _).drew (fun hHeld => ?_)
            have hO9 : Blk wr.drew O 29 #[.slice At ntk ct, .int .i64 a.ctx, .int .i64 a.src.sch, str a.src.name, .int .u64 (a.src.node : Int), .int .u64 (a.src.svc : Int), .slice mp a.ps.k mpc, .slice A' nn c'] := HB.out.drew
            have hR9 := HR.out.ext ((Mod.refl [] wr).drew)
            generalize wr.drew = y0 at *
            refine' wpAnyH_take (i := 0) (v := _) rfl (by kernel_rfl) (by kernel_rfl) (by kernel_rfl) (fun _ _ _ h => h) (Or.inl ⟨by rfl, ?hy9⟩) hHeld ?rest9
            case hy9 => (rintro W hM; go_simp; (try with_reducible rfl))
            case rest9 =>
            (try simp only [Act.put, List.getElem_toArray, List.getElem_cons_zero, List.getElem_cons_succ, List.setIfInBounds_toArray, List.set_cons_zero, List.set_cons_succ])
            refine' wpAnyH_take (i := 2) (v := _) rfl (by kernel_rfl) (by kernel_rfl) (by kernel_rfl) (fun _ _ _ h => h) (Or.inl ⟨by rfl, ?hy10⟩) hHeld ?rest10
            case hy10 => (rintro W hM; go_simp; (try with_reducible rfl))
            case rest10 =>
            (try simp only [Act.put, List.getElem_toArray, List.getElem_cons_zero, List.getElem_cons_succ, List.setIfInBounds_toArray, List.set_cons_zero, List.set_cons_succ])
            refine' wpAnyH_take (i := 3) (v := _) rfl (by kernel_rfl) (by kernel_rfl) (by kernel_rfl) (fun _ _ _ h => h) (Or.inl ⟨by rfl, ?hy11⟩) hHeld ?rest11
            case hy11 => (rintro W hM; have q := HX0.out W hM; go_simp; (try with_reducible rfl))
            case rest11 =>
            (try simp only [Act.put, List.getElem_toArray, List.getElem_cons_zero, List.getElem_cons_succ, List.setIfInBounds_toArray, List.set_cons_zero, List.set_cons_succ])
            refine' wpAnyH_take (i := 4) (v := _) rfl (by kernel_rfl) (by kernel_rfl) (by kernel_rfl) (fun _ _ _ h => h) (Or.inl ⟨by rfl, ?hy12⟩) hHeld ?rest12
            case hy12 => (rintro W hM; go_simp; (try with_reducible rfl))
            case rest12 =>
            (try simp only [Act.put, List.getElem_toArray, List.getElem_cons_zero, List.getElem_cons_succ, List.setIfInBounds_toArray, List.set_cons_zero, List.set_cons_succ])
            refine' wpAnyH_take (i := 5) (v := _) rfl (by kernel_rfl) (by kernel_rfl) (by kernel_rfl) (fun _ _ _ h => h) (Or.inl ⟨by rfl, ?hy13⟩) hHeld ?rest13
            case hy13 => (rintro W hM; go_simp; (try with_reducible rfl))
            case rest13 =>
            (try simp only [Act.put, List.getElem_toArray, List.getElem_cons_zero, List.getElem_cons_succ, List.setIfInBounds_toArray, List.set_cons_zero, List.set_cons_succ])
            refine' wpAnyH_take (i := 6) (v := _) rfl (by kernel_rfl) (by kernel_rfl) (by kernel_rfl) (fun _ _ _ h => h) (Or.inl ⟨by rfl, ?hy14⟩) hHeld ?rest14
            case hy14 => (rintro W hM; have q := HX1.out W hM; go_simp; (try with_reducible rfl))
            case rest14 =>
            (try simp only [Act.put, List.getElem_toArray, List.getElem_cons_zero, List.getElem_cons_succ, List.setIfInBounds_toArray, List.set_cons_zero, List.set_cons_succ])
            refine wpAnyH_ready (rs := [1, 7]) (by kernel_rfl) (by simp) ?_
            refine AllReadyH.cons rfl (fun K hK => ?_) (AllReadyH.cons rfl (fun K hK => ?_) AllReadyH.nil)
            · have c7 : y0.cell? ⟨O, 7, none⟩ = some (.slice A' nn c') := hO9.cell 7
              go_simp
              refine hK.out _ _ hHeld (fun hHeld => ?_)
              clear hK K c7
              (try simp only [Act.put, List.getElem_toArray, List.getElem_cons_zero, List.getElem_cons_succ, List.setIfInBounds_toArray, List.set_cons_zero, List.set_cons_succ])
              refine wpAnyH_ready (rs := [7]) (by kernel_rfl) (by simp) ?_
              refine AllReadyH.cons rfl (fun K hK => ?_) AllReadyH.nil
              go_simp
              have hQ2 : Blk (World.alloc y0 (.cells #[.slice Aj (a.rs j).k cj] 22)) y0.heap.size 22 #[.slice Aj (a.rs j).k cj] := Blk.new _ _ _
              have hXX : Ext y0 (World.alloc y0 (.cells #[.slice Aj (a.rs j).k cj] 22)) := (Mod.refl [] _).alloc _
              generalize World.alloc y0 (.cells #[.slice Aj (a.rs j).k cj] 22) = y8 at *
              have hO9 := hO9.ext hXX
              have hR9 := hR9.ext hXX
              refine hK.out _ _ (hHeld.trans (hXX.mono (by simp))) (fun hHeld => ?_)
              clear hK K
              (try simp only [Act.put, List.getElem_toArray, List.getElem_cons_zero, List.getElem_cons_succ, List.setIfInBounds_toArray, List.set_cons_zero, List.set_cons_succ])
              generalize y0.heap.size = gq at *
              refine wpAnyH_ready (rs := [8]) (by kernel_rfl) (by simp) ?_
              refine AllReadyH.cons rfl (fun K hK => ?_) AllReadyH.nil
              have hI : resH.hang y8 (fun b => (b ≠ O ∧ b ≠ w.heap.size + 1) ∧ offA A' b) (a.rs j) (Aj, cj) := HHG.out y8 hHeld
              obtain ⟨ib, hi, hz0, hz1, hz2⟩ := info_parts infoPairs
              refine wp_append_lies _ _ _ 27 (by rfl) z2.heap.size 22 ib _ 1 24 Try.underlying27 hi hz0 hz1 hz2 (by rfl) (by decide) _ nn _ (by rfl) hR9.own ⟨gq, 0, none⟩ 1 1 [.slice Aj (a.rs j).k cj] (by rfl) (by rfl) ?gnewy9 ?goney9 (by decide) ?gmy9 ?gby9 ?gbasey9 (y8.heap.size) rfl ?gky9
              case gnewy9 =>
                intro j' u hu
                rw [addr_add, Nat.zero_add, hQ2.cell j']
                simpa using hu
              case goney9 => intro u hu; simp at hu; subst hu; rfl
              case gmy9 => have := HLT.out; have := HF.out.2.2.1; have := HCB.out; unfold maxLen; omega
              case gby9 => have := HLT.out; have := HF.out.2.2.1; have := HCB.out; omega
              case gbasey9 => have := HWZ.out; have := hHeld.size; omega
              intro g' cp' y9 hown' hgr' hat' hlt'
              obtain ⟨ac', hR5⟩ := hR9.append hI HWP.out hown' hgr' hat'
              have hOO : O ∉ obs A' := by
                refine offA_obs (fun g' hg' => ?_)
                have := (HR.out.off g' hg').1
                have := HOZ.out
                omega
              have hO9 := hO9.mod (grown_obs hgr') hOO
              refine hK.out _ _ (hHeld.trans ((grown_obs hgr').mono (by simp; exact fun k hk => .inr hk))) (fun hHeld => ?_)
              clear hK K
              (try simp only [Act.put, List.getElem_toArray, List.getElem_cons_zero, List.getElem_cons_succ, List.setIfInBounds_toArray, List.set_cons_zero, List.set_cons_succ])
              refine' wpAnyH_take (i := 9) (v := _) rfl (by kernel_rfl) (by kernel_rfl) (by kernel_rfl) (fun _ _ _ h => h) (Or.inl ⟨by rfl, ?hy15⟩) hHeld ?rest15
              case hy15 => (rintro W hM; go_simp; (try with_reducible rfl))
              case rest15 =>
              (try simp only [Act.put, List.getElem_toArray, List.getElem_cons_zero, List.getElem_cons_succ, List.setIfInBounds_toArray, List.set_cons_zero, List.set_cons_succ])
              refine wpAnyH_ready (rs := [10]) (by kernel_rfl) (by simp) ?_
              refine AllReadyH.cons rfl (fun K hK => ?_) AllReadyH.nil
              have c7 : y9.cell? ⟨O, 7, none⟩ = some (.slice A' nn c') := hO9.cell 7
              have f7 := hO9.frozen 7
              go_simp
              have hOf := hO9.set_ 7 (.slice (some ⟨g', 0, none⟩) (nn + 1) cp')
              have hM7 := (Mod.refl [O] y9).setCell (p := ⟨O, 7, none⟩) (.inl (by simp)) (.slice (some ⟨g', 0, none⟩) (nn + 1) cp')
              generalize World.setCell y9 ⟨O, 7, none⟩ _ = yf at *
              refine hK.out _ _ (hHeld.trans (hM7.mono (by simp))) (fun hHeld => ?_)
              clear hK K c7 f7
              (try simp only [Act.put, List.getElem_toArray, List.getElem_cons_zero, List.getElem_cons_succ, List.setIfInBounds_toArray, List.set_cons_zero, List.set_cons_succ])
              refine wpAnyH_done (by kernel_rfl) ?_ _
              have hg'z : g' ≠ O := by
                have h1 : z2.heap.size ≤ g' := (hR5.off _ rfl).1
                have := HOZ.out
                omega
              have HBF : Hid (Blk yf O 29 #[.slice At ntk ct, .int .i64 a.ctx, .int .i64 a.src.sch, str a.src.name, .int .u64 (a.src.node : Int), .int .u64 (a.src.svc : Int), .slice mp a.ps.k mpc, .slice (some ⟨g', 0, none⟩) (nn + 1) cp']) := hid hOf
              have HRF := hid (hR5.modQ hM7 (fun g'' hg'' => by cases hg''; simpa using hg'z) (fun k hk _ => by simpa using hk.1))
              have HMF : Hid (Mod (O :: obs A') wr yf) := hid hHeld
              clear hOf hR5 hM7 hHeld hO9 hR9 hown' hgr' hat' hlt' hQ2 hI hOO
              go_wp2_with fail
              go_roundw
              case rel =>
                refine ⟨j + 1, by go_num, (show Hid _ from ⟨some ⟨g', 0, none⟩, cp', ac', HLT.out, ?_, Nat.le_trans HWZ.out HMF.out.size, by rw [HCN.out]; exact HBF.out, by rw [HCN.out]; exact HRF.out, HN.out.mod HMF.out ?_⟩)⟩
                · exact ((Mod.of_ext (S := O :: obs A') HVW.out).trans HMF.out).new (fun k hk => .inr (by
                    rcases List.mem_cons.1 hk with rfl | hk
                    · exact HOV.out
                    · cases A' with
                      | none => cases hk
                      | some g'' => have := (HR.out.off g'' rfl).1; have := HZV.out; simp [obs] at hk; omega))
                · intro b o h _ hm
                  have h1 := HG2.out _ h
                  have h0 := HOZ1.out
                  rcases List.mem_cons.1 hm with h | h
                  · have h2 : z.heap.size ≤ b := h1.1; omega
                  · exact offA_obs (fun g'' hg'' => by have := (HR.out.off g'' hg'').1; have h2 : b < z2.heap.size := h1.2; show b ≠ g''.block; omega) h
              case measure => have := HLT.out; simp [intOf]; omega
            · go_simp
              have hQ2 : Blk (World.alloc y0 (.cells #[.slice Aj (a.rs j).k cj] 22)) y0.heap.size 22 #[.slice Aj (a.rs j).k cj] := Blk.new _ _ _
              have hXX : Ext y0 (World.alloc y0 (.cells #[.slice Aj (a.rs j).k cj] 22)) := (Mod.refl [] _).alloc _
              generalize World.alloc y0 (.cells #[.slice Aj (a.rs j).k cj] 22) = y10 at *
              have hO9 := hO9.ext hXX
              have hR9 := hR9.ext hXX
              refine hK.out _ _ (hHeld.trans (hXX.mono (by simp))) (fun hHeld => ?_)
              clear hK K
              (try simp only [Act.put, List.getElem_toArray, List.getElem_cons_zero, List.getElem_cons_succ, List.setIfInBounds_toArray, List.set_cons_zero, List.set_cons_succ])
              generalize y0.heap.size = gq at *
              refine wpAnyH_ready (rs := [1]) (by kernel_rfl) (by simp) ?_
              refine AllReadyH.cons rfl (fun K hK => ?_) AllReadyH.nil
              have c7 : y10.cell? ⟨O, 7, none⟩ = some (.slice A' nn c') := hO9.cell 7
              go_simp
              refine hK.out _ _ hHeld (fun hHeld => ?_)
              clear hK K c7
              (try simp only [Act.put, List.getElem_toArray, List.getElem_cons_zero, List.getElem_cons_succ, List.setIfInBounds_toArray, List.set_cons_zero, List.set_cons_succ])
              refine wpAnyH_ready (rs := [8]) (by kernel_rfl) (by simp) ?_
              refine AllReadyH.cons rfl (fun K hK => ?_) AllReadyH.nil
              have hI : resH.hang y10 (fun b => (b ≠ O ∧ b ≠ w.heap.size + 1) ∧ offA A' b) (a.rs j) (Aj, cj) := HHG.out y10 hHeld
              obtain ⟨ib, hi, hz0, hz1, hz2⟩ := info_parts infoPairs
              refine wp_append_lies _ _ _ 27 (by rfl) z2.heap.size 22 ib _ 1 24 Try.underlying27 hi hz0 hz1 hz2 (by rfl) (by decide) _ nn _ (by rfl) hR9.own ⟨gq, 0, none⟩ 1 1 [.slice Aj (a.rs j).k cj] (by rfl) (by rfl) ?gnewy12 ?goney12 (by decide) ?gmy12 ?gby12 ?gbasey12 (y10.heap.size) rfl ?gky12
              case gnewy12 =>
                intro j' u hu
                rw [addr_add, Nat.zero_add, hQ2.cell j']
                simpa using hu
              case goney12 => intro u hu; simp at hu; subst hu; rfl
              case gmy12 => have := HLT.out; have := HF.out.2.2.1; have := HCB.out; unfold maxLen; omega
              case gby12 => have := HLT.out; have := HF.out.2.2.1; have := HCB.out; omega
              case gbasey12 => have := HWZ.out; have := hHeld.size; omega
              intro g' cp' y12 hown' hgr' hat' hlt'
              obtain ⟨ac', hR5⟩ := hR9.append hI HWP.out hown' hgr' hat'
              have hOO : O ∉ obs A' := by
                refine offA_obs (fun g' hg' => ?_)
                have := (HR.out.off g' hg').1
                have := HOZ.out
                omega
              have hO9 := hO9.mod (grown_obs hgr') hOO
              refine hK.out _ _ (hHeld.trans ((grown_obs hgr').mono (by simp; exact fun k hk => .inr hk))) (fun hHeld => ?_)
              clear hK K
              (try simp only [Act.put, List.getElem_toArray, List.getElem_cons_zero, List.getElem_cons_succ, List.setIfInBounds_toArray, List.set_cons_zero, List.set_cons_succ])
              refine' wpAnyH_take (i := 9) (v := _) rfl (by kernel_rfl) (by kernel_rfl) (by kernel_rfl) (fun _ _ _ h => h) (Or.inl ⟨by rfl, ?hy16⟩) hHeld ?rest16
              case hy16 => (rintro W hM; go_simp; (try with_reducible rfl))
              case rest16 =>
              (try simp only [Act.put, List.getElem_toArray, List.getElem_cons_zero, List.getElem_cons_succ, List.setIfInBounds_toArray, List.set_cons_zero, List.set_cons_succ])
              refine wpAnyH_ready (rs := [10]) (by kernel_rfl) (by simp) ?_
              refine AllReadyH.cons rfl (fun K hK => ?_) AllReadyH.nil
              have c7 : y12.cell? ⟨O, 7, none⟩ = some (.slice A' nn c') := hO9.cell 7
              have f7 := hO9.frozen 7
              go_simp
              have hOf := hO9.set_ 7 (.slice (some ⟨g', 0, none⟩) (nn + 1) cp')
              have hM7 := (Mod.refl [O] y12).setCell (p := ⟨O, 7, none⟩) (.inl (by simp)) (.slice (some ⟨g', 0, none⟩) (nn + 1) cp')
              generalize World.setCell y12 ⟨O, 7, none⟩ _ = yf at *
              refine hK.out _ _ (hHeld.trans (hM7.mono (by simp))) (fun hHeld => ?_)
              clear hK K c7 f7
              (try simp only [Act.put, List.getElem_toArray, List.getElem_cons_zero, List.getElem_cons_succ, List.setIfInBounds_toArray, List.set_cons_zero, List.set_cons_succ])
              refine wpAnyH_done (by kernel_rfl) ?_ _
              have hg'z : g' ≠ O := by
                have h1 : z2.heap.size ≤ g' := (hR5.off _ rfl).1
                have := HOZ.out
                omega
              have HBF : Hid (Blk yf O 29 #[.slice At ntk ct, .int .i64 a.ctx, .int .i64 a.src.sch, str a.src.name, .int .u64 (a.src.node : Int), .int .u64 (a.src.svc : Int), .slice mp a.ps.k mpc, .slice (some ⟨g', 0, none⟩) (nn + 1) cp']) := hid hOf
              have HRF := hid (hR5.modQ hM7 (fun g'' hg'' => by cases hg''; simpa using hg'z) (fun k hk _ => by simpa using hk.1))
              have HMF : Hid (Mod (O :: obs A') wr yf) := hid hHeld
              clear hOf hR5 hM7 hHeld hO9 hR9 hown' hgr' hat' hlt' hQ2 hI hOO
              go_wp2_with fail
              go_roundw
              case rel =>
                refine ⟨j + 1, by go_num, (show Hid _ from ⟨some ⟨g', 0, none⟩, cp', ac', HLT.out, ?_, Nat.le_trans HWZ.out HMF.out.size, by rw [HCN.out]; exact HBF.out, by rw [HCN.out]; exact HRF.out, HN.out.mod HMF.out ?_⟩)⟩
                · exact ((Mod.of_ext (S := O :: obs A') HVW.out).trans HMF.out).new (fun k hk => .inr (by
                    rcases List.mem_cons.1 hk with rfl | hk
                    · exact HOV.out
                    · cases A' with
                      | none => cases hk
                      | some g'' => have := (HR.out.off g'' rfl).1; have := HZV.out; simp [obs] at hk; omega))
                · intro b o h _ hm
                  have h1 := HG2.out _ h
                  have h0 := HOZ1.out
                  rcases List.mem_cons.1 hm with h | h
                  · have h2 : z.heap.size ≤ b := h1.1; omega
                  · exact offA_obs (fun g'' hg'' => by have := (HR.out.off g'' hg'').1; have h2 : b < z2.heap.size := h1.2; show b ≠ g''.block; omega) h
              case measure => have := HLT.out; simp [intOf]; omega
        · have hjt : j = a.rk := by obtain ⟨_, _, _, hjk, _⟩ := hS.out; omega
          subst hjt
          have tc : decide (a.rk < a.rk) = false := by simp
          obtain ⟨A', c', ac, hjk, hVW, hzw, hB', hR', hN'⟩ := hS.out
          have HB := hid hB'
          have HVW := hid hVW
          have HRS := hid (hR'.rs (fun b hb => by have := HOZ.out; have := HZV.out; have := HVS.out; constructor <;> omega))
          have HRG : Hid (∀ g, A' = some g → z2.heap.size ≤ g.block) := hid (fun g hg => (hR'.off g hg).1)
          have HN := hid hN'
          have HB1W := hid (HB1.out.ext HVW.out)
          have HPV := hid (HL0.out.p.ext HVW.out)
          clear hS hjk hVW hzw hB' hR' hN'
          have tk3 : True := trivial
          have tk4 : True := trivial
          go_wp2_with (first | (clear tk3; refine wpList_row (by rfl) 29 _ rfl _ rfl HB.out Try.underlying29 rfl (by kernel_rfl) ?_) | (clear tk4; refine wpList_store_mid rfl 29 _ _ rfl (w.heap.size + 1) 0 #[.slice At ntk ct, .int .i64 a.ctx, .int .i64 a.src.sch, str a.src.name, .int .u64 (a.src.node : Int), .int .u64 (a.src.svc : Int), .slice mp a.ps.k mpc, .slice A' (cntW i a.rk) c'] (by rfl) (by rfl) (HB1W.out.there (Nat.le_refl 8)) (by kernel_rfl) (by simp [Value.oneCell']) ?_))
          have hY := setCells_all (ds := #[.slice At ntk ct, .int .i64 a.ctx, .int .i64 a.src.sch, str a.src.name, .int .u64 (a.src.node : Int), .int .u64 (a.src.svc : Int), .slice mp a.ps.k mpc, .slice A' (cntW i a.rk) c']) HB1W.out rfl
          have hM2 := setCells_mod (b := w.heap.size + 1) (#[.slice At ntk ct, .int .i64 a.ctx, .int .i64 a.src.sch, str a.src.name, .int .u64 (a.src.node : Int), .int .u64 (a.src.svc : Int), .slice mp a.ps.k mpc, .slice A' (cntW i a.rk) c'] : Array Value).toList 0 (Mod.refl [w.heap.size + 1] wr) (.inl (by simp))
          generalize hZ2 : World.setCells wr _ 0 _ = Z2 at *
          refine bodyPost_ret (results_cell rfl _ (by rfl) hY Try.underlying29 rfl (by kernel_rfl)) rfl ⟨?_, ⟨At, ct, mp, mpc, A', c'⟩, ?_, ?_⟩
          · exact ((Mod.of_ext (S := [w.heap.size + 1]) (HE.out.trans HVW.out)).trans hM2).new (fun k hk => .inr (by rw [List.mem_singleton] at hk; omega))
          · rw [HNT.out]; rfl
          · have hv := HVS.out
            refine ⟨?_, fun _ _ _ _ => trivial, (HPV.out.mod hM2 (fun k hk _ => by have := hk.2; simp; omega)).weak (fun _ _ _ => trivial), (HRS.out.mod hM2 (fun k hk _ => by simpa using hk.2)).weak (fun _ _ _ => trivial)⟩
            show NsL Z2 At (a.tk - 1) (delN a.tg i)
            rw [← HNT.out]
            exact HN.out.mod hM2 (fun b o h _ => by
              have h1 := (HG2.out _ h).1
              have := HOZ1.out
              have := HOV.out
              have h2 : z.heap.size ≤ b := h1
              simp; omega)
end Go.Proofs.Ytogjghmoankleaa


namespace Go.Proofs.Ytogjghmoankleaa
open Go.RowKit
set_option linter.unusedVariables false
set_option linter.unusedSimpArgs false

section
variable {P : Program} {ops : Array Oper} {rest : List Oper} {o : Oper} {a : Act} {w : World}
/-- Two strings become one, in a plain region. -/
theorem wpList_cat {Q : Exit → Act → World → Prop} (hw : Region.wanted o (yielded ops a.tmps) = true) (ty t2 : TypeId) (x y : Operand) (ho : o.op = .binOp .add ty x y t2) (l1 l2 : List UInt8) (hx : a.eval x = str l1) (hy : a.eval y = str l2)
    (hl : l1.length + l2.length ≤ 9223372036854775807) (h : wpList P ops Q rest (a.put o.dst (str (l1 ++ l2))) w) : wpList P ops Q (o :: rest) a w :=
  wpList_step fun K hK => by
    rw [if_pos hw]
    have hl' : ¬ 9223372036854775807 < l1.length + l2.length := by omega
    have hk := hK _ _ h
    unfold Oper.wp execOp
    simp only [ho, hx, hy]
    simp [go_sem, hl']
    rw [ByteArray.mk_append_mk]
    exact hk
end
end Go.Proofs.Ytogjghmoankleaa


namespace Go.Proofs.Ytogjghmoankleaa
open Go.RowKit
set_option linter.unusedVariables false
set_option linter.unusedSimpArgs false

/-- The bytes of the first i. -/
def catL (L : List T) (i : Nat) : List UInt8 := ((L.take i).map T.bytes).flatten
theorem catL_succ {L : List T} {i : Nat} (h : i < L.length) : catL L (i + 1) = catL L i ++ (chL L i).bytes := by
  unfold catL chL
  rw [List.take_add_one, List.map_append, List.flatten_append, List.getElem?_eq_getElem h]
  simp
theorem catL_le {L : List T} {B : Nat} (h : ∀ t ∈ L, t.bytes.length ≤ B) : ∀ i, i ≤ L.length → (catL L i).length ≤ i * B := by
  intro i
  induction i with
  | zero => intro _; simp [catL]
  | succ i ih =>
    intro hi
    have := ih (by omega)
    have h2 := h (chL L i) (getD_mem (by omega))
    rw [catL_succ (by omega), List.length_append, Nat.succ_mul]
    omega
theorem AV.items_length (a : AV) : a.items.length ≤ 6 := by
  unfold AV.items
  split <;> simp
set_option maxRecDepth 20000 in
set_option maxHeartbeats 4000000 in
theorem abuild_any (a : AV) (hw : a.wf) (hsm : a.small) (hs : a.shaped = true) (m : AA) (w : World) (h : AsL w anyQ a m) : Calls Try.prog 49 #[asbV a m] w (Ret (str a.bytes) w) := by
  have HE := hid ((Mod.refl [] w).alloc (.cells (asbC a m) 29))
  have HB0 := hid (Blk.new w 29 (asbC a m))
  have HL := hid (h.ext HE.out)
  have HALL := hid (AV.items_all hw hsm hs)
  have KI : Hid (∀ W, Ext (w.alloc (.cells (asbC a m) 29)) W → _) := hid (fun W hW => aitems_any a hw hs m W (HL.out.ext hW))
  have HBY : Hid (a.bytes = catL a.items a.items.length) := hid (by unfold AV.bytes catL; rw [List.take_length])
  have HN6 := hid (AV.items_length a)
  have HBL : Hid (∀ i, i ≤ a.items.length → (catL a.items i).length ≤ i * 1000000) := hid (catL_le (B := 1000000) (fun t ht => by have := T.bytes_le t; have := (HALL.out t ht).2.2; omega))
  generalize a.items = L at *
  generalize a.bytes = RES at *
  clear hw hsm hs h
  go_enter Try.func49, Try.ntmps49
  go_upto_region 2 with fail
  generalize w.alloc (.cells (asbC a m) 29) = V at *
  go_upto_region 3 with (first | (refine wpList_row (by rfl) 29 _ rfl _ rfl HB0.out Try.underlying29 rfl (by kernel_rfl) ?_) | (go_at_call 82; refine (KI.out _ (Mod.refl _ _)).mono ?_; rintro x w1 ⟨AI, cI, rfl, hb1, hi1⟩; have H1 := hid hb1; have HI := hid hi1; clear hb1 hi1))
  generalize hk : L.length = k at *
  have HK := hid hk
  have k0 : (k : Int) ≤ 6 := by have := HN6.out; omega
  clear hk KI
  go_loopw [3, 11] (fun s3 s11 wr => ∃ i : Nat, s11 = .int .i64 (i : Int) ∧ s3 = str (catL L i) ∧ Hid (i ≤ k) ∧ ∃ e : Later w1, wr = e.x) (fun _ s11 _ => k - (intOf s11).toNat)
  case atStart => obtain ⟨e, he⟩ := Later.self w1; exact ⟨0, rfl, rfl, (show Hid _ from Nat.zero_le _), e, he⟩
  case round =>
    obtain ⟨i, rfl, rfl, hi, e, rfl⟩ := hrel
    have i0 : (0 : Int) ≤ (i : Int) := by omega
    by_cases hlt : i < k
    · obtain ⟨b, o, Ai, ci, rfl, hb, ⟨q0, q1, q2, q3, q4⟩, hI⟩ := IsL.cells (W := e.x) (i := i) HI.out e.h (by have := HK.out; omega)
      have tc : decide (i < k) = true := by simp [hlt]
      have i1 : (i : Int) < (k : Int) := by omega
      have HLT := hid hlt
      have hm : chL L i ∈ L := getD_mem (by have := HK.out; omega)
      have HC : Hid (catL L (i + 1) = catL L i ++ (chL L i).bytes) := hid (catL_succ (by have := HK.out; omega))
      have lX : (catL L i).length ≤ 6000000 := by have := HBL.out i (by omega); have := HN6.out; omega
      have lB : (chL L i).bytes.length ≤ 1000000 := by have := T.bytes_le (chL L i); have := (HALL.out _ hm).2.2; omega
      have KB := hid (fun W (hW : Ext e.x W) => (show Calls Try.prog 51 #[itemV (chL L i) Ai ci] W (Ret (.tuple #[str (chL L i).bytes, .int .i64 0]) W) from by
        have := iBuild_any (chL L i) (HALL.out _ hm).1 (HALL.out _ hm).2.2 Ai ci W (IsL.weak (fun _ _ _ => trivial) _ (hI.ext hW))
        unfold buildV at this
        rw [if_pos (HALL.out _ hm).2.1] at this
        exact this))
      change e.x.cell? ⟨b, o + i * 5, none⟩ = some (.int .i64 (chL L i).kind) at q0
      change e.x.cell? ⟨b, o + i * 5 + 1, none⟩ = some (.int .u64 ((chL L i).n : Int)) at q1
      change e.x.cell? ⟨b, o + i * 5 + 2, none⟩ = some (str (chL L i).s) at q2
      change e.x.cell? ⟨b, o + i * 5 + 3, none⟩ = some (.slice Ai (chL L i).k ci) at q3
      change e.x.cell? ⟨b, o + i * 5 + 4, none⟩ = some (.bool (chL L i).op) at q4
      clear hlt hm hb hI
      generalize chL L i = t at *
      generalize t.bytes = BB at *
      generalize catL L i = X at *
      have e00 := e
      go_upto_region 5 with fail
      generalize hW1 : World.alloc e.x _ = W1
      have HG1 : Hid (Blk W1 e.x.heap.size 38 (itemC t Ai ci)) := hid (by rw [← hW1]; exact Blk.new _ _ _)
      have HX1 : Hid (Ext e.x W1) := hid (by rw [← hW1]; exact (Mod.refl [] _).alloc _)
      clear hW1 q0 q1 q2 q3 q4
      go_wp2_with (first | (refine wpList_row (by rfl) 38 _ rfl _ rfl HG1.out Try.underlying38 rfl (by kernel_rfl) ?_) | (go_at_call 51; refine (KB.out _ HX1.out).mono ?_; rintro x w5 ⟨rfl, hb5⟩; have H5 := hid hb5; clear hb5) | (refine wpList_cat (by rfl) _ _ _ _ rfl _ _ rfl rfl (by (try simp only [List.length_append, List.length_cons, List.length_nil]); omega) ?_))
      go_roundw
      case rel => exact ⟨i + 1, by go_num, by (rw [HC.out]) <;> exact str_app _ _, (show Hid _ from HLT.out), ⟨_, e.h.trans (HX1.out.trans H5.out)⟩, rfl⟩
      case measure => have := HLT.out; simp [intOf]; omega
    · obtain rfl : i = k := by have := hi.out; omega
      have tc : decide (i < i) = false := by simp
      generalize catL L i = X at *
      go_wp2_with fail
      go_ret
      exact Ret.mk (by rw [HBY.out]; rfl) ((HE.out.trans H1.out).trans e.h)
end Go.Proofs.Ytogjghmoankleaa


namespace Go.Proofs.Ytogjghmoankleaa
open Go.RowKit
set_option linter.unusedVariables false
set_option linter.unusedSimpArgs false

set_option maxRecDepth 20000 in
set_option maxHeartbeats 4000000 in
theorem aRight_any (a : AV) (hw : a.wf) (hsm : a.shaped = true → a.small) (m : AA) (hmt : a.tk ≤ m.tc) (w : World) (h : AsL w anyQ a m) : Calls Try.prog 48 #[asbV a m] w (Ret (.bool a.right) w) := by
  have HE := hid ((Mod.refl [] w).alloc (.cells (asbC a m) 29))
  have HB0 := hid (Blk.new w 29 (asbC a m))
  have HL := hid (h.ext HE.out)
  have HWF := hid hw
  have KS : Hid (∀ W, Ext (w.alloc (.cells (asbC a m) 29)) W → Calls Try.prog 81 #[asbV a m] W (Ret (.bool a.shaped) W)) := hid (fun W hW => shaped_any a HWF.out m hmt W (HL.out.ext hW))
  have KB : Hid (a.shaped = true → ∀ W, Ext (w.alloc (.cells (asbC a m) 29)) W → Calls Try.prog 49 #[asbV a m] W (Ret (str a.bytes) W)) := hid (fun hs W hW => abuild_any a HWF.out (hsm hs) hs m W (HL.out.ext hW))
  have HR : Hid (a.right = (a.shaped && decide (a.bytes.length ≤ 4000))) := rfl
  have HBL : Hid (a.shaped = true → a.bytes.length ≤ 6000000) := hid (fun hs => by
    have h1 := catL_le (L := a.items) (B := 1000000) (fun t ht => by have := T.bytes_le t; have := (AV.items_all HWF.out (hsm hs) hs t ht).2.2; omega) a.items.length (Nat.le_refl _)
    have h2 : a.bytes = catL a.items a.items.length := by unfold AV.bytes catL; rw [List.take_length]
    have h3 := AV.items_length a
    rw [h2]; omega)
  clear hw hsm hmt h
  cases hs : a.shaped with
  | false =>
    rw [hs] at KS
    have HX : Hid (a.right = false) := hid (by rw [HR.out, hs]; rfl)
    clear hs KB HBL
    go_enter Try.func48, Try.ntmps48
    go_upto_region 1 with fail
    generalize w.alloc (.cells (asbC a m) 29) = V at *
    obtain ⟨e, he⟩ := Later.self V
    rw [he]
    clear he
    have tk1 : True := trivial
    have tk2 : True := trivial
    go_wp2_with (first | (clear tk1; refine wpList_row (by rfl) 29 _ rfl _ rfl (HB0.out.later _) Try.underlying29 rfl (by kernel_rfl) ?_) | (go_at_call 81; refine (Ret.later (KS.out _ (Later.h _))).mono ?_; rintro x _ ⟨rfl, e, rfl⟩))
    go_ret
    exact Ret.mk (by rw [HX.out]; rfl) (HE.out.trans e.h)
  | true =>
    rw [hs] at KS
    have KB := hid (KB.out hs)
    have hbl := HBL.out hs
    have HX : Hid (a.right = decide (a.bytes.length ≤ 4000)) := hid (by rw [HR.out, hs]; rfl)
    clear hs HBL HR
    generalize a.bytes = BB at *
    go_enter Try.func48, Try.ntmps48
    go_upto_region 1 with fail
    generalize w.alloc (.cells (asbC a m) 29) = V at *
    obtain ⟨e, he⟩ := Later.self V
    rw [he]
    clear he
    have tk1 : True := trivial
    have tk2 : True := trivial
    go_wp2_with (first | (clear tk1; refine wpList_row (by rfl) 29 _ rfl _ rfl (HB0.out.later _) Try.underlying29 rfl (by kernel_rfl) ?_) | (go_at_call 81; refine (Ret.later (KS.out _ (Later.h _))).mono ?_; rintro x _ ⟨rfl, e, rfl⟩) | (clear tk2; refine wpList_row (by rfl) 29 _ rfl _ rfl (HB0.out.later _) Try.underlying29 rfl (by kernel_rfl) ?_) | (go_at_call 49; refine (Ret.later (KB.out _ (Later.h _))).mono ?_; rintro x _ ⟨rfl, e, rfl⟩))
    go_ret
    refine Ret.mk ?_ (HE.out.trans e.h)
    rw [HX.out]
    simp
    try omega
/-- What Build hands back. -/
def abuildV (a : AV) : Value := if a.right then .tuple #[str a.bytes, .int .i64 0] else .tuple #[str [], .int .i64 1]
set_option maxRecDepth 20000 in
set_option maxHeartbeats 4000000 in
theorem aBuild_any (a : AV) (hw : a.wf) (hsm : a.shaped = true → a.small) (m : AA) (hmt : a.tk ≤ m.tc) (w : World) (h : AsL w anyQ a m) : Calls Try.prog 21 #[asbV a m] w (Ret (abuildV a) w) := by
  have HE := hid ((Mod.refl [] w).alloc (.cells (asbC a m) 29))
  have HB0 := hid (Blk.new w 29 (asbC a m))
  have HL := hid (h.ext HE.out)
  have HWF := hid hw
  have KS : Hid (∀ W, Ext (w.alloc (.cells (asbC a m) 29)) W → Calls Try.prog 48 #[asbV a m] W (Ret (.bool a.right) W)) := hid (fun W hW => aRight_any a HWF.out hsm m hmt W (HL.out.ext hW))
  have KB : Hid (a.right = true → ∀ W, Ext (w.alloc (.cells (asbC a m) 29)) W → Calls Try.prog 49 #[asbV a m] W (Ret (str a.bytes) W)) := hid (fun hr W hW => by
    have hs : a.shaped = true := by unfold AV.right at hr; rw [Bool.and_eq_true] at hr; exact hr.1
    exact abuild_any a HWF.out (hsm hs) hs m W (HL.out.ext hW))
  clear hw hsm hmt h
  cases hs : a.right with
  | false =>
    rw [hs] at KS
    have HX : Hid (abuildV a = .tuple #[str [], .int .i64 1]) := hid (by unfold abuildV; rw [hs]; rfl)
    clear hs KB
    go_enter Try.func21, Try.ntmps21
    go_upto_region 1 with fail
    generalize w.alloc (.cells (asbC a m) 29) = V at *
    obtain ⟨e, he⟩ := Later.self V
    rw [he]
    clear he
    have tk1 : True := trivial
    have tk2 : True := trivial
    go_wp2_with (first | (clear tk1; refine wpList_row (by rfl) 29 _ rfl _ rfl (HB0.out.later _) Try.underlying29 rfl (by kernel_rfl) ?_) | (go_at_call 48; refine (Ret.later (KS.out _ (Later.h _))).mono ?_; rintro x _ ⟨rfl, e, rfl⟩))
    refine bodyPost_ret (v := .tuple #[str [], .int .i64 1]) (by simp [results, Try.results21, go_sem]) rfl ?_
    exact Ret.mk (by rw [HX.out]) (HE.out.trans e.h)
  | true =>
    rw [hs] at KS
    have KB := hid (KB.out hs)
    have HX : Hid (abuildV a = .tuple #[str a.bytes, .int .i64 0]) := hid (by unfold abuildV; rw [hs]; rfl)
    clear hs
    generalize a.bytes = BB at *
    go_enter Try.func21, Try.ntmps21
    go_upto_region 1 with fail
    generalize w.alloc (.cells (asbC a m) 29) = V at *
    obtain ⟨e, he⟩ := Later.self V
    rw [he]
    clear he
    have tk1 : True := trivial
    have tk2 : True := trivial
    go_wp2_with (first | (clear tk1; refine wpList_row (by rfl) 29 _ rfl _ rfl (HB0.out.later _) Try.underlying29 rfl (by kernel_rfl) ?_) | (go_at_call 48; refine (Ret.later (KS.out _ (Later.h _))).mono ?_; rintro x _ ⟨rfl, e, rfl⟩) | (clear tk2; refine wpList_row (by rfl) 29 _ rfl _ rfl (HB0.out.later _) Try.underlying29 rfl (by kernel_rfl) ?_) | (go_at_call 49; refine (Ret.later (KB.out _ (Later.h _))).mono ?_; rintro x _ ⟨rfl, e, rfl⟩))
    refine bodyPost_ret (v := .tuple #[str BB, .int .i64 0]) (by simp [results, Try.results21, go_sem]) rfl ?_
    exact Ret.mk (by rw [HX.out]) (HE.out.trans e.h)
/-- The law's right text; its results' value is the bytes x. -/
def someP (x : List UInt8) : PL := ⟨1, fun _ => ⟨1, strT x⟩⟩
def someA (x : List UInt8) : AV := ⟨1, fun _ => 1, 1, ⟨1, [110, 111, 110, 101], 0, 0⟩, ⟨0, fun _ => ⟨0, T.nil⟩⟩, 1, fun _ => someP x⟩
theorem someA_wf {x : List UInt8} (hx : x.length < 4611686018427387904) : (someA x).wf := by
  refine ⟨⟨by show (1 : Nat) < 4611686018427387904; omega, fun i _ => by show _ ≤ (1 : Int) ∧ (1 : Int) ≤ _; omega⟩, by show _ ≤ (1 : Int) ∧ (1 : Int) ≤ _; omega, by show (4 : Nat) < 4611686018427387904; omega, ⟨by show (0 : Nat) < 4611686018427387904; omega, fun i hi => absurd hi (Nat.not_lt_zero _)⟩, by show (1 : Nat) < 4611686018427387904; omega, fun i hi => ⟨by show (1 : Nat) < 4611686018427387904; omega, fun j hj => ⟨str_ok hx, by show _ ≤ (1 : Int) ∧ (1 : Int) ≤ _; omega⟩⟩⟩
theorem someA_small {x : List UInt8} (hx : x.length ≤ 50000) : (someA x).small := by
  refine ⟨by show (1 : Nat) ≤ 100000; omega, ?_⟩
  simp [someA, someP, rsT, plT, pairT, listT, strT, numT, T.size, T.sum]
  omega
theorem someA_shaped {x : List UInt8} : (someA x).shaped = true := by
  simp [AV.shaped, someA, someP, unlikeB, codedB, T.all, resB, pairsB, valB, strT, T.kind, T.right, T.node]
  decide
theorem some_any15 (w : World) : Calls Try.prog 38 #[] w (fun e w' => ∃ m, e = .returned (asbV (someA [116]) m) ∧ Ext w w' ∧ AsL w' (fun b => w.heap.size ≤ b) (someA [116]) m ∧ 1 ≤ m.tc) := by
  go_enter Try.func38, Try.ntmps38
  go_wp2_with fail
  have HE := hid (((((Mod.refl [] w).alloc (.cells #[.slice (some ⟨w.heap.size + 1, 0, none⟩) 1 1, .int .i64 1, .int .i64 1, str [110, 111, 110, 101], .int .u64 0, .int .u64 0, .slice none 0 0, .slice (some ⟨w.heap.size + 1 + 1 + 1, 0, none⟩) 1 1] 29)).alloc (.cells #[.int .i64 1] 3)).alloc (.cells #[.int .i64 1, .int .i64 2, .int .u64 0, str [116], .slice none 0 0, .bool false] 40)).alloc (.cells #[.slice (some ⟨w.heap.size + 1 + 1, 0, none⟩) 1 1] 22))
  have HB0 : Hid (Blk ((((w.alloc (.cells #[.slice (some ⟨w.heap.size + 1, 0, none⟩) 1 1, .int .i64 1, .int .i64 1, str [110, 111, 110, 101], .int .u64 0, .int .u64 0, .slice none 0 0, .slice (some ⟨w.heap.size + 1 + 1 + 1, 0, none⟩) 1 1] 29)).alloc (.cells #[.int .i64 1] 3)).alloc (.cells #[.int .i64 1, .int .i64 2, .int .u64 0, str [116], .slice none 0 0, .bool false] 40)).alloc (.cells #[.slice (some ⟨w.heap.size + 1 + 1, 0, none⟩) 1 1] 22)) w.heap.size 29 #[.slice (some ⟨w.heap.size + 1, 0, none⟩) 1 1, .int .i64 1, .int .i64 1, str [110, 111, 110, 101], .int .u64 0, .int .u64 0, .slice none 0 0, .slice (some ⟨w.heap.size + 1 + 1 + 1, 0, none⟩) 1 1]) := hid ((((Blk.new w 29 #[.slice (some ⟨w.heap.size + 1, 0, none⟩) 1 1, .int .i64 1, .int .i64 1, str [110, 111, 110, 101], .int .u64 0, .int .u64 0, .slice none 0 0, .slice (some ⟨w.heap.size + 1 + 1 + 1, 0, none⟩) 1 1]).alloc (.cells #[.int .i64 1] 3)).alloc (.cells #[.int .i64 1, .int .i64 2, .int .u64 0, str [116], .slice none 0 0, .bool false] 40)).alloc (.cells #[.slice (some ⟨w.heap.size + 1 + 1, 0, none⟩) 1 1] 22))
  have HB1 : Hid (Blk ((((w.alloc (.cells #[.slice (some ⟨w.heap.size + 1, 0, none⟩) 1 1, .int .i64 1, .int .i64 1, str [110, 111, 110, 101], .int .u64 0, .int .u64 0, .slice none 0 0, .slice (some ⟨w.heap.size + 1 + 1 + 1, 0, none⟩) 1 1] 29)).alloc (.cells #[.int .i64 1] 3)).alloc (.cells #[.int .i64 1, .int .i64 2, .int .u64 0, str [116], .slice none 0 0, .bool false] 40)).alloc (.cells #[.slice (some ⟨w.heap.size + 1 + 1, 0, none⟩) 1 1] 22)) (w.heap.size + 1) 3 #[.int .i64 1]) := by unfold Hid; have := (Blk.newL (N := (w.heap.size + 1)) (w.alloc (.cells #[.slice (some ⟨w.heap.size + 1, 0, none⟩) 1 1, .int .i64 1, .int .i64 1, str [110, 111, 110, 101], .int .u64 0, .int .u64 0, .slice none 0 0, .slice (some ⟨w.heap.size + 1 + 1 + 1, 0, none⟩) 1 1] 29)) 3 #[.int .i64 1] (by simp)); exact ((this.alloc (.cells #[.int .i64 1, .int .i64 2, .int .u64 0, str [116], .slice none 0 0, .bool false] 40)).alloc (.cells #[.slice (some ⟨w.heap.size + 1 + 1, 0, none⟩) 1 1] 22))
  have HB2 : Hid (Blk ((((w.alloc (.cells #[.slice (some ⟨w.heap.size + 1, 0, none⟩) 1 1, .int .i64 1, .int .i64 1, str [110, 111, 110, 101], .int .u64 0, .int .u64 0, .slice none 0 0, .slice (some ⟨w.heap.size + 1 + 1 + 1, 0, none⟩) 1 1] 29)).alloc (.cells #[.int .i64 1] 3)).alloc (.cells #[.int .i64 1, .int .i64 2, .int .u64 0, str [116], .slice none 0 0, .bool false] 40)).alloc (.cells #[.slice (some ⟨w.heap.size + 1 + 1, 0, none⟩) 1 1] 22)) (w.heap.size + 1 + 1) 40 #[.int .i64 1, .int .i64 2, .int .u64 0, str [116], .slice none 0 0, .bool false]) := by unfold Hid; have := (Blk.newL (N := (w.heap.size + 1 + 1)) ((w.alloc (.cells #[.slice (some ⟨w.heap.size + 1, 0, none⟩) 1 1, .int .i64 1, .int .i64 1, str [110, 111, 110, 101], .int .u64 0, .int .u64 0, .slice none 0 0, .slice (some ⟨w.heap.size + 1 + 1 + 1, 0, none⟩) 1 1] 29)).alloc (.cells #[.int .i64 1] 3)) 40 #[.int .i64 1, .int .i64 2, .int .u64 0, str [116], .slice none 0 0, .bool false] (by simp)); exact (this.alloc (.cells #[.slice (some ⟨w.heap.size + 1 + 1, 0, none⟩) 1 1] 22))
  have HB3 : Hid (Blk ((((w.alloc (.cells #[.slice (some ⟨w.heap.size + 1, 0, none⟩) 1 1, .int .i64 1, .int .i64 1, str [110, 111, 110, 101], .int .u64 0, .int .u64 0, .slice none 0 0, .slice (some ⟨w.heap.size + 1 + 1 + 1, 0, none⟩) 1 1] 29)).alloc (.cells #[.int .i64 1] 3)).alloc (.cells #[.int .i64 1, .int .i64 2, .int .u64 0, str [116], .slice none 0 0, .bool false] 40)).alloc (.cells #[.slice (some ⟨w.heap.size + 1 + 1, 0, none⟩) 1 1] 22)) (w.heap.size + 1 + 1 + 1) 22 #[.slice (some ⟨w.heap.size + 1 + 1, 0, none⟩) 1 1]) := by unfold Hid; exact Blk.newL _ _ _ (by simp)
  show bodyPost _ _ _ _ _ ((((w.alloc (.cells #[.slice (some ⟨w.heap.size + 1, 0, none⟩) 1 1, .int .i64 1, .int .i64 1, str [110, 111, 110, 101], .int .u64 0, .int .u64 0, .slice none 0 0, .slice (some ⟨w.heap.size + 1 + 1 + 1, 0, none⟩) 1 1] 29)).alloc (.cells #[.int .i64 1] 3)).alloc (.cells #[.int .i64 1, .int .i64 2, .int .u64 0, str [116], .slice none 0 0, .bool false] 40)).alloc (.cells #[.slice (some ⟨w.heap.size + 1 + 1, 0, none⟩) 1 1] 22))
  generalize ((((w.alloc (.cells #[.slice (some ⟨w.heap.size + 1, 0, none⟩) 1 1, .int .i64 1, .int .i64 1, str [110, 111, 110, 101], .int .u64 0, .int .u64 0, .slice none 0 0, .slice (some ⟨w.heap.size + 1 + 1 + 1, 0, none⟩) 1 1] 29)).alloc (.cells #[.int .i64 1] 3)).alloc (.cells #[.int .i64 1, .int .i64 2, .int .u64 0, str [116], .slice none 0 0, .bool false] 40)).alloc (.cells #[.slice (some ⟨w.heap.size + 1 + 1, 0, none⟩) 1 1] 22)) = V at *
  refine bodyPost_ret (results_cell rfl _ (by rfl) HB0.out Try.underlying29 rfl (by kernel_rfl)) rfl ⟨⟨some ⟨w.heap.size + 1, 0, none⟩, 1, none, 0, some ⟨w.heap.size + 1 + 1 + 1, 0, none⟩, 1⟩, rfl, HE.out, ⟨?_, ?_, ?_, ?_⟩, Nat.le_refl _⟩
  · intro _
    exact ⟨w.heap.size + 1, 0, rfl, HB1.out.lt, fun i hi => by
      have hi : i = 0 := by have : i < 1 := hi; omega
      subst hi; exact HB1.out.cell 0⟩
  · intro b o h _
    cases h
    show w.heap.size ≤ w.heap.size + 1
    omega
  · intro h0; exact absurd h0 (Nat.not_lt_zero _)
  · intro _
    refine ⟨w.heap.size + 1 + 1 + 1, 0, rfl, HB3.out.lt, by show w.heap.size ≤ w.heap.size + 1 + 1 + 1; omega, fun i hi => ?_⟩
    have hi : i = 0 := by have : i < 1 := hi; omega
    subst hi
    refine ⟨some ⟨w.heap.size + 1 + 1, 0, none⟩, 1, HB3.out.cell 0, Nat.le_refl _, fun _ => ⟨w.heap.size + 1 + 1, 0, rfl, HB2.out.lt, by show w.heap.size ≤ w.heap.size + 1 + 1; omega, fun j hj => ?_⟩⟩
    have hj : j = 0 := by have : j < 1 := hj; omega
    subst hj
    exact ⟨none, 0, ⟨HB2.out.cell 0, HB2.out.cell 1, HB2.out.cell 2, HB2.out.cell 3, HB2.out.cell 4, HB2.out.cell 5⟩, IsL.leaf⟩
theorem someA_bytes : abuildV (someA [116]) = .tuple #[str [129, 1, 1, 0, 130, 1, 0, 129, 129, 130, 1, 65, 116], .int .i64 0] := by
  have h : (someA [116]).bytes = [129, 1, 1, 0, 130, 1, 0, 129, 129, 130, 1, 65, 116] := by decide +kernel
  unfold abuildV AV.right
  rw [someA_shaped, h]
  rfl
set_option maxRecDepth 20000 in
theorem awake15_any (w : World) : Calls Try.prog 10 #[] w (Ret (.bool true) w) := by
  have K1 := hid (fun W => some_any15 W)
  have K2 := hid (fun (m : AA) (hm : 1 ≤ m.tc) (Q : Nat → Prop) W (h : AsL W Q (someA [116]) m) => someA_bytes ▸ aBuild_any (someA [116]) (someA_wf (by decide)) (fun _ => someA_small (by decide)) m hm W ⟨h.t, fun _ _ _ _ => trivial, h.p.weak (fun _ _ _ => trivial), h.r.weak (fun _ _ _ => trivial)⟩)
  go_enter Try.func10, Try.ntmps10
  go_wp2_with (first | (go_at_call 38; refine (K1.out _).mono ?_; rintro x w1 ⟨m, rfl, hb1, hl1, hm⟩; have H1 := hid hb1; have HL1 := hid hl1; have HM := hid hm; clear hb1 hl1 hm) | (go_at_call 21; refine (K2.out m HM.out _ _ HL1.out).mono ?_; rintro x w2 ⟨rfl, hb2⟩; have H2 := hid hb2; clear hb2))
  go_ret
  exact Ret.mk rfl (H1.out.trans H2.out)
end Go.Proofs.Ytogjghmoankleaa


namespace Go.Proofs.Ytogjghmoankleaa
open Go.RowKit
set_option linter.unusedVariables false
set_option linter.unusedSimpArgs false

theorem few10L_any (e : EV) (w : World) : Calls Try.prog 23 #[.agg #[.int .i64 e.sch, str e.name, .int .u64 (e.node : Int), .int .u64 (e.svc : Int)]] w (Ret (.bool (decide (e.name.length ≤ 100))) w) := by
  go_enter Try.func23, Try.ntmps23
  go_wp2
  go_ret
  refine Ret.mk ?_ ((Mod.refl _ _).alloc _)
  simp
  omega
def PV.few (p : PV) : Bool := decide (p.d.name.length ≤ 100) && decide (p.s.name.length ≤ 100) && decide (p.r.name.length ≤ 100)
set_option maxRecDepth 20000 in
set_option maxHeartbeats 800000 in
theorem few11P_any (p : PV) (w : World) : Calls Try.prog 31 #[.agg p.c] w (Ret (.bool p.few) w) := by
  have HE := hid ((Mod.refl [] w).alloc (.cells p.c 68))
  have HB := hid (Blk.new w 68 p.c)
  have HF : Hid (p.few = (decide (p.d.name.length ≤ 100) && decide (p.s.name.length ≤ 100) && decide (p.r.name.length ≤ 100))) := rfl
  have K1 := hid (fun W => few10L_any p.d W)
  have K2 := hid (fun W => few10L_any p.s W)
  have K3 := hid (fun W => few10L_any p.r W)
  cases h1 : decide (p.d.name.length ≤ 100)
  all_goals cases h2 : decide (p.s.name.length ≤ 100)
  all_goals cases h3 : decide (p.r.name.length ≤ 100)
  all_goals rw [h1] at K1 HF
  all_goals rw [h2] at K2 HF
  all_goals rw [h3] at K3 HF
  all_goals clear h1 h2 h3
  all_goals go_enter Try.func31, Try.ntmps31
  all_goals go_upto_region 1 with fail
  all_goals generalize w.alloc (.cells p.c 68) = V at *
  all_goals have b2 : ∀ e : Later V, e.x.cell? ⟨w.heap.size, 2, none⟩ = some (.int .i64 p.d.sch) := HB.out.cellL 2 rfl
  all_goals have b3 : ∀ e : Later V, e.x.cell? ⟨w.heap.size, 3, none⟩ = some (str p.d.name) := HB.out.cellL 3 rfl
  all_goals have b4 : ∀ e : Later V, e.x.cell? ⟨w.heap.size, 4, none⟩ = some (.int .u64 (p.d.node : Int)) := HB.out.cellL 4 rfl
  all_goals have b5 : ∀ e : Later V, e.x.cell? ⟨w.heap.size, 5, none⟩ = some (.int .u64 (p.d.svc : Int)) := HB.out.cellL 5 rfl
  all_goals have b6 : ∀ e : Later V, e.x.cell? ⟨w.heap.size, 6, none⟩ = some (.int .i64 p.s.sch) := HB.out.cellL 6 rfl
  all_goals have b7 : ∀ e : Later V, e.x.cell? ⟨w.heap.size, 7, none⟩ = some (str p.s.name) := HB.out.cellL 7 rfl
  all_goals have b8 : ∀ e : Later V, e.x.cell? ⟨w.heap.size, 8, none⟩ = some (.int .u64 (p.s.node : Int)) := HB.out.cellL 8 rfl
  all_goals have b9 : ∀ e : Later V, e.x.cell? ⟨w.heap.size, 9, none⟩ = some (.int .u64 (p.s.svc : Int)) := HB.out.cellL 9 rfl
  all_goals have b10 : ∀ e : Later V, e.x.cell? ⟨w.heap.size, 10, none⟩ = some (.int .i64 p.r.sch) := HB.out.cellL 10 rfl
  all_goals have b11 : ∀ e : Later V, e.x.cell? ⟨w.heap.size, 11, none⟩ = some (str p.r.name) := HB.out.cellL 11 rfl
  all_goals have b12 : ∀ e : Later V, e.x.cell? ⟨w.heap.size, 12, none⟩ = some (.int .u64 (p.r.node : Int)) := HB.out.cellL 12 rfl
  all_goals have b13 : ∀ e : Later V, e.x.cell? ⟨w.heap.size, 13, none⟩ = some (.int .u64 (p.r.svc : Int)) := HB.out.cellL 13 rfl
  all_goals obtain ⟨e0, he0⟩ := Later.self V
  all_goals rw [he0]
  all_goals clear he0
  all_goals go_wp2_with (go_at_call 23; first | ((with_reducible refine (Ret.later (K1.out _)).mono ?_); rintro x _ ⟨rfl, e1, rfl⟩) | ((with_reducible refine (Ret.later (K2.out _)).mono ?_); rintro x _ ⟨rfl, e1, rfl⟩) | ((with_reducible refine (Ret.later (K3.out _)).mono ?_); rintro x _ ⟨rfl, e1, rfl⟩))
  all_goals go_ret
  all_goals exact Ret.mk (by rw [HF.out]; rfl) (HE.out.trans e1.h)
def bsFew (bs : Nat → BV) (i : Nat) : Bool := decide (4100 < (bs i).data.length)
def bunFew (p : PV) (bs : Nat → BV) (k : Nat) : Bool := decide (k ≤ 20) && ((firstOf (bsFew bs) k).isNone && p.few)
theorem bunFew_spec {p : PV} {bs : Nat → BV} {k : Nat} (h : bunFew p bs k = true) : k ≤ 20 ∧ p.few = true ∧ ∀ i, i < k → (bs i).data.length ≤ 4100 := by
  unfold bunFew at h
  simp only [Bool.and_eq_true, decide_eq_true_eq] at h
  refine ⟨h.1, h.2.2, fun i hi => ?_⟩
  cases hf : firstOf (bsFew bs) k with
  | some x => rw [hf] at h; simp at h
  | none =>
    have := firstOf_no hf i hi
    unfold bsFew at this
    simp at this
    exact this
theorem bunFew_long {p : PV} {bs : Nat → BV} {k i : Nat} (hi : i < k) (h : 4100 < (bs i).data.length) : bunFew p bs k = false := by
  cases hb : bunFew p bs k with
  | false => rfl
  | true => have := (bunFew_spec hb).2.2 i hi; omega
end Go.Proofs.Ytogjghmoankleaa


namespace Go.Proofs.Ytogjghmoankleaa
open Go.RowKit
set_option linter.unusedVariables false
set_option linter.unusedSimpArgs false

def fewP (p : PL) : Bool := T.all (fun i => few (p.a i).t 1000) (min p.k 20) && decide (p.k ≤ 10)
def fewA (a : AV) : Bool := T.all (fun i => fewP (a.rs i)) (min a.rk 30) && (decide (a.tk ≤ 20) && decide (a.rk ≤ 20) && fewP a.ps && decide (a.src.name.length ≤ 100))
set_option maxRecDepth 20000 in
set_option maxHeartbeats 1600000 in
theorem fewPairs_any (p : PL) (hw : p.wf) (A : Option Addr) (c : Nat) (w : World) (h : PsL w anyQ A p) : Calls Try.prog 39 #[.slice A p.k c] w (Ret (.bool (fewP p)) w) := by
  have HL := hid h
  have HW := hid hw
  have k0 : (p.k : Int) < 4611686018427387904 := by have := hw.1; omega
  have HF : Hid (fewP p = (T.all (fun i => few (p.a i).t 1000) (min p.k 20) && decide (p.k ≤ 10))) := rfl
  generalize hkk : p.k = k at *
  have HKK := hid hkk
  clear hw h hkk
  go_enter Try.func39, Try.ntmps39
  go_wp2_with fail
  go_loopw [3] (fun s3 wr => ∃ i : Nat, s3 = .int .i64 (i : Int) ∧ Hid (i ≤ min k 20 ∧ T.all (fun i => few (p.a i).t 1000) i = true) ∧ ∃ e : Later w, wr = e.x) (fun s3 _ => k - (intOf s3).toNat)
  case atStart => obtain ⟨e, he⟩ := Later.self w; exact ⟨0, rfl, (show Hid _ from ⟨Nat.zero_le _, rfl⟩), e, he⟩
  case round =>
    obtain ⟨i, rfl, hi, e, rfl⟩ := hrel
    have i0 : (0 : Int) ≤ (i : Int) := by omega
    by_cases hlt : i < k ∧ i < 20
    · obtain ⟨b, o, Ai, ci, rfl, hb, hat, hI⟩ := HL.out.at e.h (i := i) (by have := HKK.out; omega)
      obtain ⟨q0, q1, q2, q3, q4⟩ := hat.five
      have i1 : (i : Int) < (k : Int) := by omega
      have taa : decide (i < k) = true := decide_eq_true (by exact hlt.1)
      have tab : (i < k) = True := eq_true (by exact hlt.1)
      have tba : decide ((i : Int) < 20) = true := decide_eq_true (by omega)
      have tbb : ((i : Int) < 20) = True := eq_true (by omega)
      have tca : decide (i < 20) = true := decide_eq_true (by exact hlt.2)
      have tcb : (i < 20) = True := eq_true (by exact hlt.2)
      have HLT := hid hlt
      have KF := hid (fun e : Later w => fun (hI : IsL e.x anyQ (p.a i).t Ai) => iFew_any (p.a i).t 1000 (by decide) ((HW.out.2 i (by have := HKK.out; omega)).1) Ai ci e.x hI)
      have HI := hid hI
      clear hlt hI hb hat
      cases hf : few (p.a i).t 1000 with
      | false =>
        rw [hf] at KF
        have HN := hid (all_no (f := fun i => few (p.a i).t 1000) (k := min k 20) (by have := HLT.out; omega) hf)
        have HFIN : Hid (fewP p = false) := hid (by rw [HF.out, HN.out]; rfl)
        clear hf
        go_wp2_with (first | (go_at_call 77; refine (Ret.later (KF.out _ HI.out)).mono ?_; rintro x _ ⟨rfl, e, rfl⟩))
        go_ret
        exact Ret.mk (by rw [HFIN.out]; rfl) e.h
      | true =>
        rw [hf] at KF
        have HY := hid hf
        clear hf
        go_wp2_with (first | (go_at_call 77; refine (Ret.later (KF.out _ HI.out)).mono ?_; rintro x _ ⟨rfl, e, rfl⟩))
        go_roundw
        case rel => exact ⟨i + 1, by go_num, (show Hid _ from ⟨by have := HLT.out; omega, by rw [T.all, hi.out.2, HY.out]; rfl⟩), e, rfl⟩
        case measure => have := HLT.out; simp [intOf]; omega
    · have him : i = min k 20 := by have := hi.out.1; omega
      have HFIN : Hid (fewP p = decide (k ≤ 10)) := hid (by rw [HF.out, ← him, hi.out.2]; rfl)
      by_cases hk : i < k
      · have h20 : i = 20 := by omega
        have HX : Hid (fewP p = false) := hid (by rw [HFIN.out]; exact decide_eq_false (by omega))
        have taa : decide (i < k) = true := decide_eq_true (by exact hk)
        have tab : (i < k) = True := eq_true (by exact hk)
        have tba : decide ((i : Int) < 20) = false := decide_eq_false (by omega)
        have tbb : ((i : Int) < 20) = False := eq_false (by omega)
        have tca : decide (i < 20) = false := decide_eq_false (by omega)
        have tcb : (i < 20) = False := eq_false (by omega)
        have tda : decide ((i : Int) < (k : Int)) = true := decide_eq_true (by omega)
        have tdb : ((i : Int) < (k : Int)) = True := eq_true (by omega)
        have tea : decide (k ≤ 10) = false := decide_eq_false (by omega)
        have teb : (k ≤ 10) = False := eq_false (by omega)
        have tfa : decide ((k : Int) ≤ 10) = false := decide_eq_false (by omega)
        have tfb : ((k : Int) ≤ 10) = False := eq_false (by omega)
        clear hlt hk him h20
        go_wp2_with fail
        go_ret
        exact Ret.mk (by rw [HX.out]; rfl) e.h
      · have hik : i = k := by omega
        have HX := HFIN
        subst hik
        have ta : decide (i < i) = false := by simp
        clear hlt hk him
        by_cases h10 : i ≤ 10
        · rw [decide_eq_true h10] at HX
          have tea : decide (i ≤ 10) = true := decide_eq_true (by omega)
          have teb : (i ≤ 10) = True := eq_true (by omega)
          have tfa : decide ((i : Int) ≤ 10) = true := decide_eq_true (by omega)
          have tfb : ((i : Int) ≤ 10) = True := eq_true (by omega)
          clear h10
          go_wp2_with fail
          go_ret
          exact Ret.mk (by rw [HX.out]; rfl) e.h
        · rw [decide_eq_false h10] at HX
          have tea : decide (i ≤ 10) = false := decide_eq_false (by omega)
          have teb : (i ≤ 10) = False := eq_false (by omega)
          have tfa : decide ((i : Int) ≤ 10) = false := decide_eq_false (by omega)
          have tfb : ((i : Int) ≤ 10) = False := eq_false (by omega)
          clear h10
          go_wp2_with fail
          go_ret
          exact Ret.mk (by rw [HX.out]; rfl) e.h
set_option maxRecDepth 20000 in
set_option maxHeartbeats 4000000 in
theorem few15_any (a : AV) (hw : a.wf) (m : AA) (w : World) (h : AsL w anyQ a m) : Calls Try.prog 11 #[asbV a m] w (Ret (.bool (fewA a)) w) := by
  have HE := hid ((Mod.refl [] w).alloc (.cells (asbC a m) 29))
  have HB0 := hid (Blk.new w 29 (asbC a m))
  have HL := hid (h.ext HE.out)
  have HW := hid hw
  have tk0 : (a.tk : Int) < 4611686018427387904 := by have := hw.1.1; omega
  have rk0 : (a.rk : Int) < 4611686018427387904 := by have := hw.2.2.2.2.1; omega
  have KE := hid (fun W => few10L_any a.src W)
  have HF : Hid (fewA a = (T.all (fun i => fewP (a.rs i)) (min a.rk 30) && (decide (a.tk ≤ 20) && decide (a.rk ≤ 20) && fewP a.ps && decide (a.src.name.length ≤ 100)))) := rfl
  generalize hkk : a.rk = k at *
  have HKK := hid hkk
  clear hw h hkk
  go_enter Try.func11, Try.ntmps11
  go_upto_region 1 with fail
  generalize w.alloc (.cells (asbC a m) 29) = V at *
  have b0 : ∀ e : Later V, e.x.cell? ⟨w.heap.size, 0, none⟩ = some (.slice m.t a.tk m.tc) := HB0.out.cellL 0 rfl
  have b6 : ∀ e : Later V, e.x.cell? ⟨w.heap.size, 6, none⟩ = some (.slice m.p a.ps.k m.pc) := HB0.out.cellL 6 rfl
  have b7 : ∀ e : Later V, e.x.cell? ⟨w.heap.size, 7, none⟩ = some (.slice m.r k m.rc) := HB0.out.cellL 7 (by rw [← HKK.out]; rfl)
  have HRE : Hid (∀ e : Later V, e.x.rangeAt w.heap.size 2 [.int .i64 a.src.sch, str a.src.name, .int .u64 (a.src.node : Int), .int .u64 (a.src.svc : Int)]) := HB0.out.range 2 4 (by rfl)
  have KP := hid (fun e : Later V => fewPairs_any a.ps HW.out.2.2.2.1 m.p m.pc e.x (HL.out.p.ext e.h))
  go_upto_region 2 with fail
  go_loopw [3] (fun s3 wr => ∃ i : Nat, s3 = .int .i64 (i : Int) ∧ Hid (i ≤ min k 30 ∧ T.all (fun i => fewP (a.rs i)) i = true) ∧ ∃ e : Later V, wr = e.x) (fun s3 _ => k - (intOf s3).toNat)
  case atStart => obtain ⟨e, he⟩ := Later.self V; exact ⟨0, rfl, (show Hid _ from ⟨Nat.zero_le _, rfl⟩), e, he⟩
  case round =>
    obtain ⟨i, rfl, hi, e, rfl⟩ := hrel
    have i0 : (0 : Int) ≤ (i : Int) := by omega
    by_cases hlt : i < k ∧ i < 30
    · obtain ⟨b, o, Ai, ci, hmr, hb, q0, hkc, hP⟩ := HL.out.r.at e.h (i := i) (by have := HKK.out; omega)
      rw [hmr] at b7
      have i1 : (i : Int) < (k : Int) := by omega
      have taa : decide (i < k) = true := decide_eq_true (by exact hlt.1)
      have tab : (i < k) = True := eq_true (by exact hlt.1)
      have tba : decide ((i : Int) < 30) = true := decide_eq_true (by omega)
      have tbb : ((i : Int) < 30) = True := eq_true (by omega)
      have tca : decide (i < 30) = true := decide_eq_true (by exact hlt.2)
      have tcb : (i < 30) = True := eq_true (by exact hlt.2)
      have HLT := hid hlt
      have KF := hid (fewPairs_any (a.rs i) (HW.out.2.2.2.2.2 i (by have := HKK.out; omega)) Ai ci e.x hP)
      clear hlt hP hb hkc
      cases hf : fewP (a.rs i) with
      | false =>
        rw [hf] at KF
        have HN := hid (all_no (f := fun i => fewP (a.rs i)) (k := min k 30) (by have := HLT.out; omega) hf)
        have HFIN : Hid (fewA a = false) := hid (by rw [HF.out, HN.out]; rfl)
        clear hf
        go_wp2_with (first | (go_at_call 39; refine (Ret.later (KF.out)).mono ?_; rintro x _ ⟨rfl, e, rfl⟩))
        go_ret
        exact Ret.mk (by rw [HFIN.out]; rfl) (HE.out.trans e.h)
      | true =>
        rw [hf] at KF
        have HY := hid hf
        clear hf
        go_wp2_with (first | (go_at_call 39; refine (Ret.later (KF.out)).mono ?_; rintro x _ ⟨rfl, e, rfl⟩))
        go_roundw
        case rel => exact ⟨i + 1, by go_num, (show Hid _ from ⟨by have := HLT.out; omega, by rw [T.all, hi.out.2, HY.out]; rfl⟩), e, rfl⟩
        case measure => have := HLT.out; simp [intOf]; omega
    · have him : i = min k 30 := by have := hi.out.1; omega
      have HFIN : Hid (fewA a = (decide (a.tk ≤ 20) && decide (k ≤ 20) && fewP a.ps && decide (a.src.name.length ≤ 100))) := hid (by rw [HF.out, ← him, hi.out.2]; rfl)
      have hx : (decide (i < k) && decide (i < 30)) = false := by
        by_cases h1 : i < k
        · rw [decide_eq_false (show ¬ i < 30 by omega), Bool.and_false]
        · rw [decide_eq_false h1]; rfl
      generalize fewP a.ps = FP at *
      generalize decide (a.src.name.length ≤ 100) = FN at *
      generalize fewA a = FA at *
      by_cases hk : i < k
      case pos =>
        have taa : decide (i < k) = true := decide_eq_true (by exact hk)
        have tab : (i < k) = True := eq_true (by exact hk)
        have tba : decide ((i : Int) < 30) = false := decide_eq_false (by omega)
        have tbb : ((i : Int) < 30) = False := eq_false (by omega)
        have tca : decide (i < 30) = false := decide_eq_false (by omega)
        have tcb : (i < 30) = False := eq_false (by omega)
        have tda : decide ((i : Int) < (k : Int)) = true := decide_eq_true (by omega)
        have tdb : ((i : Int) < (k : Int)) = True := eq_true (by omega)
        have h30 : 30 < k := by omega
        clear hlt hk him hx
        go_upto_region 6 with fail
        have uea : decide (k ≤ 20) = false := decide_eq_false (by omega)
        have ueb : (k ≤ 20) = False := eq_false (by omega)
        have ufa : decide ((k : Int) ≤ 20) = false := decide_eq_false (by omega)
        have ufb : ((k : Int) ≤ 20) = False := eq_false (by omega)
        clear h30
        by_cases ht : a.tk ≤ 20
        case neg =>
          have uaa : decide (a.tk ≤ 20) = false := decide_eq_false (by omega)
          have uab : (a.tk ≤ 20) = False := eq_false (by omega)
          have uba : decide ((a.tk : Int) ≤ 20) = false := decide_eq_false (by omega)
          have ubb : ((a.tk : Int) ≤ 20) = False := eq_false (by omega)
          have HX : Hid (FA = false) := hid (by rw [HFIN.out, decide_eq_false ht]; rfl)
          have tk1 : True := trivial
          go_wp2_with (first | (clear tk1; refine wpList_mid (by rfl) 26 _ rfl _ 2 rfl _ _ (HRE.out _) Try.underlying26 rfl (by kernel_rfl) ?_) | (go_at_call 39; refine (Ret.later (KP.out _)).mono ?_; rintro x _ ⟨rfl, e, rfl⟩) | (go_at_call 23; refine (Ret.later (KE.out _)).mono ?_; rintro x _ ⟨rfl, e, rfl⟩))
          go_ret
          exact Ret.mk (by rw [HX.out]; rfl) (HE.out.trans e.h)
        have uaa : decide (a.tk ≤ 20) = true := decide_eq_true (by omega)
        have uab : (a.tk ≤ 20) = True := eq_true (by omega)
        have uba : decide ((a.tk : Int) ≤ 20) = true := decide_eq_true (by omega)
        have ubb : ((a.tk : Int) ≤ 20) = True := eq_true (by omega)
        rw [decide_eq_true ht] at HFIN
        clear ht
        have HX : Hid (FA = false) := hid (by rw [HFIN.out, uea]; rfl)
        have tk1 : True := trivial
        go_wp2_with (first | (clear tk1; refine wpList_mid (by rfl) 26 _ rfl _ 2 rfl _ _ (HRE.out _) Try.underlying26 rfl (by kernel_rfl) ?_) | (go_at_call 39; refine (Ret.later (KP.out _)).mono ?_; rintro x _ ⟨rfl, e, rfl⟩) | (go_at_call 23; refine (Ret.later (KE.out _)).mono ?_; rintro x _ ⟨rfl, e, rfl⟩))
        go_ret
        exact Ret.mk (by rw [HX.out]; rfl) (HE.out.trans e.h)
      have hik : i = k := by omega
      subst hik
      have ta : decide (i < i) = false := by simp
      clear hlt hk him hx
      go_upto_region 6 with fail
      by_cases ht : a.tk ≤ 20
      case neg =>
        have uaa : decide (a.tk ≤ 20) = false := decide_eq_false (by omega)
        have uab : (a.tk ≤ 20) = False := eq_false (by omega)
        have uba : decide ((a.tk : Int) ≤ 20) = false := decide_eq_false (by omega)
        have ubb : ((a.tk : Int) ≤ 20) = False := eq_false (by omega)
        have HX : Hid (FA = false) := hid (by rw [HFIN.out, decide_eq_false ht]; rfl)
        have tk1 : True := trivial
        go_wp2_with (first | (clear tk1; refine wpList_mid (by rfl) 26 _ rfl _ 2 rfl _ _ (HRE.out _) Try.underlying26 rfl (by kernel_rfl) ?_) | (go_at_call 39; refine (Ret.later (KP.out _)).mono ?_; rintro x _ ⟨rfl, e, rfl⟩) | (go_at_call 23; refine (Ret.later (KE.out _)).mono ?_; rintro x _ ⟨rfl, e, rfl⟩))
        go_ret
        exact Ret.mk (by rw [HX.out]; rfl) (HE.out.trans e.h)
      have uaa : decide (a.tk ≤ 20) = true := decide_eq_true (by omega)
      have uab : (a.tk ≤ 20) = True := eq_true (by omega)
      have uba : decide ((a.tk : Int) ≤ 20) = true := decide_eq_true (by omega)
      have ubb : ((a.tk : Int) ≤ 20) = True := eq_true (by omega)
      rw [decide_eq_true ht] at HFIN
      clear ht
      by_cases hk2 : i ≤ 20
      case neg =>
        have uca : decide (i ≤ 20) = false := decide_eq_false (by omega)
        have ucb : (i ≤ 20) = False := eq_false (by omega)
        have uda : decide ((i : Int) ≤ 20) = false := decide_eq_false (by omega)
        have udb : ((i : Int) ≤ 20) = False := eq_false (by omega)
        have HX : Hid (FA = false) := hid (by rw [HFIN.out, decide_eq_false hk2]; rfl)
        have tk1 : True := trivial
        go_wp2_with (first | (clear tk1; refine wpList_mid (by rfl) 26 _ rfl _ 2 rfl _ _ (HRE.out _) Try.underlying26 rfl (by kernel_rfl) ?_) | (go_at_call 39; refine (Ret.later (KP.out _)).mono ?_; rintro x _ ⟨rfl, e, rfl⟩) | (go_at_call 23; refine (Ret.later (KE.out _)).mono ?_; rintro x _ ⟨rfl, e, rfl⟩))
        go_ret
        exact Ret.mk (by rw [HX.out]; rfl) (HE.out.trans e.h)
      have uca : decide (i ≤ 20) = true := decide_eq_true (by omega)
      have ucb : (i ≤ 20) = True := eq_true (by omega)
      have uda : decide ((i : Int) ≤ 20) = true := decide_eq_true (by omega)
      have udb : ((i : Int) ≤ 20) = True := eq_true (by omega)
      rw [decide_eq_true hk2] at HFIN
      clear hk2
      cases FP with
      | false =>
        have HX : Hid (FA = false) := hid (by rw [HFIN.out]; rfl)
        have tk1 : True := trivial
        go_wp2_with (first | (clear tk1; refine wpList_mid (by rfl) 26 _ rfl _ 2 rfl _ _ (HRE.out _) Try.underlying26 rfl (by kernel_rfl) ?_) | (go_at_call 39; refine (Ret.later (KP.out _)).mono ?_; rintro x _ ⟨rfl, e, rfl⟩) | (go_at_call 23; refine (Ret.later (KE.out _)).mono ?_; rintro x _ ⟨rfl, e, rfl⟩))
        go_ret
        exact Ret.mk (by rw [HX.out]; rfl) (HE.out.trans e.h)
      | true =>
      cases FN with
      | false =>
        have HX : Hid (FA = false) := hid (by rw [HFIN.out]; rfl)
        have tk1 : True := trivial
        go_wp2_with (first | (clear tk1; refine wpList_mid (by rfl) 26 _ rfl _ 2 rfl _ _ (HRE.out _) Try.underlying26 rfl (by kernel_rfl) ?_) | (go_at_call 39; refine (Ret.later (KP.out _)).mono ?_; rintro x _ ⟨rfl, e, rfl⟩) | (go_at_call 23; refine (Ret.later (KE.out _)).mono ?_; rintro x _ ⟨rfl, e, rfl⟩))
        go_ret
        exact Ret.mk (by rw [HX.out]; rfl) (HE.out.trans e.h)
      | true =>
      have HX : Hid (FA = true) := hid (by rw [HFIN.out]; rfl)
      have tk1 : True := trivial
      go_wp2_with (first | (clear tk1; refine wpList_mid (by rfl) 26 _ rfl _ 2 rfl _ _ (HRE.out _) Try.underlying26 rfl (by kernel_rfl) ?_) | (go_at_call 39; refine (Ret.later (KP.out _)).mono ?_; rintro x _ ⟨rfl, e, rfl⟩) | (go_at_call 23; refine (Ret.later (KE.out _)).mono ?_; rintro x _ ⟨rfl, e, rfl⟩))
      go_ret
      exact Ret.mk (by rw [HX.out]; rfl) (HE.out.trans e.h)
end Go.Proofs.Ytogjghmoankleaa


namespace Go.Proofs.Ytogjghmoankleaa
open Go.RowKit
set_option linter.unusedVariables false
set_option linter.unusedSimpArgs false

def isID (p : PL) (id : Int) (i : Nat) : Bool := (p.a i).id == id
def IdPost (p : PL) (id kind : Int) (w : World) (e : Ending) (w' : World) : Prop :=
  Ext w w' ∧ ((∃ i A c, firstOf (isID p id) p.k = some i ∧ e = .returned (.tuple #[itemV (p.a i).t A c, .bool ((p.a i).t.kind == kind)])) ∨ (firstOf (isID p id) p.k = none ∧ e = .returned (.tuple #[.agg #[.int .i64 0, .int .u64 0, .string ⟨#[]⟩, .slice none 0 0, .bool false], .bool false])))
set_option maxRecDepth 20000 in
set_option maxHeartbeats 4000000 in
theorem value_any (p : PL) (id kind : Int) (hk : p.k < 4611686018427387904) (A : Option Addr) (c : Nat) (w : World) (h : PsL w anyQ A p) : Calls Try.prog 40 #[.slice A p.k c, .int .i64 id, .int .i64 kind] w (IdPost p id kind w) := by
  have HE := hid ((Mod.refl [] w).alloc (.cells #[.int .i64 0, .int .u64 0, .string ⟨#[]⟩, .slice none 0 0, .bool false] 38))
  have HB0 : Hid (Blk (w.alloc (.cells #[.int .i64 0, .int .u64 0, .string ⟨#[]⟩, .slice none 0 0, .bool false] 38)) w.heap.size 38 #[.int .i64 0, .int .u64 0, .string ⟨#[]⟩, .slice none 0 0, .bool false]) := hid (Blk.new w 38 #[.int .i64 0, .int .u64 0, .string ⟨#[]⟩, .slice none 0 0, .bool false])
  have HL := hid (h.ext HE.out)
  have k0 : (p.k : Int) < 4611686018427387904 := by omega
  generalize hkk : p.k = k at *
  have HKK := hid hkk
  clear hk h hkk
  go_enter Try.func40, Try.ntmps40
  go_upto_region 2 with fail
  have HRN : Hid (w.heap.size < (w.alloc (.cells #[.int .i64 0, .int .u64 0, .string ⟨#[]⟩, .slice none 0 0, .bool false] 38)).heap.size) := hid HB0.out.lt
  generalize w.alloc (.cells #[.int .i64 0, .int .u64 0, .string ⟨#[]⟩, .slice none 0 0, .bool false] 38) = V at *
  go_loopw [12] (fun s12 wr => ∃ i : Nat, s12 = .int .i64 (i : Int) ∧ Hid (i ≤ k ∧ ∀ j, j < i → isID p id j = false) ∧ ∃ e : Later V, wr = e.x) (fun s12 _ => k - (intOf s12).toNat)
  case atStart => obtain ⟨e, he⟩ := Later.self V; exact ⟨0, rfl, (show Hid _ from ⟨Nat.zero_le _, fun j hj => by omega⟩), e, he⟩
  case round =>
    obtain ⟨i, rfl, hi, e, rfl⟩ := hrel
    have i0 : (0 : Int) ≤ (i : Int) := by omega
    by_cases hlt : i < k
    · obtain ⟨b, o, Ai, ci, rfl, hb, ⟨q0, q1, q2, q3, q4, q5⟩, hI⟩ := HL.out.at e.h (i := i) (by have := HKK.out; omega)
      have tc : decide (i < k) = true := by simp [hlt]
      have i1 : (i : Int) < (k : Int) := by omega
      have HLT := hid hlt
      clear hlt hI hb
      go_upto_region 4 with fail
      have HNE : Hid (e.x.heap.size ∉ [w.heap.size]) := hid (by have := HRN.out; have := e.h.size; simp; omega)
      generalize hW1 : World.alloc e.x _ = W1
      have HG1 : Hid (Blk W1 e.x.heap.size 40 (prC (p.a i) Ai ci)) := hid (by rw [← hW1]; exact Blk.new _ _ _)
      have HX1 : Hid (Ext V W1) := hid (by rw [← hW1]; exact e.h.alloc _)
      clear hW1 q0 q1 q2 q3 q4 q5
      generalize e.x.heap.size = G at *
      have g0 : W1.cell? ⟨G, 0, none⟩ = some (.int .i64 (p.a i).id) := HG1.out.cell 0
      cases hq : isID p id i with
      | true =>
        have HQ := hid hq
        have tq : ((p.a i).id == id) = true := hq
        have tq2 : ((p.a i).id = id) = True := by rw [beq_iff_eq] at tq; exact eq_true tq
        clear hq
        go_upto_region 5 with fail
        clear g0
        have HG0 : Hid (∀ W, Mod [w.heap.size] W1 W → W.cell? ⟨G, 1, none⟩ = some (.int .i64 (p.a i).t.kind)) := hid (fun W hW => (HG1.out.mod hW HNE.out).cell 1)
        have HGM : Hid (∀ W, Mod [w.heap.size] W1 W → W.rangeAt G 1 [.int .i64 (p.a i).t.kind, .int .u64 ((p.a i).t.n : Int), str (p.a i).t.s, .slice Ai (p.a i).t.k ci, .bool (p.a i).t.op]) := hid (fun W hW => (HG1.out.mod hW HNE.out).rangeE (Mod.refl _ _) 1 5 (by rfl))
        refine wp_region_held_drew (S := fun w' => Mod [w.heap.size] W1 w') (by kernel_rfl) (Mod.refl _ _).drew (fun hHeld => ?_)
        have hR : Blk W1.drew w.heap.size 38 #[.int .i64 0, .int .u64 0, .string ⟨#[]⟩, .slice none 0 0, .bool false] := (HB0.out.ext HX1.out).drew
        generalize W1.drew = u0 at *
        refine' wpAnyH_take (i := 0) (v := _) rfl (by kernel_rfl) (by kernel_rfl) (by kernel_rfl) (fun _ _ _ h => h) (Or.inl ⟨by rfl, ?hy1⟩) hHeld ?rest1
        case hy1 => (rintro W hM; go_simp; (try with_reducible rfl))
        case rest1 =>
        (try simp only [Act.put, List.getElem_toArray, List.getElem_cons_zero, List.getElem_cons_succ, List.setIfInBounds_toArray, List.set_cons_zero, List.set_cons_succ])
        refine wpAnyH_take (i := 1) rfl (by kernel_rfl) (by kernel_rfl) (by kernel_rfl) (fun _ _ _ h => h) (yieldsIf_mid (by rfl) 38 _ rfl G 1 rfl [.int .i64 (p.a i).t.kind, .int .u64 ((p.a i).t.n : Int), str (p.a i).t.s, .slice Ai (p.a i).t.k ci, .bool (p.a i).t.op] HGM.out Try.underlying38 rfl (by kernel_rfl)) hHeld ?_
        (try simp only [Act.put, List.getElem_toArray, List.getElem_cons_zero, List.getElem_cons_succ, List.setIfInBounds_toArray, List.set_cons_zero, List.set_cons_succ])
        refine' wpAnyH_take (i := 2) (v := _) rfl (by kernel_rfl) (by kernel_rfl) (by kernel_rfl) (fun _ _ _ h => h) (Or.inl ⟨by rfl, ?hy2⟩) hHeld ?rest2
        case hy2 => (rintro W hM; go_simp; (try with_reducible rfl))
        case rest2 =>
        (try simp only [Act.put, List.getElem_toArray, List.getElem_cons_zero, List.getElem_cons_succ, List.setIfInBounds_toArray, List.set_cons_zero, List.set_cons_succ])
        refine' wpAnyH_take (i := 3) (v := _) rfl (by kernel_rfl) (by kernel_rfl) (by kernel_rfl) (fun _ _ _ h => h) (Or.inl ⟨by rfl, ?hy3⟩) hHeld ?rest3
        case hy3 => (rintro W hM; go_simp; (try with_reducible rfl))
        case rest3 =>
        (try simp only [Act.put, List.getElem_toArray, List.getElem_cons_zero, List.getElem_cons_succ, List.setIfInBounds_toArray, List.set_cons_zero, List.set_cons_succ])
        refine' wpAnyH_take (i := 4) (v := _) rfl (by kernel_rfl) (by kernel_rfl) (by kernel_rfl) (fun _ _ _ h => h) (Or.inl ⟨by rfl, ?hy4⟩) hHeld ?rest4
        case hy4 => (rintro W hM; have g1 := HG0.out W hM; go_simp; (try with_reducible rfl))
        case rest4 =>
        (try simp only [Act.put, List.getElem_toArray, List.getElem_cons_zero, List.getElem_cons_succ, List.setIfInBounds_toArray, List.set_cons_zero, List.set_cons_succ])
        refine' wpAnyH_take (i := 5) (v := _) rfl (by kernel_rfl) (by kernel_rfl) (by kernel_rfl) (fun _ _ _ h => h) (Or.inl ⟨by rfl, ?hy5⟩) hHeld ?rest5
        case hy5 => (rintro W hM; go_simp; (try with_reducible rfl))
        case rest5 =>
        (try simp only [Act.put, List.getElem_toArray, List.getElem_cons_zero, List.getElem_cons_succ, List.setIfInBounds_toArray, List.set_cons_zero, List.set_cons_succ])
        refine' wpAnyH_take (i := 6) (v := _) rfl (by kernel_rfl) (by kernel_rfl) (by kernel_rfl) (fun _ _ _ h => h) (Or.inl ⟨by rfl, ?hy6⟩) hHeld ?rest6
        case hy6 => (rintro W hM; go_simp; (try with_reducible rfl))
        case rest6 =>
        (try simp only [Act.put, List.getElem_toArray, List.getElem_cons_zero, List.getElem_cons_succ, List.setIfInBounds_toArray, List.set_cons_zero, List.set_cons_succ])
        refine wpAnyH_ready (rs := [7]) (by kernel_rfl) (by simp) ?_
        refine AllReadyH.cons rfl (fun K hK => ?_) AllReadyH.nil
        refine wp_store_mid 38 _ _ rfl w.heap.size 0 #[.int .i64 (p.a i).t.kind, .int .u64 ((p.a i).t.n : Int), str (p.a i).t.s, .slice Ai (p.a i).t.k ci, .bool (p.a i).t.op] (by rfl) (by rfl) (hR.there (Nat.le_refl 5)) (by kernel_rfl) (by simp [Value.oneCell']) ?_
        have hZB := setCells_all (ds := #[.int .i64 (p.a i).t.kind, .int .u64 ((p.a i).t.n : Int), str (p.a i).t.s, .slice Ai (p.a i).t.k ci, .bool (p.a i).t.op]) hR rfl
        have hZM := setCells_mod (b := w.heap.size) (#[.int .i64 (p.a i).t.kind, .int .u64 ((p.a i).t.n : Int), str (p.a i).t.s, .slice Ai (p.a i).t.k ci, .bool (p.a i).t.op] : Array Value).toList 0 hHeld (.inl (by simp))
        generalize hZ : World.setCells _ w.heap.size 0 _ = z at *
        clear hZ
        refine hK.out _ _ hZM (fun hHeld => ?_)
        clear hK K
        (try simp only [Act.put, List.getElem_toArray, List.getElem_cons_zero, List.getElem_cons_succ, List.setIfInBounds_toArray, List.set_cons_zero, List.set_cons_succ])
        refine' wpAnyH_take (i := 8) (v := _) rfl (by kernel_rfl) (by kernel_rfl) (by kernel_rfl) (fun _ _ _ h => h) (Or.inl ⟨by rfl, ?hy7⟩) hHeld ?rest7
        case hy7 => (rintro W hM; go_simp; (try with_reducible rfl))
        case rest7 =>
        (try simp only [Act.put, List.getElem_toArray, List.getElem_cons_zero, List.getElem_cons_succ, List.setIfInBounds_toArray, List.set_cons_zero, List.set_cons_succ])
        refine wpAnyH_done (by kernel_rfl) ?_ _
        have HZB := hid hZB
        have HEZ : Hid (Ext w z) := hid ((((HE.out.trans HX1.out).of_ext (S := [w.heap.size])).trans hHeld).new (fun k hk => .inr (by rw [List.mem_singleton] at hk; omega)))
        clear hZB hZM hHeld hR
        go_wp2_with fail
        refine bodyPost_ret (results_cell2 rfl _ (by rfl) (by rfl) HZB.out Try.underlying38 rfl (by kernel_rfl)) rfl ⟨HEZ.out, .inl ⟨i, Ai, ci, ?_, ?_⟩⟩
        · rw [HKK.out]; exact firstOf_some HLT.out HQ.out hi.out.2
        · first | rfl | simp
      | false =>
        have HQ := hid hq
        have tq : ((p.a i).id == id) = false := hq
        have tq2 : ((p.a i).id = id) = False := by rw [beq_eq_false_iff_ne] at tq; exact eq_false tq
        clear hq
        go_wp2_with fail
        go_roundw
        case rel => exact ⟨i + 1, by go_num, (show Hid _ from ⟨HLT.out, fun j hj => by
          by_cases e : j = i
          · subst e; exact HQ.out
          · exact hi.out.2 j (by omega)⟩), ⟨W1, HX1.out⟩, rfl⟩
        case measure => have := HLT.out; simp [intOf]; omega
    · obtain rfl : i = k := by have := hi.out.1; omega
      have tc : decide (i < i) = false := by simp
      obtain ⟨c0, c1, c2, c3, c4⟩ := cells5 (t := numT 0) (A := none) (c := 0) (HB0.out.later e)
      have f0 := (HB0.out.later e).frozen 0
      have f1 := (HB0.out.later e).frozen 1
      have f2 := (HB0.out.later e).frozen 2
      have f3 := (HB0.out.later e).frozen 3
      have f4 := (HB0.out.later e).frozen 4
      have HEE := hid (HE.out.trans e.h)
      obtain ⟨d0, d1, d2, d3, d4⟩ := cells5 (set5_blk (t := numT 0) (A := none) (c := 0) (t0 := numT 0) (A0 := none) (c0 := 0) (HB0.out.later e))
      go_wp2_with fail
      show bodyPost _ _ _ _ _ (set5 e.x w.heap.size (numT 0) none 0)
      have HBF := hid (set5_blk (t := numT 0) (A := none) (c := 0) (t0 := numT 0) (A0 := none) (c0 := 0) (HB0.out.later e))
      refine bodyPost_ret (results_cell2 rfl _ (by rfl) (by rfl) HBF.out Try.underlying38 rfl (by kernel_rfl)) rfl ⟨set5_mod HEE.out (Nat.le_refl _), .inr ⟨?_, rfl⟩⟩
      rw [HKK.out]; exact firstOf_none hi.out.2
end Go.Proofs.Ytogjghmoankleaa


namespace Go.Proofs.Ytogjghmoankleaa
open Go.RowKit
set_option linter.unusedVariables false
set_option linter.unusedSimpArgs false

theorem value_some (p : PL) (id kind : Int) (hk : p.k < 4611686018427387904) (A : Option Addr) (c : Nat) (w : World) (h : PsL w anyQ A p) {i : Nat} (hi : firstOf (isID p id) p.k = some i) : Calls Try.prog 40 #[.slice A p.k c, .int .i64 id, .int .i64 kind] w (fun e w' => ∃ A c, e = .returned (.tuple #[itemV (p.a i).t A c, .bool ((p.a i).t.kind == kind)]) ∧ Ext w w') := by
  refine (value_any p id kind hk A c w h).mono ?_
  rintro e w' ⟨hE, (⟨j, A, c, hf, rfl⟩ | ⟨hf, rfl⟩)⟩
  · rw [hi] at hf; cases hf; exact ⟨A, c, rfl, hE⟩
  · rw [hi] at hf; cases hf
theorem value_none (p : PL) (id kind : Int) (hk : p.k < 4611686018427387904) (A : Option Addr) (c : Nat) (w : World) (h : PsL w anyQ A p) (hi : firstOf (isID p id) p.k = none) : Calls Try.prog 40 #[.slice A p.k c, .int .i64 id, .int .i64 kind] w (Ret (.tuple #[.agg #[.int .i64 0, .int .u64 0, .string ⟨#[]⟩, .slice none 0 0, .bool false], .bool false]) w) := by
  refine (value_any p id kind hk A c w h).mono ?_
  rintro e w' ⟨hE, (⟨j, A, c, hf, rfl⟩ | ⟨hf, rfl⟩)⟩
  · rw [hi] at hf; cases hf
  · exact ⟨rfl, hE⟩
def numV (p : PL) (id : Int) : Value := match firstOf (isID p id) p.k with | some i => if (p.a i).t.kind == 0 then .tuple #[.int .u64 ((p.a i).t.n : Int), .bool true] else .tuple #[.int .u64 0, .bool false] | none => .tuple #[.int .u64 0, .bool false]
def strV (p : PL) (id : Int) : Value := match firstOf (isID p id) p.k with | some i => if (p.a i).t.kind == 2 then .tuple #[str (p.a i).t.s, .bool true] else .tuple #[str [], .bool false] | none => .tuple #[str [], .bool false]
set_option maxRecDepth 20000 in
set_option maxHeartbeats 1600000 in
theorem aNum_any (p : PL) (id : Int) (hk : p.k < 4611686018427387904) (A : Option Addr) (c : Nat) (w : World) (h : PsL w anyQ A p) : Calls Try.prog 12 #[.slice A p.k c, .int .i64 id] w (Ret (numV p id) w) := by
  cases hf : firstOf (isID p id) p.k with
  | none =>
    have K := hid (value_none p id 0 hk A c w h hf)
    have HX : Hid (numV p id = .tuple #[.int .u64 0, .bool false]) := hid (by unfold numV; rw [hf])
    clear hk h hf
    go_enter Try.func12, Try.ntmps12
    go_wp2_with (go_at_call 40; refine K.out.mono ?_; rintro x w1 ⟨rfl, hb⟩; have H1 := hid hb; clear hb)
    refine bodyPost_ret (v := .tuple #[.int .u64 0, .bool false]) (by simp [results, Try.results12, go_sem]) rfl ?_
    exact Ret.mk (by rw [HX.out]) (H1.out.alloc _)
  | some i =>
    have K := hid (value_some p id 0 hk A c w h hf)
    cases hq : ((p.a i).t.kind == 0) with
    | true =>
      have HX : Hid (numV p id = .tuple #[.int .u64 ((p.a i).t.n : Int), .bool true]) := hid (by unfold numV; rw [hf]; dsimp only; rw [hq]; rfl)
      rw [hq] at K
      clear hk h hf hq
      go_enter Try.func12, Try.ntmps12
      go_wp2_with (go_at_call 40; refine K.out.mono ?_; rintro x w1 ⟨A1, c1, rfl, hb⟩; have H1 := hid hb; clear hb)
      refine bodyPost_ret (v := .tuple #[.int .u64 ((p.a i).t.n : Int), .bool true]) (by simp [results, Try.results12, go_sem]) rfl ?_
      exact Ret.mk (by rw [HX.out]) (H1.out.alloc _)
    | false =>
      have HX : Hid (numV p id = .tuple #[.int .u64 0, .bool false]) := hid (by unfold numV; rw [hf]; dsimp only; rw [hq]; rfl)
      rw [hq] at K
      clear hk h hf hq
      go_enter Try.func12, Try.ntmps12
      go_wp2_with (go_at_call 40; refine K.out.mono ?_; rintro x w1 ⟨A1, c1, rfl, hb⟩; have H1 := hid hb; clear hb)
      refine bodyPost_ret (v := .tuple #[.int .u64 0, .bool false]) (by simp [results, Try.results12, go_sem]) rfl ?_
      exact Ret.mk (by rw [HX.out]) (H1.out.alloc _)
set_option maxRecDepth 20000 in
set_option maxHeartbeats 1600000 in
theorem aStr_any (p : PL) (id : Int) (hk : p.k < 4611686018427387904) (A : Option Addr) (c : Nat) (w : World) (h : PsL w anyQ A p) : Calls Try.prog 13 #[.slice A p.k c, .int .i64 id] w (Ret (strV p id) w) := by
  cases hf : firstOf (isID p id) p.k with
  | none =>
    have K := hid (value_none p id 2 hk A c w h hf)
    have HX : Hid (strV p id = .tuple #[str [], .bool false]) := hid (by unfold strV; rw [hf])
    clear hk h hf
    go_enter Try.func13, Try.ntmps13
    go_wp2_with (go_at_call 40; refine K.out.mono ?_; rintro x w1 ⟨rfl, hb⟩; have H1 := hid hb; clear hb)
    refine bodyPost_ret (v := .tuple #[str [], .bool false]) (by simp [results, Try.results13, go_sem]) rfl ?_
    exact Ret.mk (by rw [HX.out]) (H1.out.alloc _)
  | some i =>
    have K := hid (value_some p id 2 hk A c w h hf)
    cases hq : ((p.a i).t.kind == 2) with
    | true =>
      have HX : Hid (strV p id = .tuple #[str (p.a i).t.s, .bool true]) := hid (by unfold strV; rw [hf]; dsimp only; rw [hq]; rfl)
      rw [hq] at K
      clear hk h hf hq
      go_enter Try.func13, Try.ntmps13
      go_wp2_with (go_at_call 40; refine K.out.mono ?_; rintro x w1 ⟨A1, c1, rfl, hb⟩; have H1 := hid hb; clear hb)
      refine bodyPost_ret (v := .tuple #[str (p.a i).t.s, .bool true]) (by simp [results, Try.results13, go_sem]) rfl ?_
      exact Ret.mk (by rw [HX.out]) (H1.out.alloc _)
    | false =>
      have HX : Hid (strV p id = .tuple #[str [], .bool false]) := hid (by unfold strV; rw [hf]; dsimp only; rw [hq]; rfl)
      rw [hq] at K
      clear hk h hf hq
      go_enter Try.func13, Try.ntmps13
      go_wp2_with (go_at_call 40; refine K.out.mono ?_; rintro x w1 ⟨A1, c1, rfl, hb⟩; have H1 := hid hb; clear hb)
      refine bodyPost_ret (v := .tuple #[str [], .bool false]) (by simp [results, Try.results13, go_sem]) rfl ?_
      exact Ret.mk (by rw [HX.out]) (H1.out.alloc _)
/-- A text of these pairs alone. -/
def parA (p : PL) : AV := ⟨0, fun _ => 0, 0, ⟨0, [], 0, 0⟩, p, 0, fun _ => p⟩
theorem parA_wf {p : PL} (hw : p.wf) : (parA p).wf := ⟨⟨by show (0 : Nat) < 4611686018427387904; omega, fun i hi => absurd hi (Nat.not_lt_zero _)⟩, by show _ ≤ (0 : Int) ∧ (0 : Int) ≤ _; omega, by show (0 : Nat) < 4611686018427387904; omega, hw, by show (0 : Nat) < 4611686018427387904; omega, fun i hi => absurd hi (Nat.not_lt_zero _)⟩
set_option maxRecDepth 20000 in
set_option maxHeartbeats 8000000 in
theorem asbValues_any (p : PL) (hw : p.wf) (id : Int) (A : Option Addr) (c : Nat) (w : World) (h : PsL w anyQ A p) : Calls Try.prog 3 #[.slice A p.k c, .int .i64 id] w (Ret (.bool true) w) := by
  have HE := hid ((Mod.refl [] w).alloc (.cells #[.slice none 0 0, .int .i64 0, .int .i64 0, str [], .int .u64 0, .int .u64 0, .slice A p.k c, .slice none 0 0] 29))
  have HB0 : Hid (Blk (w.alloc (.cells #[.slice none 0 0, .int .i64 0, .int .i64 0, str [], .int .u64 0, .int .u64 0, .slice A p.k c, .slice none 0 0] 29)) w.heap.size 29 #[.slice none 0 0, .int .i64 0, .int .i64 0, str [], .int .u64 0, .int .u64 0, .slice A p.k c, .slice none 0 0]) := hid (Blk.new _ _ _)
  have HL := hid (h.ext HE.out)
  have HW := hid hw
  go_enter Try.func3, Try.ntmps3
  go_upto_region 2 with fail
  show Code.wp _ _ _ _ (w.alloc (.cells #[.slice none 0 0, .int .i64 0, .int .i64 0, str [], .int .u64 0, .int .u64 0, .slice A p.k c, .slice none 0 0] 29))
  generalize w.alloc (.cells #[.slice none 0 0, .int .i64 0, .int .i64 0, str [], .int .u64 0, .int .u64 0, .slice A p.k c, .slice none 0 0] 29) = V at *
  have KF : Hid (∀ e : Later V, Calls Try.prog 11 #[.agg #[.slice none 0 0, .int .i64 0, .int .i64 0, str [], .int .u64 0, .int .u64 0, .slice A p.k c, .slice none 0 0]] e.x (Ret (.bool (fewA (parA p))) e.x)) := hid (fun e => few15_any (parA p) (parA_wf hw) ⟨none, 0, A, c, none, 0⟩ e.x ⟨fun h0 => absurd h0 (Nat.not_lt_zero _), fun _ _ _ h0 => trivial, HL.out.ext e.h, fun h0 => absurd h0 (Nat.not_lt_zero _)⟩)
  have KN := hid (fun e : Later V => aNum_any p id hw.1 A c e.x (HL.out.ext e.h))
  have KS := hid (fun e : Later V => aStr_any p id hw.1 A c e.x (HL.out.ext e.h))
  have k0 : (p.k : Int) < 4611686018427387904 := by have := hw.1; omega
  generalize fewA (parA p) = B at *
  clear hw h
  obtain ⟨e, he⟩ := Later.self V
  rw [he]
  clear he
  have tk1 : True := trivial
  cases B with
  | false =>
    go_wp2_with (first | (go_at_call 10; refine (Ret.later (awake15_any _)).mono ?_; rintro x _ ⟨rfl, e, rfl⟩) | (go_at_call 11; refine (Ret.later (KF.out _)).mono ?_; rintro x _ ⟨rfl, e, rfl⟩) | (go_at_call 12; refine (Ret.later (KN.out _)).mono ?_; rintro x _ ⟨rfl, e, rfl⟩) | (go_at_call 13; refine (Ret.later (KS.out _)).mono ?_; rintro x _ ⟨rfl, e, rfl⟩) | (clear tk1; refine wpList_row (by rfl) 29 _ rfl _ rfl (HB0.out.later _) Try.underlying29 rfl (by kernel_rfl) ?_))
    go_ret
    exact Ret.mk rfl (HE.out.trans e.h)
  | true =>
  cases hf : firstOf (isID p id) p.k with
  | none =>
    have KN0 : Hid (numV p id = .tuple #[.int .u64 0, .bool false]) := hid (by unfold numV; rw [hf])
    have KS0 : Hid (strV p id = .tuple #[str [], .bool false]) := hid (by unfold strV; rw [hf])
    rw [KN0.out] at KN
    rw [KS0.out] at KS
    clear KN0 KS0
    have HFO := hid hf
    clear hf
    go_upto_region 7 with (first | (go_at_call 10; refine (Ret.later (awake15_any _)).mono ?_; rintro x _ ⟨rfl, e, rfl⟩) | (go_at_call 11; refine (Ret.later (KF.out _)).mono ?_; rintro x _ ⟨rfl, e, rfl⟩) | (go_at_call 12; refine (Ret.later (KN.out _)).mono ?_; rintro x _ ⟨rfl, e, rfl⟩) | (go_at_call 13; refine (Ret.later (KS.out _)).mono ?_; rintro x _ ⟨rfl, e, rfl⟩) | (clear tk1; refine wpList_row (by rfl) 29 _ rfl _ rfl (HB0.out.later _) Try.underlying29 rfl (by kernel_rfl) ?_))
    go_loopw [10] (fun s10 wr => ∃ i : Nat, s10 = .int .i64 (i : Int) ∧ Hid (i ≤ p.k ∧ ∀ j, j < i → isID p id j = false) ∧ ∃ e : Later V, wr = e.x) (fun s10 _ => p.k - (intOf s10).toNat)
    case atStart => exact ⟨0, rfl, (show Hid _ from ⟨Nat.zero_le _, fun j hj => by omega⟩), e, rfl⟩
    case round =>
      clear e
      obtain ⟨i, rfl, hi, e, rfl⟩ := hrel
      have i0' : (0 : Int) ≤ (i : Int) := by omega
      by_cases hlt : i < p.k
      · obtain ⟨b, o, Ai, ci, rfl, hb, hat, hI⟩ := HL.out.at e.h hlt
        obtain ⟨q0, q1, q2, q3, q4⟩ := hat.five
        have qi := hat.1
        have tc : decide (i < p.k) = true := by simp [hlt]
        have i1 : (i : Int) < (p.k : Int) := by omega
        have HLT := hid hlt
        clear hlt hI hb hat
        cases hq : isID p id i with
        | true =>
          have h1 := firstOf_some HLT.out hq hi.out.2
          rw [HFO.out] at h1
          cases h1
        | false =>
          have HQ := hid hq
          have tq : ((p.a i).id == id) = false := hq
          have tq2 : ((p.a i).id = id) = False := by rw [beq_eq_false_iff_ne] at tq; exact eq_false tq
          clear hq
          go_wp2_with fail
          go_roundw
          case rel => exact ⟨i + 1, by go_num, (show Hid _ from ⟨HLT.out, fun j hj => by
            by_cases e : j = i
            · subst e; exact HQ.out
            · exact hi.out.2 j (by omega)⟩), e, rfl⟩
          case measure => have := HLT.out; simp [intOf]; omega
      · have tc : decide (i < p.k) = false := by simp [hlt]
        have i1 : ((i : Int) < (p.k : Int)) = False := eq_false (by omega)
        clear hlt
        go_wp2_with fail
        go_ret
        exact Ret.mk (by first | rfl | simp) (HE.out.trans e.h)
  | some i0 =>
    cases hq0 : ((p.a i0).t.kind == 0) with
    | true =>
      have hq2 : ((p.a i0).t.kind == 2) = false := by rw [beq_iff_eq] at hq0; rw [beq_eq_false_iff_ne]; omega
      have KN0 : Hid (numV p id = .tuple #[.int .u64 ((p.a i0).t.n : Int), .bool true]) := hid (by unfold numV; rw [hf]; dsimp only; rw [hq0]; rfl)
      have KS0 : Hid (strV p id = .tuple #[str [], .bool false]) := hid (by unfold strV; rw [hf]; dsimp only; rw [hq2]; rfl)
      rw [KN0.out] at KN
      rw [KS0.out] at KS
      clear KN0 KS0
      have HFO := hid hf
      clear hf
      have Q0 := hid hq0
      have Q2 := hid hq2
      clear hq0 hq2
      go_upto_region 7 with (first | (go_at_call 10; refine (Ret.later (awake15_any _)).mono ?_; rintro x _ ⟨rfl, e, rfl⟩) | (go_at_call 11; refine (Ret.later (KF.out _)).mono ?_; rintro x _ ⟨rfl, e, rfl⟩) | (go_at_call 12; refine (Ret.later (KN.out _)).mono ?_; rintro x _ ⟨rfl, e, rfl⟩) | (go_at_call 13; refine (Ret.later (KS.out _)).mono ?_; rintro x _ ⟨rfl, e, rfl⟩) | (clear tk1; refine wpList_row (by rfl) 29 _ rfl _ rfl (HB0.out.later _) Try.underlying29 rfl (by kernel_rfl) ?_))
      go_loopw [10] (fun s10 wr => ∃ i : Nat, s10 = .int .i64 (i : Int) ∧ Hid (i ≤ p.k ∧ ∀ j, j < i → isID p id j = false) ∧ ∃ e : Later V, wr = e.x) (fun s10 _ => p.k - (intOf s10).toNat)
      case atStart => exact ⟨0, rfl, (show Hid _ from ⟨Nat.zero_le _, fun j hj => by omega⟩), e, rfl⟩
      case round =>
        clear e
        obtain ⟨i, rfl, hi, e, rfl⟩ := hrel
        have i0' : (0 : Int) ≤ (i : Int) := by omega
        by_cases hlt : i < p.k
        · obtain ⟨b, o, Ai, ci, rfl, hb, hat, hI⟩ := HL.out.at e.h hlt
          obtain ⟨q0, q1, q2, q3, q4⟩ := hat.five
          have qi := hat.1
          have tc : decide (i < p.k) = true := by simp [hlt]
          have i1 : (i : Int) < (p.k : Int) := by omega
          have HLT := hid hlt
          clear hlt hI hb hat
          cases hq : isID p id i with
          | true =>
            obtain rfl : i = i0 := by
              have h1 := firstOf_some HLT.out hq hi.out.2
              rw [HFO.out] at h1
              exact (Option.some.inj h1).symm
            have tq : ((p.a i).id == id) = true := hq
            have tq2 : ((p.a i).id = id) = True := by rw [beq_iff_eq] at tq; exact eq_true tq
            clear hq
            have hh := Q0.out
            rw [beq_iff_eq] at hh
            have kaa : (((p.a i).t.kind) == (0)) = true := by rw [beq_iff_eq]; exact hh
            have kab : (((p.a i).t.kind) = (0)) = True := eq_true (by exact hh)
            have kac : (((p.a i).t.kind) != (0)) = false := by rw [bne_eq_false_iff_eq]; exact hh
            clear hh
            have hh := Q2.out
            rw [beq_eq_false_iff_ne] at hh
            have kba : (((p.a i).t.kind) == (2)) = false := by rw [beq_eq_false_iff_ne]; exact hh
            have kbb : (((p.a i).t.kind) = (2)) = False := eq_false (by exact hh)
            have kbc : (((p.a i).t.kind) != (2)) = true := by rw [bne_iff_ne]; exact hh
            clear hh
            generalize (p.a i).t.n = n at *
            generalize (p.a i).t.s = s at *
            generalize (p.a i).t.kind = kd at *
            go_wp2_with fail
            go_ret
            exact Ret.mk (by first | rfl | simp) ((HE.out.trans e.h).alloc _)
          | false =>
            have HQ := hid hq
            have tq : ((p.a i).id == id) = false := hq
            have tq2 : ((p.a i).id = id) = False := by rw [beq_eq_false_iff_ne] at tq; exact eq_false tq
            clear hq
            go_wp2_with fail
            go_roundw
            case rel => exact ⟨i + 1, by go_num, (show Hid _ from ⟨HLT.out, fun j hj => by
              by_cases e : j = i
              · subst e; exact HQ.out
              · exact hi.out.2 j (by omega)⟩), e, rfl⟩
            case measure => have := HLT.out; simp [intOf]; omega
        · exfalso
          have := firstOf_spec HFO.out
          have h1 := hi.out.2 i0 (by have := hi.out.1; omega)
          rw [this.2.1] at h1
          cases h1
    | false =>
      cases hq2 : ((p.a i0).t.kind == 2) with
      | true =>
        have KN0 : Hid (numV p id = .tuple #[.int .u64 0, .bool false]) := hid (by unfold numV; rw [hf]; dsimp only; rw [hq0]; rfl)
        have KS0 : Hid (strV p id = .tuple #[str (p.a i0).t.s, .bool true]) := hid (by unfold strV; rw [hf]; dsimp only; rw [hq2]; rfl)
        rw [KN0.out] at KN
        rw [KS0.out] at KS
        clear KN0 KS0
        have HFO := hid hf
        clear hf
        have Q0 := hid hq0
        have Q2 := hid hq2
        clear hq0 hq2
        go_upto_region 7 with (first | (go_at_call 10; refine (Ret.later (awake15_any _)).mono ?_; rintro x _ ⟨rfl, e, rfl⟩) | (go_at_call 11; refine (Ret.later (KF.out _)).mono ?_; rintro x _ ⟨rfl, e, rfl⟩) | (go_at_call 12; refine (Ret.later (KN.out _)).mono ?_; rintro x _ ⟨rfl, e, rfl⟩) | (go_at_call 13; refine (Ret.later (KS.out _)).mono ?_; rintro x _ ⟨rfl, e, rfl⟩) | (clear tk1; refine wpList_row (by rfl) 29 _ rfl _ rfl (HB0.out.later _) Try.underlying29 rfl (by kernel_rfl) ?_))
        go_loopw [10] (fun s10 wr => ∃ i : Nat, s10 = .int .i64 (i : Int) ∧ Hid (i ≤ p.k ∧ ∀ j, j < i → isID p id j = false) ∧ ∃ e : Later V, wr = e.x) (fun s10 _ => p.k - (intOf s10).toNat)
        case atStart => exact ⟨0, rfl, (show Hid _ from ⟨Nat.zero_le _, fun j hj => by omega⟩), e, rfl⟩
        case round =>
          clear e
          obtain ⟨i, rfl, hi, e, rfl⟩ := hrel
          have i0' : (0 : Int) ≤ (i : Int) := by omega
          by_cases hlt : i < p.k
          · obtain ⟨b, o, Ai, ci, rfl, hb, hat, hI⟩ := HL.out.at e.h hlt
            obtain ⟨q0, q1, q2, q3, q4⟩ := hat.five
            have qi := hat.1
            have tc : decide (i < p.k) = true := by simp [hlt]
            have i1 : (i : Int) < (p.k : Int) := by omega
            have HLT := hid hlt
            clear hlt hI hb hat
            cases hq : isID p id i with
            | true =>
              obtain rfl : i = i0 := by
                have h1 := firstOf_some HLT.out hq hi.out.2
                rw [HFO.out] at h1
                exact (Option.some.inj h1).symm
              have tq : ((p.a i).id == id) = true := hq
              have tq2 : ((p.a i).id = id) = True := by rw [beq_iff_eq] at tq; exact eq_true tq
              clear hq
              have hh := Q0.out
              rw [beq_eq_false_iff_ne] at hh
              have kaa : (((p.a i).t.kind) == (0)) = false := by rw [beq_eq_false_iff_ne]; exact hh
              have kab : (((p.a i).t.kind) = (0)) = False := eq_false (by exact hh)
              have kac : (((p.a i).t.kind) != (0)) = true := by rw [bne_iff_ne]; exact hh
              clear hh
              have hh := Q2.out
              rw [beq_iff_eq] at hh
              have kba : (((p.a i).t.kind) == (2)) = true := by rw [beq_iff_eq]; exact hh
              have kbb : (((p.a i).t.kind) = (2)) = True := eq_true (by exact hh)
              have kbc : (((p.a i).t.kind) != (2)) = false := by rw [bne_eq_false_iff_eq]; exact hh
              clear hh
              generalize (p.a i).t.n = n at *
              generalize (p.a i).t.s = s at *
              generalize (p.a i).t.kind = kd at *
              go_wp2_with fail
              go_ret
              exact Ret.mk (by first | rfl | simp) ((HE.out.trans e.h).alloc _)
            | false =>
              have HQ := hid hq
              have tq : ((p.a i).id == id) = false := hq
              have tq2 : ((p.a i).id = id) = False := by rw [beq_eq_false_iff_ne] at tq; exact eq_false tq
              clear hq
              go_wp2_with fail
              go_roundw
              case rel => exact ⟨i + 1, by go_num, (show Hid _ from ⟨HLT.out, fun j hj => by
                by_cases e : j = i
                · subst e; exact HQ.out
                · exact hi.out.2 j (by omega)⟩), e, rfl⟩
              case measure => have := HLT.out; simp [intOf]; omega
          · exfalso
            have := firstOf_spec HFO.out
            have h1 := hi.out.2 i0 (by have := hi.out.1; omega)
            rw [this.2.1] at h1
            cases h1
      | false =>
        have KN0 : Hid (numV p id = .tuple #[.int .u64 0, .bool false]) := hid (by unfold numV; rw [hf]; dsimp only; rw [hq0]; rfl)
        have KS0 : Hid (strV p id = .tuple #[str [], .bool false]) := hid (by unfold strV; rw [hf]; dsimp only; rw [hq2]; rfl)
        rw [KN0.out] at KN
        rw [KS0.out] at KS
        clear KN0 KS0
        have HFO := hid hf
        clear hf
        have Q0 := hid hq0
        have Q2 := hid hq2
        clear hq0 hq2
        go_upto_region 7 with (first | (go_at_call 10; refine (Ret.later (awake15_any _)).mono ?_; rintro x _ ⟨rfl, e, rfl⟩) | (go_at_call 11; refine (Ret.later (KF.out _)).mono ?_; rintro x _ ⟨rfl, e, rfl⟩) | (go_at_call 12; refine (Ret.later (KN.out _)).mono ?_; rintro x _ ⟨rfl, e, rfl⟩) | (go_at_call 13; refine (Ret.later (KS.out _)).mono ?_; rintro x _ ⟨rfl, e, rfl⟩) | (clear tk1; refine wpList_row (by rfl) 29 _ rfl _ rfl (HB0.out.later _) Try.underlying29 rfl (by kernel_rfl) ?_))
        go_loopw [10] (fun s10 wr => ∃ i : Nat, s10 = .int .i64 (i : Int) ∧ Hid (i ≤ p.k ∧ ∀ j, j < i → isID p id j = false) ∧ ∃ e : Later V, wr = e.x) (fun s10 _ => p.k - (intOf s10).toNat)
        case atStart => exact ⟨0, rfl, (show Hid _ from ⟨Nat.zero_le _, fun j hj => by omega⟩), e, rfl⟩
        case round =>
          clear e
          obtain ⟨i, rfl, hi, e, rfl⟩ := hrel
          have i0' : (0 : Int) ≤ (i : Int) := by omega
          by_cases hlt : i < p.k
          · obtain ⟨b, o, Ai, ci, rfl, hb, hat, hI⟩ := HL.out.at e.h hlt
            obtain ⟨q0, q1, q2, q3, q4⟩ := hat.five
            have qi := hat.1
            have tc : decide (i < p.k) = true := by simp [hlt]
            have i1 : (i : Int) < (p.k : Int) := by omega
            have HLT := hid hlt
            clear hlt hI hb hat
            cases hq : isID p id i with
            | true =>
              obtain rfl : i = i0 := by
                have h1 := firstOf_some HLT.out hq hi.out.2
                rw [HFO.out] at h1
                exact (Option.some.inj h1).symm
              have tq : ((p.a i).id == id) = true := hq
              have tq2 : ((p.a i).id = id) = True := by rw [beq_iff_eq] at tq; exact eq_true tq
              clear hq
              have hh := Q0.out
              rw [beq_eq_false_iff_ne] at hh
              have kaa : (((p.a i).t.kind) == (0)) = false := by rw [beq_eq_false_iff_ne]; exact hh
              have kab : (((p.a i).t.kind) = (0)) = False := eq_false (by exact hh)
              have kac : (((p.a i).t.kind) != (0)) = true := by rw [bne_iff_ne]; exact hh
              clear hh
              have hh := Q2.out
              rw [beq_eq_false_iff_ne] at hh
              have kba : (((p.a i).t.kind) == (2)) = false := by rw [beq_eq_false_iff_ne]; exact hh
              have kbb : (((p.a i).t.kind) = (2)) = False := eq_false (by exact hh)
              have kbc : (((p.a i).t.kind) != (2)) = true := by rw [bne_iff_ne]; exact hh
              clear hh
              generalize (p.a i).t.n = n at *
              generalize (p.a i).t.s = s at *
              generalize (p.a i).t.kind = kd at *
              go_wp2_with fail
              go_ret
              exact Ret.mk (by first | rfl | simp) ((HE.out.trans e.h).alloc _)
            | false =>
              have HQ := hid hq
              have tq : ((p.a i).id == id) = false := hq
              have tq2 : ((p.a i).id = id) = False := by rw [beq_eq_false_iff_ne] at tq; exact eq_false tq
              clear hq
              go_wp2_with fail
              go_roundw
              case rel => exact ⟨i + 1, by go_num, (show Hid _ from ⟨HLT.out, fun j hj => by
                by_cases e : j = i
                · subst e; exact HQ.out
                · exact hi.out.2 j (by omega)⟩), e, rfl⟩
              case measure => have := HLT.out; simp [intOf]; omega
          · exfalso
            have := firstOf_spec HFO.out
            have h1 := hi.out.2 i0 (by have := hi.out.1; omega)
            rw [this.2.1] at h1
            cases h1
end Go.Proofs.Ytogjghmoankleaa
