/-
  The law KeysOnce: its walk.
-/
import Derived.Test.YtmcehdinkghlfaaKeys8
import Derived.Deep.AppendLies
namespace Go.Proofs.Ytmcehdinkghlfaa
open Go.RowKit Go.Shelf Go.Maps
set_option linter.unusedVariables false

/-- A slice of pairs of bytes that lies in memory. -/
def IsPairs (w : World) (A : Option Addr) (ps : List (Nat × Nat)) : Prop :=
  0 < ps.length → ∃ b o, A = some ⟨b, o, none⟩ ∧ b < w.heap.size ∧ ∀ i (h : i < ps.length), ps[i].1 < 256 ∧ ps[i].2 < 256 ∧
    w.cell? ⟨b, o + i * 2, none⟩ = some (.int .u8 (ps[i].1 : Int)) ∧ w.cell? ⟨b, o + i * 2 + 1, none⟩ = some (.int .u8 (ps[i].2 : Int))
theorem IsPairs.cells {w : World} {A : Option Addr} {zs : List (Nat × Nat)} (h : IsPairs w A zs) {S : List Nat} {W : World} (hW : Mod S w W) (hS : ∀ k, k ∈ S → w.heap.size ≤ k) {j : Nat} (hj : j < zs.length) :
    ∃ b o, A = some ⟨b, o, none⟩ ∧ zs[j].1 < 256 ∧ zs[j].2 < 256 ∧ W.cell? ⟨b, o + j * 2, none⟩ = some (.int .u8 (zs[j].1 : Int)) ∧ W.cell? ⟨b, o + j * 2 + 1, none⟩ = some (.int .u8 (zs[j].2 : Int)) := by
  obtain ⟨b, o, hA, hb, hc⟩ := h (by omega)
  obtain ⟨h1, h2, h3, h4⟩ := hc j hj
  have hn : b ∉ S := fun hm => by have := hS b hm; omega
  exact ⟨b, o, hA, h1, h2, by rw [hW.cell hb hn]; exact h3, by rw [hW.cell hb hn]; exact h4⟩

theorem infoStr : (Try.prog.info? 9).map (fun i => (i.zero, i.size, i.bytes)) = some (some (.string ⟨#[]⟩), 1, 16) := by kernel_rfl

def sel (a b : Nat) : Bool → Nat := fun t => if t then b else a

theorem Ext.of_mod {S : List Nat} {w w' : World} (h : Mod S w w') (hs : ∀ k, k ∈ S → w.heap.size ≤ k) : Ext w w' := h.new (fun k hk => .inr (hs k hk))

theorem may_of {node : Nat} {zs : List Key} (h : May 0 zs) (hn : node ≤ 4294967295) : May node zs := ⟨hn, h.2.1, h.2.2⟩

set_option maxRecDepth 20000 in
set_option maxHeartbeats 1600000 in
theorem keysOnce_go (n0 n1 : Nat) (A : Option Addr) (zs : List Key) (cap : Nat) (P : Option Addr) (ps : List (Nat × Nat)) (pcap : Nat) (hn0 : Hid (n0 ≤ 4294967295)) (hn1 : Hid (n1 ≤ 4294967295))
    (hA0 : Hid (A = none → zs = [] ∧ cap = 0)) (hcap : Hid (zs.length ≤ cap)) (h40 : Hid (¬ 40 < ps.length)) (hne : Hid (n0 ≠ n1)) (hz : Hid (zs.length ≠ 0)) (hmay : Hid (May 0 zs))
    (w : World) (hk : Hid (IsKeys w A zs)) (hp : Hid (IsPairs w P ps)) :
    Calls Try.prog 3 #[.agg #[.int .u32 (n0 : Int), .int .u32 (n1 : Int)], .slice A zs.length cap, .slice P ps.length pcap] w (Ret (.bool true) w) := by
  have t1 : decide (40 < (ps.length : Int)) = false := by have := h40.out; simp; omega
  have t2 : ((n0 : Int) == (n1 : Int)) = false := by have := hne.out; simp; omega
  have t3 : ((zs.length : Int) == 0) = false := by have := hz.out; simp; intro h; rw [h] at this; exact this rfl
  have t4 : (n0 = n1) = False := by simp; exact hne.out
  have t5 : (zs = []) = False := by simp; intro h; have := hz.out; rw [h] at this; exact this rfl
  have a0 : (0 : Int) ≤ (n0 : Int) := by omega
  have a1 : (n0 : Int) ≤ 4294967295 := by have := hn0.out; omega
  have b0 : (0 : Int) ≤ (n1 : Int) := by omega
  have b1 : (n1 : Int) ≤ 4294967295 := by have := hn1.out; omega
  have h12 : Hid (zs.length ≤ 8) := hmay.out.2.1
  have hl62 : Hid (zs.length < 4611686018427387904) := by have := h12.out; unfold Hid; omega
  go_enter Try.func3, Try.ntmps3
  go_wp2_with fail
  refine (awake20_any _).mono ?_; rintro e w1 ⟨rfl, hb1⟩
  have HB1 := hid (((Mod.refl [] w).alloc (.cells #[.int .u32 (n0 : Int), .int .u32 (n1 : Int)] 23)).trans hb1)
  have c0 : ∀ W, Ext w1 W → W.cell? ⟨w.heap.size, 0, none⟩ = some (.int .u32 (n0 : Int)) ∧ W.cell? ⟨w.heap.size, 1, none⟩ = some (.int .u32 (n1 : Int)) := fun W hW =>
    ⟨((hb1.trans hW).cell (by simp) (by simp)).trans (by simp [go_sem]), ((hb1.trans hW).cell (by simp) (by simp)).trans (by simp [go_sem])⟩
  have C := hid c0
  clear c0 hb1
  go_wp2_with fail
  refine (Few_any A zs cap _ (hk.out.ext HB1.out)).mono ?_; rintro e w2 ⟨few, rfl, _, hb2⟩
  have HB2 := hid (HB1.out.trans hb2)
  have HC2 := hid hb2
  clear hb2
  cases few
  · go_wp2_with fail
    refine (awake20_any _).mono ?_; rintro e w3 ⟨rfl, hb3⟩
    go_wp2_with fail
    go_ret
    exact Ret.mk rfl (HB2.out.trans hb3)
  · go_wp2_with fail
    refine (May_any 0 A zs cap hl62 _ (hk.out.ext HB2.out)).mono ?_; rintro e w3 ⟨b, rfl, hbm, hb3⟩
    obtain rfl : b = true := hbm.2 hmay.out
    have HB3 := hid (HB2.out.trans hb3)
    have HC3 := hid (HC2.out.trans hb3)
    clear hbm hb3
    obtain ⟨d0, d1⟩ := C.out _ HC3.out
    go_wp2_with fail
    refine (New_any n0 A zs cap hA0 hcap _ (hk.out.ext HB3.out)).mono ?_; rintro e w4 hp4
    obtain ⟨s0, m0, rfl, hE4, _, _, hst0⟩ := hp4.yesL (may_of hmay.out hn0.out)
    have HB4 := hid (HB3.out.trans hE4)
    have HC4 := hid (HC3.out.trans hE4)
    have HS0 := hid hst0
    have HE4 := hid hE4
    clear d0 d1 hp4 hE4 hst0
    obtain ⟨d0, d1⟩ := C.out _ HC4.out
    go_wp2_with fail
    refine (New_any n1 A zs cap hA0 hcap _ (hk.out.ext HB4.out)).mono ?_; rintro e w5 hp5
    obtain ⟨s1, m1, rfl, hE5, _, _, hst1⟩ := hp5.yesL (may_of hmay.out hn1.out)
    have HB5 := hid (HB4.out.trans hE5)
    have HS1 := hid hst1
    have HE5 := hid hE5
    clear d0 d1 hp5 hE5 hst1
    have hm0 := HS0.out.m_in
    have hm1 := HS1.out.m_in
    have z3 := HB3.out.size
    have z4 := HE4.out.size
    have z5 := HE5.out.size
    have HTWO : Hid (Two w3.heap.size w4.heap.size w5.heap.size (sel s0 s1) (sel m0 m1) (sel n0 n1) zs w5 0 (fun _ _ => 0)) := ⟨HS0.out.kept HE5.out (by simp), HS1.out⟩
    have hmw : Hid (∀ k, k ∈ [m0, m1] → w.heap.size ≤ k) := fun k hk => by simp at hk; rcases hk with rfl | rfl <;> omega
    have hm5 : Hid (∀ t, sel m0 m1 t < w5.heap.size) := fun t => by cases t <;> simp [sel] <;> omega
    obtain ⟨i0, hi, hz0, hz1, hz2⟩ := info_parts infoStr
    go_wp2_with fail
    go_loopw [11, 12] (fun s11 s12 wr => ∃ (i : Nat) (gA : Option Addr) (gcap : Nat), i ≤ ps.length ∧ s12 = .int .i64 (i : Int) ∧ s11 = .slice gA i gcap ∧ Mod [m0, m1] w5 wr ∧
      ∃ (gs : List (List UInt8)) (F : Bool → Int → Nat), Hid (Two w3.heap.size w4.heap.size w5.heap.size (sel s0 s1) (sel m0 m1) (sel n0 n1) zs wr i F ∧
      wr.ownsRow w5.heap.size 9 1 (.slice gA i gcap) i (gs.map str) ∧ gs.length = i ∧ Given (sel n0 n1) zs F gs ∧ ∀ t x, F t x ≤ i)) (fun _ i _ => ps.length - (intOf i).toNat)
    case atStart => exact ⟨0, none, 0, Nat.zero_le _, rfl, rfl, Mod.refl _ _, [], _, HTWO.out, World.ownsRow_nil _ _ _ _, rfl, fun g hg => by simp at hg, fun _ _ => Nat.le_refl _⟩
    case round =>
      obtain ⟨i, gA, gcap, hips, rfl, rfl, hM, gs, F, hH⟩ := hrel
      by_cases hlt : i < ps.length
      · obtain ⟨pb, po, rfl, hp0, hp1, e0, e1⟩ := hp.out.cells (W := wr) (S := [m0, m1]) ((Mod.of_ext HB5.out).trans hM) hmw.out hlt
        have HEW := hid (Ext.of_mod ((Mod.of_ext HB5.out).trans hM) hmw.out)
        generalize ps[i] = p at hp0 hp1 e0 e1
        obtain ⟨p0, p1⟩ := p
        simp only at hp0 hp1 e0 e1
        have hi1 : (0 : Int) ≤ (i : Int) := by omega
        have hi2 : (i : Int) < (ps.length : Int) := by omega
        have ti : decide (i < ps.length) = true := by simp [hlt]
        have hi40 : Hid (i < 40) := by have := h40.out; unfold Hid; omega
        obtain ⟨r, hr, hr2⟩ : ∃ r : Nat, (p0 : Int).tmod 2 = (r : Int) ∧ r < 2 := ⟨p0 % 2, by rw [Int.ofNat_tmod]; rfl, by omega⟩
        obtain ⟨q, hq, hq2⟩ : ∃ q : Nat, (p1 : Int).tmod (zs.length : Int) = (q : Int) ∧ q < zs.length := ⟨p1 % zs.length, by rw [Int.ofNat_tmod], Nat.mod_lt _ (by have := hz.out; omega)⟩
        obtain ⟨zb, zo, rfl, y0c, y1c⟩ := hk.out.cells HEW.out hq2
        have hgk := (hmay.out.2.2 q hq2).1
        have hgr := getR_at hmay.out hq2
        generalize hy : zs[q] = y at y0c y1c hgk hgr
        obtain ⟨y0, y1⟩ := y
        have HY := hid hy
        have HGR := hid hgr
        have HGK := hid hgk
        have hp3 : (p1 : Int) < 256 := by omega
        have hp4 : (p0 : Int) < 256 := by omega
        have hq3 : (0 : Int) ≤ (q : Int) := by omega
        have hq4 : (q : Int) < (zs.length : Int) := by omega
        have HLT := hid hlt
        clear hy hgr hgk hlt hp0 hp1
        go_upto_if 92 with fail
        go_cut [13] (fun s13 wx => (∃ t : Bool, s13 = .pointer (some ⟨sel s0 s1 t, 0, none⟩)) ∧ wx = wr)
        case first =>
          have : r = 0 ∨ r = 1 := by omega
          rcases this with rfl | rfl
          · go_wp2
            go_meet
            exact ⟨⟨false, rfl⟩, rfl⟩
          · go_wp2
            go_meet
            exact ⟨⟨true, rfl⟩, rfl⟩
        obtain ⟨⟨t, rfl⟩, rfl⟩ := hcut
        obtain ⟨hT, hown, hgl, hG, hF⟩ := hH.out
        obtain ⟨B, hB⟩ : ∃ B, B = be (sel n0 n1 t) 4 ++ be (F t y0 + 1) 8 := ⟨_, rfl⟩
        have hf40 := hF t y0
        have hnr : Hid (nonceR (sel n0 n1 t) zs (F t) y0 = (B, 0)) := by
          have := hi40.out
          unfold nonceR Hid
          rw [HGR.out, if_neg (by simp), if_neg (by omega), hB]
        have hnf : Hid (nonceF zs (F t) y0 = upd (F t) y0) := by
          have := hi40.out
          unfold nonceF Hid
          rw [HGR.out, if_neg (by simp), if_neg (by omega)]
        have hnodes : Hid (∀ t, sel n0 n1 t ≤ 4294967295) := fun t => by have := hn0.out; have := hn1.out; cases t <;> simp [sel] <;> omega
        have hnne : Hid (sel n0 n1 false ≠ sel n0 n1 true) := by unfold Hid; simpa [sel] using hne.out
        have hBl : B.length = 12 := by rw [hB]; simp [be_length]
        obtain ⟨one, hone⟩ : ∃ o, o = B ++ y1 := ⟨_, rfl⟩
        have hw5 := hM.size
        have hmt := hm5.out t
        have hyy := HGK.out
        have hfresh : Hid (∀ g ∈ gs, g ≠ one) := by
          have := given_new hmay.out hnne.out hnodes.out hG hq2 (t := t) (by rw [HY.out]; have := hi40.out; show F t y0 + 1 < 2 ^ 64; omega)
          rw [HY.out, ← hB, ← hone] at this
          exact this
        have hG2 : Hid (Given (sel n0 n1) zs (updT F t (upd (F t) y0)) (gs ++ [one])) := by
          have := given_add hG hq2 (t := t) (by rw [HY.out]; have := hi40.out; show F t y0 + 1 < 2 ^ 64; omega)
          rw [HY.out, ← hB, ← hone] at this
          exact this
        have hF2 : Hid (∀ t' y, updT F t (upd (F t) y0) t' y ≤ i + 1) := F_le hF t y0
        have hT2 := hT.kept (by omega) ((Mod.refl [] wc).alloc (.cells #[.int .i64 y0, .string ⟨y1.toArray⟩] 37)) (by simp)
        have hown2 := hown.alloc (.cells #[.int .i64 y0, .string ⟨y1.toArray⟩] 37)
        have HT2 := hid hT2; have HO2 := hid hown2; have HM := hid hM; have HGL := hid hgl
        have HYL : Hid (y1.length ≤ 64) := hyy.2.2.2
        have hyi : Hid (InI y0) := by have h1 := hyy.1; have h2 := hyy.2.1; unfold InI Hid; simp only at h1 h2; omega
        have hno : (9223372036854775807 < B.length + y1.length) = False := by have := HYL.out; rw [hBl]; simp; omega
        have hBi : (B.length : Int) = 12 := by rw [hBl]; rfl
        have HONE := hid hone
        clear hT hown hG hF hT2 hown2 hH hone hM hgl hB hf40 hyy HGR hBl
        go_wp2_with fail
        refine (nonce_two (N0 := w3.heap.size) (N1 := w4.heap.size) (N2 := w5.heap.size) (by omega) (by omega) t y0 hyi.out (by have := hi40.out; omega) hnodes.out hl62.out _ HT2.out).mono ?_
        rintro e w6 ⟨rfl, hm6, hT6⟩
        rw [hnr.out]
        rw [hnf.out] at hT6
        have hnm : wc.heap.size ∉ [sel m0 m1 t] := by simp; omega
        have k0 : w6.cell? ⟨wc.heap.size, 0, none⟩ = some (.int .i64 y0) := (hm6.cell (by simp) hnm).trans (by simp [go_sem])
        have k1 : w6.cell? ⟨wc.heap.size, 1, none⟩ = some (str y1) := (hm6.cell (by simp) hnm).trans (by simp [go_sem])
        have hown6 : Hid (w6.ownsRow w5.heap.size 9 1 (.slice gA i gcap) i (gs.map str)) := HO2.out.kept (row := some (sel m0 m1 t)) ⟨hm6.os, hm6.tape, hm6.output, hm6.size, fun k hk hne => hm6.block k hk (by simpa using hne)⟩ (by
          cases h : (Value.slice gA i gcap).ownBlock with
          | none => exact .inl rfl
          | some k =>
            refine .inr fun e => ?_
            injection e with e
            subst e
            have := (HO2.out.lt _ h).1
            omega)
        have hM6 : Hid (Mod [m0, m1] w5 w6) := (HM.out.alloc _).trans (hm6.mono (fun k hk => by simp at hk; subst hk; cases t <;> simp [sel]))
        have HT6 := hid hT6
        have hs6 : w5.heap.size ≤ w6.heap.size := hM6.out.size
        clear hm6 hT6 e0 e1 y0c y1c
        go_upto_region 18 with fail
        go_cut [17] (fun s17 wx => s17 = str one ∧ wx = w6)
        case first =>
          go_wp2
          go_meet
          exact ⟨by rw [HONE.out, ← str_app], rfl⟩
        obtain ⟨rfl, rfl⟩ := hcut
        clear k0 k1 hno hBi
        go_wp2_with fail
        go_loopw [18] (fun s18 wr2 => ∃ j : Nat, j ≤ i ∧ s18 = .int .i64 (j : Int) ∧ wr2 = wc) (fun j _ => i - (intOf j).toNat)
        case atStart => exact ⟨0, Nat.zero_le _, rfl, rfl⟩
        case round =>
          obtain ⟨j, hj, rfl, rfl⟩ := hrel
          by_cases hji : j < i
          · have hgl := HGL.out
            obtain ⟨g, gc, hv, hgb, hglt⟩ := hown6.out.form (by omega)
            have hcell := hown6.out
            rw [hv] at hcell
            have hc := hcell.cellAt j (by omega)
            rw [List.getElem?_map, List.getElem?_eq_getElem (by omega : j < gs.length)] at hc
            simp only [Option.map_some] at hc
            simp only [Value.slice.injEq] at hv
            obtain ⟨rfl, _, rfl⟩ := hv
            have hfr : (gs[j] == one) = false := by simpa using hfresh.out gs[j] (List.getElem_mem _)
            generalize gs[j] = gj at hc hfr
            have hj1 : (0 : Int) ≤ (j : Int) := by omega
            have hj2 : (j : Int) < (i : Int) := by omega
            have tj : decide (j < i) = true := by simp [hji]
            have HJI := hid hji
            have hi63 : (i : Int) < 1000 := by have := hi40.out; omega
            clear hcell hji hgl
            go_wp2
            refine ⟨⟨j + 1, by have := HJI.out; omega, by simp, by trivial⟩, ?_⟩
            have := HJI.out
            simp only [intOf]
            omega
          · obtain rfl : j = i := by omega
            have tj : decide (j < j) = false := by simp
            have hown7 := hown6.out.alloc (.cells #[str one] 9)
            have hi63 : (j : Int) < 1000 := by have := hi40.out; omega
            go_wp2_with (at_builtin; refine wpList_append_own _ rfl _ _ 34 rfl w5.heap.size 9 i0 _ 1 16 Try.underlying34 hi hz0 hz1 hz2 rfl (by decide) _ _ _ rfl hown7 ⟨wr.heap.size, 0, none⟩ 1 1 [str one] rfl rfl (cell_one_new _ _ _) (by simp [Value.oneCell']) (by have := hi40.out; unfold maxLen; omega) (by have := hi40.out; omega) (by simp; omega) ?_; intro v' w7 hown8 hgrow hnil)
            have hg8 : (wr.alloc (.cells #[str one] 9)).grownBy w7 (Value.slice gA j gcap).ownBlock := hgrow
            have hS : ∃ S, Mod S (wr.alloc (.cells #[str one] 9)) w7 ∧ ∀ k, k ∈ S → w5.heap.size ≤ k := by
              cases hq : (Value.slice gA j gcap).ownBlock with
              | none =>
                rw [hq] at hg8
                exact ⟨[], (Mod.refl _ _).grown hg8 (fun k hk => by cases hk), by simp⟩
              | some k =>
                rw [hq] at hg8
                exact ⟨[k], (Mod.refl _ _).grown hg8 (fun k' hk => .inl (by cases hk; simp)), fun k' hk => by simp at hk; subst hk; exact (hown7.lt _ hq).1⟩
            obtain ⟨S, hS1, hS2⟩ := hS
            have hT8 := (HT6.out.kept (by omega) ((Mod.refl [] wr).alloc (.cells #[str one] 9)) (by simp)).kept (by omega) hS1 hS2
            have hM8 : Mod [m0, m1] w5 w7 := (hM6.out.alloc (.cells #[str one] 9)).grown hg8 (fun k hk => .inr (hown7.lt k hk).1)
            obtain ⟨g, gc, rfl, _, _⟩ := hown8.form (by omega)
            have hlt := HLT.out
            have hgl := HGL.out
            refine ⟨⟨j + 1, some ⟨g, 0, none⟩, gc, by omega, by simp, rfl, hM8, gs ++ [one], _, hT8, ?_, by simp [hgl], hG2.out, hF2.out⟩, ?_⟩
            · simpa using hown8
            · simp only [intOf]
              omega
      · obtain rfl : i = ps.length := by omega
        have tj : decide (ps.length < ps.length) = false := by simp
        go_wp2_with fail
        go_ret
        exact Ret.mk rfl (Ext.of_mod ((Mod.of_ext HB5.out).trans hM) hmw.out)

set_option maxRecDepth 20000 in
set_option maxHeartbeats 1600000 in
theorem keysOnce_early (n0 n1 : Nat) (A : Option Addr) (zs : List Key) (cap : Nat) (P : Option Addr) (ps : List (Nat × Nat)) (pcap : Nat)
    (hE : Hid (¬ May 0 zs ∨ 40 < ps.length ∨ n0 = n1 ∨ zs.length = 0)) (w : World) (hk : Hid (IsKeys w A zs)) :
    Calls Try.prog 3 #[.agg #[.int .u32 (n0 : Int), .int .u32 (n1 : Int)], .slice A zs.length cap, .slice P ps.length pcap] w (Ret (.bool true) w) := by
  go_enter Try.func3, Try.ntmps3
  go_wp2_with fail
  refine (awake20_any _).mono ?_; rintro e w1 ⟨rfl, hb1⟩
  have HB1 := hid (((Mod.refl [] w).alloc (.cells #[.int .u32 (n0 : Int), .int .u32 (n1 : Int)] 23)).trans hb1)
  have c0 : ∀ W, Ext w1 W → W.cell? ⟨w.heap.size, 0, none⟩ = some (.int .u32 (n0 : Int)) ∧ W.cell? ⟨w.heap.size, 1, none⟩ = some (.int .u32 (n1 : Int)) := fun W hW =>
    ⟨((hb1.trans hW).cell (by simp) (by simp)).trans (by simp [go_sem]), ((hb1.trans hW).cell (by simp) (by simp)).trans (by simp [go_sem])⟩
  have C := hid c0
  clear c0 hb1
  go_wp2_with fail
  refine (Few_any A zs cap _ (hk.out.ext HB1.out)).mono ?_; rintro e w2 ⟨few, rfl, hfew, hb2⟩
  have HB2 := hid (HB1.out.trans hb2)
  have HC2 := hid hb2
  clear hb2
  cases few
  · go_wp2_with fail
    refine (awake20_any _).mono ?_; rintro e w3 ⟨rfl, hb3⟩
    go_wp2_with fail
    go_ret
    exact Ret.mk rfl (HB2.out.trans hb3)
  · have h12 := hid (hfew rfl)
    clear hfew
    go_wp2_with fail
    refine (May_any 0 A zs cap (by have := h12.out; unfold Hid; omega) _ (hk.out.ext HB2.out)).mono ?_; rintro e w3 ⟨b, rfl, hbm, hb3⟩
    have HB3 := hid (HB2.out.trans hb3)
    have HC3 := hid (HC2.out.trans hb3)
    have HBM := hid hbm
    clear hbm hb3
    cases b
    · go_wp2_with fail
      refine (awake20_any _).mono ?_; rintro e w4 ⟨rfl, hb4⟩
      go_wp2_with fail
      go_ret
      exact Ret.mk rfl (HB3.out.trans hb4)
    · have hmay : May 0 zs := HBM.out.1 rfl
      obtain ⟨d0, d1⟩ := C.out _ HC3.out
      have HMAY := hid hmay
      clear hmay
      by_cases h40 : 40 < ps.length
      · have t1 : decide (40 < (ps.length : Int)) = true := by simp; omega
        have H40 := hid h40; clear h40
        go_wp2_with fail
        refine (awake20_any _).mono ?_; rintro e w4 ⟨rfl, hb4⟩
        go_wp2_with fail
        go_ret
        exact Ret.mk rfl (HB3.out.trans hb4)
      · have t1 : decide (40 < (ps.length : Int)) = false := by simp; omega
        have H40 := hid h40; clear h40
        by_cases hne : n0 = n1
        · subst hne
          go_wp2_with fail
          refine (awake20_any _).mono ?_; rintro e w4 ⟨rfl, hb4⟩
          go_wp2_with fail
          go_ret
          exact Ret.mk rfl (HB3.out.trans hb4)
        · have t4 : (n0 = n1) = False := by simp [hne]
          have t2 : ((n0 : Int) == (n1 : Int)) = false := by simp; omega
          have hz : zs.length = 0 := by
            rcases hE.out with h | h | h | h
            · exact absurd HMAY.out h
            · exact absurd h H40.out
            · exact absurd h hne
            · exact h
          obtain rfl : zs = [] := List.length_eq_zero_iff.1 hz
          clear hz hne
          go_wp2_with fail
          refine (awake20_any _).mono ?_; rintro e w4 ⟨rfl, hb4⟩
          go_wp2_with fail
          go_ret
          exact Ret.mk rfl (HB3.out.trans hb4)

theorem keysOnce_walk (n0 n1 : Nat) (A : Option Addr) (zs : List Key) (cap : Nat) (P : Option Addr) (ps : List (Nat × Nat)) (pcap : Nat) (hn0 : n0 ≤ 4294967295) (hn1 : n1 ≤ 4294967295)
    (hA0 : A = none → zs = [] ∧ cap = 0) (hcap : zs.length ≤ cap) (w : World) (hk : IsKeys w A zs) (hp : IsPairs w P ps) :
    Calls Try.prog 3 #[.agg #[.int .u32 (n0 : Int), .int .u32 (n1 : Int)], .slice A zs.length cap, .slice P ps.length pcap] w (Ret (.bool true) w) := by
  by_cases hE : ¬ May 0 zs ∨ 40 < ps.length ∨ n0 = n1 ∨ zs.length = 0
  · exact keysOnce_early n0 n1 A zs cap P ps pcap hE w hk
  · have h1 : May 0 zs := Classical.byContradiction fun h => hE (.inl h)
    exact keysOnce_go n0 n1 A zs cap P ps pcap hn0 hn1 hA0 hcap (fun h => hE (.inr (.inl h))) (fun h => hE (.inr (.inr (.inl h)))) (fun h => hE (.inr (.inr (.inr h)))) h1 w hk hp
end Go.Proofs.Ytmcehdinkghlfaa
