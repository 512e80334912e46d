/-
  The law KeysPlays: its walk.
-/
import Derived.Test.YtmcehdinkghlfaaKeys11
namespace Go.Proofs.Ytmcehdinkghlfaa
open Go.RowKit Go.Shelf Go.Maps
set_option linter.unusedVariables false

def blks (A : Option Addr) : List Nat := A.toList.map (·.block)

/-- A copy of the keys that the call made. -/
def Own (N : Nat) (wx : World) (oA : Option Addr) (ocap : Nat) (zs : List Key) : Prop :=
  IsKeys wx oA zs ∧ zs.length ≤ ocap ∧ (oA = none → zs = [] ∧ ocap = 0) ∧ (∀ k, k ∈ blks oA → N ≤ k ∧ k < wx.heap.size) ∧
    (0 < zs.length → ∃ g cs, oA = some ⟨g, 0, none⟩ ∧ Blk wx g 37 cs ∧ zs.length * 2 ≤ cs.size)

theorem own_of {N : Nat} {wx : World} {v : Value} {zs : List Key} (h : wx.ownsRow N 37 2 v zs.length (flat zs)) : ∃ oA ocap, v = .slice oA zs.length ocap ∧ Own N wx oA ocap zs := by
  rcases h.2 with ⟨rfl, h0⟩ | ⟨g, cp, cur, rfl, hbg, hgb, hc1, hc2, hc3, hc4⟩
  · refine ⟨none, 0, by rw [h0], fun h => by omega, by omega, fun _ => ⟨List.length_eq_zero_iff.1 h0, rfl⟩, by simp [blks], fun h => by omega⟩
  · have hlt : g < wx.heap.size := Blk.lt (w := wx) (cs := cur) (t := 37) hgb
    refine ⟨some ⟨g, 0, none⟩, cp, rfl, fun h0 => ⟨g, 0, rfl, hlt, fun i hi => ?_⟩, hc1, fun h => (by cases h), fun k hk => ?_, fun h0 => ⟨g, cur, rfl, hgb, by rw [hc3]; exact Nat.mul_le_mul_right _ hc1⟩⟩
    · obtain ⟨g1, g2⟩ := flat_get zs i hi
      have c1 := h.cells (g := g) rfl _ _ g1
      have c2 := h.cells (g := g) rfl _ _ g2
      rw [addr_add] at c1 c2
      exact ⟨c1, by rw [show 0 + i * 2 + 1 = 0 + (i * 2 + 1) from by omega]; exact c2⟩
    · simp [blks] at hk
      subst hk
      exact ⟨hbg, hlt⟩

theorem IsInts.keep {w w' : World} {A : Option Addr} {xs : List Int} {S : List Nat} (h : IsInts w A xs) (hm : Mod S w w') (hs : ∀ b o, A = some ⟨b, o, none⟩ → 0 < xs.length → b ∉ S) : IsInts w' A xs := fun h0 => by
  obtain ⟨b, o, hA, hb, hc⟩ := h h0
  exact ⟨b, o, hA, Nat.lt_of_lt_of_le hb hm.size, fun i hi => by rw [hm.cell hb (hs b o hA h0)]; exact hc i hi⟩
theorem IsInts.not_map {w : World} {A : Option Addr} {xs : List Int} {m : Nat} (h : IsInts w A xs) {es : Array MapEntry} {c : Nat} (hm : w.heap[m]? = some (.map es c)) : ∀ b o, A = some ⟨b, o, none⟩ → 0 < xs.length → b ≠ m := by
  intro b o hA h0 e
  obtain ⟨b', o', hA', _, hc⟩ := h h0
  obtain ⟨rfl, rfl⟩ : b = b' ∧ o = o' := by rw [hA] at hA'; simpa using hA'
  have := hc 0 h0
  subst e
  simp [World.cell?, hm] at this
theorem IsInts.not_store {w : World} {A : Option Addr} {xs : List Int} {P : Nat} {node : Nat} {a b : Value} (h : IsInts w A xs) (hP : Blk w P 43 #[.int .u64 (node : Int), a, b]) (ha : ∀ x, a ≠ .int .i64 x) (hb : ∀ x, b ≠ .int .i64 x) : ∀ c o, A = some ⟨c, o, none⟩ → 0 < xs.length → c ≠ P := by
  intro c o hA h0 e
  obtain ⟨c', o', hA', _, hc⟩ := h h0
  obtain ⟨rfl, rfl⟩ : c = c' ∧ o = o' := by rw [hA] at hA'; simpa using hA'
  have := hc 0 h0
  subst e
  rw [hP.cell] at this
  match o, this with
  | 0, this => simp at this
  | 1, this => simp at this; exact ha _ this
  | 2, this => simp at this; exact hb _ this
  | o + 3, this => simp at this
theorem StL.is_map {lo hi : Nat} {w : World} {s m c node : Nat} {zs : List Key} {f : Int → Nat} (h : StL lo hi w s m c node zs f) : ∃ es cl, w.heap[m]? = some (.map es cl) := by
  obtain ⟨A, cap, _, _, _, _, ⟨D, ⟨es, cl, h1, _⟩, _⟩, _⟩ := h
  exact ⟨es, cl, h1⟩

set_option maxRecDepth 20000 in
set_option maxHeartbeats 1600000 in
theorem keysPlays_go (node : Nat) (A : Option Addr) (zs : List Key) (cap : Nat) (I : Option Addr) (ids : List Int) (icap : Nat) (hnode : Hid (node ≤ 4294967295))
    (hA0 : Hid (A = none → zs = [] ∧ cap = 0)) (hcap : Hid (zs.length ≤ cap)) (h40 : Hid (¬ 40 < ids.length)) (hmay : Hid (May node zs)) (hids : Hid (∀ x ∈ ids, InI x))
    (w : World) (hk : Hid (IsKeys w A zs)) (hI : Hid (IsInts w I ids)) :
    Calls Try.prog 5 #[.int .u32 (node : Int), .slice A zs.length cap, .slice I ids.length icap] w (Ret (.bool true) w) := by
  have t1 : decide (40 < (ids.length : Int)) = false := by have := h40.out; simp; omega
  have a0 : (0 : Int) ≤ (node : Int) := by omega
  have a1 : (node : Int) ≤ 4294967295 := by have := hnode.out; omega
  have h12 : Hid (zs.length ≤ 8) := hmay.out.2.1
  have hl62 : Hid (zs.length < 4611686018427387904) := by have := h12.out; unfold Hid; omega
  go_enter Try.func5, Try.ntmps5
  go_wp2_with fail
  refine (awake20_any _).mono ?_; rintro e w1 ⟨rfl, hb1⟩
  go_wp2_with fail
  refine (Few_any A zs cap _ (hk.out.ext hb1)).mono ?_; rintro e w2 ⟨few, rfl, _, hb2⟩
  have HB2 := hid (hb1.trans hb2)
  clear hb1 hb2
  cases few
  · go_wp2_with fail
    refine (awake20_any _).mono ?_; rintro e w3 ⟨rfl, hb3⟩
    go_wp2_with fail
    go_ret
    exact Ret.mk rfl (HB2.out.trans hb3)
  · go_wp2_with fail
    refine (May_any node A zs cap hl62 _ (hk.out.ext HB2.out)).mono ?_; rintro e w3 ⟨b, rfl, hbm, hb3⟩
    obtain rfl : b = true := hbm.2 hmay.out
    have HB3 := hid (HB2.out.trans hb3)
    clear hbm hb3
    go_upto_region 4 with fail
    go_cut [7] (fun s7 wx => ∃ oA ocap, s7 = .slice oA zs.length ocap ∧ Ext w3 wx ∧ Own w3.heap.size wx oA ocap zs)
    case first =>
      obtain ⟨i0, hi, hz0, hz1, hz2⟩ := info_parts infoKey
      have hl := World.ownsRow_nil w3 w3.heap.size 37 2
      cases A with
      | none =>
        obtain ⟨hx0, hg0⟩ := hA0.out rfl
        subst hx0 hg0
        have hap := run_append_owned_none (P := Try.prog) w3 w3.heap.size 24 24 37 i0 2 Try.underlying24 hi _ 0 [] hl
        simp only [List.length_nil]
        go_wp2
        go_meet
        exact ⟨none, 0, rfl, Mod.refl _ _, fun h => absurd h (by simp), Nat.le_refl _, fun _ => ⟨rfl, rfl⟩, by simp [blks], fun h => absurd h (by simp)⟩
      | some a =>
        have hnews := hid ((hk.out.ext HB3.out).news)
        have hfl := hid (flat_length zs)
        have hfc := hid (flat_cell zs)
        go_wp2_with (at_builtin; refine wpList_append_own _ rfl _ _ 24 rfl w3.heap.size 37 i0 _ 2 24 Try.underlying24 hi hz0 hz1 hz2 rfl (by decide) _ _ _ rfl hl a zs.length cap (flat zs) rfl hfl.out hnews.out hfc.out (by have := h12.out; unfold maxLen; omega) (by have := h12.out; omega) (by simp) ?_; intro v' wy hown' hgrow hnil)
        have hm : Ext w3 wy := (Mod.refl [] w3).grown hgrow (fun k hk => by cases hk)
        obtain ⟨oA, ocap, rfl, hO⟩ := own_of (by simpa using hown')
        go_meet
        exact ⟨oA, ocap, rfl, hm, hO⟩
    obtain ⟨oA, ocap, rfl, hb4, hO⟩ := hcut
    have HB4 := hid (HB3.out.trans hb4)
    have HO := hid hO
    have z3 := HB3.out.size
    have z4 := hb4.size
    clear hb4 hO
    go_wp2_with fail
    refine (New_any node oA zs ocap HO.out.2.2.1 HO.out.2.1 _ HO.out.1).mono ?_; rintro e w5 hp5
    obtain ⟨s, m, rfl, hE5, _, _, hst⟩ := hp5.yesL hmay.out
    have HS := hid hst
    have HE5 := hid hE5
    have z5 := hE5.size
    have hOB : Hid (0 < zs.length → ∃ g cs, oA = some ⟨g, 0, none⟩ ∧ Blk w5 g 37 cs ∧ zs.length * 2 ≤ cs.size) := fun h0 => by
      obtain ⟨g, cs, h1, h2, h3⟩ := HO.out.2.2.2.2 h0
      exact ⟨g, cs, h1, h2.ext hE5, h3⟩
    clear hp5 hE5 hst
    go_wp2_with fail
    go_loopw [10] (fun s10 wr => ∃ i : Nat, i ≤ zs.length ∧ s10 = .int .i64 (i : Int) ∧ Mod (blks oA) w5 wr ∧ Hid (0 < zs.length → ∃ g cs, oA = some ⟨g, 0, none⟩ ∧ Blk wr g 37 cs ∧ zs.length * 2 ≤ cs.size)) (fun i _ => zs.length - (intOf i).toNat)
    case atStart => exact ⟨0, Nat.zero_le _, rfl, Mod.refl _ _, hOB.out⟩
    case round =>
      obtain ⟨i, hi, rfl, hM, hob⟩ := hrel
      by_cases hlt : i < zs.length
      · obtain ⟨g, cs, rfl, hblk, hcs⟩ := hob.out (by omega)
        have hi1 : (0 : Int) ≤ (i : Int) := by omega
        have hi2 : (i : Int) < (zs.length : Int) := by omega
        have hi3 : (zs.length : Int) ≤ 8 := by have := h12.out; omega
        have ti : decide (i < zs.length) = true := by simp [hlt]
        obtain ⟨v0, hv0⟩ : ∃ v, cs[i * 2]? = some v := ⟨_, Array.getElem?_eq_getElem (by omega)⟩
        obtain ⟨v1, hv1⟩ : ∃ v, cs[i * 2 + 1]? = some v := ⟨_, Array.getElem?_eq_getElem (by omega)⟩
        have k0 : wr.cell? ⟨g, i * 2, none⟩ = some v0 := (hblk.cell _).trans hv0
        have k1 : wr.cell? ⟨g, i * 2 + 1, none⟩ = some v1 := (hblk.cell _).trans hv1
        have z0 := hblk.frozen
        have HM := hid hM; have HBK := hid hblk; have HCS := hid hcs; have HLT := hid hlt
        clear hM hblk hcs hv0 hv1 hlt
        go_wp2_with fail
        have hlt := HLT.out
        refine ⟨⟨i + 1, by omega, by simp, (HM.out.setCell (.inl (by simp [blks])) _).setCell (.inl (by simp [blks])) _, fun _ => ⟨g, _, rfl, (HBK.out.set_ _ _).set_ _ _, by have := HCS.out; simpa using this⟩⟩, ?_⟩
        simp only [intOf]
        omega
      · obtain rfl : i = zs.length := by omega
        have ti : decide (zs.length < zs.length) = false := by simp
        have hbl : ∀ k, k ∈ blks oA → w3.heap.size ≤ k ∧ k < wc.heap.size := HO.out.2.2.2.1
        have HW : Hid (Ext w wr) := Ext.of_mod ((Mod.of_ext (HB4.out.trans HE5.out)).trans hM) (fun k hk => by have := (hbl k hk).1; omega)
        have hSL : StL wc.heap.size w5.heap.size wr s m 0 node zs (cnt []) := HS.out.kept hM (fun k hk hh => by have := (hbl k hk).2; omega)
        have HSL := hid (hSL.kept ((Mod.refl [] wr).alloc (.cells #[.int .u64 (node : Int), .slice A zs.length cap, .slice none 0 0] 43)) (by simp))
        have hm5 := HS.out.m_in
        have z6 := hM.size
        have hms : Hid (w.heap.size ≤ m) := by have := HB4.out.size; unfold Hid; omega
        have HWA := hid (HW.out.alloc (.cells #[.int .u64 (node : Int), .slice A zs.length cap, .slice none 0 0] 43))
        have HBW : Hid (Blk (wr.alloc (.cells #[.int .u64 (node : Int), .slice A zs.length cap, .slice none 0 0] 43)) wr.heap.size 43 #[.int .u64 (node : Int), .slice A zs.length cap, .slice none 0 0]) := Blk.new _ _ _
        have hwp : Hid (w.heap.size ≤ wr.heap.size) := HW.out.size
        clear hob hSL hM
        go_wp2_with fail
        have hPN : Hid (w5.heap.size ≤ wr.heap.size) := z6
        have hNN : Hid (wc.heap.size ≤ w5.heap.size) := z5
        generalize hN1 : wc.heap.size = N1 at *
        generalize hN2 : w5.heap.size = N2 at *
        generalize hP : wr.heap.size = P at *
        clear hP hN1 hN2
        go_loopw [12] (fun s12 wx => ∃ i : Nat, i ≤ ids.length ∧ s12 = .int .i64 (i : Int) ∧ ∃ (xs : List Int) (gA : Option Addr) (gc : Nat), Hid (Ext w wx ∧ Blk wx P 43 #[.int .u64 (node : Int), .slice A zs.length cap, .slice gA xs.length gc] ∧ IsInts wx gA xs ∧ (gA = none → xs = [] ∧ gc = 0) ∧ StL N1 N2 wx s m i node zs (cnt xs) ∧ xs.length ≤ i)) (fun i _ => ids.length - (intOf i).toNat)
        case atStart => exact ⟨0, Nat.zero_le _, rfl, [], none, 0, HWA.out, HBW.out, fun h => absurd h (by simp), fun _ => ⟨rfl, rfl⟩, HSL.out, by simp⟩
        case round =>
          obtain ⟨i, hi, rfl, xs, gA, gc, hH⟩ := hrel
          by_cases hlt : i < ids.length
          · obtain ⟨ib, io, rfl, k0⟩ := hI.out.cells (W := wr) (S := []) hH.out.1 (by simp) hlt
            have hin := hid (hids.out _ (List.getElem_mem hlt))
            have HIC : Hid (∀ W, Ext w W → W.cell? ⟨ib, io + i, none⟩ = some (.int .i64 ids[i])) := fun W hW => by
              obtain ⟨b', o', hA', hc⟩ := hI.out.cells (W := W) (S := []) hW (by simp) hlt
              obtain ⟨rfl, rfl⟩ : ib = b' ∧ io = o' := by simpa using hA'
              exact hc
            generalize ids[i] = id at k0 hin HIC
            have hi1 : (0 : Int) ≤ (i : Int) := by omega
            have hi2 : (i : Int) < (ids.length : Int) := by omega
            have ti : decide (i < ids.length) = true := by simp [hlt]
            have hi40 : Hid (i < 40) := by have := h40.out; unfold Hid; omega
            have HLT := hid hlt
            clear hlt
            go_wp2_with fail
            refine (Nonce_any s m i node zs (cnt xs) id hin.out (by have := hi40.out; omega) hnode.out hl62.out _ hH.out.2.2.2.2.1.st).mono ?_
            rintro e w7 ⟨rfl, hm7, hst7⟩
            rw [next_F] at hst7
            have HSL7 := hid (hH.out.2.2.2.2.1.after hm7 hst7)
            have hPm : P ≠ m := by omega
            have HB7 := hid (hH.out.2.1.mod hm7 (by simp [hPm]))
            have HI7 : Hid (IsInts w7 gA xs) := by
              obtain ⟨es, cl, hmap⟩ := hH.out.2.2.2.2.1.is_map
              exact hH.out.2.2.1.keep hm7 (fun b o h h0 hm => by simp at hm; exact hH.out.2.2.1.not_map hmap b o h h0 hm)
            have HW7 : Hid (Ext w w7) := Ext.of_mod ((Mod.of_ext hH.out.1).trans hm7) (fun k hk => by simp at hk; subst hk; exact hms.out)
            obtain ⟨R, hR⟩ : ∃ R, R = nonceR node zs (cnt xs) id := ⟨_, rfl⟩
            obtain ⟨X, hX⟩ : ∃ X, X = nextX zs xs id := ⟨_, rfl⟩
            have HXL : Hid (X.length ≤ i + 1) := by
              have := hH.out.2.2.2.2.2
              rw [hX]; unfold nextX Hid
              split
              · omega
              · split
                · omega
                · simp; omega
            have HG7 := hid hH.out.2.2.2.1
            have HXN : Hid (xs.length < 100000) := by have := hH.out.2.2.2.2.2; have := hi40.out; unfold Hid; omega
            rw [← hR]
            rw [← hX] at HSL7
            have HR := hid hR; have HX := hid hX
            clear hm7 hst7 hR hX k0
            have k0 := HIC.out _ HW7.out
            have p0 : w7.cell? ⟨P, 0, none⟩ = some (.int .u64 (node : Int)) := HB7.out.cell 0
            have p1 : w7.cell? ⟨P, 1, none⟩ = some (.slice A zs.length cap) := HB7.out.cell 1
            have p2 : w7.cell? ⟨P, 2, none⟩ = some (.slice gA xs.length gc) := HB7.out.cell 2
            have hPl : P < w7.heap.size := Blk.lt HB7.out
            have hIl : ib < w7.heap.size := by
              have := World.block_lt_of_cell? _ _ k0
              exact this
            have hn1 : w7.heap.size ≠ P := by omega
            have hn2 : w7.heap.size ≠ ib := by omega
            go_upto_region 17 with fail
            go_cut [15, 16, 17] (fun s15 s16 s17 wx => ∃ T gA' gc', s15 = .pointer (some ⟨T, 0, none⟩) ∧ s16 = str R.1 ∧ s17 = .int .i64 R.2 ∧ Ext w7 wx ∧ IsInts wx gA' X ∧ (gA' = none → X = [] ∧ gc' = 0) ∧ wx.cell? ⟨T, 0, none⟩ = some (.int .u64 (node : Int)) ∧ wx.cell? ⟨T, 1, none⟩ = some (.slice A zs.length cap) ∧ wx.cell? ⟨T, 2, none⟩ = some (.slice gA' X.length gc'))
            case first =>
              go_region_held3 (fun w' => w'.cell? ⟨P, 0, none⟩ = some (.int .u64 (node : Int)) ∧ w'.cell? ⟨P, 1, none⟩ = some (.slice A zs.length cap) ∧ w'.cell? ⟨P, 2, none⟩ = some (.slice gA xs.length gc) ∧ w'.cell? ⟨ib, io + i, none⟩ = some (.int .i64 id))
                (go_keep)
                ((go_at_call 16; refine (Next_any node A zs cap gA xs gc id hnode.out HXN.out HG7.out hl62.out _ (hk.out.ext (HW7.out.trans (by (repeat (first | with_reducible assumption | with_reducible exact Mod.refl _ _ | with_reducible refine Mod.drew ?_ | with_reducible refine Mod.alloc ?_ _ | with_reducible refine Mod.setCell ?_ (.inr ?_) _))))) (HI7.out.ext (by (repeat (first | with_reducible assumption | with_reducible exact Mod.refl _ _ | with_reducible refine Mod.drew ?_ | with_reducible refine Mod.alloc ?_ _ | with_reducible refine Mod.setCell ?_ (.inr ?_) _))))).mono ?_; rintro e w8 ⟨gA', gc', rfl, hI', hG', hb8⟩; unfold storeV; rw [← HX.out] at hI' hG' ⊢; rw [← HR.out]; have y0 : w8.cell? ⟨P, 0, none⟩ = some (.int .u64 (node : Int)) := (hb8.cell (k := P) (o := 0) (by first | exact hPl | (simp; done) | (simp; omega) | omega) (by simp)).trans (by go_simp); have y1 : w8.cell? ⟨P, 1, none⟩ = some (.slice A zs.length cap) := (hb8.cell (k := P) (o := 1) (by first | exact hPl | (simp; done) | (simp; omega) | omega) (by simp)).trans (by go_simp); have y2 : w8.cell? ⟨P, 2, none⟩ = some (.slice gA xs.length gc) := (hb8.cell (k := P) (o := 2) (by first | exact hPl | (simp; done) | (simp; omega) | omega) (by simp)).trans (by go_simp); have y3 : w8.cell? ⟨ib, io + i, none⟩ = some (.int .i64 id) := (hb8.cell (k := ib) (o := io + i) (by first | exact hIl | (simp; done) | (simp; omega) | omega) (by simp)).trans (by go_simp); have hz8 := hb8.size; (try simp at hz8); (try (have hn3 : w8.heap.size ≠ P := by omega)); (try (have hn4 : w8.heap.size ≠ ib := by omega)); (try (have hBT := Blk.ext (Blk.drew (Blk.new w7 _ _)) hb8; have b0 := hBT.cell 0; have b1 := hBT.cell 1; have b2 := hBT.cell 2; have bz := hBT.frozen; simp at b0 b1 b2))))
              all_goals go_wp2_with fail
              all_goals go_meet
              all_goals refine ⟨_, gA', gc', rfl, rfl, rfl, ?_, ?_, hG', by go_simp, by go_simp, by go_simp⟩
              · repeat (first | with_reducible refine Mod.drew ?_ | with_reducible refine Mod.setCell ?_ (.inr ?_) _ | with_reducible refine Mod.alloc ?_ _ | (with_reducible refine Mod.trans ?_ hb8; clear hb8) | with_reducible exact Mod.refl _ _)
              · exact hI'.ext ((Mod.refl [] w8).alloc _)
              · repeat (first | with_reducible refine Mod.drew ?_ | with_reducible refine Mod.setCell ?_ (.inr ?_) _ | with_reducible refine Mod.alloc ?_ _ | (with_reducible refine Mod.trans ?_ hb8; clear hb8) | with_reducible exact Mod.refl _ _)
                all_goals (dsimp only; omega)
              · exact hI'.keep (S := [w7.heap.size]) ((((Mod.refl _ w8).setCell (.inl (by simp)) _).setCell (.inl (by simp)) _).setCell (.inl (by simp)) _) (fun b o h h0 hm => hI'.not_store hBT (by simp) (by simp) b o h h0 (by simpa using hm))
            clear p0 p1 p2 k0
            obtain ⟨T, gA', gc', rfl, rfl, rfl, hE8, hI8, hG8, x0, x1, x2⟩ := hcut
            have HB8 := hid (HB7.out.ext hE8)
            have HSL8 := hid (HSL7.out.kept hE8 (by simp))
            have HW8 : Hid (Ext w wc) := HW7.out.trans hE8
            have HI8 := hid hI8; have HG8 := hid hG8
            have p0 : wc.cell? ⟨P, 0, none⟩ = some (.int .u64 (node : Int)) := HB8.out.cell 0
            have p1 : wc.cell? ⟨P, 1, none⟩ = some (.slice A zs.length cap) := HB8.out.cell 1
            have p2 : wc.cell? ⟨P, 2, none⟩ = some (.slice gA xs.length gc) := HB8.out.cell 2
            have z0 := HB8.out.frozen
            clear hE8 hI8 hG8
            go_upto_region 18 with fail
            go_cut [12] (fun s12 wx => s12 = .int .i64 (i : Int) ∧ Hid (Ext w wx ∧ Blk wx P 43 #[.int .u64 (node : Int), .slice A zs.length cap, .slice gA' X.length gc'] ∧ IsInts wx gA' X ∧ (gA' = none → X = [] ∧ gc' = 0) ∧ StL N1 N2 wx s m (i + 1) node zs (cnt X)))
            case first =>
              go_wp2
              go_meet
              refine ⟨rfl, (show Hid _ from ?_)⟩
              have hM : Mod [P] wc (((wc.setCell ⟨P, 0, none⟩ (.int .u64 (node : Int))).setCell ⟨P, 1, none⟩ (.slice A zs.length cap)).setCell ⟨P, 2, none⟩ (.slice gA' X.length gc')) := (((Mod.refl _ wc).setCell (.inl (by simp)) _).setCell (.inl (by simp)) _).setCell (.inl (by simp)) _
              refine ⟨Ext.of_mod ((Mod.of_ext HW8.out).trans hM) (fun k hk => by simp at hk; subst hk; exact hwp.out), ?_, HI8.out.keep hM (fun b o h h0 hm => HI8.out.not_store HB8.out (by simp) (by simp) b o h h0 (by simpa using hm)), HG8.out, HSL8.out.kept hM (fun k hk hh => by simp at hk; subst hk; have := hPN.out; omega)⟩
              exact ((HB8.out.set_ 0 _).set_ 1 _).set_ 2 _
            clear p0 p1 p2 x0 x1 x2 z0
            obtain ⟨rfl, hH9⟩ := hcut
            have k0 := HIC.out _ hH9.out.1
            obtain ⟨G, hG⟩ : ∃ G, G = getR zs id := ⟨_, rfl⟩
            have HGR := hid hG
            clear hG
            go_wp2_with fail
            refine (Get_any s m (i + 1) node zs (cnt X) id hl62 _ (hid hH9.out.2.2.2.2.st)).mono ?_
            rintro e w10 ⟨rfl, hb10⟩
            rw [← HGR.out]
            have HW10 : Hid (Ext w w10) := hH9.out.1.trans hb10
            have HB10 := hid (hH9.out.2.1.ext hb10)
            have HI10 := hid (hH9.out.2.2.1.ext hb10)
            have HSL10 := hid (hH9.out.2.2.2.2.kept hb10 (by simp))
            clear hb10 k0
            have k0 := HIC.out _ HW10.out
            have p0 : w10.cell? ⟨P, 0, none⟩ = some (.int .u64 (node : Int)) := HB10.out.cell 0
            have p1 : w10.cell? ⟨P, 1, none⟩ = some (.slice A zs.length cap) := HB10.out.cell 1
            have p2 : w10.cell? ⟨P, 2, none⟩ = some (.slice gA' X.length gc') := HB10.out.cell 2
            have hPl : P < w10.heap.size := Blk.lt HB10.out
            have hIl : ib < w10.heap.size := by
              have := World.block_lt_of_cell? _ _ k0
              exact this
            have hn1 : w10.heap.size ≠ P := by omega
            have hn2 : w10.heap.size ≠ ib := by omega
            go_upto_region 20 with fail
            go_cut [20, 21] (fun s20 s21 wx => s20 = str G.1 ∧ s21 = .int .i64 G.2 ∧ Ext w10 wx)
            case first =>
              go_region_held3 (fun w' => w'.cell? ⟨P, 0, none⟩ = some (.int .u64 (node : Int)) ∧ w'.cell? ⟨P, 1, none⟩ = some (.slice A zs.length cap) ∧ w'.cell? ⟨P, 2, none⟩ = some (.slice gA' X.length gc') ∧ w'.cell? ⟨ib, io + i, none⟩ = some (.int .i64 id))
                (go_keep)
                ((go_at_call 14; refine (RGet_any node A zs cap gA' X.length gc' id hl62 _ (hk.out.ext (HW10.out.trans (by (repeat (first | with_reducible assumption | with_reducible exact Mod.refl _ _ | with_reducible refine Mod.drew ?_ | with_reducible refine Mod.alloc ?_ _ | with_reducible refine Mod.setCell ?_ (.inr ?_) _)))))).mono ?_; rintro e w8 ⟨rfl, hb8⟩; rw [← HGR.out]; have y0 : w8.cell? ⟨P, 0, none⟩ = some (.int .u64 (node : Int)) := (hb8.cell (k := P) (o := 0) (by first | exact hPl | (simp; done) | (simp; omega) | omega) (by simp)).trans (by go_simp); have y1 : w8.cell? ⟨P, 1, none⟩ = some (.slice A zs.length cap) := (hb8.cell (k := P) (o := 1) (by first | exact hPl | (simp; done) | (simp; omega) | omega) (by simp)).trans (by go_simp); have y2 : w8.cell? ⟨P, 2, none⟩ = some (.slice gA' X.length gc') := (hb8.cell (k := P) (o := 2) (by first | exact hPl | (simp; done) | (simp; omega) | omega) (by simp)).trans (by go_simp); have y3 : w8.cell? ⟨ib, io + i, none⟩ = some (.int .i64 id) := (hb8.cell (k := ib) (o := io + i) (by first | exact hIl | (simp; done) | (simp; omega) | omega) (by simp)).trans (by go_simp); have hx8 : Ext w10 w8 := (by with_reducible refine Mod.trans ?_ hb8; (repeat (first | with_reducible assumption | with_reducible exact Mod.refl _ _ | with_reducible refine Mod.drew ?_ | with_reducible refine Mod.alloc ?_ _ | with_reducible refine Mod.setCell ?_ (.inr ?_) _)))))
              all_goals go_wp2_with fail
              all_goals go_meet
              all_goals refine ⟨rfl, rfl, ?_⟩
              all_goals (repeat (first | with_reducible assumption | with_reducible exact Mod.refl _ _ | with_reducible refine Mod.drew ?_ | with_reducible refine Mod.alloc ?_ _ | with_reducible refine Mod.setCell ?_ (.inr ?_) _))
            clear p0 p1 p2 k0
            obtain ⟨rfl, rfl, hE11⟩ := hcut
            have HW11 : Hid (Ext w wc) := HW10.out.trans hE11
            have HB11 := hid (HB10.out.ext hE11)
            have HI11 := hid (HI10.out.ext hE11)
            have HSL11 := hid (HSL10.out.kept hE11 (by simp))
            have HGA := hid hH9.out.2.2.2.1
            have k0 := HIC.out _ HW11.out
            have p0 : wc.cell? ⟨P, 0, none⟩ = some (.int .u64 (node : Int)) := HB11.out.cell 0
            have p1 : wc.cell? ⟨P, 1, none⟩ = some (.slice A zs.length cap) := HB11.out.cell 1
            have p2 : wc.cell? ⟨P, 2, none⟩ = some (.slice gA' X.length gc') := HB11.out.cell 2
            have hPl : P < wc.heap.size := Blk.lt HB11.out
            have hIl : ib < wc.heap.size := by
              have := World.block_lt_of_cell? _ _ k0
              exact this
            have hXn : Hid (X.length < 4611686018427387904) := by have := HXL.out; have := hi40.out; unfold Hid; omega
            clear hE11
            go_upto_region 21 with fail
            go_cut [148] (fun s148 wx => s148 = .bool false ∧ Ext wc wx)
            case first =>
              go_region_held3 (fun w' => w'.cell? ⟨P, 0, none⟩ = some (.int .u64 (node : Int)) ∧ w'.cell? ⟨P, 1, none⟩ = some (.slice A zs.length cap) ∧ w'.cell? ⟨P, 2, none⟩ = some (.slice gA' X.length gc') ∧ w'.cell? ⟨ib, io + i, none⟩ = some (.int .i64 id))
                (go_keep)
                (first
                  | (go_at_call 15; refine (Used_any s m (i + 1) node zs (cnt X) id hin _ (hid (HSL11.out.kept (S := []) (by (repeat (first | with_reducible assumption | with_reducible exact Mod.refl _ _ | with_reducible refine Mod.drew ?_ | with_reducible refine Mod.alloc ?_ _ | with_reducible refine Mod.setCell ?_ (.inr ?_) _))) (by simp)).st)).mono ?_; rintro e w8 ⟨rfl, hb8⟩; have y0 : w8.cell? ⟨P, 0, none⟩ = some (.int .u64 (node : Int)) := (hb8.cell (k := P) (o := 0) (by first | exact hPl | (simp; done) | (simp; omega) | omega) (by simp)).trans (by go_simp); have y1 : w8.cell? ⟨P, 1, none⟩ = some (.slice A zs.length cap) := (hb8.cell (k := P) (o := 1) (by first | exact hPl | (simp; done) | (simp; omega) | omega) (by simp)).trans (by go_simp); have y2 : w8.cell? ⟨P, 2, none⟩ = some (.slice gA' X.length gc') := (hb8.cell (k := P) (o := 2) (by first | exact hPl | (simp; done) | (simp; omega) | omega) (by simp)).trans (by go_simp); have y3 : w8.cell? ⟨ib, io + i, none⟩ = some (.int .i64 id) := (hb8.cell (k := ib) (o := io + i) (by first | exact hIl | (simp; done) | (simp; omega) | omega) (by simp)).trans (by go_simp); have hx8 : Ext wc w8 := (by with_reducible refine Mod.trans ?_ hb8; (repeat (first | with_reducible assumption | with_reducible exact Mod.refl _ _ | with_reducible refine Mod.drew ?_ | with_reducible refine Mod.alloc ?_ _ | with_reducible refine Mod.setCell ?_ (.inr ?_) _))); have hz8 := hx8.size)
                  | (go_at_call 17; refine (RUsed_any node A zs.length cap gA' X gc' id hXn _ (hid (HI11.out.ext (by (repeat (first | with_reducible assumption | with_reducible exact Mod.refl _ _ | with_reducible refine Mod.drew ?_ | with_reducible refine Mod.alloc ?_ _ | with_reducible refine Mod.setCell ?_ (.inr ?_) _)))))).mono ?_; rintro e w9 ⟨rfl, hb9⟩; have q0 : w9.cell? ⟨P, 0, none⟩ = some (.int .u64 (node : Int)) := (hb9.cell (k := P) (o := 0) (by first | exact hPl | (simp; done) | (simp; omega) | omega) (by simp)).trans (by go_simp); have q1 : w9.cell? ⟨P, 1, none⟩ = some (.slice A zs.length cap) := (hb9.cell (k := P) (o := 1) (by first | exact hPl | (simp; done) | (simp; omega) | omega) (by simp)).trans (by go_simp); have q2 : w9.cell? ⟨P, 2, none⟩ = some (.slice gA' X.length gc') := (hb9.cell (k := P) (o := 2) (by first | exact hPl | (simp; done) | (simp; omega) | omega) (by simp)).trans (by go_simp); have q3 : w9.cell? ⟨ib, io + i, none⟩ = some (.int .i64 id) := (hb9.cell (k := ib) (o := io + i) (by first | exact hIl | (simp; done) | (simp; omega) | omega) (by simp)).trans (by go_simp); have hx9 : Ext wc w9 := (by with_reducible refine Mod.trans ?_ hb9; (repeat (first | with_reducible assumption | with_reducible exact Mod.refl _ _ | with_reducible refine Mod.drew ?_ | with_reducible refine Mod.alloc ?_ _ | with_reducible refine Mod.setCell ?_ (.inr ?_) _))); have hz9 := hx9.size))
              all_goals go_wp2_with fail
              all_goals go_meet
              all_goals refine ⟨rfl, ?_⟩
              all_goals (repeat (first | with_reducible assumption | with_reducible exact Mod.refl _ _ | with_reducible refine Mod.drew ?_ | with_reducible refine Mod.alloc ?_ _ | with_reducible refine Mod.setCell ?_ (.inr ?_) _))
            clear p0 p1 p2 k0
            obtain ⟨rfl, hE12⟩ := hcut
            have hi3 : (i : Int) < 40 := by have := hi40.out; omega
            go_wp2_with fail
            have hlt := HLT.out
            refine ⟨⟨i + 1, by omega, by simp, X, gA', gc', HW11.out.trans hE12, HB11.out.ext hE12, HI11.out.ext hE12, HGA.out, HSL11.out.kept hE12 (by simp), HXL.out⟩, ?_⟩
            simp only [intOf]
            omega
          · obtain rfl : i = ids.length := by omega
            have ti : decide (ids.length < ids.length) = false := by simp
            go_wp2_with fail
            go_ret
            exact Ret.mk rfl hH.out.1

set_option maxRecDepth 20000 in
set_option maxHeartbeats 1600000 in
theorem keysPlays_early (node : Nat) (A : Option Addr) (zs : List Key) (cap : Nat) (I : Option Addr) (n icap : Nat) (hnode : Hid (node ≤ 4294967295))
    (hE : Hid (¬ May node zs ∨ 40 < n)) (w : World) (hk : Hid (IsKeys w A zs)) :
    Calls Try.prog 5 #[.int .u32 (node : Int), .slice A zs.length cap, .slice I n icap] w (Ret (.bool true) w) := by
  have a0 : (0 : Int) ≤ (node : Int) := by omega
  have a1 : (node : Int) ≤ 4294967295 := by have := hnode.out; omega
  go_enter Try.func5, Try.ntmps5
  go_wp2_with fail
  refine (awake20_any _).mono ?_; rintro e w1 ⟨rfl, hb1⟩
  go_wp2_with fail
  refine (Few_any A zs cap _ (hk.out.ext hb1)).mono ?_; rintro e w2 ⟨few, rfl, hfew, hb2⟩
  have HB2 := hid (hb1.trans hb2)
  clear hb1 hb2
  cases few
  · go_wp2_with fail
    refine (awake20_any _).mono ?_; rintro e w3 ⟨rfl, hb3⟩
    go_wp2_with fail
    go_ret
    exact Ret.mk rfl (HB2.out.trans hb3)
  · have h12 := hid (hfew rfl)
    clear hfew
    go_wp2_with fail
    refine (May_any node A zs cap (by have := h12.out; unfold Hid; omega) _ (hk.out.ext HB2.out)).mono ?_; rintro e w3 ⟨b, rfl, hbm, hb3⟩
    have HB3 := hid (HB2.out.trans hb3)
    have HBM := hid hbm
    clear hbm hb3
    cases b
    · go_wp2_with fail
      refine (awake20_any _).mono ?_; rintro e w4 ⟨rfl, hb4⟩
      go_wp2_with fail
      go_ret
      exact Ret.mk rfl (HB3.out.trans hb4)
    · have hmay : May node zs := HBM.out.1 rfl
      have t1 : decide (40 < (n : Int)) = true := by
        rcases hE.out with h | h
        · exact absurd hmay h
        · simp; omega
      have HMAY := hid hmay
      clear hmay
      go_wp2_with fail
      refine (awake20_any _).mono ?_; rintro e w4 ⟨rfl, hb4⟩
      go_wp2_with fail
      go_ret
      exact Ret.mk rfl (HB3.out.trans hb4)

theorem keysPlays_walk (node : Nat) (A : Option Addr) (zs : List Key) (cap : Nat) (I : Option Addr) (ids : List Int) (icap : Nat) (hnode : node ≤ 4294967295)
    (hA0 : A = none → zs = [] ∧ cap = 0) (hcap : zs.length ≤ cap) (hids : ∀ x ∈ ids, InI x) (w : World) (hk : IsKeys w A zs) (hI : IsInts w I ids) :
    Calls Try.prog 5 #[.int .u32 (node : Int), .slice A zs.length cap, .slice I ids.length icap] w (Ret (.bool true) w) := by
  by_cases hE : ¬ May node zs ∨ 40 < ids.length
  · exact keysPlays_early node A zs cap I _ icap hnode hE w hk
  · exact keysPlays_go node A zs cap I ids icap hnode hA0 hcap (fun h => hE (.inr h)) (Classical.byContradiction fun h => hE (.inl h)) hids w hk hI
end Go.Proofs.Ytmcehdinkghlfaa
