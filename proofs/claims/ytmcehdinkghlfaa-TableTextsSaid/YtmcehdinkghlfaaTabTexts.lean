/-
  The law TableTexts: its walk.
-/
import Derived.Test.YtmcehdinkghlfaaTabTT
namespace Go.Proofs.Ytmcehdinkghlfaa
open Go.RowKit Go.Shelf
set_option linter.unusedVariables false

/-- Both tables have the keys that qs numbers. -/
def Rel (ns : List (List UInt8)) (qs : List Nat) (ea : List Tii.Ent) (eb : List Tsb.Ent) : Prop :=
  Tii.keys ea = qs.map (fun q : Nat => (q : Int)) ∧ Tsb.keys eb = qs.map (name ns) ∧ ∀ x ∈ qs, x < ns.length
theorem Rel.len {ns : List (List UInt8)} {qs : List Nat} {ea : List Tii.Ent} {eb : List Tsb.Ent} (h : Rel ns qs ea eb) : ea.length = qs.length ∧ eb.length = qs.length := by
  have h1 := congrArg List.length h.1
  have h2 := congrArg List.length h.2.1
  rw [Tii.keys_length] at h1
  rw [Tsb.keys_length] at h2
  simpa using And.intro h1 h2

set_option maxRecDepth 20000 in
set_option maxHeartbeats 1600000 in
theorem tableTexts_early (most : Nat) (L : Option Addr) (n lc : Nat) (S : Option Addr) (s sc : Nat) (hE : Hid (60 < n ∨ s = 0 ∨ 20 < s)) (w : World) :
    Calls Try.prog 7 #[.int .u8 (most : Int), .slice L n lc, .slice S s sc] w (Ret (.bool true) w) := by
  by_cases h1 : 60 < n
  · have t1 : decide (60 < (n : Int)) = true := by simp; omega
    have H1 := hid h1; clear h1
    go_enter Try.func7, Try.ntmps7
    go_wp2_with fail
    refine (awake03_any _).mono ?_; rintro e w1 ⟨rfl, hb1⟩
    go_wp2_with fail
    refine (awake03_any _).mono ?_; rintro e w2 ⟨rfl, hb2⟩
    go_wp2_with fail
    go_ret
    exact Ret.mk rfl (hb1.trans hb2)
  · have t1 : decide (60 < (n : Int)) = false := by simp; omega
    by_cases h2 : s = 0
    · subst h2
      have H1 := hid h1; clear h1
      go_enter Try.func7, Try.ntmps7
      go_wp2_with fail
      refine (awake03_any _).mono ?_; rintro e w1 ⟨rfl, hb1⟩
      go_wp2_with fail
      refine (awake03_any _).mono ?_; rintro e w2 ⟨rfl, hb2⟩
      go_wp2_with fail
      go_ret
      exact Ret.mk rfl (hb1.trans hb2)
    · have t2 : ((s : Int) == 0) = false := by simp; omega
      have t4 : (s = 0) = False := by simp [h2]
      have t3 : decide (20 < (s : Int)) = true := by have := hE.out; simp; omega
      have H1 := hid h1; have H2 := hid h2; clear h1 h2
      go_enter Try.func7, Try.ntmps7
      go_wp2_with fail
      refine (awake03_any _).mono ?_; rintro e w1 ⟨rfl, hb1⟩
      go_wp2_with fail
      refine (awake03_any _).mono ?_; rintro e w2 ⟨rfl, hb2⟩
      go_wp2_with fail
      go_ret
      exact Ret.mk rfl (hb1.trans hb2)

set_option maxRecDepth 20000 in
set_option maxHeartbeats 3200000 in
theorem tableTexts_go (most : Nat) (hmost : Hid (most ≤ 255)) (L : Option Addr) (os : List (Nat × Int)) (lc : Nat) (S : Option Addr) (ns : List (List UInt8)) (sc : Nat) (h60 : Hid (¬ 60 < os.length)) (hs0 : Hid (ns.length ≠ 0)) (h20 : Hid (¬ 20 < ns.length)) (w : World)
    (hO : Hid (IsOps3 w L os)) (hS : Hid (IsStrs w S ns)) :
    Calls Try.prog 7 #[.int .u8 (most : Int), .slice L os.length lc, .slice S ns.length sc] w (Ret (.bool true) w) := by
  have t1 : decide (60 < (os.length : Int)) = false := by have := h60.out; simp; omega
  have t2 : ((ns.length : Int) == 0) = false := by have := hs0.out; simp; intro e; rw [e] at this; exact this rfl
  have t4 : (ns.length = 0) = False := by simp; intro e; have := hs0.out; rw [e] at this; exact this rfl
  have t5 : (ns = []) = False := by simp; intro e; have := hs0.out; rw [e] at this; exact this rfl
  have t3 : decide (20 < (ns.length : Int)) = false := by have := h20.out; simp; omega
  have m0 : (0 : Int) ≤ (most : Int) := by omega
  have m1 : (most : Int) < 256 := by have := hmost.out; omega
  go_enter Try.func7, Try.ntmps7
  go_wp2_with fail
  refine (awake03_any _).mono ?_; rintro e w1 ⟨rfl, hb1⟩
  have HB1 := hid hb1
  clear hb1
  go_wp2_with fail
  go_loopw [7] (fun s7 wr => ∃ i : Nat, i ≤ ns.length ∧ s7 = .int .i64 (i : Int) ∧ Ext w wr ∧ Hid (∀ x y (hx : x < ns.length) (hy : y < x), x < i → ns[x] ≠ ns[y])) (fun i _ => ns.length - (intOf i).toNat)
  case atStart => exact ⟨0, Nat.zero_le _, rfl, HB1.out, fun x y _ _ h => absurd h (Nat.not_lt_zero _)⟩
  case round =>
    obtain ⟨i, hi, rfl, hE, hd⟩ := hrel
    have hns20 : (ns.length : Int) ≤ 20 := by have := h20.out; omega
    have i0 : (0 : Int) ≤ (i : Int) := by omega
    by_cases hlt : i < ns.length
    · have i1 : (i : Int) < (ns.length : Int) := by omega
      have ti : decide (i < ns.length) = true := by simp [hlt]
      have HLT := hid hlt
      go_wp2_with fail
      go_loopw [8] (fun s8 wr2 => ∃ k : Nat, k ≤ i ∧ s8 = .int .i64 (k : Int) ∧ Ext w wr2 ∧ Hid (∀ y (hx : i < ns.length) (hy : y < i), y < k → ns[i] ≠ ns[y])) (fun k _ => i - (intOf k).toNat)
      case atStart => exact ⟨0, Nat.zero_le _, rfl, hE, fun y _ _ h => absurd h (Nat.not_lt_zero _)⟩
      case round =>
        obtain ⟨k, hk, rfl, hE2, hd2⟩ := hrel
        by_cases hki : k < i
        · obtain ⟨b, o, rfl, c0⟩ := hS.out.cells hE2 hlt
          obtain ⟨b', o', hA', c1⟩ := hS.out.cells hE2 (j := k) (by omega)
          obtain ⟨rfl, rfl⟩ : b = b' ∧ o = o' := by simpa using hA'
          have k0 : (0 : Int) ≤ (k : Int) := by omega
          have k1 : (k : Int) < (i : Int) := by omega
          have k2 : (k : Int) < (ns.length : Int) := by omega
          have tk : decide (k < i) = true := by simp [hki]
          have heq := hid (show (ns[i] == ns[k]) = true ↔ ns[i] = ns[k] from by simp)
          clear hA'
          cases e0 : (ns[i] == ns[k])
          · have HNE : Hid (∀ y (hy : y < ns.length), y = k → ns[i] ≠ ns[y]) := fun y hy e => by subst e; simpa using e0
            have HKI := hid hki
            clear heq
            generalize ns[i] = x0 at c0 e0
            generalize ns[k] = x1 at c1 e0
            go_upto_region 9 with fail
            go_quiet (fail)
            go_wp2_with fail
            have hki := HKI.out
            refine ⟨⟨k + 1, by omega, by simp, hE2.drewN _, (show Hid _ from fun y hx hy h => ?_)⟩, ?_⟩
            · by_cases e : y = k
              · exact HNE.out y (by omega) e
              · exact hd2.out y hx hy (by omega)
            · simp only [intOf]; omega
          · have E0 := hid e0
            generalize ns[i] = x0 at c0 e0 E0 heq
            generalize ns[k] = x1 at c1 e0 E0 heq
            go_upto_region 9 with fail
            go_quiet (fail)
            go_wp2_with fail
            go_ret
            exact Ret.mk rfl (hE2.drewN _)
        · obtain rfl : k = i := by omega
          have tk : decide (k < k) = false := by simp
          go_wp2_with fail
          refine ⟨⟨k + 1, by omega, by simp, hE2, (show Hid _ from fun x y hx hy h => ?_)⟩, ?_⟩
          · by_cases e : x = k
            · subst e; exact hd2.out y hx hy hy
            · exact hd.out x y hx hy (by omega)
          · simp only [intOf]; omega
    · obtain rfl : i = ns.length := by omega
      have ti : decide (ns.length < ns.length) = false := by simp
      have HAP : Hid (Apart (name ns) ns.length) := apart_name (fun i j hi hj => hd.out i j hi hj hi)
      have HE := hid hE
      clear hd hE
      go_wp2_with fail
      refine (Tii.New_any most (by have := hmost.out; unfold Hid; omega) _).mono ?_; rintro e w2 ⟨tA, rfl, hlA, hb2, hTA⟩
      have HE2 := hid (HE.out.trans hb2); have HTA := hid hTA; have HLA := hid hlA
      have hsE := HE.out.size
      clear hb2 hTA hlA
      go_wp2_with fail
      refine (Tsb.New_any most (by have := hmost.out; unfold Hid; omega) _).mono ?_; rintro e w3 ⟨tB, rfl, hlB, hb3, hTB⟩
      have HE3 := hid (HE2.out.trans hb3)
      have hla := HLA.out
      have htAl := Blk.lt HTA.out.1
      have HDT : Hid (DT w.heap.size w3 most tA tB none 0 [] none 0 []) := ⟨HTA.out.ext hb3, hTB, by omega, by simp [Tii.blksT], by simp [Tsb.blksT], by simp [Tii.blksT], by simp [Tii.blksT]; omega, by simp [Tsb.blksT]; have := HE2.out.size; omega⟩
      clear hb3 hTB hlB hla htAl hsE HTA HLA
      go_wp2_with fail
      go_loopw [11] (fun s11 wr => ∃ i : Nat, i ≤ os.length ∧ s11 = .int .i64 (i : Int) ∧ ∃ (qs : List Nat) (ea : List Tii.Ent) (eb : List Tsb.Ent), Hid (TT w wr most tA tB ea eb ∧ Rel ns qs ea eb ∧ qs.length ≤ i)) (fun i _ => os.length - (intOf i).toNat)
      case atStart => exact ⟨0, Nat.zero_le _, rfl, [], [], [], ⟨HE3.out, _, _, _, _, HDT.out⟩, ⟨rfl, rfl, by simp⟩, Nat.le_refl _⟩
      case round =>
        obtain ⟨i, hi, rfl, qs, ea, eb, hH⟩ := hrel
        have i0' : (0 : Int) ≤ (i : Int) := by omega
        by_cases hlt : i < os.length
        · obtain ⟨lb, lo', rfl, hkd, k0, k1⟩ := hO.out.cells hH.out.1.1 hlt
          generalize os[i] = op at hkd k0 k1
          obtain ⟨kd, K⟩ := op
          simp only at hkd k0 k1
          have i1 : (i : Int) < (os.length : Int) := by omega
          have ti2 : decide (i < os.length) = true := by simp [hlt]
          have hos : (os.length : Int) ≤ 60 := by have := h60.out; omega
          have hnp : (0 : Int) < (ns.length : Int) := by have := hs0.out; omega
          obtain ⟨r, hr, hr1, hr2⟩ : ∃ r : Int, K.tmod (ns.length : Int) = r ∧ -(ns.length : Int) < r ∧ r < (ns.length : Int) := ⟨_, rfl, Int.lt_tmod_of_pos _ hnp, Int.tmod_lt_of_pos _ hnp⟩
          obtain ⟨q, hq, hqn⟩ : ∃ q : Nat, (r + (ns.length : Int)).tmod (ns.length : Int) = (q : Int) ∧ q < ns.length := by
            have h1 : 0 ≤ (r + (ns.length : Int)).tmod (ns.length : Int) := Int.tmod_nonneg _ (by omega)
            have h2 := Int.tmod_lt_of_pos (r + (ns.length : Int)) hnp
            exact ⟨((r + (ns.length : Int)).tmod (ns.length : Int)).toNat, by omega, by omega⟩
          obtain ⟨kk, hkk, hkk2⟩ : ∃ kk : Nat, (kd : Int).tmod 4 = (kk : Int) ∧ kk < 4 := ⟨kd % 4, by rw [Int.ofNat_tmod]; rfl, by omega⟩
          have r1 : (-20 : Int) ≤ r := by omega
          have r2 : r ≤ (20 : Int) := by omega
          have q0 : (0 : Int) ≤ (q : Int) := by omega
          have q1 : (q : Int) < (ns.length : Int) := by omega
          have kd1 : (kd : Int) < 256 := by omega
          obtain ⟨sb, so, rfl, c0⟩ := hS.out.cells hH.out.1.1 hqn
          rw [← name_at hqn] at c0
          have HQN := hid hqn; have HLT := hid hlt
          have hrel := hH.out.2.1
          have hlen := hrel.len
          have HLEN : Hid (ea.length < 100000 ∧ eb.length < 100000) := by have := hH.out.2.2; have := h60.out; unfold Hid; omega
          have hka := hrel.1; have hkb := hrel.2.1; have hqs := hrel.2.2
          by_cases h2 : kk = 2
          · subst h2
            have hDa : (Tii.dropR ea (q : Int)).2 = (dropK qs q).2 ∧ Tii.keys (Tii.dropR ea (q : Int)).1 = (dropK qs q).1.map (fun q : Nat => (q : Int)) := by
              have h1 := Tii.drop_keys ea (q : Int)
              rw [hka, dropK_f (f := fun q : Nat => (q : Int)) (apart_int ns.length) hqs hqn] at h1
              exact ⟨h1.2, h1.1⟩
            have hDb : (Tsb.dropR eb (name ns q)).2 = (dropK qs q).2 ∧ Tsb.keys (Tsb.dropR eb (name ns q)).1 = (dropK qs q).1.map (name ns) := by
              have h1 := Tsb.drop_keys eb (name ns q)
              rw [hkb, dropK_f HAP.out hqs hqn] at h1
              exact ⟨h1.2, h1.1⟩
            have HREL : Hid (Rel ns (dropK qs q).1 (Tii.dropR ea (q : Int)).1 (Tsb.dropR eb (name ns q)).1) := ⟨hDa.2, hDb.2, dropK_lt hqs q⟩
            have HL2 : Hid ((dropK qs q).1.length ≤ i + 1) := by have := dropK_len qs q; have := hH.out.2.2; unfold Hid; omega
            obtain ⟨D, hD⟩ : ∃ D, D = (dropK qs q).2 := ⟨_, rfl⟩
            rw [← hD] at hDa hDb
            have XD := hid hDa.1; have YD := hid hDb.1
            have hT := hH.out.1
            have HCN : Hid (∀ W, Ext w W → W.cell? ⟨sb, so + q, none⟩ = some (str (name ns q))) := fun W hW => by
              obtain ⟨b', o', hA', hc⟩ := hS.out.cells hW HQN.out
              obtain ⟨rfl, rfl⟩ : sb = b' ∧ so = o' := by simpa using hA'
              rw [name_at HQN.out]; exact hc
            clear hrel hlen hka hkb hqs hDa hDb hD hqn hlt
            generalize name ns q = nm at *
            go_upto_region 18 with fail
            go_region_held3 (fun w' => w'.cell? ⟨sb, so + q, none⟩ = some (str nm)) (go_keep)
              (first | (go_at_call 21; refine (TT.dropA (w := w) (most := most) (tB := tB) (ea := ea) (eb := eb) ?_ _ HLEN.out.1).mono ?_; exact hT.drew; rintro e wa ⟨rfl, hTa⟩; rw [XD.out]; have ya := HCN.out _ hTa.1) | (go_at_call 21; refine (TT.dropA (w := w) (most := most) (tB := tB) (ea := ea) (eb := (Tsb.dropR eb nm).1) ?_ _ HLEN.out.1).mono ?_; (first | exact hTb | exact hTb.drew); rintro e wa ⟨rfl, hTa⟩; rw [XD.out]; have ya := HCN.out _ hTa.1) | (go_at_call 22; refine (TT.dropB (w := w) (most := most) (tA := tA) (ea := ea) (eb := eb) ?_ _ HLEN.out.2).mono ?_; exact hT.drew; rintro e wb ⟨rfl, hTb⟩; rw [YD.out]; have yb := HCN.out _ hTb.1) | (go_at_call 22; refine (TT.dropB (w := w) (most := most) (tA := tA) (ea := (Tii.dropR ea (q : Int)).1) (eb := eb) ?_ _ HLEN.out.2).mono ?_; (first | exact hTa | exact hTa.drew); rintro e wb ⟨rfl, hTb⟩; rw [YD.out]; have yb := HCN.out _ hTb.1))
            go_wp2_with fail
            have hlt := HLT.out
            refine ⟨⟨i + 1, by omega, by simp, _, _, _, (show Hid _ from ⟨hTb, HREL.out, HL2.out⟩)⟩, ?_⟩
            simp only [intOf]; omega
          · have t2' : ((kk : Int) == 2) = false := by simp; omega
            have t2'' : (kk = 2) = False := by simp [h2]
            have hmo : Hid (most < 100000) := by have := hmost.out; unfold Hid; omega
            have hPa : (Tii.pushR most ea (q : Int) (i : Int)).2 = (pushK most qs q).2.map (fun q : Nat => (q : Int)) ∧ Tii.keys (Tii.pushR most ea (q : Int) (i : Int)).1 = (pushK most qs q).1.map (fun q : Nat => (q : Int)) := by
              have h1 := Tii.push_keys most ea (q : Int) (i : Int)
              rw [hka, pushK_f (f := fun q : Nat => (q : Int)) (apart_int ns.length) most hqs hqn] at h1
              exact ⟨h1.2, h1.1⟩
            have hPb : (Tsb.pushR most eb (name ns q) true).2 = (pushK most qs q).2.map (name ns) ∧ Tsb.keys (Tsb.pushR most eb (name ns q) true).1 = (pushK most qs q).1.map (name ns) := by
              have h1 := Tsb.push_keys most eb (name ns q) true
              rw [hkb, pushK_f HAP.out most hqs hqn] at h1
              exact ⟨h1.2, h1.1⟩
            have HREL : Hid (Rel ns (pushK most qs q).1 (Tii.pushR most ea (q : Int) (i : Int)).1 (Tsb.pushR most eb (name ns q) true).1) := ⟨hPa.2, hPb.2, (pushK_lt hqs hqn).1⟩
            have HGL := hid (pushK_lt (most := most) hqs hqn).2
            have HL2 : Hid ((pushK most qs q).1.length ≤ i + 1) := by have := pushK_len most qs q; have := hH.out.2.2; unfold Hid; omega
            have XD := hid hPa.1; have YD := hid hPb.1
            have HT := hid hH.out.1
            have HCN : Hid (∀ W, Ext w W → W.cell? ⟨sb, so + q, none⟩ = some (str (name ns q))) := fun W hW => by
              obtain ⟨b', o', hA', hc⟩ := hS.out.cells hW HQN.out
              obtain ⟨rfl, rfl⟩ : sb = b' ∧ so = o' := by simpa using hA'
              rw [name_at HQN.out]; exact hc
            clear hrel hlen hka hkb hqs hPa hPb hqn hlt h2
            generalize name ns q = nm at *
            generalize (pushK most qs q) = pk at *
            obtain ⟨qs', g⟩ := pk
            go_wp2_with fail
            refine (HT.out.pushA _ _ HLEN.out.1 hmo.out).mono ?_
            rintro e w4 ⟨rfl, hT4⟩
            have HT4 := hid hT4
            have y4 := HCN.out _ hT4.1
            rw [XD.out]
            clear hT4 c0
            cases g with
            | none =>
              simp only [Option.map_none, Tii.goneV]
              go_wp2_with fail
              refine (HT4.out.pushB _ _ HLEN.out.2 hmo.out).mono ?_
              rintro e w5 ⟨rfl, hT5⟩
              have HT5 := hid hT5
              have y5 := HCN.out _ hT5.1
              rw [YD.out]
              clear hT5 y4
              simp only [Option.map_none, Tsb.goneV]
              go_wp2_with fail
              have hlt := HLT.out
              refine ⟨⟨i + 1, by omega, by simp, _, _, _, (show Hid _ from ⟨HT5.out, HREL.out, HL2.out⟩)⟩, ?_⟩
              simp only [intOf]; omega
            | some gk =>
              have gl : gk < ns.length := HGL.out gk rfl
              have g0 : (0 : Int) ≤ (gk : Int) := by omega
              have g1 : (gk : Int) < (ns.length : Int) := by omega
              have HGN := hid gl
              clear gl
              simp only [Option.map_some, Tii.goneV]
              go_wp2_with fail
              refine (HT4.out.pushB _ _ HLEN.out.2 hmo.out).mono ?_
              rintro e w5 ⟨rfl, hT5⟩
              have HT5 := hid hT5
              obtain ⟨b', o', hA', c5⟩ := hS.out.cells hT5.1 HGN.out
              obtain ⟨rfl, rfl⟩ : sb = b' ∧ so = o' := by simpa using hA'
              rw [← name_at HGN.out] at c5
              rw [YD.out]
              clear hT5 y4 hA'
              simp only [Option.map_some, Tsb.goneV]
              generalize name ns gk = gm at *
              go_wp2_with fail
              have hlt := HLT.out
              refine ⟨⟨i + 1, by omega, by simp, _, _, _, (show Hid _ from ⟨HT5.out, HREL.out, HL2.out⟩)⟩, ?_⟩
              simp only [intOf]; omega
        · obtain rfl : i = os.length := by omega
          have ti2 : decide (os.length < os.length) = false := by simp
          have hrel := hH.out.2.1
          have hlen := hrel.len
          have HLEN : Hid (ea.length < 100000 ∧ eb.length < 100000) := by have := hH.out.2.2; have := h60.out; unfold Hid; omega
          have HKA := hid hrel.1; have HKB := hid hrel.2.1; have HQS := hid hrel.2.2
          have HLA := hid hlen.1; have HLB := hid hlen.2
          have HT := hid hH.out.1
          have tne : ((qs.length : Int) == (qs.length : Int)) = true := by simp
          have hql : (qs.length : Int) ≤ 60 := by have := hH.out.2.2; have := h60.out; omega
          clear hrel hlen
          go_wp2_with fail
          refine (HT.out.keysA HLEN.out.1).mono ?_
          rintro e w4 ⟨A', ca, rfl, hE4, hI4⟩
          rw [HLA.out]
          rw [HKA.out] at hI4
          have HT4 := hid (HT.out.ext hE4)
          have HI4 := hid hI4
          clear hE4 hI4
          go_wp2_with fail
          refine (HT4.out.keysB HLEN.out.2).mono ?_
          rintro e w5 ⟨B', cb, rfl, hE5, hI5⟩
          rw [HLB.out]
          rw [HKB.out] at hI5
          have HT5 := hid (HT4.out.ext hE5)
          have HI5 := hid (HI4.out.ext hE5)
          have HS5 := hid hI5
          clear hE5 hI5
          go_wp2_with fail
          go_loopw [19] (fun s19 wr => ∃ j : Nat, j ≤ qs.length ∧ s19 = .int .i64 (j : Int) ∧ Hid (Ext w5 wr)) (fun j _ => qs.length - (intOf j).toNat)
          case atStart => exact ⟨0, Nat.zero_le _, rfl, Mod.refl _ _⟩
          case round =>
            obtain ⟨j, hj, rfl, hE⟩ := hrel
            by_cases hlt : j < qs.length
            · have hqn : qs[j] < ns.length := HQS.out _ (List.getElem_mem hlt)
              obtain ⟨ga, rfl, hgl, hcs⟩ := (HI5.out.ext hE.out) (by rw [List.length_map]; omega)
              have ca0 := hcs j (by rw [List.length_map]; omega)
              obtain ⟨gb, rfl, hgl2, hcs2⟩ := (HS5.out.ext hE.out) (by rw [List.length_map]; omega)
              have cb0 := hcs2 j (by rw [List.length_map]; omega)
              rw [List.getElem_map] at ca0 cb0
              obtain ⟨sb, so, rfl, c0⟩ := hS.out.cells (HT5.out.1.trans hE.out) hqn
              rw [← name_at hqn] at c0
              have j0 : (0 : Int) ≤ (j : Int) := by omega
              have j1 : (j : Int) < (qs.length : Int) := by omega
              have q0 : (0 : Int) ≤ (qs[j] : Int) := by omega
              have q1 : (qs[j] : Int) < (ns.length : Int) := by omega
              have tj : decide (j < qs.length) = true := by simp [hlt]
              have HLT := hid hlt
              clear hqn hgl hcs hgl2 hcs2
              generalize qs[j] = q at *
              have d1 : decide ((q : Int) < 0) = false := by simp
              have d2 : decide ((ns.length : Int) ≤ (q : Int)) = false := by simp; omega
              have d3 : decide (ns.length ≤ q) = false := by simp; omega
              generalize name ns q = nm at *
              clear hlt
              go_upto_region 32 with fail
              go_quiet (fail)
              go_wp2_with fail
              have hlt := HLT.out
              refine ⟨⟨j + 1, by omega, by simp, (show Hid _ from hE.out.drewN _)⟩, ?_⟩
              simp only [intOf]; omega
            · obtain rfl : j = qs.length := by omega
              have tj : decide (qs.length < qs.length) = false := by simp
              go_wp2_with fail
              go_ret
              exact Ret.mk rfl (HT5.out.1.trans hE.out)
end Go.Proofs.Ytmcehdinkghlfaa
