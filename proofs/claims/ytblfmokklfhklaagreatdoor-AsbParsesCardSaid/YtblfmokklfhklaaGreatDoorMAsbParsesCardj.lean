/-
  Security texts: the reference's Parse.
-/
import Derived.Test.YtblfmokklfhklaaGreatDoorMAsbParsesCardi

namespace Go.Proofs.YtblfmokklfhklaaGreatDoor
open Go.RowKit
set_option linter.unusedVariables false
set_option linter.unusedSimpArgs false

/-- What the reference tells. -/
def QAsb (l : List UInt8) (w : World) (e : Ending) (w' : World) : Prop :=
  ((∀ a, ¬ isAsb l a) ∧ e = .returned (.tuple #[asbV zeroA zeroM, .bool false]) ∧ Ext w w') ∨
  (∃ b m, isAsb l b ∧ (∀ a, isAsb l a → a.Eqv b) ∧ e = .returned (.tuple #[asbV b m, .bool true]) ∧ Ext w w' ∧ AsL w' anyQ b m)
theorem Rw.congr {W : World} {Q : Nat → Prop} {base c n : Nat} {A : Option Addr} {ch ch' : Nat → T} {ac : Nat → Option Addr × Nat} (h : Rw W Q base A c n ch ac) (hc : ∀ j, j < n → ch j = ch' j) : Rw W Q base A c n ch' ac :=
  ⟨by rw [← flatC_congr (ch := ch) (ac := ac) (fun j hj => ⟨hc j hj, rfl⟩)]; exact h.own, fun j hj => by rw [← hc j hj]; exact h.kid j hj⟩
theorem chL_snoc {L : List T} {t : T} {j : Nat} (h : j < L.length) : chL L j = chL (L ++ [t]) j := by unfold chL; rw [List.getElem?_append_left h]
theorem chL_last {L : List T} {t : T} : chL (L ++ [t]) L.length = t := by unfold chL; simp
set_option maxRecDepth 20000 in
set_option maxHeartbeats 32000000 in
theorem r15parse_any (l : List UInt8) (hl : l.length ≤ 10000) (w : World) : Calls Tryz.prog 13 #[str l] w (QAsb l w) := by
  have HLL := hid hl
  have l0 : (l.length : Int) ≤ 10000 := by omega
  have KF := hid (fun p (hp : p ≤ l.length) W => fault_any l (by omega) 8 (by omega) p hp W)
  clear hl
  have HE := hid ((Mod.refl [] w).alloc (.cells #[.slice none 0 0, .int .i64 0, .int .i64 0, .string ⟨#[]⟩, .int .u64 0, .int .u64 0, .slice none 0 0, .slice none 0 0] 29))
  have HB0 := hid (Blk.new w 29 #[.slice none 0 0, .int .i64 0, .int .i64 0, .string ⟨#[]⟩, .int .u64 0, .int .u64 0, .slice none 0 0, .slice none 0 0])
  go_enter Tryz.func13, Tryz.ntmps13
  go_upto_region 1 with fail
  have HVS : Hid (w.heap.size + 1 = (w.alloc (.cells #[.slice none 0 0, .int .i64 0, .int .i64 0, .string ⟨#[]⟩, .int .u64 0, .int .u64 0, .slice none 0 0, .slice none 0 0] 29)).heap.size) := hid (by simp)
  generalize w.alloc (.cells #[.slice none 0 0, .int .i64 0, .int .i64 0, .string ⟨#[]⟩, .int .u64 0, .int .u64 0, .slice none 0 0, .slice none 0 0] 29) = V at *
  go_upto_region 4 with fail
  go_loopw [4, 5, 6] (fun s4 s5 s6 wr => ∃ (L : List T) (p : Nat) (A' : Option Addr) (c' : Nat) (ac : Nat → Option Addr × Nat), s4 = .slice A' L.length c' ∧ s5 = .int .i64 (p : Int) ∧ s6 = .int .i64 (L.length : Int) ∧ Hid (L.length ≤ 7 ∧ p ≤ l.length ∧ catB L = l.take p ∧ RO L ∧ Ext V wr ∧ Rw wr (fun b => V.heap.size ≤ b) V.heap.size A' c' L.length (chL L) ac)) (fun _ _ s6 _ => 7 - (intOf s6).toNat)
  case atStart => exact ⟨[], 0, none, 0, fun _ => (none, 0), rfl, rfl, rfl, (show Hid _ from ⟨Nat.zero_le _, Nat.zero_le _, by rw [List.take_zero]; rfl, fun t ht => absurd ht (by simp), Mod.refl _ _, Rw.nil⟩)⟩
  case round =>
    obtain ⟨L, p, A', c', ac, rfl, rfl, rfl, hS⟩ := hrel
    rename World => wr
    have HS := hid hS.out
    clear hS
    obtain ⟨n, hn⟩ : ∃ n, L.length = n := ⟨_, rfl⟩
    have HLN := hid hn
    rw [hn]
    have n0 : (0 : Int) ≤ (n : Int) := by omega
    have n7 : (n : Int) ≤ 7 := by have := HS.out.1; omega
    have p0 : (0 : Int) ≤ (p : Int) := by omega
    have p1 : (p : Int) ≤ (l.length : Int) := by have := HS.out.2.1; omega
    clear hn
    by_cases hlt : n < 7 ∧ p < l.length
    · obtain ⟨h7, hpl⟩ := hlt
      have u1a : decide ((n : Int) < 7) = true := decide_eq_true (by omega)
      have u1b : ((n : Int) < 7) = True := eq_true (by omega)
      have u2a : decide (n < 7) = true := decide_eq_true (by omega)
      have u2b : (n < 7) = True := eq_true (by omega)
      have u3a : decide ((p : Int) < (l.length : Int)) = true := decide_eq_true (by omega)
      have u3b : ((p : Int) < (l.length : Int)) = True := eq_true (by omega)
      have u4a : decide (p < l.length) = true := decide_eq_true (by omega)
      have u4b : (p < l.length) = True := eq_true (by omega)
      have H7 := hid h7
      have HPL := hid hpl
      have KF1 := hid (KF.out p (by omega))
      clear h7 hpl
      obtain ⟨R, hR⟩ : ∃ R, flt 8 (l.drop p) = R := ⟨_, rfl⟩
      rw [hR] at KF1
      unfold faultV at KF1
      obtain ⟨q, E⟩ := R
      have HFL := hid hR
      clear hR
      have HEW := hid (HE.out.trans HS.out.2.2.2.2.1)
      have HBW := hid (HB0.out.ext HS.out.2.2.2.2.1)
      obtain ⟨e, he⟩ := Later.self wr
      rw [he]
      clear he
      by_cases hE : E = 0
      case neg =>
        have HNO := hid (asb_no_fault HS.out.2.2.2.1 HPL.out HS.out.2.2.1 (by rw [HFL.out]; exact hE))
        have u5a : ((E) == (0)) = false := by rw [beq_eq_false_iff_ne]; exact hE
        have u5b : ((E) = (0)) = False := eq_false (by exact hE)
        have u5c : ((E) != (0)) = true := by rw [bne_iff_ne]; exact hE
        clear hE
        go_upto_region 8 with (go_at_call 29; refine (Ret.later (KF1.out _)).mono ?_; rintro x _ ⟨rfl, e, rfl⟩)
        go_wp2_with (first | (refine wpList_store_mid rfl 29 _ _ rfl w.heap.size 0 #[.slice none 0 0, .int .i64 0, .int .i64 0, .string ⟨#[]⟩, .int .u64 0, .int .u64 0, .slice none 0 0, .slice none 0 0] (by rfl) (by rfl) ((HBW.out.later e).there (Nat.le_refl 8)) (by kernel_rfl) (by simp [Value.oneCell']) ?_))
        generalize hZZ : World.setCells _ _ _ _ = ZZ
        have HZB : Hid (Blk ZZ w.heap.size 29 #[.slice none 0 0, .int .i64 0, .int .i64 0, .string ⟨#[]⟩, .int .u64 0, .int .u64 0, .slice none 0 0, .slice none 0 0]) := hid (by rw [← hZZ]; exact setCells_all (ds := #[.slice none 0 0, .int .i64 0, .int .i64 0, .string ⟨#[]⟩, .int .u64 0, .int .u64 0, .slice none 0 0, .slice none 0 0]) (HBW.out.later e) rfl)
        have HZM : Hid (Ext w ZZ) := hid (by rw [← hZZ]; exact setCells_mod _ _ (HEW.out.trans e.h) (.inr (by omega)))
        clear hZZ
        refine bodyPost_ret (results_cell2 rfl _ (by rfl) rfl HZB.out Tryz.underlying29 rfl (by kernel_rfl)) rfl (.inl ⟨HNO.out, rfl, HZM.out⟩)
      subst hE
      obtain ⟨t, ht1, ht2, x, hx, hq⟩ := flt_tree 8 (l.drop p) (by rw [List.length_drop]; have := HLL.out; omega) (by rw [HFL.out])
      rw [HFL.out] at hq
      have hq : q = t.bytes.length := hq
      obtain ⟨g1, g2, g3⟩ := catB_step HS.out.2.2.1 hx
      have HC := hid g1
      have HP2 := hid (g3 HS.out.2.1)
      have HTB := hid g2
      have HT := hid (And.intro ht1 ht2)
      have HQ := hid hq
      have KI := hid (fun W => r13_any t ht1 ht2 (by have := g3 HS.out.2.1; have := HLL.out; omega) W)
      clear g1 g2 g3 hx ht1 ht2 hq x
      obtain ⟨r, hr⟩ : ∃ r, p + q = r := ⟨_, rfl⟩
      rw [hr] at KF1
      have HR := hid hr
      clear hr
      have r0 : (p : Int) ≤ (r : Int) := by have := HR.out; omega
      have r1 : (r : Int) ≤ (l.length : Int) := by have := HR.out; have := HP2.out; have := HQ.out; omega
      have HSL : Hid ((l.drop p).take (r - p) = t.bytes) := hid (by rw [← HR.out, show p + q - p = t.bytes.length by have := HQ.out; omega]; exact HTB.out)
      obtain ⟨ib, hi, hz0, hz1, hz2⟩ := info_parts infoItem
      have HRW : Hid (∀ e : Later wr, Rw e.x (fun b => V.heap.size ≤ b) V.heap.size A' c' n (chL L) ac) := hid (fun e => by rw [← HLN.out]; exact HS.out.2.2.2.2.2.ext e.h)
      have HVW : Hid (V.heap.size ≤ wr.heap.size) := hid HS.out.2.2.2.2.1.size
      go_wp2_with (first | (go_at_call 29; refine (Ret.later (KF1.out _)).mono ?_; rintro x _ ⟨rfl, e, rfl⟩) | (go_at_call 30; rw [extract_str, HSL.out]; refine (KI.out _).mono ?_; rintro x w2 ⟨At, ct, rfl, hb, hI⟩; have HX := hid (e.h.trans hb); have HRW2 := hid ((HRW.out e).ext hb); have HIT := hid (IsL.weak (R := fun b => wr.heap.size ≤ b) (fun b _ hb => Nat.le_trans e.h.size hb) _ hI); clear hb hI) | (at_builtin; refine wpList_append_lies _ rfl _ _ 45 rfl V.heap.size 47 ib _ 5 64 Tryz.underlying45 hi hz0 hz1 hz2 rfl (by decide) _ n _ rfl (HRW2.out.ext ((Mod.refl [] w2).alloc _)).own ⟨w2.heap.size, 0, none⟩ 1 1 [.int .i64 t.kind, .int .u64 (t.n : Int), str t.s, .slice At t.k ct, .bool t.op] rfl rfl (news5 w2 t At ct) (one5 t At ct) (by decide) (by have := H7.out; unfold maxLen; omega) (by have := H7.out; omega) (by have := HVW.out; have := HX.out.size; simp; omega) _ rfl ?_; intro g4 c4 w4 hown' hgr' hat' hlt'; have HO4 := hid hown'; have HG4 := hid hgr'; have HA4 := hid hat'; clear hown' hgr' hat' hlt'))
      go_roundw
      case rel =>
        have hI : IsL (w2.alloc (.cells #[.int .i64 t.kind, .int .u64 (t.n : Int), str t.s, .slice At t.k ct, .bool t.op] 47)) (fun b => V.heap.size ≤ b ∧ offA A' b) t At := (IsL.weak (fun b _ hb => ⟨by have := HVW.out; omega, fun g hg => by
          have h1 := ((HS.out.2.2.2.2.2.own.lt g.block (by subst hg; rfl)).2)
          have h2 : wr.heap.size ≤ b := hb
          omega⟩) _ HIT.out).ext ((Mod.refl [] w2).alloc _)
        obtain ⟨ac', hR4⟩ := ((HRW2.out.ext ((Mod.refl [] w2).alloc (.cells #[.int .i64 t.kind, .int .u64 (t.n : Int), str t.s, .slice At t.k ct, .bool t.op] 47))).congr (ch' := chL (L ++ [t])) (fun j hj => chL_snoc (by have := HLN.out; omega))).append hI (by rw [← HLN.out]; exact chL_last) (by rw [← flatC_congr (ch := chL L) (ac := ac) (fun j hj => ⟨chL_snoc (by have := HLN.out; omega), rfl⟩)]; exact HO4.out) HG4.out HA4.out
        have hlen : (L ++ [t]).length = n + 1 := by rw [List.length_append, HLN.out]; rfl
        refine ⟨L ++ [t], r, some ⟨g4, 0, none⟩, c4, ac', by (try rw [hlen]), by first | rfl | go_num, by first | (rw [hlen]; done) | (rw [hlen]; go_num), (show Hid _ from ⟨by rw [hlen]; have := H7.out; omega, by omega, ?_, ?_, ?_, by rw [hlen]; exact hR4⟩)⟩
        · rw [← HR.out, HQ.out]; exact HC.out
        · intro u hu
          rw [List.mem_append, List.mem_singleton] at hu
          rcases hu with hu | rfl
          · exact HS.out.2.2.2.1 u hu
          · exact HT.out
        · have hm : Mod (obs A') (w2.alloc (.cells #[.int .i64 t.kind, .int .u64 (t.n : Int), str t.s, .slice At t.k ct, .bool t.op] 47)) w4 := grown_obs HG4.out
          exact (((Mod.of_ext (S := obs A') (HS.out.2.2.2.2.1.trans HX.out)).alloc _).trans hm).new (fun k hk => .inr (by
            cases A' with
            | none => cases hk
            | some g => have := (HS.out.2.2.2.2.2.own.lt g.block rfl).1; simp [obs] at hk; omega))
      case measure => have := H7.out; simp [intOf]; omega
    · by_cases h7 : n < 7
      case neg =>
        have u1a : decide ((n : Int) < 7) = false := decide_eq_false (by omega)
        have u1b : ((n : Int) < 7) = False := eq_false (by omega)
        have u2a : decide (n < 7) = false := decide_eq_false (by omega)
        have u2b : (n < 7) = False := eq_false (by omega)
        have HNO := hid (asb_no_count HS.out.2.2.2.1 HS.out.2.1 HS.out.2.2.1 (.inr (by have := HLN.out; have := HS.out.1; omega)) (by have := HLN.out; omega) (by have := HLN.out; omega))
        have v1a : (((n : Int)) == (5)) = false := by rw [beq_eq_false_iff_ne]; omega
        have v1b : (((n : Int)) = (5)) = False := eq_false (by omega)
        have v1c : (((n : Int)) != (5)) = true := by rw [bne_iff_ne]; omega
        have v2a : (((n : Int)) == (6)) = false := by rw [beq_eq_false_iff_ne]; omega
        have v2b : (((n : Int)) = (6)) = False := eq_false (by omega)
        have v2c : (((n : Int)) != (6)) = true := by rw [bne_iff_ne]; omega
        have v3a : ((n) == (5)) = false := by rw [beq_eq_false_iff_ne]; omega
        have v3b : ((n) = (5)) = False := eq_false (by omega)
        have v3c : ((n) != (5)) = true := by rw [bne_iff_ne]; omega
        have v4a : ((n) == (6)) = false := by rw [beq_eq_false_iff_ne]; omega
        have v4b : ((n) = (6)) = False := eq_false (by omega)
        have v4c : ((n) != (6)) = true := by rw [bne_iff_ne]; omega
        have HEW := hid (HE.out.trans HS.out.2.2.2.2.1)
        have HBW := hid (HB0.out.ext HS.out.2.2.2.2.1)
        obtain ⟨e, he⟩ := Later.self wr
        rw [he]
        clear he
        go_upto_region 13 with fail
        go_wp2_with (first | (refine wpList_store_mid rfl 29 _ _ rfl w.heap.size 0 #[.slice none 0 0, .int .i64 0, .int .i64 0, .string ⟨#[]⟩, .int .u64 0, .int .u64 0, .slice none 0 0, .slice none 0 0] (by rfl) (by rfl) ((HBW.out.later e).there (Nat.le_refl 8)) (by kernel_rfl) (by simp [Value.oneCell']) ?_))
        generalize hZZ : World.setCells _ _ _ _ = ZZ
        have HZB : Hid (Blk ZZ w.heap.size 29 #[.slice none 0 0, .int .i64 0, .int .i64 0, .string ⟨#[]⟩, .int .u64 0, .int .u64 0, .slice none 0 0, .slice none 0 0]) := hid (by rw [← hZZ]; exact setCells_all (ds := #[.slice none 0 0, .int .i64 0, .int .i64 0, .string ⟨#[]⟩, .int .u64 0, .int .u64 0, .slice none 0 0, .slice none 0 0]) (HBW.out.later e) rfl)
        have HZM : Hid (Ext w ZZ) := hid (by rw [← hZZ]; exact setCells_mod _ _ (HEW.out.trans e.h) (.inr (by omega)))
        clear hZZ
        refine bodyPost_ret (results_cell2 rfl _ (by rfl) rfl HZB.out Tryz.underlying29 rfl (by kernel_rfl)) rfl (.inl ⟨HNO.out, rfl, HZM.out⟩)
      have hpl : p = l.length := by have := HS.out.2.1; omega
      subst hpl
      have u1a : decide ((n : Int) < 7) = true := decide_eq_true (by omega)
      have u1b : ((n : Int) < 7) = True := eq_true (by omega)
      have u2a : decide (n < 7) = true := decide_eq_true (by omega)
      have u2b : (n < 7) = True := eq_true (by omega)
      have u3a : decide ((l.length : Int) < (l.length : Int)) = false := decide_eq_false (by omega)
      have u3b : ((l.length : Int) < (l.length : Int)) = False := eq_false (by omega)
      have u4a : decide (l.length < l.length) = false := decide_eq_false (by omega)
      have u4b : (l.length < l.length) = False := eq_false (by omega)
      by_cases h56 : n = 5 ∨ n = 6
      case neg =>
        have HNO := hid (asb_no_count HS.out.2.2.2.1 HS.out.2.1 HS.out.2.2.1 (.inl rfl) (by have := HLN.out; omega) (by have := HLN.out; omega))
        have v1a : (((n : Int)) == (5)) = false := by rw [beq_eq_false_iff_ne]; omega
        have v1b : (((n : Int)) = (5)) = False := eq_false (by omega)
        have v1c : (((n : Int)) != (5)) = true := by rw [bne_iff_ne]; omega
        have v2a : (((n : Int)) == (6)) = false := by rw [beq_eq_false_iff_ne]; omega
        have v2b : (((n : Int)) = (6)) = False := eq_false (by omega)
        have v2c : (((n : Int)) != (6)) = true := by rw [bne_iff_ne]; omega
        have v3a : ((n) == (5)) = false := by rw [beq_eq_false_iff_ne]; omega
        have v3b : ((n) = (5)) = False := eq_false (by omega)
        have v3c : ((n) != (5)) = true := by rw [bne_iff_ne]; omega
        have v4a : ((n) == (6)) = false := by rw [beq_eq_false_iff_ne]; omega
        have v4b : ((n) = (6)) = False := eq_false (by omega)
        have v4c : ((n) != (6)) = true := by rw [bne_iff_ne]; omega
        have HEW := hid (HE.out.trans HS.out.2.2.2.2.1)
        have HBW := hid (HB0.out.ext HS.out.2.2.2.2.1)
        obtain ⟨e, he⟩ := Later.self wr
        rw [he]
        clear he
        go_upto_region 13 with fail
        go_wp2_with (first | (refine wpList_store_mid rfl 29 _ _ rfl w.heap.size 0 #[.slice none 0 0, .int .i64 0, .int .i64 0, .string ⟨#[]⟩, .int .u64 0, .int .u64 0, .slice none 0 0, .slice none 0 0] (by rfl) (by rfl) ((HBW.out.later e).there (Nat.le_refl 8)) (by kernel_rfl) (by simp [Value.oneCell']) ?_))
        generalize hZZ : World.setCells _ _ _ _ = ZZ
        have HZB : Hid (Blk ZZ w.heap.size 29 #[.slice none 0 0, .int .i64 0, .int .i64 0, .string ⟨#[]⟩, .int .u64 0, .int .u64 0, .slice none 0 0, .slice none 0 0]) := hid (by rw [← hZZ]; exact setCells_all (ds := #[.slice none 0 0, .int .i64 0, .int .i64 0, .string ⟨#[]⟩, .int .u64 0, .int .u64 0, .slice none 0 0, .slice none 0 0]) (HBW.out.later e) rfl)
        have HZM : Hid (Ext w ZZ) := hid (by rw [← hZZ]; exact setCells_mod _ _ (HEW.out.trans e.h) (.inr (by omega)))
        clear hZZ
        refine bodyPost_ret (results_cell2 rfl _ (by rfl) rfl HZB.out Tryz.underlying29 rfl (by kernel_rfl)) rfl (.inl ⟨HNO.out, rfl, HZM.out⟩)
      have HNW : Hid (V.heap.size ≤ wr.heap.size) := hid HS.out.2.2.2.2.1.size
      have HCL : Hid (catB L = l) := hid (by rw [HS.out.2.2.1, List.take_length])
      have HRO : Hid (RO L) := hid HS.out.2.2.2.1
      have HKD : Hid (Kids (rowT L)) := hid (row_kids HRO.out HCL.out HLL.out (by have := HLN.out; omega))
      have HIL : Hid (IsL wr (fun b => V.heap.size ≤ b) (rowT L) A') := hid (HS.out.2.2.2.2.2.isL (fun b hb => hb))
      have HEW := hid (HE.out.trans HS.out.2.2.2.2.1)
      have HBW := hid (HB0.out.ext HS.out.2.2.2.2.1)
      have HEQ : Hid (∀ a, isAsb l a → a.shaped = true ∧ rdOK (rowT L) = true ∧ a.Eqv (r15A (rowT L))) := hid (fun a ha => ⟨(asb_items ha).2.2.2, (asb_row HRO.out HCL.out ha).1, (asb_row HRO.out HCL.out ha).2.2⟩)
      have HTK : Hid ((rowT L).k = n) := hid HLN.out
      clear HS
      generalize rowT L = t at *
      rcases h56 with rfl | rfl
      · simp only [show ((5 : Nat) : Int) = 5 from rfl]
        obtain ⟨b, o, rfl⟩ : ∃ b o, A' = some ⟨b, o, none⟩ := by
          obtain ⟨b, o, _, _, h1, _⟩ := kidsA HIL.out (i := 0) (by rw [HTK.out]; omega)
          exact ⟨b, o, h1⟩
        have hbl : V.heap.size ≤ b ∧ b < wr.heap.size := by
          obtain ⟨b', o', _, _, h1, h2, h3, _⟩ := kidsA HIL.out (i := 0) (by rw [HTK.out]; omega)
          cases h1
          exact ⟨h3, h2⟩
        have HBL := hid hbl
        have hch : ∀ i, i < 5 → ∃ Ai ci, At5 wr b (o + 5 * i) (t.ch i) Ai ci ∧ IsL wr (fun b => V.heap.size ≤ b ∧ b < wr.heap.size) (t.ch i) Ai := fun i hi => by
          obtain ⟨b', o', Ai, ci, h1, h2, _, h4, h5⟩ := kidsA HIL.out (i := i) (by rw [HTK.out]; omega)
          cases h1
          exact ⟨Ai, ci, by rwa [Nat.mul_comm i 5] at h4, IsL.weak (fun b hb hq => ⟨hq, hb⟩) _ h5⟩
        obtain ⟨A0, c0, hp0⟩ := hch 0 (by decide)
        have HP0 : Hid (At5 wr b (o) (t.ch 0) A0 c0) := hid hp0.1
        have HI0 : Hid (IsL wr (fun b => V.heap.size ≤ b ∧ b < wr.heap.size) (t.ch 0) A0) := hid hp0.2
        clear hp0
        obtain ⟨A1, c1, hp1⟩ := hch 1 (by decide)
        have HP1 : Hid (At5 wr b (o + 5) (t.ch 1) A1 c1) := hid hp1.1
        have HI1 : Hid (IsL wr (fun b => V.heap.size ≤ b ∧ b < wr.heap.size) (t.ch 1) A1) := hid hp1.2
        clear hp1
        obtain ⟨A3, c3, hp3⟩ := hch 3 (by decide)
        have HP3 : Hid (At5 wr b (o + 15) (t.ch 3) A3 c3) := hid hp3.1
        have HI3 : Hid (IsL wr (fun b => V.heap.size ≤ b ∧ b < wr.heap.size) (t.ch 3) A3) := hid hp3.2
        clear hp3
        obtain ⟨A4, c4, hp4⟩ := hch 4 (by decide)
        have HP4 : Hid (At5 wr b (o + 20) (t.ch 4) A4 c4) := hid hp4.1
        have HI4 : Hid (IsL wr (fun b => V.heap.size ≤ b ∧ b < wr.heap.size) (t.ch 4) A4) := hid hp4.2
        clear hp4
        clear hch hbl
        have x1 : wr.cell? ⟨b, o + 5 + 1, none⟩ = _ := HP1.out.2.1
        have n1 : (0 : Int) ≤ ((t.ch 1).n : Int) := by omega
        go_upto_region 14 with fail
        have tk1 : True := trivial
        go_upto_region 15 with fail
        generalize hz : World.alloc wr _ = z
        have HBO : Hid (Blk z wr.heap.size 29 #[.slice none 0 0, .int .i64 (min ((t.ch 1).n : Int) 65536), .int .i64 0, .string ⟨#[]⟩, .int .u64 0, .int .u64 0, .slice none 0 0, .slice none 0 0]) := hid (by rw [← hz]; exact Blk.new _ _ _)
        have HVZ : Hid (Ext wr z) := hid (by rw [← hz]; exact (Mod.refl [] _).alloc _)
        clear hz x1 n1
        obtain ⟨X, hX⟩ : ∃ X, min ((t.ch 1).n : Int) 65536 = X := ⟨_, rfl⟩
        have HXE := hid hX
        rw [hX] at HBO
        clear hX
        obtain ⟨O, hO⟩ : ∃ O, wr.heap.size = O := ⟨_, rfl⟩
        have HOW := hid hO
        rw [hO] at HBO ⊢
        clear hO
        have HOZ : Hid (O < z.heap.size) := hid HBO.out.lt
        have C03 : Hid (∀ W, Ext wr W → W.cell? ⟨b, o + 3, none⟩ = some (.slice A0 (t.ch 0).k c0)) := hid (fun W hW => (HP0.out.mod hW HBL.out.2 (by simp)).2.2.2.1)
        have CL3 : Hid (∀ W, Ext wr W → W.cell? ⟨b, o + 20 + 3, none⟩ = some (.slice A4 (t.ch 4).k c4)) := hid (fun W hW => (HP4.out.mod hW HBL.out.2 (by simp)).2.2.2.1)
        have k0i : ((t.ch 0).k : Int) ≤ 1000 := by have := kid_k (HKD.out.r 0 (by rw [HTK.out]; omega)); omega
        have kLi : ((t.ch 4).k : Int) ≤ 1000 := by have := kid_k (HKD.out.r 4 (by rw [HTK.out]; omega)); omega
        go_upto_region 16 with fail
        go_loopw [11] (fun s11 wl => ∃ j : Nat, s11 = .int .i64 (j : Int) ∧ Hid (∃ A' c' ac, j ≤ (t.ch 0).k ∧ Ext wr wl ∧ z.heap.size ≤ wl.heap.size ∧ Blk wl O 29 #[.slice A' j c', .int .i64 (X), .int .i64 0, .string ⟨#[]⟩, .int .u64 0, .int .u64 0, .slice none 0 0, .slice none 0 0] ∧ RwG intH 3 wl (fun b => b ≠ O) z.heap.size A' c' j (tgtN (t.ch 0)) ac)) (fun s11 _ => (t.ch 0).k - (intOf s11).toNat)
        case atStart => exact ⟨0, rfl, (show Hid _ from ⟨none, 0, fun _ => (none, 0), Nat.zero_le _, HVZ.out, Nat.le_refl _, HBO.out, RwG.nil⟩)⟩
        case round =>
          obtain ⟨j, rfl, hS⟩ := hrel
          rename World => wl
          have j0 : (0 : Int) ≤ (j : Int) := by omega
          have b0w : wl.cell? ⟨b, o + 3, none⟩ = some (.slice A0 (t.ch 0).k c0) := C03.out wl hS.out.choose_spec.choose_spec.choose_spec.2.1
          by_cases hlt : j < (t.ch 0).k
          · obtain ⟨A', c', ac, hjk, hVW, hzw, hB', hR'⟩ := hS.out
            obtain ⟨b0, o0, Aj, cj, hA0, hb0, _, hat, _⟩ := kidsA HI0.out (i := j) hlt
            subst hA0
            have HVW := hid hVW
            have HWZ := hid hzw
            have HB := hid hB'
            have HR := hid hR'
            have tc : decide (j < (t.ch 0).k) = true := by simp [hlt]
            have j1 : (j : Int) < ((t.ch 0).k : Int) := by omega
            have HLT := hid hlt
            have CJ1 : Hid (∀ W, Ext wr W → W.cell? ⟨b0, o0 + j * 5 + 1, none⟩ = some (.int .u64 (((t.ch 0).ch j).n : Int))) := hid (fun W hW => (hat.mod hW hb0 (by simp)).2.1)
            have HKEEP : Hid (∀ W, Mod (O :: obs A') wl W → Ext wr W) := hid (fun W hW => ((Mod.of_ext (S := O :: obs A') HVW.out).trans hW).new (fun k hk => .inr (by
              rcases List.mem_cons.1 hk with rfl | hk
              · exact Nat.le_of_eq HOW.out
              · cases A' with
                | none => cases hk
                | some g'' => have := (HR.out.off g'' rfl).1; have := HVZ.out.size; simp [obs] at hk; omega)))
            have HJN : Hid (((t.ch 0).ch j).n < 18446744073709551616) := hid (kid_n (T.okc (HKD.out.o 0 (by rw [HTK.out]; omega)) HLT.out))
            have HWX : Hid (IntKind.i64.wrap (min (((t.ch 0).ch j).n : Int) 65536) = tgtN (t.ch 0) j) := hid (by show _ = min (((t.ch 0).ch j).n : Int) 65536; rw [IntWalk.i64_in _ (by omega)])
            have k7 : (0 : Int) ≤ (((t.ch 0).ch j).n : Int) := by omega
            clear hlt hjk hVW hzw hB' hR' hS hat hb0
            go_upto_region 18 with fail
            clear b0w
            refine wp_region_held_drew (S := fun w' => Mod (O :: obs A') wl w') (by kernel_rfl) (Mod.refl _ _).drew (fun hHeld => ?_)
            have hO9 : Blk wl.drew O 29 #[.slice A' j c', .int .i64 (X), .int .i64 0, .string ⟨#[]⟩, .int .u64 0, .int .u64 0, .slice none 0 0, .slice none 0 0] := HB.out.drew
            have hR9 := HR.out.ext ((Mod.refl [] wl).drew)
            generalize wl.drew = y0 at *
            refine' wpAnyH_take (i := 0) (v := _) rfl (by kernel_rfl) (by kernel_rfl) (by kernel_rfl) (fun _ _ _ h => h) (Or.inl ⟨by rfl, ?hy13⟩) hHeld ?rest13
            case hy13 => (rintro W hM; go_simp; (try with_reducible rfl))
            case rest13 =>
            (try simp only [Act.put, List.getElem_toArray, List.getElem_cons_zero, List.getElem_cons_succ, List.setIfInBounds_toArray, List.set_cons_zero, List.set_cons_succ])
            refine' wpAnyH_take (i := 2) (v := _) rfl (by kernel_rfl) (by kernel_rfl) (by kernel_rfl) (fun _ _ _ h => h) (Or.inl ⟨by rfl, ?hy14⟩) hHeld ?rest14
            case hy14 => (rintro W hM; go_simp; (try with_reducible rfl))
            case rest14 =>
            (try simp only [Act.put, List.getElem_toArray, List.getElem_cons_zero, List.getElem_cons_succ, List.setIfInBounds_toArray, List.set_cons_zero, List.set_cons_succ])
            refine' wpAnyH_take (i := 3) (v := _) rfl (by kernel_rfl) (by kernel_rfl) (by kernel_rfl) (fun _ _ _ h => h) (Or.inl ⟨by rfl, ?hy15⟩) hHeld ?rest15
            case hy15 => (rintro W hM; go_simp; (try with_reducible rfl))
            case rest15 =>
            (try simp only [Act.put, List.getElem_toArray, List.getElem_cons_zero, List.getElem_cons_succ, List.setIfInBounds_toArray, List.set_cons_zero, List.set_cons_succ])
            refine' wpAnyH_take (i := 4) (v := _) rfl (by kernel_rfl) (by kernel_rfl) (by kernel_rfl) (fun _ _ _ h => h) (Or.inl ⟨by rfl, ?hy16⟩) hHeld ?rest16
            case hy16 => (rintro W hM; go_simp; (try with_reducible rfl))
            case rest16 =>
            (try simp only [Act.put, List.getElem_toArray, List.getElem_cons_zero, List.getElem_cons_succ, List.setIfInBounds_toArray, List.set_cons_zero, List.set_cons_succ])
            refine' wpAnyH_take (i := 5) (v := _) rfl (by kernel_rfl) (by kernel_rfl) (by kernel_rfl) (fun _ _ _ h => h) (Or.inl ⟨by rfl, ?hy17⟩) hHeld ?rest17
            case hy17 => (rintro W hM; have q := C03.out W (HKEEP.out W hM); go_simp; (try with_reducible rfl))
            case rest17 =>
            (try simp only [Act.put, List.getElem_toArray, List.getElem_cons_zero, List.getElem_cons_succ, List.setIfInBounds_toArray, List.set_cons_zero, List.set_cons_succ])
            refine' wpAnyH_take (i := 6) (v := _) rfl (by kernel_rfl) (by kernel_rfl) (by kernel_rfl) (fun _ _ _ h => h) (Or.inl ⟨by rfl, ?hy18⟩) hHeld ?rest18
            case hy18 => (rintro W hM; go_simp; (try with_reducible rfl))
            case rest18 =>
            (try simp only [Act.put, List.getElem_toArray, List.getElem_cons_zero, List.getElem_cons_succ, List.setIfInBounds_toArray, List.set_cons_zero, List.set_cons_succ])
            refine' wpAnyH_take (i := 7) (v := _) rfl (by kernel_rfl) (by kernel_rfl) (by kernel_rfl) (fun _ _ _ h => h) (Or.inl ⟨by rfl, ?hy19⟩) hHeld ?rest19
            case hy19 => (rintro W hM; go_simp; (try with_reducible rfl))
            case rest19 =>
            (try simp only [Act.put, List.getElem_toArray, List.getElem_cons_zero, List.getElem_cons_succ, List.setIfInBounds_toArray, List.set_cons_zero, List.set_cons_succ])
            refine' wpAnyH_take (i := 8) (v := _) rfl (by kernel_rfl) (by kernel_rfl) (by kernel_rfl) (fun _ _ _ h => h) (Or.inl ⟨by rfl, ?hy20⟩) hHeld ?rest20
            case hy20 => (rintro W hM; go_simp; (try with_reducible rfl))
            case rest20 =>
            (try simp only [Act.put, List.getElem_toArray, List.getElem_cons_zero, List.getElem_cons_succ, List.setIfInBounds_toArray, List.set_cons_zero, List.set_cons_succ])
            refine' wpAnyH_take (i := 9) (v := _) rfl (by kernel_rfl) (by kernel_rfl) (by kernel_rfl) (fun _ _ _ h => h) (Or.inl ⟨by rfl, ?hy21⟩) hHeld ?rest21
            case hy21 => (rintro W hM; have q := CJ1.out W (HKEEP.out W hM); go_simp; (try with_reducible rfl))
            case rest21 =>
            (try simp only [Act.put, List.getElem_toArray, List.getElem_cons_zero, List.getElem_cons_succ, List.setIfInBounds_toArray, List.set_cons_zero, List.set_cons_succ])
            refine' wpAnyH_take (i := 10) (v := _) rfl (by kernel_rfl) (by kernel_rfl) (by kernel_rfl) (fun _ _ _ h => h) (Or.inl ⟨by rfl, ?hy22⟩) hHeld ?rest22
            case hy22 => (rintro W hM; go_simp; (try with_reducible rfl))
            case rest22 =>
            (try simp only [Act.put, List.getElem_toArray, List.getElem_cons_zero, List.getElem_cons_succ, List.setIfInBounds_toArray, List.set_cons_zero, List.set_cons_succ])
            refine' wpAnyH_take (i := 11) (v := _) rfl (by kernel_rfl) (by kernel_rfl) (by kernel_rfl) (fun _ _ _ h => h) (Or.inl ⟨by rfl, ?hy23⟩) hHeld ?rest23
            case hy23 => (rintro W hM; go_simp; (try with_reducible rfl))
            case rest23 =>
            (try simp only [Act.put, List.getElem_toArray, List.getElem_cons_zero, List.getElem_cons_succ, List.setIfInBounds_toArray, List.set_cons_zero, List.set_cons_succ])
            refine wpAnyH_ready (rs := [1, 12]) (by kernel_rfl) (by simp) ?_
            refine AllReadyH.cons rfl (fun K hK => ?_) (AllReadyH.cons rfl (fun K hK => ?_) AllReadyH.nil)
            · have c7 : y0.cell? ⟨O, 0, none⟩ = some (.slice A' j c') := hO9.cell 0
              go_simp
              refine hK.out _ _ hHeld (fun hHeld => ?_)
              clear hK K c7
              (try simp only [Act.put, List.getElem_toArray, List.getElem_cons_zero, List.getElem_cons_succ, List.setIfInBounds_toArray, List.set_cons_zero, List.set_cons_succ])
              refine wpAnyH_ready (rs := [12]) (by kernel_rfl) (by simp) ?_
              refine AllReadyH.cons rfl (fun K hK => ?_) AllReadyH.nil
              go_simp
              have hQ2 : Blk (World.alloc y0 (.cells #[.int .i64 (IntKind.i64.wrap (min (((t.ch 0).ch j).n : Int) 65536))] 3)) y0.heap.size 3 #[.int .i64 (IntKind.i64.wrap (min (((t.ch 0).ch j).n : Int) 65536))] := Blk.new _ _ _
              have hXX : Ext y0 (World.alloc y0 (.cells #[.int .i64 (IntKind.i64.wrap (min (((t.ch 0).ch j).n : Int) 65536))] 3)) := (Mod.refl [] _).alloc _
              generalize World.alloc y0 (.cells #[.int .i64 (IntKind.i64.wrap (min (((t.ch 0).ch j).n : Int) 65536))] 3) = y13 at *
              have hO9 := hO9.ext hXX
              have hR9 := hR9.ext hXX
              refine hK.out _ _ (hHeld.trans (hXX.mono (by simp))) (fun hHeld => ?_)
              clear hK K
              (try simp only [Act.put, List.getElem_toArray, List.getElem_cons_zero, List.getElem_cons_succ, List.setIfInBounds_toArray, List.set_cons_zero, List.set_cons_succ])
              generalize y0.heap.size = gq at *
              refine wpAnyH_ready (rs := [13]) (by kernel_rfl) (by simp) ?_
              refine AllReadyH.cons rfl (fun K hK => ?_) AllReadyH.nil
              have hI : intH.hang y13 (fun b => (b ≠ O) ∧ offA A' b) (tgtN (t.ch 0) j) (none, 0) := trivial
              obtain ⟨ib, hi, hz0, hz1, hz2⟩ := info_parts infoInt
              refine wp_append_lies _ _ _ 22 (by rfl) z.heap.size 3 ib _ 1 8 Tryz.underlying22 hi hz0 hz1 hz2 (by rfl) (by decide) _ j _ (by rfl) hR9.own ⟨gq, 0, none⟩ 1 1 [.int .i64 (IntKind.i64.wrap (min (((t.ch 0).ch j).n : Int) 65536))] (by rfl) (by rfl) ?gnewy14 ?goney14 (by decide) ?gmy14 ?gby14 ?gbasey14 (y13.heap.size) rfl ?gky14
              case gnewy14 =>
                intro j' u hu
                rw [addr_add, Nat.zero_add, hQ2.cell j']
                simpa using hu
              case goney14 => intro u hu; simp at hu; subst hu; rfl
              case gmy14 => have := HLT.out; unfold maxLen; omega
              case gby14 => have := HLT.out; omega
              case gbasey14 => have := HWZ.out; have := hHeld.size; omega
              intro g' cp' y14 hown' hgr' hat' hlt'
              rw [HWX.out] at hown'
              obtain ⟨ac', hR5⟩ := hR9.append hI rfl hown' hgr' hat'
              have hOO : O ∉ obs A' := by
                refine offA_obs (fun g' hg' => ?_)
                have := (HR.out.off g' hg').1
                have := HOZ.out
                omega
              have hO9 := hO9.mod (grown_obs hgr') hOO
              refine hK.out _ _ (hHeld.trans ((grown_obs hgr').mono (by simp; exact fun k hk => .inr hk))) (fun hHeld => ?_)
              clear hK K
              (try simp only [Act.put, List.getElem_toArray, List.getElem_cons_zero, List.getElem_cons_succ, List.setIfInBounds_toArray, List.set_cons_zero, List.set_cons_succ])
              refine' wpAnyH_take (i := 14) (v := _) rfl (by kernel_rfl) (by kernel_rfl) (by kernel_rfl) (fun _ _ _ h => h) (Or.inl ⟨by rfl, ?hy24⟩) hHeld ?rest24
              case hy24 => (rintro W hM; go_simp; (try with_reducible rfl))
              case rest24 =>
              (try simp only [Act.put, List.getElem_toArray, List.getElem_cons_zero, List.getElem_cons_succ, List.setIfInBounds_toArray, List.set_cons_zero, List.set_cons_succ])
              refine wpAnyH_ready (rs := [15]) (by kernel_rfl) (by simp) ?_
              refine AllReadyH.cons rfl (fun K hK => ?_) AllReadyH.nil
              have c7 : y14.cell? ⟨O, 0, none⟩ = some (.slice A' j c') := hO9.cell 0
              have f7 := hO9.frozen 0
              go_simp
              have hOf := hO9.set_ 0 (.slice (some ⟨g', 0, none⟩) (j + 1) cp')
              have hM7 := (Mod.refl [O] y14).setCell (p := ⟨O, 0, none⟩) (.inl (by simp)) (.slice (some ⟨g', 0, none⟩) (j + 1) cp')
              generalize World.setCell y14 ⟨O, 0, none⟩ _ = yf at *
              refine hK.out _ _ (hHeld.trans (hM7.mono (by simp))) (fun hHeld => ?_)
              clear hK K c7 f7
              (try simp only [Act.put, List.getElem_toArray, List.getElem_cons_zero, List.getElem_cons_succ, List.setIfInBounds_toArray, List.set_cons_zero, List.set_cons_succ])
              refine wpAnyH_done (by kernel_rfl) ?_ _
              have hg'z : g' ≠ O := by
                have h1 : z.heap.size ≤ g' := (hR5.off _ rfl).1
                have := HOZ.out
                omega
              have HBF : Hid (Blk yf O 29 #[.slice (some ⟨g', 0, none⟩) (j + 1) cp', .int .i64 (X), .int .i64 0, .string ⟨#[]⟩, .int .u64 0, .int .u64 0, .slice none 0 0, .slice none 0 0]) := hid hOf
              have HRF := hid (hR5.modQ hM7 (fun g'' hg'' => by cases hg''; simpa using hg'z) (fun k hk _ => by simpa using hk))
              have HMF : Hid (Mod (O :: obs A') wl yf) := hid hHeld
              clear hOf hR5 hM7 hHeld hO9 hR9 hown' hgr' hat' hlt' hQ2 hI hOO
              go_wp2_with fail
              go_roundw
              case rel => exact ⟨j + 1, by go_num, (show Hid _ from ⟨some ⟨g', 0, none⟩, cp', ac', HLT.out, HKEEP.out _ HMF.out, Nat.le_trans HWZ.out HMF.out.size, HBF.out, HRF.out⟩)⟩
              case measure => have := HLT.out; simp [intOf]; omega
            · go_simp
              have hQ2 : Blk (World.alloc y0 (.cells #[.int .i64 (IntKind.i64.wrap (min (((t.ch 0).ch j).n : Int) 65536))] 3)) y0.heap.size 3 #[.int .i64 (IntKind.i64.wrap (min (((t.ch 0).ch j).n : Int) 65536))] := Blk.new _ _ _
              have hXX : Ext y0 (World.alloc y0 (.cells #[.int .i64 (IntKind.i64.wrap (min (((t.ch 0).ch j).n : Int) 65536))] 3)) := (Mod.refl [] _).alloc _
              generalize World.alloc y0 (.cells #[.int .i64 (IntKind.i64.wrap (min (((t.ch 0).ch j).n : Int) 65536))] 3) = y15 at *
              have hO9 := hO9.ext hXX
              have hR9 := hR9.ext hXX
              refine hK.out _ _ (hHeld.trans (hXX.mono (by simp))) (fun hHeld => ?_)
              clear hK K
              (try simp only [Act.put, List.getElem_toArray, List.getElem_cons_zero, List.getElem_cons_succ, List.setIfInBounds_toArray, List.set_cons_zero, List.set_cons_succ])
              generalize y0.heap.size = gq at *
              refine wpAnyH_ready (rs := [1]) (by kernel_rfl) (by simp) ?_
              refine AllReadyH.cons rfl (fun K hK => ?_) AllReadyH.nil
              have c7 : y15.cell? ⟨O, 0, none⟩ = some (.slice A' j c') := hO9.cell 0
              go_simp
              refine hK.out _ _ hHeld (fun hHeld => ?_)
              clear hK K c7
              (try simp only [Act.put, List.getElem_toArray, List.getElem_cons_zero, List.getElem_cons_succ, List.setIfInBounds_toArray, List.set_cons_zero, List.set_cons_succ])
              refine wpAnyH_ready (rs := [13]) (by kernel_rfl) (by simp) ?_
              refine AllReadyH.cons rfl (fun K hK => ?_) AllReadyH.nil
              have hI : intH.hang y15 (fun b => (b ≠ O) ∧ offA A' b) (tgtN (t.ch 0) j) (none, 0) := trivial
              obtain ⟨ib, hi, hz0, hz1, hz2⟩ := info_parts infoInt
              refine wp_append_lies _ _ _ 22 (by rfl) z.heap.size 3 ib _ 1 8 Tryz.underlying22 hi hz0 hz1 hz2 (by rfl) (by decide) _ j _ (by rfl) hR9.own ⟨gq, 0, none⟩ 1 1 [.int .i64 (IntKind.i64.wrap (min (((t.ch 0).ch j).n : Int) 65536))] (by rfl) (by rfl) ?gnewy17 ?goney17 (by decide) ?gmy17 ?gby17 ?gbasey17 (y15.heap.size) rfl ?gky17
              case gnewy17 =>
                intro j' u hu
                rw [addr_add, Nat.zero_add, hQ2.cell j']
                simpa using hu
              case goney17 => intro u hu; simp at hu; subst hu; rfl
              case gmy17 => have := HLT.out; unfold maxLen; omega
              case gby17 => have := HLT.out; omega
              case gbasey17 => have := HWZ.out; have := hHeld.size; omega
              intro g' cp' y17 hown' hgr' hat' hlt'
              rw [HWX.out] at hown'
              obtain ⟨ac', hR5⟩ := hR9.append hI rfl hown' hgr' hat'
              have hOO : O ∉ obs A' := by
                refine offA_obs (fun g' hg' => ?_)
                have := (HR.out.off g' hg').1
                have := HOZ.out
                omega
              have hO9 := hO9.mod (grown_obs hgr') hOO
              refine hK.out _ _ (hHeld.trans ((grown_obs hgr').mono (by simp; exact fun k hk => .inr hk))) (fun hHeld => ?_)
              clear hK K
              (try simp only [Act.put, List.getElem_toArray, List.getElem_cons_zero, List.getElem_cons_succ, List.setIfInBounds_toArray, List.set_cons_zero, List.set_cons_succ])
              refine' wpAnyH_take (i := 14) (v := _) rfl (by kernel_rfl) (by kernel_rfl) (by kernel_rfl) (fun _ _ _ h => h) (Or.inl ⟨by rfl, ?hy25⟩) hHeld ?rest25
              case hy25 => (rintro W hM; go_simp; (try with_reducible rfl))
              case rest25 =>
              (try simp only [Act.put, List.getElem_toArray, List.getElem_cons_zero, List.getElem_cons_succ, List.setIfInBounds_toArray, List.set_cons_zero, List.set_cons_succ])
              refine wpAnyH_ready (rs := [15]) (by kernel_rfl) (by simp) ?_
              refine AllReadyH.cons rfl (fun K hK => ?_) AllReadyH.nil
              have c7 : y17.cell? ⟨O, 0, none⟩ = some (.slice A' j c') := hO9.cell 0
              have f7 := hO9.frozen 0
              go_simp
              have hOf := hO9.set_ 0 (.slice (some ⟨g', 0, none⟩) (j + 1) cp')
              have hM7 := (Mod.refl [O] y17).setCell (p := ⟨O, 0, none⟩) (.inl (by simp)) (.slice (some ⟨g', 0, none⟩) (j + 1) cp')
              generalize World.setCell y17 ⟨O, 0, none⟩ _ = yf at *
              refine hK.out _ _ (hHeld.trans (hM7.mono (by simp))) (fun hHeld => ?_)
              clear hK K c7 f7
              (try simp only [Act.put, List.getElem_toArray, List.getElem_cons_zero, List.getElem_cons_succ, List.setIfInBounds_toArray, List.set_cons_zero, List.set_cons_succ])
              refine wpAnyH_done (by kernel_rfl) ?_ _
              have hg'z : g' ≠ O := by
                have h1 : z.heap.size ≤ g' := (hR5.off _ rfl).1
                have := HOZ.out
                omega
              have HBF : Hid (Blk yf O 29 #[.slice (some ⟨g', 0, none⟩) (j + 1) cp', .int .i64 (X), .int .i64 0, .string ⟨#[]⟩, .int .u64 0, .int .u64 0, .slice none 0 0, .slice none 0 0]) := hid hOf
              have HRF := hid (hR5.modQ hM7 (fun g'' hg'' => by cases hg''; simpa using hg'z) (fun k hk _ => by simpa using hk))
              have HMF : Hid (Mod (O :: obs A') wl yf) := hid hHeld
              clear hOf hR5 hM7 hHeld hO9 hR9 hown' hgr' hat' hlt' hQ2 hI hOO
              go_wp2_with fail
              go_roundw
              case rel => exact ⟨j + 1, by go_num, (show Hid _ from ⟨some ⟨g', 0, none⟩, cp', ac', HLT.out, HKEEP.out _ HMF.out, Nat.le_trans HWZ.out HMF.out.size, HBF.out, HRF.out⟩)⟩
              case measure => have := HLT.out; simp [intOf]; omega
          · have hjt : j = (t.ch 0).k := by obtain ⟨_, _, _, hjk, _⟩ := hS.out; omega
            have tc : decide (j < (t.ch 0).k) = false := by rw [hjt]; simp
            have j1 : ¬ (j : Int) < ((t.ch 0).k : Int) := by omega
            obtain ⟨At, ct, ac, hjk, hVW, hzw, hB', hR'⟩ := hS.out
            have HVY := hid hVW
            have HBY := hid hB'
            have HNY := hid hR'.ns.1
            have HGY : Hid (∀ g, At = some g → z.heap.size ≤ g.block ∧ g.block < wl.heap.size) := hid (fun g hg => hR'.off g hg)
            have HZY := hid hzw
            have HJT := hid hjt
            clear hS hjk hVW hzw hB' hR' hjt
            go_upto_region 19 with fail
            clear b0w tc j1
            generalize wl = Y at *
            have HNY2 : Hid (∀ W, Mod [O] Y W → NsL W At (t.ch 0).k (tgtN (t.ch 0))) := hid (fun W hW => by
              have h := HNY.out.mod hW (fun b o hA _ => by have h2 := (HGY.out _ hA).1; have := HOZ.out; have h2 : z.heap.size ≤ b := h2; simp; omega)
              rw [HJT.out] at h
              exact h)
            rw [HJT.out] at HBY
            have a0 : Y.cell? ⟨b, o + 15, none⟩ = _ := (HP3.out.mod HVY.out HBL.out.2 (by simp)).1
            have a1 : Y.cell? ⟨b, o + 15 + 1, none⟩ = _ := (HP3.out.mod HVY.out HBL.out.2 (by simp)).2.1
            have a2 : Y.cell? ⟨b, o + 15 + 2, none⟩ = _ := (HP3.out.mod HVY.out HBL.out.2 (by simp)).2.2.1
            have a3 : Y.cell? ⟨b, o + 15 + 3, none⟩ = _ := (HP3.out.mod HVY.out HBL.out.2 (by simp)).2.2.2.1
            have a4 : Y.cell? ⟨b, o + 15 + 4, none⟩ = _ := (HP3.out.mod HVY.out HBL.out.2 (by simp)).2.2.2.2
            have KO := hid (of_any (t.ch 3) (HKD.out.o 3 (by rw [HTK.out]; omega)) (HKD.out.s 3 (by rw [HTK.out]; omega)) A3 c3 Y ((IsL.weak (fun _ _ _ => trivial) _ HI3.out).ext HVY.out))
            rw [show (j : Int) = ((t.ch 0).k : Int) by rw [HJT.out]]
            clear HJT HNY
            by_cases hO : ofB (t.ch 3) = true
            case neg =>
              have HNO : Hid (∀ a, ¬ isAsb l a) := hid (fun a ha => hO (rdOK_iff (HEQ.out a ha).2.1).2.1)
              have KO : Hid (Calls Tryz.prog 31 #[itemV (t.ch 3) A3 c3] Y (Ret (.tuple #[.agg #[.int .i64 0, str [], .int .u64 0, .int .u64 0], .int .i64 2]) Y)) := hid (by have h := KO.out; unfold OfPost at h; rw [if_neg hO, if_neg hO] at h; exact h)
              clear hO
              go_upto_region 21 with (go_at_call 31; refine KO.out.mono ?_; rintro x w3 ⟨rfl, hb⟩; have HX := hid hb; clear hb)
              generalize hY : World.alloc w3 _ = U
              have HXU : Hid (Ext wr U) := hid (by rw [← hY]; exact (HVY.out.trans HX.out).alloc _)
              have HBU := hid (HBW.out.ext HXU.out)
              have HEU := hid (HEW.out.trans HXU.out)
              clear hY a0 a1 a2 a3 a4 HX
              obtain ⟨e, he⟩ := Later.self U
              rw [he]
              clear he
              go_wp2_with (first | (refine wpList_store_mid rfl 29 _ _ rfl w.heap.size 0 #[.slice none 0 0, .int .i64 0, .int .i64 0, .string ⟨#[]⟩, .int .u64 0, .int .u64 0, .slice none 0 0, .slice none 0 0] (by rfl) (by rfl) ((HBU.out.later e).there (Nat.le_refl 8)) (by kernel_rfl) (by simp [Value.oneCell']) ?_))
              generalize hZZ : World.setCells _ _ _ _ = ZZ
              have HZB : Hid (Blk ZZ w.heap.size 29 #[.slice none 0 0, .int .i64 0, .int .i64 0, .string ⟨#[]⟩, .int .u64 0, .int .u64 0, .slice none 0 0, .slice none 0 0]) := hid (by rw [← hZZ]; exact setCells_all (ds := #[.slice none 0 0, .int .i64 0, .int .i64 0, .string ⟨#[]⟩, .int .u64 0, .int .u64 0, .slice none 0 0, .slice none 0 0]) (HBU.out.later e) rfl)
              have HZM : Hid (Ext w ZZ) := hid (by rw [← hZZ]; exact setCells_mod _ _ (HEU.out.trans e.h) (.inr (by omega)))
              clear hZZ
              refine bodyPost_ret (results_cell2 rfl _ (by rfl) rfl HZB.out Tryz.underlying29 rfl (by kernel_rfl)) rfl (.inl ⟨HNO.out, rfl, HZM.out⟩)
            have HWF := hid (HKD.out.wf15 hO)
            have HSMA := hid HKD.out.small15
            obtain ⟨E, hE⟩ : ∃ E, readE (t.ch 3) = E := ⟨_, rfl⟩
            have HEE := hid hE
            have KO : Hid (Calls Tryz.prog 31 #[itemV (t.ch 3) A3 c3] Y (Ret (.tuple #[.agg #[.int .i64 E.sch, str E.name, .int .u64 (E.node : Int), .int .u64 (E.svc : Int)], .int .i64 0]) Y)) := hid (by have h := KO.out; unfold OfPost at h; rw [if_pos hO, if_pos hO, hE] at h; exact h)
            clear hO hE
            go_upto_region 22 with (go_at_call 31; refine KO.out.mono ?_; rintro x w3 ⟨rfl, hb⟩; have HX := hid hb; clear hb)
            generalize hY : World.alloc w3 _ = U3
            have HYU : Hid (Ext Y U3) := hid (by rw [← hY]; exact HX.out.alloc _)
            have HBE : Hid (Blk U3 w3.heap.size 25 E.c) := hid (by rw [← hY]; exact Blk.new _ _ _)
            have HB3 := hid (HBY.out.ext HYU.out)
            clear hY a0 a1 a2 a3 a4 HX KO
            generalize w3.heap.size = n4 at *
            have e0 : U3.cell? ⟨n4, 0, none⟩ = some (.int .i64 E.sch) := HBE.out.cell 0
            have e1 : U3.cell? ⟨n4, 1, none⟩ = some (str E.name) := HBE.out.cell 1
            have e2 : U3.cell? ⟨n4, 2, none⟩ = some (.int .u64 (E.node : Int)) := HBE.out.cell 2
            have e3 : U3.cell? ⟨n4, 3, none⟩ = some (.int .u64 (E.svc : Int)) := HBE.out.cell 3
            have q2 := HB3.out.cell 2
            have q2f := HB3.out.frozen 2
            have q3 := HB3.out.cell 3
            have q3f := HB3.out.frozen 3
            have q4 := HB3.out.cell 4
            have q4f := HB3.out.frozen 4
            have q5 := HB3.out.cell 5
            have q5f := HB3.out.frozen 5
            go_upto_region 23 with fail
            generalize hY : World.setCell _ ⟨O, 5, none⟩ _ = U4
            have HMU : Hid (Mod [O] U3 U4) := hid (by rw [← hY]; exact ((((Mod.refl [O] U3).setCell (.inl (by simp)) _).setCell (.inl (by simp)) _).setCell (.inl (by simp)) _).setCell (.inl (by simp)) _)
            have HB4 : Hid (Blk U4 O 29 #[.slice At (t.ch 0).k ct, .int .i64 (X), .int .i64 E.sch, str E.name, .int .u64 (E.node : Int), .int .u64 (E.svc : Int), .slice none 0 0, .slice none 0 0]) := hid (by rw [← hY]; exact (((HB3.out.set_ 2 _).set_ 3 _).set_ 4 _).set_ 5 _)
            have HV4 : Hid (Ext wr U4) := hid (((Mod.of_ext (S := [O]) (HVY.out.trans HYU.out)).trans HMU.out).new (fun k hk => .inr (by rw [List.mem_singleton] at hk; have := HOW.out; omega)))
            have HN4 : Hid (∀ W, Mod [O] U4 W → NsL W At (t.ch 0).k (tgtN (t.ch 0))) := hid (fun W hW => HNY2.out W ((Mod.of_ext (S := [O]) HYU.out).trans (HMU.out.trans hW)))
            have HZ4 : Hid (z.heap.size ≤ U4.heap.size ∧ Y.heap.size ≤ U4.heap.size) := hid (by have := HZY.out; have := HYU.out.size; have := HMU.out.size; constructor <;> omega)
            clear hY HBE HB3 HYU HMU HNY2 HBY e0 e1 e2 e3 q2 q2f q3 q3f q4 q4f q5 q5f
            have HZ3 := HZ4
            have HV3 := HV4
            have HBZ := HB4
            have HNZ := HN4
            clear HZ4 HV4 HB4 HN4
            go_upto_region 25 with fail
            generalize U4 = Z3 at *
            have HKQ : Hid (∀ g, At = some g → z.heap.size ≤ g.block ∧ g.block < Z3.heap.size) := hid (fun g hg => ⟨(HGY.out g hg).1, by have := (HGY.out g hg).2; have := HZ3.out.2; omega⟩)
            have HZZ : Hid (O < z.heap.size ∧ z.heap.size ≤ Z3.heap.size ∧ wr.heap.size = O ∧ w.heap.size + 1 = V.heap.size ∧ V.heap.size ≤ wr.heap.size) := hid ⟨HOZ.out, HZ3.out.1, HOW.out, HVS.out, HNW.out⟩
            go_upto_region 26 with fail
            go_loopw [14] (fun s14 wl => ∃ j : Nat, s14 = .int .i64 (j : Int) ∧ Hid (∃ A' c' ac, j ≤ (t.ch 4).k ∧ Ext wr wl ∧ Z3.heap.size ≤ wl.heap.size ∧ Blk wl O 29 #[.slice At (t.ch 0).k ct, .int .i64 (X), .int .i64 E.sch, str E.name, .int .u64 (E.node : Int), .int .u64 (E.svc : Int), .slice none 0 0, .slice A' j c'] ∧ RwG resH 26 wl (fun b => b ≠ O ∧ b ≠ w.heap.size) Z3.heap.size A' c' j (fun i => r15P ((t.ch 4).ch i)) ac ∧ NsL wl At (t.ch 0).k (tgtN (t.ch 0))) ) (fun s14 _ => (t.ch 4).k - (intOf s14).toNat)
            case atStart => exact ⟨0, rfl, (show Hid _ from ⟨none, 0, fun _ => (none, 0), Nat.zero_le _, HV3.out, Nat.le_refl _, HBZ.out, RwG.nil, HNZ.out _ (Mod.refl _ _)⟩)⟩
            case round =>
              obtain ⟨j, rfl, hS⟩ := hrel
              rename World => wl
              have j0 : (0 : Int) ≤ (j : Int) := by omega
              have b0w : wl.cell? ⟨b, o + 20 + 3, none⟩ = some (.slice A4 (t.ch 4).k c4) := CL3.out wl hS.out.choose_spec.choose_spec.choose_spec.2.1
              by_cases hlt : j < (t.ch 4).k
              · obtain ⟨A', c', ac, hjk, hVW, hzw, hB', hR', hN'⟩ := hS.out
                obtain ⟨bL, oL, Aj, cj, hAL, hbL, hqL, hat, hIj⟩ := kidsA HI4.out (i := j) hlt
                subst hAL
                have HVW := hid hVW
                have HWZ := hid hzw
                have HB := hid hB'
                have HR := hid hR'
                have HN := hid hN'
                skip
                have tc : decide (j < (t.ch 4).k) = true := by simp [hlt]
                have j1 : (j : Int) < ((t.ch 4).k : Int) := by omega
                have HLT := hid hlt
                have CJR : Hid (∀ W, Ext wr W → W.rangeAt bL (oL + j * 5) [.int .i64 ((t.ch 4).ch j).kind, .int .u64 (((t.ch 4).ch j).n : Int), str ((t.ch 4).ch j).s, .slice Aj ((t.ch 4).ch j).k cj, .bool ((t.ch 4).ch j).op]) := hid (fun W hW => (hat.mod hW hbL (by simp)).range)
                have HKEEP : Hid (∀ W, Mod (O :: obs A') wl W → Ext wr W) := hid (fun W hW => ((Mod.of_ext (S := O :: obs A') HVW.out).trans hW).new (fun k hk => .inr (by
                  have hzz := HZZ.out
                  rcases List.mem_cons.1 hk with rfl | hk
                  · omega
                  · cases A' with
                    | none => cases hk
                    | some g'' => have := (HR.out.off g'' rfl).1; simp [obs] at hk; omega)))
                have HKP : Hid (∀ W, Mod (O :: obs A') wl W → Calls Tryz.prog 32 #[itemV ((t.ch 4).ch j) Aj cj] W (P15Post (fun b => V.heap.size ≤ b ∧ b < wr.heap.size) ((t.ch 4).ch j) W)) := hid (fun W hW => r15readP_any ((t.ch 4).ch j) (T.okc (HKD.out.o 4 (by rw [HTK.out]; omega)) HLT.out) (HKD.out.kk (by rw [HTK.out]; omega) HLT.out) Aj cj W (hIj.ext (HKEEP.out W hW)))
                clear hlt hjk hVW hzw hB' hR' hN'  hS hat hbL hqL hIj
                go_upto_region 28 with fail
                clear b0w
                refine wp_region_held_drew (S := fun w' => Mod (O :: obs A') wl w') (by kernel_rfl) (Mod.refl _ _).drew (fun hHeld => ?_)
                have hO9 : Blk wl.drew O 29 #[.slice At (t.ch 0).k ct, .int .i64 (X), .int .i64 E.sch, str E.name, .int .u64 (E.node : Int), .int .u64 (E.svc : Int), .slice none 0 0, .slice A' j c'] := HB.out.drew
                have hR9 := HR.out.ext ((Mod.refl [] wl).drew)
                generalize wl.drew = y0 at *
                refine' wpAnyH_take (i := 0) (v := _) rfl (by kernel_rfl) (by kernel_rfl) (by kernel_rfl) (fun _ _ _ h => h) (Or.inl ⟨by rfl, ?hy1⟩) hHeld ?rest1
                case hy1 => (rintro W hM; go_simp; (try with_reducible rfl))
                case rest1 =>
                (try simp only [Act.put, List.getElem_toArray, List.getElem_cons_zero, List.getElem_cons_succ, List.setIfInBounds_toArray, List.set_cons_zero, List.set_cons_succ])
                refine' wpAnyH_take (i := 2) (v := _) rfl (by kernel_rfl) (by kernel_rfl) (by kernel_rfl) (fun _ _ _ h => h) (Or.inl ⟨by rfl, ?hy2⟩) hHeld ?rest2
                case hy2 => (rintro W hM; go_simp; (try with_reducible rfl))
                case rest2 =>
                (try simp only [Act.put, List.getElem_toArray, List.getElem_cons_zero, List.getElem_cons_succ, List.setIfInBounds_toArray, List.set_cons_zero, List.set_cons_succ])
                refine' wpAnyH_take (i := 3) (v := _) rfl (by kernel_rfl) (by kernel_rfl) (by kernel_rfl) (fun _ _ _ h => h) (Or.inl ⟨by rfl, ?hy3⟩) hHeld ?rest3
                case hy3 => (rintro W hM; go_simp; (try with_reducible rfl))
                case rest3 =>
                (try simp only [Act.put, List.getElem_toArray, List.getElem_cons_zero, List.getElem_cons_succ, List.setIfInBounds_toArray, List.set_cons_zero, List.set_cons_succ])
                refine' wpAnyH_take (i := 4) (v := _) rfl (by kernel_rfl) (by kernel_rfl) (by kernel_rfl) (fun _ _ _ h => h) (Or.inl ⟨by rfl, ?hy4⟩) hHeld ?rest4
                case hy4 => (rintro W hM; have w4 : IntKind.i64.wrap 4 = 4 := (by decide); go_simp; (try with_reducible rfl))
                case rest4 =>
                (try simp only [Act.put, List.getElem_toArray, List.getElem_cons_zero, List.getElem_cons_succ, List.setIfInBounds_toArray, List.set_cons_zero, List.set_cons_succ])
                refine' wpAnyH_take (i := 5) (v := _) rfl (by kernel_rfl) (by kernel_rfl) (by kernel_rfl) (fun _ _ _ h => h) (Or.inl ⟨by rfl, ?hy5⟩) hHeld ?rest5
                case hy5 => (rintro W hM; go_simp; (try with_reducible rfl))
                case rest5 =>
                (try simp only [Act.put, List.getElem_toArray, List.getElem_cons_zero, List.getElem_cons_succ, List.setIfInBounds_toArray, List.set_cons_zero, List.set_cons_succ])
                refine' wpAnyH_take (i := 6) (v := _) rfl (by kernel_rfl) (by kernel_rfl) (by kernel_rfl) (fun _ _ _ h => h) (Or.inl ⟨by rfl, ?hy6⟩) hHeld ?rest6
                case hy6 => (rintro W hM; go_simp; (try with_reducible rfl))
                case rest6 =>
                (try simp only [Act.put, List.getElem_toArray, List.getElem_cons_zero, List.getElem_cons_succ, List.setIfInBounds_toArray, List.set_cons_zero, List.set_cons_succ])
                refine' wpAnyH_take (i := 7) (v := _) rfl (by kernel_rfl) (by kernel_rfl) (by kernel_rfl) (fun _ _ _ h => h) (Or.inl ⟨by rfl, ?hy7⟩) hHeld ?rest7
                case hy7 => (rintro W hM; have q := CL3.out W (HKEEP.out W hM); go_simp; (try with_reducible rfl))
                case rest7 =>
                (try simp only [Act.put, List.getElem_toArray, List.getElem_cons_zero, List.getElem_cons_succ, List.setIfInBounds_toArray, List.set_cons_zero, List.set_cons_succ])
                refine' wpAnyH_take (i := 8) (v := _) rfl (by kernel_rfl) (by kernel_rfl) (by kernel_rfl) (fun _ _ _ h => h) (Or.inl ⟨by rfl, ?hy8⟩) hHeld ?rest8
                case hy8 => (rintro W hM; go_simp; (try with_reducible rfl))
                case rest8 =>
                (try simp only [Act.put, List.getElem_toArray, List.getElem_cons_zero, List.getElem_cons_succ, List.setIfInBounds_toArray, List.set_cons_zero, List.set_cons_succ])
                refine' wpAnyH_take (i := 9) (v := _) rfl (by kernel_rfl) (by kernel_rfl) (by kernel_rfl) (fun _ _ _ h => h) (Or.inl ⟨by rfl, ?hy9⟩) hHeld ?rest9
                case hy9 => (rintro W hM; go_simp; (try with_reducible rfl))
                case rest9 =>
                (try simp only [Act.put, List.getElem_toArray, List.getElem_cons_zero, List.getElem_cons_succ, List.setIfInBounds_toArray, List.set_cons_zero, List.set_cons_succ])
                refine wpAnyH_take (i := 10) rfl (by kernel_rfl) (by kernel_rfl) (by kernel_rfl) (fun _ _ _ h => h) (yieldsIf_mid (by rfl) 47 _ rfl bL (oL + j * 5) rfl [.int .i64 ((t.ch 4).ch j).kind, .int .u64 (((t.ch 4).ch j).n : Int), str ((t.ch 4).ch j).s, .slice Aj ((t.ch 4).ch j).k cj, .bool ((t.ch 4).ch j).op] (fun W hM => CJR.out W (HKEEP.out W hM)) Tryz.underlying47 rfl (by kernel_rfl)) hHeld ?_
                (try simp only [Act.put, List.getElem_toArray, List.getElem_cons_zero, List.getElem_cons_succ, List.setIfInBounds_toArray, List.set_cons_zero, List.set_cons_succ])
                refine wpAnyH_ready (rs := [1, 11]) (by kernel_rfl) (by simp) ?_
                refine AllReadyH.cons rfl (fun K hK => ?_) (AllReadyH.cons rfl (fun K hK => ?_) AllReadyH.nil)
                · have c7 : y0.cell? ⟨O, 7, none⟩ = some (.slice A' j c') := hO9.cell 7
                  go_simp
                  refine hK.out _ _ hHeld (fun hHeld => ?_)
                  clear hK K c7
                  (try simp only [Act.put, List.getElem_toArray, List.getElem_cons_zero, List.getElem_cons_succ, List.setIfInBounds_toArray, List.set_cons_zero, List.set_cons_succ])
                  refine wpAnyH_ready (rs := [11]) (by kernel_rfl) (by simp) ?_
                  refine AllReadyH.cons rfl (fun K hK => ?_) AllReadyH.nil
                  go_simp
                  go_at_call 32
                  refine (HKP.out y0 hHeld).mono ?_
                  rintro x y2 ⟨A5, c5, rfl, hb, hc5, hp5⟩
                  have hsz5 : wl.heap.size ≤ y0.heap.size := hHeld.size
                  have hO9 := hO9.ext hb
                  have hR9 := hR9.ext hb
                  refine hK.out _ _ (hHeld.trans (hb.mono (by simp))) (fun hHeld => ?_)
                  clear hK K
                  (try simp only [Act.put, List.getElem_toArray, List.getElem_cons_zero, List.getElem_cons_succ, List.setIfInBounds_toArray, List.set_cons_zero, List.set_cons_succ])
                  have hp5 : PsL y2 (fun b => (V.heap.size ≤ b ∧ b < wr.heap.size) ∨ wl.heap.size ≤ b) A5 (r15P ((t.ch 4).ch j)) := hp5.weak (fun b _ h => h.elim (fun h => .inl h.1) (fun h => .inr (Nat.le_trans hsz5 h)))
                  clear hb
                  refine wpAnyH_ready (rs := [12]) (by kernel_rfl) (by simp) ?_
                  refine AllReadyH.cons rfl (fun K hK => ?_) AllReadyH.nil
                  go_simp
                  have hQ2 : Blk (World.alloc y2 (.cells #[.slice A5 (r15P ((t.ch 4).ch j)).k c5] 26)) y2.heap.size 26 #[.slice A5 (r15P ((t.ch 4).ch j)).k c5] := Blk.new _ _ _
                  have hXX : Ext y2 (World.alloc y2 (.cells #[.slice A5 (r15P ((t.ch 4).ch j)).k c5] 26)) := (Mod.refl [] _).alloc _
                  generalize World.alloc y2 (.cells #[.slice A5 (r15P ((t.ch 4).ch j)).k c5] 26) = y3 at *
                  have hO9 := hO9.ext hXX
                  have hR9 := hR9.ext hXX
                  have hp5 := hp5.ext hXX
                  refine hK.out _ _ (hHeld.trans (hXX.mono (by simp))) (fun hHeld => ?_)
                  clear hK K
                  (try simp only [Act.put, List.getElem_toArray, List.getElem_cons_zero, List.getElem_cons_succ, List.setIfInBounds_toArray, List.set_cons_zero, List.set_cons_succ])
                  generalize y2.heap.size = gq at *
                  refine wpAnyH_ready (rs := [13]) (by kernel_rfl) (by simp) ?_
                  refine AllReadyH.cons rfl (fun K hK => ?_) AllReadyH.nil
                  have hI : resH.hang y3 (fun b => (b ≠ O ∧ b ≠ w.heap.size) ∧ offA A' b) (r15P ((t.ch 4).ch j)) (A5, c5) := ⟨hp5.weak (fun b _ hb => ⟨⟨by have := HZZ.out; have := HWZ.out; have hb : (V.heap.size ≤ b ∧ b < wr.heap.size) ∨ wl.heap.size ≤ b := hb; omega, by have := HZZ.out; have := HWZ.out; have hb : (V.heap.size ≤ b ∧ b < wr.heap.size) ∨ wl.heap.size ≤ b := hb; omega⟩, fun g hg => by have := HR.out.off g hg; have := HZZ.out; have hb : (V.heap.size ≤ b ∧ b < wr.heap.size) ∨ wl.heap.size ≤ b := hb; omega⟩), hc5⟩
                  obtain ⟨ib, hi, hz0, hz1, hz2⟩ := info_parts infoPairs
                  refine wp_append_lies _ _ _ 27 (by rfl) Z3.heap.size 26 ib _ 1 24 Tryz.underlying27 hi hz0 hz1 hz2 (by rfl) (by decide) _ j _ (by rfl) hR9.own ⟨gq, 0, none⟩ 1 1 [.slice A5 (r15P ((t.ch 4).ch j)).k c5] (by rfl) (by rfl) ?gnewy4 ?goney4 (by decide) ?gmy4 ?gby4 ?gbasey4 (y3.heap.size) rfl ?gky4
                  case gnewy4 =>
                    intro j' u hu
                    rw [addr_add, Nat.zero_add, hQ2.cell j']
                    simpa using hu
                  case goney4 => intro u hu; simp at hu; subst hu; rfl
                  case gmy4 => have := HLT.out; unfold maxLen; omega
                  case gby4 => have := HLT.out; omega
                  case gbasey4 => have := HWZ.out; have := hHeld.size; omega
                  intro g' cp' y4 hown' hgr' hat' hlt'
                  obtain ⟨ac', hR5⟩ := hR9.append hI rfl hown' hgr' hat'
                  have hOO : O ∉ obs A' := by
                    refine offA_obs (fun g' hg' => ?_)
                    have := (HR.out.off g' hg').1
                    have := HZZ.out
                    omega
                  have hO9 := hO9.mod (grown_obs hgr') hOO
                  refine hK.out _ _ (hHeld.trans ((grown_obs hgr').mono (by simp; exact fun k hk => .inr hk))) (fun hHeld => ?_)
                  clear hK K
                  (try simp only [Act.put, List.getElem_toArray, List.getElem_cons_zero, List.getElem_cons_succ, List.setIfInBounds_toArray, List.set_cons_zero, List.set_cons_succ])
                  refine' wpAnyH_take (i := 14) (v := _) rfl (by kernel_rfl) (by kernel_rfl) (by kernel_rfl) (fun _ _ _ h => h) (Or.inl ⟨by rfl, ?hy10⟩) hHeld ?rest10
                  case hy10 => (rintro W hM; go_simp; (try with_reducible rfl))
                  case rest10 =>
                  (try simp only [Act.put, List.getElem_toArray, List.getElem_cons_zero, List.getElem_cons_succ, List.setIfInBounds_toArray, List.set_cons_zero, List.set_cons_succ])
                  refine wpAnyH_ready (rs := [15]) (by kernel_rfl) (by simp) ?_
                  refine AllReadyH.cons rfl (fun K hK => ?_) AllReadyH.nil
                  have c7 : y4.cell? ⟨O, 7, none⟩ = some (.slice A' j c') := hO9.cell 7
                  have f7 := hO9.frozen 7
                  go_simp
                  have hOf := hO9.set_ 7 (.slice (some ⟨g', 0, none⟩) (j + 1) cp')
                  have hM7 := (Mod.refl [O] y4).setCell (p := ⟨O, 7, none⟩) (.inl (by simp)) (.slice (some ⟨g', 0, none⟩) (j + 1) cp')
                  generalize World.setCell y4 ⟨O, 7, none⟩ _ = yf at *
                  refine hK.out _ _ (hHeld.trans (hM7.mono (by simp))) (fun hHeld => ?_)
                  clear hK K c7 f7
                  (try simp only [Act.put, List.getElem_toArray, List.getElem_cons_zero, List.getElem_cons_succ, List.setIfInBounds_toArray, List.set_cons_zero, List.set_cons_succ])
                  refine wpAnyH_done (by kernel_rfl) ?_ _
                  have hg'z : g' ≠ O := by
                    have h1 : Z3.heap.size ≤ g' := (hR5.off _ rfl).1
                    have := HZZ.out
                    omega
                  have HBF : Hid (Blk yf O 29 #[.slice At (t.ch 0).k ct, .int .i64 (X), .int .i64 E.sch, str E.name, .int .u64 (E.node : Int), .int .u64 (E.svc : Int), .slice none 0 0, .slice (some ⟨g', 0, none⟩) (j + 1) cp']) := hid hOf
                  have HRF := hid (hR5.modQ hM7 (fun g'' hg'' => by cases hg''; simpa using hg'z) (fun k hk _ => by simpa using hk.1))
                  have HMF : Hid (Mod (O :: obs A') wl yf) := hid hHeld
                  clear hOf hR5 hM7 hHeld hO9 hR9 hown' hgr' hat' hlt' hQ2 hI hOO
                  go_wp2_with fail
                  go_roundw
                  case rel =>
                    refine ⟨j + 1, by go_num, (show Hid _ from ⟨some ⟨g', 0, none⟩, cp', ac', HLT.out, HKEEP.out _ HMF.out, Nat.le_trans HWZ.out HMF.out.size, HBF.out, HRF.out, HN.out.mod HMF.out ?_⟩)⟩
                    · intro b' o' h _ hm
                      have h1 := HKQ.out _ h
                      have h2 := HZZ.out
                      rcases List.mem_cons.1 hm with h | h
                      · have h3 : z.heap.size ≤ b' := h1.1; omega
                      · exact offA_obs (fun g'' hg'' => by have := (HR.out.off g'' hg'').1; have h3 : b' < Z3.heap.size := h1.2; show b' ≠ g''.block; omega) h
                  case measure => have := HLT.out; simp [intOf]; omega
                · go_simp
                  go_at_call 32
                  refine (HKP.out y0 hHeld).mono ?_
                  rintro x y5 ⟨A5, c5, rfl, hb, hc5, hp5⟩
                  have hsz5 : wl.heap.size ≤ y0.heap.size := hHeld.size
                  have hO9 := hO9.ext hb
                  have hR9 := hR9.ext hb
                  refine hK.out _ _ (hHeld.trans (hb.mono (by simp))) (fun hHeld => ?_)
                  clear hK K
                  (try simp only [Act.put, List.getElem_toArray, List.getElem_cons_zero, List.getElem_cons_succ, List.setIfInBounds_toArray, List.set_cons_zero, List.set_cons_succ])
                  have hp5 : PsL y5 (fun b => (V.heap.size ≤ b ∧ b < wr.heap.size) ∨ wl.heap.size ≤ b) A5 (r15P ((t.ch 4).ch j)) := hp5.weak (fun b _ h => h.elim (fun h => .inl h.1) (fun h => .inr (Nat.le_trans hsz5 h)))
                  clear hb
                  refine wpAnyH_ready (rs := [1, 12]) (by kernel_rfl) (by simp) ?_
                  refine AllReadyH.cons rfl (fun K hK => ?_) (AllReadyH.cons rfl (fun K hK => ?_) AllReadyH.nil)
                  · have c7 : y5.cell? ⟨O, 7, none⟩ = some (.slice A' j c') := hO9.cell 7
                    go_simp
                    refine hK.out _ _ hHeld (fun hHeld => ?_)
                    clear hK K c7
                    (try simp only [Act.put, List.getElem_toArray, List.getElem_cons_zero, List.getElem_cons_succ, List.setIfInBounds_toArray, List.set_cons_zero, List.set_cons_succ])
                    refine wpAnyH_ready (rs := [12]) (by kernel_rfl) (by simp) ?_
                    refine AllReadyH.cons rfl (fun K hK => ?_) AllReadyH.nil
                    go_simp
                    have hQ2 : Blk (World.alloc y5 (.cells #[.slice A5 (r15P ((t.ch 4).ch j)).k c5] 26)) y5.heap.size 26 #[.slice A5 (r15P ((t.ch 4).ch j)).k c5] := Blk.new _ _ _
                    have hXX : Ext y5 (World.alloc y5 (.cells #[.slice A5 (r15P ((t.ch 4).ch j)).k c5] 26)) := (Mod.refl [] _).alloc _
                    generalize World.alloc y5 (.cells #[.slice A5 (r15P ((t.ch 4).ch j)).k c5] 26) = y7 at *
                    have hO9 := hO9.ext hXX
                    have hR9 := hR9.ext hXX
                    have hp5 := hp5.ext hXX
                    refine hK.out _ _ (hHeld.trans (hXX.mono (by simp))) (fun hHeld => ?_)
                    clear hK K
                    (try simp only [Act.put, List.getElem_toArray, List.getElem_cons_zero, List.getElem_cons_succ, List.setIfInBounds_toArray, List.set_cons_zero, List.set_cons_succ])
                    generalize y5.heap.size = gq at *
                    refine wpAnyH_ready (rs := [13]) (by kernel_rfl) (by simp) ?_
                    refine AllReadyH.cons rfl (fun K hK => ?_) AllReadyH.nil
                    have hI : resH.hang y7 (fun b => (b ≠ O ∧ b ≠ w.heap.size) ∧ offA A' b) (r15P ((t.ch 4).ch j)) (A5, c5) := ⟨hp5.weak (fun b _ hb => ⟨⟨by have := HZZ.out; have := HWZ.out; have hb : (V.heap.size ≤ b ∧ b < wr.heap.size) ∨ wl.heap.size ≤ b := hb; omega, by have := HZZ.out; have := HWZ.out; have hb : (V.heap.size ≤ b ∧ b < wr.heap.size) ∨ wl.heap.size ≤ b := hb; omega⟩, fun g hg => by have := HR.out.off g hg; have := HZZ.out; have hb : (V.heap.size ≤ b ∧ b < wr.heap.size) ∨ wl.heap.size ≤ b := hb; omega⟩), hc5⟩
                    obtain ⟨ib, hi, hz0, hz1, hz2⟩ := info_parts infoPairs
                    refine wp_append_lies _ _ _ 27 (by rfl) Z3.heap.size 26 ib _ 1 24 Tryz.underlying27 hi hz0 hz1 hz2 (by rfl) (by decide) _ j _ (by rfl) hR9.own ⟨gq, 0, none⟩ 1 1 [.slice A5 (r15P ((t.ch 4).ch j)).k c5] (by rfl) (by rfl) ?gnewy8 ?goney8 (by decide) ?gmy8 ?gby8 ?gbasey8 (y7.heap.size) rfl ?gky8
                    case gnewy8 =>
                      intro j' u hu
                      rw [addr_add, Nat.zero_add, hQ2.cell j']
                      simpa using hu
                    case goney8 => intro u hu; simp at hu; subst hu; rfl
                    case gmy8 => have := HLT.out; unfold maxLen; omega
                    case gby8 => have := HLT.out; omega
                    case gbasey8 => have := HWZ.out; have := hHeld.size; omega
                    intro g' cp' y8 hown' hgr' hat' hlt'
                    obtain ⟨ac', hR5⟩ := hR9.append hI rfl hown' hgr' hat'
                    have hOO : O ∉ obs A' := by
                      refine offA_obs (fun g' hg' => ?_)
                      have := (HR.out.off g' hg').1
                      have := HZZ.out
                      omega
                    have hO9 := hO9.mod (grown_obs hgr') hOO
                    refine hK.out _ _ (hHeld.trans ((grown_obs hgr').mono (by simp; exact fun k hk => .inr hk))) (fun hHeld => ?_)
                    clear hK K
                    (try simp only [Act.put, List.getElem_toArray, List.getElem_cons_zero, List.getElem_cons_succ, List.setIfInBounds_toArray, List.set_cons_zero, List.set_cons_succ])
                    refine' wpAnyH_take (i := 14) (v := _) rfl (by kernel_rfl) (by kernel_rfl) (by kernel_rfl) (fun _ _ _ h => h) (Or.inl ⟨by rfl, ?hy11⟩) hHeld ?rest11
                    case hy11 => (rintro W hM; go_simp; (try with_reducible rfl))
                    case rest11 =>
                    (try simp only [Act.put, List.getElem_toArray, List.getElem_cons_zero, List.getElem_cons_succ, List.setIfInBounds_toArray, List.set_cons_zero, List.set_cons_succ])
                    refine wpAnyH_ready (rs := [15]) (by kernel_rfl) (by simp) ?_
                    refine AllReadyH.cons rfl (fun K hK => ?_) AllReadyH.nil
                    have c7 : y8.cell? ⟨O, 7, none⟩ = some (.slice A' j c') := hO9.cell 7
                    have f7 := hO9.frozen 7
                    go_simp
                    have hOf := hO9.set_ 7 (.slice (some ⟨g', 0, none⟩) (j + 1) cp')
                    have hM7 := (Mod.refl [O] y8).setCell (p := ⟨O, 7, none⟩) (.inl (by simp)) (.slice (some ⟨g', 0, none⟩) (j + 1) cp')
                    generalize World.setCell y8 ⟨O, 7, none⟩ _ = yf at *
                    refine hK.out _ _ (hHeld.trans (hM7.mono (by simp))) (fun hHeld => ?_)
                    clear hK K c7 f7
                    (try simp only [Act.put, List.getElem_toArray, List.getElem_cons_zero, List.getElem_cons_succ, List.setIfInBounds_toArray, List.set_cons_zero, List.set_cons_succ])
                    refine wpAnyH_done (by kernel_rfl) ?_ _
                    have hg'z : g' ≠ O := by
                      have h1 : Z3.heap.size ≤ g' := (hR5.off _ rfl).1
                      have := HZZ.out
                      omega
                    have HBF : Hid (Blk yf O 29 #[.slice At (t.ch 0).k ct, .int .i64 (X), .int .i64 E.sch, str E.name, .int .u64 (E.node : Int), .int .u64 (E.svc : Int), .slice none 0 0, .slice (some ⟨g', 0, none⟩) (j + 1) cp']) := hid hOf
                    have HRF := hid (hR5.modQ hM7 (fun g'' hg'' => by cases hg''; simpa using hg'z) (fun k hk _ => by simpa using hk.1))
                    have HMF : Hid (Mod (O :: obs A') wl yf) := hid hHeld
                    clear hOf hR5 hM7 hHeld hO9 hR9 hown' hgr' hat' hlt' hQ2 hI hOO
                    go_wp2_with fail
                    go_roundw
                    case rel =>
                      refine ⟨j + 1, by go_num, (show Hid _ from ⟨some ⟨g', 0, none⟩, cp', ac', HLT.out, HKEEP.out _ HMF.out, Nat.le_trans HWZ.out HMF.out.size, HBF.out, HRF.out, HN.out.mod HMF.out ?_⟩)⟩
                      · intro b' o' h _ hm
                        have h1 := HKQ.out _ h
                        have h2 := HZZ.out
                        rcases List.mem_cons.1 hm with h | h
                        · have h3 : z.heap.size ≤ b' := h1.1; omega
                        · exact offA_obs (fun g'' hg'' => by have := (HR.out.off g'' hg'').1; have h3 : b' < Z3.heap.size := h1.2; show b' ≠ g''.block; omega) h
                    case measure => have := HLT.out; simp [intOf]; omega
                  · go_simp
                    have hQ2 : Blk (World.alloc y5 (.cells #[.slice A5 (r15P ((t.ch 4).ch j)).k c5] 26)) y5.heap.size 26 #[.slice A5 (r15P ((t.ch 4).ch j)).k c5] := Blk.new _ _ _
                    have hXX : Ext y5 (World.alloc y5 (.cells #[.slice A5 (r15P ((t.ch 4).ch j)).k c5] 26)) := (Mod.refl [] _).alloc _
                    generalize World.alloc y5 (.cells #[.slice A5 (r15P ((t.ch 4).ch j)).k c5] 26) = y9 at *
                    have hO9 := hO9.ext hXX
                    have hR9 := hR9.ext hXX
                    have hp5 := hp5.ext hXX
                    refine hK.out _ _ (hHeld.trans (hXX.mono (by simp))) (fun hHeld => ?_)
                    clear hK K
                    (try simp only [Act.put, List.getElem_toArray, List.getElem_cons_zero, List.getElem_cons_succ, List.setIfInBounds_toArray, List.set_cons_zero, List.set_cons_succ])
                    generalize y5.heap.size = gq at *
                    refine wpAnyH_ready (rs := [1]) (by kernel_rfl) (by simp) ?_
                    refine AllReadyH.cons rfl (fun K hK => ?_) AllReadyH.nil
                    have c7 : y9.cell? ⟨O, 7, none⟩ = some (.slice A' j c') := hO9.cell 7
                    go_simp
                    refine hK.out _ _ hHeld (fun hHeld => ?_)
                    clear hK K c7
                    (try simp only [Act.put, List.getElem_toArray, List.getElem_cons_zero, List.getElem_cons_succ, List.setIfInBounds_toArray, List.set_cons_zero, List.set_cons_succ])
                    refine wpAnyH_ready (rs := [13]) (by kernel_rfl) (by simp) ?_
                    refine AllReadyH.cons rfl (fun K hK => ?_) AllReadyH.nil
                    have hI : resH.hang y9 (fun b => (b ≠ O ∧ b ≠ w.heap.size) ∧ offA A' b) (r15P ((t.ch 4).ch j)) (A5, c5) := ⟨hp5.weak (fun b _ hb => ⟨⟨by have := HZZ.out; have := HWZ.out; have hb : (V.heap.size ≤ b ∧ b < wr.heap.size) ∨ wl.heap.size ≤ b := hb; omega, by have := HZZ.out; have := HWZ.out; have hb : (V.heap.size ≤ b ∧ b < wr.heap.size) ∨ wl.heap.size ≤ b := hb; omega⟩, fun g hg => by have := HR.out.off g hg; have := HZZ.out; have hb : (V.heap.size ≤ b ∧ b < wr.heap.size) ∨ wl.heap.size ≤ b := hb; omega⟩), hc5⟩
                    obtain ⟨ib, hi, hz0, hz1, hz2⟩ := info_parts infoPairs
                    refine wp_append_lies _ _ _ 27 (by rfl) Z3.heap.size 26 ib _ 1 24 Tryz.underlying27 hi hz0 hz1 hz2 (by rfl) (by decide) _ j _ (by rfl) hR9.own ⟨gq, 0, none⟩ 1 1 [.slice A5 (r15P ((t.ch 4).ch j)).k c5] (by rfl) (by rfl) ?gnewy11 ?goney11 (by decide) ?gmy11 ?gby11 ?gbasey11 (y9.heap.size) rfl ?gky11
                    case gnewy11 =>
                      intro j' u hu
                      rw [addr_add, Nat.zero_add, hQ2.cell j']
                      simpa using hu
                    case goney11 => intro u hu; simp at hu; subst hu; rfl
                    case gmy11 => have := HLT.out; unfold maxLen; omega
                    case gby11 => have := HLT.out; omega
                    case gbasey11 => have := HWZ.out; have := hHeld.size; omega
                    intro g' cp' y11 hown' hgr' hat' hlt'
                    obtain ⟨ac', hR5⟩ := hR9.append hI rfl hown' hgr' hat'
                    have hOO : O ∉ obs A' := by
                      refine offA_obs (fun g' hg' => ?_)
                      have := (HR.out.off g' hg').1
                      have := HZZ.out
                      omega
                    have hO9 := hO9.mod (grown_obs hgr') hOO
                    refine hK.out _ _ (hHeld.trans ((grown_obs hgr').mono (by simp; exact fun k hk => .inr hk))) (fun hHeld => ?_)
                    clear hK K
                    (try simp only [Act.put, List.getElem_toArray, List.getElem_cons_zero, List.getElem_cons_succ, List.setIfInBounds_toArray, List.set_cons_zero, List.set_cons_succ])
                    refine' wpAnyH_take (i := 14) (v := _) rfl (by kernel_rfl) (by kernel_rfl) (by kernel_rfl) (fun _ _ _ h => h) (Or.inl ⟨by rfl, ?hy12⟩) hHeld ?rest12
                    case hy12 => (rintro W hM; go_simp; (try with_reducible rfl))
                    case rest12 =>
                    (try simp only [Act.put, List.getElem_toArray, List.getElem_cons_zero, List.getElem_cons_succ, List.setIfInBounds_toArray, List.set_cons_zero, List.set_cons_succ])
                    refine wpAnyH_ready (rs := [15]) (by kernel_rfl) (by simp) ?_
                    refine AllReadyH.cons rfl (fun K hK => ?_) AllReadyH.nil
                    have c7 : y11.cell? ⟨O, 7, none⟩ = some (.slice A' j c') := hO9.cell 7
                    have f7 := hO9.frozen 7
                    go_simp
                    have hOf := hO9.set_ 7 (.slice (some ⟨g', 0, none⟩) (j + 1) cp')
                    have hM7 := (Mod.refl [O] y11).setCell (p := ⟨O, 7, none⟩) (.inl (by simp)) (.slice (some ⟨g', 0, none⟩) (j + 1) cp')
                    generalize World.setCell y11 ⟨O, 7, none⟩ _ = yf at *
                    refine hK.out _ _ (hHeld.trans (hM7.mono (by simp))) (fun hHeld => ?_)
                    clear hK K c7 f7
                    (try simp only [Act.put, List.getElem_toArray, List.getElem_cons_zero, List.getElem_cons_succ, List.setIfInBounds_toArray, List.set_cons_zero, List.set_cons_succ])
                    refine wpAnyH_done (by kernel_rfl) ?_ _
                    have hg'z : g' ≠ O := by
                      have h1 : Z3.heap.size ≤ g' := (hR5.off _ rfl).1
                      have := HZZ.out
                      omega
                    have HBF : Hid (Blk yf O 29 #[.slice At (t.ch 0).k ct, .int .i64 (X), .int .i64 E.sch, str E.name, .int .u64 (E.node : Int), .int .u64 (E.svc : Int), .slice none 0 0, .slice (some ⟨g', 0, none⟩) (j + 1) cp']) := hid hOf
                    have HRF := hid (hR5.modQ hM7 (fun g'' hg'' => by cases hg''; simpa using hg'z) (fun k hk _ => by simpa using hk.1))
                    have HMF : Hid (Mod (O :: obs A') wl yf) := hid hHeld
                    clear hOf hR5 hM7 hHeld hO9 hR9 hown' hgr' hat' hlt' hQ2 hI hOO
                    go_wp2_with fail
                    go_roundw
                    case rel =>
                      refine ⟨j + 1, by go_num, (show Hid _ from ⟨some ⟨g', 0, none⟩, cp', ac', HLT.out, HKEEP.out _ HMF.out, Nat.le_trans HWZ.out HMF.out.size, HBF.out, HRF.out, HN.out.mod HMF.out ?_⟩)⟩
                      · intro b' o' h _ hm
                        have h1 := HKQ.out _ h
                        have h2 := HZZ.out
                        rcases List.mem_cons.1 hm with h | h
                        · have h3 : z.heap.size ≤ b' := h1.1; omega
                        · exact offA_obs (fun g'' hg'' => by have := (HR.out.off g'' hg'').1; have h3 : b' < Z3.heap.size := h1.2; show b' ≠ g''.block; omega) h
                    case measure => have := HLT.out; simp [intOf]; omega
              · have hjt : j = (t.ch 4).k := by obtain ⟨_, _, _, hjk, _⟩ := hS.out; omega
                have tc : decide (j < (t.ch 4).k) = false := by rw [hjt]; simp
                have j1 : ¬ (j : Int) < ((t.ch 4).k : Int) := by omega
                obtain ⟨A', c', ac, hjk, hVW, hzw, hB', hR', hN'⟩ := hS.out
                have HVW := hid hVW
                rw [hjt] at hB' hR'
                have HB := hid hB'
                have HRS := hid (hR'.rs (fun b hb => by have := HZZ.out; constructor <;> omega))
                have HN := hid hN'
                skip
                clear hS hjk hVW hzw hB' hR' hN'  hjt
                have HRA : Hid (r15A t = ⟨(t.ch 0).k, tgtN (t.ch 0), X, E, zeroA.ps, (t.ch 4).k, fun i => r15P ((t.ch 4).ch i)⟩) := hid (by unfold r15A; rw [HTK.out, HXE.out, HEE.out]; rfl)
                have HCE : Hid (asbC (r15A t) ⟨At, ct, none, 0, A', c'⟩ = #[.slice At (t.ch 0).k ct, .int .i64 (X), .int .i64 E.sch, str E.name, .int .u64 (E.node : Int), .int .u64 (E.svc : Int), .slice none 0 0, .slice A' (t.ch 4).k c']) := hid (by rw [HRA.out] <;> rfl)
                have HALL : Hid (AsL wl (fun b => b ≠ w.heap.size) (r15A t) ⟨At, ct, none, 0, A', c'⟩) := hid (by
                  rw [HRA.out]
                  exact ⟨HN.out, fun b o hA _ => by have h1 := (HKQ.out _ hA).1; have h1 : z.heap.size ≤ b := h1; have := HZZ.out; show b ≠ w.heap.size; omega, fun h => absurd h (Nat.lt_irrefl 0), HRS.out.weak (fun b _ hb => hb.2)⟩)
                have HZC := hid (ZC.mk' (r15A t) ⟨At, ct, none, 0, A', c'⟩)
                obtain ⟨zc, hzc⟩ : ∃ zc, asbC (r15A t) ⟨At, ct, none, 0, A', c'⟩ = zc := ⟨_, rfl⟩
                have HZE := hid hzc
                rw [HCE.out.symm.trans hzc] at HB
                rw [hzc] at HZC
                have KRR : Hid (∀ e : Later wl, Calls Tryz.prog 7 #[.agg zc] e.x (Ret (.bool (r15A t).right) e.x)) := hid (fun e => by rw [← HZE.out]; exact r15Right_any (r15A t) HWF.out (fun _ => HSMA.out) ⟨At, ct, none, 0, A', c'⟩ e.x ((HALL.out.ext e.h).wk (fun _ _ _ => trivial)))
                have KBU : Hid (∀ e : Later wl, (r15A t).shaped = true → Calls Tryz.prog 11 #[.agg zc] e.x (Ret (str (r15A t).bytes) e.x)) := hid (fun e hs => by rw [← HZE.out]; exact r15Bytes_any (r15A t) HWF.out HSMA.out hs ⟨At, ct, none, 0, A', c'⟩ e.x ((HALL.out.ext e.h).wk (fun _ _ _ => trivial)))
                have HEQ2 : Hid (∀ a, isAsb l a → a.Eqv (r15A t) ∧ a.shaped = true) := hid (fun a ha => ⟨(HEQ.out a ha).2.2, (HEQ.out a ha).1⟩)
                have HBR := hid (HBW.out.ext HVW.out)
                have HE2 := hid (HEW.out.trans HVW.out)
                have HRL : Hid (∀ e : Later wl, Blk e.x O 29 zc) := hid (fun e => HB.out.later e)
                clear hzc HCE HRA HB HRS HN  HEQ HKD HTK
                go_upto_region 29 with fail
                clear b0w tc j1
                generalize r15A t = B at *
                obtain ⟨e, he⟩ := Later.self wl
                rw [he]
                clear he
                have tk1 : True := trivial
                have tk2 : True := trivial
                cases hr : B.right with
                | false =>
                  have HNO : Hid (∀ a, ¬ isAsb l a) := hid (fun a ha => by
                    obtain ⟨h1, h2⟩ := HEQ2.out a ha
                    have hs := h1.shaped h2
                    have hk : a.rk = a.tk := (AV.shaped_iff.1 h2).2.2.2.2.2.2.1
                    have hb := h1.bytes hk
                    have h3 := ha.2.1
                    unfold AV.right at h3 hr
                    rw [hs, Bool.true_and] at hr
                    rw [h2, Bool.true_and, hb, hr] at h3
                    exact absurd h3 (by decide))
                  rw [hr] at KRR
                  clear hr HEQ2 KBU
                  go_upto_region 30 with (first | (clear tk1; refine wpList_row (by rfl) 29 _ rfl _ rfl (HRL.out _) Tryz.underlying29 rfl HZC.out.i ?_) | (go_at_call 7; refine (Ret.later (KRR.out _)).mono ?_; rintro x _ ⟨rfl, e, rfl⟩))
                  go_wp2_with (first | (refine wpList_store_mid rfl 29 _ _ rfl w.heap.size 0 #[.slice none 0 0, .int .i64 0, .int .i64 0, .string ⟨#[]⟩, .int .u64 0, .int .u64 0, .slice none 0 0, .slice none 0 0] (by rfl) (by rfl) ((HBR.out.later e).there (Nat.le_refl 8)) (by kernel_rfl) (by simp [Value.oneCell']) ?_))
                  generalize hZZ : World.setCells _ _ _ _ = ZZ
                  have HZB : Hid (Blk ZZ w.heap.size 29 #[.slice none 0 0, .int .i64 0, .int .i64 0, .string ⟨#[]⟩, .int .u64 0, .int .u64 0, .slice none 0 0, .slice none 0 0]) := hid (by rw [← hZZ]; exact setCells_all (ds := #[.slice none 0 0, .int .i64 0, .int .i64 0, .string ⟨#[]⟩, .int .u64 0, .int .u64 0, .slice none 0 0, .slice none 0 0]) (HBR.out.later e) rfl)
                  have HZM : Hid (Ext w ZZ) := hid (by rw [← hZZ]; exact setCells_mod _ _ (HE2.out.trans e.h) (.inr (by omega)))
                  clear hZZ
                  refine bodyPost_ret (results_cell2 rfl _ (by rfl) rfl HZB.out Tryz.underlying29 rfl (by kernel_rfl)) rfl (.inl ⟨HNO.out, rfl, HZM.out⟩)
                | true =>
                  have HSH : Hid (B.shaped = true) := hid (by unfold AV.right at hr; rw [Bool.and_eq_true] at hr; exact hr.1)
                  have KBU : Hid (∀ e : Later wl, Calls Tryz.prog 11 #[.agg zc] e.x (Ret (str B.bytes) e.x)) := hid (fun e => KBU.out e HSH.out)
                  rw [hr] at KRR
                  have HRI := hid hr
                  clear hr
                  by_cases hB : B.bytes = l
                  · have HIS : Hid (isAsb l B) := hid ⟨HWF.out, HRI.out, hB⟩
                    rw [hB] at KBU
                    clear hB
                    go_upto_region 31 with (first | (clear tk1; refine wpList_row (by rfl) 29 _ rfl _ rfl (HRL.out _) Tryz.underlying29 rfl HZC.out.i ?_) | (clear tk2; refine wpList_row (by rfl) 29 _ rfl _ rfl (HRL.out _) Tryz.underlying29 rfl HZC.out.i ?_) | (go_at_call 7; refine (Ret.later (KRR.out _)).mono ?_; rintro x _ ⟨rfl, e, rfl⟩) | (go_at_call 11; refine (Ret.later (KBU.out _)).mono ?_; rintro x _ ⟨rfl, e, rfl⟩))
                    have tk1 : True := trivial
                    have tk2 : True := trivial
                    go_wp2_with (first | (clear tk1; refine wpList_row (by rfl) 29 _ rfl _ rfl (HRL.out _) Tryz.underlying29 rfl HZC.out.i ?_) | (clear tk2; refine wpList_store_mid rfl 29 _ _ rfl w.heap.size 0 zc (by rfl) (by rfl) ((HBR.out.later e).there (by rw [HZC.out.s]; exact Nat.le_refl 8)) HZC.out.i HZC.out.o ?_))
                    generalize hZZ : World.setCells _ _ _ _ = ZZ
                    have HZB : Hid (Blk ZZ w.heap.size 29 zc) := hid (by rw [← hZZ]; exact setCells_all (ds := zc) (HBR.out.later e) (by rw [Array.length_toList, HZC.out.s]; rfl))
                    have HZX : Hid (Mod [w.heap.size] wl ZZ) := hid (by rw [← hZZ]; exact setCells_mod _ _ ((Mod.refl [w.heap.size] wl).trans (e.h.mono (by simp))) (.inl (by simp)))
                    have HZM : Hid (Ext w ZZ) := hid (by rw [← hZZ]; exact setCells_mod _ _ (HE2.out.trans e.h) (.inr (by omega)))
                    clear hZZ
                    refine bodyPost_ret (results_cell2 rfl _ (by rfl) rfl HZB.out Tryz.underlying29 rfl HZC.out.i) rfl (.inr ⟨B, _, HIS.out, fun a ha => (HEQ2.out a ha).1, by rw [← HZE.out]; rfl, HZM.out, ?_⟩)
                    exact (HALL.out.mod HZX.out (fun k hk _ => by simpa using hk)).wk (fun _ _ _ => trivial)
                  · have HNO : Hid (∀ a, ¬ isAsb l a) := hid (fun a ha => by
                      obtain ⟨h1, h2⟩ := HEQ2.out a ha
                      have hk : a.rk = a.tk := (AV.shaped_iff.1 h2).2.2.2.2.2.2.1
                      exact hB (by rw [← h1.bytes hk]; exact ha.2.2))
                    have t1a : ((B.bytes) == (l)) = false := by rw [beq_eq_false_iff_ne]; exact hB
                    have t1b : ((B.bytes) = (l)) = False := eq_false (by exact hB)
                    have t1c : ((B.bytes) != (l)) = true := by rw [bne_iff_ne]; exact hB
                    clear hB HEQ2 HSH
                    generalize B.bytes = BB at *
                    go_upto_region 30 with (first | (clear tk1; refine wpList_row (by rfl) 29 _ rfl _ rfl (HRL.out _) Tryz.underlying29 rfl HZC.out.i ?_) | (clear tk2; refine wpList_row (by rfl) 29 _ rfl _ rfl (HRL.out _) Tryz.underlying29 rfl HZC.out.i ?_) | (go_at_call 7; refine (Ret.later (KRR.out _)).mono ?_; rintro x _ ⟨rfl, e, rfl⟩) | (go_at_call 11; refine (Ret.later (KBU.out _)).mono ?_; rintro x _ ⟨rfl, e, rfl⟩))
                    go_wp2_with (first | (refine wpList_store_mid rfl 29 _ _ rfl w.heap.size 0 #[.slice none 0 0, .int .i64 0, .int .i64 0, .string ⟨#[]⟩, .int .u64 0, .int .u64 0, .slice none 0 0, .slice none 0 0] (by rfl) (by rfl) ((HBR.out.later e).there (Nat.le_refl 8)) (by kernel_rfl) (by simp [Value.oneCell']) ?_))
                    generalize hZZ : World.setCells _ _ _ _ = ZZ
                    have HZB : Hid (Blk ZZ w.heap.size 29 #[.slice none 0 0, .int .i64 0, .int .i64 0, .string ⟨#[]⟩, .int .u64 0, .int .u64 0, .slice none 0 0, .slice none 0 0]) := hid (by rw [← hZZ]; exact setCells_all (ds := #[.slice none 0 0, .int .i64 0, .int .i64 0, .string ⟨#[]⟩, .int .u64 0, .int .u64 0, .slice none 0 0, .slice none 0 0]) (HBR.out.later e) rfl)
                    have HZM : Hid (Ext w ZZ) := hid (by rw [← hZZ]; exact setCells_mod _ _ (HE2.out.trans e.h) (.inr (by omega)))
                    clear hZZ
                    refine bodyPost_ret (results_cell2 rfl _ (by rfl) rfl HZB.out Tryz.underlying29 rfl (by kernel_rfl)) rfl (.inl ⟨HNO.out, rfl, HZM.out⟩)
      · simp only [show ((6 : Nat) : Int) = 6 from rfl]
        obtain ⟨b, o, rfl⟩ : ∃ b o, A' = some ⟨b, o, none⟩ := by
          obtain ⟨b, o, _, _, h1, _⟩ := kidsA HIL.out (i := 0) (by rw [HTK.out]; omega)
          exact ⟨b, o, h1⟩
        have hbl : V.heap.size ≤ b ∧ b < wr.heap.size := by
          obtain ⟨b', o', _, _, h1, h2, h3, _⟩ := kidsA HIL.out (i := 0) (by rw [HTK.out]; omega)
          cases h1
          exact ⟨h3, h2⟩
        have HBL := hid hbl
        have hch : ∀ i, i < 6 → ∃ Ai ci, At5 wr b (o + 5 * i) (t.ch i) Ai ci ∧ IsL wr (fun b => V.heap.size ≤ b ∧ b < wr.heap.size) (t.ch i) Ai := fun i hi => by
          obtain ⟨b', o', Ai, ci, h1, h2, _, h4, h5⟩ := kidsA HIL.out (i := i) (by rw [HTK.out]; omega)
          cases h1
          exact ⟨Ai, ci, by rwa [Nat.mul_comm i 5] at h4, IsL.weak (fun b hb hq => ⟨hq, hb⟩) _ h5⟩
        obtain ⟨A0, c0, hp0⟩ := hch 0 (by decide)
        have HP0 : Hid (At5 wr b (o) (t.ch 0) A0 c0) := hid hp0.1
        have HI0 : Hid (IsL wr (fun b => V.heap.size ≤ b ∧ b < wr.heap.size) (t.ch 0) A0) := hid hp0.2
        clear hp0
        obtain ⟨A1, c1, hp1⟩ := hch 1 (by decide)
        have HP1 : Hid (At5 wr b (o + 5) (t.ch 1) A1 c1) := hid hp1.1
        have HI1 : Hid (IsL wr (fun b => V.heap.size ≤ b ∧ b < wr.heap.size) (t.ch 1) A1) := hid hp1.2
        clear hp1
        obtain ⟨A3, c3, hp3⟩ := hch 3 (by decide)
        have HP3 : Hid (At5 wr b (o + 15) (t.ch 3) A3 c3) := hid hp3.1
        have HI3 : Hid (IsL wr (fun b => V.heap.size ≤ b ∧ b < wr.heap.size) (t.ch 3) A3) := hid hp3.2
        clear hp3
        obtain ⟨A4, c4, hp4⟩ := hch 4 (by decide)
        have HP4 : Hid (At5 wr b (o + 20) (t.ch 4) A4 c4) := hid hp4.1
        have HI4 : Hid (IsL wr (fun b => V.heap.size ≤ b ∧ b < wr.heap.size) (t.ch 4) A4) := hid hp4.2
        clear hp4
        obtain ⟨A5, c5, hp5⟩ := hch 5 (by decide)
        have HP5 : Hid (At5 wr b (o + 25) (t.ch 5) A5 c5) := hid hp5.1
        have HI5 : Hid (IsL wr (fun b => V.heap.size ≤ b ∧ b < wr.heap.size) (t.ch 5) A5) := hid hp5.2
        clear hp5
        clear hch hbl
        have x1 : wr.cell? ⟨b, o + 5 + 1, none⟩ = _ := HP1.out.2.1
        have n1 : (0 : Int) ≤ ((t.ch 1).n : Int) := by omega
        go_upto_region 14 with fail
        have tk1 : True := trivial
        go_upto_region 15 with fail
        generalize hz : World.alloc wr _ = z
        have HBO : Hid (Blk z wr.heap.size 29 #[.slice none 0 0, .int .i64 (min ((t.ch 1).n : Int) 65536), .int .i64 0, .string ⟨#[]⟩, .int .u64 0, .int .u64 0, .slice none 0 0, .slice none 0 0]) := hid (by rw [← hz]; exact Blk.new _ _ _)
        have HVZ : Hid (Ext wr z) := hid (by rw [← hz]; exact (Mod.refl [] _).alloc _)
        clear hz x1 n1
        obtain ⟨X, hX⟩ : ∃ X, min ((t.ch 1).n : Int) 65536 = X := ⟨_, rfl⟩
        have HXE := hid hX
        rw [hX] at HBO
        clear hX
        obtain ⟨O, hO⟩ : ∃ O, wr.heap.size = O := ⟨_, rfl⟩
        have HOW := hid hO
        rw [hO] at HBO ⊢
        clear hO
        have HOZ : Hid (O < z.heap.size) := hid HBO.out.lt
        have C03 : Hid (∀ W, Ext wr W → W.cell? ⟨b, o + 3, none⟩ = some (.slice A0 (t.ch 0).k c0)) := hid (fun W hW => (HP0.out.mod hW HBL.out.2 (by simp)).2.2.2.1)
        have CL3 : Hid (∀ W, Ext wr W → W.cell? ⟨b, o + 25 + 3, none⟩ = some (.slice A5 (t.ch 5).k c5)) := hid (fun W hW => (HP5.out.mod hW HBL.out.2 (by simp)).2.2.2.1)
        have k0i : ((t.ch 0).k : Int) ≤ 1000 := by have := kid_k (HKD.out.r 0 (by rw [HTK.out]; omega)); omega
        have kLi : ((t.ch 5).k : Int) ≤ 1000 := by have := kid_k (HKD.out.r 5 (by rw [HTK.out]; omega)); omega
        go_upto_region 16 with fail
        go_loopw [11] (fun s11 wl => ∃ j : Nat, s11 = .int .i64 (j : Int) ∧ Hid (∃ A' c' ac, j ≤ (t.ch 0).k ∧ Ext wr wl ∧ z.heap.size ≤ wl.heap.size ∧ Blk wl O 29 #[.slice A' j c', .int .i64 (X), .int .i64 0, .string ⟨#[]⟩, .int .u64 0, .int .u64 0, .slice none 0 0, .slice none 0 0] ∧ RwG intH 3 wl (fun b => b ≠ O) z.heap.size A' c' j (tgtN (t.ch 0)) ac)) (fun s11 _ => (t.ch 0).k - (intOf s11).toNat)
        case atStart => exact ⟨0, rfl, (show Hid _ from ⟨none, 0, fun _ => (none, 0), Nat.zero_le _, HVZ.out, Nat.le_refl _, HBO.out, RwG.nil⟩)⟩
        case round =>
          obtain ⟨j, rfl, hS⟩ := hrel
          rename World => wl
          have j0 : (0 : Int) ≤ (j : Int) := by omega
          have b0w : wl.cell? ⟨b, o + 3, none⟩ = some (.slice A0 (t.ch 0).k c0) := C03.out wl hS.out.choose_spec.choose_spec.choose_spec.2.1
          by_cases hlt : j < (t.ch 0).k
          · obtain ⟨A', c', ac, hjk, hVW, hzw, hB', hR'⟩ := hS.out
            obtain ⟨b0, o0, Aj, cj, hA0, hb0, _, hat, _⟩ := kidsA HI0.out (i := j) hlt
            subst hA0
            have HVW := hid hVW
            have HWZ := hid hzw
            have HB := hid hB'
            have HR := hid hR'
            have tc : decide (j < (t.ch 0).k) = true := by simp [hlt]
            have j1 : (j : Int) < ((t.ch 0).k : Int) := by omega
            have HLT := hid hlt
            have CJ1 : Hid (∀ W, Ext wr W → W.cell? ⟨b0, o0 + j * 5 + 1, none⟩ = some (.int .u64 (((t.ch 0).ch j).n : Int))) := hid (fun W hW => (hat.mod hW hb0 (by simp)).2.1)
            have HKEEP : Hid (∀ W, Mod (O :: obs A') wl W → Ext wr W) := hid (fun W hW => ((Mod.of_ext (S := O :: obs A') HVW.out).trans hW).new (fun k hk => .inr (by
              rcases List.mem_cons.1 hk with rfl | hk
              · exact Nat.le_of_eq HOW.out
              · cases A' with
                | none => cases hk
                | some g'' => have := (HR.out.off g'' rfl).1; have := HVZ.out.size; simp [obs] at hk; omega)))
            have HJN : Hid (((t.ch 0).ch j).n < 18446744073709551616) := hid (kid_n (T.okc (HKD.out.o 0 (by rw [HTK.out]; omega)) HLT.out))
            have HWX : Hid (IntKind.i64.wrap (min (((t.ch 0).ch j).n : Int) 65536) = tgtN (t.ch 0) j) := hid (by show _ = min (((t.ch 0).ch j).n : Int) 65536; rw [IntWalk.i64_in _ (by omega)])
            have k7 : (0 : Int) ≤ (((t.ch 0).ch j).n : Int) := by omega
            clear hlt hjk hVW hzw hB' hR' hS hat hb0
            go_upto_region 18 with fail
            clear b0w
            refine wp_region_held_drew (S := fun w' => Mod (O :: obs A') wl w') (by kernel_rfl) (Mod.refl _ _).drew (fun hHeld => ?_)
            have hO9 : Blk wl.drew O 29 #[.slice A' j c', .int .i64 (X), .int .i64 0, .string ⟨#[]⟩, .int .u64 0, .int .u64 0, .slice none 0 0, .slice none 0 0] := HB.out.drew
            have hR9 := HR.out.ext ((Mod.refl [] wl).drew)
            generalize wl.drew = y0 at *
            refine' wpAnyH_take (i := 0) (v := _) rfl (by kernel_rfl) (by kernel_rfl) (by kernel_rfl) (fun _ _ _ h => h) (Or.inl ⟨by rfl, ?hy38⟩) hHeld ?rest38
            case hy38 => (rintro W hM; go_simp; (try with_reducible rfl))
            case rest38 =>
            (try simp only [Act.put, List.getElem_toArray, List.getElem_cons_zero, List.getElem_cons_succ, List.setIfInBounds_toArray, List.set_cons_zero, List.set_cons_succ])
            refine' wpAnyH_take (i := 2) (v := _) rfl (by kernel_rfl) (by kernel_rfl) (by kernel_rfl) (fun _ _ _ h => h) (Or.inl ⟨by rfl, ?hy39⟩) hHeld ?rest39
            case hy39 => (rintro W hM; go_simp; (try with_reducible rfl))
            case rest39 =>
            (try simp only [Act.put, List.getElem_toArray, List.getElem_cons_zero, List.getElem_cons_succ, List.setIfInBounds_toArray, List.set_cons_zero, List.set_cons_succ])
            refine' wpAnyH_take (i := 3) (v := _) rfl (by kernel_rfl) (by kernel_rfl) (by kernel_rfl) (fun _ _ _ h => h) (Or.inl ⟨by rfl, ?hy40⟩) hHeld ?rest40
            case hy40 => (rintro W hM; go_simp; (try with_reducible rfl))
            case rest40 =>
            (try simp only [Act.put, List.getElem_toArray, List.getElem_cons_zero, List.getElem_cons_succ, List.setIfInBounds_toArray, List.set_cons_zero, List.set_cons_succ])
            refine' wpAnyH_take (i := 4) (v := _) rfl (by kernel_rfl) (by kernel_rfl) (by kernel_rfl) (fun _ _ _ h => h) (Or.inl ⟨by rfl, ?hy41⟩) hHeld ?rest41
            case hy41 => (rintro W hM; go_simp; (try with_reducible rfl))
            case rest41 =>
            (try simp only [Act.put, List.getElem_toArray, List.getElem_cons_zero, List.getElem_cons_succ, List.setIfInBounds_toArray, List.set_cons_zero, List.set_cons_succ])
            refine' wpAnyH_take (i := 5) (v := _) rfl (by kernel_rfl) (by kernel_rfl) (by kernel_rfl) (fun _ _ _ h => h) (Or.inl ⟨by rfl, ?hy42⟩) hHeld ?rest42
            case hy42 => (rintro W hM; have q := C03.out W (HKEEP.out W hM); go_simp; (try with_reducible rfl))
            case rest42 =>
            (try simp only [Act.put, List.getElem_toArray, List.getElem_cons_zero, List.getElem_cons_succ, List.setIfInBounds_toArray, List.set_cons_zero, List.set_cons_succ])
            refine' wpAnyH_take (i := 6) (v := _) rfl (by kernel_rfl) (by kernel_rfl) (by kernel_rfl) (fun _ _ _ h => h) (Or.inl ⟨by rfl, ?hy43⟩) hHeld ?rest43
            case hy43 => (rintro W hM; go_simp; (try with_reducible rfl))
            case rest43 =>
            (try simp only [Act.put, List.getElem_toArray, List.getElem_cons_zero, List.getElem_cons_succ, List.setIfInBounds_toArray, List.set_cons_zero, List.set_cons_succ])
            refine' wpAnyH_take (i := 7) (v := _) rfl (by kernel_rfl) (by kernel_rfl) (by kernel_rfl) (fun _ _ _ h => h) (Or.inl ⟨by rfl, ?hy44⟩) hHeld ?rest44
            case hy44 => (rintro W hM; go_simp; (try with_reducible rfl))
            case rest44 =>
            (try simp only [Act.put, List.getElem_toArray, List.getElem_cons_zero, List.getElem_cons_succ, List.setIfInBounds_toArray, List.set_cons_zero, List.set_cons_succ])
            refine' wpAnyH_take (i := 8) (v := _) rfl (by kernel_rfl) (by kernel_rfl) (by kernel_rfl) (fun _ _ _ h => h) (Or.inl ⟨by rfl, ?hy45⟩) hHeld ?rest45
            case hy45 => (rintro W hM; go_simp; (try with_reducible rfl))
            case rest45 =>
            (try simp only [Act.put, List.getElem_toArray, List.getElem_cons_zero, List.getElem_cons_succ, List.setIfInBounds_toArray, List.set_cons_zero, List.set_cons_succ])
            refine' wpAnyH_take (i := 9) (v := _) rfl (by kernel_rfl) (by kernel_rfl) (by kernel_rfl) (fun _ _ _ h => h) (Or.inl ⟨by rfl, ?hy46⟩) hHeld ?rest46
            case hy46 => (rintro W hM; have q := CJ1.out W (HKEEP.out W hM); go_simp; (try with_reducible rfl))
            case rest46 =>
            (try simp only [Act.put, List.getElem_toArray, List.getElem_cons_zero, List.getElem_cons_succ, List.setIfInBounds_toArray, List.set_cons_zero, List.set_cons_succ])
            refine' wpAnyH_take (i := 10) (v := _) rfl (by kernel_rfl) (by kernel_rfl) (by kernel_rfl) (fun _ _ _ h => h) (Or.inl ⟨by rfl, ?hy47⟩) hHeld ?rest47
            case hy47 => (rintro W hM; go_simp; (try with_reducible rfl))
            case rest47 =>
            (try simp only [Act.put, List.getElem_toArray, List.getElem_cons_zero, List.getElem_cons_succ, List.setIfInBounds_toArray, List.set_cons_zero, List.set_cons_succ])
            refine' wpAnyH_take (i := 11) (v := _) rfl (by kernel_rfl) (by kernel_rfl) (by kernel_rfl) (fun _ _ _ h => h) (Or.inl ⟨by rfl, ?hy48⟩) hHeld ?rest48
            case hy48 => (rintro W hM; go_simp; (try with_reducible rfl))
            case rest48 =>
            (try simp only [Act.put, List.getElem_toArray, List.getElem_cons_zero, List.getElem_cons_succ, List.setIfInBounds_toArray, List.set_cons_zero, List.set_cons_succ])
            refine wpAnyH_ready (rs := [1, 12]) (by kernel_rfl) (by simp) ?_
            refine AllReadyH.cons rfl (fun K hK => ?_) (AllReadyH.cons rfl (fun K hK => ?_) AllReadyH.nil)
            · have c7 : y0.cell? ⟨O, 0, none⟩ = some (.slice A' j c') := hO9.cell 0
              go_simp
              refine hK.out _ _ hHeld (fun hHeld => ?_)
              clear hK K c7
              (try simp only [Act.put, List.getElem_toArray, List.getElem_cons_zero, List.getElem_cons_succ, List.setIfInBounds_toArray, List.set_cons_zero, List.set_cons_succ])
              refine wpAnyH_ready (rs := [12]) (by kernel_rfl) (by simp) ?_
              refine AllReadyH.cons rfl (fun K hK => ?_) AllReadyH.nil
              go_simp
              have hQ2 : Blk (World.alloc y0 (.cells #[.int .i64 (IntKind.i64.wrap (min (((t.ch 0).ch j).n : Int) 65536))] 3)) y0.heap.size 3 #[.int .i64 (IntKind.i64.wrap (min (((t.ch 0).ch j).n : Int) 65536))] := Blk.new _ _ _
              have hXX : Ext y0 (World.alloc y0 (.cells #[.int .i64 (IntKind.i64.wrap (min (((t.ch 0).ch j).n : Int) 65536))] 3)) := (Mod.refl [] _).alloc _
              generalize World.alloc y0 (.cells #[.int .i64 (IntKind.i64.wrap (min (((t.ch 0).ch j).n : Int) 65536))] 3) = y30 at *
              have hO9 := hO9.ext hXX
              have hR9 := hR9.ext hXX
              refine hK.out _ _ (hHeld.trans (hXX.mono (by simp))) (fun hHeld => ?_)
              clear hK K
              (try simp only [Act.put, List.getElem_toArray, List.getElem_cons_zero, List.getElem_cons_succ, List.setIfInBounds_toArray, List.set_cons_zero, List.set_cons_succ])
              generalize y0.heap.size = gq at *
              refine wpAnyH_ready (rs := [13]) (by kernel_rfl) (by simp) ?_
              refine AllReadyH.cons rfl (fun K hK => ?_) AllReadyH.nil
              have hI : intH.hang y30 (fun b => (b ≠ O) ∧ offA A' b) (tgtN (t.ch 0) j) (none, 0) := trivial
              obtain ⟨ib, hi, hz0, hz1, hz2⟩ := info_parts infoInt
              refine wp_append_lies _ _ _ 22 (by rfl) z.heap.size 3 ib _ 1 8 Tryz.underlying22 hi hz0 hz1 hz2 (by rfl) (by decide) _ j _ (by rfl) hR9.own ⟨gq, 0, none⟩ 1 1 [.int .i64 (IntKind.i64.wrap (min (((t.ch 0).ch j).n : Int) 65536))] (by rfl) (by rfl) ?gnewy31 ?goney31 (by decide) ?gmy31 ?gby31 ?gbasey31 (y30.heap.size) rfl ?gky31
              case gnewy31 =>
                intro j' u hu
                rw [addr_add, Nat.zero_add, hQ2.cell j']
                simpa using hu
              case goney31 => intro u hu; simp at hu; subst hu; rfl
              case gmy31 => have := HLT.out; unfold maxLen; omega
              case gby31 => have := HLT.out; omega
              case gbasey31 => have := HWZ.out; have := hHeld.size; omega
              intro g' cp' y31 hown' hgr' hat' hlt'
              rw [HWX.out] at hown'
              obtain ⟨ac', hR5⟩ := hR9.append hI rfl hown' hgr' hat'
              have hOO : O ∉ obs A' := by
                refine offA_obs (fun g' hg' => ?_)
                have := (HR.out.off g' hg').1
                have := HOZ.out
                omega
              have hO9 := hO9.mod (grown_obs hgr') hOO
              refine hK.out _ _ (hHeld.trans ((grown_obs hgr').mono (by simp; exact fun k hk => .inr hk))) (fun hHeld => ?_)
              clear hK K
              (try simp only [Act.put, List.getElem_toArray, List.getElem_cons_zero, List.getElem_cons_succ, List.setIfInBounds_toArray, List.set_cons_zero, List.set_cons_succ])
              refine' wpAnyH_take (i := 14) (v := _) rfl (by kernel_rfl) (by kernel_rfl) (by kernel_rfl) (fun _ _ _ h => h) (Or.inl ⟨by rfl, ?hy49⟩) hHeld ?rest49
              case hy49 => (rintro W hM; go_simp; (try with_reducible rfl))
              case rest49 =>
              (try simp only [Act.put, List.getElem_toArray, List.getElem_cons_zero, List.getElem_cons_succ, List.setIfInBounds_toArray, List.set_cons_zero, List.set_cons_succ])
              refine wpAnyH_ready (rs := [15]) (by kernel_rfl) (by simp) ?_
              refine AllReadyH.cons rfl (fun K hK => ?_) AllReadyH.nil
              have c7 : y31.cell? ⟨O, 0, none⟩ = some (.slice A' j c') := hO9.cell 0
              have f7 := hO9.frozen 0
              go_simp
              have hOf := hO9.set_ 0 (.slice (some ⟨g', 0, none⟩) (j + 1) cp')
              have hM7 := (Mod.refl [O] y31).setCell (p := ⟨O, 0, none⟩) (.inl (by simp)) (.slice (some ⟨g', 0, none⟩) (j + 1) cp')
              generalize World.setCell y31 ⟨O, 0, none⟩ _ = yf at *
              refine hK.out _ _ (hHeld.trans (hM7.mono (by simp))) (fun hHeld => ?_)
              clear hK K c7 f7
              (try simp only [Act.put, List.getElem_toArray, List.getElem_cons_zero, List.getElem_cons_succ, List.setIfInBounds_toArray, List.set_cons_zero, List.set_cons_succ])
              refine wpAnyH_done (by kernel_rfl) ?_ _
              have hg'z : g' ≠ O := by
                have h1 : z.heap.size ≤ g' := (hR5.off _ rfl).1
                have := HOZ.out
                omega
              have HBF : Hid (Blk yf O 29 #[.slice (some ⟨g', 0, none⟩) (j + 1) cp', .int .i64 (X), .int .i64 0, .string ⟨#[]⟩, .int .u64 0, .int .u64 0, .slice none 0 0, .slice none 0 0]) := hid hOf
              have HRF := hid (hR5.modQ hM7 (fun g'' hg'' => by cases hg''; simpa using hg'z) (fun k hk _ => by simpa using hk))
              have HMF : Hid (Mod (O :: obs A') wl yf) := hid hHeld
              clear hOf hR5 hM7 hHeld hO9 hR9 hown' hgr' hat' hlt' hQ2 hI hOO
              go_wp2_with fail
              go_roundw
              case rel => exact ⟨j + 1, by go_num, (show Hid _ from ⟨some ⟨g', 0, none⟩, cp', ac', HLT.out, HKEEP.out _ HMF.out, Nat.le_trans HWZ.out HMF.out.size, HBF.out, HRF.out⟩)⟩
              case measure => have := HLT.out; simp [intOf]; omega
            · go_simp
              have hQ2 : Blk (World.alloc y0 (.cells #[.int .i64 (IntKind.i64.wrap (min (((t.ch 0).ch j).n : Int) 65536))] 3)) y0.heap.size 3 #[.int .i64 (IntKind.i64.wrap (min (((t.ch 0).ch j).n : Int) 65536))] := Blk.new _ _ _
              have hXX : Ext y0 (World.alloc y0 (.cells #[.int .i64 (IntKind.i64.wrap (min (((t.ch 0).ch j).n : Int) 65536))] 3)) := (Mod.refl [] _).alloc _
              generalize World.alloc y0 (.cells #[.int .i64 (IntKind.i64.wrap (min (((t.ch 0).ch j).n : Int) 65536))] 3) = y32 at *
              have hO9 := hO9.ext hXX
              have hR9 := hR9.ext hXX
              refine hK.out _ _ (hHeld.trans (hXX.mono (by simp))) (fun hHeld => ?_)
              clear hK K
              (try simp only [Act.put, List.getElem_toArray, List.getElem_cons_zero, List.getElem_cons_succ, List.setIfInBounds_toArray, List.set_cons_zero, List.set_cons_succ])
              generalize y0.heap.size = gq at *
              refine wpAnyH_ready (rs := [1]) (by kernel_rfl) (by simp) ?_
              refine AllReadyH.cons rfl (fun K hK => ?_) AllReadyH.nil
              have c7 : y32.cell? ⟨O, 0, none⟩ = some (.slice A' j c') := hO9.cell 0
              go_simp
              refine hK.out _ _ hHeld (fun hHeld => ?_)
              clear hK K c7
              (try simp only [Act.put, List.getElem_toArray, List.getElem_cons_zero, List.getElem_cons_succ, List.setIfInBounds_toArray, List.set_cons_zero, List.set_cons_succ])
              refine wpAnyH_ready (rs := [13]) (by kernel_rfl) (by simp) ?_
              refine AllReadyH.cons rfl (fun K hK => ?_) AllReadyH.nil
              have hI : intH.hang y32 (fun b => (b ≠ O) ∧ offA A' b) (tgtN (t.ch 0) j) (none, 0) := trivial
              obtain ⟨ib, hi, hz0, hz1, hz2⟩ := info_parts infoInt
              refine wp_append_lies _ _ _ 22 (by rfl) z.heap.size 3 ib _ 1 8 Tryz.underlying22 hi hz0 hz1 hz2 (by rfl) (by decide) _ j _ (by rfl) hR9.own ⟨gq, 0, none⟩ 1 1 [.int .i64 (IntKind.i64.wrap (min (((t.ch 0).ch j).n : Int) 65536))] (by rfl) (by rfl) ?gnewy34 ?goney34 (by decide) ?gmy34 ?gby34 ?gbasey34 (y32.heap.size) rfl ?gky34
              case gnewy34 =>
                intro j' u hu
                rw [addr_add, Nat.zero_add, hQ2.cell j']
                simpa using hu
              case goney34 => intro u hu; simp at hu; subst hu; rfl
              case gmy34 => have := HLT.out; unfold maxLen; omega
              case gby34 => have := HLT.out; omega
              case gbasey34 => have := HWZ.out; have := hHeld.size; omega
              intro g' cp' y34 hown' hgr' hat' hlt'
              rw [HWX.out] at hown'
              obtain ⟨ac', hR5⟩ := hR9.append hI rfl hown' hgr' hat'
              have hOO : O ∉ obs A' := by
                refine offA_obs (fun g' hg' => ?_)
                have := (HR.out.off g' hg').1
                have := HOZ.out
                omega
              have hO9 := hO9.mod (grown_obs hgr') hOO
              refine hK.out _ _ (hHeld.trans ((grown_obs hgr').mono (by simp; exact fun k hk => .inr hk))) (fun hHeld => ?_)
              clear hK K
              (try simp only [Act.put, List.getElem_toArray, List.getElem_cons_zero, List.getElem_cons_succ, List.setIfInBounds_toArray, List.set_cons_zero, List.set_cons_succ])
              refine' wpAnyH_take (i := 14) (v := _) rfl (by kernel_rfl) (by kernel_rfl) (by kernel_rfl) (fun _ _ _ h => h) (Or.inl ⟨by rfl, ?hy50⟩) hHeld ?rest50
              case hy50 => (rintro W hM; go_simp; (try with_reducible rfl))
              case rest50 =>
              (try simp only [Act.put, List.getElem_toArray, List.getElem_cons_zero, List.getElem_cons_succ, List.setIfInBounds_toArray, List.set_cons_zero, List.set_cons_succ])
              refine wpAnyH_ready (rs := [15]) (by kernel_rfl) (by simp) ?_
              refine AllReadyH.cons rfl (fun K hK => ?_) AllReadyH.nil
              have c7 : y34.cell? ⟨O, 0, none⟩ = some (.slice A' j c') := hO9.cell 0
              have f7 := hO9.frozen 0
              go_simp
              have hOf := hO9.set_ 0 (.slice (some ⟨g', 0, none⟩) (j + 1) cp')
              have hM7 := (Mod.refl [O] y34).setCell (p := ⟨O, 0, none⟩) (.inl (by simp)) (.slice (some ⟨g', 0, none⟩) (j + 1) cp')
              generalize World.setCell y34 ⟨O, 0, none⟩ _ = yf at *
              refine hK.out _ _ (hHeld.trans (hM7.mono (by simp))) (fun hHeld => ?_)
              clear hK K c7 f7
              (try simp only [Act.put, List.getElem_toArray, List.getElem_cons_zero, List.getElem_cons_succ, List.setIfInBounds_toArray, List.set_cons_zero, List.set_cons_succ])
              refine wpAnyH_done (by kernel_rfl) ?_ _
              have hg'z : g' ≠ O := by
                have h1 : z.heap.size ≤ g' := (hR5.off _ rfl).1
                have := HOZ.out
                omega
              have HBF : Hid (Blk yf O 29 #[.slice (some ⟨g', 0, none⟩) (j + 1) cp', .int .i64 (X), .int .i64 0, .string ⟨#[]⟩, .int .u64 0, .int .u64 0, .slice none 0 0, .slice none 0 0]) := hid hOf
              have HRF := hid (hR5.modQ hM7 (fun g'' hg'' => by cases hg''; simpa using hg'z) (fun k hk _ => by simpa using hk))
              have HMF : Hid (Mod (O :: obs A') wl yf) := hid hHeld
              clear hOf hR5 hM7 hHeld hO9 hR9 hown' hgr' hat' hlt' hQ2 hI hOO
              go_wp2_with fail
              go_roundw
              case rel => exact ⟨j + 1, by go_num, (show Hid _ from ⟨some ⟨g', 0, none⟩, cp', ac', HLT.out, HKEEP.out _ HMF.out, Nat.le_trans HWZ.out HMF.out.size, HBF.out, HRF.out⟩)⟩
              case measure => have := HLT.out; simp [intOf]; omega
          · have hjt : j = (t.ch 0).k := by obtain ⟨_, _, _, hjk, _⟩ := hS.out; omega
            have tc : decide (j < (t.ch 0).k) = false := by rw [hjt]; simp
            have j1 : ¬ (j : Int) < ((t.ch 0).k : Int) := by omega
            obtain ⟨At, ct, ac, hjk, hVW, hzw, hB', hR'⟩ := hS.out
            have HVY := hid hVW
            have HBY := hid hB'
            have HNY := hid hR'.ns.1
            have HGY : Hid (∀ g, At = some g → z.heap.size ≤ g.block ∧ g.block < wl.heap.size) := hid (fun g hg => hR'.off g hg)
            have HZY := hid hzw
            have HJT := hid hjt
            clear hS hjk hVW hzw hB' hR' hjt
            go_upto_region 19 with fail
            clear b0w tc j1
            generalize wl = Y at *
            have HNY2 : Hid (∀ W, Mod [O] Y W → NsL W At (t.ch 0).k (tgtN (t.ch 0))) := hid (fun W hW => by
              have h := HNY.out.mod hW (fun b o hA _ => by have h2 := (HGY.out _ hA).1; have := HOZ.out; have h2 : z.heap.size ≤ b := h2; simp; omega)
              rw [HJT.out] at h
              exact h)
            rw [HJT.out] at HBY
            have a0 : Y.cell? ⟨b, o + 15, none⟩ = _ := (HP3.out.mod HVY.out HBL.out.2 (by simp)).1
            have a1 : Y.cell? ⟨b, o + 15 + 1, none⟩ = _ := (HP3.out.mod HVY.out HBL.out.2 (by simp)).2.1
            have a2 : Y.cell? ⟨b, o + 15 + 2, none⟩ = _ := (HP3.out.mod HVY.out HBL.out.2 (by simp)).2.2.1
            have a3 : Y.cell? ⟨b, o + 15 + 3, none⟩ = _ := (HP3.out.mod HVY.out HBL.out.2 (by simp)).2.2.2.1
            have a4 : Y.cell? ⟨b, o + 15 + 4, none⟩ = _ := (HP3.out.mod HVY.out HBL.out.2 (by simp)).2.2.2.2
            have KO := hid (of_any (t.ch 3) (HKD.out.o 3 (by rw [HTK.out]; omega)) (HKD.out.s 3 (by rw [HTK.out]; omega)) A3 c3 Y ((IsL.weak (fun _ _ _ => trivial) _ HI3.out).ext HVY.out))
            rw [show (j : Int) = ((t.ch 0).k : Int) by rw [HJT.out]]
            clear HJT HNY
            by_cases hO : ofB (t.ch 3) = true
            case neg =>
              have HNO : Hid (∀ a, ¬ isAsb l a) := hid (fun a ha => hO (rdOK_iff (HEQ.out a ha).2.1).2.1)
              have KO : Hid (Calls Tryz.prog 31 #[itemV (t.ch 3) A3 c3] Y (Ret (.tuple #[.agg #[.int .i64 0, str [], .int .u64 0, .int .u64 0], .int .i64 2]) Y)) := hid (by have h := KO.out; unfold OfPost at h; rw [if_neg hO, if_neg hO] at h; exact h)
              clear hO
              go_upto_region 21 with (go_at_call 31; refine KO.out.mono ?_; rintro x w3 ⟨rfl, hb⟩; have HX := hid hb; clear hb)
              generalize hY : World.alloc w3 _ = U
              have HXU : Hid (Ext wr U) := hid (by rw [← hY]; exact (HVY.out.trans HX.out).alloc _)
              have HBU := hid (HBW.out.ext HXU.out)
              have HEU := hid (HEW.out.trans HXU.out)
              clear hY a0 a1 a2 a3 a4 HX
              obtain ⟨e, he⟩ := Later.self U
              rw [he]
              clear he
              go_wp2_with (first | (refine wpList_store_mid rfl 29 _ _ rfl w.heap.size 0 #[.slice none 0 0, .int .i64 0, .int .i64 0, .string ⟨#[]⟩, .int .u64 0, .int .u64 0, .slice none 0 0, .slice none 0 0] (by rfl) (by rfl) ((HBU.out.later e).there (Nat.le_refl 8)) (by kernel_rfl) (by simp [Value.oneCell']) ?_))
              generalize hZZ : World.setCells _ _ _ _ = ZZ
              have HZB : Hid (Blk ZZ w.heap.size 29 #[.slice none 0 0, .int .i64 0, .int .i64 0, .string ⟨#[]⟩, .int .u64 0, .int .u64 0, .slice none 0 0, .slice none 0 0]) := hid (by rw [← hZZ]; exact setCells_all (ds := #[.slice none 0 0, .int .i64 0, .int .i64 0, .string ⟨#[]⟩, .int .u64 0, .int .u64 0, .slice none 0 0, .slice none 0 0]) (HBU.out.later e) rfl)
              have HZM : Hid (Ext w ZZ) := hid (by rw [← hZZ]; exact setCells_mod _ _ (HEU.out.trans e.h) (.inr (by omega)))
              clear hZZ
              refine bodyPost_ret (results_cell2 rfl _ (by rfl) rfl HZB.out Tryz.underlying29 rfl (by kernel_rfl)) rfl (.inl ⟨HNO.out, rfl, HZM.out⟩)
            have HWF := hid (HKD.out.wf15 hO)
            have HSMA := hid HKD.out.small15
            obtain ⟨E, hE⟩ : ∃ E, readE (t.ch 3) = E := ⟨_, rfl⟩
            have HEE := hid hE
            have KO : Hid (Calls Tryz.prog 31 #[itemV (t.ch 3) A3 c3] Y (Ret (.tuple #[.agg #[.int .i64 E.sch, str E.name, .int .u64 (E.node : Int), .int .u64 (E.svc : Int)], .int .i64 0]) Y)) := hid (by have h := KO.out; unfold OfPost at h; rw [if_pos hO, if_pos hO, hE] at h; exact h)
            clear hO hE
            go_upto_region 22 with (go_at_call 31; refine KO.out.mono ?_; rintro x w3 ⟨rfl, hb⟩; have HX := hid hb; clear hb)
            generalize hY : World.alloc w3 _ = U3
            have HYU : Hid (Ext Y U3) := hid (by rw [← hY]; exact HX.out.alloc _)
            have HBE : Hid (Blk U3 w3.heap.size 25 E.c) := hid (by rw [← hY]; exact Blk.new _ _ _)
            have HB3 := hid (HBY.out.ext HYU.out)
            clear hY a0 a1 a2 a3 a4 HX KO
            generalize w3.heap.size = n4 at *
            have e0 : U3.cell? ⟨n4, 0, none⟩ = some (.int .i64 E.sch) := HBE.out.cell 0
            have e1 : U3.cell? ⟨n4, 1, none⟩ = some (str E.name) := HBE.out.cell 1
            have e2 : U3.cell? ⟨n4, 2, none⟩ = some (.int .u64 (E.node : Int)) := HBE.out.cell 2
            have e3 : U3.cell? ⟨n4, 3, none⟩ = some (.int .u64 (E.svc : Int)) := HBE.out.cell 3
            have q2 := HB3.out.cell 2
            have q2f := HB3.out.frozen 2
            have q3 := HB3.out.cell 3
            have q3f := HB3.out.frozen 3
            have q4 := HB3.out.cell 4
            have q4f := HB3.out.frozen 4
            have q5 := HB3.out.cell 5
            have q5f := HB3.out.frozen 5
            go_upto_region 23 with fail
            generalize hY : World.setCell _ ⟨O, 5, none⟩ _ = U4
            have HMU : Hid (Mod [O] U3 U4) := hid (by rw [← hY]; exact ((((Mod.refl [O] U3).setCell (.inl (by simp)) _).setCell (.inl (by simp)) _).setCell (.inl (by simp)) _).setCell (.inl (by simp)) _)
            have HB4 : Hid (Blk U4 O 29 #[.slice At (t.ch 0).k ct, .int .i64 (X), .int .i64 E.sch, str E.name, .int .u64 (E.node : Int), .int .u64 (E.svc : Int), .slice none 0 0, .slice none 0 0]) := hid (by rw [← hY]; exact (((HB3.out.set_ 2 _).set_ 3 _).set_ 4 _).set_ 5 _)
            have HV4 : Hid (Ext wr U4) := hid (((Mod.of_ext (S := [O]) (HVY.out.trans HYU.out)).trans HMU.out).new (fun k hk => .inr (by rw [List.mem_singleton] at hk; have := HOW.out; omega)))
            have HN4 : Hid (∀ W, Mod [O] U4 W → NsL W At (t.ch 0).k (tgtN (t.ch 0))) := hid (fun W hW => HNY2.out W ((Mod.of_ext (S := [O]) HYU.out).trans (HMU.out.trans hW)))
            have HZ4 : Hid (z.heap.size ≤ U4.heap.size ∧ Y.heap.size ≤ U4.heap.size) := hid (by have := HZY.out; have := HYU.out.size; have := HMU.out.size; constructor <;> omega)
            clear hY HBE HB3 HYU HMU HNY2 HBY e0 e1 e2 e3 q2 q2f q3 q3f q4 q4f q5 q5f
            go_upto_region 24 with fail
            have a0 : U4.cell? ⟨b, o + 20, none⟩ = _ := (HP4.out.mod HV4.out HBL.out.2 (by simp)).1
            have a1 : U4.cell? ⟨b, o + 20 + 1, none⟩ = _ := (HP4.out.mod HV4.out HBL.out.2 (by simp)).2.1
            have a2 : U4.cell? ⟨b, o + 20 + 2, none⟩ = _ := (HP4.out.mod HV4.out HBL.out.2 (by simp)).2.2.1
            have a3 : U4.cell? ⟨b, o + 20 + 3, none⟩ = _ := (HP4.out.mod HV4.out HBL.out.2 (by simp)).2.2.2.1
            have a4 : U4.cell? ⟨b, o + 20 + 4, none⟩ = _ := (HP4.out.mod HV4.out HBL.out.2 (by simp)).2.2.2.2
            have KPP := hid (r15readP_any (t.ch 4) (HKD.out.o 4 (by rw [HTK.out]; omega)) (kid_k (HKD.out.r 4 (by rw [HTK.out]; omega))) A4 c4 U4 (HI4.out.ext HV4.out))
            go_upto_region 25 with (go_at_call 32; refine KPP.out.mono ?_; rintro x w3 ⟨Ap, cp, rfl, hb, hcp, hpp⟩; have HX := hid hb; have HPP := hid hpp; have q6 := (HB4.out.ext hb).cell 6; have q6f := (HB4.out.ext hb).frozen 6; clear hb hcp hpp)
            generalize hY : World.setCell w3 ⟨O, 6, none⟩ _ = Z3
            have HMU : Hid (Mod [O] w3 Z3) := hid (by rw [← hY]; exact (Mod.refl [O] w3).setCell (.inl (by simp)) _)
            have HBZ : Hid (Blk Z3 O 29 #[.slice At (t.ch 0).k ct, .int .i64 (X), .int .i64 E.sch, str E.name, .int .u64 (E.node : Int), .int .u64 (E.svc : Int), .slice Ap (r15P (t.ch 4)).k cp, .slice none 0 0]) := hid (by rw [← hY]; exact (HB4.out.ext HX.out).set_ 6 _)
            have HV3 : Hid (Ext wr Z3) := hid (((Mod.of_ext (S := [O]) (HV4.out.trans HX.out)).trans HMU.out).new (fun k hk => .inr (by rw [List.mem_singleton] at hk; have := HOW.out; omega)))
            have HZ3 : Hid (z.heap.size ≤ Z3.heap.size ∧ Y.heap.size ≤ Z3.heap.size) := hid (by have := HZ4.out; have := HX.out.size; have := HMU.out.size; constructor <;> omega)
            have HNZ : Hid (∀ W, Mod [O] Z3 W → NsL W At (t.ch 0).k (tgtN (t.ch 0))) := hid (fun W hW => HN4.out W ((Mod.of_ext (S := [O]) HX.out).trans (HMU.out.trans hW)))
            have HPZ : Hid (∀ W, Mod [O] Z3 W → PsL W (fun b => b ≠ O ∧ b ≠ w.heap.size ∧ b < Z3.heap.size) Ap (r15P (t.ch 4))) := hid (fun W hW => by
              have h0 : PsL w3 (fun b => b ≠ O ∧ b ≠ w.heap.size ∧ b < Z3.heap.size) Ap (r15P (t.ch 4)) := HPP.out.weak (fun k hk hq => by
                have := HOW.out; have := HVS.out; have := HNW.out; have := HMU.out.size; have := HZ4.out.1; have := HOZ.out
                have hq : (((V.heap.size ≤ k ∧ k < wr.heap.size) ∧ k < U4.heap.size) ∨ U4.heap.size ≤ k) := hq
                refine ⟨by omega, by omega, by omega⟩)
              exact h0.mod (HMU.out.trans hW) (fun k hk _ => by simpa using hk.1))
            clear hY a0 a1 a2 a3 a4 q6 q6f HB4 HV4 HN4 HX HMU HPP KPP
            have HKQ : Hid (∀ g, At = some g → z.heap.size ≤ g.block ∧ g.block < Z3.heap.size) := hid (fun g hg => ⟨(HGY.out g hg).1, by have := (HGY.out g hg).2; have := HZ3.out.2; omega⟩)
            have HZZ : Hid (O < z.heap.size ∧ z.heap.size ≤ Z3.heap.size ∧ wr.heap.size = O ∧ w.heap.size + 1 = V.heap.size ∧ V.heap.size ≤ wr.heap.size) := hid ⟨HOZ.out, HZ3.out.1, HOW.out, HVS.out, HNW.out⟩
            go_upto_region 26 with fail
            go_loopw [14] (fun s14 wl => ∃ j : Nat, s14 = .int .i64 (j : Int) ∧ Hid (∃ A' c' ac, j ≤ (t.ch 5).k ∧ Ext wr wl ∧ Z3.heap.size ≤ wl.heap.size ∧ Blk wl O 29 #[.slice At (t.ch 0).k ct, .int .i64 (X), .int .i64 E.sch, str E.name, .int .u64 (E.node : Int), .int .u64 (E.svc : Int), .slice Ap (r15P (t.ch 4)).k cp, .slice A' j c'] ∧ RwG resH 26 wl (fun b => b ≠ O ∧ b ≠ w.heap.size) Z3.heap.size A' c' j (fun i => r15P ((t.ch 5).ch i)) ac ∧ NsL wl At (t.ch 0).k (tgtN (t.ch 0)) ∧ PsL wl (fun b => b ≠ O ∧ b ≠ w.heap.size ∧ b < Z3.heap.size) Ap (r15P (t.ch 4))) ) (fun s14 _ => (t.ch 5).k - (intOf s14).toNat)
            case atStart => exact ⟨0, rfl, (show Hid _ from ⟨none, 0, fun _ => (none, 0), Nat.zero_le _, HV3.out, Nat.le_refl _, HBZ.out, RwG.nil, HNZ.out _ (Mod.refl _ _), HPZ.out _ (Mod.refl _ _)⟩)⟩
            case round =>
              obtain ⟨j, rfl, hS⟩ := hrel
              rename World => wl
              have j0 : (0 : Int) ≤ (j : Int) := by omega
              have b0w : wl.cell? ⟨b, o + 25 + 3, none⟩ = some (.slice A5 (t.ch 5).k c5) := CL3.out wl hS.out.choose_spec.choose_spec.choose_spec.2.1
              by_cases hlt : j < (t.ch 5).k
              · obtain ⟨A', c', ac, hjk, hVW, hzw, hB', hR', hN', hP''⟩ := hS.out
                obtain ⟨bL, oL, Aj, cj, hAL, hbL, hqL, hat, hIj⟩ := kidsA HI5.out (i := j) hlt
                subst hAL
                have HVW := hid hVW
                have HWZ := hid hzw
                have HB := hid hB'
                have HR := hid hR'
                have HN := hid hN'
                have HP := hid hP''
                have tc : decide (j < (t.ch 5).k) = true := by simp [hlt]
                have j1 : (j : Int) < ((t.ch 5).k : Int) := by omega
                have HLT := hid hlt
                have CJR : Hid (∀ W, Ext wr W → W.rangeAt bL (oL + j * 5) [.int .i64 ((t.ch 5).ch j).kind, .int .u64 (((t.ch 5).ch j).n : Int), str ((t.ch 5).ch j).s, .slice Aj ((t.ch 5).ch j).k cj, .bool ((t.ch 5).ch j).op]) := hid (fun W hW => (hat.mod hW hbL (by simp)).range)
                have HKEEP : Hid (∀ W, Mod (O :: obs A') wl W → Ext wr W) := hid (fun W hW => ((Mod.of_ext (S := O :: obs A') HVW.out).trans hW).new (fun k hk => .inr (by
                  have hzz := HZZ.out
                  rcases List.mem_cons.1 hk with rfl | hk
                  · omega
                  · cases A' with
                    | none => cases hk
                    | some g'' => have := (HR.out.off g'' rfl).1; simp [obs] at hk; omega)))
                have HKP : Hid (∀ W, Mod (O :: obs A') wl W → Calls Tryz.prog 32 #[itemV ((t.ch 5).ch j) Aj cj] W (P15Post (fun b => V.heap.size ≤ b ∧ b < wr.heap.size) ((t.ch 5).ch j) W)) := hid (fun W hW => r15readP_any ((t.ch 5).ch j) (T.okc (HKD.out.o 5 (by rw [HTK.out]; omega)) HLT.out) (HKD.out.kk (by rw [HTK.out]; omega) HLT.out) Aj cj W (hIj.ext (HKEEP.out W hW)))
                clear hlt hjk hVW hzw hB' hR' hN' hP'' hS hat hbL hqL hIj
                go_upto_region 28 with fail
                clear b0w
                refine wp_region_held_drew (S := fun w' => Mod (O :: obs A') wl w') (by kernel_rfl) (Mod.refl _ _).drew (fun hHeld => ?_)
                have hO9 : Blk wl.drew O 29 #[.slice At (t.ch 0).k ct, .int .i64 (X), .int .i64 E.sch, str E.name, .int .u64 (E.node : Int), .int .u64 (E.svc : Int), .slice Ap (r15P (t.ch 4)).k cp, .slice A' j c'] := HB.out.drew
                have hR9 := HR.out.ext ((Mod.refl [] wl).drew)
                generalize wl.drew = y0 at *
                refine' wpAnyH_take (i := 0) (v := _) rfl (by kernel_rfl) (by kernel_rfl) (by kernel_rfl) (fun _ _ _ h => h) (Or.inl ⟨by rfl, ?hy26⟩) hHeld ?rest26
                case hy26 => (rintro W hM; go_simp; (try with_reducible rfl))
                case rest26 =>
                (try simp only [Act.put, List.getElem_toArray, List.getElem_cons_zero, List.getElem_cons_succ, List.setIfInBounds_toArray, List.set_cons_zero, List.set_cons_succ])
                refine' wpAnyH_take (i := 2) (v := _) rfl (by kernel_rfl) (by kernel_rfl) (by kernel_rfl) (fun _ _ _ h => h) (Or.inl ⟨by rfl, ?hy27⟩) hHeld ?rest27
                case hy27 => (rintro W hM; go_simp; (try with_reducible rfl))
                case rest27 =>
                (try simp only [Act.put, List.getElem_toArray, List.getElem_cons_zero, List.getElem_cons_succ, List.setIfInBounds_toArray, List.set_cons_zero, List.set_cons_succ])
                refine' wpAnyH_take (i := 3) (v := _) rfl (by kernel_rfl) (by kernel_rfl) (by kernel_rfl) (fun _ _ _ h => h) (Or.inl ⟨by rfl, ?hy28⟩) hHeld ?rest28
                case hy28 => (rintro W hM; go_simp; (try with_reducible rfl))
                case rest28 =>
                (try simp only [Act.put, List.getElem_toArray, List.getElem_cons_zero, List.getElem_cons_succ, List.setIfInBounds_toArray, List.set_cons_zero, List.set_cons_succ])
                refine' wpAnyH_take (i := 4) (v := _) rfl (by kernel_rfl) (by kernel_rfl) (by kernel_rfl) (fun _ _ _ h => h) (Or.inl ⟨by rfl, ?hy29⟩) hHeld ?rest29
                case hy29 => (rintro W hM; have w4 : IntKind.i64.wrap 5 = 5 := (by decide); go_simp; (try with_reducible rfl))
                case rest29 =>
                (try simp only [Act.put, List.getElem_toArray, List.getElem_cons_zero, List.getElem_cons_succ, List.setIfInBounds_toArray, List.set_cons_zero, List.set_cons_succ])
                refine' wpAnyH_take (i := 5) (v := _) rfl (by kernel_rfl) (by kernel_rfl) (by kernel_rfl) (fun _ _ _ h => h) (Or.inl ⟨by rfl, ?hy30⟩) hHeld ?rest30
                case hy30 => (rintro W hM; go_simp; (try with_reducible rfl))
                case rest30 =>
                (try simp only [Act.put, List.getElem_toArray, List.getElem_cons_zero, List.getElem_cons_succ, List.setIfInBounds_toArray, List.set_cons_zero, List.set_cons_succ])
                refine' wpAnyH_take (i := 6) (v := _) rfl (by kernel_rfl) (by kernel_rfl) (by kernel_rfl) (fun _ _ _ h => h) (Or.inl ⟨by rfl, ?hy31⟩) hHeld ?rest31
                case hy31 => (rintro W hM; go_simp; (try with_reducible rfl))
                case rest31 =>
                (try simp only [Act.put, List.getElem_toArray, List.getElem_cons_zero, List.getElem_cons_succ, List.setIfInBounds_toArray, List.set_cons_zero, List.set_cons_succ])
                refine' wpAnyH_take (i := 7) (v := _) rfl (by kernel_rfl) (by kernel_rfl) (by kernel_rfl) (fun _ _ _ h => h) (Or.inl ⟨by rfl, ?hy32⟩) hHeld ?rest32
                case hy32 => (rintro W hM; have q := CL3.out W (HKEEP.out W hM); go_simp; (try with_reducible rfl))
                case rest32 =>
                (try simp only [Act.put, List.getElem_toArray, List.getElem_cons_zero, List.getElem_cons_succ, List.setIfInBounds_toArray, List.set_cons_zero, List.set_cons_succ])
                refine' wpAnyH_take (i := 8) (v := _) rfl (by kernel_rfl) (by kernel_rfl) (by kernel_rfl) (fun _ _ _ h => h) (Or.inl ⟨by rfl, ?hy33⟩) hHeld ?rest33
                case hy33 => (rintro W hM; go_simp; (try with_reducible rfl))
                case rest33 =>
                (try simp only [Act.put, List.getElem_toArray, List.getElem_cons_zero, List.getElem_cons_succ, List.setIfInBounds_toArray, List.set_cons_zero, List.set_cons_succ])
                refine' wpAnyH_take (i := 9) (v := _) rfl (by kernel_rfl) (by kernel_rfl) (by kernel_rfl) (fun _ _ _ h => h) (Or.inl ⟨by rfl, ?hy34⟩) hHeld ?rest34
                case hy34 => (rintro W hM; go_simp; (try with_reducible rfl))
                case rest34 =>
                (try simp only [Act.put, List.getElem_toArray, List.getElem_cons_zero, List.getElem_cons_succ, List.setIfInBounds_toArray, List.set_cons_zero, List.set_cons_succ])
                refine wpAnyH_take (i := 10) rfl (by kernel_rfl) (by kernel_rfl) (by kernel_rfl) (fun _ _ _ h => h) (yieldsIf_mid (by rfl) 47 _ rfl bL (oL + j * 5) rfl [.int .i64 ((t.ch 5).ch j).kind, .int .u64 (((t.ch 5).ch j).n : Int), str ((t.ch 5).ch j).s, .slice Aj ((t.ch 5).ch j).k cj, .bool ((t.ch 5).ch j).op] (fun W hM => CJR.out W (HKEEP.out W hM)) Tryz.underlying47 rfl (by kernel_rfl)) hHeld ?_
                (try simp only [Act.put, List.getElem_toArray, List.getElem_cons_zero, List.getElem_cons_succ, List.setIfInBounds_toArray, List.set_cons_zero, List.set_cons_succ])
                refine wpAnyH_ready (rs := [1, 11]) (by kernel_rfl) (by simp) ?_
                refine AllReadyH.cons rfl (fun K hK => ?_) (AllReadyH.cons rfl (fun K hK => ?_) AllReadyH.nil)
                · have c7 : y0.cell? ⟨O, 7, none⟩ = some (.slice A' j c') := hO9.cell 7
                  go_simp
                  refine hK.out _ _ hHeld (fun hHeld => ?_)
                  clear hK K c7
                  (try simp only [Act.put, List.getElem_toArray, List.getElem_cons_zero, List.getElem_cons_succ, List.setIfInBounds_toArray, List.set_cons_zero, List.set_cons_succ])
                  refine wpAnyH_ready (rs := [11]) (by kernel_rfl) (by simp) ?_
                  refine AllReadyH.cons rfl (fun K hK => ?_) AllReadyH.nil
                  go_simp
                  go_at_call 32
                  refine (HKP.out y0 hHeld).mono ?_
                  rintro x y19 ⟨A5, c5, rfl, hb, hc5, hp5⟩
                  have hsz5 : wl.heap.size ≤ y0.heap.size := hHeld.size
                  have hO9 := hO9.ext hb
                  have hR9 := hR9.ext hb
                  refine hK.out _ _ (hHeld.trans (hb.mono (by simp))) (fun hHeld => ?_)
                  clear hK K
                  (try simp only [Act.put, List.getElem_toArray, List.getElem_cons_zero, List.getElem_cons_succ, List.setIfInBounds_toArray, List.set_cons_zero, List.set_cons_succ])
                  have hp5 : PsL y19 (fun b => (V.heap.size ≤ b ∧ b < wr.heap.size) ∨ wl.heap.size ≤ b) A5 (r15P ((t.ch 5).ch j)) := hp5.weak (fun b _ h => h.elim (fun h => .inl h.1) (fun h => .inr (Nat.le_trans hsz5 h)))
                  clear hb
                  refine wpAnyH_ready (rs := [12]) (by kernel_rfl) (by simp) ?_
                  refine AllReadyH.cons rfl (fun K hK => ?_) AllReadyH.nil
                  go_simp
                  have hQ2 : Blk (World.alloc y19 (.cells #[.slice A5 (r15P ((t.ch 5).ch j)).k c5] 26)) y19.heap.size 26 #[.slice A5 (r15P ((t.ch 5).ch j)).k c5] := Blk.new _ _ _
                  have hXX : Ext y19 (World.alloc y19 (.cells #[.slice A5 (r15P ((t.ch 5).ch j)).k c5] 26)) := (Mod.refl [] _).alloc _
                  generalize World.alloc y19 (.cells #[.slice A5 (r15P ((t.ch 5).ch j)).k c5] 26) = y20 at *
                  have hO9 := hO9.ext hXX
                  have hR9 := hR9.ext hXX
                  have hp5 := hp5.ext hXX
                  refine hK.out _ _ (hHeld.trans (hXX.mono (by simp))) (fun hHeld => ?_)
                  clear hK K
                  (try simp only [Act.put, List.getElem_toArray, List.getElem_cons_zero, List.getElem_cons_succ, List.setIfInBounds_toArray, List.set_cons_zero, List.set_cons_succ])
                  generalize y19.heap.size = gq at *
                  refine wpAnyH_ready (rs := [13]) (by kernel_rfl) (by simp) ?_
                  refine AllReadyH.cons rfl (fun K hK => ?_) AllReadyH.nil
                  have hI : resH.hang y20 (fun b => (b ≠ O ∧ b ≠ w.heap.size) ∧ offA A' b) (r15P ((t.ch 5).ch j)) (A5, c5) := ⟨hp5.weak (fun b _ hb => ⟨⟨by have := HZZ.out; have := HWZ.out; have hb : (V.heap.size ≤ b ∧ b < wr.heap.size) ∨ wl.heap.size ≤ b := hb; omega, by have := HZZ.out; have := HWZ.out; have hb : (V.heap.size ≤ b ∧ b < wr.heap.size) ∨ wl.heap.size ≤ b := hb; omega⟩, fun g hg => by have := HR.out.off g hg; have := HZZ.out; have hb : (V.heap.size ≤ b ∧ b < wr.heap.size) ∨ wl.heap.size ≤ b := hb; omega⟩), hc5⟩
                  obtain ⟨ib, hi, hz0, hz1, hz2⟩ := info_parts infoPairs
                  refine wp_append_lies _ _ _ 27 (by rfl) Z3.heap.size 26 ib _ 1 24 Tryz.underlying27 hi hz0 hz1 hz2 (by rfl) (by decide) _ j _ (by rfl) hR9.own ⟨gq, 0, none⟩ 1 1 [.slice A5 (r15P ((t.ch 5).ch j)).k c5] (by rfl) (by rfl) ?gnewy21 ?goney21 (by decide) ?gmy21 ?gby21 ?gbasey21 (y20.heap.size) rfl ?gky21
                  case gnewy21 =>
                    intro j' u hu
                    rw [addr_add, Nat.zero_add, hQ2.cell j']
                    simpa using hu
                  case goney21 => intro u hu; simp at hu; subst hu; rfl
                  case gmy21 => have := HLT.out; unfold maxLen; omega
                  case gby21 => have := HLT.out; omega
                  case gbasey21 => have := HWZ.out; have := hHeld.size; omega
                  intro g' cp' y21 hown' hgr' hat' hlt'
                  obtain ⟨ac', hR5⟩ := hR9.append hI rfl hown' hgr' hat'
                  have hOO : O ∉ obs A' := by
                    refine offA_obs (fun g' hg' => ?_)
                    have := (HR.out.off g' hg').1
                    have := HZZ.out
                    omega
                  have hO9 := hO9.mod (grown_obs hgr') hOO
                  refine hK.out _ _ (hHeld.trans ((grown_obs hgr').mono (by simp; exact fun k hk => .inr hk))) (fun hHeld => ?_)
                  clear hK K
                  (try simp only [Act.put, List.getElem_toArray, List.getElem_cons_zero, List.getElem_cons_succ, List.setIfInBounds_toArray, List.set_cons_zero, List.set_cons_succ])
                  refine' wpAnyH_take (i := 14) (v := _) rfl (by kernel_rfl) (by kernel_rfl) (by kernel_rfl) (fun _ _ _ h => h) (Or.inl ⟨by rfl, ?hy35⟩) hHeld ?rest35
                  case hy35 => (rintro W hM; go_simp; (try with_reducible rfl))
                  case rest35 =>
                  (try simp only [Act.put, List.getElem_toArray, List.getElem_cons_zero, List.getElem_cons_succ, List.setIfInBounds_toArray, List.set_cons_zero, List.set_cons_succ])
                  refine wpAnyH_ready (rs := [15]) (by kernel_rfl) (by simp) ?_
                  refine AllReadyH.cons rfl (fun K hK => ?_) AllReadyH.nil
                  have c7 : y21.cell? ⟨O, 7, none⟩ = some (.slice A' j c') := hO9.cell 7
                  have f7 := hO9.frozen 7
                  go_simp
                  have hOf := hO9.set_ 7 (.slice (some ⟨g', 0, none⟩) (j + 1) cp')
                  have hM7 := (Mod.refl [O] y21).setCell (p := ⟨O, 7, none⟩) (.inl (by simp)) (.slice (some ⟨g', 0, none⟩) (j + 1) cp')
                  generalize World.setCell y21 ⟨O, 7, none⟩ _ = yf at *
                  refine hK.out _ _ (hHeld.trans (hM7.mono (by simp))) (fun hHeld => ?_)
                  clear hK K c7 f7
                  (try simp only [Act.put, List.getElem_toArray, List.getElem_cons_zero, List.getElem_cons_succ, List.setIfInBounds_toArray, List.set_cons_zero, List.set_cons_succ])
                  refine wpAnyH_done (by kernel_rfl) ?_ _
                  have hg'z : g' ≠ O := by
                    have h1 : Z3.heap.size ≤ g' := (hR5.off _ rfl).1
                    have := HZZ.out
                    omega
                  have HBF : Hid (Blk yf O 29 #[.slice At (t.ch 0).k ct, .int .i64 (X), .int .i64 E.sch, str E.name, .int .u64 (E.node : Int), .int .u64 (E.svc : Int), .slice Ap (r15P (t.ch 4)).k cp, .slice (some ⟨g', 0, none⟩) (j + 1) cp']) := hid hOf
                  have HRF := hid (hR5.modQ hM7 (fun g'' hg'' => by cases hg''; simpa using hg'z) (fun k hk _ => by simpa using hk.1))
                  have HMF : Hid (Mod (O :: obs A') wl yf) := hid hHeld
                  clear hOf hR5 hM7 hHeld hO9 hR9 hown' hgr' hat' hlt' hQ2 hI hOO
                  go_wp2_with fail
                  go_roundw
                  case rel =>
                    refine ⟨j + 1, by go_num, (show Hid _ from ⟨some ⟨g', 0, none⟩, cp', ac', HLT.out, HKEEP.out _ HMF.out, Nat.le_trans HWZ.out HMF.out.size, HBF.out, HRF.out, HN.out.mod HMF.out ?_, HP.out.mod HMF.out ?_⟩)⟩
                    · intro b' o' h _ hm
                      have h1 := HKQ.out _ h
                      have h2 := HZZ.out
                      rcases List.mem_cons.1 hm with h | h
                      · have h3 : z.heap.size ≤ b' := h1.1; omega
                      · exact offA_obs (fun g'' hg'' => by have := (HR.out.off g'' hg'').1; have h3 : b' < Z3.heap.size := h1.2; show b' ≠ g''.block; omega) h
                    · intro k hk _ hm
                      rcases List.mem_cons.1 hm with h | h
                      · exact hk.1 h
                      · exact offA_obs (fun g'' hg'' => by have := (HR.out.off g'' hg'').1; have h3 : k < Z3.heap.size := hk.2.2; show k ≠ g''.block; omega) h
                  case measure => have := HLT.out; simp [intOf]; omega
                · go_simp
                  go_at_call 32
                  refine (HKP.out y0 hHeld).mono ?_
                  rintro x y22 ⟨A5, c5, rfl, hb, hc5, hp5⟩
                  have hsz5 : wl.heap.size ≤ y0.heap.size := hHeld.size
                  have hO9 := hO9.ext hb
                  have hR9 := hR9.ext hb
                  refine hK.out _ _ (hHeld.trans (hb.mono (by simp))) (fun hHeld => ?_)
                  clear hK K
                  (try simp only [Act.put, List.getElem_toArray, List.getElem_cons_zero, List.getElem_cons_succ, List.setIfInBounds_toArray, List.set_cons_zero, List.set_cons_succ])
                  have hp5 : PsL y22 (fun b => (V.heap.size ≤ b ∧ b < wr.heap.size) ∨ wl.heap.size ≤ b) A5 (r15P ((t.ch 5).ch j)) := hp5.weak (fun b _ h => h.elim (fun h => .inl h.1) (fun h => .inr (Nat.le_trans hsz5 h)))
                  clear hb
                  refine wpAnyH_ready (rs := [1, 12]) (by kernel_rfl) (by simp) ?_
                  refine AllReadyH.cons rfl (fun K hK => ?_) (AllReadyH.cons rfl (fun K hK => ?_) AllReadyH.nil)
                  · have c7 : y22.cell? ⟨O, 7, none⟩ = some (.slice A' j c') := hO9.cell 7
                    go_simp
                    refine hK.out _ _ hHeld (fun hHeld => ?_)
                    clear hK K c7
                    (try simp only [Act.put, List.getElem_toArray, List.getElem_cons_zero, List.getElem_cons_succ, List.setIfInBounds_toArray, List.set_cons_zero, List.set_cons_succ])
                    refine wpAnyH_ready (rs := [12]) (by kernel_rfl) (by simp) ?_
                    refine AllReadyH.cons rfl (fun K hK => ?_) AllReadyH.nil
                    go_simp
                    have hQ2 : Blk (World.alloc y22 (.cells #[.slice A5 (r15P ((t.ch 5).ch j)).k c5] 26)) y22.heap.size 26 #[.slice A5 (r15P ((t.ch 5).ch j)).k c5] := Blk.new _ _ _
                    have hXX : Ext y22 (World.alloc y22 (.cells #[.slice A5 (r15P ((t.ch 5).ch j)).k c5] 26)) := (Mod.refl [] _).alloc _
                    generalize World.alloc y22 (.cells #[.slice A5 (r15P ((t.ch 5).ch j)).k c5] 26) = y24 at *
                    have hO9 := hO9.ext hXX
                    have hR9 := hR9.ext hXX
                    have hp5 := hp5.ext hXX
                    refine hK.out _ _ (hHeld.trans (hXX.mono (by simp))) (fun hHeld => ?_)
                    clear hK K
                    (try simp only [Act.put, List.getElem_toArray, List.getElem_cons_zero, List.getElem_cons_succ, List.setIfInBounds_toArray, List.set_cons_zero, List.set_cons_succ])
                    generalize y22.heap.size = gq at *
                    refine wpAnyH_ready (rs := [13]) (by kernel_rfl) (by simp) ?_
                    refine AllReadyH.cons rfl (fun K hK => ?_) AllReadyH.nil
                    have hI : resH.hang y24 (fun b => (b ≠ O ∧ b ≠ w.heap.size) ∧ offA A' b) (r15P ((t.ch 5).ch j)) (A5, c5) := ⟨hp5.weak (fun b _ hb => ⟨⟨by have := HZZ.out; have := HWZ.out; have hb : (V.heap.size ≤ b ∧ b < wr.heap.size) ∨ wl.heap.size ≤ b := hb; omega, by have := HZZ.out; have := HWZ.out; have hb : (V.heap.size ≤ b ∧ b < wr.heap.size) ∨ wl.heap.size ≤ b := hb; omega⟩, fun g hg => by have := HR.out.off g hg; have := HZZ.out; have hb : (V.heap.size ≤ b ∧ b < wr.heap.size) ∨ wl.heap.size ≤ b := hb; omega⟩), hc5⟩
                    obtain ⟨ib, hi, hz0, hz1, hz2⟩ := info_parts infoPairs
                    refine wp_append_lies _ _ _ 27 (by rfl) Z3.heap.size 26 ib _ 1 24 Tryz.underlying27 hi hz0 hz1 hz2 (by rfl) (by decide) _ j _ (by rfl) hR9.own ⟨gq, 0, none⟩ 1 1 [.slice A5 (r15P ((t.ch 5).ch j)).k c5] (by rfl) (by rfl) ?gnewy25 ?goney25 (by decide) ?gmy25 ?gby25 ?gbasey25 (y24.heap.size) rfl ?gky25
                    case gnewy25 =>
                      intro j' u hu
                      rw [addr_add, Nat.zero_add, hQ2.cell j']
                      simpa using hu
                    case goney25 => intro u hu; simp at hu; subst hu; rfl
                    case gmy25 => have := HLT.out; unfold maxLen; omega
                    case gby25 => have := HLT.out; omega
                    case gbasey25 => have := HWZ.out; have := hHeld.size; omega
                    intro g' cp' y25 hown' hgr' hat' hlt'
                    obtain ⟨ac', hR5⟩ := hR9.append hI rfl hown' hgr' hat'
                    have hOO : O ∉ obs A' := by
                      refine offA_obs (fun g' hg' => ?_)
                      have := (HR.out.off g' hg').1
                      have := HZZ.out
                      omega
                    have hO9 := hO9.mod (grown_obs hgr') hOO
                    refine hK.out _ _ (hHeld.trans ((grown_obs hgr').mono (by simp; exact fun k hk => .inr hk))) (fun hHeld => ?_)
                    clear hK K
                    (try simp only [Act.put, List.getElem_toArray, List.getElem_cons_zero, List.getElem_cons_succ, List.setIfInBounds_toArray, List.set_cons_zero, List.set_cons_succ])
                    refine' wpAnyH_take (i := 14) (v := _) rfl (by kernel_rfl) (by kernel_rfl) (by kernel_rfl) (fun _ _ _ h => h) (Or.inl ⟨by rfl, ?hy36⟩) hHeld ?rest36
                    case hy36 => (rintro W hM; go_simp; (try with_reducible rfl))
                    case rest36 =>
                    (try simp only [Act.put, List.getElem_toArray, List.getElem_cons_zero, List.getElem_cons_succ, List.setIfInBounds_toArray, List.set_cons_zero, List.set_cons_succ])
                    refine wpAnyH_ready (rs := [15]) (by kernel_rfl) (by simp) ?_
                    refine AllReadyH.cons rfl (fun K hK => ?_) AllReadyH.nil
                    have c7 : y25.cell? ⟨O, 7, none⟩ = some (.slice A' j c') := hO9.cell 7
                    have f7 := hO9.frozen 7
                    go_simp
                    have hOf := hO9.set_ 7 (.slice (some ⟨g', 0, none⟩) (j + 1) cp')
                    have hM7 := (Mod.refl [O] y25).setCell (p := ⟨O, 7, none⟩) (.inl (by simp)) (.slice (some ⟨g', 0, none⟩) (j + 1) cp')
                    generalize World.setCell y25 ⟨O, 7, none⟩ _ = yf at *
                    refine hK.out _ _ (hHeld.trans (hM7.mono (by simp))) (fun hHeld => ?_)
                    clear hK K c7 f7
                    (try simp only [Act.put, List.getElem_toArray, List.getElem_cons_zero, List.getElem_cons_succ, List.setIfInBounds_toArray, List.set_cons_zero, List.set_cons_succ])
                    refine wpAnyH_done (by kernel_rfl) ?_ _
                    have hg'z : g' ≠ O := by
                      have h1 : Z3.heap.size ≤ g' := (hR5.off _ rfl).1
                      have := HZZ.out
                      omega
                    have HBF : Hid (Blk yf O 29 #[.slice At (t.ch 0).k ct, .int .i64 (X), .int .i64 E.sch, str E.name, .int .u64 (E.node : Int), .int .u64 (E.svc : Int), .slice Ap (r15P (t.ch 4)).k cp, .slice (some ⟨g', 0, none⟩) (j + 1) cp']) := hid hOf
                    have HRF := hid (hR5.modQ hM7 (fun g'' hg'' => by cases hg''; simpa using hg'z) (fun k hk _ => by simpa using hk.1))
                    have HMF : Hid (Mod (O :: obs A') wl yf) := hid hHeld
                    clear hOf hR5 hM7 hHeld hO9 hR9 hown' hgr' hat' hlt' hQ2 hI hOO
                    go_wp2_with fail
                    go_roundw
                    case rel =>
                      refine ⟨j + 1, by go_num, (show Hid _ from ⟨some ⟨g', 0, none⟩, cp', ac', HLT.out, HKEEP.out _ HMF.out, Nat.le_trans HWZ.out HMF.out.size, HBF.out, HRF.out, HN.out.mod HMF.out ?_, HP.out.mod HMF.out ?_⟩)⟩
                      · intro b' o' h _ hm
                        have h1 := HKQ.out _ h
                        have h2 := HZZ.out
                        rcases List.mem_cons.1 hm with h | h
                        · have h3 : z.heap.size ≤ b' := h1.1; omega
                        · exact offA_obs (fun g'' hg'' => by have := (HR.out.off g'' hg'').1; have h3 : b' < Z3.heap.size := h1.2; show b' ≠ g''.block; omega) h
                      · intro k hk _ hm
                        rcases List.mem_cons.1 hm with h | h
                        · exact hk.1 h
                        · exact offA_obs (fun g'' hg'' => by have := (HR.out.off g'' hg'').1; have h3 : k < Z3.heap.size := hk.2.2; show k ≠ g''.block; omega) h
                    case measure => have := HLT.out; simp [intOf]; omega
                  · go_simp
                    have hQ2 : Blk (World.alloc y22 (.cells #[.slice A5 (r15P ((t.ch 5).ch j)).k c5] 26)) y22.heap.size 26 #[.slice A5 (r15P ((t.ch 5).ch j)).k c5] := Blk.new _ _ _
                    have hXX : Ext y22 (World.alloc y22 (.cells #[.slice A5 (r15P ((t.ch 5).ch j)).k c5] 26)) := (Mod.refl [] _).alloc _
                    generalize World.alloc y22 (.cells #[.slice A5 (r15P ((t.ch 5).ch j)).k c5] 26) = y26 at *
                    have hO9 := hO9.ext hXX
                    have hR9 := hR9.ext hXX
                    have hp5 := hp5.ext hXX
                    refine hK.out _ _ (hHeld.trans (hXX.mono (by simp))) (fun hHeld => ?_)
                    clear hK K
                    (try simp only [Act.put, List.getElem_toArray, List.getElem_cons_zero, List.getElem_cons_succ, List.setIfInBounds_toArray, List.set_cons_zero, List.set_cons_succ])
                    generalize y22.heap.size = gq at *
                    refine wpAnyH_ready (rs := [1]) (by kernel_rfl) (by simp) ?_
                    refine AllReadyH.cons rfl (fun K hK => ?_) AllReadyH.nil
                    have c7 : y26.cell? ⟨O, 7, none⟩ = some (.slice A' j c') := hO9.cell 7
                    go_simp
                    refine hK.out _ _ hHeld (fun hHeld => ?_)
                    clear hK K c7
                    (try simp only [Act.put, List.getElem_toArray, List.getElem_cons_zero, List.getElem_cons_succ, List.setIfInBounds_toArray, List.set_cons_zero, List.set_cons_succ])
                    refine wpAnyH_ready (rs := [13]) (by kernel_rfl) (by simp) ?_
                    refine AllReadyH.cons rfl (fun K hK => ?_) AllReadyH.nil
                    have hI : resH.hang y26 (fun b => (b ≠ O ∧ b ≠ w.heap.size) ∧ offA A' b) (r15P ((t.ch 5).ch j)) (A5, c5) := ⟨hp5.weak (fun b _ hb => ⟨⟨by have := HZZ.out; have := HWZ.out; have hb : (V.heap.size ≤ b ∧ b < wr.heap.size) ∨ wl.heap.size ≤ b := hb; omega, by have := HZZ.out; have := HWZ.out; have hb : (V.heap.size ≤ b ∧ b < wr.heap.size) ∨ wl.heap.size ≤ b := hb; omega⟩, fun g hg => by have := HR.out.off g hg; have := HZZ.out; have hb : (V.heap.size ≤ b ∧ b < wr.heap.size) ∨ wl.heap.size ≤ b := hb; omega⟩), hc5⟩
                    obtain ⟨ib, hi, hz0, hz1, hz2⟩ := info_parts infoPairs
                    refine wp_append_lies _ _ _ 27 (by rfl) Z3.heap.size 26 ib _ 1 24 Tryz.underlying27 hi hz0 hz1 hz2 (by rfl) (by decide) _ j _ (by rfl) hR9.own ⟨gq, 0, none⟩ 1 1 [.slice A5 (r15P ((t.ch 5).ch j)).k c5] (by rfl) (by rfl) ?gnewy28 ?goney28 (by decide) ?gmy28 ?gby28 ?gbasey28 (y26.heap.size) rfl ?gky28
                    case gnewy28 =>
                      intro j' u hu
                      rw [addr_add, Nat.zero_add, hQ2.cell j']
                      simpa using hu
                    case goney28 => intro u hu; simp at hu; subst hu; rfl
                    case gmy28 => have := HLT.out; unfold maxLen; omega
                    case gby28 => have := HLT.out; omega
                    case gbasey28 => have := HWZ.out; have := hHeld.size; omega
                    intro g' cp' y28 hown' hgr' hat' hlt'
                    obtain ⟨ac', hR5⟩ := hR9.append hI rfl hown' hgr' hat'
                    have hOO : O ∉ obs A' := by
                      refine offA_obs (fun g' hg' => ?_)
                      have := (HR.out.off g' hg').1
                      have := HZZ.out
                      omega
                    have hO9 := hO9.mod (grown_obs hgr') hOO
                    refine hK.out _ _ (hHeld.trans ((grown_obs hgr').mono (by simp; exact fun k hk => .inr hk))) (fun hHeld => ?_)
                    clear hK K
                    (try simp only [Act.put, List.getElem_toArray, List.getElem_cons_zero, List.getElem_cons_succ, List.setIfInBounds_toArray, List.set_cons_zero, List.set_cons_succ])
                    refine' wpAnyH_take (i := 14) (v := _) rfl (by kernel_rfl) (by kernel_rfl) (by kernel_rfl) (fun _ _ _ h => h) (Or.inl ⟨by rfl, ?hy37⟩) hHeld ?rest37
                    case hy37 => (rintro W hM; go_simp; (try with_reducible rfl))
                    case rest37 =>
                    (try simp only [Act.put, List.getElem_toArray, List.getElem_cons_zero, List.getElem_cons_succ, List.setIfInBounds_toArray, List.set_cons_zero, List.set_cons_succ])
                    refine wpAnyH_ready (rs := [15]) (by kernel_rfl) (by simp) ?_
                    refine AllReadyH.cons rfl (fun K hK => ?_) AllReadyH.nil
                    have c7 : y28.cell? ⟨O, 7, none⟩ = some (.slice A' j c') := hO9.cell 7
                    have f7 := hO9.frozen 7
                    go_simp
                    have hOf := hO9.set_ 7 (.slice (some ⟨g', 0, none⟩) (j + 1) cp')
                    have hM7 := (Mod.refl [O] y28).setCell (p := ⟨O, 7, none⟩) (.inl (by simp)) (.slice (some ⟨g', 0, none⟩) (j + 1) cp')
                    generalize World.setCell y28 ⟨O, 7, none⟩ _ = yf at *
                    refine hK.out _ _ (hHeld.trans (hM7.mono (by simp))) (fun hHeld => ?_)
                    clear hK K c7 f7
                    (try simp only [Act.put, List.getElem_toArray, List.getElem_cons_zero, List.getElem_cons_succ, List.setIfInBounds_toArray, List.set_cons_zero, List.set_cons_succ])
                    refine wpAnyH_done (by kernel_rfl) ?_ _
                    have hg'z : g' ≠ O := by
                      have h1 : Z3.heap.size ≤ g' := (hR5.off _ rfl).1
                      have := HZZ.out
                      omega
                    have HBF : Hid (Blk yf O 29 #[.slice At (t.ch 0).k ct, .int .i64 (X), .int .i64 E.sch, str E.name, .int .u64 (E.node : Int), .int .u64 (E.svc : Int), .slice Ap (r15P (t.ch 4)).k cp, .slice (some ⟨g', 0, none⟩) (j + 1) cp']) := hid hOf
                    have HRF := hid (hR5.modQ hM7 (fun g'' hg'' => by cases hg''; simpa using hg'z) (fun k hk _ => by simpa using hk.1))
                    have HMF : Hid (Mod (O :: obs A') wl yf) := hid hHeld
                    clear hOf hR5 hM7 hHeld hO9 hR9 hown' hgr' hat' hlt' hQ2 hI hOO
                    go_wp2_with fail
                    go_roundw
                    case rel =>
                      refine ⟨j + 1, by go_num, (show Hid _ from ⟨some ⟨g', 0, none⟩, cp', ac', HLT.out, HKEEP.out _ HMF.out, Nat.le_trans HWZ.out HMF.out.size, HBF.out, HRF.out, HN.out.mod HMF.out ?_, HP.out.mod HMF.out ?_⟩)⟩
                      · intro b' o' h _ hm
                        have h1 := HKQ.out _ h
                        have h2 := HZZ.out
                        rcases List.mem_cons.1 hm with h | h
                        · have h3 : z.heap.size ≤ b' := h1.1; omega
                        · exact offA_obs (fun g'' hg'' => by have := (HR.out.off g'' hg'').1; have h3 : b' < Z3.heap.size := h1.2; show b' ≠ g''.block; omega) h
                      · intro k hk _ hm
                        rcases List.mem_cons.1 hm with h | h
                        · exact hk.1 h
                        · exact offA_obs (fun g'' hg'' => by have := (HR.out.off g'' hg'').1; have h3 : k < Z3.heap.size := hk.2.2; show k ≠ g''.block; omega) h
                    case measure => have := HLT.out; simp [intOf]; omega
              · have hjt : j = (t.ch 5).k := by obtain ⟨_, _, _, hjk, _⟩ := hS.out; omega
                have tc : decide (j < (t.ch 5).k) = false := by rw [hjt]; simp
                have j1 : ¬ (j : Int) < ((t.ch 5).k : Int) := by omega
                obtain ⟨A', c', ac, hjk, hVW, hzw, hB', hR', hN', hP''⟩ := hS.out
                have HVW := hid hVW
                rw [hjt] at hB' hR'
                have HB := hid hB'
                have HRS := hid (hR'.rs (fun b hb => by have := HZZ.out; constructor <;> omega))
                have HN := hid hN'
                have HP := hid hP''
                clear hS hjk hVW hzw hB' hR' hN' hP'' hjt
                have HRA : Hid (r15A t = ⟨(t.ch 0).k, tgtN (t.ch 0), X, E, r15P (t.ch 4), (t.ch 5).k, fun i => r15P ((t.ch 5).ch i)⟩) := hid (by unfold r15A; rw [HTK.out, HXE.out, HEE.out]; rfl)
                have HCE : Hid (asbC (r15A t) ⟨At, ct, Ap, cp, A', c'⟩ = #[.slice At (t.ch 0).k ct, .int .i64 (X), .int .i64 E.sch, str E.name, .int .u64 (E.node : Int), .int .u64 (E.svc : Int), .slice Ap (r15P (t.ch 4)).k cp, .slice A' (t.ch 5).k c']) := hid (by rw [HRA.out] <;> rfl)
                have HALL : Hid (AsL wl (fun b => b ≠ w.heap.size) (r15A t) ⟨At, ct, Ap, cp, A', c'⟩) := hid (by
                  rw [HRA.out]
                  exact ⟨HN.out, fun b o hA _ => by have h1 := (HKQ.out _ hA).1; have h1 : z.heap.size ≤ b := h1; have := HZZ.out; show b ≠ w.heap.size; omega, HP.out.weak (fun b _ hb => hb.2.1), HRS.out.weak (fun b _ hb => hb.2)⟩)
                have HZC := hid (ZC.mk' (r15A t) ⟨At, ct, Ap, cp, A', c'⟩)
                obtain ⟨zc, hzc⟩ : ∃ zc, asbC (r15A t) ⟨At, ct, Ap, cp, A', c'⟩ = zc := ⟨_, rfl⟩
                have HZE := hid hzc
                rw [HCE.out.symm.trans hzc] at HB
                rw [hzc] at HZC
                have KRR : Hid (∀ e : Later wl, Calls Tryz.prog 7 #[.agg zc] e.x (Ret (.bool (r15A t).right) e.x)) := hid (fun e => by rw [← HZE.out]; exact r15Right_any (r15A t) HWF.out (fun _ => HSMA.out) ⟨At, ct, Ap, cp, A', c'⟩ e.x ((HALL.out.ext e.h).wk (fun _ _ _ => trivial)))
                have KBU : Hid (∀ e : Later wl, (r15A t).shaped = true → Calls Tryz.prog 11 #[.agg zc] e.x (Ret (str (r15A t).bytes) e.x)) := hid (fun e hs => by rw [← HZE.out]; exact r15Bytes_any (r15A t) HWF.out HSMA.out hs ⟨At, ct, Ap, cp, A', c'⟩ e.x ((HALL.out.ext e.h).wk (fun _ _ _ => trivial)))
                have HEQ2 : Hid (∀ a, isAsb l a → a.Eqv (r15A t) ∧ a.shaped = true) := hid (fun a ha => ⟨(HEQ.out a ha).2.2, (HEQ.out a ha).1⟩)
                have HBR := hid (HBW.out.ext HVW.out)
                have HE2 := hid (HEW.out.trans HVW.out)
                have HRL : Hid (∀ e : Later wl, Blk e.x O 29 zc) := hid (fun e => HB.out.later e)
                clear hzc HCE HRA HB HRS HN HP HEQ HKD HTK
                go_upto_region 29 with fail
                clear b0w tc j1
                generalize r15A t = B at *
                obtain ⟨e, he⟩ := Later.self wl
                rw [he]
                clear he
                have tk1 : True := trivial
                have tk2 : True := trivial
                cases hr : B.right with
                | false =>
                  have HNO : Hid (∀ a, ¬ isAsb l a) := hid (fun a ha => by
                    obtain ⟨h1, h2⟩ := HEQ2.out a ha
                    have hs := h1.shaped h2
                    have hk : a.rk = a.tk := (AV.shaped_iff.1 h2).2.2.2.2.2.2.1
                    have hb := h1.bytes hk
                    have h3 := ha.2.1
                    unfold AV.right at h3 hr
                    rw [hs, Bool.true_and] at hr
                    rw [h2, Bool.true_and, hb, hr] at h3
                    exact absurd h3 (by decide))
                  rw [hr] at KRR
                  clear hr HEQ2 KBU
                  go_upto_region 30 with (first | (clear tk1; refine wpList_row (by rfl) 29 _ rfl _ rfl (HRL.out _) Tryz.underlying29 rfl HZC.out.i ?_) | (go_at_call 7; refine (Ret.later (KRR.out _)).mono ?_; rintro x _ ⟨rfl, e, rfl⟩))
                  go_wp2_with (first | (refine wpList_store_mid rfl 29 _ _ rfl w.heap.size 0 #[.slice none 0 0, .int .i64 0, .int .i64 0, .string ⟨#[]⟩, .int .u64 0, .int .u64 0, .slice none 0 0, .slice none 0 0] (by rfl) (by rfl) ((HBR.out.later e).there (Nat.le_refl 8)) (by kernel_rfl) (by simp [Value.oneCell']) ?_))
                  generalize hZZ : World.setCells _ _ _ _ = ZZ
                  have HZB : Hid (Blk ZZ w.heap.size 29 #[.slice none 0 0, .int .i64 0, .int .i64 0, .string ⟨#[]⟩, .int .u64 0, .int .u64 0, .slice none 0 0, .slice none 0 0]) := hid (by rw [← hZZ]; exact setCells_all (ds := #[.slice none 0 0, .int .i64 0, .int .i64 0, .string ⟨#[]⟩, .int .u64 0, .int .u64 0, .slice none 0 0, .slice none 0 0]) (HBR.out.later e) rfl)
                  have HZM : Hid (Ext w ZZ) := hid (by rw [← hZZ]; exact setCells_mod _ _ (HE2.out.trans e.h) (.inr (by omega)))
                  clear hZZ
                  refine bodyPost_ret (results_cell2 rfl _ (by rfl) rfl HZB.out Tryz.underlying29 rfl (by kernel_rfl)) rfl (.inl ⟨HNO.out, rfl, HZM.out⟩)
                | true =>
                  have HSH : Hid (B.shaped = true) := hid (by unfold AV.right at hr; rw [Bool.and_eq_true] at hr; exact hr.1)
                  have KBU : Hid (∀ e : Later wl, Calls Tryz.prog 11 #[.agg zc] e.x (Ret (str B.bytes) e.x)) := hid (fun e => KBU.out e HSH.out)
                  rw [hr] at KRR
                  have HRI := hid hr
                  clear hr
                  by_cases hB : B.bytes = l
                  · have HIS : Hid (isAsb l B) := hid ⟨HWF.out, HRI.out, hB⟩
                    rw [hB] at KBU
                    clear hB
                    go_upto_region 31 with (first | (clear tk1; refine wpList_row (by rfl) 29 _ rfl _ rfl (HRL.out _) Tryz.underlying29 rfl HZC.out.i ?_) | (clear tk2; refine wpList_row (by rfl) 29 _ rfl _ rfl (HRL.out _) Tryz.underlying29 rfl HZC.out.i ?_) | (go_at_call 7; refine (Ret.later (KRR.out _)).mono ?_; rintro x _ ⟨rfl, e, rfl⟩) | (go_at_call 11; refine (Ret.later (KBU.out _)).mono ?_; rintro x _ ⟨rfl, e, rfl⟩))
                    have tk1 : True := trivial
                    have tk2 : True := trivial
                    go_wp2_with (first | (clear tk1; refine wpList_row (by rfl) 29 _ rfl _ rfl (HRL.out _) Tryz.underlying29 rfl HZC.out.i ?_) | (clear tk2; refine wpList_store_mid rfl 29 _ _ rfl w.heap.size 0 zc (by rfl) (by rfl) ((HBR.out.later e).there (by rw [HZC.out.s]; exact Nat.le_refl 8)) HZC.out.i HZC.out.o ?_))
                    generalize hZZ : World.setCells _ _ _ _ = ZZ
                    have HZB : Hid (Blk ZZ w.heap.size 29 zc) := hid (by rw [← hZZ]; exact setCells_all (ds := zc) (HBR.out.later e) (by rw [Array.length_toList, HZC.out.s]; rfl))
                    have HZX : Hid (Mod [w.heap.size] wl ZZ) := hid (by rw [← hZZ]; exact setCells_mod _ _ ((Mod.refl [w.heap.size] wl).trans (e.h.mono (by simp))) (.inl (by simp)))
                    have HZM : Hid (Ext w ZZ) := hid (by rw [← hZZ]; exact setCells_mod _ _ (HE2.out.trans e.h) (.inr (by omega)))
                    clear hZZ
                    refine bodyPost_ret (results_cell2 rfl _ (by rfl) rfl HZB.out Tryz.underlying29 rfl HZC.out.i) rfl (.inr ⟨B, _, HIS.out, fun a ha => (HEQ2.out a ha).1, by rw [← HZE.out]; rfl, HZM.out, ?_⟩)
                    exact (HALL.out.mod HZX.out (fun k hk _ => by simpa using hk)).wk (fun _ _ _ => trivial)
                  · have HNO : Hid (∀ a, ¬ isAsb l a) := hid (fun a ha => by
                      obtain ⟨h1, h2⟩ := HEQ2.out a ha
                      have hk : a.rk = a.tk := (AV.shaped_iff.1 h2).2.2.2.2.2.2.1
                      exact hB (by rw [← h1.bytes hk]; exact ha.2.2))
                    have t1a : ((B.bytes) == (l)) = false := by rw [beq_eq_false_iff_ne]; exact hB
                    have t1b : ((B.bytes) = (l)) = False := eq_false (by exact hB)
                    have t1c : ((B.bytes) != (l)) = true := by rw [bne_iff_ne]; exact hB
                    clear hB HEQ2 HSH
                    generalize B.bytes = BB at *
                    go_upto_region 30 with (first | (clear tk1; refine wpList_row (by rfl) 29 _ rfl _ rfl (HRL.out _) Tryz.underlying29 rfl HZC.out.i ?_) | (clear tk2; refine wpList_row (by rfl) 29 _ rfl _ rfl (HRL.out _) Tryz.underlying29 rfl HZC.out.i ?_) | (go_at_call 7; refine (Ret.later (KRR.out _)).mono ?_; rintro x _ ⟨rfl, e, rfl⟩) | (go_at_call 11; refine (Ret.later (KBU.out _)).mono ?_; rintro x _ ⟨rfl, e, rfl⟩))
                    go_wp2_with (first | (refine wpList_store_mid rfl 29 _ _ rfl w.heap.size 0 #[.slice none 0 0, .int .i64 0, .int .i64 0, .string ⟨#[]⟩, .int .u64 0, .int .u64 0, .slice none 0 0, .slice none 0 0] (by rfl) (by rfl) ((HBR.out.later e).there (Nat.le_refl 8)) (by kernel_rfl) (by simp [Value.oneCell']) ?_))
                    generalize hZZ : World.setCells _ _ _ _ = ZZ
                    have HZB : Hid (Blk ZZ w.heap.size 29 #[.slice none 0 0, .int .i64 0, .int .i64 0, .string ⟨#[]⟩, .int .u64 0, .int .u64 0, .slice none 0 0, .slice none 0 0]) := hid (by rw [← hZZ]; exact setCells_all (ds := #[.slice none 0 0, .int .i64 0, .int .i64 0, .string ⟨#[]⟩, .int .u64 0, .int .u64 0, .slice none 0 0, .slice none 0 0]) (HBR.out.later e) rfl)
                    have HZM : Hid (Ext w ZZ) := hid (by rw [← hZZ]; exact setCells_mod _ _ (HE2.out.trans e.h) (.inr (by omega)))
                    clear hZZ
                    refine bodyPost_ret (results_cell2 rfl _ (by rfl) rfl HZB.out Tryz.underlying29 rfl (by kernel_rfl)) rfl (.inl ⟨HNO.out, rfl, HZM.out⟩)
end Go.Proofs.YtblfmokklfhklaaGreatDoor
