/-
 Security texts, read: results.
-/
import Derived.Test.YtmckfdmdkljomaaGreatDoorMMixLessCardap
namespace Go.Proofs.YtmckfdmdkljomaaGreatDoor
open Go.RowKit
set_option linter.unusedVariables false
set_option linter.unusedSimpArgs false
def resK (t : T) (i : Nat) : Bool := T.all (pairK (t.ch i)) (t.ch i).k
def resP (t : T) (i : Nat) : PL := ⟨(t.ch i).k, pairP (t.ch i)⟩
def RdResPost (Q : Nat -> Prop) (t : T) (eb : Addr) (w : World) (e : Ending) (w' : World) : Prop :=
 (T.all (resK t) t.k = false /\ ∃ l, e = .returned (.tuple #[.slice none 0 0, errV eb ([114, 101, 115, 117, 108, 116, 115] :: l)]) /\ Ext w w') \/
 (T.all (resK t) t.k = true /\ ∃ A' c', e = .returned (.tuple #[.slice A' t.k c', .nilIface]) /\ Ext w w' /\ t.k <= c' /\ RsL w' (fun b => (Q b /\ b < w.heap.size) \/ w.heap.size <= b) A' t.k (resP t))
set_option maxRecDepth 20000 in
set_option maxHeartbeats 8000000 in
theorem areadR_any {Q : Nat -> Prop} (t : T) (hk : t.k <= 1000) (hkk : ∀ i, i < t.k -> (t.ch i).k <= 1000) (A : Option Addr) (c : Nat) (eb : Addr) (w : World) (hf : FormAt w eb) (h : IsL w Q t A) : Calls Tryz.prog 126 #[itemV t A c] w (RdResPost Q t eb w) := by
 have HK := hid hk
 have HKI := hid hkk
 have k0 : (t.k : Int) <= 1000 := by omega
 have HE := hid ((Mod.refl [] w).alloc (.cells (itemC t A c) 68))
 have HB := hid (Blk.new w 68 (itemC t A c))
 have HL : Hid (IsL w (fun b => Q b /\ b < w.heap.size) t A) := hid (IsL.weak (fun b hb hq => ⟨hq, hb⟩) _ h)
 have HF := hid hf
 clear h hf hk hkk
 go_enter Tryz.func126, Tryz.ntmps126
 go_upto_region 1 with fail
 generalize w.alloc (.cells (itemC t A c) 68) = V at *
 have z3 : V.cell? ⟨w.heap.size, 3, none⟩ = some (.slice A t.k c) := HB.out.cell 3
 go_wp2_with fail
 clear z3
 have HW0 := HE
 obtain ⟨k, hkk⟩ : ∃ k, t.k = k := ⟨_, rfl⟩
 have HKK := hid hkk
 rw [hkk] at k0
 clear hkk
 go_loopw [4, 12] (fun s4 s12 wr => ∃ (i : Nat) (A' : Option Addr) (c' : Nat) (ac : Nat -> Option Addr × Nat), s12 = .int .i64 (i : Int) /\ s4 = .slice A' i c' /\ Hid (i <= k /\ Ext w wr /\ RwG resH 62 wr (fun b => (Q b /\ b < w.heap.size) \/ w.heap.size <= b) w.heap.size A' c' i (resP t) ac /\ T.all (resK t) i = true)) (fun _ s12 _ => k - (intOf s12).toNat)
 case atStart => exact ⟨0, none, 0, fun _ => (none, 0), by first | rfl | (rw [HKK.out]), rfl, (show Hid _ from ⟨Nat.zero_le _, HW0.out, RwG.nil, rfl⟩)⟩
 case round =>
  clear HW0
  obtain ⟨i, A', c', ac, rfl, rfl, hS⟩ := hrel
  rename World => wr
  have i0 : (0 : Int) <= (i : Int) := by omega
  by_cases hlt : i < k
  .
   obtain ⟨b, o, Ai, ci, rfl, hb, _, hat, hI⟩ := kidsA (HL.out.ext hS.out.2.1) (i := i) (by rw [HKK.out]; exact hlt)
   obtain ⟨q0, q1, q2, q3, q4⟩ := hat
   have tc : decide (i < k) = true := by simp [hlt]
   have td : decide (i < t.k) = true := by rw [HKK.out]; simp [hlt]
   have i1 : (i : Int) < (k : Int) := by omega
   have i2 : (i : Int) < (t.k : Int) := by rw [HKK.out]; omega
   have HLT := hid hlt
   have HI := hid hI
   clear hlt hI hb
   go_upto_region 5 with fail
   generalize hW1 : World.alloc wr _ = W1
   have HG1 : Hid (Blk W1 wr.heap.size 68 (itemC (t.ch i) Ai ci)) := hid (by rw [<- hW1]; exact Blk.new _ _ _)
   have hS1 : Hid (i <= k /\ Ext w W1 /\ RwG resH 62 W1 (fun b => (Q b /\ b < w.heap.size) \/ w.heap.size <= b) w.heap.size A' c' i (resP t) ac /\ T.all (resK t) i = true) := hid (by
    have h := hS.out
    rw [<- hW1]; exact ⟨h.1, h.2.1.alloc _, h.2.2.1.ext ((Mod.refl [] _).alloc _), h.2.2.2⟩)
   have HI1 : Hid (IsL W1 (fun b => Q b /\ b < w.heap.size) (t.ch i) Ai) := hid (by rw [<- hW1]; exact HI.out.ext ((Mod.refl [] _).alloc _))
   clear hW1 hS q0 q1 q2 q3 q4 HI
   generalize wr.heap.size = G at *
   have HGL : Hid (∀ e : Later W1, Blk e.x G 68 (itemC (t.ch i) Ai ci)) := hid (fun e => HG1.out.later e)
   have KP := hid (areadP_any (t.ch i) (HKI.out i (by rw [HKK.out]; exact HLT.out)) Ai ci eb W1 (HF.out.ext hS1.out.2.1) HI1.out)
   have tk1 : True := trivial
   cases hall : resK t i with
   | false =>
    have hall' : T.all (pairK (t.ch i)) (t.ch i).k = false := hall
    have KE : Hid (Calls Tryz.prog 125 #[itemV (t.ch i) Ai ci] W1 (fun e w' => ∃ l, e = .returned (.tuple #[.slice none 0 0, .iface 180 (.agg #[str [112, 97, 105, 114], errV eb l])]) /\ Ext W1 w')) := hid (KP.out.mono fun e w' h => by
     rcases h with ⟨_, l, h1, h2⟩ | ⟨h1, _⟩
     . exact ⟨l, h1, h2⟩
     . rw [hall'] at h1; exact absurd h1 (by decide))
    have HN : Hid (T.all (resK t) k = false) := hid (all_no HLT.out hall)
    clear hall hall' KP
    have HG2 : Hid (Blk W1 G 68 (itemC (t.ch i) Ai ci)) := HG1
    go_wp2_with (first | (clear tk1; refine wpList_row (by rfl) 68 _ rfl _ rfl HG2.out vqC rfl (by kernel_rfl) ?_) | (go_at_call 125; refine KE.out.mono ?_; rintro x w3 ⟨l, rfl, hb⟩; have HX := hid hb; clear hb))
    go_ret2
    exact .inl ⟨by rw [HKK.out]; exact HN.out, [112, 97, 105, 114] :: l, rfl, hS1.out.2.1.trans HX.out⟩
   | true =>
    have hall' : T.all (pairK (t.ch i)) (t.ch i).k = true := hall
    have KE : Hid (Calls Tryz.prog 125 #[itemV (t.ch i) Ai ci] W1 (fun e w' => ∃ A2 c2, e = .returned (.tuple #[.slice A2 (t.ch i).k c2, .nilIface]) /\ Ext W1 w' /\ (t.ch i).k <= c2 /\ PsL w' (fun b => ((Q b /\ b < w.heap.size) /\ b < W1.heap.size) \/ W1.heap.size <= b) A2 (resP t i))) := hid (KP.out.mono fun e w' h => by
     rcases h with ⟨h1, _⟩ | ⟨_, A2, c2, h1, h2, h3, h4⟩
     . rw [hall'] at h1; exact absurd h1 (by decide)
     . exact ⟨A2, c2, h1, h2, h3, h4⟩)
    have HY : Hid (resK t i = true) := hid hall
    clear hall hall' KP
    have HG2 : Hid (Blk W1 G 68 (itemC (t.ch i) Ai ci)) := HG1
    obtain ⟨ib, hi, hz0, hz1, hz2⟩ := info_parts infoPairs
    have HSZ1 : Hid (w.heap.size <= W1.heap.size) := hid hS1.out.2.1.size
    go_upto_region 8 with (first | (clear tk1; refine wpList_row (by rfl) 68 _ rfl _ rfl HG2.out vqC rfl (by kernel_rfl) ?_) | (go_at_call 125; refine KE.out.mono ?_; rintro x w3 ⟨A2, c2, rfl, hb, hc2, hps⟩; have HX := hid hb; have HC2 := hid hc2; have HPS := hid hps; clear hb hc2 hps))
    have hR1 := (hS1.out.2.2.1.ext HX.out).ext ((Mod.refl [] w3).alloc (.cells #[.slice A2 (t.ch i).k c2] 62))
    have hI5 : resH.hang (World.alloc w3 (.cells #[.slice A2 (t.ch i).k c2] 62)) (fun b => ((Q b /\ b < w.heap.size) \/ w.heap.size <= b) /\ offA A' b) (resP t i) (A2, c2) := ⟨(HPS.out.ext ((Mod.refl [] _).alloc _)).weak (fun b _ hb => ⟨by
     rcases hb with hb | hb
     . exact .inl hb.1
     . exact .inr (by have := HSZ1.out; omega), fun g hg => by
     have h2 := hS1.out.2.2.1.off g hg
     rcases hb with hb | hb
     . have := hb.1.2; omega
     . omega⟩), HC2.out⟩
    have HR1 := hid hR1
    have HI5 := hid hI5
    have HX3 : Hid (Ext w (World.alloc w3 (.cells #[.slice A2 (t.ch i).k c2] 62))) := hid ((hS1.out.2.1.trans HX.out).alloc _)
    have HS3 : Hid (W1.heap.size <= w3.heap.size) := hid HX.out.size
    clear hR1 hI5
    go_wp2_with (at_builtin; refine wpList_append_lies _ rfl _ _ 63 rfl w.heap.size 62 ib _ 1 24 Tryz.underlying63 hi hz0 hz1 hz2 rfl (by decide) _ i _ (by rfl) HR1.out.own ⟨w3.heap.size, 0, none⟩ 1 1 [.slice A2 (t.ch i).k c2] (by rfl) (by rfl) (fun j u hu => by rw [addr_add, Nat.zero_add, (Blk.new w3 62 #[.slice A2 (t.ch i).k c2]).cell j]; simpa using hu) (by intro u hu; simp at hu; rcases hu with rfl; rfl) (by decide) (by have := HLT.out; have := HK.out; have := HKK.out; unfold maxLen; omega) (by have := HLT.out; have := HK.out; have := HKK.out; omega) (by have := HSZ1.out; have := HS3.out; simp; omega) (w3.heap.size + 1) (by simp) ?_; intro g' cp' w4 hown' hgr' hat' hlt'; obtain ⟨ac', hR5⟩ := HR1.out.append HI5.out rfl hown' hgr' (by simpa using hat'); have HM5 := hid (grown_obs hgr'); have HR5 := hid hR5; clear hown' hgr' hat' hlt' hR5)
    go_roundw
    case rel => exact ⟨i + 1, some ⟨g', 0, none⟩, cp', ac', by go_num, rfl, (show Hid _ from ⟨HLT.out, ((HX3.out.of_ext (S := obs A')).trans HM5.out).new (fun k hk => .inr (by
     cases A' with
     | none => cases hk
     | some g => have := (HR1.out.off g rfl).1; simp [obs] at hk; omega)), HR5.out, by rw [T.all, hS1.out.2.2.2, HY.out]; rfl⟩)⟩
    case measure => have := HLT.out; simp [intOf]; omega
  .
   obtain rfl : i = k := by have := hS.out.1; omega
   have tc : decide (i < i) = false := by simp
   have td : decide (i < t.k) = false := by rw [HKK.out]; simp
   have i2 : ¬ (i : Int) < (t.k : Int) := by rw [HKK.out]; omega
   have HFIN := hid hS.out
   clear hS
   go_wp2_with fail
   go_ret2
   unfold RdResPost
   rw [HKK.out]
   exact .inr ⟨HFIN.out.2.2.2, A', c', rfl, HFIN.out.2.1, HFIN.out.2.2.1.cap, HFIN.out.2.2.1.rs (fun _ h => .inr h)⟩
def rdOK (t : T) : Bool := (decide (t.k = 5) || decide (t.k = 6)) && T.all (numK (t.ch 0)) (t.ch 0).k && decide ((t.ch 1).kind = 0) && ofB (t.ch 3) && (decide (t.k = 5) || T.all (pairK (t.ch 4)) (t.ch 4).k) && T.all (resK (t.ch (t.k - 1))) (t.ch (t.k - 1)).k
def rdA (t : T) : AV := ⟨(t.ch 0).k, tgtN (t.ch 0), min ((t.ch 1).n : Int) 65536, readE (t.ch 3), if t.k = 6 then ⟨(t.ch 4).k, pairP (t.ch 4)⟩ else zeroA.ps, (t.ch (t.k - 1)).k, resP (t.ch (t.k - 1))⟩
structure ZC (zc : Array Value) : Prop where
 i : (Tryz.prog.info? 65).map (·.size) = some zc.size
 o : zc.all (·.oneCell') = true
 s : zc.size = 8
theorem ZC.mk' (a : AV) (m : AA) : ZC (asbC a m) := ⟨by kernel_rfl, by simp [asbC, Value.oneCell'], rfl⟩
def NewQ (X : Nat -> Prop) (n b : Nat) : Prop := (X b /\ b < n) \/ n <= b
def RdPost (X : Nat -> Prop) (t : T) (eb : Addr) (w : World) (e : Ending) (w' : World) : Prop :=
 (rdOK t = false /\ ∃ zc x l, e = .returned (.tuple #[.agg zc, errV eb (x :: l)]) /\ Ext w w' /\ ZC zc) \/
 (rdOK t = true /\ ∃ m, e = .returned (.tuple #[asbV (rdA t) m, .nilIface]) /\ Ext w w' /\ AsL w' (NewQ X w.heap.size) (rdA t) m /\ (rdA t).tk <= m.tc /\ ∀ b o, m.t = some ⟨b, o, none⟩ -> w.heap.size <= b)
theorem T.okc {t : T} (hok : t.ok) {i : Nat} (hi : i < t.k) : (t.ch i).ok := by
 cases t with
 | nil => exact absurd hi (Nat.not_lt_zero _)
 | mk kd n s op k ch => unfold T.ok at hok; exact hok.2.2.2.2 i hi
set_option maxRecDepth 20000 in
set_option maxHeartbeats 16000000 in
theorem aread5_any {X : Nat -> Prop} (t : T) (hk : t.k = 5) (hok : t.ok) (hb : ∀ i, i < t.k -> (t.ch i).k <= 1000 /\ ∀ j, j < (t.ch i).k -> ((t.ch i).ch j).k <= 1000) (b o c : Nat) (eb : Addr) (w : World) (hf : FormAt w eb) (h : IsL w (fun b => X b /\ b < w.heap.size) t (some ⟨b, o, none⟩)) : Calls Tryz.prog 100 #[.slice (some ⟨b, o, none⟩) 5 c] w (RdPost X t eb w) := by
 have hch : ∀ i, i < 5 -> ∃ Ai ci, ∀ W, Ext w W -> At5 W b (o + 5 * i) (t.ch i) Ai ci /\ IsL W (fun b => X b /\ b < w.heap.size) (t.ch i) Ai := fun i hi => by
  obtain ⟨b', o', Ai, ci, h1, h2, _, h4, h5⟩ := kidsA h (i := i) (by omega)
  cases h1
  exact ⟨Ai, ci, fun W hW => ⟨by have := h4.mod hW h2 (by simp); rwa [Nat.mul_comm i 5] at this, h5.ext hW⟩⟩
 obtain ⟨A0, c0, hp0⟩ := hch 0 (by decide)
 have HP0 : Hid (∀ W, Ext w W -> At5 W b (o) (t.ch 0) A0 c0) := hid (fun W hW => (hp0 W hW).1)
 have HI0 : Hid (∀ W, Ext w W -> IsL W (fun b => X b /\ b < w.heap.size) (t.ch 0) A0) := hid (fun W hW => (hp0 W hW).2)
 clear hp0
 obtain ⟨A1, c1, hp1⟩ := hch 1 (by decide)
 have HP1 : Hid (∀ W, Ext w W -> At5 W b (o + 5) (t.ch 1) A1 c1) := hid (fun W hW => (hp1 W hW).1)
 have HI1 : Hid (∀ W, Ext w W -> IsL W (fun b => X b /\ b < w.heap.size) (t.ch 1) A1) := hid (fun W hW => (hp1 W hW).2)
 clear hp1
 obtain ⟨A3, c3, hp3⟩ := hch 3 (by decide)
 have HP3 : Hid (∀ W, Ext w W -> At5 W b (o + 15) (t.ch 3) A3 c3) := hid (fun W hW => (hp3 W hW).1)
 have HI3 : Hid (∀ W, Ext w W -> IsL W (fun b => X b /\ b < w.heap.size) (t.ch 3) A3) := hid (fun W hW => (hp3 W hW).2)
 clear hp3
 obtain ⟨A4, c4, hp4⟩ := hch 4 (by decide)
 have HP4 : Hid (∀ W, Ext w W -> At5 W b (o + 20) (t.ch 4) A4 c4) := hid (fun W hW => (hp4 W hW).1)
 have HI4 : Hid (∀ W, Ext w W -> IsL W (fun b => X b /\ b < w.heap.size) (t.ch 4) A4) := hid (fun W hW => (hp4 W hW).2)
 clear hp4
 have HOK3 := hid (T.okc hok (i := 3) (by omega))
 have HKB := hid (fun i (hi : i < 5) => hb i (by omega))
 have HE := hid ((Mod.refl [] w).alloc (.cells #[.slice none 0 0, .int .i64 0, .int .i64 0, .string ⟨#[]⟩, .int .u64 0, .int .u64 0, .slice none 0 0, .slice none 0 0] 65))
 have HBk : Hid (Blk (w.alloc (.cells #[.slice none 0 0, .int .i64 0, .int .i64 0, .string ⟨#[]⟩, .int .u64 0, .int .u64 0, .slice none 0 0, .slice none 0 0] 65)) w.heap.size 65 (asbC zeroA zeroM)) := hid (Blk.new w 65 #[.slice none 0 0, .int .i64 0, .int .i64 0, .string ⟨#[]⟩, .int .u64 0, .int .u64 0, .slice none 0 0, .slice none 0 0])
 have HS : Hid (w.heap.size + 1 = (w.alloc (.cells #[.slice none 0 0, .int .i64 0, .int .i64 0, .string ⟨#[]⟩, .int .u64 0, .int .u64 0, .slice none 0 0, .slice none 0 0] 65)).heap.size) := hid (by simp)
 have HFM := hid (fun W (hW : Ext w W) => hf.ext hW)
 have HOKR : Hid (rdOK t = (T.all (numK (t.ch 0)) (t.ch 0).k && decide ((t.ch 1).kind = 0) && ofB (t.ch 3) && true && T.all (resK (t.ch 4)) (t.ch 4).k)) := hid (by unfold rdOK; rw [hk]; rfl)
 have HKk := hid hk
 clear h hch hf hok hb hk
 go_enter Tryz.func100, Tryz.ntmps100
 go_upto_region 1 with fail
 generalize w.alloc (.cells #[.slice none 0 0, .int .i64 0, .int .i64 0, .string ⟨#[]⟩, .int .u64 0, .int .u64 0, .slice none 0 0, .slice none 0 0] 65) = V at *
 go_upto_region 3 with fail
 have a0 : V.cell? ⟨b, o, none⟩ = _ := (HP0.out _ HE.out).1
 have a1 : V.cell? ⟨b, o + 1, none⟩ = _ := (HP0.out _ HE.out).2.1
 have a2 : V.cell? ⟨b, o + 2, none⟩ = _ := (HP0.out _ HE.out).2.2.1
 have a3 : V.cell? ⟨b, o + 3, none⟩ = _ := (HP0.out _ HE.out).2.2.2.1
 have a4 : V.cell? ⟨b, o + 4, none⟩ = _ := (HP0.out _ HE.out).2.2.2.2
 have KT := hid (areadT_any (t.ch 0) (HKB.out 0 (by decide)).1 A0 c0 eb V (HFM.out _ HE.out) (IsL.weak (fun _ _ _ => trivial) _ (HI0.out _ HE.out)))
 have HSV := HS
 by_cases hT : T.all (numK (t.ch 0)) (t.ch 0).k = true
 case neg =>
  have hT : T.all (numK (t.ch 0)) (t.ch 0).k = false := by simpa using hT
  have HNO : Hid (rdOK t = false) := hid (by rw [HOKR.out, hT]; simp)
  have KE : Hid (Calls Tryz.prog 122 #[itemV (t.ch 0) A0 c0] V (fun e w' => e = .returned (.tuple #[.slice none 0 0, .iface 180 (.agg #[str [116, 97, 114, 103, 101, 116, 115], errV eb [[110, 117, 109, 98, 101, 114]]])]) /\ Ext V w')) := hid (KT.out.mono fun e w' h => by
   rcases h with ⟨_, h1, h2⟩ | ⟨h1, _⟩
   . exact ⟨h1, h2⟩
   . rw [hT] at h1; exact absurd h1 (by decide))
  clear hT KT
  go_upto_region 5 with (go_at_call 122; refine KE.out.mono ?_; rintro x w3 ⟨rfl, hb⟩; have HX := hid hb; have q0 := (HBk.out.ext hb).cell 0; have q0f := (HBk.out.ext hb).frozen 0; clear hb)
  generalize hY : World.setCell w3 ⟨w.heap.size, 0, none⟩ _ = U
  have HE2 : Hid (Ext w U) := hid (by rw [<- hY]; exact (HE.out.trans HX.out).setCell (.inr (Nat.le_refl _)) _)
  have HB2 : Hid (Blk U w.heap.size 65 (asbC zeroA zeroM)) := hid (by rw [<- hY]; exact (HBk.out.ext HX.out).set_ 0 _)
  clear hY q0 q0f a0 a1 a2 a3 a4
  have HZC := hid (ZC.mk' zeroA zeroM)
  obtain ⟨zc, hzc⟩ : ∃ zc, asbC zeroA zeroM = zc := ⟨_, rfl⟩
  have HBZ : Hid (Blk U w.heap.size 65 zc) := hid (by rw [<- hzc]; exact HB2.out)
  rw [hzc] at HZC
  clear hzc
  have tk1 : True := trivial
  have tk2 : True := trivial
  go_wp2_with (first | (clear tk1; refine wpList_row (by rfl) 65 _ rfl _ rfl HBZ.out vqB rfl HZC.out.i ?_) | (clear tk2; refine wpList_store_mid rfl 65 _ _ rfl (w.heap.size) 0 zc (by rfl) (by rfl) (HBZ.out.there (by rw [HZC.out.s]; exact Nat.le_refl 8)) HZC.out.i HZC.out.o ?_))
  have hY := setCells_all (ds := zc) HBZ.out (Array.length_toList ..)
  have hM2 := setCells_mod (b := w.heap.size) (zc : Array Value).toList 0 HE2.out (.inr (by omega))
  generalize hZ2 : World.setCells _ _ 0 _ = Z2 at *
  refine bodyPost_ret (results_cell2 rfl _ (by rfl) (by rfl) hY vqB rfl HZC.out.i) rfl (.inl ⟨HNO.out, zc, [116, 97, 114, 103, 101, 116, 115], [[110, 117, 109, 98, 101, 114]], ?_, hM2, HZC.out⟩)
  rfl
 have KE : Hid (Calls Tryz.prog 122 #[itemV (t.ch 0) A0 c0] V (fun e w' => ∃ At ct, e = .returned (.tuple #[.slice At (t.ch 0).k ct, .nilIface]) /\ Ext V w' /\ NsL w' At (t.ch 0).k (tgtN (t.ch 0)) /\ (∀ b o, At = some ⟨b, o, none⟩ -> V.heap.size <= b) /\ (t.ch 0).k <= ct)) := hid (KT.out.mono fun e w' h => by
  rcases h with ⟨h1, _⟩ | ⟨_, At, ct, h1, h2, h3⟩
  . rw [hT] at h1; exact absurd h1 (by decide)
  . exact ⟨At, ct, h1, h2, own_NsL h3, fun b o hA => (h3.lt b (by subst hA; rfl)).1, own_cap h3⟩)
 have HYT := hid hT
 clear hT KT
 go_upto_region 6 with (go_at_call 122; refine KE.out.mono ?_; rintro x w3 ⟨At, ct, rfl, hb, hn1, hn2, hn3⟩; have HX := hid hb; have q0 := (HBk.out.ext hb).cell 0; have q0f := (HBk.out.ext hb).frozen 0; have HN1 := hid hn1; have HN2 := hid hn2; have HN3 := hid hn3; clear hn1 hn2 hn3; clear hb)
 generalize hY : World.setCell w3 ⟨w.heap.size, 0, none⟩ _ = U1
 have HMU : Hid (Mod [w.heap.size] w3 U1) := hid (by rw [<- hY]; exact (Mod.refl [w.heap.size] w3).setCell (.inl (by simp)) _)
 have HE2 : Hid (Ext w U1) := hid (by rw [<- hY]; exact (HE.out.trans HX.out).setCell (.inr (Nat.le_refl _)) _)
 have HB2 : Hid (Blk U1 w.heap.size 65 (asbC ⟨(t.ch 0).k, tgtN (t.ch 0), 0, zeroE, zeroA.ps, 0, zeroA.rs⟩ ⟨At, ct, none, 0, none, 0⟩)) := hid (by rw [<- hY]; exact (HBk.out.ext HX.out).set_ 0 _)
 clear hY q0 q0f a0 a1 a2 a3 a4
 have HNS : Hid (∀ W, Mod [w.heap.size] U1 W -> NsL W At (t.ch 0).k (tgtN (t.ch 0))) := hid (fun W hW => HN1.out.mod (HMU.out.trans hW) (fun b o hA _ => by have := HN2.out b o hA; have := HS.out; simp; omega))
 have HE := HE2
 have HBk := HB2
 have HTQ : Hid (∀ b o, At = some ⟨b, o, none⟩ -> w.heap.size <= b) := hid (fun b o hA => by have := HN2.out b o hA; have := HS.out; omega)
 clear HE2 HB2 HMU HN1 HN2 HX KE w3
 have a0 : U1.cell? ⟨b, o + 5, none⟩ = _ := (HP1.out _ HE.out).1
 have a1 : U1.cell? ⟨b, o + 5 + 1, none⟩ = _ := (HP1.out _ HE.out).2.1
 have a2 : U1.cell? ⟨b, o + 5 + 2, none⟩ = _ := (HP1.out _ HE.out).2.2.1
 have a3 : U1.cell? ⟨b, o + 5 + 3, none⟩ = _ := (HP1.out _ HE.out).2.2.2.1
 have a4 : U1.cell? ⟨b, o + 5 + 4, none⟩ = _ := (HP1.out _ HE.out).2.2.2.2
 have KN := hid (anum_any (t.ch 1) A1 c1 eb U1 (HFM.out _ HE.out))
 by_cases hC : (t.ch 1).kind = 0
 case neg =>
  have KN : Hid (Calls Tryz.prog 123 #[itemV (t.ch 1) A1 c1] U1 (Ret (.tuple #[.int .i64 0, .iface 180 (.agg #[str [110, 117, 109, 98, 101, 114], FormV eb])]) U1)) := hid (by have h := KN.out; unfold numErr at h; rw [if_neg hC] at h; exact h)
  have HNO : Hid (rdOK t = false) := hid (by rw [HOKR.out, decide_eq_false hC]; simp)
  clear hC
  go_upto_region 8 with (go_at_call 123; refine KN.out.mono ?_; rintro x w3 ⟨rfl, hb⟩; have HX := hid hb; have q1 := (HBk.out.ext hb).cell 1; have q1f := (HBk.out.ext hb).frozen 1; clear hb)
  generalize hY : World.setCell w3 ⟨w.heap.size, 1, none⟩ _ = U
  have HMU : Hid (Mod [w.heap.size] w3 U) := hid (by rw [<- hY]; exact (Mod.refl [w.heap.size] w3).setCell (.inl (by simp)) _)
  have HE2 : Hid (Ext w U) := hid (by rw [<- hY]; exact (HE.out.trans HX.out).setCell (.inr (Nat.le_refl _)) _)
  have HB2 : Hid (Blk U w.heap.size 65 (asbC ⟨(t.ch 0).k, tgtN (t.ch 0), 0, zeroE, zeroA.ps, 0, zeroA.rs⟩ ⟨At, ct, none, 0, none, 0⟩)) := hid (by rw [<- hY]; exact (HBk.out.ext HX.out).set_ 1 _)
  clear hY q1 q1f a0 a1 a2 a3 a4
  have HZC := hid (ZC.mk' ⟨(t.ch 0).k, tgtN (t.ch 0), 0, zeroE, zeroA.ps, 0, zeroA.rs⟩ ⟨At, ct, none, 0, none, 0⟩)
  obtain ⟨zc, hzc⟩ : ∃ zc, asbC ⟨(t.ch 0).k, tgtN (t.ch 0), 0, zeroE, zeroA.ps, 0, zeroA.rs⟩ ⟨At, ct, none, 0, none, 0⟩ = zc := ⟨_, rfl⟩
  have HBZ : Hid (Blk U w.heap.size 65 zc) := hid (by rw [<- hzc]; exact HB2.out)
  rw [hzc] at HZC
  clear hzc
  have tk1 : True := trivial
  have tk2 : True := trivial
  go_wp2_with (first | (clear tk1; refine wpList_row (by rfl) 65 _ rfl _ rfl HBZ.out vqB rfl HZC.out.i ?_) | (clear tk2; refine wpList_store_mid rfl 65 _ _ rfl (w.heap.size) 0 zc (by rfl) (by rfl) (HBZ.out.there (by rw [HZC.out.s]; exact Nat.le_refl 8)) HZC.out.i HZC.out.o ?_))
  have hY := setCells_all (ds := zc) HBZ.out (Array.length_toList ..)
  have hM2 := setCells_mod (b := w.heap.size) (zc : Array Value).toList 0 HE2.out (.inr (by omega))
  generalize hZ2 : World.setCells _ _ 0 _ = Z2 at *
  refine bodyPost_ret (results_cell2 rfl _ (by rfl) (by rfl) hY vqB rfl HZC.out.i) rfl (.inl ⟨HNO.out, zc, [110, 117, 109, 98, 101, 114], [], ?_, hM2, HZC.out⟩)
  rfl
 have KN : Hid (Calls Tryz.prog 123 #[itemV (t.ch 1) A1 c1] U1 (Ret (.tuple #[.int .i64 (min ((t.ch 1).n : Int) 65536), .nilIface]) U1)) := hid (by have h := KN.out; unfold numErr at h; rw [if_pos hC] at h; exact h)
 have HYC := hid hC
 clear hC
 obtain ⟨cx, hcx⟩ : ∃ cx, min ((t.ch 1).n : Int) 65536 = cx := ⟨_, rfl⟩
 rw [hcx] at KN
 have HCX := hid hcx
 clear hcx
 go_upto_region 9 with (go_at_call 123; refine KN.out.mono ?_; rintro x w3 ⟨rfl, hb⟩; have HX := hid hb; have q1 := (HBk.out.ext hb).cell 1; have q1f := (HBk.out.ext hb).frozen 1; clear hb)
 generalize hY : World.setCell w3 ⟨w.heap.size, 1, none⟩ _ = U2
 have HMU : Hid (Mod [w.heap.size] w3 U2) := hid (by rw [<- hY]; exact (Mod.refl [w.heap.size] w3).setCell (.inl (by simp)) _)
 have HE2 : Hid (Ext w U2) := hid (by rw [<- hY]; exact (HE.out.trans HX.out).setCell (.inr (Nat.le_refl _)) _)
 have HB2 : Hid (Blk U2 w.heap.size 65 (asbC ⟨(t.ch 0).k, tgtN (t.ch 0), cx, zeroE, zeroA.ps, 0, zeroA.rs⟩ ⟨At, ct, none, 0, none, 0⟩)) := hid (by rw [<- hY]; exact (HBk.out.ext HX.out).set_ 1 _)
 clear hY q1 q1f a0 a1 a2 a3 a4
 have HNS : Hid (∀ W, Mod [w.heap.size] U2 W -> NsL W At (t.ch 0).k (tgtN (t.ch 0))) := hid (fun W hW => HNS.out W ((HX.out.mono (by simp)).trans (HMU.out.trans hW)))
 have HE := HE2
 have HBk := HB2
 clear HE2 HB2 HMU HX KN w3
 have a0 : U2.cell? ⟨b, o + 15, none⟩ = _ := (HP3.out _ HE.out).1
 have a1 : U2.cell? ⟨b, o + 15 + 1, none⟩ = _ := (HP3.out _ HE.out).2.1
 have a2 : U2.cell? ⟨b, o + 15 + 2, none⟩ = _ := (HP3.out _ HE.out).2.2.1
 have a3 : U2.cell? ⟨b, o + 15 + 3, none⟩ = _ := (HP3.out _ HE.out).2.2.2.1
 have a4 : U2.cell? ⟨b, o + 15 + 4, none⟩ = _ := (HP3.out _ HE.out).2.2.2.2
 have KO := hid (eidOf_any (t.ch 3) HOK3.out A3 c3 U2 (IsL.weak (fun _ _ _ => trivial) _ (HI3.out _ HE.out)))
 by_cases hO : ofB (t.ch 3) = true
 case neg =>
  have hO : ofB (t.ch 3) = false := by simpa using hO
  have KO : Hid (Calls Tryz.prog 124 #[itemV (t.ch 3) A3 c3] U2 (Ret (.tuple #[.agg #[.int .i64 0, str [], .int .u64 0, .int .u64 0], .int .i64 2]) U2)) := hid (by have h := KO.out; rw [hO] at h; exact h)
  have HNO : Hid (rdOK t = false) := hid (by rw [HOKR.out, hO]; simp)
  clear hO
  go_upto_region 11 with (go_at_call 124; refine KO.out.mono ?_; rintro x w3 ⟨rfl, hb⟩; have HX := hid hb; clear hb)
  generalize hY : World.alloc w3 _ = U
  have HE2 : Hid (Ext w U) := hid (by rw [<- hY]; exact (HE.out.trans HX.out).alloc _)
  have HB2 : Hid (Blk U w.heap.size 65 (asbC ⟨(t.ch 0).k, tgtN (t.ch 0), cx, zeroE, zeroA.ps, 0, zeroA.rs⟩ ⟨At, ct, none, 0, none, 0⟩)) := hid (by rw [<- hY]; exact (HBk.out.ext HX.out).alloc _)
  clear hY a0 a1 a2 a3 a4
  have HZC := hid (ZC.mk' ⟨(t.ch 0).k, tgtN (t.ch 0), cx, zeroE, zeroA.ps, 0, zeroA.rs⟩ ⟨At, ct, none, 0, none, 0⟩)
  obtain ⟨zc, hzc⟩ : ∃ zc, asbC ⟨(t.ch 0).k, tgtN (t.ch 0), cx, zeroE, zeroA.ps, 0, zeroA.rs⟩ ⟨At, ct, none, 0, none, 0⟩ = zc := ⟨_, rfl⟩
  have HBZ : Hid (Blk U w.heap.size 65 zc) := hid (by rw [<- hzc]; exact HB2.out)
  rw [hzc] at HZC
  clear hzc
  have KW : Hid (∀ W, Ext w W -> Calls Tryz.prog 121 #[str [110, 97, 109, 101]] W (Ret (.iface 180 (.agg #[str [110, 97, 109, 101], FormV eb])) W)) := hid (fun W hW => wrong_any [110, 97, 109, 101] eb W (HFM.out _ hW))
  refine wp_region_held_drew (S := fun w' => Ext w w' /\ Blk w' w.heap.size 65 zc) (by kernel_rfl) ⟨HE2.out.drew, HBZ.out.drew⟩ (fun hHeld => ?_)
  generalize U.drew = y0 at *
  refine wpAnyH_take (i := 0) rfl (by kernel_rfl) (by kernel_rfl) (by kernel_rfl) (fun _ _ _ h => h) (yieldsIf_row (by rfl) 65 _ rfl _ rfl (fun W hM => hM.2) vqB rfl HZC.out.i) hHeld ?_
  (try simp only [Act.put, gTl, g0l, gSl, sTl, s0l, sSl])
  refine wpAnyH_ready (rs := [1]) (by kernel_rfl) (by simp) ?_
  refine AllReadyH.cons rfl (fun K hK => ?_) AllReadyH.nil
  go_simp
  go_at_call 121
  refine (KW.out _ hHeld.1).mono ?_
  rintro x y1 ⟨rfl, hb⟩
  refine hK.out _ _ ⟨hHeld.1.trans hb, hHeld.2.ext hb⟩ (fun hHeld => ?_)
  clear hK K
  (try simp only [Act.put, gTl, g0l, gSl, sTl, s0l, sSl])
  refine wpAnyH_ready (rs := [2]) (by kernel_rfl) (by simp) ?_
  refine AllReadyH.cons rfl (fun K hK => ?_) AllReadyH.nil
  refine wp_store_mid 65 _ _ rfl w.heap.size 0 zc (by rfl) (by rfl) (hHeld.2.there (by rw [HZC.out.s]; exact Nat.le_refl 8)) HZC.out.i HZC.out.o ?_
  have hYB := setCells_all (ds := zc) hHeld.2 (Array.length_toList ..)
  have hYM := setCells_mod (b := w.heap.size) (zc : Array Value).toList 0 hHeld.1 (.inr (by omega))
  generalize hZ : World.setCells _ _ 0 _ = y2 at *
  clear hZ
  refine hK.out _ _ ⟨hYM, hYB⟩ (fun hHeld => ?_)
  clear hK K
  (try simp only [Act.put, gTl, g0l, gSl, sTl, s0l, sSl])
  refine' wpAnyH_take (i := 3) (v := _) rfl (by kernel_rfl) (by kernel_rfl) (by kernel_rfl) (fun _ _ _ h => h) (Or.inl ⟨by rfl, ?hy1⟩) hHeld ?rest1
  case hy1 => (rintro W hM; go_simp; (try with_reducible rfl))
  case rest1 =>
  (try simp only [Act.put, gTl, g0l, gSl, sTl, s0l, sSl])
  refine wpAnyH_done (by kernel_rfl) ?_ _
  clear hYB hYM
  go_wp2_with fail
  refine bodyPost_ret (results_cell2 rfl _ (by rfl) (by rfl) hHeld.2 vqB rfl HZC.out.i) rfl (.inl ⟨HNO.out, zc, [110, 97, 109, 101], [], ?_, hHeld.1, HZC.out⟩)
  rfl
 have KO : Hid (Calls Tryz.prog 124 #[itemV (t.ch 3) A3 c3] U2 (Ret (.tuple #[.agg #[.int .i64 (readE (t.ch 3)).sch, str (readE (t.ch 3)).name, .int .u64 ((readE (t.ch 3)).node : Int), .int .u64 ((readE (t.ch 3)).svc : Int)], .int .i64 0]) U2)) := hid (by have h := KO.out; rw [hO] at h; exact h)
 have HYO := hid hO
 clear hO
 obtain ⟨E, hE⟩ : ∃ E, readE (t.ch 3) = E := ⟨_, rfl⟩
 rw [hE] at KO
 have HEQ := hid hE
 clear hE
 go_upto_region 12 with (go_at_call 124; refine KO.out.mono ?_; rintro x w3 ⟨rfl, hb⟩; have HX := hid hb; clear hb)
 generalize hY : World.alloc w3 _ = U3
 have HE2 : Hid (Ext w U3) := hid (by rw [<- hY]; exact (HE.out.trans HX.out).alloc _)
 have HB2 : Hid (Blk U3 w.heap.size 65 (asbC ⟨(t.ch 0).k, tgtN (t.ch 0), cx, zeroE, zeroA.ps, 0, zeroA.rs⟩ ⟨At, ct, none, 0, none, 0⟩)) := hid (by rw [<- hY]; exact (HBk.out.ext HX.out).alloc _)
 have HBE : Hid (Blk U3 w3.heap.size 24 E.c) := hid (by rw [<- hY]; exact Blk.new _ _ _)
 have HNS : Hid (∀ W, Mod [w.heap.size] U3 W -> NsL W At (t.ch 0).k (tgtN (t.ch 0))) := hid (fun W hW => HNS.out W ((HX.out.mono (by simp)).trans (Mod.trans (by rw [<- hY]; exact (Mod.refl _ _).alloc _) hW)))
 have HE := HE2
 have HBk := HB2
 clear hY a0 a1 a2 a3 a4 HE2 HB2 HX KO
 generalize w3.heap.size = n4 at *
 have e0 : U3.cell? ⟨n4, 0, none⟩ = some (.int .i64 E.sch) := HBE.out.cell 0
 have e1 : U3.cell? ⟨n4, 1, none⟩ = some (str E.name) := HBE.out.cell 1
 have e2 : U3.cell? ⟨n4, 2, none⟩ = some (.int .u64 (E.node : Int)) := HBE.out.cell 2
 have e3 : U3.cell? ⟨n4, 3, none⟩ = some (.int .u64 (E.svc : Int)) := HBE.out.cell 3
 have q2 := HBk.out.cell 2
 have q2f := HBk.out.frozen 2
 have q3 := HBk.out.cell 3
 have q3f := HBk.out.frozen 3
 have q4 := HBk.out.cell 4
 have q4f := HBk.out.frozen 4
 have q5 := HBk.out.cell 5
 have q5f := HBk.out.frozen 5
 go_upto_region 13 with fail
 generalize hY : World.setCell _ ⟨w.heap.size, 5, none⟩ _ = U4
 have HMU : Hid (Mod [w.heap.size] U3 U4) := hid (by rw [<- hY]; exact ((((Mod.refl [w.heap.size] U3).setCell (.inl (by simp)) _).setCell (.inl (by simp)) _).setCell (.inl (by simp)) _).setCell (.inl (by simp)) _)
 have HE2 : Hid (Ext w U4) := hid (by rw [<- hY]; exact (((HE.out.setCell (.inr (Nat.le_refl _)) _).setCell (.inr (Nat.le_refl _)) _).setCell (.inr (Nat.le_refl _)) _).setCell (.inr (Nat.le_refl _)) _)
 have HB2 : Hid (Blk U4 w.heap.size 65 (asbC ⟨(t.ch 0).k, tgtN (t.ch 0), cx, E, zeroA.ps, 0, zeroA.rs⟩ ⟨At, ct, none, 0, none, 0⟩)) := hid (by rw [<- hY]; exact (((HBk.out.set_ 2 _).set_ 3 _).set_ 4 _).set_ 5 _)
 have HNS : Hid (∀ W, Mod [w.heap.size] U4 W -> NsL W At (t.ch 0).k (tgtN (t.ch 0))) := hid (fun W hW => HNS.out W (HMU.out.trans hW))
 have HE := HE2
 have HBk := HB2
 clear hY HE2 HB2 HMU HBE e0 e1 e2 e3 q2 q2f q3 q3f q4 q4f q5 q5f
 go_upto_region 17 with fail
 have a0 : U4.cell? ⟨b, o + 20, none⟩ = _ := (HP4.out _ HE.out).1
 have a1 : U4.cell? ⟨b, o + 20 + 1, none⟩ = _ := (HP4.out _ HE.out).2.1
 have a2 : U4.cell? ⟨b, o + 20 + 2, none⟩ = _ := (HP4.out _ HE.out).2.2.1
 have a3 : U4.cell? ⟨b, o + 20 + 3, none⟩ = _ := (HP4.out _ HE.out).2.2.2.1
 have a4 : U4.cell? ⟨b, o + 20 + 4, none⟩ = _ := (HP4.out _ HE.out).2.2.2.2
 have KR := hid (areadR_any (t.ch 4) (HKB.out 4 (by decide)).1 (HKB.out 4 (by decide)).2 A4 c4 eb U4 (HFM.out _ HE.out) (HI4.out _ HE.out))
 by_cases hR : T.all (resK (t.ch 4)) (t.ch 4).k = true
 case neg =>
  have hR : T.all (resK (t.ch 4)) (t.ch 4).k = false := by simpa using hR
  have HNO : Hid (rdOK t = false) := hid (by rw [HOKR.out, hR]; simp)
  have KE : Hid (Calls Tryz.prog 126 #[itemV (t.ch 4) A4 c4] U4 (fun e w' => ∃ l, e = .returned (.tuple #[.slice none 0 0, .iface 180 (.agg #[str [114, 101, 115, 117, 108, 116, 115], errV eb l])]) /\ Ext U4 w')) := hid (KR.out.mono fun e w' h => by
   rcases h with ⟨_, l, h1, h2⟩ | ⟨h1, _⟩
   . exact ⟨l, h1, h2⟩
   . rw [hR] at h1; exact absurd h1 (by decide))
  clear hR KR
  go_upto_region 18 with (go_at_call 126; refine KE.out.mono ?_; rintro x w3 ⟨l, rfl, hb⟩; have HX := hid hb; have q7 := (HBk.out.ext hb).cell 7; have q7f := (HBk.out.ext hb).frozen 7; clear hb)
  generalize hY : World.setCell w3 ⟨w.heap.size, 7, none⟩ _ = U
  have HMU : Hid (Mod [w.heap.size] w3 U) := hid (by rw [<- hY]; exact (Mod.refl [w.heap.size] w3).setCell (.inl (by simp)) _)
  have HE2 : Hid (Ext w U) := hid (by rw [<- hY]; exact (HE.out.trans HX.out).setCell (.inr (Nat.le_refl _)) _)
  have HB2 : Hid (Blk U w.heap.size 65 (asbC ⟨(t.ch 0).k, tgtN (t.ch 0), cx, E, zeroA.ps, 0, zeroA.rs⟩ ⟨At, ct, none, 0, none, 0⟩)) := hid (by rw [<- hY]; exact (HBk.out.ext HX.out).set_ 7 _)
  clear hY q7 q7f a0 a1 a2 a3 a4
  have HZC := hid (ZC.mk' ⟨(t.ch 0).k, tgtN (t.ch 0), cx, E, zeroA.ps, 0, zeroA.rs⟩ ⟨At, ct, none, 0, none, 0⟩)
  obtain ⟨zc, hzc⟩ : ∃ zc, asbC ⟨(t.ch 0).k, tgtN (t.ch 0), cx, E, zeroA.ps, 0, zeroA.rs⟩ ⟨At, ct, none, 0, none, 0⟩ = zc := ⟨_, rfl⟩
  have HBZ : Hid (Blk U w.heap.size 65 zc) := hid (by rw [<- hzc]; exact HB2.out)
  rw [hzc] at HZC
  clear hzc
  have tk1 : True := trivial
  have tk2 : True := trivial
  go_wp2_with (first | (clear tk1; refine wpList_row (by rfl) 65 _ rfl _ rfl HBZ.out vqB rfl HZC.out.i ?_) | (clear tk2; refine wpList_store_mid rfl 65 _ _ rfl (w.heap.size) 0 zc (by rfl) (by rfl) (HBZ.out.there (by rw [HZC.out.s]; exact Nat.le_refl 8)) HZC.out.i HZC.out.o ?_))
  have hY := setCells_all (ds := zc) HBZ.out (Array.length_toList ..)
  have hM2 := setCells_mod (b := w.heap.size) (zc : Array Value).toList 0 HE2.out (.inr (by omega))
  generalize hZ2 : World.setCells _ _ 0 _ = Z2 at *
  refine bodyPost_ret (results_cell2 rfl _ (by rfl) (by rfl) hY vqB rfl HZC.out.i) rfl (.inl ⟨HNO.out, zc, [114, 101, 115, 117, 108, 116, 115], l, ?_, hM2, HZC.out⟩)
  rfl
 have KE : Hid (Calls Tryz.prog 126 #[itemV (t.ch 4) A4 c4] U4 (fun e w' => ∃ Ar cr, e = .returned (.tuple #[.slice Ar (t.ch 4).k cr, .nilIface]) /\ Ext U4 w' /\ RsL w' (fun b => ((X b /\ b < w.heap.size) /\ b < U4.heap.size) \/ U4.heap.size <= b) Ar (t.ch 4).k (resP (t.ch 4)))) := hid (KR.out.mono fun e w' h => by
  rcases h with ⟨h1, _⟩ | ⟨_, Ar, cr, h1, h2, _, h4⟩
  . rw [hR] at h1; exact absurd h1 (by decide)
  . exact ⟨Ar, cr, h1, h2, h4⟩)
 have HOK : Hid (rdOK t = true) := hid (by rw [HOKR.out, HYT.out, HYO.out, hR, decide_eq_true HYC.out]; rfl)
 have HRA : Hid (rdA t = ⟨(t.ch 0).k, tgtN (t.ch 0), cx, E, zeroA.ps, (t.ch 4).k, resP (t.ch 4)⟩) := hid (by unfold rdA; rw [HKk.out, HCX.out, HEQ.out]; rfl)
 have HLT : Hid (w.heap.size < U4.heap.size) := hid HBk.out.lt
 clear hR KR
 go_upto_region 18 with (go_at_call 126; refine KE.out.mono ?_; rintro x w3 ⟨Ar, cr, rfl, hb, hn1⟩; have HX := hid hb; have q7 := (HBk.out.ext hb).cell 7; have q7f := (HBk.out.ext hb).frozen 7; have HN1 := hid hn1; clear hn1; clear hb)
 generalize hY : World.setCell w3 ⟨w.heap.size, 7, none⟩ _ = U6
 have HMU : Hid (Mod [w.heap.size] w3 U6) := hid (by rw [<- hY]; exact (Mod.refl [w.heap.size] w3).setCell (.inl (by simp)) _)
 have HE2 : Hid (Ext w U6) := hid (by rw [<- hY]; exact (HE.out.trans HX.out).setCell (.inr (Nat.le_refl _)) _)
 have HB2 : Hid (Blk U6 w.heap.size 65 (asbC ⟨(t.ch 0).k, tgtN (t.ch 0), cx, E, zeroA.ps, (t.ch 4).k, resP (t.ch 4)⟩ ⟨At, ct, none, 0, Ar, cr⟩)) := hid (by rw [<- hY]; exact (HBk.out.ext HX.out).set_ 7 _)
 clear hY q7 q7f a0 a1 a2 a3 a4
 have HRS : Hid (∀ W, Mod [w.heap.size] U6 W -> RsL W (NewQ X w.heap.size) Ar (t.ch 4).k (resP (t.ch 4))) := hid (fun W hW => (HN1.out.mod (HMU.out.trans hW) (fun b hb _ => by have := HLT.out; simp; omega)).weak (fun b _ hb => hb.elim (fun h => .inl h.1) (fun h => .inr (by have := HLT.out; omega))))
 have HNS : Hid (∀ W, Mod [w.heap.size] U6 W -> NsL W At (t.ch 0).k (tgtN (t.ch 0))) := hid (fun W hW => HNS.out W ((HX.out.mono (by simp)).trans (HMU.out.trans hW)))
 have HZC := hid (ZC.mk' ⟨(t.ch 0).k, tgtN (t.ch 0), cx, E, zeroA.ps, (t.ch 4).k, resP (t.ch 4)⟩ ⟨At, ct, none, 0, Ar, cr⟩)
 obtain ⟨zc, hzc⟩ : ∃ zc, asbC ⟨(t.ch 0).k, tgtN (t.ch 0), cx, E, zeroA.ps, (t.ch 4).k, resP (t.ch 4)⟩ ⟨At, ct, none, 0, Ar, cr⟩ = zc := ⟨_, rfl⟩
 have HBZ : Hid (Blk U6 w.heap.size 65 zc) := hid (by rw [<- hzc]; exact HB2.out)
 rw [hzc] at HZC
 have HZQ := hid hzc
 clear hzc
 have tk1 : True := trivial
 have tk2 : True := trivial
 go_wp2_with (first | (clear tk1; refine wpList_row (by rfl) 65 _ rfl _ rfl HBZ.out vqB rfl HZC.out.i ?_) | (clear tk2; refine wpList_store_mid rfl 65 _ _ rfl (w.heap.size) 0 zc (by rfl) (by rfl) (HBZ.out.there (by rw [HZC.out.s]; exact Nat.le_refl 8)) HZC.out.i HZC.out.o ?_))
 have hY := setCells_all (ds := zc) HBZ.out (Array.length_toList ..)
 have hM2 := setCells_mod (b := w.heap.size) (zc : Array Value).toList 0 HE2.out (.inr (by omega))
 generalize hZ2 : World.setCells _ _ 0 _ = Z2 at *
 have hM3 := setCells_mod (b := w.heap.size) (zc : Array Value).toList 0 (Mod.refl [w.heap.size] U6) (.inl (by simp))
 rw [hZ2] at hM3
 refine bodyPost_ret (results_cell2 rfl _ (by rfl) (by rfl) hY vqB rfl HZC.out.i) rfl (.inr ⟨HOK.out, ⟨At, ct, none, 0, Ar, cr⟩, ?_, hM2, ?_, ?_⟩)
 . rw [HRA.out, <- HZQ.out]; rfl
 .
  rw [HRA.out]
  exact ⟨HNS.out _ hM3, fun b o hA _ => .inr (HTQ.out b o hA), fun h => absurd h (Nat.lt_irrefl 0), HRS.out _ hM3⟩
 . rw [HRA.out]; exact ⟨HN3.out, fun b o hA => HTQ.out b o hA⟩
set_option maxRecDepth 20000 in
set_option maxHeartbeats 16000000 in
theorem aread6_any {X : Nat -> Prop} (t : T) (hk : t.k = 6) (hok : t.ok) (hb : ∀ i, i < t.k -> (t.ch i).k <= 1000 /\ ∀ j, j < (t.ch i).k -> ((t.ch i).ch j).k <= 1000) (b o c : Nat) (eb : Addr) (w : World) (hf : FormAt w eb) (h : IsL w (fun b => X b /\ b < w.heap.size) t (some ⟨b, o, none⟩)) : Calls Tryz.prog 100 #[.slice (some ⟨b, o, none⟩) 6 c] w (RdPost X t eb w) := by
 have hch : ∀ i, i < 6 -> ∃ Ai ci, ∀ W, Ext w W -> At5 W b (o + 5 * i) (t.ch i) Ai ci /\ IsL W (fun b => X b /\ b < w.heap.size) (t.ch i) Ai := fun i hi => by
  obtain ⟨b', o', Ai, ci, h1, h2, _, h4, h5⟩ := kidsA h (i := i) (by omega)
  cases h1
  exact ⟨Ai, ci, fun W hW => ⟨by have := h4.mod hW h2 (by simp); rwa [Nat.mul_comm i 5] at this, h5.ext hW⟩⟩
 obtain ⟨A0, c0, hp0⟩ := hch 0 (by decide)
 have HP0 : Hid (∀ W, Ext w W -> At5 W b (o) (t.ch 0) A0 c0) := hid (fun W hW => (hp0 W hW).1)
 have HI0 : Hid (∀ W, Ext w W -> IsL W (fun b => X b /\ b < w.heap.size) (t.ch 0) A0) := hid (fun W hW => (hp0 W hW).2)
 clear hp0
 obtain ⟨A1, c1, hp1⟩ := hch 1 (by decide)
 have HP1 : Hid (∀ W, Ext w W -> At5 W b (o + 5) (t.ch 1) A1 c1) := hid (fun W hW => (hp1 W hW).1)
 have HI1 : Hid (∀ W, Ext w W -> IsL W (fun b => X b /\ b < w.heap.size) (t.ch 1) A1) := hid (fun W hW => (hp1 W hW).2)
 clear hp1
 obtain ⟨A3, c3, hp3⟩ := hch 3 (by decide)
 have HP3 : Hid (∀ W, Ext w W -> At5 W b (o + 15) (t.ch 3) A3 c3) := hid (fun W hW => (hp3 W hW).1)
 have HI3 : Hid (∀ W, Ext w W -> IsL W (fun b => X b /\ b < w.heap.size) (t.ch 3) A3) := hid (fun W hW => (hp3 W hW).2)
 clear hp3
 obtain ⟨A4, c4, hp4⟩ := hch 4 (by decide)
 have HP4 : Hid (∀ W, Ext w W -> At5 W b (o + 20) (t.ch 4) A4 c4) := hid (fun W hW => (hp4 W hW).1)
 have HI4 : Hid (∀ W, Ext w W -> IsL W (fun b => X b /\ b < w.heap.size) (t.ch 4) A4) := hid (fun W hW => (hp4 W hW).2)
 clear hp4
 obtain ⟨A5, c5, hp5⟩ := hch 5 (by decide)
 have HP5 : Hid (∀ W, Ext w W -> At5 W b (o + 25) (t.ch 5) A5 c5) := hid (fun W hW => (hp5 W hW).1)
 have HI5 : Hid (∀ W, Ext w W -> IsL W (fun b => X b /\ b < w.heap.size) (t.ch 5) A5) := hid (fun W hW => (hp5 W hW).2)
 clear hp5
 have HOK3 := hid (T.okc hok (i := 3) (by omega))
 have HKB := hid (fun i (hi : i < 6) => hb i (by omega))
 have HE := hid ((Mod.refl [] w).alloc (.cells #[.slice none 0 0, .int .i64 0, .int .i64 0, .string ⟨#[]⟩, .int .u64 0, .int .u64 0, .slice none 0 0, .slice none 0 0] 65))
 have HBk : Hid (Blk (w.alloc (.cells #[.slice none 0 0, .int .i64 0, .int .i64 0, .string ⟨#[]⟩, .int .u64 0, .int .u64 0, .slice none 0 0, .slice none 0 0] 65)) w.heap.size 65 (asbC zeroA zeroM)) := hid (Blk.new w 65 #[.slice none 0 0, .int .i64 0, .int .i64 0, .string ⟨#[]⟩, .int .u64 0, .int .u64 0, .slice none 0 0, .slice none 0 0])
 have HS : Hid (w.heap.size + 1 = (w.alloc (.cells #[.slice none 0 0, .int .i64 0, .int .i64 0, .string ⟨#[]⟩, .int .u64 0, .int .u64 0, .slice none 0 0, .slice none 0 0] 65)).heap.size) := hid (by simp)
 have HFM := hid (fun W (hW : Ext w W) => hf.ext hW)
 have HOKR : Hid (rdOK t = (T.all (numK (t.ch 0)) (t.ch 0).k && decide ((t.ch 1).kind = 0) && ofB (t.ch 3) && T.all (pairK (t.ch 4)) (t.ch 4).k && T.all (resK (t.ch 5)) (t.ch 5).k)) := hid (by unfold rdOK; rw [hk]; rfl)
 have HKk := hid hk
 clear h hch hf hok hb hk
 go_enter Tryz.func100, Tryz.ntmps100
 go_upto_region 1 with fail
 generalize w.alloc (.cells #[.slice none 0 0, .int .i64 0, .int .i64 0, .string ⟨#[]⟩, .int .u64 0, .int .u64 0, .slice none 0 0, .slice none 0 0] 65) = V at *
 go_upto_region 3 with fail
 have a0 : V.cell? ⟨b, o, none⟩ = _ := (HP0.out _ HE.out).1
 have a1 : V.cell? ⟨b, o + 1, none⟩ = _ := (HP0.out _ HE.out).2.1
 have a2 : V.cell? ⟨b, o + 2, none⟩ = _ := (HP0.out _ HE.out).2.2.1
 have a3 : V.cell? ⟨b, o + 3, none⟩ = _ := (HP0.out _ HE.out).2.2.2.1
 have a4 : V.cell? ⟨b, o + 4, none⟩ = _ := (HP0.out _ HE.out).2.2.2.2
 have KT := hid (areadT_any (t.ch 0) (HKB.out 0 (by decide)).1 A0 c0 eb V (HFM.out _ HE.out) (IsL.weak (fun _ _ _ => trivial) _ (HI0.out _ HE.out)))
 have HSV := HS
 by_cases hT : T.all (numK (t.ch 0)) (t.ch 0).k = true
 case neg =>
  have hT : T.all (numK (t.ch 0)) (t.ch 0).k = false := by simpa using hT
  have HNO : Hid (rdOK t = false) := hid (by rw [HOKR.out, hT]; simp)
  have KE : Hid (Calls Tryz.prog 122 #[itemV (t.ch 0) A0 c0] V (fun e w' => e = .returned (.tuple #[.slice none 0 0, .iface 180 (.agg #[str [116, 97, 114, 103, 101, 116, 115], errV eb [[110, 117, 109, 98, 101, 114]]])]) /\ Ext V w')) := hid (KT.out.mono fun e w' h => by
   rcases h with ⟨_, h1, h2⟩ | ⟨h1, _⟩
   . exact ⟨h1, h2⟩
   . rw [hT] at h1; exact absurd h1 (by decide))
  clear hT KT
  go_upto_region 5 with (go_at_call 122; refine KE.out.mono ?_; rintro x w3 ⟨rfl, hb⟩; have HX := hid hb; have q0 := (HBk.out.ext hb).cell 0; have q0f := (HBk.out.ext hb).frozen 0; clear hb)
  generalize hY : World.setCell w3 ⟨w.heap.size, 0, none⟩ _ = U
  have HE2 : Hid (Ext w U) := hid (by rw [<- hY]; exact (HE.out.trans HX.out).setCell (.inr (Nat.le_refl _)) _)
  have HB2 : Hid (Blk U w.heap.size 65 (asbC zeroA zeroM)) := hid (by rw [<- hY]; exact (HBk.out.ext HX.out).set_ 0 _)
  clear hY q0 q0f a0 a1 a2 a3 a4
  have HZC := hid (ZC.mk' zeroA zeroM)
  obtain ⟨zc, hzc⟩ : ∃ zc, asbC zeroA zeroM = zc := ⟨_, rfl⟩
  have HBZ : Hid (Blk U w.heap.size 65 zc) := hid (by rw [<- hzc]; exact HB2.out)
  rw [hzc] at HZC
  clear hzc
  have tk1 : True := trivial
  have tk2 : True := trivial
  go_wp2_with (first | (clear tk1; refine wpList_row (by rfl) 65 _ rfl _ rfl HBZ.out vqB rfl HZC.out.i ?_) | (clear tk2; refine wpList_store_mid rfl 65 _ _ rfl (w.heap.size) 0 zc (by rfl) (by rfl) (HBZ.out.there (by rw [HZC.out.s]; exact Nat.le_refl 8)) HZC.out.i HZC.out.o ?_))
  have hY := setCells_all (ds := zc) HBZ.out (Array.length_toList ..)
  have hM2 := setCells_mod (b := w.heap.size) (zc : Array Value).toList 0 HE2.out (.inr (by omega))
  generalize hZ2 : World.setCells _ _ 0 _ = Z2 at *
  refine bodyPost_ret (results_cell2 rfl _ (by rfl) (by rfl) hY vqB rfl HZC.out.i) rfl (.inl ⟨HNO.out, zc, [116, 97, 114, 103, 101, 116, 115], [[110, 117, 109, 98, 101, 114]], ?_, hM2, HZC.out⟩)
  rfl
 have KE : Hid (Calls Tryz.prog 122 #[itemV (t.ch 0) A0 c0] V (fun e w' => ∃ At ct, e = .returned (.tuple #[.slice At (t.ch 0).k ct, .nilIface]) /\ Ext V w' /\ NsL w' At (t.ch 0).k (tgtN (t.ch 0)) /\ (∀ b o, At = some ⟨b, o, none⟩ -> V.heap.size <= b) /\ (t.ch 0).k <= ct)) := hid (KT.out.mono fun e w' h => by
  rcases h with ⟨h1, _⟩ | ⟨_, At, ct, h1, h2, h3⟩
  . rw [hT] at h1; exact absurd h1 (by decide)
  . exact ⟨At, ct, h1, h2, own_NsL h3, fun b o hA => (h3.lt b (by subst hA; rfl)).1, own_cap h3⟩)
 have HYT := hid hT
 clear hT KT
 go_upto_region 6 with (go_at_call 122; refine KE.out.mono ?_; rintro x w3 ⟨At, ct, rfl, hb, hn1, hn2, hn3⟩; have HX := hid hb; have q0 := (HBk.out.ext hb).cell 0; have q0f := (HBk.out.ext hb).frozen 0; have HN1 := hid hn1; have HN2 := hid hn2; have HN3 := hid hn3; clear hn1 hn2 hn3; clear hb)
 generalize hY : World.setCell w3 ⟨w.heap.size, 0, none⟩ _ = U1
 have HMU : Hid (Mod [w.heap.size] w3 U1) := hid (by rw [<- hY]; exact (Mod.refl [w.heap.size] w3).setCell (.inl (by simp)) _)
 have HE2 : Hid (Ext w U1) := hid (by rw [<- hY]; exact (HE.out.trans HX.out).setCell (.inr (Nat.le_refl _)) _)
 have HB2 : Hid (Blk U1 w.heap.size 65 (asbC ⟨(t.ch 0).k, tgtN (t.ch 0), 0, zeroE, zeroA.ps, 0, zeroA.rs⟩ ⟨At, ct, none, 0, none, 0⟩)) := hid (by rw [<- hY]; exact (HBk.out.ext HX.out).set_ 0 _)
 clear hY q0 q0f a0 a1 a2 a3 a4
 have HNS : Hid (∀ W, Mod [w.heap.size] U1 W -> NsL W At (t.ch 0).k (tgtN (t.ch 0))) := hid (fun W hW => HN1.out.mod (HMU.out.trans hW) (fun b o hA _ => by have := HN2.out b o hA; have := HS.out; simp; omega))
 have HE := HE2
 have HBk := HB2
 have HTQ : Hid (∀ b o, At = some ⟨b, o, none⟩ -> w.heap.size <= b) := hid (fun b o hA => by have := HN2.out b o hA; have := HS.out; omega)
 clear HE2 HB2 HMU HN1 HN2 HX KE w3
 have a0 : U1.cell? ⟨b, o + 5, none⟩ = _ := (HP1.out _ HE.out).1
 have a1 : U1.cell? ⟨b, o + 5 + 1, none⟩ = _ := (HP1.out _ HE.out).2.1
 have a2 : U1.cell? ⟨b, o + 5 + 2, none⟩ = _ := (HP1.out _ HE.out).2.2.1
 have a3 : U1.cell? ⟨b, o + 5 + 3, none⟩ = _ := (HP1.out _ HE.out).2.2.2.1
 have a4 : U1.cell? ⟨b, o + 5 + 4, none⟩ = _ := (HP1.out _ HE.out).2.2.2.2
 have KN := hid (anum_any (t.ch 1) A1 c1 eb U1 (HFM.out _ HE.out))
 by_cases hC : (t.ch 1).kind = 0
 case neg =>
  have KN : Hid (Calls Tryz.prog 123 #[itemV (t.ch 1) A1 c1] U1 (Ret (.tuple #[.int .i64 0, .iface 180 (.agg #[str [110, 117, 109, 98, 101, 114], FormV eb])]) U1)) := hid (by have h := KN.out; unfold numErr at h; rw [if_neg hC] at h; exact h)
  have HNO : Hid (rdOK t = false) := hid (by rw [HOKR.out, decide_eq_false hC]; simp)
  clear hC
  go_upto_region 8 with (go_at_call 123; refine KN.out.mono ?_; rintro x w3 ⟨rfl, hb⟩; have HX := hid hb; have q1 := (HBk.out.ext hb).cell 1; have q1f := (HBk.out.ext hb).frozen 1; clear hb)
  generalize hY : World.setCell w3 ⟨w.heap.size, 1, none⟩ _ = U
  have HMU : Hid (Mod [w.heap.size] w3 U) := hid (by rw [<- hY]; exact (Mod.refl [w.heap.size] w3).setCell (.inl (by simp)) _)
  have HE2 : Hid (Ext w U) := hid (by rw [<- hY]; exact (HE.out.trans HX.out).setCell (.inr (Nat.le_refl _)) _)
  have HB2 : Hid (Blk U w.heap.size 65 (asbC ⟨(t.ch 0).k, tgtN (t.ch 0), 0, zeroE, zeroA.ps, 0, zeroA.rs⟩ ⟨At, ct, none, 0, none, 0⟩)) := hid (by rw [<- hY]; exact (HBk.out.ext HX.out).set_ 1 _)
  clear hY q1 q1f a0 a1 a2 a3 a4
  have HZC := hid (ZC.mk' ⟨(t.ch 0).k, tgtN (t.ch 0), 0, zeroE, zeroA.ps, 0, zeroA.rs⟩ ⟨At, ct, none, 0, none, 0⟩)
  obtain ⟨zc, hzc⟩ : ∃ zc, asbC ⟨(t.ch 0).k, tgtN (t.ch 0), 0, zeroE, zeroA.ps, 0, zeroA.rs⟩ ⟨At, ct, none, 0, none, 0⟩ = zc := ⟨_, rfl⟩
  have HBZ : Hid (Blk U w.heap.size 65 zc) := hid (by rw [<- hzc]; exact HB2.out)
  rw [hzc] at HZC
  clear hzc
  have tk1 : True := trivial
  have tk2 : True := trivial
  go_wp2_with (first | (clear tk1; refine wpList_row (by rfl) 65 _ rfl _ rfl HBZ.out vqB rfl HZC.out.i ?_) | (clear tk2; refine wpList_store_mid rfl 65 _ _ rfl (w.heap.size) 0 zc (by rfl) (by rfl) (HBZ.out.there (by rw [HZC.out.s]; exact Nat.le_refl 8)) HZC.out.i HZC.out.o ?_))
  have hY := setCells_all (ds := zc) HBZ.out (Array.length_toList ..)
  have hM2 := setCells_mod (b := w.heap.size) (zc : Array Value).toList 0 HE2.out (.inr (by omega))
  generalize hZ2 : World.setCells _ _ 0 _ = Z2 at *
  refine bodyPost_ret (results_cell2 rfl _ (by rfl) (by rfl) hY vqB rfl HZC.out.i) rfl (.inl ⟨HNO.out, zc, [110, 117, 109, 98, 101, 114], [], ?_, hM2, HZC.out⟩)
  rfl
 have KN : Hid (Calls Tryz.prog 123 #[itemV (t.ch 1) A1 c1] U1 (Ret (.tuple #[.int .i64 (min ((t.ch 1).n : Int) 65536), .nilIface]) U1)) := hid (by have h := KN.out; unfold numErr at h; rw [if_pos hC] at h; exact h)
 have HYC := hid hC
 clear hC
 obtain ⟨cx, hcx⟩ : ∃ cx, min ((t.ch 1).n : Int) 65536 = cx := ⟨_, rfl⟩
 rw [hcx] at KN
 have HCX := hid hcx
 clear hcx
 go_upto_region 9 with (go_at_call 123; refine KN.out.mono ?_; rintro x w3 ⟨rfl, hb⟩; have HX := hid hb; have q1 := (HBk.out.ext hb).cell 1; have q1f := (HBk.out.ext hb).frozen 1; clear hb)
 generalize hY : World.setCell w3 ⟨w.heap.size, 1, none⟩ _ = U2
 have HMU : Hid (Mod [w.heap.size] w3 U2) := hid (by rw [<- hY]; exact (Mod.refl [w.heap.size] w3).setCell (.inl (by simp)) _)
 have HE2 : Hid (Ext w U2) := hid (by rw [<- hY]; exact (HE.out.trans HX.out).setCell (.inr (Nat.le_refl _)) _)
 have HB2 : Hid (Blk U2 w.heap.size 65 (asbC ⟨(t.ch 0).k, tgtN (t.ch 0), cx, zeroE, zeroA.ps, 0, zeroA.rs⟩ ⟨At, ct, none, 0, none, 0⟩)) := hid (by rw [<- hY]; exact (HBk.out.ext HX.out).set_ 1 _)
 clear hY q1 q1f a0 a1 a2 a3 a4
 have HNS : Hid (∀ W, Mod [w.heap.size] U2 W -> NsL W At (t.ch 0).k (tgtN (t.ch 0))) := hid (fun W hW => HNS.out W ((HX.out.mono (by simp)).trans (HMU.out.trans hW)))
 have HE := HE2
 have HBk := HB2
 clear HE2 HB2 HMU HX KN w3
 have a0 : U2.cell? ⟨b, o + 15, none⟩ = _ := (HP3.out _ HE.out).1
 have a1 : U2.cell? ⟨b, o + 15 + 1, none⟩ = _ := (HP3.out _ HE.out).2.1
 have a2 : U2.cell? ⟨b, o + 15 + 2, none⟩ = _ := (HP3.out _ HE.out).2.2.1
 have a3 : U2.cell? ⟨b, o + 15 + 3, none⟩ = _ := (HP3.out _ HE.out).2.2.2.1
 have a4 : U2.cell? ⟨b, o + 15 + 4, none⟩ = _ := (HP3.out _ HE.out).2.2.2.2
 have KO := hid (eidOf_any (t.ch 3) HOK3.out A3 c3 U2 (IsL.weak (fun _ _ _ => trivial) _ (HI3.out _ HE.out)))
 by_cases hO : ofB (t.ch 3) = true
 case neg =>
  have hO : ofB (t.ch 3) = false := by simpa using hO
  have KO : Hid (Calls Tryz.prog 124 #[itemV (t.ch 3) A3 c3] U2 (Ret (.tuple #[.agg #[.int .i64 0, str [], .int .u64 0, .int .u64 0], .int .i64 2]) U2)) := hid (by have h := KO.out; rw [hO] at h; exact h)
  have HNO : Hid (rdOK t = false) := hid (by rw [HOKR.out, hO]; simp)
  clear hO
  go_upto_region 11 with (go_at_call 124; refine KO.out.mono ?_; rintro x w3 ⟨rfl, hb⟩; have HX := hid hb; clear hb)
  generalize hY : World.alloc w3 _ = U
  have HE2 : Hid (Ext w U) := hid (by rw [<- hY]; exact (HE.out.trans HX.out).alloc _)
  have HB2 : Hid (Blk U w.heap.size 65 (asbC ⟨(t.ch 0).k, tgtN (t.ch 0), cx, zeroE, zeroA.ps, 0, zeroA.rs⟩ ⟨At, ct, none, 0, none, 0⟩)) := hid (by rw [<- hY]; exact (HBk.out.ext HX.out).alloc _)
  clear hY a0 a1 a2 a3 a4
  have HZC := hid (ZC.mk' ⟨(t.ch 0).k, tgtN (t.ch 0), cx, zeroE, zeroA.ps, 0, zeroA.rs⟩ ⟨At, ct, none, 0, none, 0⟩)
  obtain ⟨zc, hzc⟩ : ∃ zc, asbC ⟨(t.ch 0).k, tgtN (t.ch 0), cx, zeroE, zeroA.ps, 0, zeroA.rs⟩ ⟨At, ct, none, 0, none, 0⟩ = zc := ⟨_, rfl⟩
  have HBZ : Hid (Blk U w.heap.size 65 zc) := hid (by rw [<- hzc]; exact HB2.out)
  rw [hzc] at HZC
  clear hzc
  have KW : Hid (∀ W, Ext w W -> Calls Tryz.prog 121 #[str [110, 97, 109, 101]] W (Ret (.iface 180 (.agg #[str [110, 97, 109, 101], FormV eb])) W)) := hid (fun W hW => wrong_any [110, 97, 109, 101] eb W (HFM.out _ hW))
  refine wp_region_held_drew (S := fun w' => Ext w w' /\ Blk w' w.heap.size 65 zc) (by kernel_rfl) ⟨HE2.out.drew, HBZ.out.drew⟩ (fun hHeld => ?_)
  generalize U.drew = y0 at *
  refine wpAnyH_take (i := 0) rfl (by kernel_rfl) (by kernel_rfl) (by kernel_rfl) (fun _ _ _ h => h) (yieldsIf_row (by rfl) 65 _ rfl _ rfl (fun W hM => hM.2) vqB rfl HZC.out.i) hHeld ?_
  (try simp only [Act.put, gTl, g0l, gSl, sTl, s0l, sSl])
  refine wpAnyH_ready (rs := [1]) (by kernel_rfl) (by simp) ?_
  refine AllReadyH.cons rfl (fun K hK => ?_) AllReadyH.nil
  go_simp
  go_at_call 121
  refine (KW.out _ hHeld.1).mono ?_
  rintro x y1 ⟨rfl, hb⟩
  refine hK.out _ _ ⟨hHeld.1.trans hb, hHeld.2.ext hb⟩ (fun hHeld => ?_)
  clear hK K
  (try simp only [Act.put, gTl, g0l, gSl, sTl, s0l, sSl])
  refine wpAnyH_ready (rs := [2]) (by kernel_rfl) (by simp) ?_
  refine AllReadyH.cons rfl (fun K hK => ?_) AllReadyH.nil
  refine wp_store_mid 65 _ _ rfl w.heap.size 0 zc (by rfl) (by rfl) (hHeld.2.there (by rw [HZC.out.s]; exact Nat.le_refl 8)) HZC.out.i HZC.out.o ?_
  have hYB := setCells_all (ds := zc) hHeld.2 (Array.length_toList ..)
  have hYM := setCells_mod (b := w.heap.size) (zc : Array Value).toList 0 hHeld.1 (.inr (by omega))
  generalize hZ : World.setCells _ _ 0 _ = y2 at *
  clear hZ
  refine hK.out _ _ ⟨hYM, hYB⟩ (fun hHeld => ?_)
  clear hK K
  (try simp only [Act.put, gTl, g0l, gSl, sTl, s0l, sSl])
  refine' wpAnyH_take (i := 3) (v := _) rfl (by kernel_rfl) (by kernel_rfl) (by kernel_rfl) (fun _ _ _ h => h) (Or.inl ⟨by rfl, ?hy2⟩) hHeld ?rest2
  case hy2 => (rintro W hM; go_simp; (try with_reducible rfl))
  case rest2 =>
  (try simp only [Act.put, gTl, g0l, gSl, sTl, s0l, sSl])
  refine wpAnyH_done (by kernel_rfl) ?_ _
  clear hYB hYM
  go_wp2_with fail
  refine bodyPost_ret (results_cell2 rfl _ (by rfl) (by rfl) hHeld.2 vqB rfl HZC.out.i) rfl (.inl ⟨HNO.out, zc, [110, 97, 109, 101], [], ?_, hHeld.1, HZC.out⟩)
  rfl
 have KO : Hid (Calls Tryz.prog 124 #[itemV (t.ch 3) A3 c3] U2 (Ret (.tuple #[.agg #[.int .i64 (readE (t.ch 3)).sch, str (readE (t.ch 3)).name, .int .u64 ((readE (t.ch 3)).node : Int), .int .u64 ((readE (t.ch 3)).svc : Int)], .int .i64 0]) U2)) := hid (by have h := KO.out; rw [hO] at h; exact h)
 have HYO := hid hO
 clear hO
 obtain ⟨E, hE⟩ : ∃ E, readE (t.ch 3) = E := ⟨_, rfl⟩
 rw [hE] at KO
 have HEQ := hid hE
 clear hE
 go_upto_region 12 with (go_at_call 124; refine KO.out.mono ?_; rintro x w3 ⟨rfl, hb⟩; have HX := hid hb; clear hb)
 generalize hY : World.alloc w3 _ = U3
 have HE2 : Hid (Ext w U3) := hid (by rw [<- hY]; exact (HE.out.trans HX.out).alloc _)
 have HB2 : Hid (Blk U3 w.heap.size 65 (asbC ⟨(t.ch 0).k, tgtN (t.ch 0), cx, zeroE, zeroA.ps, 0, zeroA.rs⟩ ⟨At, ct, none, 0, none, 0⟩)) := hid (by rw [<- hY]; exact (HBk.out.ext HX.out).alloc _)
 have HBE : Hid (Blk U3 w3.heap.size 24 E.c) := hid (by rw [<- hY]; exact Blk.new _ _ _)
 have HNS : Hid (∀ W, Mod [w.heap.size] U3 W -> NsL W At (t.ch 0).k (tgtN (t.ch 0))) := hid (fun W hW => HNS.out W ((HX.out.mono (by simp)).trans (Mod.trans (by rw [<- hY]; exact (Mod.refl _ _).alloc _) hW)))
 have HE := HE2
 have HBk := HB2
 clear hY a0 a1 a2 a3 a4 HE2 HB2 HX KO
 generalize w3.heap.size = n4 at *
 have e0 : U3.cell? ⟨n4, 0, none⟩ = some (.int .i64 E.sch) := HBE.out.cell 0
 have e1 : U3.cell? ⟨n4, 1, none⟩ = some (str E.name) := HBE.out.cell 1
 have e2 : U3.cell? ⟨n4, 2, none⟩ = some (.int .u64 (E.node : Int)) := HBE.out.cell 2
 have e3 : U3.cell? ⟨n4, 3, none⟩ = some (.int .u64 (E.svc : Int)) := HBE.out.cell 3
 have q2 := HBk.out.cell 2
 have q2f := HBk.out.frozen 2
 have q3 := HBk.out.cell 3
 have q3f := HBk.out.frozen 3
 have q4 := HBk.out.cell 4
 have q4f := HBk.out.frozen 4
 have q5 := HBk.out.cell 5
 have q5f := HBk.out.frozen 5
 go_upto_region 13 with fail
 generalize hY : World.setCell _ ⟨w.heap.size, 5, none⟩ _ = U4
 have HMU : Hid (Mod [w.heap.size] U3 U4) := hid (by rw [<- hY]; exact ((((Mod.refl [w.heap.size] U3).setCell (.inl (by simp)) _).setCell (.inl (by simp)) _).setCell (.inl (by simp)) _).setCell (.inl (by simp)) _)
 have HE2 : Hid (Ext w U4) := hid (by rw [<- hY]; exact (((HE.out.setCell (.inr (Nat.le_refl _)) _).setCell (.inr (Nat.le_refl _)) _).setCell (.inr (Nat.le_refl _)) _).setCell (.inr (Nat.le_refl _)) _)
 have HB2 : Hid (Blk U4 w.heap.size 65 (asbC ⟨(t.ch 0).k, tgtN (t.ch 0), cx, E, zeroA.ps, 0, zeroA.rs⟩ ⟨At, ct, none, 0, none, 0⟩)) := hid (by rw [<- hY]; exact (((HBk.out.set_ 2 _).set_ 3 _).set_ 4 _).set_ 5 _)
 have HNS : Hid (∀ W, Mod [w.heap.size] U4 W -> NsL W At (t.ch 0).k (tgtN (t.ch 0))) := hid (fun W hW => HNS.out W (HMU.out.trans hW))
 have HE := HE2
 have HBk := HB2
 clear hY HE2 HB2 HMU HBE e0 e1 e2 e3 q2 q2f q3 q3f q4 q4f q5 q5f
 go_upto_region 14 with fail
 have a0 : U4.cell? ⟨b, o + 20, none⟩ = _ := (HP4.out _ HE.out).1
 have a1 : U4.cell? ⟨b, o + 20 + 1, none⟩ = _ := (HP4.out _ HE.out).2.1
 have a2 : U4.cell? ⟨b, o + 20 + 2, none⟩ = _ := (HP4.out _ HE.out).2.2.1
 have a3 : U4.cell? ⟨b, o + 20 + 3, none⟩ = _ := (HP4.out _ HE.out).2.2.2.1
 have a4 : U4.cell? ⟨b, o + 20 + 4, none⟩ = _ := (HP4.out _ HE.out).2.2.2.2
 have KP := hid (areadP_any (t.ch 4) (HKB.out 4 (by decide)).1 A4 c4 eb U4 (HFM.out _ HE.out) (HI4.out _ HE.out))
 by_cases hP : T.all (pairK (t.ch 4)) (t.ch 4).k = true
 case neg =>
  have hP : T.all (pairK (t.ch 4)) (t.ch 4).k = false := by simpa using hP
  have HNO : Hid (rdOK t = false) := hid (by rw [HOKR.out, hP]; simp)
  have KE : Hid (Calls Tryz.prog 125 #[itemV (t.ch 4) A4 c4] U4 (fun e w' => ∃ l, e = .returned (.tuple #[.slice none 0 0, .iface 180 (.agg #[str [112, 97, 105, 114], errV eb l])]) /\ Ext U4 w')) := hid (KP.out.mono fun e w' h => by
   rcases h with ⟨_, l, h1, h2⟩ | ⟨h1, _⟩
   . exact ⟨l, h1, h2⟩
   . rw [hP] at h1; exact absurd h1 (by decide))
  clear hP KP
  go_upto_region 16 with (go_at_call 125; refine KE.out.mono ?_; rintro x w3 ⟨l, rfl, hb⟩; have HX := hid hb; have q6 := (HBk.out.ext hb).cell 6; have q6f := (HBk.out.ext hb).frozen 6; clear hb)
  generalize hY : World.setCell w3 ⟨w.heap.size, 6, none⟩ _ = U
  have HMU : Hid (Mod [w.heap.size] w3 U) := hid (by rw [<- hY]; exact (Mod.refl [w.heap.size] w3).setCell (.inl (by simp)) _)
  have HE2 : Hid (Ext w U) := hid (by rw [<- hY]; exact (HE.out.trans HX.out).setCell (.inr (Nat.le_refl _)) _)
  have HB2 : Hid (Blk U w.heap.size 65 (asbC ⟨(t.ch 0).k, tgtN (t.ch 0), cx, E, zeroA.ps, 0, zeroA.rs⟩ ⟨At, ct, none, 0, none, 0⟩)) := hid (by rw [<- hY]; exact (HBk.out.ext HX.out).set_ 6 _)
  clear hY q6 q6f a0 a1 a2 a3 a4
  have HZC := hid (ZC.mk' ⟨(t.ch 0).k, tgtN (t.ch 0), cx, E, zeroA.ps, 0, zeroA.rs⟩ ⟨At, ct, none, 0, none, 0⟩)
  obtain ⟨zc, hzc⟩ : ∃ zc, asbC ⟨(t.ch 0).k, tgtN (t.ch 0), cx, E, zeroA.ps, 0, zeroA.rs⟩ ⟨At, ct, none, 0, none, 0⟩ = zc := ⟨_, rfl⟩
  have HBZ : Hid (Blk U w.heap.size 65 zc) := hid (by rw [<- hzc]; exact HB2.out)
  rw [hzc] at HZC
  clear hzc
  have tk1 : True := trivial
  have tk2 : True := trivial
  go_wp2_with (first | (clear tk1; refine wpList_row (by rfl) 65 _ rfl _ rfl HBZ.out vqB rfl HZC.out.i ?_) | (clear tk2; refine wpList_store_mid rfl 65 _ _ rfl (w.heap.size) 0 zc (by rfl) (by rfl) (HBZ.out.there (by rw [HZC.out.s]; exact Nat.le_refl 8)) HZC.out.i HZC.out.o ?_))
  have hY := setCells_all (ds := zc) HBZ.out (Array.length_toList ..)
  have hM2 := setCells_mod (b := w.heap.size) (zc : Array Value).toList 0 HE2.out (.inr (by omega))
  generalize hZ2 : World.setCells _ _ 0 _ = Z2 at *
  refine bodyPost_ret (results_cell2 rfl _ (by rfl) (by rfl) hY vqB rfl HZC.out.i) rfl (.inl ⟨HNO.out, zc, [112, 97, 105, 114], l, ?_, hM2, HZC.out⟩)
  rfl
 have KE : Hid (Calls Tryz.prog 125 #[itemV (t.ch 4) A4 c4] U4 (fun e w' => ∃ Ap cp, e = .returned (.tuple #[.slice Ap (t.ch 4).k cp, .nilIface]) /\ Ext U4 w' /\ PsL w' (fun b => ((X b /\ b < w.heap.size) /\ b < U4.heap.size) \/ U4.heap.size <= b) Ap ⟨(t.ch 4).k, pairP (t.ch 4)⟩)) := hid (KP.out.mono fun e w' h => by
  rcases h with ⟨h1, _⟩ | ⟨_, Ap, cp, h1, h2, _, h4⟩
  . rw [hP] at h1; exact absurd h1 (by decide)
  . exact ⟨Ap, cp, h1, h2, h4⟩)
 have HYP := hid hP
 have HLT : Hid (w.heap.size < U4.heap.size) := hid HBk.out.lt
 clear hP KP
 go_upto_region 17 with (go_at_call 125; refine KE.out.mono ?_; rintro x w3 ⟨Ap, cp, rfl, hb, hn1⟩; have HX := hid hb; have q6 := (HBk.out.ext hb).cell 6; have q6f := (HBk.out.ext hb).frozen 6; have HN1 := hid hn1; clear hn1; clear hb)
 generalize hY : World.setCell w3 ⟨w.heap.size, 6, none⟩ _ = U5
 have HMU : Hid (Mod [w.heap.size] w3 U5) := hid (by rw [<- hY]; exact (Mod.refl [w.heap.size] w3).setCell (.inl (by simp)) _)
 have HE2 : Hid (Ext w U5) := hid (by rw [<- hY]; exact (HE.out.trans HX.out).setCell (.inr (Nat.le_refl _)) _)
 have HB2 : Hid (Blk U5 w.heap.size 65 (asbC ⟨(t.ch 0).k, tgtN (t.ch 0), cx, E, ⟨(t.ch 4).k, pairP (t.ch 4)⟩, 0, zeroA.rs⟩ ⟨At, ct, Ap, cp, none, 0⟩)) := hid (by rw [<- hY]; exact (HBk.out.ext HX.out).set_ 6 _)
 clear hY q6 q6f a0 a1 a2 a3 a4
 have HPS : Hid (∀ W, Mod [w.heap.size] U5 W -> PsL W (NewQ X w.heap.size) Ap ⟨(t.ch 4).k, pairP (t.ch 4)⟩) := hid (fun W hW => (HN1.out.mod (HMU.out.trans hW) (fun b hb _ => by have := HLT.out; simp; omega)).weak (fun b _ hb => hb.elim (fun h => .inl h.1) (fun h => .inr (by have := HLT.out; omega))))
 have HNS : Hid (∀ W, Mod [w.heap.size] U5 W -> NsL W At (t.ch 0).k (tgtN (t.ch 0))) := hid (fun W hW => HNS.out W ((HX.out.mono (by simp)).trans (HMU.out.trans hW)))
 have HE := HE2
 have HBk := HB2
 clear HE2 HB2 HMU HN1 HLT HX KE w3
 have a0 : U5.cell? ⟨b, o + 25, none⟩ = _ := (HP5.out _ HE.out).1
 have a1 : U5.cell? ⟨b, o + 25 + 1, none⟩ = _ := (HP5.out _ HE.out).2.1
 have a2 : U5.cell? ⟨b, o + 25 + 2, none⟩ = _ := (HP5.out _ HE.out).2.2.1
 have a3 : U5.cell? ⟨b, o + 25 + 3, none⟩ = _ := (HP5.out _ HE.out).2.2.2.1
 have a4 : U5.cell? ⟨b, o + 25 + 4, none⟩ = _ := (HP5.out _ HE.out).2.2.2.2
 have KR := hid (areadR_any (t.ch 5) (HKB.out 5 (by decide)).1 (HKB.out 5 (by decide)).2 A5 c5 eb U5 (HFM.out _ HE.out) (HI5.out _ HE.out))
 by_cases hR : T.all (resK (t.ch 5)) (t.ch 5).k = true
 case neg =>
  have hR : T.all (resK (t.ch 5)) (t.ch 5).k = false := by simpa using hR
  have HNO : Hid (rdOK t = false) := hid (by rw [HOKR.out, hR]; simp)
  have KE : Hid (Calls Tryz.prog 126 #[itemV (t.ch 5) A5 c5] U5 (fun e w' => ∃ l, e = .returned (.tuple #[.slice none 0 0, .iface 180 (.agg #[str [114, 101, 115, 117, 108, 116, 115], errV eb l])]) /\ Ext U5 w')) := hid (KR.out.mono fun e w' h => by
   rcases h with ⟨_, l, h1, h2⟩ | ⟨h1, _⟩
   . exact ⟨l, h1, h2⟩
   . rw [hR] at h1; exact absurd h1 (by decide))
  clear hR KR
  go_upto_region 18 with (go_at_call 126; refine KE.out.mono ?_; rintro x w3 ⟨l, rfl, hb⟩; have HX := hid hb; have q7 := (HBk.out.ext hb).cell 7; have q7f := (HBk.out.ext hb).frozen 7; clear hb)
  generalize hY : World.setCell w3 ⟨w.heap.size, 7, none⟩ _ = U
  have HMU : Hid (Mod [w.heap.size] w3 U) := hid (by rw [<- hY]; exact (Mod.refl [w.heap.size] w3).setCell (.inl (by simp)) _)
  have HE2 : Hid (Ext w U) := hid (by rw [<- hY]; exact (HE.out.trans HX.out).setCell (.inr (Nat.le_refl _)) _)
  have HB2 : Hid (Blk U w.heap.size 65 (asbC ⟨(t.ch 0).k, tgtN (t.ch 0), cx, E, ⟨(t.ch 4).k, pairP (t.ch 4)⟩, 0, zeroA.rs⟩ ⟨At, ct, Ap, cp, none, 0⟩)) := hid (by rw [<- hY]; exact (HBk.out.ext HX.out).set_ 7 _)
  clear hY q7 q7f a0 a1 a2 a3 a4
  have HZC := hid (ZC.mk' ⟨(t.ch 0).k, tgtN (t.ch 0), cx, E, ⟨(t.ch 4).k, pairP (t.ch 4)⟩, 0, zeroA.rs⟩ ⟨At, ct, Ap, cp, none, 0⟩)
  obtain ⟨zc, hzc⟩ : ∃ zc, asbC ⟨(t.ch 0).k, tgtN (t.ch 0), cx, E, ⟨(t.ch 4).k, pairP (t.ch 4)⟩, 0, zeroA.rs⟩ ⟨At, ct, Ap, cp, none, 0⟩ = zc := ⟨_, rfl⟩
  have HBZ : Hid (Blk U w.heap.size 65 zc) := hid (by rw [<- hzc]; exact HB2.out)
  rw [hzc] at HZC
  clear hzc
  have tk1 : True := trivial
  have tk2 : True := trivial
  go_wp2_with (first | (clear tk1; refine wpList_row (by rfl) 65 _ rfl _ rfl HBZ.out vqB rfl HZC.out.i ?_) | (clear tk2; refine wpList_store_mid rfl 65 _ _ rfl (w.heap.size) 0 zc (by rfl) (by rfl) (HBZ.out.there (by rw [HZC.out.s]; exact Nat.le_refl 8)) HZC.out.i HZC.out.o ?_))
  have hY := setCells_all (ds := zc) HBZ.out (Array.length_toList ..)
  have hM2 := setCells_mod (b := w.heap.size) (zc : Array Value).toList 0 HE2.out (.inr (by omega))
  generalize hZ2 : World.setCells _ _ 0 _ = Z2 at *
  refine bodyPost_ret (results_cell2 rfl _ (by rfl) (by rfl) hY vqB rfl HZC.out.i) rfl (.inl ⟨HNO.out, zc, [114, 101, 115, 117, 108, 116, 115], l, ?_, hM2, HZC.out⟩)
  rfl
 have KE : Hid (Calls Tryz.prog 126 #[itemV (t.ch 5) A5 c5] U5 (fun e w' => ∃ Ar cr, e = .returned (.tuple #[.slice Ar (t.ch 5).k cr, .nilIface]) /\ Ext U5 w' /\ RsL w' (fun b => ((X b /\ b < w.heap.size) /\ b < U5.heap.size) \/ U5.heap.size <= b) Ar (t.ch 5).k (resP (t.ch 5)))) := hid (KR.out.mono fun e w' h => by
  rcases h with ⟨h1, _⟩ | ⟨_, Ar, cr, h1, h2, _, h4⟩
  . rw [hR] at h1; exact absurd h1 (by decide)
  . exact ⟨Ar, cr, h1, h2, h4⟩)
 have HOK : Hid (rdOK t = true) := hid (by rw [HOKR.out, HYT.out, HYO.out, hR, decide_eq_true HYC.out]; rw [HYP.out]; rfl)
 have HRA : Hid (rdA t = ⟨(t.ch 0).k, tgtN (t.ch 0), cx, E, ⟨(t.ch 4).k, pairP (t.ch 4)⟩, (t.ch 5).k, resP (t.ch 5)⟩) := hid (by unfold rdA; rw [HKk.out, HCX.out, HEQ.out]; rfl)
 have HLT : Hid (w.heap.size < U5.heap.size) := hid HBk.out.lt
 clear hR KR
 go_upto_region 18 with (go_at_call 126; refine KE.out.mono ?_; rintro x w3 ⟨Ar, cr, rfl, hb, hn1⟩; have HX := hid hb; have q7 := (HBk.out.ext hb).cell 7; have q7f := (HBk.out.ext hb).frozen 7; have HN1 := hid hn1; clear hn1; clear hb)
 generalize hY : World.setCell w3 ⟨w.heap.size, 7, none⟩ _ = U6
 have HMU : Hid (Mod [w.heap.size] w3 U6) := hid (by rw [<- hY]; exact (Mod.refl [w.heap.size] w3).setCell (.inl (by simp)) _)
 have HE2 : Hid (Ext w U6) := hid (by rw [<- hY]; exact (HE.out.trans HX.out).setCell (.inr (Nat.le_refl _)) _)
 have HB2 : Hid (Blk U6 w.heap.size 65 (asbC ⟨(t.ch 0).k, tgtN (t.ch 0), cx, E, ⟨(t.ch 4).k, pairP (t.ch 4)⟩, (t.ch 5).k, resP (t.ch 5)⟩ ⟨At, ct, Ap, cp, Ar, cr⟩)) := hid (by rw [<- hY]; exact (HBk.out.ext HX.out).set_ 7 _)
 clear hY q7 q7f a0 a1 a2 a3 a4
 have HPS : Hid (∀ W, Mod [w.heap.size] U6 W -> PsL W (NewQ X w.heap.size) Ap ⟨(t.ch 4).k, pairP (t.ch 4)⟩) := hid (fun W hW => HPS.out W ((HX.out.mono (by simp)).trans (HMU.out.trans hW)))
 have HRS : Hid (∀ W, Mod [w.heap.size] U6 W -> RsL W (NewQ X w.heap.size) Ar (t.ch 5).k (resP (t.ch 5))) := hid (fun W hW => (HN1.out.mod (HMU.out.trans hW) (fun b hb _ => by have := HLT.out; simp; omega)).weak (fun b _ hb => hb.elim (fun h => .inl h.1) (fun h => .inr (by have := HLT.out; omega))))
 have HNS : Hid (∀ W, Mod [w.heap.size] U6 W -> NsL W At (t.ch 0).k (tgtN (t.ch 0))) := hid (fun W hW => HNS.out W ((HX.out.mono (by simp)).trans (HMU.out.trans hW)))
 have HZC := hid (ZC.mk' ⟨(t.ch 0).k, tgtN (t.ch 0), cx, E, ⟨(t.ch 4).k, pairP (t.ch 4)⟩, (t.ch 5).k, resP (t.ch 5)⟩ ⟨At, ct, Ap, cp, Ar, cr⟩)
 obtain ⟨zc, hzc⟩ : ∃ zc, asbC ⟨(t.ch 0).k, tgtN (t.ch 0), cx, E, ⟨(t.ch 4).k, pairP (t.ch 4)⟩, (t.ch 5).k, resP (t.ch 5)⟩ ⟨At, ct, Ap, cp, Ar, cr⟩ = zc := ⟨_, rfl⟩
 have HBZ : Hid (Blk U6 w.heap.size 65 zc) := hid (by rw [<- hzc]; exact HB2.out)
 rw [hzc] at HZC
 have HZQ := hid hzc
 clear hzc
 have tk1 : True := trivial
 have tk2 : True := trivial
 go_wp2_with (first | (clear tk1; refine wpList_row (by rfl) 65 _ rfl _ rfl HBZ.out vqB rfl HZC.out.i ?_) | (clear tk2; refine wpList_store_mid rfl 65 _ _ rfl (w.heap.size) 0 zc (by rfl) (by rfl) (HBZ.out.there (by rw [HZC.out.s]; exact Nat.le_refl 8)) HZC.out.i HZC.out.o ?_))
 have hY := setCells_all (ds := zc) HBZ.out (Array.length_toList ..)
 have hM2 := setCells_mod (b := w.heap.size) (zc : Array Value).toList 0 HE2.out (.inr (by omega))
 generalize hZ2 : World.setCells _ _ 0 _ = Z2 at *
 have hM3 := setCells_mod (b := w.heap.size) (zc : Array Value).toList 0 (Mod.refl [w.heap.size] U6) (.inl (by simp))
 rw [hZ2] at hM3
 refine bodyPost_ret (results_cell2 rfl _ (by rfl) (by rfl) hY vqB rfl HZC.out.i) rfl (.inr ⟨HOK.out, ⟨At, ct, Ap, cp, Ar, cr⟩, ?_, hM2, ?_, ?_⟩)
 . rw [HRA.out, <- HZQ.out]; rfl
 .
  rw [HRA.out]
  exact ⟨HNS.out _ hM3, fun b o hA _ => .inr (HTQ.out b o hA), HPS.out _ hM3, HRS.out _ hM3⟩
 . rw [HRA.out]; exact ⟨HN3.out, fun b o hA => HTQ.out b o hA⟩
end Go.Proofs.YtmckfdmdkljomaaGreatDoor
