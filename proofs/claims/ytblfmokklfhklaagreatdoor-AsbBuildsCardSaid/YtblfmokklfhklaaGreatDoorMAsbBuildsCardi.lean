/-
  Security texts: those that are few are small.
  The law AsbBuilds: its walk.
  Arguments []asb.Pair and asb.ASB, opened.
-/
import Derived.Test.YtblfmokklfhklaaGreatDoorMAsbBuildsCardh

namespace Go.Proofs.YtblfmokklfhklaaGreatDoor
open Go.RowKit
set_option linter.unusedVariables false
set_option linter.unusedSimpArgs false

theorem fewP_size {p : PL} (h : fewP p = true) : p.k ≤ 10 ∧ ∀ i, i < p.k → (p.a i).t.size ≤ 1000 := by
  unfold fewP at h
  rw [Bool.and_eq_true, T.all_iff, decide_eq_true_eq] at h
  exact ⟨h.2, fun i hi => (few_size (h.1 i (by omega))).1⟩
theorem pl_size_le {p : PL} {n : Nat} (hk : p.k ≤ n) (h : ∀ i, i < p.k → (p.a i).t.size ≤ 1000) : (plT p).size ≤ 1 + n * 1002 := by
  unfold plT T.size
  have := sum_le_each (f := fun i => (pairT (p.a i)).size) (B := 1002) (k := p.k) (fun i hi => by have := pair_size (p := p.a i); have := h i hi; show (pairT (p.a i)).size ≤ _; omega)
  have h2 : p.k * 1002 ≤ n * 1002 := Nat.mul_le_mul_right _ hk
  show 1 + 0 + T.sum (fun i => (pairT (p.a i)).size) p.k ≤ 1 + n * 1002
  omega
theorem few_small {a : AV} (h : fewA a = true) (hs : a.shaped = true) : a.small := by
  obtain ⟨⟨h1, h2⟩, h3, h4, h5, h6, h7, h8, h9⟩ := AV.shaped_iff.1 hs
  unfold fewA at h
  simp only [Bool.and_eq_true, T.all_iff, decide_eq_true_eq] at h
  obtain ⟨f1, ⟨⟨f2, f3⟩, f4⟩, f5⟩ := h
  constructor
  · have := pl_size_le (n := 10) (fewP_size f4).1 (fewP_size f4).2
    omega
  · unfold rsT T.size
    have := sum_le_each (f := fun i => (plT (a.rs i)).size) (B := 4009) (k := a.rk) (fun i hi => by
      have e := resB_iff.1 (T.all_iff.1 h9 i hi)
      have := pl_size_le (n := 4) e.1.2 (fewP_size (f1 i (by omega))).2
      show (plT (a.rs i)).size ≤ _
      omega)
    have h2 : a.rk * 4009 ≤ 16 * 4009 := Nat.mul_le_mul_right _ (by omega)
    show 1 + 0 + T.sum (fun i => (plT (a.rs i)).size) a.rk ≤ 100000
    omega
end Go.Proofs.YtblfmokklfhklaaGreatDoor


namespace Go.Proofs.YtblfmokklfhklaaGreatDoor
open Go.RowKit
set_option linter.unusedVariables false
set_option linter.unusedSimpArgs false

set_option maxRecDepth 20000 in
set_option maxHeartbeats 16000000 in
theorem asbBuilds_any (a : AV) (hw : a.wf) (m : AA) (hmt : a.tk ≤ m.tc) (eb : Addr) (w : World) (hf : FormAt w eb) (h : AsL w anyQ a m) : Calls Tryz.prog 3 #[asbV a m] w (Ret (.bool true) w) := by
  obtain ⟨mt, mtc, mp, mpc, mr, mrc⟩ := m
  have HE := hid ((Mod.refl [] w).alloc (.cells (asbC a ⟨mt, mtc, mp, mpc, mr, mrc⟩) 29))
  have HB0 := hid (Blk.new w 29 (asbC a ⟨mt, mtc, mp, mpc, mr, mrc⟩))
  have HL := hid (h.ext HE.out)
  have HFO := hid (hf.ext HE.out)
  have HW := hid hw
  have HMT := hid hmt
  clear hw h hmt hf
  go_enter Tryz.func3, Tryz.ntmps3
  go_upto_region 1 with fail
  generalize w.alloc (.cells (asbC a ⟨mt, mtc, mp, mpc, mr, mrc⟩) 29) = V at *
  have KF := hid (fun e : Later V => few15_any a HW.out ⟨mt, mtc, mp, mpc, mr, mrc⟩ e.x (HL.out.ext e.h))
  obtain ⟨e, he⟩ := Later.self V
  rw [he]
  clear he
  have tk1 : True := trivial
  cases hfw : fewA a with
  | false =>
    rw [hfw] at KF
    clear hfw
    go_wp2_with (first | (go_at_call 5; refine (Ret.later (awake15_any _)).mono ?_; rintro x _ ⟨rfl, e, rfl⟩) | (clear tk1; refine wpList_row (by rfl) 29 _ rfl _ rfl (HB0.out.later _) Tryz.underlying29 rfl (by kernel_rfl) ?_) | (go_at_call 6; refine (Ret.later (KF.out _)).mono ?_; rintro x _ ⟨rfl, e, rfl⟩))
    go_ret
    exact Ret.mk rfl (HE.out.trans e.h)
  | true =>
  rw [hfw] at KF
  have HSM : Hid (a.shaped = true → a.small) := hid (few_small hfw)
  clear hfw
  have KRR := hid (fun e : Later V => r15Right_any a HW.out HSM.out ⟨mt, mtc, mp, mpc, mr, mrc⟩ e.x (HL.out.ext e.h))
  have KR2 := hid (fun e : Later V => aRight_any a HW.out HSM.out ⟨mt, mtc, mp, mpc, mr, mrc⟩ HMT.out e.x (HL.out.ext e.h))
  have KB := hid (fun e : Later V => aBuild_any a HW.out HSM.out ⟨mt, mtc, mp, mpc, mr, mrc⟩ HMT.out e.x (HL.out.ext e.h))
  have tk2 : True := trivial
  have tk3 : True := trivial
  have tk4 : True := trivial
  cases hrt : a.right with
  | false =>
    have KB : Hid (∀ e : Later V, Calls Tryz.prog 8 #[asbV a ⟨mt, mtc, mp, mpc, mr, mrc⟩] e.x (Ret (.tuple #[str [], .int .i64 1]) e.x)) := hid (fun e => by
      have := KB.out e
      unfold abuildV at this
      rw [hrt] at this
      exact this)
    rw [hrt] at KRR KR2
    clear hrt
    go_wp2_with (first | (go_at_call 5; refine (Ret.later (awake15_any _)).mono ?_; rintro x _ ⟨rfl, e, rfl⟩) | (clear tk1; refine wpList_row (by rfl) 29 _ rfl _ rfl (HB0.out.later _) Tryz.underlying29 rfl (by kernel_rfl) ?_) | (go_at_call 6; refine (Ret.later (KF.out _)).mono ?_; rintro x _ ⟨rfl, e, rfl⟩) | (clear tk2; refine wpList_row (by rfl) 29 _ rfl _ rfl (HB0.out.later _) Tryz.underlying29 rfl (by kernel_rfl) ?_) | (go_at_call 7; refine (Ret.later (KRR.out _)).mono ?_; rintro x _ ⟨rfl, e, rfl⟩) | (clear tk3; refine wpList_row (by rfl) 29 _ rfl _ rfl (HB0.out.later _) Tryz.underlying29 rfl (by kernel_rfl) ?_) | (go_at_call 8; refine (Ret.later (KB.out _)).mono ?_; rintro x _ ⟨rfl, e, rfl⟩) | (clear tk4; refine wpList_row (by rfl) 29 _ rfl _ rfl (HB0.out.later _) Tryz.underlying29 rfl (by kernel_rfl) ?_) | (go_at_call 9; refine (Ret.later (KR2.out _)).mono ?_; rintro x _ ⟨rfl, e, rfl⟩))
    go_ret
    exact Ret.mk rfl (HE.out.trans e.h)
  | true =>
  have HIS : Hid (isAsb a.bytes a) := hid ⟨HW.out, hrt, rfl⟩
  have HSH : Hid (a.shaped = true ∧ a.bytes.length ≤ 4000) := hid (by unfold AV.right at hrt; rw [Bool.and_eq_true, decide_eq_true_eq] at hrt; exact hrt)
  have KB : Hid (∀ e : Later V, Calls Tryz.prog 8 #[asbV a ⟨mt, mtc, mp, mpc, mr, mrc⟩] e.x (Ret (.tuple #[str a.bytes, .int .i64 0]) e.x)) := hid (fun e => by
    have := KB.out e
    unfold abuildV at this
    rw [if_pos hrt] at this
    exact this)
  rw [hrt] at KRR KR2
  clear hrt
  have KBY := hid (fun e : Later V => r15Bytes_any a HW.out (HSM.out HSH.out.1) HSH.out.1 ⟨mt, mtc, mp, mpc, mr, mrc⟩ e.x (HL.out.ext e.h))
  have KP : Hid (∀ e : Later V, Calls Tryz.prog 10 #[str a.bytes] e.x (fun x w' => ∃ zc m2, Hid (asbC a m2 = zc) ∧ x = .returned (.tuple #[.agg zc, .int .i64 0]) ∧ Ext e.x w' ∧ AsL w' anyQ a m2)) := hid (fun e => (aparse_any a.bytes (by have := HSH.out.2; omega) eb e.x (HFO.out.ext e.h)).mono fun x w' h => by
    rcases h with ⟨h1, _⟩ | ⟨b, m2, _, h2, h3, h4, h5, _⟩
    · exact absurd HIS.out (h1 a)
    · have hE := h2 a HIS.out
      refine ⟨_, m2, hid rfl, ?_, h4, h5.eqv hE⟩
      rw [h3, ← hE.val])
  clear HIS
  generalize a.bytes = BB at *
  have tk5 : True := trivial
  go_upto_region 10 with (first | (go_at_call 5; refine (Ret.later (awake15_any _)).mono ?_; rintro x _ ⟨rfl, e, rfl⟩) | (clear tk1; refine wpList_row (by rfl) 29 _ rfl _ rfl (HB0.out.later _) Tryz.underlying29 rfl (by kernel_rfl) ?_) | (go_at_call 6; refine (Ret.later (KF.out _)).mono ?_; rintro x _ ⟨rfl, e, rfl⟩) | (clear tk2; refine wpList_row (by rfl) 29 _ rfl _ rfl (HB0.out.later _) Tryz.underlying29 rfl (by kernel_rfl) ?_) | (go_at_call 7; refine (Ret.later (KRR.out _)).mono ?_; rintro x _ ⟨rfl, e, rfl⟩) | (clear tk3; refine wpList_row (by rfl) 29 _ rfl _ rfl (HB0.out.later _) Tryz.underlying29 rfl (by kernel_rfl) ?_) | (go_at_call 8; refine (Ret.later (KB.out _)).mono ?_; rintro x _ ⟨rfl, e, rfl⟩) | (clear tk4; refine wpList_row (by rfl) 29 _ rfl _ rfl (HB0.out.later _) Tryz.underlying29 rfl (by kernel_rfl) ?_) | (go_at_call 9; refine (Ret.later (KR2.out _)).mono ?_; rintro x _ ⟨rfl, e, rfl⟩) | (go_at_call 10; refine (KP.out _).mono ?_; rintro x w2 ⟨zc, m2, HZE, rfl, hb, hal⟩; have HX := hid (e.h.trans hb); have HAL := hid hal; have HZC : Hid (ZC zc) := hid (by rw [← HZE.out]; exact ZC.mk' a m2); clear hb hal) | (clear tk5; refine wpList_store_mid rfl 29 _ _ rfl w2.heap.size 0 zc (by rfl) (by rfl) ((Blk.new _ _ _).there (by rw [HZC.out.s]; exact Nat.le_refl 8)) HZC.out.i HZC.out.o ?_))
  generalize hV2 : World.setCells _ _ _ _ = V2
  have HX2 : Hid (Ext V V2) := hid (by rw [← hV2]; exact setCells_mod _ _ (HX.out.alloc _) (.inr HX.out.size))
  have HXW : Hid (Ext w2 V2) := hid (by rw [← hV2]; exact setCells_mod _ _ ((Mod.refl [] w2).alloc _) (.inr (Nat.le_refl _)))
  have HB2 : Hid (Blk V2 w2.heap.size 29 zc) := hid (by rw [← hV2]; exact setCells_all (ds := zc) (Blk.new _ _ _) (by rw [Array.length_toList, HZC.out.s]; rfl))
  have HBR := hid (HB0.out.ext HX2.out)
  have HE2 := hid (HE.out.trans HX2.out)
  have HAL2 := hid (HAL.out.ext HXW.out)
  have KBY2 : Hid (∀ e : Later V2, Calls Tryz.prog 11 #[asbV a ⟨mt, mtc, mp, mpc, mr, mrc⟩] e.x (Ret (str BB) e.x)) := hid (fun e => KBY.out ⟨e.x, HX2.out.trans e.h⟩)
  have KS : Hid (∀ e : Later V2, Calls Tryz.prog 12 #[asbV a ⟨mt, mtc, mp, mpc, mr, mrc⟩, .agg zc] e.x (Ret (.bool true) e.x)) := hid (fun e => by
    rw [← HZE.out]
    exact Same15_eq a HW.out ⟨mt, mtc, mp, mpc, mr, mrc⟩ m2 e.x (HL.out.ext (HX2.out.trans e.h)) (HAL2.out.ext e.h))
  have HRL : Hid (∀ e : Later V2, Blk e.x w2.heap.size 29 zc) := hid (fun e => HB2.out.later e)
  clear hV2 HX HX2 HXW HB0 HE HL KF KRR KR2 KB KP KBY HAL HAL2 HZE HB2 HFO
  generalize w2.heap.size = n2 at *
  obtain ⟨e, he⟩ := Later.self V2
  rw [he]
  clear he
  have tk1 : True := trivial
  have tk2 : True := trivial
  have tk3 : True := trivial
  go_wp2_with (first | (clear tk1; refine wpList_row (by rfl) 29 _ rfl _ rfl (HBR.out.later _) Tryz.underlying29 rfl (by kernel_rfl) ?_) | (go_at_call 11; refine (Ret.later (KBY2.out _)).mono ?_; rintro x _ ⟨rfl, e, rfl⟩) | (clear tk2; refine wpList_row (by rfl) 29 _ rfl _ rfl (HBR.out.later _) Tryz.underlying29 rfl (by kernel_rfl) ?_) | (clear tk3; refine wpList_row (by rfl) 29 _ rfl _ rfl (HRL.out _) Tryz.underlying29 rfl HZC.out.i ?_) | (go_at_call 12; refine (Ret.later (KS.out _)).mono ?_; rintro x _ ⟨rfl, e, rfl⟩))
  go_ret
  exact Ret.mk rfl (HE2.out.trans e.h)
end Go.Proofs.YtblfmokklfhklaaGreatDoor


namespace Go.Proofs.YtblfmokklfhklaaGreatDoor
open Go.ChangeShapes Go.WideShapes Go.ChangeAt Go.RowKit Go.Deep
set_option linter.unusedVariables false
set_option linter.unusedSimpArgs false

section
variable {H : Type} {enc : TypeId × Value → H} {w : World} {base b0 : Nat} {spare : Nat → Bool} {held : Bool} {r : Reach}
/-- A slice, opened: each element's cells obey R. -/
theorem trod_rows {Z : Type} [Nonempty Z] {te ts : TypeId} {z bz : Nat} (hu : Tryz.prog.underlying ts = some (.slice te)) (hC : Tryz.prog.cellsOf te = z) (hz0 : 0 < z) (hBy : Tryz.prog.bytesOf te = bz) (hb1 : 1 ≤ bz) (R : Z → List Value → Prop)
    (hstep : ∀ f cs x, DataW.trod enc Tryz.prog w base spare held f te cs = some x → (∀ n ∈ x.1.weights Tryz.prog te, n ≤ reachBytes) → ∃ t, R t cs)
    {fuel : Nat} {c3 : Value} {y : DataW H × List MemPlace} (h3 : DataW.trod enc Tryz.prog w base spare held fuel ts [c3] = some y) (hz : ∀ n ∈ y.1.weights Tryz.prog ts, n ≤ reachBytes) :
    ∃ (A : Option Addr) (k c : Nat) (g : Nat → Z), c3 = .slice A k c ∧ k < 4611686018427387904 ∧ SlA A k c ∧ (∀ i, i < k → ∃ cs, R (g i) cs) ∧
      (0 < k → ∃ b o, A = some ⟨b, o, none⟩ ∧ b < w.heap.size ∧ ∀ i, i < k → ∃ cs, cs.length = z ∧ R (g i) cs ∧ ∀ j u, cs[j]? = some u → w.cell? ⟨b, o + i * z + j, none⟩ = some u) := by
  have hR : reachBytes < 140737488355328 := by decide
  rcases DataW.trod_slice (e := te) hu h3 with ⟨hcs, _⟩ | ⟨a, len, cap', elems, rest, f, hf, hcs, hx, hb, hl, hm, hlen, hel, _, _⟩
  · have e3 : c3 = .slice none 0 0 := by simpa using hcs
    subst e3
    exact ⟨none, 0, 0, fun _ => Classical.choice inferInstance, rfl, by omega, ⟨fun _ => ⟨rfl, rfl⟩, Nat.le_refl _, Nat.zero_le _⟩, fun i hi => by omega, fun h => by omega⟩
  · have e3 : c3 = .slice (some a) len cap' := by simpa using hcs
    subst e3
    have hzs := hz
    rw [hx] at hzs
    simp only [DataW.weights, hu] at hzs
    have bl : len < 4611686018427387904 := by
      have h8 := hzs _ List.mem_cons_self
      rw [hBy, List.length_map, hlen] at h8
      have h9 : len * 1 ≤ (len + (List.map (fun x => x.1) rest).length) * bz := Nat.mul_le_mul (Nat.le_add_right _ _) hb1
      omega
    have key : ∀ i, i < len → ∃ (t : Z) (cs : List Value), cs.length = z ∧ R t cs ∧ ∀ j u, cs[j]? = some u → w.cell? ((a.add (i * z)).add j) = some u := by
      intro i hin
      have hi := hel i hin
      rw [List.getElem?_eq_getElem (by omega)] at hi
      obtain ⟨cs', hc, ht⟩ := Option.bind_eq_some_iff.1 hi
      have hz2 : ∀ n ∈ (elems[i]'(by omega)).1.weights Tryz.prog te, n ≤ reachBytes := fun n hn => by
        apply hzs
        refine List.mem_cons_of_mem _ (List.mem_append_left _ (weights_mem_all hn ?_))
        exact List.mem_map.2 ⟨_, List.getElem_mem _, rfl⟩
      obtain ⟨t, ht⟩ := hstep f cs' _ ht hz2
      rw [hC] at hc
      obtain ⟨_, hcl, hat⟩ := World.cells?_some hc
      refine ⟨t, cs', hcl, ht, fun j u hu => ?_⟩
      have hj := (List.getElem?_eq_some_iff.1 hu).1
      rw [hat j (by omega)]; exact hu
    have key2 : ∀ i, ∃ t : Z, i < len → ∃ cs : List Value, cs.length = z ∧ R t cs ∧ ∀ j u, cs[j]? = some u → w.cell? ((a.add (i * z)).add j) = some u := fun i => by
      by_cases hin : i < len
      · obtain ⟨t, h5⟩ := key i hin
        exact ⟨t, fun _ => h5⟩
      · exact ⟨Classical.choice inferInstance, fun h => absurd h hin⟩
    obtain ⟨g, hg⟩ : ∃ g : Nat → Z, ∀ i, i < len → ∃ cs : List Value, cs.length = z ∧ R (g i) cs ∧ ∀ j u, cs[j]? = some u → w.cell? ((a.add (i * z)).add j) = some u :=
      ⟨fun i => Classical.choose (key2 i), fun i => Classical.choose_spec (key2 i)⟩
    refine ⟨some a, len, cap', g, rfl, bl, ⟨(fun h => by cases h), hl, hm⟩, fun i hi => by obtain ⟨cs, _, h, _⟩ := hg i hi; exact ⟨cs, h⟩, fun h0 => ?_⟩
    obtain ⟨cs, hcl, _, hat⟩ := hg 0 h0
    have hc0 : cs[0]? = some (cs[0]'(by omega)) := List.getElem?_eq_getElem _
    have z1 : w.cell? a = some (cs[0]'(by omega)) := by
      have := hat 0 _ hc0
      simpa [Addr.add] using this
    have hsp := World.cell?_spot z1
    obtain ⟨ab, ao, sp⟩ := a
    simp only at hsp
    subst hsp
    refine ⟨ab, ao, rfl, World.block_lt_of_cell? w _ z1, fun i hin => ?_⟩
    obtain ⟨cs, hcl, hr, hat⟩ := hg i hin
    refine ⟨cs, hcl, hr, fun j u hj => ?_⟩
    have := hat j u hj
    rw [addr_add, addr_add] at this
    exact this
set_option maxRecDepth 100000 in
theorem trod_pair (fuel : Nat) (L : List Value) (x : DataW H × List MemPlace) (h : DataW.trod enc Tryz.prog w base spare held fuel 68 L = some x) (hz : ∀ n ∈ x.1.weights Tryz.prog 68, n ≤ reachBytes) :
    ∃ p : PR, ∃ A c, L = (prC p A c).toList ∧ p.t.ok ∧ (-9223372036854775808 ≤ p.id ∧ p.id ≤ 9223372036854775807) ∧ IsL w anyQ p.t A := by
  obtain ⟨ys, n', hn', hy, hlen, hyl, hfl⟩ := DataW.trod_struct Tryz.underlying68 h
  have hd : x.1 = .agg (ys.map (·.1)) := by rw [hy]
  have hz' : ∀ n ∈ DataW.weightsEach Tryz.prog [3, 47] (ys.map (·.1)), n ≤ reachBytes := by
    intro n hn
    apply hz
    rw [hd]
    simp only [DataW.weights, Tryz.underlying68]
    exact hn
  clear h hz hd hy
  have k1 : Tryz.prog.cellsOf 3 = 1 := by kernel_rfl
  have k2 : Tryz.prog.cellsOf 47 = 5 := by kernel_rfl
  match L, hlen with
  | [c0, c1, c2, c3, c4, c5], _ =>
    obtain ⟨y0, y1, rfl⟩ : ∃ y0 y1, ys = [y0, y1] := by clear hz' hfl; match ys, hyl with | [a, b], _ => exact ⟨a, b, rfl⟩
    have h0 : DataW.trod enc Tryz.prog w base spare held n' 3 [c0] = some y0 := fldB k1 (hfl 0 _ rfl)
    have h1 : DataW.trod enc Tryz.prog w base spare held n' 47 [c1, c2, c3, c4, c5] = some y1 := fldB k2 (hfl 1 _ rfl)
    clear hfl
    obtain ⟨id, e0, _, w0⟩ := DataW.trod_int (k := .i64) (by kernel_rfl) h0
    have q0 : c0 = .int .i64 id := by have : [c0] = [Value.int .i64 id] := e0; simpa using this
    subst q0
    have b0 : -9223372036854775808 ≤ id ∧ id ≤ 9223372036854775807 := by simpa [Lit.wf, IntKind.min, IntKind.max, IntKind.signed, IntKind.bits] using w0
    obtain ⟨t, A, c, e, hok, hL⟩ := trod_item n' _ _ h1 (fun n hn => hz' n (DataW.weights_mem_each (j := 1) rfl rfl n hn))
    simp only [List.cons.injEq, and_true] at e
    obtain ⟨rfl, rfl, rfl, rfl, rfl⟩ := e
    exact ⟨⟨id, t⟩, A, c, rfl, hok, b0, hL⟩
set_option maxRecDepth 100000 in
theorem trod_pairs {fuel : Nat} {c3 : Value} {y : DataW H × List MemPlace} (h3 : DataW.trod enc Tryz.prog w base spare held fuel 26 [c3] = some y) (hz : ∀ n ∈ y.1.weights Tryz.prog 26, n ≤ reachBytes) :
    ∃ (A : Option Addr) (c : Nat) (p : PL), c3 = .slice A p.k c ∧ p.wf ∧ PsL w anyQ A p ∧ SlA A p.k c := by
  haveI : Nonempty PR := ⟨⟨0, T.nil⟩⟩
  obtain ⟨A, k, c, g, rfl, hk, hs, hall, hcs⟩ := trod_rows (Z := PR) (by kernel_rfl) (by kernel_rfl : Tryz.prog.cellsOf 68 = 6) (by decide) (by kernel_rfl : Tryz.prog.bytesOf 68 = 72) (by decide)
    (fun p L => ∃ A c, L = (prC p A c).toList ∧ p.t.ok ∧ (-9223372036854775808 ≤ p.id ∧ p.id ≤ 9223372036854775807) ∧ IsL w anyQ p.t A) trod_pair h3 hz
  refine ⟨A, c, ⟨k, g⟩, rfl, ⟨hk, fun i hi => by obtain ⟨cs, A', c', _, h1, h2, _⟩ := hall i hi; exact ⟨h1, h2⟩⟩, fun h0 => ?_, hs⟩
  obtain ⟨b, o, rfl, hb, hc⟩ := hcs h0
  refine ⟨b, o, rfl, hb, trivial, fun i hi => ?_⟩
  obtain ⟨cs, _, ⟨A', c', rfl, _, _, hL⟩, hat⟩ := hc i hi
  exact ⟨A', c', ⟨hat 0 _ rfl, hat 1 _ rfl, hat 2 _ rfl, hat 3 _ rfl, hat 4 _ rfl, hat 5 _ rfl⟩, hL⟩
set_option maxRecDepth 100000 in
theorem trod_ints {fuel : Nat} {c3 : Value} {y : DataW H × List MemPlace} (h3 : DataW.trod enc Tryz.prog w base spare held fuel 22 [c3] = some y) (hz : ∀ n ∈ y.1.weights Tryz.prog 22, n ≤ reachBytes) :
    ∃ (A : Option Addr) (k c : Nat) (f : Nat → Int), c3 = .slice A k c ∧ k < 4611686018427387904 ∧ (∀ i, i < k → -9223372036854775808 ≤ f i ∧ f i ≤ 9223372036854775807) ∧ NsL w A k f ∧ SlA A k c := by
  obtain ⟨A, k, c, g, rfl, hk, hs, hall, hcs⟩ := trod_rows (Z := Int) (by kernel_rfl) (by kernel_rfl : Tryz.prog.cellsOf 3 = 1) (by decide) (by kernel_rfl : Tryz.prog.bytesOf 3 = 8) (by decide)
    (fun n L => L = [.int .i64 n] ∧ -9223372036854775808 ≤ n ∧ n ≤ 9223372036854775807) (fun f cs x h _ => by
      obtain ⟨n, e0, _, w0⟩ := DataW.trod_int (k := .i64) (by kernel_rfl) h
      exact ⟨n, e0, by simpa [Lit.wf, IntKind.min, IntKind.max, IntKind.signed, IntKind.bits] using w0⟩) h3 hz
  refine ⟨A, k, c, g, rfl, hk, fun i hi => by obtain ⟨cs, _, h⟩ := hall i hi; exact h, fun h0 => ?_, hs⟩
  obtain ⟨b, o, rfl, hb, hc⟩ := hcs h0
  refine ⟨b, o, rfl, hb, fun i hi => ?_⟩
  obtain ⟨cs, _, ⟨rfl, _⟩, hat⟩ := hc i hi
  have := hat 0 _ rfl
  rw [Nat.mul_one, Nat.add_zero] at this
  exact this
set_option maxRecDepth 100000 in
theorem trod_ress {fuel : Nat} {c3 : Value} {y : DataW H × List MemPlace} (h3 : DataW.trod enc Tryz.prog w base spare held fuel 27 [c3] = some y) (hz : ∀ n ∈ y.1.weights Tryz.prog 27, n ≤ reachBytes) :
    ∃ (A : Option Addr) (k c : Nat) (f : Nat → PL), c3 = .slice A k c ∧ k < 4611686018427387904 ∧ (∀ i, i < k → (f i).wf) ∧ RsL w anyQ A k f ∧ SlA A k c := by
  haveI : Nonempty PL := ⟨⟨0, fun _ => ⟨0, T.nil⟩⟩⟩
  obtain ⟨A, k, c, g, rfl, hk, hs, hall, hcs⟩ := trod_rows (Z := PL) (by kernel_rfl) (by kernel_rfl : Tryz.prog.cellsOf 26 = 1) (by decide) (by kernel_rfl : Tryz.prog.bytesOf 26 = 24) (by decide)
    (fun p L => ∃ A c, L = [.slice A p.k c] ∧ p.wf ∧ PsL w anyQ A p ∧ p.k ≤ c) (fun f cs x h hw => by
      match cs, DataW.trod_slice (e := 68) (by kernel_rfl) h with
      | _, .inl ⟨rfl, _⟩ =>
        obtain ⟨A, c, p, e, h1, h2, h3⟩ := trod_pairs h hw
        exact ⟨p, A, c, by rw [e], h1, h2, h3.2.1⟩
      | _, .inr ⟨a, len, cap', elems, rest, f', _, rfl, _⟩ =>
        obtain ⟨A, c, p, e, h1, h2, h3⟩ := trod_pairs h hw
        exact ⟨p, A, c, by rw [e], h1, h2, h3.2.1⟩) h3 hz
  refine ⟨A, k, c, g, rfl, hk, fun i hi => by obtain ⟨cs, _, _, _, h, _⟩ := hall i hi; exact h, fun h0 => ?_, hs⟩
  obtain ⟨b, o, rfl, hb, hc⟩ := hcs h0
  refine ⟨b, o, rfl, hb, trivial, fun i hi => ?_⟩
  obtain ⟨cs, _, ⟨A', c', rfl, _, hP, hkc⟩, hat⟩ := hc i hi
  have := hat 0 _ rfl
  rw [Nat.mul_one, Nat.add_zero] at this
  exact ⟨A', c', this, hkc, hP⟩
set_option maxRecDepth 100000 in
/-- An argument []asb.Pair, opened. -/
theorem open_apairs {v : Value} {d : DataW H} {q : List MemPlace} (hval : Value.okWide Tryz.prog w r b0 26 v) (h : DataW.Trod enc Tryz.prog w base spare held 26 v d q) (hz : ∀ n ∈ d.weights Tryz.prog 26, n ≤ reachBytes) :
    ∃ (A : Option Addr) (c : Nat) (p : PL), v = .slice A p.k c ∧ p.wf ∧ PsL w anyQ A p ∧ SlA A p.k c := by
  obtain ⟨fuel, hf⟩ := h
  obtain ⟨a, n, c, rfl⟩ := okWide_slice Tryz.underlying26 hval
  have hf' : DataW.trod enc Tryz.prog w base spare held fuel 26 [.slice a n c] = some (d, q) := hf
  exact trod_pairs hf' hz
set_option maxRecDepth 100000 in
/-- An argument asb.ASB, opened. -/
theorem open_asb {v : Value} {d : DataW H} {q : List MemPlace} (hval : Value.okWide Tryz.prog w r b0 29 v) (h : DataW.Trod enc Tryz.prog w base spare held 29 v d q) (hz : ∀ n ∈ d.weights Tryz.prog 29, n ≤ reachBytes) :
    ∃ (a : AV) (m : AA), v = asbV a m ∧ a.wf ∧ AsL w anyQ a m ∧ SlA m.t a.tk m.tc ∧ SlA m.p a.ps.k m.pc ∧ SlA m.r a.rk m.rc := by
  obtain ⟨cs, rfl, hsz⟩ := okWide_struct Tryz.underlying29 hval
  obtain ⟨fuel, hf⟩ := h
  obtain ⟨ys, n', hn', hy, hlen, hyl, hfl⟩ := DataW.trod_struct Tryz.underlying29 hf
  have hcs : (Value.agg cs).cells.toList = cs.toList := rfl
  rw [hcs] at hlen hfl
  obtain ⟨L, hL⟩ : ∃ L, L = cs.toList := ⟨_, rfl⟩
  rw [← hL] at hlen hfl
  have hcsL : cs = L.toArray := by rw [hL]
  subst hcsL
  have hd : d = .agg (ys.map (·.1)) := by simpa using congrArg Prod.fst hy
  have hz' : ∀ n ∈ DataW.weightsEach Tryz.prog [22, 3, 25, 26, 27] (ys.map (·.1)), n ≤ reachBytes := by
    intro n hn
    apply hz
    rw [hd]
    simp only [DataW.weights, Tryz.underlying29]
    exact hn
  clear hL hcs hf hval hsz hz
  have k0 : Tryz.prog.cellsOf 22 = 1 := by kernel_rfl
  have k1 : Tryz.prog.cellsOf 3 = 1 := by kernel_rfl
  have k2 : Tryz.prog.cellsOf 25 = 4 := by kernel_rfl
  have k3 : Tryz.prog.cellsOf 26 = 1 := by kernel_rfl
  have k4 : Tryz.prog.cellsOf 27 = 1 := by kernel_rfl
  match L, hlen with
  | [c0, c1, c2, c3, c4, c5, c6, c7], _ =>
    obtain ⟨y0, y1, y2, y3, y4, rfl⟩ : ∃ y0 y1 y2 y3 y4, ys = [y0, y1, y2, y3, y4] := by clear hd hz' hy hfl; match ys, hyl with | [a, b, c, d, e], _ => exact ⟨a, b, c, d, e, rfl⟩
    have h0 : DataW.trod enc Tryz.prog w base spare held n' 22 [c0] = some y0 := fldB k0 (hfl 0 _ rfl)
    have h1 : DataW.trod enc Tryz.prog w base spare held n' 3 [c1] = some y1 := fldB k1 (hfl 1 _ rfl)
    have h2 : DataW.trod enc Tryz.prog w base spare held n' 25 [c2, c3, c4, c5] = some y2 := fldB k2 (hfl 2 _ rfl)
    have h3 : DataW.trod enc Tryz.prog w base spare held n' 26 [c6] = some y3 := fldB k3 (hfl 3 _ rfl)
    have h4 : DataW.trod enc Tryz.prog w base spare held n' 27 [c7] = some y4 := fldB k4 (hfl 4 _ rfl)
    clear hfl
    obtain ⟨At, tk, tc, tg, rfl, ht1, ht2, ht3, ht4⟩ := trod_ints h0 (fun n hn => hz' n (DataW.weights_mem_each (j := 0) rfl rfl n hn))
    obtain ⟨cx, e1, _, w1⟩ := DataW.trod_int (k := .i64) (by kernel_rfl) h1
    have q1 : c1 = .int .i64 cx := by have : [c1] = [Value.int .i64 cx] := e1; simpa using this
    subst q1
    have b1 : -9223372036854775808 ≤ cx ∧ cx ≤ 9223372036854775807 := by simpa [Lit.wf, IntKind.min, IntKind.max, IntKind.signed, IntKind.bits] using w1
    obtain ⟨E, e2, s2, n2, x2⟩ := trod_eid h2
    obtain ⟨nm, enm, hnm⟩ : ∃ s : List UInt8, E.name = s ∧ s.length < 4611686018427387904 := by
      obtain ⟨zs, m', _, hy2, hl2, hyl2, hfl2⟩ := DataW.trod_struct Tryz.underlying25 h2
      have hname := field_at (by kernel_rfl) hfl2 (i := 1) rfl rfl
      obtain ⟨z0, z1, z2, z3, rfl⟩ : ∃ z0 z1 z2 z3, zs = [z0, z1, z2, z3] := by clear hy2 hfl2 hname; match zs, hyl2 with | [a, b, c, d], _ => exact ⟨a, b, c, d, rfl⟩
      obtain ⟨s, hs, hsd, _⟩ := DataW.trod_string (by kernel_rfl) hname
      have hs' : c3 = .string s := by have : [c3] = [Value.string s] := hs; simpa using this
      have e3 : c3 = str E.name := by simp only [List.cons.injEq, and_true] at e2; exact e2.2.1
      have hsE : s.data.toList = E.name := by
        rw [hs'] at e3
        simp only [Value.string.injEq] at e3
        rw [e3]
      have hw := hz' s.data.toList.length (DataW.weights_mem_each (j := 2) rfl rfl _ (by
        have hy2' : y2.1 = .agg ([z0, z1, z2, z3].map (·.1)) := by rw [hy2]
        show s.data.toList.length ∈ DataW.weights Tryz.prog 25 y2.1
        rw [hy2']
        simp only [DataW.weights, Tryz.underlying25]
        exact DataW.weights_mem_each (j := 1) rfl (show _ = some (DataW.lit (.string s.data.toList)) by
          simp only [List.map, List.getElem?_cons_succ, List.getElem?_cons_zero]; rw [hsd]) _ (by simp [DataW.weights])))
      have hR : reachBytes < 140737488355328 := by decide
      exact ⟨E.name, rfl, by rw [← hsE]; omega⟩
    simp only [List.cons.injEq, and_true] at e2
    obtain ⟨rfl, rfl, rfl, rfl⟩ := e2
    obtain ⟨Ap, pc, p, rfl, hp1, hp2, hp3⟩ := trod_pairs h3 (fun n hn => hz' n (DataW.weights_mem_each (j := 3) rfl rfl n hn))
    obtain ⟨Ar, rk, rc, rs, rfl, hr1, hr2, hr3, hr4⟩ := trod_ress h4 (fun n hn => hz' n (DataW.weights_mem_each (j := 4) rfl rfl n hn))
    exact ⟨⟨tk, tg, cx, E, p, rk, rs⟩, ⟨At, tc, Ap, pc, Ar, rc⟩, rfl, ⟨⟨ht1, ht2⟩, b1, by rw [enm]; exact hnm, hp1, hr1, hr2⟩, ⟨ht3, fun _ _ _ _ => trivial, hp2, hr3⟩, ht4, hp3, hr4⟩
end
end Go.Proofs.YtblfmokklfhklaaGreatDoor
