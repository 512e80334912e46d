/-
 All operations of a bundle, as the code lists them; is a block sealed?
-/
import Derived.Test.YtmckfdmdkljomaaGreatDoorMMixLessCardax
import Derived.Test.YtmckfdmdkljomaaGreatDoorMMixLessCarday
import Derived.Test.YtmckfdmdkljomaaGreatDoorMMixLessCardaz
import Derived.Laws.AppendOwnNone
namespace Go.Proofs.YtmckfdmdkljomaaGreatDoor
open Go.RowKit Go.Shelf
set_option linter.unusedVariables false
set_option linter.unusedSimpArgs false
theorem entersO1 : ∀ args w, (callFunc 45 args).run Tryz.prog w = .ok (.enter 45 args) w := enters_of Tryz.func45 (by kernel_rfl) rfl
theorem entersO2 : ∀ args w, (callFunc 46 args).run Tryz.prog w = .ok (.enter 46 args) w := enters_of Tryz.func46 (by kernel_rfl) rfl
set_option maxRecDepth 20000 in
theorem Ops1_any (W : World) (x : BV) : Calls Tryz.prog 45 (#[x.v] ++ #[]) W (Ret (.bool false) W) := by
 obtain ⟨ty, num, fl, crc, data⟩ := x
 show Calls Tryz.prog 45 #[.agg #[.int .i64 ty, .int .i64 num, .int .u64 (fl : Int), .int .i64 crc, str data]] W (Ret (.bool false) W)
 go_enter Tryz.func45, Tryz.ntmps45
 go_wp2
 go_ret
 exact Ret.mk rfl ((Mod.refl _ _).alloc _)
theorem among_under (s : List OV) (x : BV) : amongB (opN s) s.length 2 x.num = underB s x := by
 unfold amongB
 rw [Bool.eq_iff_iff, firstSome_iff, underB_iff]
 unfold sameKT
 constructor
 .
  rintro ⟨j, hj, e⟩
  simp at e
  exact ⟨_, opN_mem hj, e.1, e.2⟩
 .
  rintro ⟨o, ho, h1, h2⟩
  obtain ⟨j, hj, rfl⟩ := List.getElem_of_mem ho
  exact ⟨j, hj, by rw [opN_get hj]; simp [h1, h2]⟩
set_option maxRecDepth 20000 in
theorem Ops2_any (s : List OV) (hs : s.length <= 1000000) (A : Option Addr) (c q : Nat) {t : TypeId} (w : World) (hq : Blk w q t #[.slice A s.length c]) (ho : OsL w A s.length (opN s)) (W : World) (x : BV) (hb : Ext w W) : Calls Tryz.prog 46 (#[x.v] ++ #[.pointer (some ⟨q, 0, none⟩)]) W (Ret (.bool (underB s x)) W) := by
 have KA := hid (fun W' (hW : Ext w W') => among_any A (opN s) s.length c 2 x.num (by omega) W' (ho.ext hW))
 rw [among_under] at KA
 generalize underB s x = B at *
 obtain ⟨ty, num, fl, crc, data⟩ := x
 have HQ := hid ((hq.ext hb).alloc (.cells #[.int .i64 ty, .int .i64 num, .int .u64 (fl : Int), .int .i64 crc, str data] 45))
 have HX := hid (Blk.new W 45 #[.int .i64 ty, .int .i64 num, .int .u64 (fl : Int), .int .i64 crc, str data])
 have HE := hid (hb.alloc (.cells #[.int .i64 ty, .int .i64 num, .int .u64 (fl : Int), .int .i64 crc, str data] 45))
 have HEW := hid ((Mod.refl [] W).alloc (.cells #[.int .i64 ty, .int .i64 num, .int .u64 (fl : Int), .int .i64 crc, str data] 45))
 generalize s.length = n at *
 clear hq ho hb hs
 show Calls Tryz.prog 46 #[.agg #[.int .i64 ty, .int .i64 num, .int .u64 (fl : Int), .int .i64 crc, str data], .pointer (some ⟨q, 0, none⟩)] W (Ret (.bool B) W)
 go_enter Tryz.func46, Tryz.ntmps46
 go_upto_region 1 with fail
 generalize W.alloc _ = V at *
 have q0 : V.cell? ⟨q, 0, none⟩ = some (.slice A n c) := HQ.out.cell 0
 have x1 : V.cell? ⟨W.heap.size, 1, none⟩ = some (.int .i64 num) := HX.out.cell 1
 go_wp2_with (go_at_call 47; refine (KA.out _ HE.out).mono ?_; rintro y w2 ⟨rfl, hb2⟩)
 go_ret
 exact Ret.mk rfl (HEW.out.trans hb2)
def OpsPost (bs : Nat -> BV) (k : Nat) (w : World) (e : Ending) (w' : World) : Prop :=
 (opsF bs k = none /\ e = .returned (.tuple #[.slice none 0 0, .int .i64 2]) /\ Ext w w') \/
 (∃ L A c, opsF bs k = some L /\ e = .returned (.tuple #[.slice A L.length c, .int .i64 0]) /\ Ext w w' /\ OpR w' w.heap.size A c L)
theorem opF_cat (s t : List OV) : ∀ m, m <= t.length -> flatG (opF (s ++ t)) (s.length + m) = flatG (opF s) s.length ++ flatG (opF t) m := by
 intro m
 induction m with
 | zero =>
  intro _
  rw [Nat.add_zero, flatG_congr (g := opF s) (fun j hj => by unfold opF; rw [opN_snoc hj])]
  simp [flatG]
 | succ m ih =>
  intro hm
  rw [<- Nat.add_assoc, flatG, ih (by omega), flatG, List.append_assoc]
  congr 2
  unfold opF opN
  rw [List.getD_eq_getElem?_getD, List.getD_eq_getElem?_getD, List.getElem?_append_right (by omega)]
  rw [show s.length + m - s.length = m by omega]
theorem OpR.join {W2 : World} {base : Nat} {s t : List OV} {v : Value} (h : W2.ownsRow base 40 3 v (s.length + t.length) (flatG (opF s) s.length ++ flatG (opF t) t.length)) : ∃ A c, v = .slice A (s ++ t).length c /\ OpR W2 base A c (s ++ t) := by
 rw [<- opF_cat s t _ (Nat.le_refl _), <- List.length_append] at h
 have h2 := h
 rcases h.2 with ⟨e, e0⟩ | ⟨g, cap, cur, e, _⟩
 .
  rw [e] at h
  exact ⟨none, 0, by rw [e, e0], by unfold OpR; rw [e0] at h ⊢; exact h⟩
 .
  subst e
  exact ⟨some ⟨g, 0, none⟩, cap, rfl, h2⟩
theorem OpR.none {W : World} {base c : Nat} {t : List OV} (h : OpR W base Option.none c t) : t = [] /\ c = 0 := by
 rcases h.2 with ⟨e, e0⟩ | ⟨g, cap, cur, e, _⟩
 .
  simp only [Value.slice.injEq] at e
  exact ⟨List.eq_nil_of_length_eq_zero e0, e.2.2⟩
 .
  simp only [Value.slice.injEq] at e
  cases e.1
theorem OpR.news {W : World} {base c : Nat} {A : Option Addr} {t : List OV} (h : OpR W base A c t) (h0 : 0 < t.length) : ∃ a : Addr, A = some a /\ ∀ j u, (flatG (opF t) t.length)[j]? = some u -> W.cell? (a.add j) = some u := by
 obtain ⟨g, hA, _, _, _⟩ := h.cells h0
 subst hA
 exact ⟨_, rfl, fun j u hu => World.ownsRow.cells h (g := g) rfl j u hu⟩
theorem opF_one (t : List OV) : ∀ u ∈ flatG (opF t) t.length, u.oneCell' = true := flatG_one (by decide) (opF_len t) (fun i u hu => by simp [opF, OV.l] at hu; rcases hu with rfl | rfl | rfl <;> rfl) _
theorem wpList_append_O {w : World} {ops : Array Oper} {rest : List Oper} {o : Oper} {a : Act} {Q : Exit -> Act -> World -> Prop} (hgd : o.guard = none) (s x : Operand)
  (ho : o.op = .call { callee := .builtin .append, args := #[s, x], argTypes := #[48, 48] })
  (base b2 : Nat) (A1 A2 : Option Addr) (c1 c2 : Nat) (l t : List OV) (hs : a.eval s = .slice A1 l.length c1) (hown : OpR w base A1 c1 l) (hx : a.eval x = .slice A2 t.length c2) (h2 : OpR w b2 A2 c2 t) (hnm : l.length + t.length <= 1000000) (hb : base <= w.heap.size)
  (h : ∀ A' c' w', OpR w' base A' c' (l ++ t) -> w.grownBy w' (Value.slice A1 l.length c1).ownBlock -> wpList Tryz.prog ops Q rest (a.put o.dst (.slice A' (l ++ t).length c')) w') : wpList Tryz.prog ops Q (o :: rest) a w := by
 obtain ⟨i0, hi, hz0, hz1, hz2⟩ := info_parts infoOp
 cases A2 with
 | none =>
  obtain ⟨rfl, rfl⟩ := h2.none
  refine wpList_append_own_none hgd s x 48 ho base 40 i0 3 Tryz.underlying48 hi _ l.length (flatG (opF l) l.length) hs hown hx ?_
  have := h A1 c1 w (by rw [List.append_nil]; exact hown) ⟨rfl, rfl, rfl, Nat.le_refl _, fun _ _ _ => rfl⟩
  rw [List.append_nil] at this
  exact this
 | some ad =>
  have hnews : ∀ j u, (flatG (opF t) t.length)[j]? = some u -> w.cell? (ad.add j) = some u := by
   intro j u hj
   have hm : 0 < t.length := by
    rcases Nat.eq_zero_or_pos t.length with e | e
    . rw [e] at hj; simp [flatG] at hj
    . exact e
   obtain ⟨a', hA, hc⟩ := h2.news hm
   cases hA
   exact hc j u hj
  refine wpList_append_own _ hgd s x 48 ho base 40 i0 _ 3 24 Tryz.underlying48 hi hz0 hz1 hz2 rfl (by decide) _ l.length (flatG (opF l) l.length) hs hown ad t.length c2 (flatG (opF t) t.length) hx (flatG_length (opF_len t) _) hnews (opF_one t) (by unfold maxLen; omega) (by omega) hb fun v' w' h1 h3 _ => ?_
  obtain ⟨A', c', rfl, hr⟩ := OpR.join h1
  exact h A' c' w' hr h3
set_option maxRecDepth 20000 in
set_option maxHeartbeats 4000000 in
theorem Ops_any (p : PV) (bs : Nat -> BV) (k c : Nat) (A : Option Addr) (eb : Addr) (hk : k <= 1000) (hd : ∀ i, i < k -> (bs i).data.length <= 10000) (w : World) (hf : FormAt w eb) (h : BsL w A k bs) :
  Calls Tryz.prog 17 #[bunV p A k c] w (OpsPost bs k w) := by
 have K1 := hid (fun W (hW : Ext w W) => ops_any p bs k c A 12 2 2 45 #[] (fun _ => false) eb entersO1 hk hd W (hf.ext hW) (h.ext hW) (hid (fun W' x _ => Ops1_any W' x)))
 have K2 := hid (fun (s : List OV) (hs : s.length <= 1000000) As cs q W (t : TypeId) (hW : Ext w W) (hq : Blk W q t #[.slice As s.length cs]) (ho : OsL W As s.length (opN s)) => ops_any p bs k c A 11 1 1 46 #[.pointer (some ⟨q, 0, none⟩)] (underB s) eb entersO2 hk hd W (hf.ext hW) (h.ext hW) (hid (fun W' x hE => Ops2_any s hs As cs q W hq ho W' x hE)))
 have HK := hid hk
 clear hd
 have HE := hid ((Mod.refl [] w).alloc (.cells (bunC p A k c) 29))
 have HB0 : Hid (Blk (w.alloc (.cells (bunC p A k c) 29)) w.heap.size 29 (bunC p A k c)) := hid (Blk.new w 29 (bunC p A k c))
 clear h hk hf
 go_enter Tryz.func17, Tryz.ntmps17
 go_upto_region 1 with fail
 generalize (w.alloc (.cells (bunC p A k c) 29)) = V at *
 obtain ⟨e, he⟩ := Later.self V
 rw [he]
 clear he
 have tk1 : True := trivial
 cases h1 : opsL 12 2 2 (fun _ => false) bs k with
 | none =>
  have HN : Hid (opsF bs k = none) := hid (by unfold opsF; rw [h1])
  have K : Hid (∀ W, Ext w W -> Calls Tryz.prog 44 #[bunV p A k c, .int .i64 12, .int .i64 2, .int .i64 2, .func (.func 45) #[] #[]] W (fun e w' => e = .returned (.tuple #[.slice none 0 0, .int .i64 2]) /\ Ext W w')) := hid (fun W hW => (K1.out W hW).mono fun e w' hh => by
   rcases hh with ⟨_, h2, h3⟩ | ⟨L, _, _, h2, _⟩
   . exact ⟨h2, h3⟩
   . rw [h1] at h2; cases h2)
  clear h1 K1 K2
  go_wp2_with (first | (clear tk1; refine wpList_row (by rfl) 29 _ rfl _ rfl (HB0.out.later _) vqA rfl (by kernel_rfl) ?_) | (go_at_call 44; refine (K.out _ (HE.out.trans (Later.h _))).mono ?_; rintro y w3 ⟨rfl, hb3⟩; have HX := hid (e.h.trans hb3); clear hb3))
  go_ret2
  exact .inl ⟨HN.out, rfl, HE.out.trans (HX.out.alloc _)⟩
 | some s =>
 have HS1 := hid h1
 have HSL : Hid (s.length <= 16000) := hid (by have := opsL_len h1; have := HK.out; omega)
 have K : Hid (∀ W, Ext w W -> Calls Tryz.prog 44 #[bunV p A k c, .int .i64 12, .int .i64 2, .int .i64 2, .func (.func 45) #[] #[]] W (fun e w' => ∃ A1 c1, e = .returned (.tuple #[.slice A1 s.length c1, .int .i64 0]) /\ Ext W w' /\ OpR w' W.heap.size A1 c1 s)) := hid (fun W hW => (K1.out W hW).mono fun e w' hh => by
  rcases hh with ⟨h2, _⟩ | ⟨L, A1, c1, h2, h3, h4, h5⟩
  . rw [h1] at h2; cases h2
  . rw [h1] at h2; cases h2; exact ⟨A1, c1, h3, h4, h5⟩)
 clear h1 K1
 go_upto_region 2 with (first | (clear tk1; refine wpList_row (by rfl) 29 _ rfl _ rfl (HB0.out.later _) vqA rfl (by kernel_rfl) ?_) | (go_at_call 44; refine (K.out _ (HE.out.trans (Later.h _))).mono ?_; rintro y w3 ⟨A1, c1, rfl, hb3, hr3⟩; have HX := hid (e.h.trans hb3); have HR3 := hid (OpR.low hr3 (b2 := w.heap.size) (Nat.le_trans HE.out.size (Later.h e).size)); clear hb3 hr3))
 generalize hU : World.alloc w3 _ = U
 have HQB : Hid (Blk U w3.heap.size 48 #[.slice A1 s.length c1]) := hid (by rw [<- hU]; exact Blk.new _ _ _)
 have HVU : Hid (Ext V U) := hid (by rw [<- hU]; exact HX.out.alloc _)
 have HRU : Hid (OpR U w.heap.size A1 c1 s) := hid (by rw [<- hU]; exact HR3.out.ext ((Mod.refl [] _).alloc _))
 have HQA : Hid (∀ g, A1 = some g -> g.block ≠ w3.heap.size) := hid (fun g hg => by have := (HR3.out.off g hg).2; omega)
 clear hU HX HR3 e K
 generalize w3.heap.size = qb at *
 have HBU := hid (HB0.out.ext HVU.out)
 have HWU := hid (HE.out.trans HVU.out)
 have q0 : ∀ e : Later U, e.x.cell? ⟨qb, 0, none⟩ = some (.slice A1 s.length c1) := HQB.out.cellL 0 rfl
 have K2s := hid (fun W (hW : Ext U W) => K2.out s (by have := HSL.out; omega) A1 c1 qb W _ (HWU.out.trans hW) (HQB.out.ext hW) (HRU.out.ext hW).osl)
 clear K2 HE HB0
 obtain ⟨e, he⟩ := Later.self U
 rw [he]
 clear he
 have tk1 : True := trivial
 cases h2 : opsL 11 1 1 (underB s) bs k with
 | none =>
  have HN : Hid (opsF bs k = none) := hid (by rw [opsF_eq HS1.out, h2]; rfl)
  have K : Hid (∀ W, Ext U W -> Calls Tryz.prog 44 #[bunV p A k c, .int .i64 11, .int .i64 1, .int .i64 1, .func (.func 46) #[] #[.pointer (some ⟨qb, 0, none⟩)]] W (fun e w' => e = .returned (.tuple #[.slice none 0 0, .int .i64 2]) /\ Ext W w')) := hid (fun W hW => (K2s.out W hW).mono fun e w' hh => by
   rcases hh with ⟨_, h3, h4⟩ | ⟨L, _, _, h3, _⟩
   . exact ⟨h3, h4⟩
   . rw [h2] at h3; cases h3)
  clear h2 K2s
  go_wp2_with (first | (clear tk1; refine wpList_row (by rfl) 29 _ rfl _ rfl (HBU.out.later _) vqA rfl (by kernel_rfl) ?_) | (go_at_call 44; refine (K.out _ (Later.h _)).mono ?_; rintro y w3 ⟨rfl, hb3⟩; have HX := hid (e.h.trans hb3); clear hb3))
  go_ret2
  exact .inl ⟨HN.out, rfl, HWU.out.trans HX.out⟩
 | some t =>
 have HF : Hid (opsF bs k = some (s ++ t)) := hid (by rw [opsF_eq HS1.out, h2]; rfl)
 have HTL : Hid (t.length <= 16000) := hid (by have := opsL_len h2; have := HK.out; omega)
 have K : Hid (∀ W, Ext U W -> Calls Tryz.prog 44 #[bunV p A k c, .int .i64 11, .int .i64 1, .int .i64 1, .func (.func 46) #[] #[.pointer (some ⟨qb, 0, none⟩)]] W (fun e w' => ∃ A2 c2, e = .returned (.tuple #[.slice A2 t.length c2, .int .i64 0]) /\ Ext W w' /\ OpR w' W.heap.size A2 c2 t)) := hid (fun W hW => (K2s.out W hW).mono fun e w' hh => by
  rcases hh with ⟨h3, _⟩ | ⟨L, A1, c1, h3, h4, h5, h6⟩
  . rw [h2] at h3; cases h3
  . rw [h2] at h3; cases h3; exact ⟨A1, c1, h4, h5, h6⟩)
 clear h2 K2s
 go_upto_region 7 with (first | (clear tk1; refine wpList_row (by rfl) 29 _ rfl _ rfl (HBU.out.later _) vqA rfl (by kernel_rfl) ?_) | (go_at_call 44; refine (K.out _ (Later.h _)).mono ?_; rintro y w3 ⟨A2, c2, rfl, hb3, hr3⟩; have HX := hid (e.h.trans hb3); have HT3 := hid (OpR.low hr3 (b2 := w.heap.size) (Nat.le_trans HWU.out.size (Later.h e).size)); clear hb3 hr3))
 have q3 : w3.cell? ⟨qb, 0, none⟩ = some (.slice A1 s.length c1) := q0 ⟨w3, HX.out⟩
 have HR3 := hid (HRU.out.ext HX.out)
 have HW3 := hid (HWU.out.trans HX.out)
 have HT4 := HT3
 go_wp2_with (at_builtin; refine wpList_append_O (by rfl) _ _ (by rfl) w.heap.size w.heap.size A1 A2 c1 c2 s t (by rfl) HR3.out (by rfl) HT3.out (by have := HSL.out; have := HTL.out; omega) HW3.out.size ?_; intro A' c' w4 hr hgr; have HR4 := hid hr; have HM4 := hid (grown_obs hgr); clear hr hgr)
 go_ret2
 exact .inr ⟨s ++ t, A', c', HF.out, by rw [List.length_append]; rfl, (HW3.out.of_ext.trans HM4.out).new (fun kk hkk => .inr (by
  cases A1 with
  | none => cases hkk
  | some a => have := (HR3.out.off a rfl).1; simp [obs] at hkk; omega)), HR4.out⟩
noncomputable def sealedF (bs : Nat -> BV) (k : Nat) (n : Int) : Bool := match opsF bs k with | some L => amongB (opN L) L.length 2 n | none => false
set_option maxRecDepth 20000 in
theorem Sealed_any (p : PV) (bs : Nat -> BV) (k c : Nat) (A : Option Addr) (eb : Addr) (n : Int) (hk : k <= 1000) (hd : ∀ i, i < k -> (bs i).data.length <= 10000) (w : World) (hf : FormAt w eb) (h : BsL w A k bs) :
  Calls Tryz.prog 20 #[bunV p A k c, .int .i64 n] w (Ret (.bool (sealedF bs k n)) w) := by
 have KO := hid (fun W (hW : Ext w W) => Ops_any p bs k c A eb hk hd W (hf.ext hW) (h.ext hW))
 have HE := hid ((Mod.refl [] w).alloc (.cells (bunC p A k c) 29))
 have HB0 : Hid (Blk (w.alloc (.cells (bunC p A k c) 29)) w.heap.size 29 (bunC p A k c)) := hid (Blk.new w 29 (bunC p A k c))
 have HK := hid hk
 clear h hk hd hf
 go_enter Tryz.func20, Tryz.ntmps20
 go_upto_region 1 with fail
 generalize (w.alloc (.cells (bunC p A k c) 29)) = V at *
 obtain ⟨e, he⟩ := Later.self V
 rw [he]
 clear he
 have tk1 : True := trivial
 cases ho : opsF bs k with
 | none =>
  have HF : Hid (sealedF bs k n = false) := hid (by unfold sealedF; rw [ho])
  have K : Hid (∀ W, Ext w W -> Calls Tryz.prog 17 #[bunV p A k c] W (Ret (.tuple #[.slice none 0 0, .int .i64 2]) W)) := hid (fun W hW => (KO.out W hW).mono fun e w' hh => by
   rcases hh with ⟨_, h2, h3⟩ | ⟨L, _, _, h2, _⟩
   . exact ⟨h2, h3⟩
   . rw [ho] at h2; cases h2)
  clear ho KO
  go_wp2_with (first | (clear tk1; refine wpList_row (by rfl) 29 _ rfl _ rfl (HB0.out.later _) vqA rfl (by kernel_rfl) ?_) | (go_at_call 17; refine (Ret.later (K.out _ (HE.out.trans (Later.h _)))).mono ?_; rintro y _ ⟨rfl, e, rfl⟩))
  go_ret
  exact Ret.mk (by rw [HF.out]; rfl) (HE.out.trans e.h)
 | some L =>
  have HF : Hid (sealedF bs k n = amongB (opN L) L.length 2 n) := hid (by unfold sealedF; rw [ho])
  have HLL : Hid (L.length <= 32000) := hid (by have := opsF_len ho; have := HK.out; omega)
  have K : Hid (∀ W, Ext w W -> Calls Tryz.prog 17 #[bunV p A k c] W (fun e w' => ∃ A1 c1, e = .returned (.tuple #[.slice A1 L.length c1, .int .i64 0]) /\ Ext W w' /\ OsL w' A1 L.length (opN L))) := hid (fun W hW => (KO.out W hW).mono fun e w' hh => by
   rcases hh with ⟨h2, _⟩ | ⟨L, A1, c1, h2, h3, h4, h5⟩
   . rw [ho] at h2; cases h2
   . rw [ho] at h2; cases h2; exact ⟨A1, c1, h3, h4, h5.osl⟩)
  clear ho KO
  go_upto_region 2 with (first | (clear tk1; refine wpList_row (by rfl) 29 _ rfl _ rfl (HB0.out.later _) vqA rfl (by kernel_rfl) ?_) | (go_at_call 17; refine (K.out _ (HE.out.trans (Later.h _))).mono ?_; rintro y w3 ⟨A1, c1, rfl, hb3, ho3⟩; have HX := hid (HE.out.trans (e.h.trans hb3)); have HO3 := hid ho3; clear hb3 ho3))
  have KA := hid (fun W (hW : Ext w3 W) => among_any A1 (opN L) L.length c1 2 n (by have := HLL.out; omega) W (HO3.out.ext hW))
  generalize L.length = m at *
  obtain ⟨e, he⟩ := Later.self w3
  rw [he]
  clear he
  go_wp2_with (go_at_call 47; refine (Ret.later (KA.out _ (Later.h _))).mono ?_; rintro y _ ⟨rfl, e, rfl⟩)
  go_ret
  exact Ret.mk (by rw [HF.out]; rfl) (HX.out.trans e.h)
theorem rulesV_sound (p : PV) (bs : Nat -> BV) (k : Nat) (L : List OV) (h : opsF bs k = some L) : soundF p bs k 0 = rulesV p bs k (opN L) L.length := by
 unfold soundF rulesV rulesAll rulesB wholeB
 rw [if_neg (by decide), h]
 dsimp only
 cases (has p.fl 1 && (firstOf (fun i => safeT (bs i).ty) k).isSome) with
 | true => simp
 | false => simp [Bool.and_assoc]
theorem secO_rng {s : List UInt8} {c : Int} {l : List Int} (h : secO s = some (c, l)) : ∀ t ∈ l, 0 <= t /\ t <= 65535 := by
 have hx : isSec s (c, l) := by
  unfold secO theO at h
  split at h
  .
   rename_i g
   simp only [Option.some.injEq] at h
   rw [<- h]
   exact g.choose_spec
  . cases h
 obtain ⟨a, ⟨h1, h2, h3⟩, e⟩ := hx
 have hsh : a.shaped = true := by
  unfold AV.right at h2
  rw [Bool.and_eq_true] at h2
  exact h2.1
 have e2 : l = (List.range a.tk).map a.tg := congrArg Prod.snd e
 intro t ht
 rw [e2] at ht
 obtain ⟨i, hi, rfl⟩ := List.mem_map.1 ht
 exact unlikeB_coded (AV.shaped_iff.1 hsh).2.1 i (by simpa using hi)
theorem opsL_rng {typ kind ctx : Int} {out : BV -> Bool} {bs : Nat -> BV} : ∀ {k : Nat} {l : List OV}, opsL typ kind ctx out bs k = some l -> ∀ o ∈ l, 0 <= o.tgt /\ o.tgt <= 65535
 | 0, l, h => by rw [opsL] at h; simp only [Option.some.injEq] at h; subst h; simp
 | k + 1, l, h => by
  rw [opsL_step] at h
  cases hl : opsL typ kind ctx out bs k with
  | none => rw [hl] at h; cases h
  | some l0 =>
   rw [hl] at h
   cases hs : stepO typ kind ctx out (bs k) with
   | none => rw [hs] at h; cases h
   | some m =>
    rw [hs] at h
    simp only [Option.bind_some, Option.map_some, Option.some.injEq] at h
    subst h
    intro o ho
    rcases List.mem_append.1 ho with ho | ho
    . exact opsL_rng hl o ho
    .
     unfold stepO at hs
     split at hs
     . cases hs; simp at ho
     .
      split at hs
      .
       rename_i hx
       split at hs
       .
        cases hs
        obtain ⟨t, ht, rfl⟩ := List.mem_map.1 ho
        exact secO_rng hx t ht
       . cases hs
      . cases hs
theorem opsF_rng {bs : Nat -> BV} {k : Nat} {L : List OV} (h : opsF bs k = some L) : ∀ i, i < L.length -> InI (opN L i).kind /\ InI (opN L i).tgt := fun i hi => by
 have hm := opN_mem hi
 have h1 := opsF_kind h _ hm
 have h2 : 0 <= (opN L i).tgt /\ (opN L i).tgt <= 65535 := by
  obtain ⟨s, g, a, b, rfl⟩ := opsF_some h
  rcases List.mem_append.1 hm with ho | ho
  . exact opsL_rng a _ ho
  . exact opsL_rng b _ ho
 unfold InI
 omega
theorem opsF_nums {p : PV} {bs : Nat -> BV} {k : Nat} {L : List OV} (hr : bunRight p bs k = 0) (h : opsF bs k = some L) : ∀ i, i < L.length -> InI (opN L i).num := fun i hi => by
 have hm := opN_mem hi
 have key : ∀ o ∈ L, ∃ j, j < k /\ o.num = (bs j).num := by
  obtain ⟨s, g, a, b, rfl⟩ := opsF_some h
  intro o ho
  rcases List.mem_append.1 ho with ho | ho
  . obtain ⟨j, h1, h2, _⟩ := opsL_from a o ho; exact ⟨j, h1, h2⟩
  . obtain ⟨j, h1, h2, _⟩ := opsL_from b o ho; exact ⟨j, h1, h2⟩
 obtain ⟨j, hj, e⟩ := key _ hm
 have := BV.right_zero ((bok_of hr).br j hj)
 rw [e]
 unfold InI
 omega
set_option maxRecDepth 20000 in
set_option maxHeartbeats 1600000 in
theorem Sound_any (p : PV) (bs : Nat -> BV) (k c : Nat) (A : Option Addr) (eb : Addr) (hnl : Hid (p.d.name.length < 4611686018427387904 /\ p.s.name.length < 4611686018427387904 /\ p.r.name.length < 4611686018427387904)) (hf : p.fl < 18446744073709551616) (hk : k <= 1000) (hd : ∀ i, i < k -> (bs i).data.length <= 10000) (w : World) (hF : FormAt w eb) (h : BsL w A k bs) :
  Calls Tryz.prog 13 #[bunV p A k c] w (Ret (.int .i64 (soundF p bs k (bunRight p bs k))) w) := by
 have KR := hid (fun W (hW : BsL W A k bs) => cBunRight_any p bs k c A hnl hf (by omega) W hW)
 have KO := hid (fun W (hW : Ext w W) => Ops_any p bs k c A eb hk hd W (hF.ext hW) (h.ext hW))
 have KRU : Hid (bunRight p bs k = 0 -> ∀ L Al cl W, opsF bs k = some L -> BsL W A k bs -> OsL W Al L.length (opN L) -> Calls Tryz.prog 30 #[bunV p A k c, .slice Al L.length cl] W (Ret (.int .i64 (rulesV p bs k (opN L) L.length)) W)) := hid (fun hr L Al cl W hL hW hO => rules_all p bs k c A (by omega) (opN L) L.length cl Al (by have := opsF_len hL; omega) hf (by have := opsF_len hL; omega) (opsF_nums hr hL) (fun W' hW' hO' => conce_any p bs k c A (by omega) (opN L) L.length cl Al (by have := opsF_len hL; omega) (by have := opsF_len hL; omega) (opsF_rng hL) W' hW' hO') W hW hO)
 have HE := hid ((Mod.refl [] w).alloc (.cells (bunC p A k c) 29))
 have HB0 : Hid (Blk (w.alloc (.cells (bunC p A k c) 29)) w.heap.size 29 (bunC p A k c)) := hid (Blk.new w 29 (bunC p A k c))
 have HL := hid (BsL.ext h HE.out)
 clear h hk hf hnl hd hF
 go_enter Tryz.func13, Tryz.ntmps13
 go_upto_region 1 with fail
 generalize (w.alloc (.cells (bunC p A k c) 29)) = V at *
 obtain ⟨e, he⟩ := Later.self V
 rw [he]
 clear he
 have tk1 : True := trivial
 by_cases hr : bunRight p bs k = 0
 case neg =>
  have HF : Hid (soundF p bs k (bunRight p bs k) = bunRight p bs k) := hid (by unfold soundF; rw [if_pos hr])
  generalize soundF p bs k (bunRight p bs k) = Z at *
  generalize bunRight p bs k = r at *
  have t1 : (r == 0) = false := by simpa using hr
  have t2 : (r = 0) = False := eq_false hr
  have t3 : (r != 0) = true := by simpa using hr
  clear hr
  go_wp2_with (first | (clear tk1; refine wpList_row (by rfl) 29 _ rfl _ rfl (HB0.out.later _) vqA rfl (by kernel_rfl) ?_) | (go_at_call 34; refine (Ret.later (KR.out _ (HL.out.ext (Later.h _)))).mono ?_; rintro x _ ⟨rfl, e, rfl⟩))
  go_ret
  exact Ret.mk (by rw [HF.out]; rfl) (HE.out.trans e.h)
 have KRU1 := hid (KRU.out hr)
 have HRR := hid hr
 rw [hr] at KR
 clear hr KRU
 have tk2 : True := trivial
 cases ho : opsF bs k with
 | none =>
  have HF : Hid (soundF p bs k (bunRight p bs k) = 2) := hid (by rw [HRR.out]; unfold soundF; rw [if_neg (by decide), ho])
  have K : Hid (∀ W, Ext w W -> Calls Tryz.prog 17 #[bunV p A k c] W (Ret (.tuple #[.slice none 0 0, .int .i64 2]) W)) := hid (fun W hW => (KO.out W hW).mono fun e w' hh => by
   rcases hh with ⟨_, h2, h3⟩ | ⟨L, _, _, h2, _⟩
   . exact ⟨h2, h3⟩
   . rw [ho] at h2; cases h2)
  clear ho KO KRU1
  go_wp2_with (first | (clear tk1; refine wpList_row (by rfl) 29 _ rfl _ rfl (HB0.out.later _) vqA rfl (by kernel_rfl) ?_) | (go_at_call 34; refine (Ret.later (KR.out _ (HL.out.ext (Later.h _)))).mono ?_; rintro x _ ⟨rfl, e, rfl⟩) | (clear tk2; refine wpList_row (by rfl) 29 _ rfl _ rfl (HB0.out.later _) vqA rfl (by kernel_rfl) ?_) | (go_at_call 17; refine (Ret.later (K.out _ (HE.out.trans (Later.h _)))).mono ?_; rintro y _ ⟨rfl, e, rfl⟩))
  go_ret
  exact Ret.mk (by rw [HF.out]; rfl) (HE.out.trans e.h)
 | some L =>
  have HF : Hid (soundF p bs k (bunRight p bs k) = rulesV p bs k (opN L) L.length) := hid (by rw [HRR.out]; exact rulesV_sound p bs k L ho)
  have K : Hid (∀ W, Ext w W -> Calls Tryz.prog 17 #[bunV p A k c] W (fun e w' => ∃ A1 c1, e = .returned (.tuple #[.slice A1 L.length c1, .int .i64 0]) /\ Ext W w' /\ OsL w' A1 L.length (opN L))) := hid (fun W hW => (KO.out W hW).mono fun e w' hh => by
   rcases hh with ⟨h2, _⟩ | ⟨L, A1, c1, h2, h3, h4, h5⟩
   . rw [ho] at h2; cases h2
   . rw [ho] at h2; cases h2; exact ⟨A1, c1, h3, h4, h5.osl⟩)
  have KU := hid (fun Al cl W hW hO => KRU1.out L Al cl W ho hW hO)
  clear ho KO KRU1
  go_upto_region 5 with (first | (clear tk1; refine wpList_row (by rfl) 29 _ rfl _ rfl (HB0.out.later _) vqA rfl (by kernel_rfl) ?_) | (go_at_call 34; refine (Ret.later (KR.out _ (HL.out.ext (Later.h _)))).mono ?_; rintro x _ ⟨rfl, e, rfl⟩) | (clear tk2; refine wpList_row (by rfl) 29 _ rfl _ rfl (HB0.out.later _) vqA rfl (by kernel_rfl) ?_) | (go_at_call 17; refine (K.out _ (HE.out.trans (Later.h _))).mono ?_; rintro y w3 ⟨A1, c1, rfl, hb3, ho3⟩; have HX := hid (e.h.trans hb3); have HO3 := hid ho3; clear hb3 ho3))
  have HB3 := hid (HB0.out.ext HX.out)
  have HL3 := hid (HL.out.ext HX.out)
  have HW3 := hid (HE.out.trans HX.out)
  have KU3 := hid (fun W (hW : Ext w3 W) => KU.out A1 c1 W (HL3.out.ext hW) (HO3.out.ext hW))
  clear KU HB0 HL HE HX e K KR
  generalize rulesV p bs k (opN L) L.length = R at *
  generalize L.length = m at *
  obtain ⟨e, he⟩ := Later.self w3
  rw [he]
  clear he
  have tk3 : True := trivial
  go_wp2_with (first | (clear tk3; refine wpList_row (by rfl) 29 _ rfl _ rfl (HB3.out.later _) vqA rfl (by kernel_rfl) ?_) | (go_at_call 30; refine (Ret.later (KU3.out _ (Later.h _))).mono ?_; rintro y _ ⟨rfl, e, rfl⟩))
  go_ret
  exact Ret.mk (by rw [HF.out]; rfl) (HW3.out.trans e.h)
section
open Go.Shelf
theorem entersM1 : ∀ args w, (callFunc 29 args).run Tryz.prog w = .ok (.enter 29 args) w := enters_of Tryz.func29 (by kernel_rfl) rfl
theorem head_tsL {f : Nat -> Int} {m : Nat} (h : 0 < m) : (tsL f m).headD 0 = f 0 := by
 obtain ⟨k, rfl⟩ : ∃ k, m = k + 1 := ⟨m - 1, by omega⟩
 unfold tsL
 rw [List.range_succ_eq_map]; rfl
set_option maxRecDepth 20000 in
theorem May1_any (kind : Int) (At : Option Addr) (f : Nat -> Int) (m ct : Nat) (q4 q5 : Nat) {t4 t5 : TypeId} (hm : 0 < m) (W : World) (h4 : Blk W q4 t4 #[.int .i64 kind]) (h5 : Blk W q5 t5 #[.slice At m ct]) (hn : NsL W At m f) (x : OV) :
  Calls Tryz.prog 29 (#[x.v] ++ #[.pointer (some ⟨q4, 0, none⟩), .pointer (some ⟨q5, 0, none⟩)]) W (Ret (.bool (leaveF kind (tsL f m) x)) W) := by
 obtain ⟨xk, xn, xt⟩ := x
 have HLV : Hid (leaveF kind (tsL f m) ⟨xk, xn, xt⟩ = (decide (kind = 2) && decide (xk = 1) && decide (xn = f 0))) := hid (by unfold leaveF; rw [head_tsL hm])
 show Calls Tryz.prog 29 #[.agg #[.int .i64 xk, .int .i64 xn, .int .i64 xt], .pointer (some ⟨q4, 0, none⟩), .pointer (some ⟨q5, 0, none⟩)] W (Ret (.bool (leaveF kind (tsL f m) ⟨xk, xn, xt⟩)) W)
 have HE := hid ((Mod.refl [] W).alloc (.cells #[.int .i64 xk, .int .i64 xn, .int .i64 xt] 40))
 have HX : Hid (Blk (W.alloc (.cells #[.int .i64 xk, .int .i64 xn, .int .i64 xt] 40)) W.heap.size 40 #[.int .i64 xk, .int .i64 xn, .int .i64 xt]) := hid (Blk.new W 40 #[.int .i64 xk, .int .i64 xn, .int .i64 xt])
 have H4 := hid (h4.ext HE.out)
 have H5 := hid (h5.ext HE.out)
 obtain ⟨b, o, rfl, hb, hc⟩ := hn hm
 have hbE : b < (W.alloc (.cells #[.int .i64 xk, .int .i64 xn, .int .i64 xt] 40)).heap.size := Nat.lt_of_lt_of_le hb HE.out.size
 have hcE : (W.alloc (.cells #[.int .i64 xk, .int .i64 xn, .int .i64 xt] 40)).cell? ⟨b, o, none⟩ = some (.int .i64 (f 0)) := (HE.out.cell hb (by simp)).trans (by have := hc 0 hm; rwa [Nat.add_zero] at this)
 generalize leaveF kind (tsL f m) ⟨xk, xn, xt⟩ = R at *
 have m1 : (0 : Int) < (m : Int) := by omega
 have m2 : decide (0 < m) = true := by simp [hm]
 clear h4 h5 hn hb hc
 go_enter Tryz.func29, Tryz.ntmps29
 go_upto_region 1 with fail
 generalize W.alloc (.cells #[.int .i64 xk, .int .i64 xn, .int .i64 xt] 40) = V at *
 have t0 : ∀ e : Later V, e.x.cell? ⟨b, o, none⟩ = some (.int .i64 (f 0)) := cellL hcE
 have x0 : ∀ e : Later V, e.x.cell? ⟨W.heap.size, 0, none⟩ = some (.int .i64 xk) := HX.out.cellL 0 rfl
 have x1 : ∀ e : Later V, e.x.cell? ⟨W.heap.size, 1, none⟩ = some (.int .i64 xn) := HX.out.cellL 1 rfl
 have k4 : ∀ e : Later V, e.x.cell? ⟨q4, 0, none⟩ = some (.int .i64 kind) := H4.out.cellL 0 rfl
 have k5 : ∀ e : Later V, e.x.cell? ⟨q5, 0, none⟩ = some (.slice (some ⟨b, o, none⟩) m ct) := H5.out.cellL 0 rfl
 obtain ⟨f0, hf0⟩ : ∃ f0, f 0 = f0 := ⟨_, rfl⟩
 rw [hf0] at t0 HLV
 clear hf0 hcE hbE hm
 obtain ⟨e, he⟩ := Later.self V
 rw [he]
 clear he
 by_cases ha : kind = 2
 case neg =>
  have HF : Hid (R = false) := hid (by rw [HLV.out]; simp [ha])
  have a1 : (kind == 2) = false := by simpa using ha
  have a2 : (kind = 2) = False := eq_false ha
  have a3 : (kind != 2) = true := by simpa using ha
  clear ha
  refine wp_region_later (by kernel_rfl) (by kernel_rfl) ?_
  repeat go_big_quiet_step (fail)
  refine wpQuiet_nil ?_
  rintro _ ⟨e, rfl⟩
  go_wp2_with fail
  go_ret
  exact Ret.mk (by rw [HF.out]; rfl) (HE.out.trans e.h)
 have a1 : (kind == 2) = true := by simpa using ha
 have a2 : (kind = 2) = True := eq_true ha
 have a3 : (kind != 2) = false := by simpa using ha
 by_cases hb : xk = 1
 case neg =>
  have HF : Hid (R = false) := hid (by rw [HLV.out]; simp [hb])
  have b1 : (xk == 1) = false := by simpa using hb
  have b2 : (xk = 1) = False := eq_false hb
  have b3 : (xk != 1) = true := by simpa using hb
  clear ha hb
  refine wp_region_later (by kernel_rfl) (by kernel_rfl) ?_
  repeat go_big_quiet_step (fail)
  refine wpQuiet_nil ?_
  rintro _ ⟨e, rfl⟩
  go_wp2_with fail
  go_ret
  exact Ret.mk (by rw [HF.out]; rfl) (HE.out.trans e.h)
 have b1 : (xk == 1) = true := by simpa using hb
 have b2 : (xk = 1) = True := eq_true hb
 have b3 : (xk != 1) = false := by simpa using hb
 by_cases hc : xn = f0
 .
  have HF : Hid (R = true) := hid (by rw [HLV.out]; simp [ha, hb, hc])
  have c1 : (xn == f0) = true := by simpa using hc
  have c2 : (xn = f0) = True := eq_true hc
  have c3 : (xn != f0) = false := by simpa using hc
  clear ha hb hc
  refine wp_region_later (by kernel_rfl) (by kernel_rfl) ?_
  repeat go_big_quiet_step (fail)
  refine wpQuiet_nil ?_
  rintro _ ⟨e, rfl⟩
  go_wp2_with fail
  go_ret
  exact Ret.mk (by rw [HF.out]; rfl) (HE.out.trans e.h)
 .
  have HF : Hid (R = false) := hid (by rw [HLV.out]; simp [hc])
  have c1 : (xn == f0) = false := by simpa using hc
  have c2 : (xn = f0) = False := eq_false hc
  have c3 : (xn != f0) = true := by simpa using hc
  clear ha hb hc
  refine wp_region_later (by kernel_rfl) (by kernel_rfl) ?_
  repeat go_big_quiet_step (fail)
  refine wpQuiet_nil ?_
  rintro _ ⟨e, rfl⟩
  go_wp2_with fail
  go_ret
  exact Ret.mk (by rw [HF.out]; rfl) (HE.out.trans e.h)
set_option maxRecDepth 20000 in
theorem DeleteO_none (A : Option Addr) (f : Nat -> OV) (k c g : Nat) (lb : Array Value) (P : OV -> Bool) (eg : ∀ args w, (callFunc g args).run Tryz.prog w = .ok (.enter g args) w)
  (hk : k < 4611686018427387904) (w : World) (h : OsL w A k f) (hp : Hid (∀ (W : World) (x : OV), Ext w W -> Calls Tryz.prog g (#[x.v] ++ lb) W (Ret (.bool (P x)) W))) (hno : ∀ i, i < k -> P (f i) = false) :
  Calls Tryz.prog 28 #[.slice A k c, .func (.func g) #[] lb] w (Ret (.slice A k c) w) := by
 have K := hid (IndexFuncO_any A f k c g lb P eg hk w h hp)
 have hX : firstI (fun i => P (f i)) k = -1 := by unfold firstI; rw [firstOf_none (p := fun i => P (f i)) hno]
 rw [hX] at K
 clear h hp eg hX hno
 go_enter Tryz.func28, Tryz.ntmps28
 go_wp2_with (go_at_call 55; refine K.out.mono ?_; rintro e w' ⟨rfl, hb'⟩)
 go_ret
 exact Ret.mk rfl hb'
def DelOK (kind : Int) (f : Nat -> Int) (m : Nat) (L : List OV) : Prop := ∀ (W : World) (At : Option Addr) (ct q4 q5 : Nat) (t4 t5 : TypeId) (A' : Option Addr) (c' base : Nat), OpR W base A' c' L -> Blk W q4 t4 #[.int .i64 kind] -> Blk W q5 t5 #[.slice At m ct] -> NsL W At m f -> (offA A' q4 /\ offA A' q5 /\ ∀ b o, At = some ⟨b, o, none⟩ -> offA A' b) ->
 Calls Tryz.prog 28 #[.slice A' L.length c', .func (.func 29) #[] #[.pointer (some ⟨q4, 0, none⟩), .pointer (some ⟨q5, 0, none⟩)]] W (fun e w' => ∃ c2, e = .returned (.slice A' (L.filter fun o => !leaveF kind (tsL f m) o).length c2) /\ Mod (obs A') W w' /\ OsL w' A' (L.filter fun o => !leaveF kind (tsL f m) o).length (opN (L.filter fun o => !leaveF kind (tsL f m) o)))
theorem DelOK_none {kind : Int} {f : Nat -> Int} {m : Nat} (hm : 0 < m) {L : List OV} (hL : L.length <= 2000000) (h : ∀ o ∈ L, leaveF kind (tsL f m) o = false) : DelOK kind f m L := by
 intro W At ct q4 q5 t4 t5 A' c' base hr h4 h5 hn _
 have e : (L.filter fun o => !leaveF kind (tsL f m) o) = L := List.filter_eq_self.2 fun o ho => by rw [h o ho]; rfl
 rw [e]
 refine (DeleteO_none A' (opN L) L.length c' 29 #[.pointer (some ⟨q4, 0, none⟩), .pointer (some ⟨q5, 0, none⟩)] (leaveF kind (tsL f m)) entersM1 (by omega) W hr.osl (hid fun W' x hE => May1_any kind At f m ct q4 q5 hm W' (h4.ext hE) (h5.ext hE) (hn.ext hE) x) (fun i hi => h _ (opN_mem hi))).mono fun e w' hh => ?_
 obtain ⟨h1, h2⟩ := hh
 exact ⟨c', h1, h2.of_ext, hr.osl.ext h2⟩
theorem mayF_bad {p : PV} {bs : Nat -> BV} {k : Nat} {right kind : Int} {ts : List Int} (h : soundF p bs k right ≠ 0) : mayF p bs k right kind ts = soundF p bs k right := by unfold mayF; rw [if_pos h]
theorem mayF_list {p : PV} {bs : Nat -> BV} {k : Nat} {right kind : Int} {ts : List Int} (h : soundF p bs k right = 0) (h2 : listedF bs k kind ts ≠ 0) : mayF p bs k right kind ts = listedF bs k kind ts := by unfold mayF; rw [if_neg (fun q => q h), if_pos h2]
theorem mayF_frag {p : PV} {bs : Nat -> BV} {k : Nat} {right kind : Int} {ts : List Int} (h : soundF p bs k right = 0) (h2 : listedF bs k kind ts = 0) (h3 : has p.fl 1 = true) : mayF p bs k right kind ts = 8 := by unfold mayF; rw [if_neg (fun q => q h), if_neg (fun q => q h2), if_pos h3]
theorem mayF_rules {p : PV} {bs : Nat -> BV} {k : Nat} {right kind : Int} {ts : List Int} {L : List OV} (h : soundF p bs k right = 0) (h2 : listedF bs k kind ts = 0) (h3 : has p.fl 1 = false) (hL : opsF bs k = some L) :
  mayF p bs k right kind ts = rulesV p bs k (opN (withF kind (freeN bs k) ts L)) (withF kind (freeN bs k) ts L).length := by
 unfold mayF
 rw [if_neg (fun q => q h), if_neg (fun q => q h2), h3, hL]
 unfold rulesV rulesAll rulesB wholeB
 rw [h3]
 simp only [Option.getD_some, Bool.false_and, Bool.not_false, Bool.true_and, Bool.false_eq_true, if_false]
theorem listed_tgt {p : PV} {bs : Nat -> BV} {k : Nat} {kind : Int} {ts : List Int} (hr : bunRight p bs k = 0) (h : listedF bs k kind ts = 0) : (kind = 1 \/ kind = 2) /\ ts ≠ [] /\ ∀ t ∈ ts, 0 <= t /\ t <= 65535 := by
 unfold listedF at h
 by_cases e : (kind ≠ 1 /\ kind ≠ 2) \/ ts = []
 . rw [if_pos e] at h; exact absurd h (by decide)
 rw [if_neg e] at h
 refine ⟨by omega, fun q => e (.inr q), fun t ht => ?_⟩
 by_cases hd : dupI ts = true
 . rw [if_pos hd] at h; exact absurd h (by decide)
 rw [if_neg hd] at h
 by_cases hn : noneI bs k ts = true
 . rw [if_pos hn] at h; exact absurd h (by decide)
 by_cases h0 : t = 0
 . omega
 cases hf : firstOf (numB bs t) k with
 | none => exact absurd (by unfold noneI; rw [List.any_eq_true]; exact ⟨t, ht, by rw [hf]; simp [h0]⟩) hn
 | some i =>
  obtain ⟨h1, h2, _⟩ := firstOf_spec hf
  have := BV.right_zero ((bok_of hr).br i h1)
  unfold numB hasNum at h2
  simp at h2
  omega
set_option maxRecDepth 20000 in
set_option maxHeartbeats 8000000 in
theorem May_any (p : PV) (bs : Nat -> BV) (k c : Nat) (A : Option Addr) (eb : Addr) (kind : Int) (At : Option Addr) (f : Nat -> Int) (m ct : Nat) (hnl : Hid (p.d.name.length < 4611686018427387904 /\ p.s.name.length < 4611686018427387904 /\ p.r.name.length < 4611686018427387904)) (hf : p.fl < 18446744073709551616) (hk : k <= 1000) (hd : ∀ i, i < k -> (bs i).data.length <= 10000) (hm : m <= 1000) (hmc : m <= ct) (w : World) (hF : FormAt w eb) (h : BsL w A k bs) (hn : NsL w At m f)
  (hdel : soundF p bs k (bunRight p bs k) = 0 -> listedF bs k kind (tsL f m) = 0 -> ∀ L, opsF bs k = some L -> DelOK kind f m (L ++ newO kind (freeN bs k) (tsL f m))) :
  Calls Tryz.prog 10 #[bunV p A k c, .int .i64 kind, .slice At m ct] w (Ret (.int .i64 (mayF p bs k (bunRight p bs k) kind (tsL f m))) w) := by
 have KS := hid (fun W (hW : Ext w W) => Sound_any p bs k c A eb hnl hf hk hd W (hF.ext hW) (h.ext hW))
 have KL := hid (fun W (hW : Ext w W) => listed_any p bs k c A kind At f m ct (by omega) (by omega) hmc W (h.ext hW) (hn.ext hW))
 have KO := hid (fun W (hW : Ext w W) => Ops_any p bs k c A eb hk hd W (hF.ext hW) (h.ext hW))
 have KF := hid (fun W (hW : Ext w W) => Free_any p bs k c A (by omega) W (h.ext hW))
 have KRU : Hid (bunRight p bs k = 0 -> ∀ (L : List OV) Al cl W, (L.length <= 100000 /\ ∀ o ∈ L, InI o.num /\ InI o.kind /\ InI o.tgt) -> BsL W A k bs -> OsL W Al L.length (opN L) -> Calls Tryz.prog 30 #[bunV p A k c, .slice Al L.length cl] W (Ret (.int .i64 (rulesV p bs k (opN L) L.length)) W)) := hid (fun hr L Al cl W hL hW hO => rules_all p bs k c A (by omega) (opN L) L.length cl Al (by have := hL.1; omega) hf hL.1 (fun i hi => (hL.2 _ (opN_mem hi)).1) (fun W' hW' hO' => conce_any p bs k c A (by omega) (opN L) L.length cl Al (by have := hL.1; omega) hL.1 (fun i hi => (hL.2 _ (opN_mem hi)).2) W' hW' hO') W hW hO)
 have HE := hid ((((Mod.refl [] w).alloc (.cells (bunC p A k c) 29)).alloc (.cells #[.int .i64 kind] 3)).alloc (.cells #[.slice At m ct] 30))
 have HB0 : Hid (Blk (((w.alloc (.cells (bunC p A k c) 29)).alloc (.cells #[.int .i64 kind] 3)).alloc (.cells #[.slice At m ct] 30)) w.heap.size 29 (bunC p A k c)) := hid (((Blk.new w 29 (bunC p A k c)).alloc (.cells #[.int .i64 kind] 3)).alloc (.cells #[.slice At m ct] 30))
 have HB1 : Hid (Blk (((w.alloc (.cells (bunC p A k c) 29)).alloc (.cells #[.int .i64 kind] 3)).alloc (.cells #[.slice At m ct] 30)) (w.heap.size + 1) 3 #[.int .i64 kind]) := by unfold Hid; have := (Blk.newL (N := (w.heap.size + 1)) (w.alloc (.cells (bunC p A k c) 29)) 3 #[.int .i64 kind] (by simp)); exact (this.alloc (.cells #[.slice At m ct] 30))
 have HB2 : Hid (Blk (((w.alloc (.cells (bunC p A k c) 29)).alloc (.cells #[.int .i64 kind] 3)).alloc (.cells #[.slice At m ct] 30)) (w.heap.size + 1 + 1) 30 #[.slice At m ct]) := by unfold Hid; exact Blk.newL _ _ _ (by simp)
 have HL := hid (BsL.ext h HE.out)
 have HN := hid (hn.ext HE.out)
 have HFL := hid hf
 have HK := hid hk
 have HM := hid hm
 have HMC := hid hmc
 have HDEL := hid hdel
 clear h hn hk hf hnl hd hF hm hmc hdel
 go_enter Tryz.func10, Tryz.ntmps10
 go_upto_region 1 with fail
 generalize (((w.alloc (.cells (bunC p A k c) 29)).alloc (.cells #[.int .i64 kind] 3)).alloc (.cells #[.slice At m ct] 30)) = V at *
 obtain ⟨e, he⟩ := Later.self V
 rw [he]
 clear he
 have tk1 : True := trivial
 by_cases hs : soundF p bs k (bunRight p bs k) = 0
 case neg =>
  have HFF : Hid (mayF p bs k (bunRight p bs k) kind (tsL f m) = soundF p bs k (bunRight p bs k)) := hid (mayF_bad hs)
  generalize mayF p bs k (bunRight p bs k) kind (tsL f m) = Z at *
  generalize soundF p bs k (bunRight p bs k) = r at *
  have t1 : (r == 0) = false := by simpa using hs
  have t2 : (r = 0) = False := eq_false hs
  have t3 : (r != 0) = true := by simpa using hs
  clear hs
  go_wp2_with (first | (clear tk1; refine wpList_row (by rfl) 29 _ rfl _ rfl (HB0.out.later _) vqA rfl (by kernel_rfl) ?_) | (go_at_call 13; refine (Ret.later (KS.out _ (HE.out.trans (Later.h _)))).mono ?_; rintro y _ ⟨rfl, e, rfl⟩))
  go_ret
  exact Ret.mk (by rw [HFF.out]; rfl) (HE.out.trans e.h)
 have HS0 := hid hs
 rw [hs] at KS
 clear hs
 have tk2 : True := trivial
 have b1 : ∀ e : Later V, e.x.cell? ⟨w.heap.size + 1, 0, none⟩ = some (.int .i64 kind) := HB1.out.cellL 0 rfl
 have b2 : ∀ e : Later V, e.x.cell? ⟨w.heap.size + 1 + 1, 0, none⟩ = some (.slice At m ct) := HB2.out.cellL 0 rfl
 have b0 : ∀ e : Later V, e.x.cell? ⟨w.heap.size, 0, none⟩ = some (.int .u64 (p.fl : Int)) := HB0.out.cellL 0 rfl
 by_cases hl : listedF bs k kind (tsL f m) = 0
 case neg =>
  have HFF : Hid (mayF p bs k (bunRight p bs k) kind (tsL f m) = listedF bs k kind (tsL f m)) := hid (mayF_list HS0.out hl)
  generalize mayF p bs k (bunRight p bs k) kind (tsL f m) = Z at *
  generalize listedF bs k kind (tsL f m) = r at *
  have t1 : (r == 0) = false := by simpa using hl
  have t2 : (r = 0) = False := eq_false hl
  have t3 : (r != 0) = true := by simpa using hl
  clear hl
  go_wp2_with (first | (clear tk1; refine wpList_row (by rfl) 29 _ rfl _ rfl (HB0.out.later _) vqA rfl (by kernel_rfl) ?_) | (go_at_call 13; refine (Ret.later (KS.out _ (HE.out.trans (Later.h _)))).mono ?_; rintro y _ ⟨rfl, e, rfl⟩) | (clear tk2; refine wpList_row (by rfl) 29 _ rfl _ rfl (HB0.out.later _) vqA rfl (by kernel_rfl) ?_) | (go_at_call 26; refine (Ret.later (KL.out _ (HE.out.trans (Later.h _)))).mono ?_; rintro y _ ⟨rfl, e, rfl⟩))
  go_ret
  exact Ret.mk (by rw [HFF.out]; rfl) (HE.out.trans e.h)
 have HL0 := hid hl
 rw [hl] at KL
 clear hl
 have HA := hid (u64_and_powP p.fl 0 HFL.out (by omega))
 have HRES : Hid (has p.fl 1 = decide (p.fl % 2 = 1)) := by unfold Hid has; simp
 by_cases hh : p.fl % 2 = 1
 .
  have ha : bits .and .u64 (p.fl : Int) 1 = 1 := by have := HA.out; simpa [hh] using this
  have HFF : Hid (mayF p bs k (bunRight p bs k) kind (tsL f m) = 8) := hid (mayF_frag HS0.out HL0.out (by rw [HRES.out]; simpa using hh))
  clear hh HA HRES
  go_wp2_with (first | (clear tk1; refine wpList_row (by rfl) 29 _ rfl _ rfl (HB0.out.later _) vqA rfl (by kernel_rfl) ?_) | (go_at_call 13; refine (Ret.later (KS.out _ (HE.out.trans (Later.h _)))).mono ?_; rintro y _ ⟨rfl, e, rfl⟩) | (clear tk2; refine wpList_row (by rfl) 29 _ rfl _ rfl (HB0.out.later _) vqA rfl (by kernel_rfl) ?_) | (go_at_call 26; refine (Ret.later (KL.out _ (HE.out.trans (Later.h _)))).mono ?_; rintro y _ ⟨rfl, e, rfl⟩))
  go_ret
  exact Ret.mk (by rw [HFF.out]; rfl) (HE.out.trans e.h)
 have ha : bits .and .u64 (p.fl : Int) 1 = 0 := by have := HA.out; simpa [hh] using this
 have HNF : Hid (has p.fl 1 = false) := hid (by rw [HRES.out]; simpa using hh)
 clear hh HA HRES
 obtain ⟨hr, L, hL, _, _⟩ := soundF_zero.1 HS0.out
 have HRR := hid hr
 have HOL := hid hL
 have HLL : Hid (L.length <= 32000) := hid (by have := opsF_len hL; have := HK.out; omega)
 have HFF : Hid (mayF p bs k (bunRight p bs k) kind (tsL f m) = rulesV p bs k (opN (withF kind (freeN bs k) (tsL f m) L)) (withF kind (freeN bs k) (tsL f m) L).length) := hid (mayF_rules HS0.out HL0.out HNF.out hL)
 have HDL := hid (HDEL.out HS0.out HL0.out L hL)
 have K : Hid (∀ W, Ext w W -> Calls Tryz.prog 17 #[bunV p A k c] W (fun e w' => ∃ A1 c1, e = .returned (.tuple #[.slice A1 L.length c1, .int .i64 0]) /\ Ext W w' /\ OpR w' W.heap.size A1 c1 L)) := hid (fun W hW => (KO.out W hW).mono fun e w' hh => by
  rcases hh with ⟨h2, _⟩ | ⟨L, A1, c1, h2, h3, h4, h5⟩
  . rw [hL] at h2; cases h2
  . rw [hL] at h2; cases h2; exact ⟨A1, c1, h3, h4, h5⟩)
 have KU := hid (KRU.out hr)
 clear hr hL KO KRU HDEL
 have tk3 : True := trivial
 go_upto_region 10 with (first | (clear tk1; refine wpList_row (by rfl) 29 _ rfl _ rfl (HB0.out.later _) vqA rfl (by kernel_rfl) ?_) | (go_at_call 13; refine (Ret.later (KS.out _ (HE.out.trans (Later.h _)))).mono ?_; rintro y _ ⟨rfl, e, rfl⟩) | (clear tk2; refine wpList_row (by rfl) 29 _ rfl _ rfl (HB0.out.later _) vqA rfl (by kernel_rfl) ?_) | (go_at_call 26; refine (Ret.later (KL.out _ (HE.out.trans (Later.h _)))).mono ?_; rintro y _ ⟨rfl, e, rfl⟩) | (clear tk3; refine wpList_row (by rfl) 29 _ rfl _ rfl (HB0.out.later _) vqA rfl (by kernel_rfl) ?_) | (go_at_call 17; refine (K.out _ (HE.out.trans (Later.h _))).mono ?_; rintro y w3 ⟨A1, c1, rfl, hb3, ho3⟩; have HX := hid (e.h.trans hb3); have HO3 := hid (OpR.low ho3 (b2 := V.heap.size) e.h.size); clear hb3 ho3))
 have HB03 := hid (HB0.out.ext HX.out)
 have HB13 := hid (HB1.out.ext HX.out)
 have HB23 := hid (HB2.out.ext HX.out)
 have HL3 := hid (HL.out.ext HX.out)
 have HN3 := hid (HN.out.ext HX.out)
 have HW3 := hid (HE.out.trans HX.out)
 have HV3 := hid HX.out.size
 have HS3 : Hid (w.heap.size + 1 + 1 < V.heap.size) := hid HB2.out.lt
 have HNV : Hid (∀ b o, At = some ⟨b, o, none⟩ -> 0 < m -> b < V.heap.size) := hid (fun b o hb h0 => by
  obtain ⟨b', o', hA, hlt, _⟩ := HN.out h0
  rw [hA] at hb; cases hb; exact hlt)
 have HXV := HX
 clear b0 b1 b2 K KS KL e HX
 obtain ⟨N, hN⟩ : ∃ N, freeN bs k = N := ⟨_, rfl⟩
 have KF3 : Hid (∀ e : Later w3, Calls Tryz.prog 27 #[bunV p A k c] e.x (Ret (.int .i64 (N : Int)) e.x)) := hid (fun e => by have := KF.out e.x (HW3.out.trans e.h); rwa [hN] at this)
 have HNE := hid hN
 have HNB : Hid (N <= 3000) := hid (by rw [<- hN]; have := (freeN_spec bs k).2.1; have := HK.out; omega)
 clear hN KF
 have b1 : ∀ e : Later w3, e.x.cell? ⟨w.heap.size + 1, 0, none⟩ = some (.int .i64 kind) := HB13.out.cellL 0 rfl
 have b2 : ∀ e : Later w3, e.x.cell? ⟨w.heap.size + 1 + 1, 0, none⟩ = some (.slice At m ct) := HB23.out.cellL 0 rfl
 obtain ⟨e, he⟩ := Later.self w3
 rw [he]
 clear he
 have tk1 : True := trivial
 go_upto_region 11 with (first | (clear tk1; refine wpList_row (by rfl) 29 _ rfl _ rfl (HB03.out.later _) vqA rfl (by kernel_rfl) ?_) | (go_at_call 27; refine (Ret.later (KF3.out e)).mono ?_; rintro y _ ⟨rfl, e, rfl⟩))
 go_wp2_with fail
 have n0 : (0 : Int) <= (N : Int) := by omega
 have m9 : (m : Int) <= 1000 := by have := HM.out; omega
 have HR0 := hid (HO3.out.ext e.h)
 have HX0 := hid (e.h)
 clear b1 b2
 go_loopw [9, 40] (fun s9 s40 wr => ∃ (i : Nat) (A' : Option Addr) (c' : Nat), s40 = .int .i64 (i : Int) /\ s9 = .slice A' (L ++ newO kind N (tsL f i)).length c' /\ Hid (i <= m /\ Ext V wr /\ OpR wr V.heap.size A' c' (L ++ newO kind N (tsL f i)))) (fun _ s40 _ => m - (intOf s40).toNat)
 case atStart => exact ⟨0, A1, c1, rfl, by rw [show newO kind (N : Int) (tsL f 0) = [] from rfl, List.append_nil], hid ⟨Nat.zero_le _, HXV.out.trans HX0.out, by rw [show newO kind (N : Int) (tsL f 0) = [] from rfl, List.append_nil]; exact HR0.out⟩⟩
 case round =>
  clear HR0 HX0 HO3 HB13 HB23 HL3 HN3 HB03 e
  obtain ⟨i, A', c', rfl, rfl, hS⟩ := hrel
  rename World => wr
  have i0 : (0 : Int) <= (i : Int) := by omega
  by_cases hlt : i < m
  .
   obtain ⟨b, o, rfl, hb, hc⟩ := (HN.out.ext hS.out.2.1) (by omega)
   have c0 : wr.cell? ⟨b, o + i, none⟩ = some (.int .i64 (f i)) := hc i hlt
   have b1 : wr.cell? ⟨w.heap.size + 1, 0, none⟩ = some (.int .i64 kind) := (HB1.out.ext hS.out.2.1).cell 0
   have tc : decide (i < m) = true := by simp [hlt]
   have i1 : (i : Int) < (m : Int) := by omega
   have HLT := hid hlt
   clear hlt hb hc
   obtain ⟨ib, hi, hz0, hz1, hz2⟩ := info_parts infoOp
   have HSN : Hid ((L ++ newO kind N (tsL f i)) ++ [⟨kind, N, f i⟩] = L ++ newO kind N (tsL f (i + 1))) := hid (by unfold newO tsL; rw [List.range_succ, List.map_append, List.map_append, List.append_assoc]; rfl)
   have HLQ : Hid ((L ++ newO kind N (tsL f i)).length = L.length + i) := hid (by unfold newO; rw [List.length_append, List.length_map, tsL_len])
   generalize L ++ newO kind (N : Int) (tsL f i) = LQ at *
   have HRZ := hid (hS.out.2.2.ext ((Mod.refl [] wr).alloc (.cells #[.int .i64 kind, .int .i64 (N : Int), .int .i64 (f i)] 40)))
   have HVZ : Hid (V.heap.size <= wr.heap.size) := hid hS.out.2.1.size
   go_wp2_with (at_builtin; refine wpList_append_lies _ rfl _ _ 48 rfl V.heap.size 40 ib _ 3 24 Tryz.underlying48 hi hz0 hz1 hz2 rfl (by decide) _ LQ.length _ (by rfl) HRZ.out ⟨wr.heap.size, 0, none⟩ 1 1 (OV.l ⟨kind, N, f i⟩) (by rfl) (by rfl) (fun j u hu => by rw [addr_add, Nat.zero_add, (Blk.new wr 40 #[.int .i64 kind, .int .i64 (N : Int), .int .i64 (f i)]).cell j]; simpa [OV.l] using hu) (by intro u hu; simp [OV.l] at hu; rcases hu with rfl | rfl | rfl <;> rfl) (by decide) (by have := HLQ.out; have := HLL.out; have := HLT.out; have := HM.out; unfold maxLen; omega) (by have := HLQ.out; have := HLL.out; have := HLT.out; have := HM.out; omega) (by have := HVZ.out; simp; omega) (wr.heap.size + 1) (by simp) ?_; intro g' cp' w4 hown' hgr' hat' hlt'; have HR5 := hid (OpR.snoc hown'); have HM5 := hid (grown_obs hgr'); clear hown' hgr' hat' hlt')
   have HVV : Hid (Ext V w4) := hid (((hS.out.2.1.alloc _).of_ext (S := obs A') |>.trans HM5.out).new (fun kk hkk => .inr (by
    cases A' with
    | none => cases hkk
    | some a => have := (HRZ.out.off a rfl).1; simp [obs] at hkk; omega)))
   have HZ5 := hid (show OpR w4 V.heap.size (some ⟨g', 0, none⟩) cp' (L ++ newO kind N (tsL f (i + 1))) from by rw [<- HSN.out]; exact HR5.out)
   go_roundw
   case rel => exact ⟨i + 1, some ⟨g', 0, none⟩, cp', by go_num, by first | (rw [<- HSN.out, List.length_append]; rfl) | skip, hid ⟨HLT.out, HVV.out, HZ5.out⟩⟩
   case measure => have := HLT.out; simp [intOf]; omega
  .
   obtain rfl : i = m := by have := hS.out.1; omega
   have tc : decide (i < i) = false := by simp
   clear hlt
   obtain ⟨hkd, hne, htg⟩ := listed_tgt HRR.out HL0.out
   have hm0 : 0 < i := Nat.pos_of_ne_zero fun q => hne (tsL_nil.2 q)
   have HWF : Hid (withF kind (freeN bs k) (tsL f i) L = (L ++ newO kind N (tsL f i)).filter fun o => !leaveF kind (tsL f i) o) := hid (by rw [HNE.out]; rfl)
   have hA9 : ∀ q, q < V.heap.size -> offA A' q := fun q hq g hg => by have := (hS.out.2.2.off g hg).1; omega
   have HCD := hid (HDL.out wr At ct (w.heap.size + 1) (w.heap.size + 1 + 1) _ _ A' c' V.heap.size (by rw [HNE.out]; exact hS.out.2.2) (HB1.out.ext hS.out.2.1) (HB2.out.ext hS.out.2.1) (HN.out.ext hS.out.2.1) ⟨hA9 _ (by have := HS3.out; omega), hA9 _ HS3.out, fun b o hb => hA9 b (HNV.out b o hb hm0)⟩)
   rw [HNE.out] at HCD
   have HII : Hid (∀ o ∈ (L ++ newO kind N (tsL f i)).filter fun o => !leaveF kind (tsL f i) o, InI o.num /\ InI o.kind /\ InI o.tgt) := hid (fun o ho => by
    rcases List.mem_append.1 (List.mem_filter.1 ho).1 with h1 | h1
    .
     obtain ⟨j, hj, rfl⟩ := List.getElem_of_mem h1
     rw [<- opN_get hj]
     exact ⟨opsF_nums HRR.out HOL.out j hj, (opsF_rng HOL.out j hj).1, (opsF_rng HOL.out j hj).2⟩
    .
     obtain ⟨e1, e2, e3⟩ := newO_kind o h1
     have := htg _ e3
     have := HNB.out
     rw [e1, e2]
     unfold InI
     omega)
   have HLN : Hid (((L ++ newO kind N (tsL f i)).filter fun o => !leaveF kind (tsL f i) o).length <= 100000) := hid (by
    have := List.length_filter_le (fun o => !leaveF kind (tsL f i) o) (L ++ newO kind N (tsL f i))
    have h2 : (L ++ newO kind (N : Int) (tsL f i)).length = L.length + i := by unfold newO; rw [List.length_append, List.length_map, tsL_len]
    have := HLL.out
    have := HM.out
    omega)
   have HFF2 := HFF
   rw [HWF.out] at HFF
   have KU2 := hid (fun Al cl W hW hO => KU.out _ Al cl W ⟨HLN.out, HII.out⟩ hW hO)
   have HMA : Hid (∀ w', Mod (obs A') wr w' -> Ext V w') := hid (fun w' hM => (hS.out.2.1.of_ext.trans hM).new (fun kk hkk => .inr (by
    cases A' with
    | none => cases hkk
    | some a => have := (hS.out.2.2.off a rfl).1; simp [obs] at hkk; omega)))
   clear hkd hne htg hm0 hA9 HWF HFF2 HLN HII hS KU
   generalize rulesV p bs k (opN ((L ++ newO kind (N : Int) (tsL f i)).filter fun o => !leaveF kind (tsL f i) o)) ((L ++ newO kind (N : Int) (tsL f i)).filter fun o => !leaveF kind (tsL f i) o).length = R at *
   generalize ((L ++ newO kind (N : Int) (tsL f i)).filter fun o => !leaveF kind (tsL f i) o) = LF at *
   generalize (L ++ newO kind (N : Int) (tsL f i)).length = ln at *
   go_upto_region 17 with (go_at_call 28; refine HCD.out.mono ?_; rintro y w5 ⟨c2, rfl, hm5, ho5⟩; have HV5 := hid (HMA.out _ hm5); have HO5 := hid ho5; clear hm5 ho5)
   have HB5 := hid (HB0.out.ext HV5.out)
   have KU5 := hid (fun W (hW : Ext w5 W) => KU2.out A' c2 W (HL.out.ext (HV5.out.trans hW)) (HO5.out.ext hW))
   generalize LF.length = lf at *
   obtain ⟨e, he⟩ := Later.self w5
   rw [he]
   clear he
   have tk9 : True := trivial
   go_wp2_with (first | (clear tk9; refine wpList_row (by rfl) 29 _ rfl _ rfl (HB5.out.later _) vqA rfl (by kernel_rfl) ?_) | (go_at_call 30; refine (Ret.later (KU5.out _ (Later.h _))).mono ?_; rintro y _ ⟨rfl, e, rfl⟩))
   go_ret
   exact Ret.mk (by rw [HFF.out]; rfl) (HE.out.trans (HV5.out.trans e.h))
end
def tagA7 : AV := textA 1 (fun _ => 1) 1 [116]
theorem tag7_shaped : tagA7.shaped = true := by kernel_rfl
theorem tag7_isAsb : isAsb someD7 tagA7 := ⟨textA_wf (by omega) (by omega) (fun i hi => by omega) (by simp), by
 unfold AV.right
 rw [tag7_shaped, Bool.true_and]
 kernel_rfl, by
 unfold someD7 textR
 exact (if_pos tag7_shaped).symm⟩
theorem sec7 : secO someD7 = some (1, [1]) := secO_some tag7_isAsb
theorem ops7a : opsL 12 2 2 (fun _ => false) someB7 2 = some [] := by
 rw [opsL_skip (.inl (by decide)), opsL_skip (.inl (by decide))]; rfl
theorem ops7 : opsF someB7 2 = some [⟨1, 2, 1⟩] := by
 rw [opsF_eq ops7a]
 have h1 : opsL 11 1 1 (underB []) someB7 1 = some [⟨1, 2, 1⟩] := by
  have := opsL_more (typ := 11) (kind := 1) (ctx := 1) (out := underB []) (bs := someB7) (k := 0) (l := []) rfl (by rintro (q | q); exact q rfl; cases q) (ts := [1]) sec7
  exact this
 rw [opsL_skip (.inl (by decide)), h1]; rfl
theorem bun7 : bunRight someP7 someB7 2 = 0 := by kernel_rfl
theorem sound7 : soundF someP7 someB7 2 (bunRight someP7 someB7 2) = 0 := soundF_zero.2 ⟨bun7, _, ops7, by kernel_rfl, by kernel_rfl⟩
theorem free7 : freeN someB7 2 = 3 := freeN_eq (by omega) (by kernel_rfl) (fun j h1 h2 => by
 obtain rfl : j = 2 := by omega
 exact ⟨0, by kernel_rfl⟩)
theorem may7 : mayF someP7 someB7 2 (bunRight someP7 someB7 2) 2 (tsL (fun _ => 1) 1) = 8 := by
 rw [mayF_rules sound7 (by kernel_rfl) (by kernel_rfl) ops7, free7]
 kernel_rfl
theorem del7 : DelOK 2 (fun _ => 1) 1 ([⟨1, 2, 1⟩] ++ newO 2 (freeN someB7 2) (tsL (fun _ => 1) 1)) := by
 rw [free7]
 refine DelOK_none (by omega) (by decide) fun o ho => ?_
 simp [newO, tsL] at ho
 rcases ho with rfl | rfl <;> rfl
set_option maxRecDepth 20000 in
set_option maxHeartbeats 4000000 in
theorem awake17_any (eb : Addr) (w : World) (hF : FormAt w eb) : Calls Tryz.prog 7 #[] w (Ret (.bool true) w) := by
 have KS := hid (fun W => some7_any W)
 have KO : Hid (∀ W g, Ext w W -> BsL W (some ⟨g, 0, none⟩) 2 someB7 -> Calls Tryz.prog 17 #[bunV someP7 (some ⟨g, 0, none⟩) 2 2] W (fun e w' => ∃ A1 c1, e = .returned (.tuple #[.slice A1 1 c1, .int .i64 0]) /\ Ext W w' /\ OsL w' A1 1 (opN [⟨1, 2, 1⟩]))) := fun W g hW hL => (Ops_any someP7 someB7 2 2 (some ⟨g, 0, none⟩) eb (by omega) (fun i hi => by
  rcases (show i = 0 \/ i = 1 by omega) with rfl | rfl
  . exact of_decide_eq_true (by kernel_rfl)
  . exact of_decide_eq_true (by kernel_rfl)) W (hF.ext hW) hL).mono fun e w' hh => by
  rcases hh with ⟨h2, _⟩ | ⟨L, A1, c1, h2, h3, h4, h5⟩
  . rw [ops7] at h2; cases h2
  . rw [ops7] at h2; cases h2; exact ⟨A1, c1, h3, h4, h5.osl⟩
 have KM : Hid (∀ W g At, Ext w W -> BsL W (some ⟨g, 0, none⟩) 2 someB7 -> NsL W At 1 (fun _ => 1) -> Calls Tryz.prog 10 #[bunV someP7 (some ⟨g, 0, none⟩) 2 2, .int .i64 2, .slice At 1 1] W (Ret (.int .i64 8) W)) := fun W g At hW hL hN => by
  have := May_any someP7 someB7 2 2 (some ⟨g, 0, none⟩) eb 2 At (fun _ => 1) 1 1 (hid (by decide)) (by decide) (by omega) (fun i hi => by
   rcases (show i = 0 \/ i = 1 by omega) with rfl | rfl
   . exact of_decide_eq_true (by kernel_rfl)
   . exact of_decide_eq_true (by kernel_rfl)) (by omega) (by omega) W (hF.ext hW) hL hN (fun _ _ L hL => by rw [ops7] at hL; cases hL; exact del7)
  rw [may7] at this
  exact this
 clear hF
 have HE0 := hid (Mod.refl [] w)
 go_enter Tryz.func7, Tryz.ntmps7
 go_upto_region 2 with (first | (go_at_call 24; refine (KS.out _).mono ?_; rintro x w2 ⟨g, rfl, hx, hL⟩; have HX2 := hid hx; have HL2 := hid hL; clear hx hL) | (go_at_call 17; refine (KO.out _ _ (HX2.out) HL2.out).mono ?_; rintro y w3 ⟨A1, c1, rfl, hb3, ho3⟩; have HX3 := hid (HX2.out.trans hb3); have HO3 := hid ho3; clear hb3 ho3))
 obtain ⟨b, o, rfl, hb, q0, q1, q2⟩ := HO3.out.cells (i := 0) (by omega)
 have c0 : w3.cell? ⟨b, o, none⟩ = some (.int .i64 1) := q0 ⟨w3, Mod.refl _ _⟩
 have c1 : w3.cell? ⟨b, o + 1, none⟩ = some (.int .i64 2) := q1 ⟨w3, Mod.refl _ _⟩
 have c2 : w3.cell? ⟨b, o + 2, none⟩ = some (.int .i64 1) := q2 ⟨w3, Mod.refl _ _⟩
 clear q0 q1 q2 HX2 HL2 hb
 go_wp2_with (first | (go_at_call 24; refine (KS.out _).mono ?_; rintro x w4 ⟨g4, rfl, hx4, hL4⟩; have HX4 := hid (HX3.out.trans hx4); have HL4 := hid hL4; clear hx4 hL4) | (go_at_call 10; refine (KM.out _ _ _ (HX4.out.alloc _) (HL4.out.ext ((Mod.refl [] _).alloc _)) (fun _ => ⟨_, 0, rfl, (Blk.new w4 3 #[.int .i64 1]).lt, fun i hi => by obtain rfl : i = 0 := (by omega); exact (Blk.new w4 3 #[.int .i64 1]).cell 0⟩)).mono ?_; rintro y w5 ⟨rfl, hb5⟩; have HX5 := hid ((HX4.out.alloc _).trans hb5); clear hb5))
 go_ret
 exact Ret.mk rfl HX5.out
theorem few_names17 {p : PV} (h : p.few = true) : p.d.name.length < 4611686018427387904 /\ p.s.name.length < 4611686018427387904 /\ p.r.name.length < 4611686018427387904 := by
 unfold PV.few at h
 simp only [Bool.and_eq_true, decide_eq_true_eq] at h
 omega
def delP (bs : Nat -> BV) (i : Nat) : Nat -> BV := fun j => if j < i then bs j else bs (j + 1)
theorem ins_delP (bs : Nat -> BV) (i : Nat) : insP (delP bs i) i (bs i) = bs := by
 funext j
 unfold insP delP
 by_cases h1 : j < i
 . rw [if_pos h1, if_pos h1]
 .
  by_cases h2 : j = i
  . subst h2; rw [if_neg (by omega), if_pos rfl]
  . rw [if_neg h1, if_neg h2, if_neg (by omega), show j - 1 + 1 = j by omega]
theorem with_delP (bs ls : Nat -> BV) (i : Nat) : ∀ j, withB bs i 1 0 ls j = delP bs i j := fun j => by
 unfold withB catB delP
 by_cases h1 : j < i
 . rw [if_pos (by omega), if_pos h1, if_pos h1]
 .
  rw [if_neg (by omega), if_neg h1]
  show bs (i + 1 + (j - (i + 0))) = bs (j + 1)
  rw [show i + 1 + (j - (i + 0)) = j + 1 by omega]
def hitO (bs : Nat -> BV) (k : Nat) (x : BV) (l : List OV) (j : Nat) : Bool := decide ((opN l j).num = x.num) && decide ((opN l j).kind = 2) && decide (tyAt bs k (opN l j).tgt = 11)
theorem less_end {p : PV} {bs : Nat -> BV} {n i : Nat} (hi : i <= n) (hs : soundF p bs (n + 1) (bunRight p bs (n + 1)) = 0) (ht : (bs i).ty = 11 \/ (bs i).ty = 12) (hse : sealedF bs (n + 1) (bs i).num = false) {L : List OV} (hL : opsF bs (n + 1) = some L) (hh : ∀ j, j < L.length -> hitO bs (n + 1) (bs i) L j = false) :
  soundF p (delP bs i) n (bunRight p (delP bs i) n) = 0 := by
 have e := ins_delP bs i
 have h := less_plain (p := p) (bs := delP bs i) (i := i) (k := n) (x := bs i) hi
 rw [e] at h
 refine h hs ht hL (fun o ho h2 h3 => ?_) (fun o ho h1 h2 h3 => ?_)
 .
  unfold sealedF at hse
  rw [hL] at hse
  dsimp only at hse
  obtain ⟨j, hj, rfl⟩ := List.getElem_of_mem ho
  unfold amongB at hse
  rw [<- Bool.not_eq_true, firstSome_iff] at hse
  exact hse ⟨j, hj, by unfold sameKT; rw [opN_get hj]; simp [h2, h3]⟩
 .
  obtain ⟨j, hj, rfl⟩ := List.getElem_of_mem ho
  have := hh j hj
  unfold hitO at this
  rw [opN_get hj] at this
  simp [h1, h2, h3] at this
set_option maxRecDepth 20000 in
set_option maxHeartbeats 8000000 in
theorem lawLess_any (p : PV) (bs : Nat -> BV) (k c : Nat) (A : Option Addr) (u : Nat) (eb : Addr) (hf : p.fl < 18446744073709551616) (hk : k < 4611686018427387904) (hS : SlA A k c) (hu : u <= 255) (w : World) (hF : FormAt w eb) (h : BsL w A k bs) :
  Calls Tryz.prog 6 #[bunV p A k c, .int .u8 (u : Int)] w (Ret (.bool true) w) := by
 have KA := hid (fun W (hW : Ext w W) => awake17_any eb W (hF.ext hW))
 have KF := hid (fun W (hW : BsL W A k bs) => few17_any p bs k c A (by omega) W hW)
 have HE := hid ((Mod.refl [] w).alloc (.cells (bunC p A k c) 29))
 have HB0 : Hid (Blk (w.alloc (.cells (bunC p A k c) 29)) w.heap.size 29 (bunC p A k c)) := hid (Blk.new w 29 (bunC p A k c))
 have HL := hid (BsL.ext h HE.out)
 have k1 : (k : Int) < 4611686018427387904 := by omega
 have HFO := hid (fun W (hW : Ext w W) => hF.ext hW)
 have HLW := hid h
 have HK := hid hk
 have HFL := hid hf
 have HU := hid hu
 clear hF h hk hf hu
 go_enter Tryz.func6, Tryz.ntmps6
 go_upto_region 1 with fail
 generalize (w.alloc (.cells (bunC p A k c) 29)) = V at *
 obtain ⟨e, he⟩ := Later.self V
 rw [he]
 clear he
 have b19 : ∀ e : Later V, e.x.cell? ⟨w.heap.size, 19, none⟩ = some (.slice A k c) := HB0.out.cellL 19 rfl
 have tk1 : True := trivial
 have tk2 : True := trivial
 cases hfw : (bunFew p bs k && decide (k <= 18)) with
 | false =>
  rw [hfw] at KF
  clear hfw
  go_wp2_with (first | (go_at_call 7; refine (Ret.later (KA.out _ (HE.out.trans (Later.h _)))).mono ?_; rintro y _ ⟨rfl, e, rfl⟩) | (clear tk1; refine wpList_row (by rfl) 29 _ rfl _ rfl (HB0.out.later _) vqA rfl (by kernel_rfl) ?_) | (go_at_call 8; refine (Ret.later (KF.out _ (HL.out.ext (Later.h _)))).mono ?_; rintro y _ ⟨rfl, e, rfl⟩))
  go_ret
  exact Ret.mk rfl (HE.out.trans e.h)
 | true =>
 rw [hfw] at KF
 rw [Bool.and_eq_true, decide_eq_true_eq] at hfw
 obtain ⟨_, hpf, hdd⟩ := bunFew_spec hfw.1
 have HK18 := hid hfw.2
 have HNL : Hid (p.d.name.length < 4611686018427387904 /\ p.s.name.length < 4611686018427387904 /\ p.r.name.length < 4611686018427387904) := hid (few_names17 hpf)
 have HDD : Hid (∀ i, i < k -> (bs i).data.length <= 10000) := hid (fun i hi => by have := hdd i hi; omega)
 clear hfw hpf hdd
 have KS := hid (fun W (hW : Ext w W) => Sound_any p bs k c A eb HNL HFL.out (by have := HK18.out; omega) HDD.out W (HFO.out W hW) (HLW.out.ext hW))
 rcases Nat.eq_zero_or_pos k with hz | hz
 .
  have z1 : ((k : Int) == 0) = true := by rw [beq_iff_eq]; omega
  have z2 : ((k : Int) = 0) = True := eq_true (by omega)
  have z3 : decide (k = 0) = true := decide_eq_true hz
  have z4 : (k = 0) = True := eq_true hz
  clear hz
  go_wp2_with (first | (go_at_call 7; refine (Ret.later (KA.out _ (HE.out.trans (Later.h _)))).mono ?_; rintro y _ ⟨rfl, e, rfl⟩) | (clear tk1; refine wpList_row (by rfl) 29 _ rfl _ rfl (HB0.out.later _) vqA rfl (by kernel_rfl) ?_) | (go_at_call 8; refine (Ret.later (KF.out _ (HL.out.ext (Later.h _)))).mono ?_; rintro y _ ⟨rfl, e, rfl⟩))
  go_ret
  exact Ret.mk rfl (HE.out.trans e.h)
 have z1 : ((k : Int) == 0) = false := by rw [beq_eq_false_iff_ne]; omega
 have z2 : ((k : Int) = 0) = False := eq_false (by omega)
 have z3 : decide (k = 0) = false := decide_eq_false (by omega)
 have z4 : (k = 0) = False := eq_false (by omega)
 have HZ := hid hz
 have k0 : (0 : Int) < (k : Int) := by omega
 have k18 : (k : Int) <= 18 := by have := HK18.out; omega
 clear hz
 by_cases hs : soundF p bs k (bunRight p bs k) = 0
 case neg =>
  generalize soundF p bs k (bunRight p bs k) = r at *
  have t1 : (r == 0) = false := by simpa using hs
  have t2 : (r = 0) = False := eq_false hs
  have t3 : (r != 0) = true := by simpa using hs
  clear hs
  go_wp2_with (first | (go_at_call 7; refine (Ret.later (KA.out _ (HE.out.trans (Later.h _)))).mono ?_; rintro y _ ⟨rfl, e, rfl⟩) | (clear tk1; refine wpList_row (by rfl) 29 _ rfl _ rfl (HB0.out.later _) vqA rfl (by kernel_rfl) ?_) | (go_at_call 8; refine (Ret.later (KF.out _ (HL.out.ext (Later.h _)))).mono ?_; rintro y _ ⟨rfl, e, rfl⟩) | (clear tk2; refine wpList_row (by rfl) 29 _ rfl _ rfl (HB0.out.later _) vqA rfl (by kernel_rfl) ?_) | (go_at_call 13; refine (Ret.later (KS.out _ (HE.out.trans (Later.h _)))).mono ?_; rintro y _ ⟨rfl, e, rfl⟩))
  go_ret
  exact Ret.mk rfl (HE.out.trans e.h)
 have HS0 := hid hs
 rw [hs] at KS
 clear hs
 obtain ⟨i, hi⟩ : ∃ i, u % k = i := ⟨_, rfl⟩
 have HIK : Hid (i < k) := hid (by rw [<- hi]; exact Nat.mod_lt _ HZ.out)
 have u0 : (0 : Int) <= (u : Int) := by omega
 have u1 : (u : Int) <= 255 := by have := HU.out; omega
 have m1 : (u : Int) % (k : Int) = (i : Int) := by rw [<- hi]; rfl
 have m2 : Int.tmod (u : Int) (k : Int) = (i : Int) := by rw [Int.tmod_eq_emod_of_nonneg (by omega)]; exact m1
 have i0 : (0 : Int) <= (i : Int) := by omega
 have i1 : (i : Int) < (k : Int) := by have := HIK.out; omega
 have tc : decide (i < k) = true := decide_eq_true HIK.out
 obtain ⟨b, o, hA, hb, q0, q1, q2, q3, q4⟩ := HL.out.cells HIK.out
 obtain ⟨x, hx⟩ : ∃ x, bs i = x := ⟨_, rfl⟩
 rw [hx] at q0 q1 q2 q3 q4
 have HXE := hid hx
 have HSA := hid hS
 have HAE := hid hA
 clear hi hx hb hS
 subst hA
 go_upto_region 4 with (first | (go_at_call 7; refine (Ret.later (KA.out _ (HE.out.trans (Later.h _)))).mono ?_; rintro y _ ⟨rfl, e, rfl⟩) | (clear tk1; refine wpList_row (by rfl) 29 _ rfl _ rfl (HB0.out.later _) vqA rfl (by kernel_rfl) ?_) | (go_at_call 8; refine (Ret.later (KF.out _ (HL.out.ext (Later.h _)))).mono ?_; rintro y _ ⟨rfl, e, rfl⟩) | (clear tk2; refine wpList_row (by rfl) 29 _ rfl _ rfl (HB0.out.later _) vqA rfl (by kernel_rfl) ?_) | (go_at_call 13; refine (Ret.later (KS.out _ (HE.out.trans (Later.h _)))).mono ?_; rintro y _ ⟨rfl, e, rfl⟩))
 go_upto_region 5 with fail
 generalize hW1 : World.alloc e.x _ = W1
 have HEW : Hid (Ext V W1) := hid (by rw [<- hW1]; exact e.h.alloc _)
 have HXB : Hid (Blk W1 e.x.heap.size 45 (BV.c x)) := hid (by rw [<- hW1]; exact Blk.new _ _ _)
 clear hW1 q0 q1 q2 q3 q4 z1 z2 z3 z4 m1 m2
 generalize e.x.heap.size = xb at *
 clear e b19
 have HB3 := hid (HB0.out.ext HEW.out)
 have HL3 := hid (HL.out.ext HEW.out)
 have HW3 := hid (HE.out.trans HEW.out)
 have x0 : ∀ e : Later W1, e.x.cell? ⟨xb, 0, none⟩ = some (.int .i64 x.ty) := HXB.out.cellL 0 rfl
 have x1 : ∀ e : Later W1, e.x.cell? ⟨xb, 1, none⟩ = some (.int .i64 x.num) := HXB.out.cellL 1 rfl
 have KSE := hid (fun W (hW : Ext w W) => Sealed_any p bs k c (some ⟨b, o, none⟩) eb x.num (by have := HK18.out; omega) HDD.out W (HFO.out W hW) (HLW.out.ext hW))
 have KO := hid (fun W (hW : Ext w W) => Ops_any p bs k c (some ⟨b, o, none⟩) eb (by have := HK18.out; omega) HDD.out W (HFO.out W hW) (HLW.out.ext hW))
 clear HB0 HL KA KF KS
 obtain ⟨e, he⟩ := Later.self W1
 rw [he]
 clear he
 have tk1 : True := trivial
 have tk2 : True := trivial
 have SEC : True := trivial
 by_cases ht : x.ty = 11 \/ x.ty = 12
 case neg =>
  have h1 : x.ty ≠ 11 := fun q => ht (.inl q)
  have h2 : x.ty ≠ 12 := fun q => ht (.inr q)
  have t1 : (x.ty == 11) = false := by simpa using h1
  have t2 : (x.ty = 11) = False := eq_false h1
  have t3 : (x.ty != 11) = true := by simpa using h1
  have v1 : (x.ty == 12) = false := by simpa using h2
  have v2 : (x.ty = 12) = False := eq_false h2
  have v3 : (x.ty != 12) = true := by simpa using h2
  clear ht h1 h2
  go_wp2_with fail
  go_ret
  exact Ret.mk rfl (HW3.out.trans e.h)
 have HTY := hid ht
 obtain ⟨_, L, hLL, _, _⟩ := soundF_zero.1 HS0.out
 have HOL := hid hLL
 have HLL : Hid (L.length <= 32000) := hid (by have := opsF_len hLL; have := HK18.out; omega)
 have K : Hid (∀ W, Ext w W -> Calls Tryz.prog 17 #[bunV p (some ⟨b, o, none⟩) k c] W (fun e w' => ∃ A1 c1, e = .returned (.tuple #[.slice A1 L.length c1, .int .i64 0]) /\ Ext W w' /\ OsL w' A1 L.length (opN L))) := hid (fun W hW => (KO.out W hW).mono fun e w' hh => by
  rcases hh with ⟨h2, _⟩ | ⟨L, A1, c1, h2, h3, h4, h5⟩
  . rw [hLL] at h2; cases h2
  . rw [hLL] at h2; cases h2; exact ⟨A1, c1, h3, h4, h5.osl⟩)
 clear hLL KO
 -- the block seals or signs: what is sealed
 cases hse : sealedF bs k x.num with
 | true =>
  rw [hse] at KSE
  clear hse
  rcases ht with ht | ht
  .
   have t1 : (x.ty == 11) = true := by simpa using ht
   have t2 : (x.ty = 11) = True := eq_true ht
   have t3 : (x.ty != 11) = false := by simpa using ht
   have ht2 : x.ty ≠ 12 := by omega
   have v1 : (x.ty == 12) = false := by simpa using ht2
   have v2 : (x.ty = 12) = False := eq_false ht2
   have v3 : (x.ty != 12) = true := by simpa using ht2
   clear ht ht2
   go_wp2_with (first | (clear tk1; refine wpList_row (by rfl) 29 _ rfl _ rfl (HB3.out.later _) vqA rfl (by kernel_rfl) ?_) | (go_at_call 20; refine (Ret.later (KSE.out _ (HW3.out.trans (Later.h _)))).mono ?_; rintro y _ ⟨rfl, e, rfl⟩))
   go_ret
   exact Ret.mk rfl (HW3.out.trans e.h)
  .
   have t1 : (x.ty == 12) = true := by simpa using ht
   have t2 : (x.ty = 12) = True := eq_true ht
   have t3 : (x.ty != 12) = false := by simpa using ht
   have ht2 : x.ty ≠ 11 := by omega
   have v1 : (x.ty == 11) = false := by simpa using ht2
   have v2 : (x.ty = 11) = False := eq_false ht2
   have v3 : (x.ty != 11) = true := by simpa using ht2
   clear ht ht2
   go_wp2_with (first | (clear tk1; refine wpList_row (by rfl) 29 _ rfl _ rfl (HB3.out.later _) vqA rfl (by kernel_rfl) ?_) | (go_at_call 20; refine (Ret.later (KSE.out _ (HW3.out.trans (Later.h _)))).mono ?_; rintro y _ ⟨rfl, e, rfl⟩))
   go_ret
   exact Ret.mk rfl (HW3.out.trans e.h)
 | false =>
 rw [hse] at KSE
 have HSE := hid hse
 clear hse
 have key : ∀ (e : Later W1), True := fun _ => trivial
 rcases ht with ht | ht
 .
  have t1 : (x.ty == 11) = true := by simpa using ht
  have t2 : (x.ty = 11) = True := eq_true ht
  have t3 : (x.ty != 11) = false := by simpa using ht
  have ht2 : x.ty ≠ 12 := by omega
  have v1 : (x.ty == 12) = false := by simpa using ht2
  have v2 : (x.ty = 12) = False := eq_false ht2
  have v3 : (x.ty != 12) = true := by simpa using ht2
  clear ht ht2
  go_upto_region 8 with (first | (clear tk1; refine wpList_row (by rfl) 29 _ rfl _ rfl (HB3.out.later _) vqA rfl (by kernel_rfl) ?_) | (go_at_call 20; refine (Ret.later (KSE.out _ (HW3.out.trans (Later.h _)))).mono ?_; rintro y _ ⟨rfl, e, rfl⟩) | (clear tk2; refine wpList_row (by rfl) 29 _ rfl _ rfl (HB3.out.later _) vqA rfl (by kernel_rfl) ?_) | (go_at_call 17; refine (K.out _ (HW3.out.trans (Later.h _))).mono ?_; rintro y w5 ⟨A1, c1, rfl, hb5, ho5⟩; have HX5 := hid (e.h.trans hb5); have HO5 := hid ho5; clear hb5 ho5))
  have HB3 := hid (HB3.out.ext HX5.out)
  have HL3 := hid (HL3.out.ext HX5.out)
  have HW3 := hid (HW3.out.trans HX5.out)
  have HXB := hid (HXB.out.ext HX5.out)
  have x1 : ∀ e : Later w5, e.x.cell? ⟨xb, 1, none⟩ = some (.int .i64 x.num) := HXB.out.cellL 1 rfl
  have b19 : ∀ e : Later w5, e.x.cell? ⟨w.heap.size, 19, none⟩ = some (.slice (some ⟨b, o, none⟩) k c) := HB3.out.cellL 19 rfl
  have KT := hid (fun W t (hW : BsL W (some ⟨b, o, none⟩) k bs) => rType_any p bs k c (some ⟨b, o, none⟩) t (by omega) W hW)
  have ln9 : (L.length : Int) <= 32000 := by have := HLL.out; omega
  clear K KSE HX5 e key SEC
  obtain ⟨e, he⟩ := Later.self w5
  rw [he]
  clear he
  go_wp2_with fail
  go_loopw [9] (fun s wr => ∃ j : Nat, s = .int .i64 (j : Int) /\ Hid (j <= L.length /\ ∀ q, q < j -> hitO bs k x L q = false) /\ ∃ e : Later w5, wr = e.x) (fun s _ => L.length - (intOf s).toNat)
  case atStart => exact ⟨0, rfl, (show Hid _ from ⟨by omega, fun j hj => by omega⟩), e, rfl⟩
  case round =>
   clear e
   obtain ⟨j, rfl, hi, e, rfl⟩ := hrel
   have j0 : (0 : Int) <= (j : Int) := by omega
   by_cases hlt : j < L.length
   .
    obtain ⟨b9, o9, rfl, hb9, q0, q1, q2⟩ := HO5.out.cells hlt
    have tc9 : decide (j < L.length) = true := by simp [hlt]
    have j1 : (j : Int) < (L.length : Int) := by omega
    have HLJ := hid hlt
    clear hlt hb9
    obtain ⟨y, hy⟩ : ∃ y, opN L j = y := ⟨_, rfl⟩
    rw [hy] at q0 q1 q2
    have HYL := hid hy
    clear hy
    have KT1 := hid (fun W hW => KT.out W y.tgt hW)
    obtain ⟨ty, hty⟩ : ∃ ty, tyAt bs k y.tgt = ty := ⟨_, rfl⟩
    rw [hty] at KT1
    have HTT := hid hty
    clear hty
    have tkq : True := trivial
    go_upto_region 11 with fail
    by_cases ha : y.num = x.num
    case neg =>
     have HNO : Hid (hitO bs k x L j = false) := hid (by unfold hitO; rw [HYL.out]; simp [ha])
     have a1 : (y.num == x.num) = false := by simpa using ha
     have a2 : (y.num = x.num) = False := eq_false ha
     have a3 : (y.num != x.num) = true := by simpa using ha
     clear ha
     refine wp_region_later (by kernel_rfl) (by kernel_rfl) ?_
     repeat go_big_quiet_step (fail)
     refine wpQuiet_nil ?_
     rintro _ ⟨e, rfl⟩
     go_wp2_with fail
     go_roundw
     case rel => exact ⟨j + 1, by go_num, (show Hid _ from ⟨HLJ.out, fun q hq => by
      by_cases hqj : q = j
      . subst hqj; exact HNO.out
      . exact hi.out.2 q (by omega)⟩), e, rfl⟩
     case measure => have := HLJ.out; simp [intOf]; omega
    have a1 : (y.num == x.num) = true := by simpa using ha
    have a2 : (y.num = x.num) = True := eq_true ha
    have a3 : (y.num != x.num) = false := by simpa using ha
    by_cases hb : y.kind = 2
    case neg =>
     have HNO : Hid (hitO bs k x L j = false) := hid (by unfold hitO; rw [HYL.out]; simp [hb])
     have b1 : (y.kind == 2) = false := by simpa using hb
     have b2 : (y.kind = 2) = False := eq_false hb
     have b3 : (y.kind != 2) = true := by simpa using hb
     clear ha hb
     refine wp_region_later (by kernel_rfl) (by kernel_rfl) ?_
     repeat go_big_quiet_step (fail)
     refine wpQuiet_nil ?_
     rintro _ ⟨e, rfl⟩
     go_wp2_with fail
     go_roundw
     case rel => exact ⟨j + 1, by go_num, (show Hid _ from ⟨HLJ.out, fun q hq => by
      by_cases hqj : q = j
      . subst hqj; exact HNO.out
      . exact hi.out.2 q (by omega)⟩), e, rfl⟩
     case measure => have := HLJ.out; simp [intOf]; omega
    have b1 : (y.kind == 2) = true := by simpa using hb
    have b2 : (y.kind = 2) = True := eq_true hb
    have b3 : (y.kind != 2) = false := by simpa using hb
    by_cases hc : ty = 11
    .
     have c1 : (ty == 11) = true := by simpa using hc
     have c2 : (ty = 11) = True := eq_true hc
     have c3 : (ty != 11) = false := by simpa using hc
     clear ha hb hc
     refine wp_region_later (by kernel_rfl) (by kernel_rfl) ?_
     repeat (first | (clear tkq; refine later_row (by rfl) 29 _ rfl _ rfl (fun e => HB3.out.later e) vqA rfl (by kernel_rfl) ?_; simp only [Act.put, List.setIfInBounds_toArray, List.set_cons_zero, List.set_cons_succ]) | go_big_quiet_step ((go_at_call 23; exact Ret.later (KT1.out _ (HL3.out.ext (Later.h _))))))
     refine wpQuiet_nil ?_
     rintro _ ⟨e, rfl⟩
     go_wp2_with fail
     go_ret
     exact Ret.mk rfl (HW3.out.trans e.h)
    .
     have HNO : Hid (hitO bs k x L j = false) := hid (by unfold hitO; rw [HYL.out, HTT.out]; simp [hc])
     have c1 : (ty == 11) = false := by simpa using hc
     have c2 : (ty = 11) = False := eq_false hc
     have c3 : (ty != 11) = true := by simpa using hc
     clear ha hb hc
     refine wp_region_later (by kernel_rfl) (by kernel_rfl) ?_
     repeat (first | (clear tkq; refine later_row (by rfl) 29 _ rfl _ rfl (fun e => HB3.out.later e) vqA rfl (by kernel_rfl) ?_; simp only [Act.put, List.setIfInBounds_toArray, List.set_cons_zero, List.set_cons_succ]) | go_big_quiet_step ((go_at_call 23; exact Ret.later (KT1.out _ (HL3.out.ext (Later.h _))))))
     refine wpQuiet_nil ?_
     rintro _ ⟨e, rfl⟩
     go_wp2_with fail
     go_roundw
     case rel => exact ⟨j + 1, by go_num, (show Hid _ from ⟨HLJ.out, fun q hq => by
      by_cases hqj : q = j
      . subst hqj; exact HNO.out
      . exact hi.out.2 q (by omega)⟩), e, rfl⟩
     case measure => have := HLJ.out; simp [intOf]; omega
   .
    have hin : j = L.length := by have := hi.out.1; omega
    have tc9 : decide (j < L.length) = false := by simp [hin]
    have tc8 : decide ((j : Int) < (L.length : Int)) = false := by simp [hin]
    obtain ⟨n, hn⟩ : ∃ n, k = n + 1 := ⟨k - 1, by have := HZ.out; omega⟩
    have HFIN : Hid (soundF p (delP bs i) n (bunRight p (delP bs i) n) = 0) := hid (by
     subst hn
     exact less_end (by have := HIK.out; omega) HS0.out (by rw [HXE.out]; exact HTY.out) (by rw [HXE.out]; exact HSE.out) HOL.out (fun q hq => by rw [HXE.out]; exact hi.out.2 q (by omega)))
    have KWI : Hid (∀ W, Ext w5 W -> Calls Tryz.prog 9 #[bunV p (some ⟨b, o, none⟩) k c, .int .i64 (i : Int), .int .i64 1, .slice none 0 0] W (fun e w' => ∃ A' c', e = .returned (bunV p A' n c') /\ Ext W w' /\ BsL w' A' n (delP bs i))) := hid (fun W hW => by
     have hik := HIK.out
     refine (With_some p bs k c _ HSA.out i 1 (by omega) 0 0 none (fun _ => zeroB) ⟨fun _ => ⟨rfl, rfl⟩, Nat.le_refl _, Nat.zero_le _⟩ HZ.out (by have := HK18.out; omega) (by omega) W (HL3.out.ext hW) (fun q => absurd q (Nat.lt_irrefl 0))).mono fun e w' hh => ?_
     obtain ⟨A', c', h1, h2, h3, _⟩ := hh
     rw [show i + 0 + (k - (i + 1)) = n by omega] at h1 h3
     exact ⟨A', c', h1, h2, h3.congr fun j hj => with_delP bs _ i j⟩)
    have KS2 : Hid (∀ A' c' W, Ext w W -> BsL W A' n (delP bs i) -> Calls Tryz.prog 13 #[bunV p A' n c'] W (Ret (.int .i64 0) W)) := hid (fun A' c' W hW hL => by
     have := Sound_any p (delP bs i) n c' A' eb HNL HFL.out (by have := HK18.out; omega) (fun q hq => by
      unfold delP
      split
      . exact HDD.out q (by omega)
      . exact HDD.out (q + 1) (by omega)) W (HFO.out W hW) hL
     rw [HFIN.out] at this
     exact this)
    clear hin hlt hn HFIN hi
    have tk8 : True := trivial
    go_wp2_with (first | (clear tk8; refine wpList_row (by rfl) 29 _ rfl _ rfl (HB3.out.later _) vqA rfl (by kernel_rfl) ?_) | (go_at_call 9; refine (KWI.out _ (Later.h _)).mono ?_; rintro y w6 ⟨A6, c6, rfl, hb6, hl6⟩; have HX6 := hid (HW3.out.trans (e.h.trans hb6)); have HL6 := hid hl6; clear hb6 hl6) | (go_at_call 13; refine (KS2.out _ _ _ HX6.out HL6.out).mono ?_; rintro y w7 ⟨rfl, hb7⟩; have HX7 := hid (HX6.out.trans hb7); clear hb7))
    go_ret
    exact Ret.mk rfl HX7.out
 .
  have t1 : (x.ty == 12) = true := by simpa using ht
  have t2 : (x.ty = 12) = True := eq_true ht
  have t3 : (x.ty != 12) = false := by simpa using ht
  have ht2 : x.ty ≠ 11 := by omega
  have v1 : (x.ty == 11) = false := by simpa using ht2
  have v2 : (x.ty = 11) = False := eq_false ht2
  have v3 : (x.ty != 11) = true := by simpa using ht2
  clear ht ht2
  go_upto_region 8 with (first | (clear tk1; refine wpList_row (by rfl) 29 _ rfl _ rfl (HB3.out.later _) vqA rfl (by kernel_rfl) ?_) | (go_at_call 20; refine (Ret.later (KSE.out _ (HW3.out.trans (Later.h _)))).mono ?_; rintro y _ ⟨rfl, e, rfl⟩) | (clear tk2; refine wpList_row (by rfl) 29 _ rfl _ rfl (HB3.out.later _) vqA rfl (by kernel_rfl) ?_) | (go_at_call 17; refine (K.out _ (HW3.out.trans (Later.h _))).mono ?_; rintro y w5 ⟨A1, c1, rfl, hb5, ho5⟩; have HX5 := hid (e.h.trans hb5); have HO5 := hid ho5; clear hb5 ho5))
  have HB3 := hid (HB3.out.ext HX5.out)
  have HL3 := hid (HL3.out.ext HX5.out)
  have HW3 := hid (HW3.out.trans HX5.out)
  have HXB := hid (HXB.out.ext HX5.out)
  have x1 : ∀ e : Later w5, e.x.cell? ⟨xb, 1, none⟩ = some (.int .i64 x.num) := HXB.out.cellL 1 rfl
  have b19 : ∀ e : Later w5, e.x.cell? ⟨w.heap.size, 19, none⟩ = some (.slice (some ⟨b, o, none⟩) k c) := HB3.out.cellL 19 rfl
  have KT := hid (fun W t (hW : BsL W (some ⟨b, o, none⟩) k bs) => rType_any p bs k c (some ⟨b, o, none⟩) t (by omega) W hW)
  have ln9 : (L.length : Int) <= 32000 := by have := HLL.out; omega
  clear K KSE HX5 e key SEC
  obtain ⟨e, he⟩ := Later.self w5
  rw [he]
  clear he
  go_wp2_with fail
  go_loopw [9] (fun s wr => ∃ j : Nat, s = .int .i64 (j : Int) /\ Hid (j <= L.length /\ ∀ q, q < j -> hitO bs k x L q = false) /\ ∃ e : Later w5, wr = e.x) (fun s _ => L.length - (intOf s).toNat)
  case atStart => exact ⟨0, rfl, (show Hid _ from ⟨by omega, fun j hj => by omega⟩), e, rfl⟩
  case round =>
   clear e
   obtain ⟨j, rfl, hi, e, rfl⟩ := hrel
   have j0 : (0 : Int) <= (j : Int) := by omega
   by_cases hlt : j < L.length
   .
    obtain ⟨b9, o9, rfl, hb9, q0, q1, q2⟩ := HO5.out.cells hlt
    have tc9 : decide (j < L.length) = true := by simp [hlt]
    have j1 : (j : Int) < (L.length : Int) := by omega
    have HLJ := hid hlt
    clear hlt hb9
    obtain ⟨y, hy⟩ : ∃ y, opN L j = y := ⟨_, rfl⟩
    rw [hy] at q0 q1 q2
    have HYL := hid hy
    clear hy
    have KT1 := hid (fun W hW => KT.out W y.tgt hW)
    obtain ⟨ty, hty⟩ : ∃ ty, tyAt bs k y.tgt = ty := ⟨_, rfl⟩
    rw [hty] at KT1
    have HTT := hid hty
    clear hty
    have tkq : True := trivial
    go_upto_region 11 with fail
    by_cases ha : y.num = x.num
    case neg =>
     have HNO : Hid (hitO bs k x L j = false) := hid (by unfold hitO; rw [HYL.out]; simp [ha])
     have a1 : (y.num == x.num) = false := by simpa using ha
     have a2 : (y.num = x.num) = False := eq_false ha
     have a3 : (y.num != x.num) = true := by simpa using ha
     clear ha
     refine wp_region_later (by kernel_rfl) (by kernel_rfl) ?_
     repeat go_big_quiet_step (fail)
     refine wpQuiet_nil ?_
     rintro _ ⟨e, rfl⟩
     go_wp2_with fail
     go_roundw
     case rel => exact ⟨j + 1, by go_num, (show Hid _ from ⟨HLJ.out, fun q hq => by
      by_cases hqj : q = j
      . subst hqj; exact HNO.out
      . exact hi.out.2 q (by omega)⟩), e, rfl⟩
     case measure => have := HLJ.out; simp [intOf]; omega
    have a1 : (y.num == x.num) = true := by simpa using ha
    have a2 : (y.num = x.num) = True := eq_true ha
    have a3 : (y.num != x.num) = false := by simpa using ha
    by_cases hb : y.kind = 2
    case neg =>
     have HNO : Hid (hitO bs k x L j = false) := hid (by unfold hitO; rw [HYL.out]; simp [hb])
     have b1 : (y.kind == 2) = false := by simpa using hb
     have b2 : (y.kind = 2) = False := eq_false hb
     have b3 : (y.kind != 2) = true := by simpa using hb
     clear ha hb
     refine wp_region_later (by kernel_rfl) (by kernel_rfl) ?_
     repeat go_big_quiet_step (fail)
     refine wpQuiet_nil ?_
     rintro _ ⟨e, rfl⟩
     go_wp2_with fail
     go_roundw
     case rel => exact ⟨j + 1, by go_num, (show Hid _ from ⟨HLJ.out, fun q hq => by
      by_cases hqj : q = j
      . subst hqj; exact HNO.out
      . exact hi.out.2 q (by omega)⟩), e, rfl⟩
     case measure => have := HLJ.out; simp [intOf]; omega
    have b1 : (y.kind == 2) = true := by simpa using hb
    have b2 : (y.kind = 2) = True := eq_true hb
    have b3 : (y.kind != 2) = false := by simpa using hb
    by_cases hc : ty = 11
    .
     have c1 : (ty == 11) = true := by simpa using hc
     have c2 : (ty = 11) = True := eq_true hc
     have c3 : (ty != 11) = false := by simpa using hc
     clear ha hb hc
     refine wp_region_later (by kernel_rfl) (by kernel_rfl) ?_
     repeat (first | (clear tkq; refine later_row (by rfl) 29 _ rfl _ rfl (fun e => HB3.out.later e) vqA rfl (by kernel_rfl) ?_; simp only [Act.put, List.setIfInBounds_toArray, List.set_cons_zero, List.set_cons_succ]) | go_big_quiet_step ((go_at_call 23; exact Ret.later (KT1.out _ (HL3.out.ext (Later.h _))))))
     refine wpQuiet_nil ?_
     rintro _ ⟨e, rfl⟩
     go_wp2_with fail
     go_ret
     exact Ret.mk rfl (HW3.out.trans e.h)
    .
     have HNO : Hid (hitO bs k x L j = false) := hid (by unfold hitO; rw [HYL.out, HTT.out]; simp [hc])
     have c1 : (ty == 11) = false := by simpa using hc
     have c2 : (ty = 11) = False := eq_false hc
     have c3 : (ty != 11) = true := by simpa using hc
     clear ha hb hc
     refine wp_region_later (by kernel_rfl) (by kernel_rfl) ?_
     repeat (first | (clear tkq; refine later_row (by rfl) 29 _ rfl _ rfl (fun e => HB3.out.later e) vqA rfl (by kernel_rfl) ?_; simp only [Act.put, List.setIfInBounds_toArray, List.set_cons_zero, List.set_cons_succ]) | go_big_quiet_step ((go_at_call 23; exact Ret.later (KT1.out _ (HL3.out.ext (Later.h _))))))
     refine wpQuiet_nil ?_
     rintro _ ⟨e, rfl⟩
     go_wp2_with fail
     go_roundw
     case rel => exact ⟨j + 1, by go_num, (show Hid _ from ⟨HLJ.out, fun q hq => by
      by_cases hqj : q = j
      . subst hqj; exact HNO.out
      . exact hi.out.2 q (by omega)⟩), e, rfl⟩
     case measure => have := HLJ.out; simp [intOf]; omega
   .
    have hin : j = L.length := by have := hi.out.1; omega
    have tc9 : decide (j < L.length) = false := by simp [hin]
    have tc8 : decide ((j : Int) < (L.length : Int)) = false := by simp [hin]
    obtain ⟨n, hn⟩ : ∃ n, k = n + 1 := ⟨k - 1, by have := HZ.out; omega⟩
    have HFIN : Hid (soundF p (delP bs i) n (bunRight p (delP bs i) n) = 0) := hid (by
     subst hn
     exact less_end (by have := HIK.out; omega) HS0.out (by rw [HXE.out]; exact HTY.out) (by rw [HXE.out]; exact HSE.out) HOL.out (fun q hq => by rw [HXE.out]; exact hi.out.2 q (by omega)))
    have KWI : Hid (∀ W, Ext w5 W -> Calls Tryz.prog 9 #[bunV p (some ⟨b, o, none⟩) k c, .int .i64 (i : Int), .int .i64 1, .slice none 0 0] W (fun e w' => ∃ A' c', e = .returned (bunV p A' n c') /\ Ext W w' /\ BsL w' A' n (delP bs i))) := hid (fun W hW => by
     have hik := HIK.out
     refine (With_some p bs k c _ HSA.out i 1 (by omega) 0 0 none (fun _ => zeroB) ⟨fun _ => ⟨rfl, rfl⟩, Nat.le_refl _, Nat.zero_le _⟩ HZ.out (by have := HK18.out; omega) (by omega) W (HL3.out.ext hW) (fun q => absurd q (Nat.lt_irrefl 0))).mono fun e w' hh => ?_
     obtain ⟨A', c', h1, h2, h3, _⟩ := hh
     rw [show i + 0 + (k - (i + 1)) = n by omega] at h1 h3
     exact ⟨A', c', h1, h2, h3.congr fun j hj => with_delP bs _ i j⟩)
    have KS2 : Hid (∀ A' c' W, Ext w W -> BsL W A' n (delP bs i) -> Calls Tryz.prog 13 #[bunV p A' n c'] W (Ret (.int .i64 0) W)) := hid (fun A' c' W hW hL => by
     have := Sound_any p (delP bs i) n c' A' eb HNL HFL.out (by have := HK18.out; omega) (fun q hq => by
      unfold delP
      split
      . exact HDD.out q (by omega)
      . exact HDD.out (q + 1) (by omega)) W (HFO.out W hW) hL
     rw [HFIN.out] at this
     exact this)
    clear hin hlt hn HFIN hi
    have tk8 : True := trivial
    go_wp2_with (first | (clear tk8; refine wpList_row (by rfl) 29 _ rfl _ rfl (HB3.out.later _) vqA rfl (by kernel_rfl) ?_) | (go_at_call 9; refine (KWI.out _ (Later.h _)).mono ?_; rintro y w6 ⟨A6, c6, rfl, hb6, hl6⟩; have HX6 := hid (HW3.out.trans (e.h.trans hb6)); have HL6 := hid hl6; clear hb6 hl6) | (go_at_call 13; refine (KS2.out _ _ _ HX6.out HL6.out).mono ?_; rintro y w7 ⟨rfl, hb7⟩; have HX7 := hid (HX6.out.trans hb7); clear hb7))
    go_ret
    exact Ret.mk rfl HX7.out
end Go.Proofs.YtmckfdmdkljomaaGreatDoor
