/-
  What is made is read again: names.
-/
import Derived.Test.YtagjhkknefiieaaEid6
import Derived.Test.YtagjhkknefiieaaExt3
import Derived.Test.YtagjhkknefiieaaPs7
namespace Go.Proofs.Ytagjhkknefiieaa
open Go.RowKit
set_option linter.unusedVariables false

theorem parse_back {x : T} (hx : x.right 8 = true) (hox : x.ok) : parseR x.bytes = (x.bytes.length, 0) := by
  have h := flt_bytes x 8 hx hox []
  rw [List.append_nil] at h
  unfold parseR
  rw [h]
  rw [if_neg (by rintro ⟨_, h⟩; exact Nat.lt_irrefl _ h)]
/-- A name's block's four cells, stored anew. -/
def set4 (W : World) (b : Nat) (e : EV) : World := (((W.setCell ⟨b, 0, none⟩ (.int .i64 e.sch)).setCell ⟨b, 1, none⟩ (str e.name)).setCell ⟨b, 2, none⟩ (.int .u64 (e.node : Int))).setCell ⟨b, 3, none⟩ (.int .u64 (e.svc : Int))
theorem set4_blk {W : World} {b : Nat} {e0 e : EV} (h : Blk W b 24 e0.c) : Blk (set4 W b e) b 24 e.c := by
  have := (((h.set_ 0 (.int .i64 e.sch)).set_ 1 (str e.name)).set_ 2 (.int .u64 (e.node : Int))).set_ 3 (.int .u64 (e.svc : Int))
  unfold set4
  simpa using this
theorem set4_mod {w W : World} {S : List Nat} {b : Nat} {e : EV} (h : Mod S w W) (hb : w.heap.size ≤ b) : Mod S w (set4 W b e) := (((h.setCell (.inr hb) _).setCell (.inr hb) _).setCell (.inr hb) _).setCell (.inr hb) _
theorem cells4 {W : World} {b : Nat} {e : EV} (h : Blk W b 24 e.c) : W.cell? ⟨b, 0, none⟩ = some (.int .i64 e.sch) ∧ W.cell? ⟨b, 1, none⟩ = some (str e.name) ∧ W.cell? ⟨b, 2, none⟩ = some (.int .u64 (e.node : Int)) ∧ W.cell? ⟨b, 3, none⟩ = some (.int .u64 (e.svc : Int)) := ⟨h.cell 0, h.cell 1, h.cell 2, h.cell 3⟩
/-- A right item's bytes, parsed: the same item. -/
theorem parse_same {x : T} (hx : x.right 8 = true) (hxp : x.plain = true) (hox : x.ok) (hl : x.bytes.length ≤ 1073741824) (w : World) : Calls Try.prog 55 #[str x.bytes] w (fun e w' => ∃ t A c, e = .returned (.tuple #[itemV t A c, .int .i64 (-1), .int .i64 0]) ∧ Ext w w' ∧ t.right 8 = true ∧ t.ok ∧ t.same x = true ∧ x.same t = true ∧ IsL w' (fun _ => True) t A) := by
  refine (parse_any x.bytes hl w).mono fun e w' ⟨hb, h⟩ => ?_
  have h0 : (parseR x.bytes).2 = 0 := by rw [parse_back hx hox]
  rcases h with ⟨h1, _⟩ | ⟨_, t, A, c, he, ⟨hr, hok⟩, hbt, hl⟩
  · exact absurd h0 h1
  · have hp : t.plain = true := by have := hr; rw [T.right_eq, Bool.and_eq_true] at this; exact this.2
    have e1 := (T.bytes_inj t x hp hxp hok hox [] [] (by rw [hbt])).1
    have e2 := (T.bytes_inj x t hxp hp hox hok [] [] (by rw [hbt])).1
    exact ⟨t, A, c, he, hb, hr, hok, e1, e2, hl⟩
theorem same_mk {t : T} {kind : Int} {n : Nat} {s : List UInt8} {op : Bool} {k : Nat} {ch : Nat → T} (h : (T.mk kind n s op k ch).same t = true) : t.kind = kind ∧ t.n = n ∧ t.s = s ∧ t.op = op ∧ t.k = k ∧ ∀ i, i < k → (ch i).same (t.ch i) = true := by
  unfold T.same at h
  simp only [Bool.and_eq_true, beq_iff_eq] at h
  obtain ⟨⟨⟨⟨⟨h1, h2⟩, h3⟩, h4⟩, h5⟩, h6⟩ := h
  exact ⟨h1.symm, h2.symm, h3.symm, h4.symm, h5.symm, T.all_iff.1 h6⟩
theorem readE_same {e : EV} (ho : e.ok = true) {t : T} (h : (eidT e).same t = true) : readE t = e := by
  rcases EV.ok_cases ho with rfl | ⟨name, rfl, hn, hl⟩ | ⟨node, svc, rfl, ha, hb⟩
  · obtain ⟨h1, h2, h3, h4, h5, h6⟩ := same_mk h
    have g0 := same_mk (h6 0 (by omega))
    have g1 : (numT 0).same (t.ch 1) = true := h6 1 (by omega)
    have g1 := same_mk g1
    have z : ¬ (t.kind ≠ 4 ∨ t.k ≠ 2 ∨ (t.ch 0).kind ≠ 0) := by rw [h1, h5, g0.1]; decide
    have z2 : ¬ ((t.ch 0).n = 2 ∧ (t.ch 1).k = 2) := by rintro ⟨h, _⟩; rw [g0.2.1] at h; revert h; decide
    have z3 : ¬ ((t.ch 0).n = 1 ∧ (t.ch 1).kind = 3) := by rintro ⟨_, h⟩; rw [g1.1] at h; revert h; decide
    unfold readE
    rw [if_neg z, if_neg z2, if_neg z3]
    rfl
  · have h0 : ¬ name = noneL := hn
    have e1 : eidT ⟨1, name, 0, 0⟩ = T.mk 4 0 [] false 2 fun i => if i = 0 then numT 1 else textT name := by simp [eidT, twoT, h0]
    rw [e1] at h
    obtain ⟨h1, h2, h3, h4, h5, h6⟩ := same_mk h
    have g0 := same_mk (h6 0 (by omega))
    have g1 : (textT name).same (t.ch 1) = true := h6 1 (by omega)
    have g1 := same_mk g1
    have z : ¬ (t.kind ≠ 4 ∨ t.k ≠ 2 ∨ (t.ch 0).kind ≠ 0) := by rw [h1, h5, g0.1]; decide
    have z2 : ¬ ((t.ch 0).n = 2 ∧ (t.ch 1).k = 2) := by rintro ⟨h, _⟩; rw [g0.2.1] at h; revert h; decide
    have z3 : (t.ch 0).n = 1 ∧ (t.ch 1).kind = 3 := by rw [g0.2.1, g1.1]; decide
    unfold readE
    rw [if_neg z, if_neg z2, if_pos z3, g1.2.2.1]
  · obtain ⟨h1, h2, h3, h4, h5, h6⟩ := same_mk h
    have g0 := same_mk (h6 0 (by omega))
    have g1 : (T.mk 4 0 [] false 2 (fun j => if j = 0 then numT node else numT svc)).same (t.ch 1) = true := h6 1 (by omega)
    have g1 := same_mk g1
    have k0 : (numT node).same ((t.ch 1).ch 0) = true := g1.2.2.2.2.2 0 (by omega)
    have k1 : (numT svc).same ((t.ch 1).ch 1) = true := g1.2.2.2.2.2 1 (by omega)
    have k0 := same_mk k0
    have k1 := same_mk k1
    have z : ¬ (t.kind ≠ 4 ∨ t.k ≠ 2 ∨ (t.ch 0).kind ≠ 0) := by rw [h1, h5, g0.1]; decide
    have z2 : (t.ch 0).n = 2 ∧ (t.ch 1).k = 2 := ⟨g0.2.1, g1.2.2.2.2.1⟩
    unfold readE
    rw [if_neg z, if_pos z2, k0.2.1, k1.2.1]
set_option maxRecDepth 20000 in
theorem rp1_yes (e : EV) (ho : e.ok = true) (t : T) (hok : t.ok) (hr : t.right 8 = true) (h1 : t.same (eidT e) = true) (h2 : (eidT e).same t = true) (A : Option Addr) (c : Nat) (w : World) (h : IsL w (fun _ => True) t A) : Calls Try.prog 39 #[itemV t A c] w (Ret (.tuple #[e.v, .bool true]) w) := by
  have hE := readE_same ho h2
  have K : Hid (∀ W, IsL W (fun _ => True) t A → Calls Try.prog 40 #[itemV t A c] W (Ret (.tuple #[e.v, .int .i64 0]) W)) := fun W hW => by
    have := eidOf_yes t hok (by rw [hE]; exact ho) (by rw [hE, hr, h1]; rfl) A c W hW
    rw [hE] at this
    exact this
  have H := hid h
  clear hE h h1 h2 hr hok ho
  have HE := hid (((Mod.refl [] w).alloc (.cells (itemC t A c) 63)).alloc (.cells #[.int .i64 0, .string ⟨#[]⟩, .int .u64 0, .int .u64 0] 24))
  have HQ : Hid (Blk ((w.alloc (.cells (itemC t A c) 63)).alloc (.cells #[.int .i64 0, .string ⟨#[]⟩, .int .u64 0, .int .u64 0] 24)) (w.heap.size + 1) 24 zeroE.c) := Blk.new' (w.alloc (.cells (itemC t A c) 63)) 24 #[.int .i64 0, .string ⟨#[]⟩, .int .u64 0, .int .u64 0] (N := w.heap.size + 1) (by simp)
  go_enter Try.func39, Try.ntmps39
  go_wp2_with fail
  refine (K.out _ (H.out.ext HE.out)).mono ?_
  rintro e1 w1 ⟨rfl, hb1⟩
  have HE1 := hid ((HE.out.trans hb1).alloc (.cells e.c 24))
  have HQ1 := hid ((HQ.out.ext hb1).alloc (.cells e.c 24))
  clear hb1
  obtain ⟨c0, c1, c2, c3⟩ := cells4 HQ1.out
  have f0 := Blk.frozen HQ1.out 0
  have f1 := Blk.frozen HQ1.out 1
  have f2 := Blk.frozen HQ1.out 2
  have f3 := Blk.frozen HQ1.out 3
  go_wp2_with fail
  obtain ⟨d0, d1, d2, d3⟩ := cells4 (set4_blk (e := e) HQ1.out)
  clear c0 c1 c2 c3 f0 f1 f2 f3
  show bodyPost _ _ _ _ _ (set4 (w1.alloc (.cells e.c 24)) (w.heap.size + 1) e)
  refine bodyPost_ret (v := .tuple #[e.v, .bool true]) (by simp [results, Try.results39, go_sem, d0, d1, d2, d3]) rfl (Ret.mk rfl (set4_mod HE1.out (by omega)))
set_option maxRecDepth 20000 in
theorem readEID_yes (e : EV) (ho : e.ok = true) (w : World) : Calls Try.prog 38 #[str (eidT e).bytes, .func (Fn.func 39) #[] #[]] w (Ret (.tuple #[e.v, .int .i64 0]) w) := by
  obtain ⟨g1, g2, g3, g4⟩ := eidT_ok ho
  have hl := T.bytes_le (eidT e)
  have K := hid (fun W => parse_same (g2 8 (by omega)) g3 g1 (by omega) W)
  clear hl g1 g2 g3 g4
  have HE := hid (((Mod.refl [] w).alloc (.cells #[.int .i64 0, .string ⟨#[]⟩, .int .u64 0, .int .u64 0] 24)).alloc (.cells #[.int .i64 0, .string ⟨#[]⟩, .int .u64 0, .int .u64 0] 24))
  have HQ : Hid (Blk ((w.alloc (.cells #[.int .i64 0, .string ⟨#[]⟩, .int .u64 0, .int .u64 0] 24)).alloc (.cells #[.int .i64 0, .string ⟨#[]⟩, .int .u64 0, .int .u64 0] 24)) w.heap.size 24 zeroE.c) := (Blk.new w 24 #[.int .i64 0, .string ⟨#[]⟩, .int .u64 0, .int .u64 0]).alloc _
  go_enter Try.func38, Try.ntmps38
  go_wp2_with fail
  refine (K.out _).mono ?_
  rintro e1 w1 ⟨t, A, c, rfl, hb1, hr, hok, hs1, hs2, hl1⟩
  have HE1 := hid ((HE.out.trans hb1).alloc (.cells (itemC t A c) 63))
  have HQ1 := hid ((HQ.out.ext hb1).alloc (.cells (itemC t A c) 63))
  have HL1 : Hid (IsL (w1.alloc (.cells (itemC t A c) 63)) (fun _ => True) t A) := IsL.ext hl1 ((Mod.refl _ _).alloc _)
  have KO := hid (fun W hW => rp1_yes e ho t hok hr hs1 hs2 A c W hW)
  clear hb1 hl1 hr hok hs1 hs2 K
  go_wp2_with fail
  refine (KO.out _ HL1.out).mono ?_
  rintro e1 w2 ⟨rfl, hb2⟩
  have HE2 := hid ((HE1.out.trans hb2).alloc (.cells e.c 24))
  have HQ2 := hid ((HQ1.out.ext hb2).alloc (.cells e.c 24))
  clear hb2
  obtain ⟨c0, c1, c2, c3⟩ := cells4 HQ2.out
  have f0 := Blk.frozen HQ2.out 0
  have f1 := Blk.frozen HQ2.out 1
  have f2 := Blk.frozen HQ2.out 2
  have f3 := Blk.frozen HQ2.out 3
  go_wp2_with fail
  obtain ⟨d0, d1, d2, d3⟩ := cells4 (set4_blk (e := e) HQ2.out)
  clear c0 c1 c2 c3 f0 f1 f2 f3
  show bodyPost _ _ _ _ _ (set4 (w2.alloc (.cells e.c 24)) w.heap.size e)
  refine bodyPost_ret (v := .tuple #[e.v, .int .i64 0]) (by simp [results, Try.results38, go_sem, d0, d1, d2, d3]) rfl (Ret.mk rfl (set4_mod HE2.out (by omega)))
set_option maxRecDepth 20000 in
theorem ReadPrev_yes (e : EV) (ho : e.ok = true) (w : World) : Calls Try.prog 16 #[str (eidT e).bytes] w (Ret (.tuple #[e.v, .int .i64 0]) w) := by
  have K := hid (fun W => readEID_yes e ho W)
  generalize (eidT e).bytes = l at *
  have HE := hid ((Mod.refl [] w).alloc (.cells #[.int .i64 0, .string ⟨#[]⟩, .int .u64 0, .int .u64 0] 24))
  have HQ : Hid (Blk (w.alloc (.cells #[.int .i64 0, .string ⟨#[]⟩, .int .u64 0, .int .u64 0] 24)) w.heap.size 24 zeroE.c) := Blk.new w 24 #[.int .i64 0, .string ⟨#[]⟩, .int .u64 0, .int .u64 0]
  go_enter Try.func16, Try.ntmps16
  go_wp2_with fail
  refine (K.out _).mono ?_
  rintro e1 w1 ⟨rfl, hb1⟩
  have HE1 := hid (HE.out.trans hb1)
  have HQ1 := hid (HQ.out.ext hb1)
  clear hb1
  obtain ⟨c0, c1, c2, c3⟩ := cells4 HQ1.out
  have f0 := Blk.frozen HQ1.out 0
  have f1 := Blk.frozen HQ1.out 1
  have f2 := Blk.frozen HQ1.out 2
  have f3 := Blk.frozen HQ1.out 3
  go_wp2_with fail
  obtain ⟨d0, d1, d2, d3⟩ := cells4 (set4_blk (e := e) HQ1.out)
  clear c0 c1 c2 c3 f0 f1 f2 f3
  show bodyPost _ _ _ _ _ (set4 w1 w.heap.size e)
  refine bodyPost_ret (v := .tuple #[e.v, .int .i64 0]) (by simp [results, Try.results16, go_sem, d0, d1, d2, d3]) rfl (Ret.mk rfl (set4_mod HE1.out (by omega)))
end Go.Proofs.Ytagjhkknefiieaa
