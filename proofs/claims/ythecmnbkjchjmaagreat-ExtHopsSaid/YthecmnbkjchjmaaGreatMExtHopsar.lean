/-
 A block's header.
-/
import Derived.Test.YthecmnbkjchjmaaGreatMExtHopsam
import Derived.Test.YthecmnbkjchjmaaGreatMExtHopsap
import Derived.Test.YthecmnbkjchjmaaGreatMExtHopsaq
namespace Go.Proofs.YthecmnbkjchjmaaGreat
open Go.RowKit
set_option linter.unusedVariables false
set_option linter.unusedSimpArgs false
theorem bv_nat {b : BV} (h : b.right = 0) : ∃ ty num : Nat, b = ⟨ty, num, b.fl, b.crc, b.data⟩ := by
 obtain ⟨ty, num, fl, crc, data⟩ := b
 have h := BV.right_zero h
 simp only [] at h
 obtain ⟨ty, rfl⟩ := Int.eq_ofNat_of_zero_le (show 0 <= ty by omega)
 obtain ⟨num, rfl⟩ := Int.eq_ofNat_of_zero_le (show 0 <= num by omega)
 exact ⟨ty, num, rfl⟩
def parseR (l : List UInt8) : Nat × Int := if (flt 8 l).2 = 0 /\ (flt 8 l).1 < l.length then ((flt 8 l).1, 2) else flt 8 l
def PPost (l : List UInt8) (w : World) (x : Ending) (w' : World) : Prop :=
 Ext w w' /\ (((parseR l).2 ≠ 0 /\ x = .returned (.tuple #[itemV nulT none 0, .int .i64 ((parseR l).1 : Int), .int .i64 (parseR l).2])) \/
  ((parseR l).2 = 0 /\ ∃ t A c, x = .returned (.tuple #[itemV t A c, .int .i64 (-1), .int .i64 0]) /\ (t.right 8 = true /\ t.ok) /\ t.bytes = l /\ IsL w' (fun _ => True) t A))
def PPostC (l : List UInt8) (w : World) (x : Ending) (w' : World) : Prop :=
 Ext w w' /\ (((parseR l).2 ≠ 0 /\ x = .returned (.tuple #[itemV nulT none 0, .int .i64 ((parseR l).1 : Int), .int .i64 (parseR l).2])) \/
  ((parseR l).2 = 0 /\ ∃ t A c, x = .returned (.tuple #[itemV t A c, .int .i64 (-1), .int .i64 0]) /\ (t.right 8 = true /\ t.ok) /\ t.bytes = l /\ IsC w' (fun _ => True) t A c))
theorem PPostC.out {l : List UInt8} {w : World} {x : Ending} {w' : World} (h : PPostC l w x w') : PPost l w x w' := by
 obtain ⟨hb, h | ⟨h0, t, A, c, h1, h2, h3, h4⟩⟩ := h
 . exact ⟨hb, .inl h⟩
 . exact ⟨hb, .inr ⟨h0, t, A, c, h1, h2, h3, h4.isL⟩⟩
set_option maxRecDepth 20000 in
set_option maxHeartbeats 1600000 in
theorem parse_anyC (l : List UInt8) (hl : Hid (l.length <= 1073741824)) (w : World) : Calls Tryz.prog 84 #[str l] w (PPostC l w) := by
 have hF0 : Hid (flt 8 (l.drop 0) = flt 8 l) := by unfold Hid; rw [List.drop_zero]
 have HP1 : Hid (PAt ((w.alloc (.cells (itemC nulT none 0) 86)).alloc (.cells #[str l, .int .i64 ((0 : Nat) : Int), .int .i64 0] 138)) (w.heap.size + 1) l 0 0) := Blk.newAt _ _ _ (by simp)
 have HB1 : Hid (Blk ((w.alloc (.cells (itemC nulT none 0) 86)).alloc (.cells #[str l, .int .i64 ((0 : Nat) : Int), .int .i64 0] 138)) w.heap.size 86 (itemC nulT none 0)) := (Blk.new _ _ _).alloc _
 have HE1 := hid (((Mod.refl [w.heap.size + 1] w).alloc (.cells (itemC nulT none 0) 86)).alloc (.cells #[str l, .int .i64 ((0 : Nat) : Int), .int .i64 0] 138))
 go_enter Tryz.func84, Tryz.ntmps84
 go_upto_region 2 with fail
 go_cut [6] (fun s6 wx => ∃ X t A c, s6 = .pointer (some ⟨X, 0, none⟩) /\ Hid (Mod [w.heap.size + 1] w wx /\ PAt wx (w.heap.size + 1) l (flt 8 l).1 (flt 8 l).2 /\ Blk wx w.heap.size 86 (itemC nulT none 0) /\ Blk wx X 86 (itemC t A c) /\ w.heap.size + 1 < X /\
   ((flt 8 l).2 = 0 -> (t.right 8 = true /\ t.ok) /\ t.bytes ++ l.drop (flt 8 l).1 = l /\ IsC wx (fun b => w.heap.size + 2 <= b /\ b ≠ X) t A c)))
 case first =>
  go_wp2_with fail
  refine (pitem_any (w.heap.size + 1) l hl.out 8 (by omega) 0 (by omega) _ HP1.out).mono ?_
  rintro x w2 ⟨t, A, c, rfl, hm2, hp2, hs2⟩
  rw [hF0.out] at hp2 hs2
  rw [Nat.zero_add] at hp2 hs2
  rw [List.drop_zero] at hs2
  have HB2 := hid (HB1.out.mod hm2 (by simp))
  have HP2 := hid hp2
  have HS2 := hid hs2
  have HE2 := hid (HE1.out.trans hm2)
  clear hm2 hp2 hs2 HB1 HE1 HP1
  go_wp2_with fail
  go_meet
  refine ⟨w2.heap.size, t, A, c, rfl, HE2.out.alloc _, Blk.alloc HP2.out _, HB2.out.alloc _, Blk.new _ _ _, Blk.lt HP2.out, fun h0 => ⟨(HS2.out h0).1, (HS2.out h0).2.1, ?_⟩⟩
  have h3 := (HS2.out h0).2.2
  exact IsC.ext (IsC.weak (fun k hk hq => ⟨by simpa using hq, by omega⟩) t h3) ((Mod.refl _ _).alloc _)
 obtain ⟨X, t, A, c, rfl, hH⟩ := hcut
 clear HB1 HE1 HP1 hF0
 obtain ⟨E, hE⟩ : ∃ E, E = (flt 8 l).2 := ⟨_, rfl⟩
 obtain ⟨q, hq⟩ : ∃ q, q = (flt 8 l).1 := ⟨_, rfl⟩
 have HPR : Hid (parseR l = if E = 0 /\ q < l.length then (q, 2) else (q, E)) := by unfold Hid parseR; rw [hE, hq]
 rw [<- hE, <- hq] at hH
 have hql : q <= l.length := by rw [hq]; exact flt_le 8 l
 have q0 : (0 : Int) <= (q : Int) := by omega
 have q1 : (q : Int) <= (l.length : Int) := by omega
 have l1 : (l.length : Int) <= 1073741824 := by have := hl.out; omega
 have HQL := hid hql
 clear hE hq hql
 have p1 : wc.cell? ⟨w.heap.size + 1, 1, none⟩ = some (.int .i64 (q : Int)) := PAt.at_ hH.out.2.1
 have p2 : wc.cell? ⟨w.heap.size + 1, 2, none⟩ = some (.int .i64 E) := PAt.err hH.out.2.1
 by_cases hE : E = 0
 .
  subst hE
  by_cases hql : q < l.length
  .
   have tl : decide (q < l.length) = true := by simp [hql]
   have tl2 : decide ((q : Int) < (l.length : Int)) = true := by simp [hql]
   have HPE := hid HPR.out
   rw [if_pos ⟨rfl, hql⟩] at HPE
   clear hql
   go_upto_region 4 with fail
   go_wp2_with fail
   refine (pfail_any (w.heap.size + 1) l q q 2 _ hH.out.2.1).mono ?_
   rintro x w3 ⟨rfl, hm3, hp3⟩
   have HM3 := hid (hH.out.1.trans hm3)
   have HP3 := hid hp3
   have HB3 := hid (hH.out.2.2.1.mod hm3 (by simp))
   clear hm3 hp3 p1 p2
   have p1 : w3.cell? ⟨w.heap.size + 1, 1, none⟩ = some (.int .i64 (q : Int)) := PAt.at_ HP3.out
   have p2 : w3.cell? ⟨w.heap.size + 1, 2, none⟩ = some (.int .i64 2) := PAt.err HP3.out
   obtain ⟨c0, c1, c2, c3, c4⟩ := cells5 HB3.out
   have f0 := Blk.frozen HB3.out 0
   have f1 := Blk.frozen HB3.out 1
   have f2 := Blk.frozen HB3.out 2
   have f3 := Blk.frozen HB3.out 3
   have f4 := Blk.frozen HB3.out 4
   go_upto_region 6 with fail
   have HW : Hid (Mod [w.heap.size + 1] w (set5 w3 w.heap.size nulT none 0).drew /\ Blk (set5 w3 w.heap.size nulT none 0).drew w.heap.size 86 (itemC nulT none 0)) := ⟨(set5_mod HM3.out (Nat.le_refl _)).drew, Blk.drew (set5_blk HB3.out)⟩
   go_cut [3, 4] (fun s3 s4 wx => s3 = .int .i64 (q : Int) /\ s4 = .int .i64 2 /\ Hid (Mod [w.heap.size + 1] w wx /\ Blk wx w.heap.size 86 (itemC nulT none 0)))
   case first =>
    go_region
    all_goals go_wp2_with fail
    all_goals go_meet
    all_goals exact ⟨rfl, rfl, HW.out.1, HW.out.2⟩
   clear c0 c1 c2 c3 c4 f0 f1 f2 f3 f4
   obtain ⟨rfl, rfl, hR⟩ := hcut
   obtain ⟨d0, d1, d2, d3, d4⟩ := cells5 hR.out.2
   go_wp2_with fail
   refine bodyPost_ret (v := .tuple #[itemV nulT none 0, .int .i64 (q : Int), .int .i64 2]) (by simp [results, Tryz.results84, go_sem, d0, d1, d2, d3, d4]) rfl ?_
   refine ⟨Mod.new (S := [w.heap.size + 1]) hR.out.1 (fun k hk => by rw [List.mem_singleton] at hk; subst hk; exact .inr (by omega)), .inl ?_⟩
   rw [HPE.out]
   exact ⟨(show ¬ ((2 : Int) = 0) by decide), rfl⟩
  .
   have tl : decide (q < l.length) = false := by simp [hql]
   have tl2 : decide ((q : Int) < (l.length : Int)) = false := by simp; omega
   have HPE := hid HPR.out
   rw [if_neg (fun h => hql h.2)] at HPE
   have HQ := hid hql
   clear hql
   obtain ⟨x0, x1, x2, x3, x4⟩ := cells5 hH.out.2.2.2.1
   obtain ⟨c0, c1, c2, c3, c4⟩ := cells5 hH.out.2.2.1
   have f0 := Blk.frozen hH.out.2.2.1 0
   have f1 := Blk.frozen hH.out.2.2.1 1
   have f2 := Blk.frozen hH.out.2.2.1 2
   have f3 := Blk.frozen hH.out.2.2.1 3
   have f4 := Blk.frozen hH.out.2.2.1 4
   go_wp2_with fail
   obtain ⟨d0, d1, d2, d3, d4⟩ := cells5 (set5_blk (t := t) (A := A) (c := c) hH.out.2.2.1)
   clear c0 c1 c2 c3 c4 f0 f1 f2 f3 f4 x0 x1 x2 x3 x4 p1 p2
   show bodyPost _ _ _ _ _ (set5 wc w.heap.size t A c)
   refine bodyPost_ret (v := .tuple #[itemV t A c, .int .i64 (-1), .int .i64 0]) (by simp [results, Tryz.results84, go_sem, d0, d1, d2, d3, d4]) rfl ?_
   refine ⟨Mod.new (S := [w.heap.size + 1]) (set5_mod hH.out.1 (Nat.le_refl _)) (fun k hk => by rw [List.mem_singleton] at hk; subst hk; exact .inr (by omega)), .inr ?_⟩
   have h1 := hH.out.2.2.2.2.2 (by first | rfl | trivial)
   rw [HPE.out]
   refine ⟨rfl, t, A, c, rfl, h1.1, ?_, ?_⟩
   .
    have h2 := h1.2.1
    have hqe : q = l.length := by have := HQ.out; have := HQL.out; omega
    rw [hqe, List.drop_length, List.append_nil] at h2
    exact h2
   . exact IsC.weak (fun k hk hq => trivial) t (IsC.mod set5_modb (fun k hq hk hm => by rw [List.mem_singleton] at hm; have := hq.1; omega) t h1.2.2)
 .
  have te : (E == 0) = false := by simp [hE]
  have te2 : (E = 0) = False := by simp [hE]
  have tn : (E != 0) = true := by simp [hE]
  have HPE := hid HPR.out
  rw [if_neg (fun h => hE h.1)] at HPE
  have HNE := hid hE
  clear hE
  obtain ⟨c0, c1, c2, c3, c4⟩ := cells5 hH.out.2.2.1
  have f0 := Blk.frozen hH.out.2.2.1 0
  have f1 := Blk.frozen hH.out.2.2.1 1
  have f2 := Blk.frozen hH.out.2.2.1 2
  have f3 := Blk.frozen hH.out.2.2.1 3
  have f4 := Blk.frozen hH.out.2.2.1 4
  go_upto_region 6 with fail
  have HW : Hid (Mod [w.heap.size + 1] w (set5 wc w.heap.size nulT none 0).drew /\ Blk (set5 wc w.heap.size nulT none 0).drew w.heap.size 86 (itemC nulT none 0)) := ⟨(set5_mod hH.out.1 (Nat.le_refl _)).drew, Blk.drew (set5_blk hH.out.2.2.1)⟩
  go_cut [3, 4] (fun s3 s4 wx => s3 = .int .i64 (q : Int) /\ s4 = .int .i64 E /\ Hid (Mod [w.heap.size + 1] w wx /\ Blk wx w.heap.size 86 (itemC nulT none 0)))
  case first =>
   go_region
   all_goals go_wp2_with fail
   all_goals go_meet
   all_goals exact ⟨rfl, rfl, HW.out.1, HW.out.2⟩
  clear c0 c1 c2 c3 c4 f0 f1 f2 f3 f4
  obtain ⟨rfl, rfl, hR⟩ := hcut
  obtain ⟨d0, d1, d2, d3, d4⟩ := cells5 hR.out.2
  go_wp2_with fail
  refine bodyPost_ret (v := .tuple #[itemV nulT none 0, .int .i64 (q : Int), .int .i64 E]) (by simp [results, Tryz.results84, go_sem, d0, d1, d2, d3, d4]) rfl ?_
  refine ⟨Mod.new (S := [w.heap.size + 1]) hR.out.1 (fun k hk => by rw [List.mem_singleton] at hk; subst hk; exact .inr (by omega)), .inl ?_⟩
  rw [HPE.out]
  exact ⟨HNE.out, rfl⟩
theorem parse_any (l : List UInt8) (hl : Hid (l.length <= 1073741824)) (w : World) : Calls Tryz.prog 84 #[str l] w (PPost l w) := (parse_anyC l hl w).mono fun _ _ h => h.out
theorem parse_back {x : T} (hx : x.right 8 = true) (hox : x.ok) : parseR x.bytes = (x.bytes.length, 0) := by
 have h := flt_bytes x 8 hx hox []
 rw [List.append_nil] at h
 unfold parseR
 rw [h]
 rw [if_neg (by rintro ⟨_, h⟩; exact Nat.lt_irrefl _ h)]
def set4 (W : World) (b : Nat) (e : EV) : World := (((W.setCell ⟨b, 0, none⟩ (.int .i64 e.sch)).setCell ⟨b, 1, none⟩ (str e.name)).setCell ⟨b, 2, none⟩ (.int .u64 (e.node : Int))).setCell ⟨b, 3, none⟩ (.int .u64 (e.svc : Int))
theorem set4_blk {W : World} {b : Nat} {e0 e : EV} (h : Blk W b 24 e0.c) : Blk (set4 W b e) b 24 e.c := by
 have := (((h.set_ 0 (.int .i64 e.sch)).set_ 1 (str e.name)).set_ 2 (.int .u64 (e.node : Int))).set_ 3 (.int .u64 (e.svc : Int))
 unfold set4
 simpa using this
theorem set4_mod {w W : World} {S : List Nat} {b : Nat} {e : EV} (h : Mod S w W) (hb : w.heap.size <= b) : Mod S w (set4 W b e) := (((h.setCell (.inr hb) _).setCell (.inr hb) _).setCell (.inr hb) _).setCell (.inr hb) _
theorem cells4 {W : World} {b : Nat} {e : EV} (h : Blk W b 24 e.c) : W.cell? ⟨b, 0, none⟩ = some (.int .i64 e.sch) /\ W.cell? ⟨b, 1, none⟩ = some (str e.name) /\ W.cell? ⟨b, 2, none⟩ = some (.int .u64 (e.node : Int)) /\ W.cell? ⟨b, 3, none⟩ = some (.int .u64 (e.svc : Int)) := ⟨h.cell 0, h.cell 1, h.cell 2, h.cell 3⟩
theorem same_mk {t : T} {kind : Int} {n : Nat} {s : List UInt8} {op : Bool} {k : Nat} {ch : Nat -> T} (h : (T.mk kind n s op k ch).same t = true) : t.kind = kind /\ t.n = n /\ t.s = s /\ t.op = op /\ t.k = k /\ ∀ i, i < k -> (ch i).same (t.ch i) = true := by
 unfold T.same at h
 simp only [Bool.and_eq_true, beq_iff_eq] at h
 obtain ⟨⟨⟨⟨⟨h1, h2⟩, h3⟩, h4⟩, h5⟩, h6⟩ := h
 exact ⟨h1.symm, h2.symm, h3.symm, h4.symm, h5.symm, T.all_iff.1 h6⟩
theorem readE_same {e : EV} (ho : e.ok = true) {t : T} (h : (eidT e).same t = true) : readE t = e := by
 rcases EV.ok_cases ho with rfl | ⟨name, rfl, hn, hl⟩ | ⟨node, svc, rfl, ha, hb⟩
 .
  obtain ⟨h1, h2, h3, h4, h5, h6⟩ := same_mk h
  have g0 := same_mk (h6 0 (by omega))
  have g1 : (numT 0).same (t.ch 1) = true := h6 1 (by omega)
  have g1 := same_mk g1
  have z : ¬ (t.kind ≠ 4 \/ t.k ≠ 2 \/ (t.ch 0).kind ≠ 0) := by rw [h1, h5, g0.1]; decide
  have z2 : ¬ ((t.ch 0).n = 2 /\ (t.ch 1).k = 2) := by rintro ⟨h, _⟩; rw [g0.2.1] at h; revert h; decide
  have z3 : ¬ ((t.ch 0).n = 1 /\ (t.ch 1).kind = 3) := by rintro ⟨_, h⟩; rw [g1.1] at h; revert h; decide
  unfold readE
  rw [if_neg z, if_neg z2, if_neg z3]
  rfl
 .
  have h0 : ¬ name = noneL := hn
  have e1 : eidT ⟨1, name, 0, 0⟩ = T.mk 4 0 [] false 2 fun i => if i = 0 then numT 1 else textT name := by simp [eidT, twoT, h0]
  rw [e1] at h
  obtain ⟨h1, h2, h3, h4, h5, h6⟩ := same_mk h
  have g0 := same_mk (h6 0 (by omega))
  have g1 : (textT name).same (t.ch 1) = true := h6 1 (by omega)
  have g1 := same_mk g1
  have z : ¬ (t.kind ≠ 4 \/ t.k ≠ 2 \/ (t.ch 0).kind ≠ 0) := by rw [h1, h5, g0.1]; decide
  have z2 : ¬ ((t.ch 0).n = 2 /\ (t.ch 1).k = 2) := by rintro ⟨h, _⟩; rw [g0.2.1] at h; revert h; decide
  have z3 : (t.ch 0).n = 1 /\ (t.ch 1).kind = 3 := by rw [g0.2.1, g1.1]; decide
  unfold readE
  rw [if_neg z, if_neg z2, if_pos z3, g1.2.2.1]
 .
  obtain ⟨h1, h2, h3, h4, h5, h6⟩ := same_mk h
  have g0 := same_mk (h6 0 (by omega))
  have g1 : (T.mk 4 0 [] false 2 (fun j => if j = 0 then numT node else numT svc)).same (t.ch 1) = true := h6 1 (by omega)
  have g1 := same_mk g1
  have k0 : (numT node).same ((t.ch 1).ch 0) = true := g1.2.2.2.2.2 0 (by omega)
  have k1 : (numT svc).same ((t.ch 1).ch 1) = true := g1.2.2.2.2.2 1 (by omega)
  have k0 := same_mk k0
  have k1 := same_mk k1
  have z : ¬ (t.kind ≠ 4 \/ t.k ≠ 2 \/ (t.ch 0).kind ≠ 0) := by rw [h1, h5, g0.1]; decide
  have z2 : (t.ch 0).n = 2 /\ (t.ch 1).k = 2 := ⟨g0.2.1, g1.2.2.2.2.1⟩
  unfold readE
  rw [if_neg z, if_pos z2, k0.2.1, k1.2.1]
theorem numT_plain (n : Nat) : (numT n).plain = true /\ (numT n).bytes.length <= 9 := by
 have := headL_le 0 n
 exact ⟨by simp [numT, T.plain, T.node, T.all], by simpa [numT, T.bytes] using this⟩
theorem pairT2_plain (l k : Nat) : (pairT2 l k).plain = true /\ (pairT2 l k).size <= 100 := by
 exact ⟨by simp [pairT2, numT, T.plain, T.node, T.all], by simp [pairT2, numT, T.size, T.sum]⟩
theorem T.plain_of {t : T} {d : Nat} (h : t.right d = true) : t.plain = true := by
 rw [T.right_eq, Bool.and_eq_true] at h; exact h.2
theorem bytes_same {a b : T} (ha : a.plain = true) (hb : b.plain = true) (oa : a.ok) (ob : b.ok) (h : a.bytes = b.bytes) : a.same b = true := (T.bytes_inj a b ha hb oa ob [] [] (by rw [h])).1
def isPrev (s : List UInt8) (e : EV) : Prop := e.ok = true /\ (eidT e).bytes = s
def isAge (s : List UInt8) (n : Nat) : Prop := n <= 1099511627776 /\ headL 0 n = s
def isHops (s : List UInt8) (h : Nat × Nat) : Prop := mayB h.1 h.2 = true /\ 130 :: (headL 0 h.1 ++ headL 0 h.2) = s
open Classical in
noncomputable def theO {α : Type} (P : α -> Prop) : Option α := if h : ∃ e, P e then some h.choose else none
theorem theO_some {α : Type} {P : α -> Prop} (u : ∀ x y, P x -> P y -> x = y) {x : α} (h : P x) : theO P = some x := by
 unfold theO
 have hx : ∃ e, P e := ⟨x, h⟩
 rw [dif_pos hx, u _ _ hx.choose_spec h]
theorem theO_none {α : Type} {P : α -> Prop} (h : ∀ x, ¬ P x) : theO P = none := by
 unfold theO
 rw [dif_neg (by rintro ⟨x, hx⟩; exact h x hx)]
noncomputable def prevO (s : List UInt8) : Option EV := theO (isPrev s)
noncomputable def ageO (s : List UInt8) : Option Nat := theO (isAge s)
noncomputable def hopsO (s : List UInt8) : Option (Nat × Nat) := theO (isHops s)
def PTree (l : List UInt8) : Prop := (parseR l).2 = 0 -> ∃ t : T, t.right 8 = true /\ t.ok /\ t.bytes = l
theorem prev_tree {t : T} (hr : t.right 8 = true) (hok : t.ok) {e : EV} (h : isPrev t.bytes e) : readE t = e /\ ofB t = true := by
 obtain ⟨g1, g2, g3, g4⟩ := eidT_ok h.1
 have p := T.plain_of hr
 have s1 := bytes_same g3 p g1 hok h.2
 have s2 := bytes_same p g3 hok g1 h.2.symm
 have e1 := readE_same h.1 s1
 refine ⟨e1, ?_⟩
 unfold ofB
 rw [e1, h.1, hr, s2]; rfl
theorem tree_prev {t : T} (hr : t.right 8 = true) (hok : t.ok) (h : ofB t = true) : isPrev t.bytes (readE t) := by
 unfold ofB at h
 rw [hr] at h
 simp only [Bool.and_eq_true, Bool.true_and] at h
 obtain ⟨g1, g2, g3, g4⟩ := eidT_ok h.1
 exact ⟨h.1, (T.same_bytes t _ g1 h.2).symm⟩
theorem isPrev_inj {s : List UInt8} (x y : EV) (hx : isPrev s x) (hy : isPrev s y) : x = y := by
 obtain ⟨g1, g2, g3, g4⟩ := eidT_ok hx.1
 have h1 := readE_same hx.1 (T.same_refl (eidT x))
 have h2 : isPrev (eidT x).bytes y := by rw [hx.2]; exact hy
 rw [<- h1, (prev_tree (g2 8 (by omega)) g1 h2).1]
theorem prevO_bad {s : List UInt8} (h : (parseR s).2 ≠ 0) : prevO s = none := theO_none fun e he => h (by
 obtain ⟨g1, g2, g3, g4⟩ := eidT_ok he.1
 rw [<- he.2, parse_back (g2 8 (by omega)) g1])
theorem prevO_tree {t : T} (hr : t.right 8 = true) (hok : t.ok) : prevO t.bytes = if ofB t then some (readE t) else none := by
 by_cases h : ofB t = true
 . rw [if_pos h]; exact theO_some isPrev_inj (tree_prev hr hok h)
 . rw [if_neg h]; exact theO_none fun e he => h (prev_tree hr hok he).2
theorem isAge_inj {s : List UInt8} (x y : Nat) (hx : isAge s x) (hy : isAge s y) : x = y := by
 have e : (numT x).bytes = (numT y).bytes := by rw [(numT_facts x).2.2, (numT_facts y).2.2, hx.2, hy.2]
 have := bytes_same (numT_plain x).1 (numT_plain y).1 (num_ok (by have := hx.1; omega)) (num_ok (by have := hy.1; omega)) e
 exact (same_mk this).2.1.symm
theorem ageO_bad {s : List UInt8} (h : (parseR s).2 ≠ 0) : ageO s = none := theO_none fun n hn => h (by
 rw [<- hn.2, <- (numT_facts n).2.2, parse_back (numT_facts n).2.1 (num_ok (by have := hn.1; omega))])
def ageB (t : T) : Bool := decide (t.kind = 0) && decide (t.n <= 1099511627776)
theorem ageO_tree {t : T} (hr : t.right 8 = true) (hok : t.ok) : ageO t.bytes = if ageB t then some t.n else none := by
 have p := T.plain_of hr
 by_cases h : ageB t = true
 .
  rw [if_pos h]
  simp only [ageB, Bool.and_eq_true, decide_eq_true_eq] at h
  refine theO_some isAge_inj ⟨h.2, ?_⟩
  cases t with
  | nil => exact absurd hok T.not_nil
  | mk kind n s op k ch =>
   have hk : kind = 0 := h.1
   subst hk
   rfl
 .
  rw [if_neg h]
  refine theO_none fun n hn => h ?_
  have := bytes_same (numT_plain n).1 p (num_ok (by have := hn.1; omega)) hok (by rw [(numT_facts n).2.2, hn.2])
  have g := same_mk this
  simp only [ageB, Bool.and_eq_true, decide_eq_true_eq]
  exact ⟨g.1, by rw [g.2.1]; exact hn.1⟩
theorem may_le {h : Nat × Nat} (hm : mayB h.1 h.2 = true) : h.1 <= 255 /\ h.2 <= 255 := by simp [mayB] at hm; omega
theorem isHops_inj {s : List UInt8} (x y : Nat × Nat) (hx : isHops s x) (hy : isHops s y) : x = y := by
 have bx := may_le hx.1
 have by_ := may_le hy.1
 have fx := pairT2_facts x.1 x.2 (by omega) (by omega)
 have fy := pairT2_facts y.1 y.2 (by omega) (by omega)
 have e : (pairT2 x.1 x.2).bytes = (pairT2 y.1 y.2).bytes := by rw [fx.2.2.2, fy.2.2.2, hx.2, hy.2]
 have := same_mk (bytes_same (pairT2_plain x.1 x.2).1 (pairT2_plain y.1 y.2).1 fx.1 fy.1 e)
 have a := same_mk (this.2.2.2.2.2 0 (by omega))
 have b : (numT x.2).same (numT y.2) = true := this.2.2.2.2.2 1 (by omega)
 have b := same_mk b
 exact Prod.ext a.2.1.symm b.2.1.symm
theorem hopsO_bad {s : List UInt8} (h : (parseR s).2 ≠ 0) : hopsO s = none := theO_none fun n hn => h (by
 have b := may_le hn.1
 have f := pairT2_facts n.1 n.2 (by omega) (by omega)
 rw [<- hn.2, <- f.2.2.2, parse_back f.2.2.1 f.1])
def hopsB (t : T) : Bool := decide (t.kind = 4) && !t.op && decide (t.k = 2) && decide ((t.ch 0).kind = 0) && decide ((t.ch 1).kind = 0) && mayB (t.ch 0).n (t.ch 1).n
theorem hopsO_tree {t : T} (hr : t.right 8 = true) (hok : t.ok) : hopsO t.bytes = if hopsB t then some ((t.ch 0).n, (t.ch 1).n) else none := by
 have p := T.plain_of hr
 by_cases h : hopsB t = true
 .
  rw [if_pos h]
  simp only [hopsB, Bool.and_eq_true, decide_eq_true_eq, Bool.not_eq_true'] at h
  obtain ⟨⟨⟨⟨⟨h1, h2⟩, h3⟩, h4⟩, h5⟩, h6⟩ := h
  refine theO_some isHops_inj ⟨h6, ?_⟩
  cases t with
  | nil => exact absurd hok T.not_nil
  | mk kind n s op k ch =>
   have hk : kind = 4 := h1
   have ho : op = false := h2
   have hk2 : k = 2 := h3
   subst hk ho hk2
   have h4 : (ch 0).kind = 0 := h4
   have h5 : (ch 1).kind = 0 := h5
   have c0 : (ch 0).bytes = headL 0 (ch 0).n := by
    have : (ch 0).ok := hok.2.2.2.2 0 (by omega)
    revert this h4
    cases ch 0 with
    | nil => exact fun _ h => absurd h T.not_nil
    | mk kind n s op k ch => intro h4 _; have hk : kind = 0 := h4; subst hk; rfl
   have c1 : (ch 1).bytes = headL 0 (ch 1).n := by
    have : (ch 1).ok := hok.2.2.2.2 1 (by omega)
    revert this h5
    cases ch 1 with
    | nil => exact fun _ h => absurd h T.not_nil
    | mk kind n s op k ch => intro h4 _; have hk : kind = 0 := h4; subst hk; rfl
   show 130 :: (headL 0 (ch 0).n ++ headL 0 (ch 1).n) = _
   rw [<- c0, <- c1]
   simp [T.bytes, T.cat, headL]
   rfl
 .
  rw [if_neg h]
  refine theO_none fun n hn => h ?_
  have b := may_le hn.1
  have f := pairT2_facts n.1 n.2 (by omega) (by omega)
  have g := same_mk (bytes_same (pairT2_plain n.1 n.2).1 p f.1 hok (f.2.2.2.trans hn.2))
  have a := same_mk (g.2.2.2.2.2 0 (by omega))
  have b : (numT n.2).same (t.ch 1) = true := g.2.2.2.2.2 1 (by omega)
  have b := same_mk b
  have hm := hn.1
  rw [<- a.2.1, <- b.2.1] at hm
  simp only [hopsB, Bool.and_eq_true, decide_eq_true_eq, Bool.not_eq_true']
  exact ⟨⟨⟨⟨⟨g.1, g.2.2.2.1⟩, g.2.2.2.2.1⟩, a.1⟩, b.1⟩, hm⟩
end Go.Proofs.YthecmnbkjchjmaaGreat
