/-
 The reference's item of bytes.
-/
import Derived.Test.YthecmnbkjchjmaaGreatMExtHopsas
import Derived.Test.YthecmnbkjchjmaaGreatMExtHopsat
namespace Go.Proofs.YthecmnbkjchjmaaGreat
open Go.RowKit
set_option linter.unusedVariables false
set_option linter.unusedSimpArgs false
def IMade (t : T) (w : World) (e : Ending) (w' : World) : Prop := ∃ A c, e = .returned (itemV t A c) /\ Ext w w' /\ IsL w' (fun b => w.heap.size <= b) t A
theorem T.right_plain {t : T} {d : Nat} (h : t.right d = true) : t.plain = true := by
 rw [T.right_eq, Bool.and_eq_true] at h; exact h.2
theorem T.right_up (t : T) : ∀ d, t.right d = true -> t.right (d + 1) = true := by
 induction t with
 | nil => intro d h; exact h
 | mk kind n s op k ch ih =>
  intro d h
  unfold T.right at h ⊢
  by_cases h0 : d < 1
  . rw [if_pos h0] at h; cases h
  .
   rw [if_neg h0, Bool.and_eq_true, T.all_iff] at h
   rw [if_neg (by omega), Bool.and_eq_true, T.all_iff]
   exact ⟨h.1, fun i hi => by have := ih i (d - 1) (h.2 i hi); rw [show d + 1 - 1 = d - 1 + 1 by omega]; exact this⟩
def upto (op : Bool) (k : Nat) (ch : Nat -> T) (i : Nat) : List UInt8 := (if op then [159] else headL 4 k) ++ T.cat (fun j => (ch j).bytes) i
def arrB (op : Bool) (k : Nat) (ch : Nat -> T) : List UInt8 := (T.mk 4 0 [] op k ch).bytes
theorem arr_upto {op : Bool} {k : Nat} {ch : Nat -> T} {i : Nat} (hi : i <= k) : ∃ r, arrB op k ch = upto op k ch i ++ r /\ (i = k -> r = if op then [255] else []) := by
 obtain ⟨r, hr⟩ := cat_split (fun i => (ch i).bytes) hi
 have e : arrB op k ch = (if op then [159] else headL 4 k) ++ (T.cat (fun j => (ch j).bytes) k ++ (if op then [255] else [])) := rfl
 refine ⟨r ++ (if op then [255] else []), ?_, ?_⟩
 . rw [e, hr]; unfold upto; simp only [List.append_assoc]
 .
  rintro rfl
  have : r = [] := by
   have := congrArg List.length hr
   rw [List.length_append] at this
   exact List.eq_nil_of_length_eq_zero (by omega)
  rw [this]; rfl
theorem upto_succ (op : Bool) (k : Nat) (ch : Nat -> T) (i : Nat) : upto op k ch (i + 1) = upto op k ch i ++ (ch i).bytes := by
 unfold upto; rw [T.cat, List.append_assoc]
theorem arr_drop {op : Bool} {k : Nat} {ch : Nat -> T} {i : Nat} (hi : i < k) : (arrB op k ch).drop (upto op k ch i).length = (ch i).bytes ++ (arrB op k ch).drop (upto op k ch (i + 1)).length := by
 obtain ⟨r, hr, _⟩ := arr_upto (op := op) (ch := ch) (show i + 1 <= k from hi)
 rw [hr, List.drop_left, upto_succ, List.append_assoc, List.drop_left]
theorem arr_le {op : Bool} {k : Nat} {ch : Nat -> T} {i : Nat} (hi : i <= k) : (upto op k ch i).length + (if op then 1 else 0) <= (arrB op k ch).length := by
 obtain ⟨r, hr, _⟩ := arr_upto (op := op) (ch := ch) hi
 obtain ⟨r2, hr2, h2⟩ := arr_upto (op := op) (ch := ch) (Nat.le_refl k)
 have h2 := h2 rfl
 have hl : (upto op k ch i).length <= (upto op k ch k).length := by
  obtain ⟨r, hr⟩ := cat_split (fun i => (ch i).bytes) hi
  unfold upto; rw [hr]; simp
 rw [hr2, List.length_append, h2]
 cases op <;> simp <;> omega
theorem arr_full {op : Bool} {k : Nat} {ch : Nat -> T} : (upto op k ch k).length + (if op then 1 else 0) = (arrB op k ch).length := by
 obtain ⟨r2, hr2, h2⟩ := arr_upto (op := op) (ch := ch) (Nat.le_refl k)
 rw [hr2, List.length_append, h2 rfl]
 cases op <;> simp
set_option maxRecDepth 20000 in
set_option maxHeartbeats 800000 in
theorem r13_num (l : List UInt8) (sz n : Nat) (o : Bool) (hr : readH l = some (sz, 0, n, o)) (w : World) : Calls Tryz.prog 51 #[str l] w (Ret (itemV (numT n) none 0) w) := by
 have K := hid (fun W => read_any l W)
 rw [hr] at K
 have HE := hid ((Mod.refl [] w).alloc (.cells (itemC nulT none 0) 86))
 have HQ := hid (Blk.new w 86 (itemC nulT none 0))
 clear hr
 go_enter Tryz.func51, Tryz.ntmps51
 go_wp2_with fail
 refine (K.out _).mono ?_
 rintro e1 w1 ⟨rfl, hb1⟩
 dsimp only [gotOf, gotV]
 have HE1 := hid ((HE.out.trans hb1).alloc (.cells #[.int .i64 (sz : Int), .int .i64 0, .int .u64 (n : Int), .bool o] 96))
 have HQ1 := hid ((HQ.out.ext hb1).alloc (.cells #[.int .i64 (sz : Int), .int .i64 0, .int .u64 (n : Int), .bool o] 96))
 clear hb1
 obtain ⟨c0, c1, c2, c3, c4⟩ := cells5 HQ1.out
 have f0 := HQ1.out.frozen 0
 have f1 := HQ1.out.frozen 1
 have f2 := HQ1.out.frozen 2
 have f3 := HQ1.out.frozen 3
 have f4 := HQ1.out.frozen 4
 go_wp2_with fail
 obtain ⟨d0, d1, d2, d3, d4⟩ := cells5 (set5_blk (t := numT n) (A := none) (c := 0) HQ1.out)
 clear c0 c1 c2 c3 c4 f0 f1 f2 f3 f4
 show bodyPost _ _ _ _ _ (set5 (w1.alloc (.cells #[.int .i64 (sz : Int), .int .i64 0, .int .u64 (n : Int), .bool o] 96)) w.heap.size (numT n) none 0)
 refine bodyPost_ret (v := itemV (numT n) none 0) (by simp [results, Tryz.results51, go_sem, d0, d1, d2, d3, d4]) rfl (Ret.mk rfl (set5_mod HE1.out (Nat.le_refl _)))
set_option maxRecDepth 20000 in
set_option maxHeartbeats 800000 in
theorem r13_str (l : List UInt8) (hl : l.length <= 1073741824) (sz m n : Nat) (o : Bool) (hm : m = 2 \/ m = 3) (hr : readH l = some (sz, m, n, o)) (w : World) : Calls Tryz.prog 51 #[str l] w (Ret (itemV (sT m (l.drop sz)) none 0) w) := by
 have K := hid (fun W => read_any l W)
 rw [hr] at K
 have s1 : (sz : Int) <= (l.length : Int) := by have := (readH_some hr).le; omega
 have s0 : (0 : Int) <= (sz : Int) := by omega
 have l1 : (l.length : Int) <= 1073741824 := by omega
 have m0 : ((m : Int) == 0) = false := by simp; omega
 have m1 : ((m : Int) = 0) = False := by simp; omega
 have m4 : decide ((m : Int) < 4) = true := by simp; omega
 have m5 : ((m : Int) < 4) = True := by simp; omega
 have HE := hid ((Mod.refl [] w).alloc (.cells (itemC nulT none 0) 86))
 have HQ := hid (Blk.new w 86 (itemC nulT none 0))
 clear hr hm hl
 go_enter Tryz.func51, Tryz.ntmps51
 go_wp2_with fail
 refine (K.out _).mono ?_
 rintro e1 w1 ⟨rfl, hb1⟩
 dsimp only [gotOf, gotV]
 have HE1 := hid ((HE.out.trans hb1).alloc (.cells #[.int .i64 (sz : Int), .int .i64 (m : Int), .int .u64 (n : Int), .bool o] 96))
 have HQ1 := hid ((HQ.out.ext hb1).alloc (.cells #[.int .i64 (sz : Int), .int .i64 (m : Int), .int .u64 (n : Int), .bool o] 96))
 clear hb1
 obtain ⟨c0, c1, c2, c3, c4⟩ := cells5 HQ1.out
 have f0 := HQ1.out.frozen 0
 have f1 := HQ1.out.frozen 1
 have f2 := HQ1.out.frozen 2
 have f3 := HQ1.out.frozen 3
 have f4 := HQ1.out.frozen 4
 go_wp2_with fail
 go_region
 rw [extract_rest]
 go_wp2_with fail
 obtain ⟨d0, d1, d2, d3, d4⟩ := cells5 (set5_blk (t := sT m (l.drop sz)) (A := none) (c := 0) HQ1.out).drew
 clear c0 c1 c2 c3 c4 f0 f1 f2 f3 f4
 show bodyPost _ _ _ _ _ (set5 (w1.alloc (.cells #[.int .i64 (sz : Int), .int .i64 (m : Int), .int .u64 (n : Int), .bool o] 96)) w.heap.size (sT m (l.drop sz)) none 0).drew
 refine bodyPost_ret (v := itemV (sT m (l.drop sz)) none 0) (by simp [results, Tryz.results51, go_sem, d0, d1, d2, d3, d4]) rfl (Ret.mk rfl (set5_mod HE1.out (Nat.le_refl _)).drew)
set_option maxRecDepth 20000 in
set_option maxHeartbeats 1600000 in
theorem r13_arr_false (k : Nat) (ch : Nat -> T) (ht : (T.mk 4 0 [] false k ch).right 8 = true) (hok : (T.mk 4 0 [] false k ch).ok) (hl : (arrB false k ch).length <= 1073741824)
  (IH : ∀ i, i < k -> ∀ w, Calls Tryz.prog 51 #[str (ch i).bytes] w (IMade (ch i) w)) (w : World) : Calls Tryz.prog 51 #[str (arrB false k ch)] w (IMade (T.mk 4 0 [] false k ch) w) := by
 have hk1 : k <= 1000 /\ ∀ i, i < k -> (ch i).right 8 = true := by
  unfold T.right at ht
  rw [if_neg (by decide), Bool.and_eq_true, T.all_iff] at ht
  refine ⟨by have := ht.1; unfold T.node at this; simpa using this, fun i hi => T.right_up _ 7 (ht.2 i hi)⟩
 have hok1 : ∀ i, i < k -> (ch i).ok := hok.2.2.2.2
 have hrH : readH (arrB false k ch) = some ((headL 4 k).length, 4, k, false) := by
  have := T.readH_bytes _ (T.right_plain ht) hok []
  rw [List.append_nil] at this
  exact this
 obtain ⟨P, hP⟩ : ∃ P : Nat -> Nat, P = fun i => (upto false k ch i).length := ⟨_, rfl⟩
 have HN : Hid (∀ i, i < k -> P i <= P (i + 1) /\ flt 8 ((arrB false k ch).drop (P i)) = (P (i + 1) - P i, 0) /\ ((arrB false k ch).drop (P i)).take (P (i + 1) - P i) = (ch i).bytes /\ P (i + 1) <= (arrB false k ch).length /\ P i < (arrB false k ch).length - 1 + 1) := fun i hi => by
  have e := arr_drop (op := false) (ch := ch) hi
  have u := upto_succ false k ch i
  have le := arr_le (op := false) (ch := ch) (show i + 1 <= k from hi)
  have hb : 0 < (ch i).bytes.length := by
   cases hc : (ch i).bytes with
   | nil =>
    have := T.readH_bytes _ (T.right_plain (hk1.2 i hi)) (hok1 i hi) []
    rw [hc] at this; simp [readH] at this
   | cons _ _ => simp
  have hp : P (i + 1) = P i + (ch i).bytes.length := by rw [hP]; dsimp only; rw [u, List.length_append]
  have hp2 : (upto false k ch i).length = P i := by rw [hP]
  have hp3 : (upto false k ch (i + 1)).length = P (i + 1) := by rw [hP]
  rw [hp2, hp3] at e
  rw [hp3] at le
  have hd : P (i + 1) - P i = (ch i).bytes.length := by omega
  refine ⟨by omega, ?_, ?_, by omega, ?_⟩
  . rw [e, hd]; exact flt_bytes (ch i) 8 (hk1.2 i hi) (hok1 i hi) _
  . rw [e, hd, List.take_left]
  . revert le; simp; omega
 have h0 : P 0 = (headL 4 k).length := by rw [hP]; simp [upto, T.cat]
 have HK : Hid (P k + 0 = (arrB false k ch).length) := by unfold Hid; rw [hP]; have := arr_full (op := false) (k := k) (ch := ch); simpa using this
 have HI : Hid (k <= 1000) := hk1.1
 have HIH : Hid (∀ i, i < k -> ∀ w, Calls Tryz.prog 51 #[str (ch i).bytes] w (IMade (ch i) w)) := IH
 obtain ⟨sz, hsz⟩ : ∃ sz, sz = (headL 4 k).length := ⟨_, rfl⟩
 rw [<- hsz] at h0 hrH
 have HRT := hid ht
 clear ht hok hk1 hok1 hP IH hsz
 generalize arrB false k ch = l at *
 have K := hid (fun W => read_any l W)
 have KF := hid (fun q (hq : q <= l.length) W => fault_any l hl 8 (by omega) q hq W)
 rw [hrH] at K
 have l1 : (l.length : Int) <= 1073741824 := by omega
 have HL := hid hl
 have HE := hid ((Mod.refl [] w).alloc (.cells (itemC nulT none 0) 86))
 have HQ := hid (Blk.new w 86 (itemC nulT none 0))
 have H0 := hid h0
 clear hrH hl h0
 go_enter Tryz.func51, Tryz.ntmps51
 go_wp2_with fail
 refine (K.out _).mono ?_
 rintro e1 w1 ⟨rfl, hb1⟩
 dsimp only [gotOf, gotV]
 (try simp only [show ((4 : Nat) : Int) = 4 from rfl])
 (try simp only [show ((0 : Nat) : Int) = 0 from rfl])
 have HE2 := hid (((HE.out.trans hb1).alloc (.cells #[.int .i64 (sz : Int), .int .i64 4, .int .u64 ((k : Int)), .bool false] 96)).alloc (.cells #[.int .i64 4, .int .u64 0, str [], .slice none 0 0, .bool false] 86))
 have HQ2 := hid (((HQ.out.ext hb1).alloc (.cells #[.int .i64 (sz : Int), .int .i64 4, .int .u64 ((k : Int)), .bool false] 96)).alloc (.cells #[.int .i64 4, .int .u64 0, str [], .slice none 0 0, .bool false] 86))
 have HG2 := hid ((Blk.new w1 96 #[.int .i64 (sz : Int), .int .i64 4, .int .u64 ((k : Int)), .bool false]).alloc (.cells #[.int .i64 4, .int .u64 0, str [], .slice none 0 0, .bool false] 86))
 have HX2 := hid (Blk.new' (w1.alloc (.cells #[.int .i64 (sz : Int), .int .i64 4, .int .u64 ((k : Int)), .bool false] 96)) 86 #[.int .i64 4, .int .u64 0, str [], .slice none 0 0, .bool false] (N := w1.heap.size + 1) (by simp))
 have hw1 : w.heap.size < w1.heap.size := by have := hb1.size; simp at this; omega
 have HW1 := hid hw1
 have HGL2 := hid (GL.nil (fun b => w1.heap.size + 2 <= b) (N := w1.heap.size + 2) (wr := (w1.alloc (.cells #[.int .i64 (sz : Int), .int .i64 4, .int .u64 ((k : Int)), .bool false] 96)).alloc (.cells #[.int .i64 4, .int .u64 0, str [], .slice none 0 0, .bool false] 86)) (by simp) ch (fun _ => (none, 0)))
 clear hb1 hw1 HE HQ
 go_wp2_with fail
 generalize w1.heap.size = G at *
 go_loopw [5, 6] (fun s5 s6 wr => ∃ (i : Nat) (A : Option Addr) (c : Nat) (ac : Nat -> Option Addr × Nat), s5 = .int .i64 ((P i : Nat) : Int) /\ s6 = .int .u64 (i : Int) /\ Hid (i <= k) /\ Hid (Ext w wr /\ Blk wr w.heap.size 86 (itemC nulT none 0) /\ Blk wr G 96 #[.int .i64 (sz : Int), .int .i64 4, .int .u64 ((k : Int)), .bool false] /\ Blk wr (G + 1) 86 #[.int .i64 4, .int .u64 0, str [], .slice A i c, .bool false] /\ GL (fun b => G + 2 <= b) (G + 2) wr i A c ch ac)) (fun _ s6 _ => k - (intOf s6).toNat)
 case atStart => exact ⟨0, none, 0, _, by rw [H0.out], rfl, (show Hid _ from Nat.zero_le _), (show Hid _ from ⟨HE2.out, HQ2.out, HG2.out, HX2.out, HGL2.out⟩)⟩
 case round =>
  clear HE2 HQ2 HG2 HX2 HGL2 H0
  obtain ⟨i, A, c, ac, rfl, rfl, hi, hW⟩ := hrel
  have g0 : wr.cell? ⟨G, 0, none⟩ = some (.int .i64 (sz : Int)) := hW.out.2.2.1.cell 0
  have g2 : wr.cell? ⟨G, 2, none⟩ = some (.int .u64 ((k : Int))) := hW.out.2.2.1.cell 2
  have g3 : wr.cell? ⟨G, 3, none⟩ = some (.bool false) := hW.out.2.2.1.cell 3
  have i0 : (0 : Int) <= (i : Int) := by omega
  have i1 : (i : Int) <= 1000 := by have := hi.out; have := HI.out; omega
  by_cases hlt : i < k
  .
   have tc : decide (i < k) = true := by simp [hlt]
   have q0 : (0 : Int) <= ((P i : Nat) : Int) := by omega
   have q1 : ((P i : Nat) : Int) <= ((P (i + 1) : Nat) : Int) := by have := (HN.out i hlt).1; omega
   have q2 : ((P (i + 1) : Nat) : Int) <= (l.length : Int) := by have := (HN.out i hlt).2.2.2.1; omega
   have HLT := hid hlt
   have hFV : faultV (P i) (flt 8 (l.drop (P i))) = .tuple #[.int .i64 ((P (i + 1) : Nat) : Int), .int .i64 0] := by
    rw [(HN.out i hlt).2.1, faultV]
    have := (HN.out i hlt).1
    simp only [show P i + (P (i + 1) - P i) = P (i + 1) by omega]
   have HFV := hid hFV
   clear hlt hFV
   go_wp2_with fail
   refine (KF.out (P i) (by omega) _).mono ?_
   rintro x w3 ⟨rfl, hb3⟩
   rw [HFV.out]
   have HW3 := hid (show Ext w w3 /\ Blk w3 w.heap.size 86 (itemC nulT none 0) /\ Blk w3 G 96 #[.int .i64 (sz : Int), .int .i64 4, .int .u64 ((k : Int)), .bool false] /\ Blk w3 (G + 1) 86 #[.int .i64 4, .int .u64 0, str [], .slice A i c, .bool false] /\ GL (fun b => G + 2 <= b) (G + 2) w3 i A c ch ac from ⟨hW.out.1.trans hb3, hW.out.2.1.ext hb3, hW.out.2.2.1.ext hb3, hW.out.2.2.2.1.ext hb3, hW.out.2.2.2.2.ext hb3⟩)
   have HB3 := hid hb3
   clear hb3 g0 g2 g3 hW
   have x3 : w3.cell? ⟨G + 1, 3, none⟩ = some (.slice A i c) := HW3.out.2.2.2.1.cell 3
   have y3 : w3.frozen? ⟨G + 1, 3, none⟩ = false := HW3.out.2.2.2.1.frozen 3
   have HKI := hid (HIH.out i HLT.out)
   have HS : Hid ((l.drop (P i)).take (P (i + 1) - P i) = (ch i).bytes) := (HN.out i HLT.out).2.2.1
   obtain ⟨i0', hi0, hz0, hz1, hz2⟩ := info_parts infoItem
   go_upto_region 12 with fail
   go_region_law (first
    | (refine step_append_lies _ rfl (.tmp 61) (.tmp 67) 84 rfl (G + 2) 86 i0' _ 5 64 vqG hi0 hz0 hz1 hz2 rfl (by decide) (.slice A i c) i _ (by simp [Act.eval]) ho2 ⟨w2.heap.size, 0, none⟩ 1 1 [Value.int .i64 (ch i).kind, .int .u64 ((ch i).n : Int), str (ch i).s, .slice Ac (ch i).k cc, .bool (ch i).op] (by simp [Act.eval]) rfl (news5 w2 (ch i) Ac cc) (one5 (ch i) Ac cc) (by decide) (by have := HI.out; have := HLT.out; unfold maxLen; omega) (by have := HI.out; have := HLT.out; omega) (by have := HW3.out.2.2.2.2.room hm; simp; omega) (w2.heap.size + 1) (by simp) ?_; intro g' c' w4 hown' hgr hbl hgl; have hx4 := HW3.out.2.2.2.2.keep hm hgr HW3.out.2.2.2.1 (by omega); have x4 : w4.cell? ⟨G + 1, 3, none⟩ = some (.slice A i c) := hx4.cell 3; have xf : w4.frozen? ⟨G + 1, 3, none⟩ = false := hx4.frozen 3)
    | (go_simp; go_at_call 51; rw [extract_str, HS.out]; refine (HKI.out _).mono ?_; rintro x w2 ⟨Ac, cc, rfl, hm2, hs2⟩; have hm : Ext w3 w2 := (by first | exact hm2 | exact (Mod.refl _ _).drew.trans hm2); have ho2 := HW3.out.2.2.2.2.own2 hm (.cells (itemC (ch i) Ac cc) 86); have z3 : w2.cell? ⟨G + 1, 3, none⟩ = some (.slice A i c) := (HW3.out.2.2.2.1.ext hm).cell 3; have zf : w2.frozen? ⟨G + 1, 3, none⟩ = false := (HW3.out.2.2.2.1.ext hm).frozen 3; have z4 : (w2.alloc (.cells #[Value.int .i64 (ch i).kind, .int .u64 ((ch i).n : Int), str (ch i).s, .slice Ac (ch i).k cc, .bool (ch i).op] 86)).cell? ⟨G + 1, 3, none⟩ = some (.slice A i c) := ((HW3.out.2.2.2.1.ext hm).alloc _).cell 3; have hne : ¬ G + 1 = w2.heap.size := (by have := HW3.out.2.2.2.2.room hm; omega)))
   all_goals go_wp2_with fail
   all_goals have hblk : (Value.slice (some ⟨g', 0, none⟩) (i + 1) c').ownBlock = (Value.slice A i c).ownBlock \/ ∀ k, (Value.slice (some ⟨g', 0, none⟩) (i + 1) c').ownBlock = some k -> w2.heap.size <= k := hbl.elim (fun h => .inl h.symm) (fun h => .inr fun k hk => by simp [Value.ownBlock] at hk; omega)
   all_goals obtain ⟨g2, c2, e1, hL⟩ := HW3.out.2.2.2.2.step hm (IsL.weak (fun b hb hq => ⟨by have := HW3.out.2.2.2.2.nx; have hq2 : w3.heap.size <= b := hq; omega, .inr hq⟩) (ch i) hs2) hown' hgr hblk
   all_goals simp only [Value.slice.injEq, Option.some.injEq, Addr.mk.injEq, true_and, and_true] at e1
   all_goals obtain ⟨rfl, rfl⟩ := e1
   all_goals rw [putT_self] at hL
   all_goals have hwG : w.heap.size < G := HW1.out
   all_goals have k1 := (HW3.out.2.2.2.2.keep hm hgr HW3.out.2.1 (by omega)).far (p := ⟨G + 1, 3, none⟩) (by simp; omega) (.slice (some ⟨g', 0, none⟩) (i + 1) c')
   all_goals have k2 := (HW3.out.2.2.2.2.keep hm hgr HW3.out.2.2.1 (by omega)).far (p := ⟨G + 1, 3, none⟩) (by simp) (.slice (some ⟨g', 0, none⟩) (i + 1) c')
   all_goals have k3 := hx4.set_ 3 (.slice (some ⟨g', 0, none⟩) (i + 1) c')
   all_goals have k4 := (HW3.out.2.2.2.2.since HW3.out.1 (by omega) hm hgr).setCell (p := ⟨G + 1, 3, none⟩) (.inr (by show w.heap.size <= G + 1; omega)) (.slice (some ⟨g', 0, none⟩) (i + 1) c')
   all_goals have k5 := hL.mod ((Mod.refl [G + 1] w4).setCell (p := ⟨G + 1, 3, none⟩) (.inl (by simp)) (.slice (some ⟨g', 0, none⟩) (i + 1) c')) (fun k hk => by rw [List.mem_singleton] at hk; subst hk; exact ⟨by omega, by omega⟩)
   all_goals have hlt := HLT.out
   all_goals go_roundw
   all_goals first | (simp only [intOf]; omega) | exact ⟨i + 1, some ⟨g', 0, none⟩, c', _, rfl, by simp, (show Hid _ from hlt), (show Hid _ from ⟨k4, k1, k2, by simpa using k3, k5⟩)⟩
  .
   obtain rfl : i = k := by have := hi.out; omega
   have tc : decide (i < i) = false := by simp
   have HX := hid hW.out.2.2.2.1
   have HB := hid hW.out.2.1
   have HEW := hid hW.out.1
   have HGW := hid hW.out.2.2.2.2
   have x0 : wr.cell? ⟨G + 1, 0, none⟩ = some (.int .i64 4) := HX.out.cell 0
   have x1 : wr.cell? ⟨G + 1, 1, none⟩ = some (.int .u64 0) := HX.out.cell 1
   have x2 : wr.cell? ⟨G + 1, 2, none⟩ = some (str []) := HX.out.cell 2
   have x3 : wr.cell? ⟨G + 1, 3, none⟩ = some (.slice A i c) := HX.out.cell 3
   have x4 : wr.cell? ⟨G + 1, 4, none⟩ = some (.bool false) := HX.out.cell 4
   obtain ⟨c0, c1, c2, c3, c4⟩ := cells5 HB.out
   have f0 := HB.out.frozen 0
   have f1 := HB.out.frozen 1
   have f2 := HB.out.frozen 2
   have f3 := HB.out.frozen 3
   have f4 := HB.out.frozen 4
   clear hW
   go_wp2_with fail
   obtain ⟨d0, d1, d2, d3, d4⟩ := cells5 (set5_blk (t := T.mk 4 0 [] false i ch) (A := A) (c := c) HB.out)
   clear c0 c1 c2 c3 c4 f0 f1 f2 f3 f4 x0 x1 x2 x3 x4 g0 g2 g3
   show bodyPost _ _ _ _ _ (set5 wr w.heap.size (T.mk 4 0 [] false i ch) A c)
   refine bodyPost_ret (v := itemV (T.mk 4 0 [] false i ch) A c) (by simp [results, Tryz.results51, go_sem, d0, d1, d2, d3, d4]) rfl ⟨A, c, rfl, set5_mod HEW.out (Nat.le_refl _), ?_⟩
   have := HW1.out
   exact IsL.weak (fun b hb hq => by have hq2 : G + 2 <= b := hq; omega) (T.mk 4 0 [] false i ch) (IsL.mod set5_modb (fun b hq hb hm => by rw [List.mem_singleton] at hm; have hq2 : G + 2 <= b := hq; omega) (T.mk 4 0 [] false i ch) (HGW.out.isL (Q := fun b => G + 2 <= b) (fun b h => h) (fun b h => h) false))
set_option maxRecDepth 20000 in
set_option maxHeartbeats 1600000 in
theorem r13_arr_true (k : Nat) (ch : Nat -> T) (ht : (T.mk 4 0 [] true k ch).right 8 = true) (hok : (T.mk 4 0 [] true k ch).ok) (hl : (arrB true k ch).length <= 1073741824)
  (IH : ∀ i, i < k -> ∀ w, Calls Tryz.prog 51 #[str (ch i).bytes] w (IMade (ch i) w)) (w : World) : Calls Tryz.prog 51 #[str (arrB true k ch)] w (IMade (T.mk 4 0 [] true k ch) w) := by
 have hk1 : k <= 1000 /\ ∀ i, i < k -> (ch i).right 8 = true := by
  unfold T.right at ht
  rw [if_neg (by decide), Bool.and_eq_true, T.all_iff] at ht
  refine ⟨by have := ht.1; unfold T.node at this; simpa using this, fun i hi => T.right_up _ 7 (ht.2 i hi)⟩
 have hok1 : ∀ i, i < k -> (ch i).ok := hok.2.2.2.2
 have hrH : readH (arrB true k ch) = some (1, 4, 0, true) := by
  have := T.readH_bytes _ (T.right_plain ht) hok []
  rw [List.append_nil] at this
  exact this
 obtain ⟨P, hP⟩ : ∃ P : Nat -> Nat, P = fun i => (upto true k ch i).length := ⟨_, rfl⟩
 have HN : Hid (∀ i, i < k -> P i <= P (i + 1) /\ flt 8 ((arrB true k ch).drop (P i)) = (P (i + 1) - P i, 0) /\ ((arrB true k ch).drop (P i)).take (P (i + 1) - P i) = (ch i).bytes /\ P (i + 1) <= (arrB true k ch).length /\ P i < (arrB true k ch).length - 1 + 0) := fun i hi => by
  have e := arr_drop (op := true) (ch := ch) hi
  have u := upto_succ true k ch i
  have le := arr_le (op := true) (ch := ch) (show i + 1 <= k from hi)
  have hb : 0 < (ch i).bytes.length := by
   cases hc : (ch i).bytes with
   | nil =>
    have := T.readH_bytes _ (T.right_plain (hk1.2 i hi)) (hok1 i hi) []
    rw [hc] at this; simp [readH] at this
   | cons _ _ => simp
  have hp : P (i + 1) = P i + (ch i).bytes.length := by rw [hP]; dsimp only; rw [u, List.length_append]
  have hp2 : (upto true k ch i).length = P i := by rw [hP]
  have hp3 : (upto true k ch (i + 1)).length = P (i + 1) := by rw [hP]
  rw [hp2, hp3] at e
  rw [hp3] at le
  have hd : P (i + 1) - P i = (ch i).bytes.length := by omega
  refine ⟨by omega, ?_, ?_, by omega, ?_⟩
  . rw [e, hd]; exact flt_bytes (ch i) 8 (hk1.2 i hi) (hok1 i hi) _
  . rw [e, hd, List.take_left]
  . revert le; simp; omega
 have h0 : P 0 = 1 := by rw [hP]; simp [upto, T.cat]
 have HK : Hid (P k + 1 = (arrB true k ch).length) := by unfold Hid; rw [hP]; have := arr_full (op := true) (k := k) (ch := ch); simpa using this
 have HI : Hid (k <= 1000) := hk1.1
 have HIH : Hid (∀ i, i < k -> ∀ w, Calls Tryz.prog 51 #[str (ch i).bytes] w (IMade (ch i) w)) := IH
 obtain ⟨sz, hsz⟩ : ∃ sz, sz = 1 := ⟨_, rfl⟩
 rw [<- hsz] at h0 hrH
 have HRT := hid ht
 clear ht hok hk1 hok1 hP IH hsz
 generalize arrB true k ch = l at *
 have K := hid (fun W => read_any l W)
 have KF := hid (fun q (hq : q <= l.length) W => fault_any l hl 8 (by omega) q hq W)
 rw [hrH] at K
 have l1 : (l.length : Int) <= 1073741824 := by omega
 have HL := hid hl
 have HE := hid ((Mod.refl [] w).alloc (.cells (itemC nulT none 0) 86))
 have HQ := hid (Blk.new w 86 (itemC nulT none 0))
 have H0 := hid h0
 clear hrH hl h0
 go_enter Tryz.func51, Tryz.ntmps51
 go_wp2_with fail
 refine (K.out _).mono ?_
 rintro e1 w1 ⟨rfl, hb1⟩
 dsimp only [gotOf, gotV]
 (try simp only [show ((4 : Nat) : Int) = 4 from rfl])
 (try simp only [show ((0 : Nat) : Int) = 0 from rfl])
 have HE2 := hid (((HE.out.trans hb1).alloc (.cells #[.int .i64 (sz : Int), .int .i64 4, .int .u64 (0), .bool true] 96)).alloc (.cells #[.int .i64 4, .int .u64 0, str [], .slice none 0 0, .bool true] 86))
 have HQ2 := hid (((HQ.out.ext hb1).alloc (.cells #[.int .i64 (sz : Int), .int .i64 4, .int .u64 (0), .bool true] 96)).alloc (.cells #[.int .i64 4, .int .u64 0, str [], .slice none 0 0, .bool true] 86))
 have HG2 := hid ((Blk.new w1 96 #[.int .i64 (sz : Int), .int .i64 4, .int .u64 (0), .bool true]).alloc (.cells #[.int .i64 4, .int .u64 0, str [], .slice none 0 0, .bool true] 86))
 have HX2 := hid (Blk.new' (w1.alloc (.cells #[.int .i64 (sz : Int), .int .i64 4, .int .u64 (0), .bool true] 96)) 86 #[.int .i64 4, .int .u64 0, str [], .slice none 0 0, .bool true] (N := w1.heap.size + 1) (by simp))
 have hw1 : w.heap.size < w1.heap.size := by have := hb1.size; simp at this; omega
 have HW1 := hid hw1
 have HGL2 := hid (GL.nil (fun b => w1.heap.size + 2 <= b) (N := w1.heap.size + 2) (wr := (w1.alloc (.cells #[.int .i64 (sz : Int), .int .i64 4, .int .u64 (0), .bool true] 96)).alloc (.cells #[.int .i64 4, .int .u64 0, str [], .slice none 0 0, .bool true] 86)) (by simp) ch (fun _ => (none, 0)))
 clear hb1 hw1 HE HQ
 go_wp2_with fail
 generalize w1.heap.size = G at *
 go_loopw [5, 6] (fun s5 s6 wr => ∃ (i : Nat) (A : Option Addr) (c : Nat) (ac : Nat -> Option Addr × Nat), s5 = .int .i64 ((P i : Nat) : Int) /\ s6 = .int .u64 (i : Int) /\ Hid (i <= k) /\ Hid (Ext w wr /\ Blk wr w.heap.size 86 (itemC nulT none 0) /\ Blk wr G 96 #[.int .i64 (sz : Int), .int .i64 4, .int .u64 (0), .bool true] /\ Blk wr (G + 1) 86 #[.int .i64 4, .int .u64 0, str [], .slice A i c, .bool true] /\ GL (fun b => G + 2 <= b) (G + 2) wr i A c ch ac)) (fun _ s6 _ => k - (intOf s6).toNat)
 case atStart => exact ⟨0, none, 0, _, by rw [H0.out], rfl, (show Hid _ from Nat.zero_le _), (show Hid _ from ⟨HE2.out, HQ2.out, HG2.out, HX2.out, HGL2.out⟩)⟩
 case round =>
  clear HE2 HQ2 HG2 HX2 HGL2 H0
  obtain ⟨i, A, c, ac, rfl, rfl, hi, hW⟩ := hrel
  have g0 : wr.cell? ⟨G, 0, none⟩ = some (.int .i64 (sz : Int)) := hW.out.2.2.1.cell 0
  have g2 : wr.cell? ⟨G, 2, none⟩ = some (.int .u64 (0)) := hW.out.2.2.1.cell 2
  have g3 : wr.cell? ⟨G, 3, none⟩ = some (.bool true) := hW.out.2.2.1.cell 3
  have i0 : (0 : Int) <= (i : Int) := by omega
  have i1 : (i : Int) <= 1000 := by have := hi.out; have := HI.out; omega
  by_cases hlt : i < k
  .
   have tc : decide (((P i : Nat) : Int) < (l.length : Int) - 1) = true := by have h1 := (HN.out i hlt).1; have h2 := (HN.out i hlt).2.2.2.2; simp; omega
   have q0 : (0 : Int) <= ((P i : Nat) : Int) := by omega
   have q1 : ((P i : Nat) : Int) <= ((P (i + 1) : Nat) : Int) := by have := (HN.out i hlt).1; omega
   have q2 : ((P (i + 1) : Nat) : Int) <= (l.length : Int) := by have := (HN.out i hlt).2.2.2.1; omega
   have HLT := hid hlt
   have hFV : faultV (P i) (flt 8 (l.drop (P i))) = .tuple #[.int .i64 ((P (i + 1) : Nat) : Int), .int .i64 0] := by
    rw [(HN.out i hlt).2.1, faultV]
    have := (HN.out i hlt).1
    simp only [show P i + (P (i + 1) - P i) = P (i + 1) by omega]
   have HFV := hid hFV
   clear hlt hFV
   go_wp2_with fail
   refine (KF.out (P i) (by omega) _).mono ?_
   rintro x w3 ⟨rfl, hb3⟩
   rw [HFV.out]
   have HW3 := hid (show Ext w w3 /\ Blk w3 w.heap.size 86 (itemC nulT none 0) /\ Blk w3 G 96 #[.int .i64 (sz : Int), .int .i64 4, .int .u64 (0), .bool true] /\ Blk w3 (G + 1) 86 #[.int .i64 4, .int .u64 0, str [], .slice A i c, .bool true] /\ GL (fun b => G + 2 <= b) (G + 2) w3 i A c ch ac from ⟨hW.out.1.trans hb3, hW.out.2.1.ext hb3, hW.out.2.2.1.ext hb3, hW.out.2.2.2.1.ext hb3, hW.out.2.2.2.2.ext hb3⟩)
   have HB3 := hid hb3
   clear hb3 g0 g2 g3 hW
   have x3 : w3.cell? ⟨G + 1, 3, none⟩ = some (.slice A i c) := HW3.out.2.2.2.1.cell 3
   have y3 : w3.frozen? ⟨G + 1, 3, none⟩ = false := HW3.out.2.2.2.1.frozen 3
   have HKI := hid (HIH.out i HLT.out)
   have HS : Hid ((l.drop (P i)).take (P (i + 1) - P i) = (ch i).bytes) := (HN.out i HLT.out).2.2.1
   obtain ⟨i0', hi0, hz0, hz1, hz2⟩ := info_parts infoItem
   go_upto_region 12 with fail
   go_region_law (first
    | (refine step_append_lies _ rfl (.tmp 61) (.tmp 67) 84 rfl (G + 2) 86 i0' _ 5 64 vqG hi0 hz0 hz1 hz2 rfl (by decide) (.slice A i c) i _ (by simp [Act.eval]) ho2 ⟨w2.heap.size, 0, none⟩ 1 1 [Value.int .i64 (ch i).kind, .int .u64 ((ch i).n : Int), str (ch i).s, .slice Ac (ch i).k cc, .bool (ch i).op] (by simp [Act.eval]) rfl (news5 w2 (ch i) Ac cc) (one5 (ch i) Ac cc) (by decide) (by have := HI.out; have := HLT.out; unfold maxLen; omega) (by have := HI.out; have := HLT.out; omega) (by have := HW3.out.2.2.2.2.room hm; simp; omega) (w2.heap.size + 1) (by simp) ?_; intro g' c' w4 hown' hgr hbl hgl; have hx4 := HW3.out.2.2.2.2.keep hm hgr HW3.out.2.2.2.1 (by omega); have x4 : w4.cell? ⟨G + 1, 3, none⟩ = some (.slice A i c) := hx4.cell 3; have xf : w4.frozen? ⟨G + 1, 3, none⟩ = false := hx4.frozen 3)
    | (go_simp; go_at_call 51; rw [extract_str, HS.out]; refine (HKI.out _).mono ?_; rintro x w2 ⟨Ac, cc, rfl, hm2, hs2⟩; have hm : Ext w3 w2 := (by first | exact hm2 | exact (Mod.refl _ _).drew.trans hm2); have ho2 := HW3.out.2.2.2.2.own2 hm (.cells (itemC (ch i) Ac cc) 86); have z3 : w2.cell? ⟨G + 1, 3, none⟩ = some (.slice A i c) := (HW3.out.2.2.2.1.ext hm).cell 3; have zf : w2.frozen? ⟨G + 1, 3, none⟩ = false := (HW3.out.2.2.2.1.ext hm).frozen 3; have z4 : (w2.alloc (.cells #[Value.int .i64 (ch i).kind, .int .u64 ((ch i).n : Int), str (ch i).s, .slice Ac (ch i).k cc, .bool (ch i).op] 86)).cell? ⟨G + 1, 3, none⟩ = some (.slice A i c) := ((HW3.out.2.2.2.1.ext hm).alloc _).cell 3; have hne : ¬ G + 1 = w2.heap.size := (by have := HW3.out.2.2.2.2.room hm; omega)))
   all_goals go_wp2_with fail
   all_goals have hblk : (Value.slice (some ⟨g', 0, none⟩) (i + 1) c').ownBlock = (Value.slice A i c).ownBlock \/ ∀ k, (Value.slice (some ⟨g', 0, none⟩) (i + 1) c').ownBlock = some k -> w2.heap.size <= k := hbl.elim (fun h => .inl h.symm) (fun h => .inr fun k hk => by simp [Value.ownBlock] at hk; omega)
   all_goals obtain ⟨g2, c2, e1, hL⟩ := HW3.out.2.2.2.2.step hm (IsL.weak (fun b hb hq => ⟨by have := HW3.out.2.2.2.2.nx; have hq2 : w3.heap.size <= b := hq; omega, .inr hq⟩) (ch i) hs2) hown' hgr hblk
   all_goals simp only [Value.slice.injEq, Option.some.injEq, Addr.mk.injEq, true_and, and_true] at e1
   all_goals obtain ⟨rfl, rfl⟩ := e1
   all_goals rw [putT_self] at hL
   all_goals have hwG : w.heap.size < G := HW1.out
   all_goals have k1 := (HW3.out.2.2.2.2.keep hm hgr HW3.out.2.1 (by omega)).far (p := ⟨G + 1, 3, none⟩) (by simp; omega) (.slice (some ⟨g', 0, none⟩) (i + 1) c')
   all_goals have k2 := (HW3.out.2.2.2.2.keep hm hgr HW3.out.2.2.1 (by omega)).far (p := ⟨G + 1, 3, none⟩) (by simp) (.slice (some ⟨g', 0, none⟩) (i + 1) c')
   all_goals have k3 := hx4.set_ 3 (.slice (some ⟨g', 0, none⟩) (i + 1) c')
   all_goals have k4 := (HW3.out.2.2.2.2.since HW3.out.1 (by omega) hm hgr).setCell (p := ⟨G + 1, 3, none⟩) (.inr (by show w.heap.size <= G + 1; omega)) (.slice (some ⟨g', 0, none⟩) (i + 1) c')
   all_goals have k5 := hL.mod ((Mod.refl [G + 1] w4).setCell (p := ⟨G + 1, 3, none⟩) (.inl (by simp)) (.slice (some ⟨g', 0, none⟩) (i + 1) c')) (fun k hk => by rw [List.mem_singleton] at hk; subst hk; exact ⟨by omega, by omega⟩)
   all_goals have hlt := HLT.out
   all_goals go_roundw
   all_goals first | (simp only [intOf]; omega) | exact ⟨i + 1, some ⟨g', 0, none⟩, c', _, rfl, by simp, (show Hid _ from hlt), (show Hid _ from ⟨k4, k1, k2, by simpa using k3, k5⟩)⟩
  .
   obtain rfl : i = k := by have := hi.out; omega
   have tc : decide (((P i : Nat) : Int) < (l.length : Int) - 1) = false := by have := HK.out; simp; omega
   have HX := hid hW.out.2.2.2.1
   have HB := hid hW.out.2.1
   have HEW := hid hW.out.1
   have HGW := hid hW.out.2.2.2.2
   have x0 : wr.cell? ⟨G + 1, 0, none⟩ = some (.int .i64 4) := HX.out.cell 0
   have x1 : wr.cell? ⟨G + 1, 1, none⟩ = some (.int .u64 0) := HX.out.cell 1
   have x2 : wr.cell? ⟨G + 1, 2, none⟩ = some (str []) := HX.out.cell 2
   have x3 : wr.cell? ⟨G + 1, 3, none⟩ = some (.slice A i c) := HX.out.cell 3
   have x4 : wr.cell? ⟨G + 1, 4, none⟩ = some (.bool true) := HX.out.cell 4
   obtain ⟨c0, c1, c2, c3, c4⟩ := cells5 HB.out
   have f0 := HB.out.frozen 0
   have f1 := HB.out.frozen 1
   have f2 := HB.out.frozen 2
   have f3 := HB.out.frozen 3
   have f4 := HB.out.frozen 4
   clear hW
   go_wp2_with fail
   obtain ⟨d0, d1, d2, d3, d4⟩ := cells5 (set5_blk (t := T.mk 4 0 [] true i ch) (A := A) (c := c) HB.out)
   clear c0 c1 c2 c3 c4 f0 f1 f2 f3 f4 x0 x1 x2 x3 x4 g0 g2 g3
   show bodyPost _ _ _ _ _ (set5 wr w.heap.size (T.mk 4 0 [] true i ch) A c)
   refine bodyPost_ret (v := itemV (T.mk 4 0 [] true i ch) A c) (by simp [results, Tryz.results51, go_sem, d0, d1, d2, d3, d4]) rfl ⟨A, c, rfl, set5_mod HEW.out (Nat.le_refl _), ?_⟩
   have := HW1.out
   exact IsL.weak (fun b hb hq => by have hq2 : G + 2 <= b := hq; omega) (T.mk 4 0 [] true i ch) (IsL.mod set5_modb (fun b hq hb hm => by rw [List.mem_singleton] at hm; have hq2 : G + 2 <= b := hq; omega) (T.mk 4 0 [] true i ch) (HGW.out.isL (Q := fun b => G + 2 <= b) (fun b h => h) (fun b h => h) true))
theorem r13_any (t : T) : t.right 8 = true -> t.ok -> t.bytes.length <= 1073741824 -> ∀ w, Calls Tryz.prog 51 #[str t.bytes] w (IMade t w) := by
 induction t with
 | nil => intro _ h; exact absurd h T.not_nil
 | mk kind n s op k ch ih =>
  intro hr hok hl w
  have hp := T.right_plain hr
  have hh := T.readH_bytes _ hp hok []
  rw [List.append_nil] at hh
  have hnode : T.node kind n s op k = true := by
   unfold T.plain at hp; rw [Bool.and_eq_true] at hp; exact hp.1
  rcases T.node_kind hnode with rfl | rfl | rfl | rfl
  .
   have e : s = [] /\ k = 0 /\ op = false := by simpa [T.node, and_assoc] using hnode
   obtain ⟨rfl, rfl, rfl⟩ := e
   exact (r13_num _ _ n _ hh w).mono fun e w' h => ⟨none, 0, h.1, h.2, IsL.leaf⟩
  .
   have e : n = 0 /\ k = 0 /\ op = false := by simpa [T.node, and_assoc] using hnode
   obtain ⟨rfl, rfl, rfl⟩ := e
   have eb : (T.mk 2 0 s false 0 ch).bytes = headL 2 s.length ++ s := rfl
   rw [eb] at hh hl ⊢
   have h2 := r13_str _ hl _ 2 _ _ (.inl rfl) hh w
   rw [show (headL (2 : Int).toNat s.length).length = (headL 2 s.length).length from rfl, List.drop_left] at h2
   exact h2.mono fun e w' h => ⟨none, 0, h.1, h.2, IsL.leaf⟩
  .
   have e : n = 0 /\ k = 0 /\ op = false := by simpa [T.node, and_assoc] using hnode
   obtain ⟨rfl, rfl, rfl⟩ := e
   have eb : (T.mk 3 0 s false 0 ch).bytes = headL 3 s.length ++ s := rfl
   rw [eb] at hh hl ⊢
   have h2 := r13_str _ hl _ 3 _ _ (.inr rfl) hh w
   rw [show (headL (3 : Int).toNat s.length).length = (headL 3 s.length).length from rfl, List.drop_left] at h2
   exact h2.mono fun e w' h => ⟨none, 0, h.1, h.2, IsL.leaf⟩
  .
   have e : n = 0 /\ s = [] := by
    have : (n = 0 /\ s = []) /\ k <= 1000 := by simpa [T.node, and_assoc] using hnode
    exact this.1
   obtain ⟨rfl, rfl⟩ := e
   have hk : ∀ i, i < k -> (ch i).right 8 = true := by
    have h := hr
    unfold T.right at h
    rw [if_neg (by decide), Bool.and_eq_true, T.all_iff] at h
    exact fun i hi => T.right_up _ 7 (h.2 i hi)
   have hle : ∀ i, i < k -> (ch i).bytes.length <= 1073741824 := fun i hi => by
    have e := arr_drop (op := op) (ch := ch) hi
    have := congrArg List.length e
    rw [List.length_drop, List.length_append] at this
    have hl2 : (arrB op k ch).length <= 1073741824 := hl
    omega
   have IH : ∀ i, i < k -> ∀ w, Calls Tryz.prog 51 #[str (ch i).bytes] w (IMade (ch i) w) := fun i hi w => ih i (hk i hi) (hok.2.2.2.2 i hi) (hle i hi) w
   cases op with
   | false => exact r13_arr_false k ch hr hok hl IH w
   | true => exact r13_arr_true k ch hr hok hl IH w
end Go.Proofs.YthecmnbkjchjmaaGreat
