/-
 Items: how many there are, whether they are plain.
-/
import Derived.Test.YtmckfdmdkljomaaGreatDoorMMixLessCardab
import Derived.Test.YtmckfdmdkljomaaGreatDoorMMixLessCardac
namespace Go.Proofs.YtmckfdmdkljomaaGreatDoor
open Go.RowKit
set_option linter.unusedVariables false
set_option linter.unusedSimpArgs false
set_option maxRecDepth 20000 in
set_option maxHeartbeats 3200000 in
theorem plain_any (t : T) : t.ok -> ∀ A c w, IsL w (fun _ => True) t A ->
  Calls Tryz.prog 114 #[itemV t A c] w (Ret (.bool t.plain) w) := by
 induction t with
 | nil => intro hok; cases hok
 | mk kind n s op k ch ih =>
  intro hok A c w h
  have H := hid h; have HO := hid hok
  have HI := hid ih
  have hk : Hid (k < 4611686018427387904) := by unfold T.ok at hok; exact hok.2.2.2.1
  show Calls Tryz.prog 114 #[.agg #[.int .i64 kind, .int .u64 (n : Int), str s, .slice A k c, .bool op]] w (Ret (.bool (T.node kind n s op k && T.all (fun i => (ch i).plain) k)) w)
  have HB : Hid (Blk (w.alloc (.cells #[.int .i64 kind, .int .u64 (n : Int), str s, .slice A k c, .bool op] 68)) w.heap.size 68 #[.int .i64 kind, .int .u64 (n : Int), str s, .slice A k c, .bool op]) := Blk.new _ _ _
  have HE0 := hid ((Mod.refl [] w).alloc (.cells #[.int .i64 kind, .int .u64 (n : Int), str s, .slice A k c, .bool op] 68))
  clear h hok ih
  go_enter Tryz.func114, Tryz.ntmps114
  go_upto_region 2 with fail
  go_cut [4] (fun s4 wx => s4 = .bool (decide (kind = 2 \/ kind = 3)) /\ Hid (Ext w wx /\ Blk wx w.heap.size 68 #[.int .i64 kind, .int .u64 (n : Int), str s, .slice A k c, .bool op]))
  case first =>
   by_cases a2 : kind = 2
   .
    subst a2
    go_wp2_with fail
    go_meet
    exact ⟨by simp, HE0.out, HB.out⟩
   .
    have b2 : (kind == 2) = false := by simp [a2]
    go_wp2_with fail
    go_meet
    exact ⟨by simp only [a2, false_or]; rfl, HE0.out, HB.out⟩
  obtain ⟨rfl, hH⟩ := hcut
  have c0 : wc.cell? ⟨w.heap.size, 0, none⟩ = some (.int .i64 kind) := hH.out.2.cell 0
  have c1 : wc.cell? ⟨w.heap.size, 1, none⟩ = some (.int .u64 (n : Int)) := hH.out.2.cell 1
  have c2 : wc.cell? ⟨w.heap.size, 2, none⟩ = some (str s) := hH.out.2.cell 2
  have c3 : wc.cell? ⟨w.heap.size, 3, none⟩ = some (.slice A k c) := hH.out.2.cell 3
  have c4 : wc.cell? ⟨w.heap.size, 4, none⟩ = some (.bool op) := hH.out.2.cell 4
  go_upto_region 3 with fail
  go_cut [3, 4, 66] (fun s3 s4 s66 wx => ∃ bb, s66 = .bool bb /\ bb = !T.node kind n s op k /\ wx = wc)
  case first =>
   have bs : s ≠ [] -> (s == []) = false := fun h => by simp [h]
   have bS : s ≠ [] -> (s = []) = False := fun h => by simp [h]
   have bn : n ≠ 0 -> ((n : Int) == 0) = false := fun h => by simp [h]
   have bN : n ≠ 0 -> (n = 0) = False := fun h => by simp [h]
   have bk : 0 < k -> decide (0 < k) = true := fun h => by simp [h]
   have bK : 1000 < k -> decide (1000 < k) = true := fun h => by simp [h]
   have bK2 : ¬ 1000 < k -> decide (1000 < k) = false := fun h => by simp at h; simp [h]
   have bk2 : ¬ 0 < k -> k = 0 := fun h => by omega
   have q1 : k ≠ 0 -> (k = 0) = False := fun h => by simp [h]
   by_cases a0 : kind = 0
   .
    subst a0
    have hn : n = 0 \/ n ≠ 0 := by omega
    rcases hn with rfl | hn
    .
     skip
     by_cases hs : s = []
     .
      subst hs
      by_cases hk0 : 0 < k
      .
       have bk := bk hk0; have q1 := q1 (by omega)
       go_wp2_with fail
       go_meet
       exact ⟨_, rfl, by simp [T.node, q1], rfl⟩
      .
       obtain rfl := bk2 hk0
       cases op
       .
        skip
        go_wp2_with fail
        go_meet
        exact ⟨_, rfl, by simp [T.node], rfl⟩
       .
        skip
        go_wp2_with fail
        go_meet
        exact ⟨_, rfl, by simp [T.node], rfl⟩
     .
      have bs := bs hs; have bS := bS hs
      go_wp2_with fail
      go_meet
      exact ⟨_, rfl, by simp [T.node, hs], rfl⟩
    .
     have bn := bn hn; have bN := bN hn
     by_cases hs : s = []
     .
      subst hs
      by_cases hk0 : 0 < k
      .
       have bk := bk hk0; have q1 := q1 (by omega)
       go_wp2_with fail
       go_meet
       exact ⟨_, rfl, by simp [T.node, q1], rfl⟩
      .
       obtain rfl := bk2 hk0
       cases op
       .
        skip
        go_wp2_with fail
        go_meet
        exact ⟨_, rfl, by simp [T.node], rfl⟩
       .
        skip
        go_wp2_with fail
        go_meet
        exact ⟨_, rfl, by simp [T.node], rfl⟩
     .
      have bs := bs hs; have bS := bS hs
      go_wp2_with fail
      go_meet
      exact ⟨_, rfl, by simp [T.node, hs], rfl⟩
   .
    skip
    by_cases a2 : kind = 2
    .
     subst a2
     have hn : n = 0 \/ n ≠ 0 := by omega
     rcases hn with rfl | hn
     .
      skip
      by_cases hs : s = []
      .
       subst hs
       by_cases hk0 : 0 < k
       .
        have bk := bk hk0; have q1 := q1 (by omega)
        go_wp2_with fail
        go_meet
        exact ⟨_, rfl, by simp [T.node, q1], rfl⟩
       .
        obtain rfl := bk2 hk0
        cases op
        .
         skip
         go_wp2_with fail
         go_meet
         exact ⟨_, rfl, by simp [T.node], rfl⟩
        .
         skip
         go_wp2_with fail
         go_meet
         exact ⟨_, rfl, by simp [T.node], rfl⟩
      .
       have bs := bs hs; have bS := bS hs
       by_cases hk0 : 0 < k
       .
        have bk := bk hk0; have q1 := q1 (by omega)
        go_wp2_with fail
        go_meet
        exact ⟨_, rfl, by simp [T.node, q1], rfl⟩
       .
        obtain rfl := bk2 hk0
        cases op
        .
         skip
         go_wp2_with fail
         go_meet
         exact ⟨_, rfl, by simp [T.node], rfl⟩
        .
         skip
         go_wp2_with fail
         go_meet
         exact ⟨_, rfl, by simp [T.node], rfl⟩
     .
      have bn := bn hn; have bN := bN hn
      go_wp2_with fail
      go_meet
      exact ⟨_, rfl, by simp [T.node, hn], rfl⟩
    .
     skip
     by_cases a3 : kind = 3
     .
      subst a3
      have hn : n = 0 \/ n ≠ 0 := by omega
      rcases hn with rfl | hn
      .
       skip
       by_cases hs : s = []
       .
        subst hs
        by_cases hk0 : 0 < k
        .
         have bk := bk hk0; have q1 := q1 (by omega)
         go_wp2_with fail
         go_meet
         exact ⟨_, rfl, by simp [T.node, q1], rfl⟩
        .
         obtain rfl := bk2 hk0
         cases op
         .
          skip
          go_wp2_with fail
          go_meet
          exact ⟨_, rfl, by simp [T.node], rfl⟩
         .
          skip
          go_wp2_with fail
          go_meet
          exact ⟨_, rfl, by simp [T.node], rfl⟩
       .
        have bs := bs hs; have bS := bS hs
        by_cases hk0 : 0 < k
        .
         have bk := bk hk0; have q1 := q1 (by omega)
         go_wp2_with fail
         go_meet
         exact ⟨_, rfl, by simp [T.node, q1], rfl⟩
        .
         obtain rfl := bk2 hk0
         cases op
         .
          skip
          go_wp2_with fail
          go_meet
          exact ⟨_, rfl, by simp [T.node], rfl⟩
         .
          skip
          go_wp2_with fail
          go_meet
          exact ⟨_, rfl, by simp [T.node], rfl⟩
      .
       have bn := bn hn; have bN := bN hn
       go_wp2_with fail
       go_meet
       exact ⟨_, rfl, by simp [T.node, hn], rfl⟩
     .
      skip
      by_cases a4 : kind = 4
      .
       subst a4
       have hn : n = 0 \/ n ≠ 0 := by omega
       rcases hn with rfl | hn
       .
        skip
        by_cases hs : s = []
        .
         subst hs
         by_cases hk0 : 0 < k
         .
          have bk := bk hk0; have q1 := q1 (by omega)
          by_cases hk1 : 1000 < k
          .
           have bK := bK hk1; have z1 : decide (k <= 1000) = false := by simp; omega
           have z2 : decide (1000 < (k : Int)) = true := by simp; omega
           go_wp2_with fail
           go_meet
           exact ⟨_, rfl, by simp [T.node, z1], rfl⟩
          .
           have bK := bK2 hk1; have z1 : decide (k <= 1000) = true := by simp; omega
           have z2 : decide (1000 < (k : Int)) = false := by simp; omega
           go_wp2_with fail
           go_meet
           exact ⟨_, rfl, by simp [T.node, z1], rfl⟩
         .
          obtain rfl := bk2 hk0
          cases op
          .
           skip
           go_wp2_with fail
           go_meet
           exact ⟨_, rfl, by simp [T.node], rfl⟩
          .
           skip
           go_wp2_with fail
           go_meet
           exact ⟨_, rfl, by simp [T.node], rfl⟩
        .
         have bs := bs hs; have bS := bS hs
         go_wp2_with fail
         go_meet
         exact ⟨_, rfl, by simp [T.node, hs], rfl⟩
       .
        have bn := bn hn; have bN := bN hn
        go_wp2_with fail
        go_meet
        exact ⟨_, rfl, by simp [T.node, hn], rfl⟩
      .
       skip
       have e0 : (kind == 0) = false := by simp [a0]
       have e4 : (kind == 4) = false := by simp [a4]
       have e23 : decide (kind = 2 \/ kind = 3) = false := by simp [a2, a3]
       have f0 : (kind = 0) = False := by simp [a0]
       have f4 : (kind = 4) = False := by simp [a4]
       have f2 : (kind = 2) = False := by simp [a2]
       have f3 : (kind = 3) = False := by simp [a3]
       go_wp2_with fail
       go_meet
       exact ⟨_, rfl, by simp [T.node, a0, a2, a3, a4], rfl⟩
  obtain ⟨bb, rfl, hbb, rfl⟩ := hcut
  cases hnd : T.node kind n s op k
  .
   have HND := hid hnd
   rw [hnd] at hbb; obtain rfl : bb = true := hbb
   go_wp2_with fail
   go_ret
   exact Ret.mk (by rw [HND.out]; rfl) hH.out.1
  .
   have HND := hid hnd
   rw [hnd] at hbb; obtain rfl : bb = false := hbb
   clear hnd
   go_wp2_with fail
   go_loopw [5] (fun s5 wr => ∃ i : Nat, i <= k /\ s5 = .int .i64 (i : Int) /\ Hid (Ext w wr /\ Blk wr w.heap.size 68 #[.int .i64 kind, .int .u64 (n : Int), str s, .slice A k c, .bool op] /\ T.all (fun i => (ch i).plain) i = true)) (fun i _ => k - (intOf i).toNat)
   case atStart => exact ⟨0, Nat.zero_le _, rfl, hH.out.1, hH.out.2, rfl⟩
   case round =>
    clear c0 c1 c2 c3 c4
    obtain ⟨i, hi, rfl, hX⟩ := hrel
    have i0 : (0 : Int) <= (i : Int) := by omega
    have c3 : wr.cell? ⟨w.heap.size, 3, none⟩ = some (.slice A k c) := hX.out.2.1.cell 3
    by_cases hlt : i < k
    .
     obtain ⟨b, o, Ai, ci, rfl, hb, ⟨k0, k1, k2, k3, k4⟩, hL⟩ := H.out.cells hX.out.1 hlt
     have i1 : (i : Int) < (k : Int) := by omega
     have hk2 : (k : Int) < 4611686018427387904 := by have := hk.out; omega
     have ti : decide (i < k) = true := by simp [hlt]
     have HL := hid hL; have HLT := hid hlt
     have HOi : Hid (ch i).ok := by have := HO.out; unfold T.ok at this; exact this.2.2.2.2 i hlt
     clear hL hlt
     go_wp2_with fail
     refine (HI.out i HOi.out Ai ci _ HL.out).mono ?_
     rintro e w3 ⟨rfl, hb3⟩
     have HE3 := hid (hX.out.1.trans hb3)
     have HB3 := hid (hX.out.2.1.ext hb3)
     clear hb3
     cases hpl : (ch i).plain
     .
      have hno : T.all (fun i => (ch i).plain) k = false := by
       have hlt := HLT.out
       cases hh : T.all (fun i => (ch i).plain) k with
       | false => rfl
       | true => have := T.all_iff.1 hh i hlt; rw [hpl] at this; cases this
      have HNO := hid hno
      clear hno
      go_wp2_with fail
      go_ret
      exact Ret.mk (by rw [HND.out, HNO.out]; rfl) HE3.out
     .
      have HPL := hid hpl
      go_wp2_with fail
      have hlt := HLT.out
      refine ⟨⟨i + 1, by omega, by simp, (show Hid _ from ⟨HE3.out, HB3.out, by rw [T.all, hX.out.2.2, HPL.out]; rfl⟩)⟩, ?_⟩
      simp only [intOf]; omega
    .
     obtain rfl : i = k := by omega
     have ti : decide (i < i) = false := by simp
     go_wp2_with fail
     go_ret
     exact Ret.mk (by rw [HND.out, hX.out.2.2]; rfl) hX.out.1
set_option maxRecDepth 20000 in
set_option maxHeartbeats 1600000 in
theorem rRight_any (t : T) (hok : t.ok) (A : Option Addr) (c : Nat) (w : World) (h : IsL w (fun _ => True) t A) :
  Calls Tryz.prog 92 #[itemV t A c] w (Ret (.bool (t.right 8)) w) := by
 have H := hid h; have HO := hid hok
 have HR := hid (T.right_eq t 8)
 have HB : Hid (Blk (w.alloc (.cells (itemC t A c) 68)) w.heap.size 68 (itemC t A c)) := Blk.new _ _ _
 have HE0 := hid ((Mod.refl [] w).alloc (.cells (itemC t A c) 68))
 clear h hok
 go_enter Tryz.func92, Tryz.ntmps92
 go_wp2_with fail
 refine (Deep_any t 9 (by omega) HO.out A c _ (H.out.ext HE0.out)).mono ?_
 rintro e w2 ⟨rfl, hb2⟩
 have HE2 := hid (HE0.out.trans hb2)
 have hB2 := HB.out.ext hb2
 have c0 : w2.cell? ⟨w.heap.size, 0, none⟩ = some (.int .i64 t.kind) := hB2.cell 0
 have c1 : w2.cell? ⟨w.heap.size, 1, none⟩ = some (.int .u64 (t.n : Int)) := hB2.cell 1
 have c2 : w2.cell? ⟨w.heap.size, 2, none⟩ = some (str t.s) := hB2.cell 2
 have c3 : w2.cell? ⟨w.heap.size, 3, none⟩ = some (.slice A t.k c) := hB2.cell 3
 have c4 : w2.cell? ⟨w.heap.size, 4, none⟩ = some (.bool t.op) := hB2.cell 4
 by_cases hd : t.deep 9 <= 8
 .
  have HD := hid hd
  have td : decide (t.deep 9 <= 8) = true := by simp [hd]
  have td2 : decide ((t.deep 9 : Int) <= 8) = true := by simp; omega
  clear hd hb2 hB2
  go_wp2_with fail
  refine (plain_any t HO.out A c _ (H.out.ext HE2.out)).mono ?_
  rintro e w3 ⟨rfl, hb3⟩
  go_wp2_with fail
  go_ret
  exact Ret.mk (by rw [HR.out]; simp [HD.out]) (HE2.out.trans hb3)
 .
  have HD := hid hd
  have td : decide (t.deep 9 <= 8) = false := by simp; omega
  have td2 : decide ((t.deep 9 : Int) <= 8) = false := by simp; omega
  clear hd hb2 hB2
  go_wp2_with fail
  go_ret
  exact Ret.mk (by rw [HR.out]; simp [HD.out]) HE2.out
def few (t : T) (m : Nat) : Bool := decide (t.deep 9 <= 9) && decide (t.count m <= m)
def pre (kind : Int) (s : List UInt8) (op : Bool) (k : Nat) (ch : Nat -> T) (j : Nat) : List UInt8 := (if op then [159] else headL 4 k) ++ T.cat (fun i => (ch i).bytes) j
theorem T.cat_mono {f : Nat -> List UInt8} {j k : Nat} (h : j <= k) : (T.cat f j).length <= (T.cat f k).length := by
 induction k with
 | zero =>
    have : j = 0 := by omega
    subst this; exact Nat.le_refl _
 | succ k ih =>
  by_cases e : j = k + 1
  . subst e; exact Nat.le_refl _
  .
   have := ih (by omega)
   rw [T.cat, List.length_append]; omega
theorem pre_succ (kind : Int) (s : List UInt8) (op : Bool) (k : Nat) (ch : Nat -> T) (j : Nat) : pre kind s op k ch (j + 1) = pre kind s op k ch j ++ (ch j).bytes := by
 unfold pre; rw [T.cat, List.append_assoc]
theorem pre_le {n : Nat} {s : List UInt8} {op : Bool} {k : Nat} {ch : Nat -> T} {j : Nat} (hj : j <= k) (h : (T.mk 4 n s op k ch).size <= 100000) : (pre 4 s op k ch j).length <= 1000000 := by
 have h1 := T.bytes_le (.mk 4 n s op k ch)
 have h2 : (T.mk 4 n s op k ch).bytes = (if op then [159] else headL 4 k) ++ (T.cat (fun i => (ch i).bytes) k ++ (if op then [255] else [])) := rfl
 have h3 := T.cat_mono (f := fun i => (ch i).bytes) hj
 rw [h2, List.length_append, List.length_append] at h1
 unfold pre
 rw [List.length_append]
 omega
theorem pre_end {n : Nat} {s : List UInt8} {op : Bool} {k : Nat} {ch : Nat -> T} : (T.mk 4 n s op k ch).bytes = pre 4 s op k ch k ++ (if op then [255] else []) := by
 have h2 : (T.mk 4 n s op k ch).bytes = (if op then [159] else headL 4 k) ++ (T.cat (fun i => (ch i).bytes) k ++ (if op then [255] else [])) := rfl
 rw [h2, pre, List.append_assoc]
set_option maxRecDepth 20000 in
set_option maxHeartbeats 3200000 in
theorem rBytesI_any (t : T) : t.ok -> t.plain = true -> t.size <= 100000 -> ∀ A c w, IsL w (fun _ => True) t A ->
  Calls Tryz.prog 66 #[itemV t A c] w (Ret (str t.bytes) w) := by
 induction t with
 | nil => intro hok; cases hok
 | mk kind n s op k ch ih =>
  intro hok hpl hsz A c w h
  have H := hid h; have HO := hid hok; have HPL := hid hpl; have HSZ := hid hsz
  have HI := hid ih
  have hk : Hid (k < 4611686018427387904) := by unfold T.ok at hok; exact hok.2.2.2.1
  have hn64 : Hid (n < 18446744073709551616) := by unfold T.ok at hok; exact hok.2.1
  have hs64 : Hid (s.length < 4611686018427387904) := by unfold T.ok at hok; exact hok.2.2.1
  have hkd : kind = 0 \/ kind = 2 \/ kind = 3 \/ kind = 4 := by unfold T.plain at hpl; rw [Bool.and_eq_true] at hpl; exact T.node_kind hpl.1
  have hpc : Hid (∀ i, i < k -> (ch i).plain = true) := by unfold T.plain at hpl; rw [Bool.and_eq_true, T.all_iff] at hpl; exact hpl.2
  have HBL := hid (T.bytes_le (.mk kind n s op k ch))
  have hBy : (T.mk kind n s op k ch).bytes = if kind = 0 then headL 0 n else if kind < 4 then headL kind.toNat s.length ++ s else (if op then [159] else headL 4 k) ++ (T.cat (fun i => (ch i).bytes) k ++ (if op then [255] else [])) := rfl
  have HBy := hid hBy
  show Calls Tryz.prog 66 #[.agg #[.int .i64 kind, .int .u64 (n : Int), str s, .slice A k c, .bool op]] w (Ret (str (T.mk kind n s op k ch).bytes) w)
  have HB : Hid (Blk (w.alloc (.cells #[.int .i64 kind, .int .u64 (n : Int), str s, .slice A k c, .bool op] 68)) w.heap.size 68 #[.int .i64 kind, .int .u64 (n : Int), str s, .slice A k c, .bool op]) := Blk.new _ _ _
  have HE0 := hid ((Mod.refl [] w).alloc (.cells #[.int .i64 kind, .int .u64 (n : Int), str s, .slice A k c, .bool op] 68))
  clear h hok hpl hsz ih hBy
  by_cases k0 : kind = 0
  .
   subst k0
   rw [HBy.out, if_pos rfl]
   go_enter Tryz.func66, Tryz.ntmps66
   go_wp2_with fail
   refine (rhead_in 0 n (by omega) (by omega) (by omega) (by have := hn64.out; omega) _).mono ?_
   rintro e w2 ⟨rfl, hb2⟩
   go_wp2_with fail
   go_ret
   exact Ret.mk rfl (HE0.out.trans hb2)
  .
   by_cases k4 : kind < 4
   .
    rw [HBy.out, if_neg k0, if_pos k4]
    have b0 : (kind == 0) = false := by simp [k0]
    have b1 : (kind = 0) = False := by simp [k0]
    have b2 : decide (kind < 4) = true := by simp [k4]
    have HK : Hid (0 <= kind /\ kind <= 3) := by unfold Hid; omega
    have s0 : (s.length : Int) < 9223372036854775808 := by have := hs64.out; omega
    have hno : (9223372036854775807 < (headL kind.toNat s.length).length + s.length) = False := by have := headL_le kind.toNat s.length; have := hs64.out; simp; omega
    clear k0 k4 hkd
    go_enter Tryz.func66, Tryz.ntmps66
    go_upto_region 1 with fail
    go_cut [5, 6, 7] (fun s5 s6 s7 wx => s7 = .bool false /\ Hid (Ext w wx /\ Blk wx w.heap.size 68 #[.int .i64 kind, .int .u64 (n : Int), str s, .slice A k c, .bool op]))
    case first =>
     go_wp2_with fail
     go_meet
     exact ⟨rfl, HE0.out, HB.out⟩
    obtain ⟨rfl, hX⟩ := hcut
    have HX : Hid (∀ W, Ext wc W -> W.cell? ⟨w.heap.size, 0, none⟩ = some (.int .i64 kind) /\ W.cell? ⟨w.heap.size, 2, none⟩ = some (str s)) := fun W hW => ⟨(hX.out.2.ext hW).cell 0, (hX.out.2.ext hW).cell 2⟩
    have tw : IntKind.u64.wrap (s.length : Int) = (s.length : Int) := IntWalk.u64_in _ (by have := hs64.out; omega)
    have y0 := (HX.out wc (Mod.refl _ _)).1
    have y2 := (HX.out wc (Mod.refl _ _)).2
    go_upto_region 4 with fail
    go_region_held3 (fun w' => w'.cell? ⟨w.heap.size, 0, none⟩ = some (.int .i64 kind) /\ w'.cell? ⟨w.heap.size, 2, none⟩ = some (str s)) (go_keep)
     ((go_at_call 65; (try rw [tw]); refine (rhead_in kind (s.length : Int) HK.out.1 (by have := HK.out.2; omega) (by omega) (by have := hs64.out; omega) _).mono ?_; rintro e w3 ⟨rfl, hb3⟩; rw [Int.toNat_natCast]; have hx3 : Ext wc w3 := (by with_reducible refine Mod.trans ?_ hb3; (repeat (first | with_reducible assumption | with_reducible exact Mod.refl _ _ | with_reducible refine Mod.drew ?_))); have z0 := (HX.out w3 hx3).1; have z2 := (HX.out w3 hx3).2))
    all_goals go_wp2_with fail
    all_goals go_ret
    all_goals exact Ret.mk rfl (hX.out.1.trans hx3)
   .
    have hk4 : kind = 4 := by omega
    subst hk4
    clear HBy k0 k4 hkd HBL
    have K0 : (0 : Int) <= (k : Int) := by omega
    have K1 : (k : Int) < 9223372036854775808 := by have := hk.out; omega
    cases op
    .
     go_enter Tryz.func66, Tryz.ntmps66
     go_wp2_with fail
     refine (rhead_in 4 (k : Int) (by omega) (by omega) (by omega) (by have := hk.out; omega) _).mono ?_
     rintro e w2 ⟨rfl, hb2⟩
     rw [Int.toNat_natCast]
     have HE2 := hid (HE0.out.trans hb2)
     have HB2 := hid (HB.out.ext hb2)
     have c4 : w2.cell? ⟨w.heap.size, 4, none⟩ = some (.bool false) := HB2.out.cell 4
     clear hb2 K1
     go_wp2_with fail
     clear c4
     go_loopw [3, 4] (fun s3 s4 wr => ∃ i : Nat, i <= k /\ s4 = .int .i64 (i : Int) /\ s3 = str (pre 4 s false k ch i) /\ Hid (Ext w wr /\ Blk wr w.heap.size 68 #[.int .i64 4, .int .u64 (n : Int), str s, .slice A k c, .bool false])) (fun _ i _ => k - (intOf i).toNat)
     case atStart => exact ⟨0, Nat.zero_le _, rfl, by simp [pre, T.cat], HE2.out, HB2.out⟩
     case round =>
      obtain ⟨i, hi, rfl, rfl, hH⟩ := hrel
      have i0 : (0 : Int) <= (i : Int) := by omega
      have c3 : wr.cell? ⟨w.heap.size, 3, none⟩ = some (.slice A k c) := hH.out.2.cell 3
      have c4 : wr.cell? ⟨w.heap.size, 4, none⟩ = some (.bool false) := hH.out.2.cell 4
      have HP := hid (pre_le (op := false) hi HSZ.out)
      by_cases hlt : i < k
      .
       obtain ⟨b, o, Ai, ci, rfl, hb, ⟨k0, k1, k2, k3, k4⟩, hL⟩ := H.out.cells hH.out.1 hlt
       have i1 : (i : Int) < (k : Int) := by omega
       have ti : decide (i < k) = true := by simp [hlt]
       have HL := hid hL; have HLT := hid hlt
       have HOi : Hid (ch i).ok := by have := HO.out; unfold T.ok at this; exact this.2.2.2.2 i hlt
       have HZi : Hid ((ch i).size <= 100000) := Nat.le_trans (T.size_ch hlt) HSZ.out
       have HPS := hid (pre_succ 4 s false k ch i)
       have hno : (9223372036854775807 < (pre 4 s false k ch i).length + (ch i).bytes.length) = False := by
        have h1 := pre_le (op := false) (show i + 1 <= k by omega) HSZ.out
        rw [HPS.out, List.length_append] at h1
        simp; omega
       have hk2 : (k : Int) < 4611686018427387904 := by have := hk.out; omega
       clear hL hlt
       go_wp2_with fail
       refine (HI.out i HOi.out (hpc.out i HLT.out) HZi.out Ai ci _ HL.out).mono ?_
       rintro e w3 ⟨rfl, hb3⟩
       have HE3 := hid (hH.out.1.trans hb3)
       have HB3 := hid (hH.out.2.ext hb3)
       clear hb3
       go_wp2_with fail
       have hlt := HLT.out
       refine ⟨⟨i + 1, by omega, by simp, by rw [HPS.out]; exact str_app _ _, (show Hid _ from ⟨HE3.out, HB3.out⟩)⟩, ?_⟩
       simp only [intOf]; omega
      .
       obtain rfl : i = k := by omega
       have ti : decide (i < i) = false := by simp
       have HPE := hid (pre_end (n := n) (s := s) (op := false) (k := i) (ch := ch))
       have hno : (9223372036854775807 < (pre 4 s false i ch i).length + 1) = False := by have := HP.out; simp; omega
       go_wp2_with fail
       go_ret
       exact Ret.mk (by rw [HPE.out]; simp) hH.out.1
    .
     go_enter Tryz.func66, Tryz.ntmps66
     go_wp2_with fail
     refine (rhead_in 4 (k : Int) (by omega) (by omega) (by omega) (by have := hk.out; omega) _).mono ?_
     rintro e w2 ⟨rfl, hb2⟩
     rw [Int.toNat_natCast]
     have HE2 := hid (HE0.out.trans hb2)
     have HB2 := hid (HB.out.ext hb2)
     have c4 : w2.cell? ⟨w.heap.size, 4, none⟩ = some (.bool true) := HB2.out.cell 4
     clear hb2 K1
     go_wp2_with fail
     clear c4
     go_loopw [3, 4] (fun s3 s4 wr => ∃ i : Nat, i <= k /\ s4 = .int .i64 (i : Int) /\ s3 = str (pre 4 s true k ch i) /\ Hid (Ext w wr /\ Blk wr w.heap.size 68 #[.int .i64 4, .int .u64 (n : Int), str s, .slice A k c, .bool true])) (fun _ i _ => k - (intOf i).toNat)
     case atStart => exact ⟨0, Nat.zero_le _, rfl, by simp [pre, T.cat], HE2.out, HB2.out⟩
     case round =>
      obtain ⟨i, hi, rfl, rfl, hH⟩ := hrel
      have i0 : (0 : Int) <= (i : Int) := by omega
      have c3 : wr.cell? ⟨w.heap.size, 3, none⟩ = some (.slice A k c) := hH.out.2.cell 3
      have c4 : wr.cell? ⟨w.heap.size, 4, none⟩ = some (.bool true) := hH.out.2.cell 4
      have HP := hid (pre_le (op := true) hi HSZ.out)
      by_cases hlt : i < k
      .
       obtain ⟨b, o, Ai, ci, rfl, hb, ⟨k0, k1, k2, k3, k4⟩, hL⟩ := H.out.cells hH.out.1 hlt
       have i1 : (i : Int) < (k : Int) := by omega
       have ti : decide (i < k) = true := by simp [hlt]
       have HL := hid hL; have HLT := hid hlt
       have HOi : Hid (ch i).ok := by have := HO.out; unfold T.ok at this; exact this.2.2.2.2 i hlt
       have HZi : Hid ((ch i).size <= 100000) := Nat.le_trans (T.size_ch hlt) HSZ.out
       have HPS := hid (pre_succ 4 s true k ch i)
       have hno : (9223372036854775807 < (pre 4 s true k ch i).length + (ch i).bytes.length) = False := by
        have h1 := pre_le (op := true) (show i + 1 <= k by omega) HSZ.out
        rw [HPS.out, List.length_append] at h1
        simp; omega
       have hk2 : (k : Int) < 4611686018427387904 := by have := hk.out; omega
       clear hL hlt
       go_wp2_with fail
       refine (HI.out i HOi.out (hpc.out i HLT.out) HZi.out Ai ci _ HL.out).mono ?_
       rintro e w3 ⟨rfl, hb3⟩
       have HE3 := hid (hH.out.1.trans hb3)
       have HB3 := hid (hH.out.2.ext hb3)
       clear hb3
       go_wp2_with fail
       have hlt := HLT.out
       refine ⟨⟨i + 1, by omega, by simp, by rw [HPS.out]; exact str_app _ _, (show Hid _ from ⟨HE3.out, HB3.out⟩)⟩, ?_⟩
       simp only [intOf]; omega
      .
       obtain rfl : i = k := by omega
       have ti : decide (i < i) = false := by simp
       have HPE := hid (pre_end (n := n) (s := s) (op := true) (k := i) (ch := ch))
       have hno : (9223372036854775807 < (pre 4 s true i ch i).length + 1) = False := by have := HP.out; simp; omega
       go_wp2_with fail
       go_ret
       exact Ret.mk (by rw [HPE.out]; exact str_app _ [255]) hH.out.1
theorem T.leaf_all {kind : Int} {n : Nat} {s : List UInt8} {op : Bool} {k : Nat} {f : Nat -> Bool} (h : kind ≠ 4) : (T.node kind n s op k && T.all f k) = T.node kind n s op k := by
 cases hn : T.node kind n s op k with
 | false => rfl
 | true =>
  unfold T.node at hn
  by_cases a : kind = 0
  . rw [if_pos a] at hn; simp at hn; rw [hn.1.2]; rfl
  .
   rw [if_neg a] at hn
   by_cases b : kind = 2 \/ kind = 3
   . rw [if_pos b] at hn; simp at hn; rw [hn.1.2]; rfl
   . rw [if_neg b, if_neg h] at hn; cases hn
set_option maxRecDepth 20000 in
set_option maxHeartbeats 3200000 in
theorem right_any (t : T) : ∀ (d : Nat), d <= 9 -> t.ok -> ∀ A c w, IsL w (fun _ => True) t A ->
  Calls Tryz.prog 176 #[itemV t A c, .int .i64 (d : Int)] w (Ret (.bool (t.right d)) w) := by
 induction t with
 | nil => intro m _ hok; cases hok
 | mk kind n s op k ch ih =>
  intro d hd hok A c w h
  have H := hid h; have HO := hid hok; have HD := hid hd
  have HI := hid ih
  have d0 : (0 : Int) <= (d : Int) := by omega
  have d1 : (d : Int) <= 9 := by omega
  have hk : Hid (k < 4611686018427387904) := by unfold T.ok at hok; exact hok.2.2.2.1
  have HR : Hid ((T.mk kind n s op k ch).right d = if d < 1 then false else T.node kind n s op k && T.all (fun i => (ch i).right (d - 1)) k) := rfl
  show Calls Tryz.prog 176 #[.agg #[.int .i64 kind, .int .u64 (n : Int), str s, .slice A k c, .bool op], .int .i64 (d : Int)] w (Ret (.bool ((T.mk kind n s op k ch).right d)) w)
  have HE0 := hid ((Mod.refl [] w).alloc (.cells #[.int .i64 kind, .int .u64 (n : Int), str s, .slice A k c, .bool op] 68))
  clear h hok ih hd
  by_cases hd0 : d < 1
  .
   obtain rfl : d = 0 := by omega
   rw [HR.out, if_pos (by omega)]
   go_enter Tryz.func176, Tryz.ntmps176
   go_wp2
   go_ret
   exact Ret.mk rfl HE0.out
  .
   rw [HR.out, if_neg hd0]
   have HD1 : Hid (1 <= d) := by unfold Hid; omega
   have td : decide ((d : Int) < 1) = false := by simp; omega
   have td2 : (d < 1) = False := by simp [hd0]
   have td3 : (d = 0) = False := by simp; omega
   have bs : s ≠ [] -> (s == []) = false := fun h => by simp [h]
   have bS : s ≠ [] -> (s = []) = False := fun h => by simp [h]
   have bn : n ≠ 0 -> ((n : Int) == 0) = false := fun h => by simp [h]
   have bN : n ≠ 0 -> (n = 0) = False := fun h => by simp [h]
   have bk : k ≠ 0 -> ((k : Int) == 0) = false := fun h => by simp [h]
   have q1 : k ≠ 0 -> (k = 0) = False := fun h => by simp [h]
   clear hd0
   by_cases a0 : kind = 0
   .
    subst a0
    go_enter Tryz.func176, Tryz.ntmps176
    by_cases hs : s = []
    .
     subst hs
     by_cases hk0 : k = 0
     .
      subst hk0
      cases op
      .
       skip
       go_wp2_with fail
       go_ret
       exact Ret.mk (by rw [T.leaf_all (by omega)]; simp [T.node]) HE0.out
      .
       skip
       go_wp2_with fail
       go_ret
       exact Ret.mk (by rw [T.leaf_all (by omega)]; simp [T.node]) HE0.out
     .
      have bk := bk hk0; have q1 := q1 hk0
      go_wp2_with fail
      go_ret
      exact Ret.mk (by rw [T.leaf_all (by omega)]; simp [T.node, hk0]) HE0.out
    .
     have bs := bs hs; have bS := bS hs
     go_wp2_with fail
     go_ret
     exact Ret.mk (by rw [T.leaf_all (by omega)]; simp [T.node, hs]) HE0.out
   .
    skip
    by_cases a2 : kind = 2
    .
     subst a2
     go_enter Tryz.func176, Tryz.ntmps176
     have hn : n = 0 \/ n ≠ 0 := by omega
     rcases hn with rfl | hn
     .
      skip
      by_cases hk0 : k = 0
      .
       subst hk0
       cases op
       .
        skip
        go_wp2_with fail
        go_ret
        exact Ret.mk (by rw [T.leaf_all (by omega)]; simp [T.node]) HE0.out
       .
        skip
        go_wp2_with fail
        go_ret
        exact Ret.mk (by rw [T.leaf_all (by omega)]; simp [T.node]) HE0.out
      .
       have bk := bk hk0; have q1 := q1 hk0
       go_wp2_with fail
       go_ret
       exact Ret.mk (by rw [T.leaf_all (by omega)]; simp [T.node, hk0]) HE0.out
     .
      have bn := bn hn; have bN := bN hn
      go_wp2_with fail
      go_ret
      exact Ret.mk (by rw [T.leaf_all (by omega)]; simp [T.node, hn]) HE0.out
    .
     skip
     by_cases a3 : kind = 3
     .
      subst a3
      go_enter Tryz.func176, Tryz.ntmps176
      have hn : n = 0 \/ n ≠ 0 := by omega
      rcases hn with rfl | hn
      .
       skip
       by_cases hk0 : k = 0
       .
        subst hk0
        cases op
        .
         skip
         go_wp2_with fail
         go_ret
         exact Ret.mk (by rw [T.leaf_all (by omega)]; simp [T.node]) HE0.out
        .
         skip
         go_wp2_with fail
         go_ret
         exact Ret.mk (by rw [T.leaf_all (by omega)]; simp [T.node]) HE0.out
       .
        have bk := bk hk0; have q1 := q1 hk0
        go_wp2_with fail
        go_ret
        exact Ret.mk (by rw [T.leaf_all (by omega)]; simp [T.node, hk0]) HE0.out
      .
       have bn := bn hn; have bN := bN hn
       go_wp2_with fail
       go_ret
       exact Ret.mk (by rw [T.leaf_all (by omega)]; simp [T.node, hn]) HE0.out
     .
      skip
      have e0 : (kind == 0) = false := by simp [a0]
      have e2 : (kind == 2) = false := by simp [a2]
      have e3 : (kind == 3) = false := by simp [a3]
      have f0 : (kind = 0) = False := by simp [a0]
      have f2 : (kind = 2) = False := by simp [a2]
      have f3 : (kind = 3) = False := by simp [a3]
      by_cases a4 : kind = 4
      .
       subst a4
       clear e0 e2 e3 f0 f2 f3 a0 a2 a3
       go_enter Tryz.func176, Tryz.ntmps176
       have hn : n = 0 \/ n ≠ 0 := by omega
       rcases hn with rfl | hn
       .
        by_cases hs : s = []
        .
         subst hs
         by_cases hk1 : 1000 < k
         .
          have bK : decide (1000 < k) = true := by simp [hk1]
          have z1 : decide (k <= 1000) = false := by simp; omega
          go_wp2_with fail
          go_ret
          exact Ret.mk (by simp [T.node, z1]) HE0.out
         .
          have bK : decide (1000 < k) = false := by simp; omega
          have z1 : decide (k <= 1000) = true := by simp; omega
          have HND : Hid (T.node 4 0 [] op k = true) := by unfold Hid; simp [T.node, z1]
          have bK3 : (1000 < k) = False := by simp; omega
          go_wp2_with fail
          clear hk1 z1 bK bK3
          go_loopw [63] (fun s63 wr => ∃ i : Nat, i <= k /\ s63 = .int .i64 (i : Int) /\ Hid (Ext w wr /\ T.all (fun i => (ch i).right (d - 1)) i = true)) (fun i _ => k - (intOf i).toNat)
          case atStart => exact ⟨0, Nat.zero_le _, rfl, HE0.out, rfl⟩
          case round =>
           obtain ⟨i, hi, rfl, hX⟩ := hrel
           have i0 : (0 : Int) <= (i : Int) := by omega
           by_cases hlt : i < k
           .
            obtain ⟨b, o, Ai, ci, rfl, hb, ⟨k0, k1, k2, k3, k4⟩, hL⟩ := H.out.cells hX.out.1 hlt
            have i1 : (i : Int) < (k : Int) := by omega
            have hk2 : (k : Int) < 4611686018427387904 := by have := hk.out; omega
            have ti : decide (i < k) = true := by simp [hlt]
            have ha : (d : Int) - 1 = ((d - 1 : Nat) : Int) := by have := HD1.out; omega
            have HL := hid hL; have HLT := hid hlt
            have HOi : Hid (ch i).ok := by have := HO.out; unfold T.ok at this; exact this.2.2.2.2 i hlt
            clear hL hlt
            go_wp2_with fail
            have HEa := hid ((Mod.refl [] wr).alloc (.cells (itemC (ch i) Ai ci) 68))
            refine (HI.out i (d - 1) (by have := HD.out; omega) HOi.out Ai ci _ (HL.out.ext HEa.out)).mono ?_
            rintro e w3 ⟨rfl, hb3⟩
            have HE3 := hid ((hX.out.1.trans HEa.out).trans hb3)
            clear hb3
            cases hpl : (ch i).right (d - 1)
            .
             have hno : T.all (fun i => (ch i).right (d - 1)) k = false := by
              have hlt := HLT.out
              cases hh : T.all (fun i => (ch i).right (d - 1)) k with
              | false => rfl
              | true => have := T.all_iff.1 hh i hlt; rw [hpl] at this; cases this
             have HNO := hid hno
             clear hno hpl
             go_wp2_with fail
             go_ret
             exact Ret.mk (by rw [HND.out, HNO.out]; rfl) HE3.out
            .
             have HPL := hid hpl
             clear hpl
             go_wp2_with fail
             have hlt := HLT.out
             refine ⟨⟨i + 1, by omega, by simp, (show Hid _ from ⟨HE3.out, by rw [T.all, hX.out.2, HPL.out]; rfl⟩)⟩, ?_⟩
             simp only [intOf]; omega
           .
            obtain rfl : i = k := by omega
            have ti : decide (i < i) = false := by simp
            go_wp2_with fail
            go_ret
            exact Ret.mk (by rw [HND.out, hX.out.2]; rfl) hX.out.1
        .
         have bs := bs hs; have bS := bS hs
         go_wp2_with fail
         go_ret
         exact Ret.mk (by simp [T.node, hs]) HE0.out
       .
        have bn := bn hn; have bN := bN hn
        go_wp2_with fail
        go_ret
        exact Ret.mk (by simp [T.node, hn]) HE0.out
      .
       have e4 : (kind == 4) = false := by simp [a4]
       have f4 : (kind = 4) = False := by simp [a4]
       go_enter Tryz.func176, Tryz.ntmps176
       go_wp2_with fail
       go_ret
       exact Ret.mk (by simp [T.node, a0, a2, a3, a4]) HE0.out
set_option maxRecDepth 20000 in
set_option maxHeartbeats 1600000 in
theorem iRight_any (t : T) (hok : t.ok) (A : Option Addr) (c : Nat) (w : World) (h : IsL w (fun _ => True) t A) :
  Calls Tryz.prog 159 #[itemV t A c] w (Ret (.bool (t.right 8)) w) := by
 have H := hid h; have HO := hid hok
 clear h hok
 have HE0 := hid ((Mod.refl [] w).alloc (.cells (itemC t A c) 68))
 go_enter Tryz.func159, Tryz.ntmps159
 go_wp2_with fail
 refine (right_any t 8 (by omega) HO.out A c _ (H.out.ext HE0.out)).mono ?_
 rintro e w2 ⟨rfl, hb2⟩
 go_wp2_with fail
 go_ret
 exact Ret.mk rfl (HE0.out.trans hb2)
theorem Blk.new' (w : World) (t : TypeId) (cs : Array Value) {N : Nat} (h : w.heap.size = N) : Blk (w.alloc (.cells cs t)) N t cs := by subst h; exact Blk.new _ _ _
theorem openL4 : openL 4 = [159] := by decide
theorem openL7 : openL 7 = [255] := by decide
set_option maxRecDepth 20000 in
set_option maxHeartbeats 3200000 in
theorem build_any (t : T) : t.ok -> t.plain = true -> t.size <= 100000 -> ∀ A c w, IsL w (fun _ => True) t A ->
  Calls Tryz.prog 160 #[itemV t A c] w (Ret (str t.bytes) w) := by
 induction t with
 | nil => intro hok; cases hok
 | mk kind n s op k ch ih =>
  intro hok hpl hsz A c w h
  have H := hid h; have HO := hid hok; have HPL := hid hpl; have HSZ := hid hsz
  have HI := hid ih
  have hk : Hid (k < 4611686018427387904) := by unfold T.ok at hok; exact hok.2.2.2.1
  have hn64 : Hid (n < 18446744073709551616) := by unfold T.ok at hok; exact hok.2.1
  have hs64 : Hid (s.length < 4611686018427387904) := by unfold T.ok at hok; exact hok.2.2.1
  have hkd : kind = 0 \/ kind = 2 \/ kind = 3 \/ kind = 4 := by unfold T.plain at hpl; rw [Bool.and_eq_true] at hpl; exact T.node_kind hpl.1
  have hpc : Hid (∀ i, i < k -> (ch i).plain = true) := by unfold T.plain at hpl; rw [Bool.and_eq_true, T.all_iff] at hpl; exact hpl.2
  have hBy : (T.mk kind n s op k ch).bytes = if kind = 0 then headL 0 n else if kind < 4 then headL kind.toNat s.length ++ s else (if op then [159] else headL 4 k) ++ (T.cat (fun i => (ch i).bytes) k ++ (if op then [255] else [])) := rfl
  have HBy := hid hBy
  show Calls Tryz.prog 160 #[.agg #[.int .i64 kind, .int .u64 (n : Int), str s, .slice A k c, .bool op]] w (Ret (str (T.mk kind n s op k ch).bytes) w)
  have HB : Hid (Blk (w.alloc (.cells #[.int .i64 kind, .int .u64 (n : Int), str s, .slice A k c, .bool op] 68)) w.heap.size 68 #[.int .i64 kind, .int .u64 (n : Int), str s, .slice A k c, .bool op]) := Blk.new _ _ _
  have HE0 := hid ((Mod.refl [] w).alloc (.cells #[.int .i64 kind, .int .u64 (n : Int), str s, .slice A k c, .bool op] 68))
  clear h hok hpl hsz ih hBy
  rcases hkd with rfl | rfl | rfl | rfl
  .
   rw [HBy.out, if_pos rfl]
   go_enter Tryz.func160, Tryz.ntmps160
   go_wp2_with fail
   refine (head_in 0 n (by omega) (by omega) (by omega) (by have := hn64.out; omega) _).mono ?_
   rintro e w2 ⟨rfl, hb2⟩
   go_wp2_with fail
   go_ret
   exact Ret.mk rfl (HE0.out.trans hb2)
  .
   rw [HBy.out, if_neg (by omega), if_pos (by omega)]
   go_enter Tryz.func160, Tryz.ntmps160
   go_wp2_with fail
   refine (wBytes_any s hs64 _).mono ?_
   rintro e w2 ⟨rfl, hb2⟩
   go_wp2_with fail
   go_ret
   exact Ret.mk rfl (HE0.out.trans hb2)
  .
   rw [HBy.out, if_neg (by omega), if_pos (by omega)]
   go_enter Tryz.func160, Tryz.ntmps160
   go_wp2_with fail
   refine (wText_any s hs64 _).mono ?_
   rintro e w2 ⟨rfl, hb2⟩
   go_wp2_with fail
   go_ret
   exact Ret.mk rfl (HE0.out.trans hb2)
  .
   clear HBy
   have K0 : (0 : Int) <= (k : Int) := by omega
   have K1 : (k : Int) < 9223372036854775808 := by have := hk.out; omega
   cases op
   .
    go_enter Tryz.func160, Tryz.ntmps160
    go_wp2_with fail
    refine (head_in 4 (k : Int) (by omega) (by omega) (by omega) (by have := hk.out; omega) _).mono ?_
    rintro e w2 ⟨rfl, hb2⟩
    rw [Int.toNat_natCast]
    have HE2 := hid (HE0.out.trans hb2)
    have HB2 := hid (HB.out.ext hb2)
    have c4 : w2.cell? ⟨w.heap.size, 4, none⟩ = some (.bool false) := HB2.out.cell 4
    have c3 : w2.cell? ⟨w.heap.size, 3, none⟩ = some (.slice A k c) := HB2.out.cell 3
    clear hb2 K1
    go_wp2_with fail
    clear c4 c3
    go_loopw [3, 36] (fun s3 s36 wr => ∃ i : Nat, i <= k /\ s36 = .int .i64 (i : Int) /\ s3 = str (pre 4 s false k ch i) /\ Hid (Ext w wr)) (fun _ i _ => k - (intOf i).toNat)
    case atStart => exact ⟨0, Nat.zero_le _, rfl, by simp [pre, T.cat], HE2.out⟩
    case round =>
     obtain ⟨i, hi, rfl, rfl, hH⟩ := hrel
     have i0 : (0 : Int) <= (i : Int) := by omega
     have HP := hid (pre_le (op := false) hi HSZ.out)
     by_cases hlt : i < k
     .
      obtain ⟨b, o, Ai, ci, rfl, hb, ⟨k0, k1, k2, k3, k4⟩, hL⟩ := H.out.cells hH.out hlt
      have i1 : (i : Int) < (k : Int) := by omega
      have ti : decide (i < k) = true := by simp [hlt]
      have HL := hid hL; have HLT := hid hlt
      have HOi : Hid (ch i).ok := by have := HO.out; unfold T.ok at this; exact this.2.2.2.2 i hlt
      have HZi : Hid ((ch i).size <= 100000) := Nat.le_trans (T.size_ch hlt) HSZ.out
      have HPS := hid (pre_succ 4 s false k ch i)
      have hno : (9223372036854775807 < (pre 4 s false k ch i).length + (ch i).bytes.length) = False := by
       have h1 := pre_le (op := false) (show i + 1 <= k by omega) HSZ.out
       rw [HPS.out, List.length_append] at h1
       simp; omega
      have hk2 : (k : Int) < 4611686018427387904 := by have := hk.out; omega
      have HEa := hid ((Mod.refl [] wr).alloc (.cells (itemC (ch i) Ai ci) 68))
      clear hL hlt
      go_wp2_with fail
      refine (HI.out i HOi.out (hpc.out i HLT.out) HZi.out Ai ci _ (HL.out.ext HEa.out)).mono ?_
      rintro e w3 ⟨rfl, hb3⟩
      have HE3 := hid ((hH.out.trans HEa.out).trans hb3)
      clear hb3
      go_wp2_with fail
      have hlt := HLT.out
      refine ⟨⟨i + 1, by omega, by simp, by rw [HPS.out]; exact str_app _ _, (show Hid _ from HE3.out)⟩, ?_⟩
      simp only [intOf]; omega
     .
      obtain rfl : i = k := by omega
      have ti : decide (i < i) = false := by simp
      have HPE := hid (pre_end (n := n) (s := s) (op := false) (k := i) (ch := ch))
      have hno : (9223372036854775807 < (pre 4 s false i ch i).length) = False := by have := HP.out; simp; omega
      go_wp2_with fail
      go_ret
      exact Ret.mk (by rw [HPE.out]; exact str_app _ []) hH.out
   .
    go_enter Tryz.func160, Tryz.ntmps160
    go_wp2_with fail
    refine (head_in 4 (k : Int) (by omega) (by omega) (by omega) (by have := hk.out; omega) _).mono ?_
    rintro e w2 ⟨rfl, hb2⟩
    rw [Int.toNat_natCast]
    have HE2 := hid (HE0.out.trans hb2)
    have HB2 := hid (HB.out.ext hb2)
    have c4 : w2.cell? ⟨w.heap.size, 4, none⟩ = some (.bool true) := HB2.out.cell 4
    have c3 : w2.cell? ⟨w.heap.size, 3, none⟩ = some (.slice A k c) := HB2.out.cell 3
    clear hb2 K1
    go_wp2_with fail
    refine (open_any 4 _).mono ?_
    rintro e w3 ⟨rfl, hb3⟩
    rw [openL4]
    go_wp2_with fail
    refine (open_any 7 _).mono ?_
    rintro e w4 ⟨rfl, hb4⟩
    rw [openL7]
    have HE4 := hid ((HE2.out.trans hb3).trans hb4)
    have HB4 := hid ((HB2.out.ext hb3).ext hb4)
    clear hb3 hb4 c3 c4 HE2 HB2
    have HE2 := HE4
    have c3 : w4.cell? ⟨w.heap.size, 3, none⟩ = some (.slice A k c) := HB4.out.cell 3
    have c4 : w4.cell? ⟨w.heap.size, 4, none⟩ = some (.bool true) := HB4.out.cell 4
    go_wp2_with fail
    clear c4 c3
    go_loopw [3, 36] (fun s3 s36 wr => ∃ i : Nat, i <= k /\ s36 = .int .i64 (i : Int) /\ s3 = str (pre 4 s true k ch i) /\ Hid (Ext w wr)) (fun _ i _ => k - (intOf i).toNat)
    case atStart => exact ⟨0, Nat.zero_le _, rfl, by simp [pre, T.cat], HE2.out⟩
    case round =>
     obtain ⟨i, hi, rfl, rfl, hH⟩ := hrel
     have i0 : (0 : Int) <= (i : Int) := by omega
     have HP := hid (pre_le (op := true) hi HSZ.out)
     by_cases hlt : i < k
     .
      obtain ⟨b, o, Ai, ci, rfl, hb, ⟨k0, k1, k2, k3, k4⟩, hL⟩ := H.out.cells hH.out hlt
      have i1 : (i : Int) < (k : Int) := by omega
      have ti : decide (i < k) = true := by simp [hlt]
      have HL := hid hL; have HLT := hid hlt
      have HOi : Hid (ch i).ok := by have := HO.out; unfold T.ok at this; exact this.2.2.2.2 i hlt
      have HZi : Hid ((ch i).size <= 100000) := Nat.le_trans (T.size_ch hlt) HSZ.out
      have HPS := hid (pre_succ 4 s true k ch i)
      have hno : (9223372036854775807 < (pre 4 s true k ch i).length + (ch i).bytes.length) = False := by
       have h1 := pre_le (op := true) (show i + 1 <= k by omega) HSZ.out
       rw [HPS.out, List.length_append] at h1
       simp; omega
      have hk2 : (k : Int) < 4611686018427387904 := by have := hk.out; omega
      have HEa := hid ((Mod.refl [] wr).alloc (.cells (itemC (ch i) Ai ci) 68))
      clear hL hlt
      go_wp2_with fail
      refine (HI.out i HOi.out (hpc.out i HLT.out) HZi.out Ai ci _ (HL.out.ext HEa.out)).mono ?_
      rintro e w3 ⟨rfl, hb3⟩
      have HE3 := hid ((hH.out.trans HEa.out).trans hb3)
      clear hb3
      go_wp2_with fail
      have hlt := HLT.out
      refine ⟨⟨i + 1, by omega, by simp, by rw [HPS.out]; exact str_app _ _, (show Hid _ from HE3.out)⟩, ?_⟩
      simp only [intOf]; omega
     .
      obtain rfl : i = k := by omega
      have ti : decide (i < i) = false := by simp
      have HPE := hid (pre_end (n := n) (s := s) (op := true) (k := i) (ch := ch))
      have hno : (9223372036854775807 < (pre 4 s true i ch i).length + 1) = False := by have := HP.out; simp; omega
      go_wp2_with fail
      go_ret
      exact Ret.mk (by rw [HPE.out]; exact str_app _ [255]) hH.out
def buildV (t : T) : Value := if t.right 8 then .tuple #[str t.bytes, .int .i64 0] else .tuple #[str [], .int .i64 1]
set_option maxRecDepth 20000 in
set_option maxHeartbeats 1600000 in
theorem iBuild_any (t : T) (hok : t.ok) (hsz : t.size <= 100000) (A : Option Addr) (c : Nat) (w : World) (h : IsL w (fun _ => True) t A) :
  Calls Tryz.prog 130 #[itemV t A c] w (Ret (buildV t) w) := by
 have H := hid h; have HO := hid hok; have HS := hid hsz
 have HB : Hid (Blk (w.alloc (.cells (itemC t A c) 68)) w.heap.size 68 (itemC t A c)) := Blk.new _ _ _
 have HE0 := hid ((Mod.refl [] w).alloc (.cells (itemC t A c) 68))
 have HPL : Hid (t.right 8 = true -> t.plain = true) := fun h => by rw [T.right_eq] at h; simp at h; exact h.2
 clear h hok hsz
 go_enter Tryz.func130, Tryz.ntmps130
 go_wp2_with fail
 refine (iRight_any t HO.out A c _ (H.out.ext HE0.out)).mono ?_
 rintro e w2 ⟨rfl, hb2⟩
 have HE2 := hid (HE0.out.trans hb2)
 have hB2 := HB.out.ext hb2
 have c0 : w2.cell? ⟨w.heap.size, 0, none⟩ = some (.int .i64 t.kind) := hB2.cell 0
 have c1 : w2.cell? ⟨w.heap.size, 1, none⟩ = some (.int .u64 (t.n : Int)) := hB2.cell 1
 have c2 : w2.cell? ⟨w.heap.size, 2, none⟩ = some (str t.s) := hB2.cell 2
 have c3 : w2.cell? ⟨w.heap.size, 3, none⟩ = some (.slice A t.k c) := hB2.cell 3
 have c4 : w2.cell? ⟨w.heap.size, 4, none⟩ = some (.bool t.op) := hB2.cell 4
 clear hb2 hB2
 cases hr : t.right 8
 .
  have HR := hid hr
  clear hr
  go_wp2_with fail
  go_ret2
  exact Ret.mk (by rw [buildV, HR.out]; rfl) HE2.out
 .
  have HR := hid hr
  clear hr
  go_wp2_with fail
  refine (build_any t HO.out (HPL.out HR.out) HS.out A c _ (H.out.ext HE2.out)).mono ?_
  rintro e w3 ⟨rfl, hb3⟩
  go_wp2_with fail
  go_ret2
  exact Ret.mk (by rw [buildV, HR.out]; rfl) (HE2.out.trans hb3)
end Go.Proofs.YtmckfdmdkljomaaGreatDoor
