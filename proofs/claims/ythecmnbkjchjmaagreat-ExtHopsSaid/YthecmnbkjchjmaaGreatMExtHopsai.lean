/-
 Items: the code's Right, Build and Same.
-/
import Derived.Test.YthecmnbkjchjmaaGreatMExtHopsae
import Derived.Test.YthecmnbkjchjmaaGreatMExtHopsag
namespace Go.Proofs.YthecmnbkjchjmaaGreat
open Go.RowKit
set_option linter.unusedVariables false
set_option linter.unusedSimpArgs false
theorem T.leaf_all {kind : Int} {n : Nat} {s : List UInt8} {op : Bool} {k : Nat} {f : Nat -> Bool} (h : kind ≠ 4) : (T.node kind n s op k && T.all f k) = T.node kind n s op k := by
 cases hn : T.node kind n s op k with
 | false => rfl
 | true =>
  unfold T.node at hn
  by_cases a : kind = 0
  . rw [if_pos a] at hn; simp at hn; rw [hn.1.2]; rfl
  .
   rw [if_neg a] at hn
   by_cases b : kind = 2 \/ kind = 3
   . rw [if_pos b] at hn; simp at hn; rw [hn.1.2]; rfl
   . rw [if_neg b, if_neg h] at hn; cases hn
set_option maxRecDepth 20000 in
set_option maxHeartbeats 3200000 in
theorem right_any (t : T) : ∀ (d : Nat), d <= 9 -> t.ok -> ∀ A c w, IsL w (fun _ => True) t A ->
  Calls Tryz.prog 102 #[itemV t A c, .int .i64 (d : Int)] w (Ret (.bool (t.right d)) w) := by
 induction t with
 | nil => intro m _ hok; cases hok
 | mk kind n s op k ch ih =>
  intro d hd hok A c w h
  have H := hid h; have HO := hid hok; have HD := hid hd
  have HI := hid ih
  have d0 : (0 : Int) <= (d : Int) := by omega
  have d1 : (d : Int) <= 9 := by omega
  have hk : Hid (k < 4611686018427387904) := by unfold T.ok at hok; exact hok.2.2.2.1
  have HR : Hid ((T.mk kind n s op k ch).right d = if d < 1 then false else T.node kind n s op k && T.all (fun i => (ch i).right (d - 1)) k) := rfl
  show Calls Tryz.prog 102 #[.agg #[.int .i64 kind, .int .u64 (n : Int), str s, .slice A k c, .bool op], .int .i64 (d : Int)] w (Ret (.bool ((T.mk kind n s op k ch).right d)) w)
  have HE0 := hid ((Mod.refl [] w).alloc (.cells #[.int .i64 kind, .int .u64 (n : Int), str s, .slice A k c, .bool op] 86))
  clear h hok ih hd
  by_cases hd0 : d < 1
  .
   obtain rfl : d = 0 := by omega
   rw [HR.out, if_pos (by omega)]
   go_enter Tryz.func102, Tryz.ntmps102
   go_wp2
   go_ret
   exact Ret.mk rfl HE0.out
  .
   rw [HR.out, if_neg hd0]
   have HD1 : Hid (1 <= d) := by unfold Hid; omega
   have td : decide ((d : Int) < 1) = false := by simp; omega
   have td2 : (d < 1) = False := by simp [hd0]
   have td3 : (d = 0) = False := by simp; omega
   have bs : s ≠ [] -> (s == []) = false := fun h => by simp [h]
   have bS : s ≠ [] -> (s = []) = False := fun h => by simp [h]
   have bn : n ≠ 0 -> ((n : Int) == 0) = false := fun h => by simp [h]
   have bN : n ≠ 0 -> (n = 0) = False := fun h => by simp [h]
   have bk : k ≠ 0 -> ((k : Int) == 0) = false := fun h => by simp [h]
   have q1 : k ≠ 0 -> (k = 0) = False := fun h => by simp [h]
   clear hd0
   by_cases a0 : kind = 0
   .
    subst a0
    go_enter Tryz.func102, Tryz.ntmps102
    by_cases hs : s = []
    .
     subst hs
     by_cases hk0 : k = 0
     .
      subst hk0
      cases op
      .
       skip
       go_wp2_with fail
       go_ret
       exact Ret.mk (by rw [T.leaf_all (by omega)]; simp [T.node]) HE0.out
      .
       skip
       go_wp2_with fail
       go_ret
       exact Ret.mk (by rw [T.leaf_all (by omega)]; simp [T.node]) HE0.out
     .
      have bk := bk hk0; have q1 := q1 hk0
      go_wp2_with fail
      go_ret
      exact Ret.mk (by rw [T.leaf_all (by omega)]; simp [T.node, hk0]) HE0.out
    .
     have bs := bs hs; have bS := bS hs
     go_wp2_with fail
     go_ret
     exact Ret.mk (by rw [T.leaf_all (by omega)]; simp [T.node, hs]) HE0.out
   .
    skip
    by_cases a2 : kind = 2
    .
     subst a2
     go_enter Tryz.func102, Tryz.ntmps102
     have hn : n = 0 \/ n ≠ 0 := by omega
     rcases hn with rfl | hn
     .
      skip
      by_cases hk0 : k = 0
      .
       subst hk0
       cases op
       .
        skip
        go_wp2_with fail
        go_ret
        exact Ret.mk (by rw [T.leaf_all (by omega)]; simp [T.node]) HE0.out
       .
        skip
        go_wp2_with fail
        go_ret
        exact Ret.mk (by rw [T.leaf_all (by omega)]; simp [T.node]) HE0.out
      .
       have bk := bk hk0; have q1 := q1 hk0
       go_wp2_with fail
       go_ret
       exact Ret.mk (by rw [T.leaf_all (by omega)]; simp [T.node, hk0]) HE0.out
     .
      have bn := bn hn; have bN := bN hn
      go_wp2_with fail
      go_ret
      exact Ret.mk (by rw [T.leaf_all (by omega)]; simp [T.node, hn]) HE0.out
    .
     skip
     by_cases a3 : kind = 3
     .
      subst a3
      go_enter Tryz.func102, Tryz.ntmps102
      have hn : n = 0 \/ n ≠ 0 := by omega
      rcases hn with rfl | hn
      .
       skip
       by_cases hk0 : k = 0
       .
        subst hk0
        cases op
        .
         skip
         go_wp2_with fail
         go_ret
         exact Ret.mk (by rw [T.leaf_all (by omega)]; simp [T.node]) HE0.out
        .
         skip
         go_wp2_with fail
         go_ret
         exact Ret.mk (by rw [T.leaf_all (by omega)]; simp [T.node]) HE0.out
       .
        have bk := bk hk0; have q1 := q1 hk0
        go_wp2_with fail
        go_ret
        exact Ret.mk (by rw [T.leaf_all (by omega)]; simp [T.node, hk0]) HE0.out
      .
       have bn := bn hn; have bN := bN hn
       go_wp2_with fail
       go_ret
       exact Ret.mk (by rw [T.leaf_all (by omega)]; simp [T.node, hn]) HE0.out
     .
      skip
      have e0 : (kind == 0) = false := by simp [a0]
      have e2 : (kind == 2) = false := by simp [a2]
      have e3 : (kind == 3) = false := by simp [a3]
      have f0 : (kind = 0) = False := by simp [a0]
      have f2 : (kind = 2) = False := by simp [a2]
      have f3 : (kind = 3) = False := by simp [a3]
      by_cases a4 : kind = 4
      .
       subst a4
       clear e0 e2 e3 f0 f2 f3 a0 a2 a3
       go_enter Tryz.func102, Tryz.ntmps102
       have hn : n = 0 \/ n ≠ 0 := by omega
       rcases hn with rfl | hn
       .
        by_cases hs : s = []
        .
         subst hs
         by_cases hk1 : 1000 < k
         .
          have bK : decide (1000 < k) = true := by simp [hk1]
          have z1 : decide (k <= 1000) = false := by simp; omega
          go_wp2_with fail
          go_ret
          exact Ret.mk (by simp [T.node, z1]) HE0.out
         .
          have bK : decide (1000 < k) = false := by simp; omega
          have z1 : decide (k <= 1000) = true := by simp; omega
          have HND : Hid (T.node 4 0 [] op k = true) := by unfold Hid; simp [T.node, z1]
          have bK3 : (1000 < k) = False := by simp; omega
          go_wp2_with fail
          clear hk1 z1 bK bK3
          go_loopw [63] (fun s63 wr => ∃ i : Nat, i <= k /\ s63 = .int .i64 (i : Int) /\ Hid (Ext w wr /\ T.all (fun i => (ch i).right (d - 1)) i = true)) (fun i _ => k - (intOf i).toNat)
          case atStart => exact ⟨0, Nat.zero_le _, rfl, HE0.out, rfl⟩
          case round =>
           obtain ⟨i, hi, rfl, hX⟩ := hrel
           have i0 : (0 : Int) <= (i : Int) := by omega
           by_cases hlt : i < k
           .
            obtain ⟨b, o, Ai, ci, rfl, hb, ⟨k0, k1, k2, k3, k4⟩, hL⟩ := H.out.cells hX.out.1 hlt
            have i1 : (i : Int) < (k : Int) := by omega
            have hk2 : (k : Int) < 4611686018427387904 := by have := hk.out; omega
            have ti : decide (i < k) = true := by simp [hlt]
            have ha : (d : Int) - 1 = ((d - 1 : Nat) : Int) := by have := HD1.out; omega
            have HL := hid hL; have HLT := hid hlt
            have HOi : Hid (ch i).ok := by have := HO.out; unfold T.ok at this; exact this.2.2.2.2 i hlt
            clear hL hlt
            go_wp2_with fail
            have HEa := hid ((Mod.refl [] wr).alloc (.cells (itemC (ch i) Ai ci) 86))
            refine (HI.out i (d - 1) (by have := HD.out; omega) HOi.out Ai ci _ (HL.out.ext HEa.out)).mono ?_
            rintro e w3 ⟨rfl, hb3⟩
            have HE3 := hid ((hX.out.1.trans HEa.out).trans hb3)
            clear hb3
            cases hpl : (ch i).right (d - 1)
            .
             have hno : T.all (fun i => (ch i).right (d - 1)) k = false := by
              have hlt := HLT.out
              cases hh : T.all (fun i => (ch i).right (d - 1)) k with
              | false => rfl
              | true => have := T.all_iff.1 hh i hlt; rw [hpl] at this; cases this
             have HNO := hid hno
             clear hno hpl
             go_wp2_with fail
             go_ret
             exact Ret.mk (by rw [HND.out, HNO.out]; rfl) HE3.out
            .
             have HPL := hid hpl
             clear hpl
             go_wp2_with fail
             have hlt := HLT.out
             refine ⟨⟨i + 1, by omega, by simp, (show Hid _ from ⟨HE3.out, by rw [T.all, hX.out.2, HPL.out]; rfl⟩)⟩, ?_⟩
             simp only [intOf]; omega
           .
            obtain rfl : i = k := by omega
            have ti : decide (i < i) = false := by simp
            go_wp2_with fail
            go_ret
            exact Ret.mk (by rw [HND.out, hX.out.2]; rfl) hX.out.1
        .
         have bs := bs hs; have bS := bS hs
         go_wp2_with fail
         go_ret
         exact Ret.mk (by simp [T.node, hs]) HE0.out
       .
        have bn := bn hn; have bN := bN hn
        go_wp2_with fail
        go_ret
        exact Ret.mk (by simp [T.node, hn]) HE0.out
      .
       have e4 : (kind == 4) = false := by simp [a4]
       have f4 : (kind = 4) = False := by simp [a4]
       go_enter Tryz.func102, Tryz.ntmps102
       go_wp2_with fail
       go_ret
       exact Ret.mk (by simp [T.node, a0, a2, a3, a4]) HE0.out
set_option maxRecDepth 20000 in
set_option maxHeartbeats 1600000 in
theorem iRight_any (t : T) (hok : t.ok) (A : Option Addr) (c : Nat) (w : World) (h : IsL w (fun _ => True) t A) :
  Calls Tryz.prog 85 #[itemV t A c] w (Ret (.bool (t.right 8)) w) := by
 have H := hid h; have HO := hid hok
 clear h hok
 have HE0 := hid ((Mod.refl [] w).alloc (.cells (itemC t A c) 86))
 go_enter Tryz.func85, Tryz.ntmps85
 go_wp2_with fail
 refine (right_any t 8 (by omega) HO.out A c _ (H.out.ext HE0.out)).mono ?_
 rintro e w2 ⟨rfl, hb2⟩
 go_wp2_with fail
 go_ret
 exact Ret.mk rfl (HE0.out.trans hb2)
theorem Blk.new' (w : World) (t : TypeId) (cs : Array Value) {N : Nat} (h : w.heap.size = N) : Blk (w.alloc (.cells cs t)) N t cs := by subst h; exact Blk.new _ _ _
theorem openL4 : openL 4 = [159] := by decide
theorem openL7 : openL 7 = [255] := by decide
set_option maxRecDepth 20000 in
set_option maxHeartbeats 3200000 in
theorem build_any (t : T) : t.ok -> t.plain = true -> t.size <= 100000 -> ∀ A c w, IsL w (fun _ => True) t A ->
  Calls Tryz.prog 86 #[itemV t A c] w (Ret (str t.bytes) w) := by
 induction t with
 | nil => intro hok; cases hok
 | mk kind n s op k ch ih =>
  intro hok hpl hsz A c w h
  have H := hid h; have HO := hid hok; have HPL := hid hpl; have HSZ := hid hsz
  have HI := hid ih
  have hk : Hid (k < 4611686018427387904) := by unfold T.ok at hok; exact hok.2.2.2.1
  have hn64 : Hid (n < 18446744073709551616) := by unfold T.ok at hok; exact hok.2.1
  have hs64 : Hid (s.length < 4611686018427387904) := by unfold T.ok at hok; exact hok.2.2.1
  have hkd : kind = 0 \/ kind = 2 \/ kind = 3 \/ kind = 4 := by unfold T.plain at hpl; rw [Bool.and_eq_true] at hpl; exact T.node_kind hpl.1
  have hpc : Hid (∀ i, i < k -> (ch i).plain = true) := by unfold T.plain at hpl; rw [Bool.and_eq_true, T.all_iff] at hpl; exact hpl.2
  have hBy : (T.mk kind n s op k ch).bytes = if kind = 0 then headL 0 n else if kind < 4 then headL kind.toNat s.length ++ s else (if op then [159] else headL 4 k) ++ (T.cat (fun i => (ch i).bytes) k ++ (if op then [255] else [])) := rfl
  have HBy := hid hBy
  show Calls Tryz.prog 86 #[.agg #[.int .i64 kind, .int .u64 (n : Int), str s, .slice A k c, .bool op]] w (Ret (str (T.mk kind n s op k ch).bytes) w)
  have HB : Hid (Blk (w.alloc (.cells #[.int .i64 kind, .int .u64 (n : Int), str s, .slice A k c, .bool op] 86)) w.heap.size 86 #[.int .i64 kind, .int .u64 (n : Int), str s, .slice A k c, .bool op]) := Blk.new _ _ _
  have HE0 := hid ((Mod.refl [] w).alloc (.cells #[.int .i64 kind, .int .u64 (n : Int), str s, .slice A k c, .bool op] 86))
  clear h hok hpl hsz ih hBy
  rcases hkd with rfl | rfl | rfl | rfl
  .
   rw [HBy.out, if_pos rfl]
   go_enter Tryz.func86, Tryz.ntmps86
   go_wp2_with fail
   refine (head_in 0 n (by omega) (by omega) (by omega) (by have := hn64.out; omega) _).mono ?_
   rintro e w2 ⟨rfl, hb2⟩
   go_wp2_with fail
   go_ret
   exact Ret.mk rfl (HE0.out.trans hb2)
  .
   rw [HBy.out, if_neg (by omega), if_pos (by omega)]
   go_enter Tryz.func86, Tryz.ntmps86
   go_wp2_with fail
   refine (wBytes_any s hs64 _).mono ?_
   rintro e w2 ⟨rfl, hb2⟩
   go_wp2_with fail
   go_ret
   exact Ret.mk rfl (HE0.out.trans hb2)
  .
   rw [HBy.out, if_neg (by omega), if_pos (by omega)]
   go_enter Tryz.func86, Tryz.ntmps86
   go_wp2_with fail
   refine (wText_any s hs64 _).mono ?_
   rintro e w2 ⟨rfl, hb2⟩
   go_wp2_with fail
   go_ret
   exact Ret.mk rfl (HE0.out.trans hb2)
  .
   clear HBy
   have K0 : (0 : Int) <= (k : Int) := by omega
   have K1 : (k : Int) < 9223372036854775808 := by have := hk.out; omega
   cases op
   .
    go_enter Tryz.func86, Tryz.ntmps86
    go_wp2_with fail
    refine (head_in 4 (k : Int) (by omega) (by omega) (by omega) (by have := hk.out; omega) _).mono ?_
    rintro e w2 ⟨rfl, hb2⟩
    rw [Int.toNat_natCast]
    have HE2 := hid (HE0.out.trans hb2)
    have HB2 := hid (HB.out.ext hb2)
    have c4 : w2.cell? ⟨w.heap.size, 4, none⟩ = some (.bool false) := HB2.out.cell 4
    have c3 : w2.cell? ⟨w.heap.size, 3, none⟩ = some (.slice A k c) := HB2.out.cell 3
    clear hb2 K1
    go_wp2_with fail
    clear c4 c3
    go_loopw [3, 36] (fun s3 s36 wr => ∃ i : Nat, i <= k /\ s36 = .int .i64 (i : Int) /\ s3 = str (pre 4 s false k ch i) /\ Hid (Ext w wr)) (fun _ i _ => k - (intOf i).toNat)
    case atStart => exact ⟨0, Nat.zero_le _, rfl, by simp [pre, T.cat], HE2.out⟩
    case round =>
     obtain ⟨i, hi, rfl, rfl, hH⟩ := hrel
     have i0 : (0 : Int) <= (i : Int) := by omega
     have HP := hid (pre_le (op := false) hi HSZ.out)
     by_cases hlt : i < k
     .
      obtain ⟨b, o, Ai, ci, rfl, hb, ⟨k0, k1, k2, k3, k4⟩, hL⟩ := H.out.cells hH.out hlt
      have i1 : (i : Int) < (k : Int) := by omega
      have ti : decide (i < k) = true := by simp [hlt]
      have HL := hid hL; have HLT := hid hlt
      have HOi : Hid (ch i).ok := by have := HO.out; unfold T.ok at this; exact this.2.2.2.2 i hlt
      have HZi : Hid ((ch i).size <= 100000) := Nat.le_trans (T.size_ch hlt) HSZ.out
      have HPS := hid (pre_succ 4 s false k ch i)
      have hno : (9223372036854775807 < (pre 4 s false k ch i).length + (ch i).bytes.length) = False := by
       have h1 := pre_le (op := false) (show i + 1 <= k by omega) HSZ.out
       rw [HPS.out, List.length_append] at h1
       simp; omega
      have hk2 : (k : Int) < 4611686018427387904 := by have := hk.out; omega
      have HEa := hid ((Mod.refl [] wr).alloc (.cells (itemC (ch i) Ai ci) 86))
      clear hL hlt
      go_wp2_with fail
      refine (HI.out i HOi.out (hpc.out i HLT.out) HZi.out Ai ci _ (HL.out.ext HEa.out)).mono ?_
      rintro e w3 ⟨rfl, hb3⟩
      have HE3 := hid ((hH.out.trans HEa.out).trans hb3)
      clear hb3
      go_wp2_with fail
      have hlt := HLT.out
      refine ⟨⟨i + 1, by omega, by simp, by rw [HPS.out]; exact str_app _ _, (show Hid _ from HE3.out)⟩, ?_⟩
      simp only [intOf]; omega
     .
      obtain rfl : i = k := by omega
      have ti : decide (i < i) = false := by simp
      have HPE := hid (pre_end (n := n) (s := s) (op := false) (k := i) (ch := ch))
      have hno : (9223372036854775807 < (pre 4 s false i ch i).length) = False := by have := HP.out; simp; omega
      go_wp2_with fail
      go_ret
      exact Ret.mk (by rw [HPE.out]; exact str_app _ []) hH.out
   .
    go_enter Tryz.func86, Tryz.ntmps86
    go_wp2_with fail
    refine (head_in 4 (k : Int) (by omega) (by omega) (by omega) (by have := hk.out; omega) _).mono ?_
    rintro e w2 ⟨rfl, hb2⟩
    rw [Int.toNat_natCast]
    have HE2 := hid (HE0.out.trans hb2)
    have HB2 := hid (HB.out.ext hb2)
    have c4 : w2.cell? ⟨w.heap.size, 4, none⟩ = some (.bool true) := HB2.out.cell 4
    have c3 : w2.cell? ⟨w.heap.size, 3, none⟩ = some (.slice A k c) := HB2.out.cell 3
    clear hb2 K1
    go_wp2_with fail
    refine (open_any 4 _).mono ?_
    rintro e w3 ⟨rfl, hb3⟩
    rw [openL4]
    go_wp2_with fail
    refine (open_any 7 _).mono ?_
    rintro e w4 ⟨rfl, hb4⟩
    rw [openL7]
    have HE4 := hid ((HE2.out.trans hb3).trans hb4)
    have HB4 := hid ((HB2.out.ext hb3).ext hb4)
    clear hb3 hb4 c3 c4 HE2 HB2
    have HE2 := HE4
    have c3 : w4.cell? ⟨w.heap.size, 3, none⟩ = some (.slice A k c) := HB4.out.cell 3
    have c4 : w4.cell? ⟨w.heap.size, 4, none⟩ = some (.bool true) := HB4.out.cell 4
    go_wp2_with fail
    clear c4 c3
    go_loopw [3, 36] (fun s3 s36 wr => ∃ i : Nat, i <= k /\ s36 = .int .i64 (i : Int) /\ s3 = str (pre 4 s true k ch i) /\ Hid (Ext w wr)) (fun _ i _ => k - (intOf i).toNat)
    case atStart => exact ⟨0, Nat.zero_le _, rfl, by simp [pre, T.cat], HE2.out⟩
    case round =>
     obtain ⟨i, hi, rfl, rfl, hH⟩ := hrel
     have i0 : (0 : Int) <= (i : Int) := by omega
     have HP := hid (pre_le (op := true) hi HSZ.out)
     by_cases hlt : i < k
     .
      obtain ⟨b, o, Ai, ci, rfl, hb, ⟨k0, k1, k2, k3, k4⟩, hL⟩ := H.out.cells hH.out hlt
      have i1 : (i : Int) < (k : Int) := by omega
      have ti : decide (i < k) = true := by simp [hlt]
      have HL := hid hL; have HLT := hid hlt
      have HOi : Hid (ch i).ok := by have := HO.out; unfold T.ok at this; exact this.2.2.2.2 i hlt
      have HZi : Hid ((ch i).size <= 100000) := Nat.le_trans (T.size_ch hlt) HSZ.out
      have HPS := hid (pre_succ 4 s true k ch i)
      have hno : (9223372036854775807 < (pre 4 s true k ch i).length + (ch i).bytes.length) = False := by
       have h1 := pre_le (op := true) (show i + 1 <= k by omega) HSZ.out
       rw [HPS.out, List.length_append] at h1
       simp; omega
      have hk2 : (k : Int) < 4611686018427387904 := by have := hk.out; omega
      have HEa := hid ((Mod.refl [] wr).alloc (.cells (itemC (ch i) Ai ci) 86))
      clear hL hlt
      go_wp2_with fail
      refine (HI.out i HOi.out (hpc.out i HLT.out) HZi.out Ai ci _ (HL.out.ext HEa.out)).mono ?_
      rintro e w3 ⟨rfl, hb3⟩
      have HE3 := hid ((hH.out.trans HEa.out).trans hb3)
      clear hb3
      go_wp2_with fail
      have hlt := HLT.out
      refine ⟨⟨i + 1, by omega, by simp, by rw [HPS.out]; exact str_app _ _, (show Hid _ from HE3.out)⟩, ?_⟩
      simp only [intOf]; omega
     .
      obtain rfl : i = k := by omega
      have ti : decide (i < i) = false := by simp
      have HPE := hid (pre_end (n := n) (s := s) (op := true) (k := i) (ch := ch))
      have hno : (9223372036854775807 < (pre 4 s true i ch i).length + 1) = False := by have := HP.out; simp; omega
      go_wp2_with fail
      go_ret
      exact Ret.mk (by rw [HPE.out]; exact str_app _ [255]) hH.out
def buildV (t : T) : Value := if t.right 8 then .tuple #[str t.bytes, .int .i64 0] else .tuple #[str [], .int .i64 1]
set_option maxRecDepth 20000 in
set_option maxHeartbeats 1600000 in
theorem iBuild_any (t : T) (hok : t.ok) (hsz : t.size <= 100000) (A : Option Addr) (c : Nat) (w : World) (h : IsL w (fun _ => True) t A) :
  Calls Tryz.prog 70 #[itemV t A c] w (Ret (buildV t) w) := by
 have H := hid h; have HO := hid hok; have HS := hid hsz
 have HB : Hid (Blk (w.alloc (.cells (itemC t A c) 86)) w.heap.size 86 (itemC t A c)) := Blk.new _ _ _
 have HE0 := hid ((Mod.refl [] w).alloc (.cells (itemC t A c) 86))
 have HPL : Hid (t.right 8 = true -> t.plain = true) := fun h => by rw [T.right_eq] at h; simp at h; exact h.2
 clear h hok hsz
 go_enter Tryz.func70, Tryz.ntmps70
 go_wp2_with fail
 refine (iRight_any t HO.out A c _ (H.out.ext HE0.out)).mono ?_
 rintro e w2 ⟨rfl, hb2⟩
 have HE2 := hid (HE0.out.trans hb2)
 have hB2 := HB.out.ext hb2
 have c0 : w2.cell? ⟨w.heap.size, 0, none⟩ = some (.int .i64 t.kind) := hB2.cell 0
 have c1 : w2.cell? ⟨w.heap.size, 1, none⟩ = some (.int .u64 (t.n : Int)) := hB2.cell 1
 have c2 : w2.cell? ⟨w.heap.size, 2, none⟩ = some (str t.s) := hB2.cell 2
 have c3 : w2.cell? ⟨w.heap.size, 3, none⟩ = some (.slice A t.k c) := hB2.cell 3
 have c4 : w2.cell? ⟨w.heap.size, 4, none⟩ = some (.bool t.op) := hB2.cell 4
 clear hb2 hB2
 cases hr : t.right 8
 .
  have HR := hid hr
  clear hr
  go_wp2_with fail
  go_ret2
  exact Ret.mk (by rw [buildV, HR.out]; rfl) HE2.out
 .
  have HR := hid hr
  clear hr
  go_wp2_with fail
  refine (build_any t HO.out (HPL.out HR.out) HS.out A c _ (H.out.ext HE2.out)).mono ?_
  rintro e w3 ⟨rfl, hb3⟩
  go_wp2_with fail
  go_ret2
  exact Ret.mk (by rw [buildV, HR.out]; rfl) (HE2.out.trans hb3)
def blkT (ty num fl crc : Nat) (data sum : List UInt8) : T := T.mk 4 0 [] false (if crc = 0 then 5 else 6) fun i => if i = 0 then numT ty else if i = 1 then numT num else if i = 2 then numT fl else if i = 3 then numT crc else if i = 4 then strT data else if i = 5 then strT sum else T.nil
abbrev blk5 (ty num fl crc : Nat) (data : List UInt8) : Array Value := #[.int .i64 0, .int .u64 (ty : Int), str [], .slice none 0 0, .bool false, .int .i64 0, .int .u64 (num : Int), str [], .slice none 0 0, .bool false, .int .i64 0, .int .u64 (fl : Int), str [], .slice none 0 0, .bool false, .int .i64 0, .int .u64 (crc : Int), str [], .slice none 0 0, .bool false, .int .i64 2, .int .u64 0, str data, .slice none 0 0, .bool false]
theorem blk5_IsL {W : World} {Q : Nat -> Prop} {g : Nat} {ty num fl : Nat} {data sum : List UInt8} (q : Q g) (h : Blk W g 86 (blk5 ty num fl 0 data)) : IsL W Q (blkT ty num fl 0 data sum) (some ⟨g, 0, none⟩) := fun _ => ⟨g, 0, rfl, h.lt, q, fun j hj => by
 have hj2 : j = 0 \/ j = 1 \/ j = 2 \/ j = 3 \/ j = 4 := by simp at hj; omega
 rcases hj2 with rfl | rfl | rfl | rfl | rfl
 . exact ⟨none, 0, ⟨h.cell 0, h.cell 1, h.cell 2, h.cell 3, h.cell 4⟩, fun h => absurd h (by decide)⟩
 . exact ⟨none, 0, ⟨h.cell 5, h.cell 6, h.cell 7, h.cell 8, h.cell 9⟩, fun h => absurd h (by decide)⟩
 . exact ⟨none, 0, ⟨h.cell 10, h.cell 11, h.cell 12, h.cell 13, h.cell 14⟩, fun h => absurd h (by decide)⟩
 . exact ⟨none, 0, ⟨h.cell 15, h.cell 16, h.cell 17, h.cell 18, h.cell 19⟩, fun h => absurd h (by decide)⟩
 . exact ⟨none, 0, ⟨h.cell 20, h.cell 21, h.cell 22, h.cell 23, h.cell 24⟩, fun h => absurd h (by decide)⟩⟩
theorem blk6_IsL {W : World} {Q : Nat -> Prop} {base g c : Nat} {ty num fl crc : Nat} {data sum : List UInt8} (hc : ¬ crc = 0) (q : Q g) (hlt : g < W.heap.size) (h : W.ownsRow base 86 5 (.slice (some ⟨g, 0, none⟩) (5 + 1) c) (5 + 1) ((blk5 ty num fl crc data).toList ++ [Value.int .i64 (strT sum).kind, .int .u64 ((strT sum).n : Int), str (strT sum).s, .slice none (strT sum).k 0, .bool (strT sum).op])) : IsL W Q (blkT ty num fl crc data sum) (some ⟨g, 0, none⟩) := by
 unfold blkT
 rw [if_neg hc]
 refine fun _ => ⟨g, 0, rfl, hlt, q, fun j hj => ?_⟩
 have hj2 : j = 0 \/ j = 1 \/ j = 2 \/ j = 3 \/ j = 4 \/ j = 5 := by omega
 rcases hj2 with rfl | rfl | rfl | rfl | rfl | rfl
 . exact ⟨none, 0, ⟨own_cells (j := 0) h rfl, own_cells (j := 1) h rfl, own_cells (j := 2) h rfl, own_cells (j := 3) h rfl, own_cells (j := 4) h rfl⟩, fun h => absurd h (by decide)⟩
 . exact ⟨none, 0, ⟨own_cells (j := 5) h rfl, own_cells (j := 6) h rfl, own_cells (j := 7) h rfl, own_cells (j := 8) h rfl, own_cells (j := 9) h rfl⟩, fun h => absurd h (by decide)⟩
 . exact ⟨none, 0, ⟨own_cells (j := 10) h rfl, own_cells (j := 11) h rfl, own_cells (j := 12) h rfl, own_cells (j := 13) h rfl, own_cells (j := 14) h rfl⟩, fun h => absurd h (by decide)⟩
 . exact ⟨none, 0, ⟨own_cells (j := 15) h rfl, own_cells (j := 16) h rfl, own_cells (j := 17) h rfl, own_cells (j := 18) h rfl, own_cells (j := 19) h rfl⟩, fun h => absurd h (by decide)⟩
 . exact ⟨none, 0, ⟨own_cells (j := 20) h rfl, own_cells (j := 21) h rfl, own_cells (j := 22) h rfl, own_cells (j := 23) h rfl, own_cells (j := 24) h rfl⟩, fun h => absurd h (by decide)⟩
 . exact ⟨none, 0, ⟨own_cells (j := 25) h rfl, own_cells (j := 26) h rfl, own_cells (j := 27) h rfl, own_cells (j := 28) h rfl, own_cells (j := 29) h rfl⟩, fun h => absurd h (by decide)⟩
set_option maxRecDepth 20000 in
set_option maxHeartbeats 800000 in
theorem with_any (ty num fl crc : Nat) (data sum : List UInt8) (h1 : ty <= 65535) (h2 : num <= 65535) (h3 : crc <= 2) (w : World) : Calls Tryz.prog 153 #[BV.v ⟨ty, num, fl, crc, data⟩, str sum] w (fun e w' => ∃ A c, e = .returned (itemV (blkT ty num fl crc data sum) A c) /\ Ext w w' /\ IsL w' (fun b => w.heap.size <= b) (blkT ty num fl crc data sum) A) := by
 have HB := hid ((Blk.new w 38 (BV.c ⟨ty, num, fl, crc, data⟩)).alloc (.cells #[.int .i64 0, .int .u64 0, .string ⟨#[]⟩, .slice none 0 0, .bool false] 86))
 have HR : Hid (Blk ((w.alloc (.cells (BV.c ⟨ty, num, fl, crc, data⟩) 38)).alloc (.cells #[.int .i64 0, .int .u64 0, .string ⟨#[]⟩, .slice none 0 0, .bool false] 86)) (w.heap.size + 1) 86 #[.int .i64 0, .int .u64 0, .string ⟨#[]⟩, .slice none 0 0, .bool false]) := by
  have := Blk.new (w.alloc (.cells (BV.c ⟨ty, num, fl, crc, data⟩) 38)) 86 #[.int .i64 0, .int .u64 0, .string ⟨#[]⟩, .slice none 0 0, .bool false]
  unfold Hid
  simpa using this
 have HE := hid (((Mod.refl [] w).alloc (.cells (BV.c ⟨ty, num, fl, crc, data⟩) 38)).alloc (.cells #[.int .i64 0, .int .u64 0, .string ⟨#[]⟩, .slice none 0 0, .bool false] 86))
 have t1 : IntKind.u64.wrap (ty : Int) = (ty : Int) := IntWalk.u64_in _ (by omega)
 have t2 : IntKind.u64.wrap (num : Int) = (num : Int) := IntWalk.u64_in _ (by omega)
 have t3 : IntKind.u64.wrap (crc : Int) = (crc : Int) := IntWalk.u64_in _ (by omega)
 go_enter Tryz.func153, Tryz.ntmps153
 go_upto_region 1 with fail
 generalize ((w.alloc (.cells (BV.c ⟨ty, num, fl, crc, data⟩) 38)).alloc (.cells #[.int .i64 0, .int .u64 0, .string ⟨#[]⟩, .slice none 0 0, .bool false] 86)) = V at *
 have HS : Hid (∀ w', Ext V w' -> w'.cell? ⟨w.heap.size, 0, none⟩ = some (.int .i64 (ty : Int)) /\ w'.cell? ⟨w.heap.size, 1, none⟩ = some (.int .i64 (num : Int)) /\ w'.cell? ⟨w.heap.size, 2, none⟩ = some (.int .u64 (fl : Int)) /\ w'.cell? ⟨w.heap.size, 3, none⟩ = some (.int .i64 (crc : Int)) /\ w'.cell? ⟨w.heap.size, 4, none⟩ = some (str data)) := fun W hW => by
  have b1 := HB.out.ext hW
  exact ⟨b1.cell 0, b1.cell 1, b1.cell 2, b1.cell 3, b1.cell 4⟩
 obtain ⟨p0, p1, p2, p3, p4⟩ := HS.out V (Mod.refl _ _)
 go_cut [5] (fun s3 wx => ∃ g3, s3 = .slice (some ⟨g3, 0, none⟩) 5 5 /\ Hid (Ext V wx /\ Blk wx g3 86 (blk5 ty num fl crc data) /\ w.heap.size + 2 <= g3))
 case first =>
  go_region_held3 (fun w' => w'.cell? ⟨w.heap.size, 0, none⟩ = some (.int .i64 (ty : Int)) /\ w'.cell? ⟨w.heap.size, 1, none⟩ = some (.int .i64 (num : Int)) /\ w'.cell? ⟨w.heap.size, 2, none⟩ = some (.int .u64 (fl : Int)) /\ w'.cell? ⟨w.heap.size, 3, none⟩ = some (.int .i64 (crc : Int)) /\ w'.cell? ⟨w.heap.size, 4, none⟩ = some (str data)) (go_keep)
    (first
     | (go_at_call 46; (try rw [t1]); (try rw [t2]); (try rw [t3]); refine (NumI_any _ _).mono ?_; rintro x w3 ⟨rfl, hb3⟩; have hx : Ext V w3 := (by (with_reducible refine Mod.trans ?_ hb3); (repeat (first | with_reducible assumption | with_reducible exact Mod.refl _ _ | with_reducible refine Mod.drew ?_ | with_reducible refine Mod.alloc ?_ _))); have z := HS.out w3 hx)
     | (go_at_call 159; refine (StrV_any _ _).mono ?_; rintro x w3 ⟨rfl, hb3⟩; have hx : Ext V w3 := (by (with_reducible refine Mod.trans ?_ hb3); (repeat (first | with_reducible assumption | with_reducible exact Mod.refl _ _ | with_reducible refine Mod.drew ?_ | with_reducible refine Mod.alloc ?_ _))); have z := HS.out w3 hx))
  all_goals go_wp2_with fail
  all_goals go_meet
  all_goals exact ⟨_, rfl, Mod.alloc hx _, Blk.new _ _ _, Nat.le_trans (Nat.succ_le_of_lt HR.out.lt) (Mod.size (S := []) (w := V) (by assumption))⟩
 obtain ⟨g3, rfl, hG⟩ := hcut
 have HE1 := hid (HE.out.trans hG.out.1)
 have HB1 := hid (HB.out.ext hG.out.1)
 have HR1 := hid (HR.out.ext hG.out.1)
 have q3 : wc.cell? ⟨w.heap.size, 3, none⟩ = some (.int .i64 (crc : Int)) := HB1.out.cell 3
 clear p0 p1 p2 p3 p4 HS t1 t2 t3 HE HB HR
 by_cases hc : crc = 0
 .
  subst hc
  go_wp2_with fail
  refine (ListV_any 5 _ 5 _).mono ?_
  rintro e w8 ⟨rfl, hb8⟩
  have HE8 := hid (HE1.out.trans hb8)
  have HR8 : Hid (Blk w8 (w.heap.size + 1) 86 (itemC (T.mk 0 0 [] false 0 fun _ => T.nil) none 0)) := hid (HR1.out.ext hb8)
  have HG8 := hid (hG.out.2.1.ext hb8)
  obtain ⟨c0, c1, c2, c3, c4⟩ := cells5 HR8.out
  have f0 := Blk.frozen HR8.out 0
  have f1 := Blk.frozen HR8.out 1
  have f2 := Blk.frozen HR8.out 2
  have f3 := Blk.frozen HR8.out 3
  have f4 := Blk.frozen HR8.out 4
  clear hb8 q3
  go_wp2_with fail
  obtain ⟨d0, d1, d2, d3, d4⟩ := cells5 (set5_blk (t := blkT ty num fl 0 data sum) (A := some ⟨g3, 0, none⟩) (c := 5) HR8.out)
  clear c0 c1 c2 c3 c4 f0 f1 f2 f3 f4
  show bodyPost _ _ _ _ _ (set5 w8 (w.heap.size + 1) (blkT ty num fl 0 data sum) (some ⟨g3, 0, none⟩) 5)
  refine bodyPost_ret (v := itemV (blkT ty num fl 0 data sum) (some ⟨g3, 0, none⟩) 5) (by simp [results, Tryz.results153, go_sem, d0, d1, d2, d3, d4]) rfl ?_
  refine ⟨_, 5, rfl, set5_mod HE8.out (by omega), IsL.weak (fun _ _ h => by have : w.heap.size + 2 <= _ := h; omega) _ (IsL.mod (Q := fun b => w.heap.size + 2 <= b) set5_modb (fun k hq hk hm => by rw [List.mem_singleton] at hm; have : w.heap.size + 2 <= k := hq; omega) _ (blk5_IsL hG.out.2.2 HG8.out))⟩
 .
  have hc2 : ((crc : Int) = 0) = False := by simp [hc]
  have hc3 : ((crc : Int) == 0) = false := by simp [hc]
  obtain ⟨i0, hi, hz0, hz1, hz2⟩ := info_parts infoItem
  go_wp2_with fail
  refine (StrV_any sum _).mono ?_
  rintro e w8 ⟨rfl, hb8⟩
  have HE8 := hid (HE1.out.trans hb8)
  have HR8 := hid (HR1.out.ext hb8)
  have hown8 := own_of_blk (base := w.heap.size + 2) (n := 5) (size := 5) (hG.out.2.1.ext hb8) hG.out.2.2 (by decide) rfl
  clear hb8 q3
  go_wp2_with (at_builtin; refine wpList_append_own _ rfl _ _ 84 rfl (w.heap.size + 2) 86 i0 _ 5 64 vqG hi hz0 hz1 hz2 rfl (by decide) _ _ _ rfl (hown8.alloc _) ⟨w8.heap.size, 0, none⟩ 1 1 [Value.int .i64 (strT sum).kind, .int .u64 ((strT sum).n : Int), str (strT sum).s, .slice none (strT sum).k 0, .bool (strT sum).op] rfl rfl (news5 w8 (strT sum) none 0) (one5 (strT sum) none 0) (by decide) (by decide) (by have := HR8.out.lt; simp; omega) ?_; intro v' w9 hown' hgrow _)
  obtain ⟨g4, k4, rfl, hg4, hlt4⟩ := own_form hown'
  have HE9 := hid ((HE8.out.alloc _).grown hgrow (fun k hk => by obtain rfl : g3 = k := Option.some.inj hk; right; have := hG.out.2.2; omega))
  have HR9 := hid ((HR8.out.alloc _).mod (Mod.grown (S := [g3]) (Mod.refl _ _) hgrow (fun k hk => by obtain rfl : g3 = k := Option.some.inj hk; left; simp)) (by have := hG.out.2.2; simp; omega))
  have HL9 := hid (blk6_IsL (sum := sum) (Q := fun b => w.heap.size + 2 <= b) hc (show w.heap.size + 2 <= g4 by omega) hlt4 hown')
  clear hown8 hown' hgrow hlt4 hz0 hz1 hz2 hi
  go_wp2_with fail
  refine (ListV_any 6 _ k4 _).mono ?_
  rintro e wA ⟨rfl, hbA⟩
  have HEA := hid (HE9.out.trans hbA)
  have HRA : Hid (Blk wA (w.heap.size + 1) 86 (itemC (T.mk 0 0 [] false 0 fun _ => T.nil) none 0)) := hid (HR9.out.ext hbA)
  have HLA := hid (HL9.out.ext hbA)
  obtain ⟨c0, c1, c2, c3, c4⟩ := cells5 HRA.out
  have f0 := Blk.frozen HRA.out 0
  have f1 := Blk.frozen HRA.out 1
  have f2 := Blk.frozen HRA.out 2
  have f3 := Blk.frozen HRA.out 3
  have f4 := Blk.frozen HRA.out 4
  clear hbA
  go_wp2_with fail
  obtain ⟨d0, d1, d2, d3, d4⟩ := cells5 (set5_blk (t := T.mk 4 0 [] false 6 fun _ => T.nil) (A := some ⟨g4, 0, none⟩) (c := k4) HRA.out)
  clear c0 c1 c2 c3 c4 f0 f1 f2 f3 f4
  show bodyPost _ _ _ _ _ (set5 wA (w.heap.size + 1) (T.mk 4 0 [] false 6 fun _ => T.nil) (some ⟨g4, 0, none⟩) k4)
  refine bodyPost_ret (v := itemV (T.mk 4 0 [] false 6 fun _ => T.nil) (some ⟨g4, 0, none⟩) k4) (by simp [results, Tryz.results153, go_sem, d0, d1, d2, d3, d4]) rfl ?_
  refine ⟨some ⟨g4, 0, none⟩, k4, ?_, set5_mod HEA.out (by omega), IsL.weak (fun _ _ h => by have : w.heap.size + 2 <= _ := h; omega) _ (IsL.mod (Q := fun b => w.heap.size + 2 <= b) set5_modb (fun k hq hk hm => by rw [List.mem_singleton] at hm; have : w.heap.size + 2 <= k := hq; omega) _ HLA.out)⟩
  simp only [blkT, if_neg hc]
  rfl
set_option maxRecDepth 20000 in
set_option maxHeartbeats 3200000 in
theorem same_any (a : T) : ∀ b : T, a.ok -> b.ok -> ∀ A c B d w, IsL w (fun _ => True) a A -> IsL w (fun _ => True) b B ->
  Calls Tryz.prog 154 #[itemV a A c, itemV b B d] w (Ret (.bool (a.same b)) w) := by
 induction a with
 | nil => intro b hok; cases hok
 | mk kind n s op k ch ih =>
  intro b
  rcases b with _ | ⟨kind', n', s', op', k', ch'⟩
  . intro _ hok; cases hok
  intro hok hok' A c B d w h h'
  have H := hid h; have HO := hid hok
  have H' := hid h'; have HO' := hid hok'
  have HI := hid ih
  have hk : Hid (k < 4611686018427387904) := by unfold T.ok at hok; exact hok.2.2.2.1
  have HR : Hid ((T.mk kind n s op k ch).same (T.mk kind' n' s' op' k' ch') = (kind == kind' && n == n' && s == s' && op == op' && k == k' && T.all (fun i => (ch i).same (ch' i)) k)) := rfl
  show Calls Tryz.prog 154 #[.agg #[.int .i64 kind, .int .u64 (n : Int), str s, .slice A k c, .bool op], .agg #[.int .i64 kind', .int .u64 (n' : Int), str s', .slice B k' d, .bool op']] w (Ret (.bool ((T.mk kind n s op k ch).same (T.mk kind' n' s' op' k' ch'))) w)
  rw [HR.out]
  have HBa : Hid (Blk ((w.alloc (.cells #[.int .i64 kind, .int .u64 (n : Int), str s, .slice A k c, .bool op] 86)).alloc (.cells #[.int .i64 kind', .int .u64 (n' : Int), str s', .slice B k' d, .bool op'] 86)) w.heap.size 86 #[.int .i64 kind, .int .u64 (n : Int), str s, .slice A k c, .bool op]) := (Blk.new _ _ _).alloc _
  have HBb : Hid (Blk ((w.alloc (.cells #[.int .i64 kind, .int .u64 (n : Int), str s, .slice A k c, .bool op] 86)).alloc (.cells #[.int .i64 kind', .int .u64 (n' : Int), str s', .slice B k' d, .bool op'] 86)) (w.heap.size + 1) 86 #[.int .i64 kind', .int .u64 (n' : Int), str s', .slice B k' d, .bool op']) := by
   exact Blk.new' _ _ _ (by simp)
  have HE0 := hid (((Mod.refl [] w).alloc (.cells #[.int .i64 kind, .int .u64 (n : Int), str s, .slice A k c, .bool op] 86)).alloc (.cells #[.int .i64 kind', .int .u64 (n' : Int), str s', .slice B k' d, .bool op'] 86))
  clear h hok h' hok' ih HR
  go_enter Tryz.func154, Tryz.ntmps154
  by_cases e1 : kind = kind'
  .
   subst e1
   by_cases e2 : n = n'
   .
    subst e2
    by_cases e3 : s = s'
    .
     subst e3
     by_cases e4 : op = op'
     .
      subst e4
      by_cases e5 : k = k'
      .
       subst e5
       have tk : ((k : Int) == (k : Int)) = true := by simp
       have HA := hid (fun (wr : World) (hX : Ext ((w.alloc (.cells #[.int .i64 kind, .int .u64 (n : Int), str s, .slice A k c, .bool op] 86)).alloc (.cells #[.int .i64 kind, .int .u64 (n : Int), str s, .slice B k d, .bool op] 86)) wr) => (show wr.cell? ⟨w.heap.size, 3, none⟩ = some (.slice A k c) /\ wr.cell? ⟨w.heap.size + 1, 3, none⟩ = some (.slice B k d) from ⟨(HBa.out.ext hX).cell 3, (HBb.out.ext hX).cell 3⟩))
       have HEB := hid (Mod.refl [] ((w.alloc (.cells #[.int .i64 kind, .int .u64 (n : Int), str s, .slice A k c, .bool op] 86)).alloc (.cells #[.int .i64 kind, .int .u64 (n : Int), str s, .slice B k d, .bool op] 86)))
       go_wp2_with fail
       go_loopw [44] (fun s44 wr => ∃ i : Nat, i <= k /\ s44 = .int .i64 (i : Int) /\ Hid (Ext ((w.alloc (.cells #[.int .i64 kind, .int .u64 (n : Int), str s, .slice A k c, .bool op] 86)).alloc (.cells #[.int .i64 kind, .int .u64 (n : Int), str s, .slice B k d, .bool op] 86)) wr /\ T.all (fun i => (ch i).same (ch' i)) i = true)) (fun i _ => k - (intOf i).toNat)
       case atStart => exact ⟨0, Nat.zero_le _, rfl, HEB.out, rfl⟩
       case round =>
        obtain ⟨i, hi, rfl, hX⟩ := hrel
        have HEW := hid (HE0.out.trans hX.out.1)
        have i0 : (0 : Int) <= (i : Int) := by omega
        by_cases hlt : i < k
        .
         obtain ⟨y0, y1⟩ := HA.out wr hX.out.1
         obtain ⟨b, o, Ai, ci, rfl, hb, ⟨k0, k1, k2, k3, k4⟩, hL⟩ := H.out.cells HEW.out hlt
         obtain ⟨b', o', Ai', ci', rfl, hb', ⟨l0, l1, l2, l3, l4⟩, hL'⟩ := H'.out.cells HEW.out hlt
         have i1 : (i : Int) < (k : Int) := by omega
         have ti : decide (i < k) = true := by simp [hlt]
         have HL := hid hL; have HL' := hid hL'; have HLT := hid hlt
         have HOi : Hid (ch i).ok := by have := HO.out; unfold T.ok at this; exact this.2.2.2.2 i hlt
         have HOi' : Hid (ch' i).ok := by have := HO'.out; unfold T.ok at this; exact this.2.2.2.2 i hlt
         have hb0 : b < wr.heap.size := Nat.lt_of_lt_of_le hb HEW.out.size
         have hb0' : b' < wr.heap.size := Nat.lt_of_lt_of_le hb' HEW.out.size
         have HL5 : Hid (∀ W, Ext wr W -> W.cell? ⟨b, o + i * 5 + 3, none⟩ = some (.slice Ai (ch i).k ci)) := fun W hW => (hW.cell hb0 (by simp)).trans k3
         have HL5' : Hid (∀ W, Ext wr W -> W.cell? ⟨b', o' + i * 5 + 3, none⟩ = some (.slice Ai' (ch' i).k ci')) := fun W hW => (hW.cell hb0' (by simp)).trans l3
         clear hb hb' hb0 hb0'
         have HC := hid (fun W hW => HI.out i (ch' i) HOi.out HOi'.out Ai ci Ai' ci' W (HL.out.ext hW) (HL'.out.ext hW))
         have HS : Hid (∀ W, Ext wr W -> W.cell? ⟨w.heap.size, 3, none⟩ = some (.slice (some ⟨b, o, none⟩) k c) /\ W.cell? ⟨w.heap.size + 1, 3, none⟩ = some (.slice (some ⟨b', o', none⟩) k d) /\ W.cell? ⟨b, o + i * 5, none⟩ = some (.int .i64 (ch i).kind) /\ W.cell? ⟨b, o + i * 5 + 1, none⟩ = some (.int .u64 ((ch i).n : Int)) /\ W.cell? ⟨b, o + i * 5 + 2, none⟩ = some (str (ch i).s) /\ W.cell? ⟨b, o + i * 5 + 3, none⟩ = some (.slice Ai (ch i).k ci) /\ W.cell? ⟨b, o + i * 5 + 4, none⟩ = some (.bool (ch i).op) /\ W.cell? ⟨b', o' + i * 5, none⟩ = some (.int .i64 (ch' i).kind) /\ W.cell? ⟨b', o' + i * 5 + 1, none⟩ = some (.int .u64 ((ch' i).n : Int)) /\ W.cell? ⟨b', o' + i * 5 + 2, none⟩ = some (str (ch' i).s) /\ W.cell? ⟨b', o' + i * 5 + 3, none⟩ = some (.slice Ai' (ch' i).k ci') /\ W.cell? ⟨b', o' + i * 5 + 4, none⟩ = some (.bool (ch' i).op)) := fun W hW => by
          obtain ⟨z0, z1⟩ := HA.out W (hX.out.1.trans hW)
          obtain ⟨e1, e2, Ai2, ci2, e3, _, ⟨p0, p1, p2, p3, p4⟩, _⟩ := H.out.cells (HEW.out.trans hW) hlt
          obtain ⟨e1', e2', Ai2', ci2', e3', _, ⟨q0, q1, q2, q3, q4⟩, _⟩ := H'.out.cells (HEW.out.trans hW) hlt
          simp only [Option.some.injEq, Addr.mk.injEq, and_true] at e3 e3'
          obtain ⟨rfl, rfl⟩ := e3
          obtain ⟨rfl, rfl⟩ := e3'
          have g3 := HL5.out W hW; have g3' := HL5'.out W hW
          rw [p3] at g3; rw [q3] at g3'
          exact ⟨z0, z1, p0, p1, p2, p3.trans g3, p4, q0, q1, q2, q3.trans g3', q4⟩
         clear hL hL' hlt
         have hk2 : (k : Int) < 4611686018427387904 := by have := hk.out; omega
         go_upto_region 6 with fail
         go_region_held3 (fun w' => w'.cell? ⟨w.heap.size, 3, none⟩ = some (.slice (some ⟨b, o, none⟩) k c) /\ w'.cell? ⟨w.heap.size + 1, 3, none⟩ = some (.slice (some ⟨b', o', none⟩) k d) /\ w'.cell? ⟨b, o + i * 5, none⟩ = some (.int .i64 (ch i).kind) /\ w'.cell? ⟨b, o + i * 5 + 1, none⟩ = some (.int .u64 ((ch i).n : Int)) /\ w'.cell? ⟨b, o + i * 5 + 2, none⟩ = some (str (ch i).s) /\ w'.cell? ⟨b, o + i * 5 + 3, none⟩ = some (.slice Ai (ch i).k ci) /\ w'.cell? ⟨b, o + i * 5 + 4, none⟩ = some (.bool (ch i).op) /\ w'.cell? ⟨b', o' + i * 5, none⟩ = some (.int .i64 (ch' i).kind) /\ w'.cell? ⟨b', o' + i * 5 + 1, none⟩ = some (.int .u64 ((ch' i).n : Int)) /\ w'.cell? ⟨b', o' + i * 5 + 2, none⟩ = some (str (ch' i).s) /\ w'.cell? ⟨b', o' + i * 5 + 3, none⟩ = some (.slice Ai' (ch' i).k ci') /\ w'.cell? ⟨b', o' + i * 5 + 4, none⟩ = some (.bool (ch' i).op)) (exact HS.out _ (by (repeat (first | with_reducible assumption | with_reducible exact Mod.refl _ _ | with_reducible refine Mod.drew ?_))))
          ((go_at_call 154; refine (HC.out _ ?_).mono ?_; (repeat (first | with_reducible assumption | with_reducible exact Mod.refl _ _ | with_reducible refine Mod.drew ?_)); rintro e w3 ⟨rfl, hb3⟩; have hx3 : Ext wr w3 := (by with_reducible refine Mod.trans ?_ hb3; (repeat (first | with_reducible assumption | with_reducible exact Mod.refl _ _ | with_reducible refine Mod.drew ?_)))))
         have HE3 := hid (hX.out.1.trans hx3)
         have HE4 := hid (HEW.out.trans hx3)
         have HW1 : Hid (wrap64 ((i : Int) + 1) = (i : Int) + 1) := IntWalk.wrap64_in _ (by omega)
         clear hb3 hk2
         cases hpl : (ch i).same (ch' i)
         .
          have hno : T.all (fun i => (ch i).same (ch' i)) k = false := by
           have hlt := HLT.out
           cases hh : T.all (fun i => (ch i).same (ch' i)) k with
           | false => rfl
           | true => have := T.all_iff.1 hh i hlt; rw [hpl] at this; cases this
          have HNO := hid hno
          clear hno hpl
          go_wp2_with fail
          go_ret
          exact Ret.mk (by rw [HNO.out]; simp) HE4.out
         .
          have HPL := hid hpl
          clear hpl
          go_wp2_with fail
          have hlt := HLT.out
          have G1 : Value.int .i64 (wrap64 ((i : Int) + 1)) = .int .i64 ((i + 1 : Nat) : Int) := by rw [HW1.out]; simp
          have G2 : T.all (fun i => (ch i).same (ch' i)) (i + 1) = true := by rw [T.all, hX.out.2, HPL.out]; rfl
          have G3 : k - (intOf (Value.int .i64 (wrap64 ((i : Int) + 1)))).toNat < k - (intOf (.int .i64 (i : Int))).toNat := by rw [G1]; simp only [intOf]; omega
          refine ⟨⟨i + 1, by omega, G1, (show Hid _ from ⟨HE3.out, G2⟩)⟩, G3⟩
        .
         obtain rfl : i = k := by omega
         have ti : decide (i < i) = false := by simp
         go_wp2_with fail
         go_ret
         exact Ret.mk (by rw [hX.out.2]; simp) HEW.out
      .
       have f5 : (k = k') = False := by simp [e5]
       have f5' : ((k : Int) == (k' : Int)) = false := by simp; omega
       cases op
       .
        go_wp2_with fail
        go_ret
        exact Ret.mk (by simp [e5]) HE0.out
       .
        go_wp2_with fail
        go_ret
        exact Ret.mk (by simp [e5]) HE0.out
     .
      have f4 : (op == op') = false := by simp [e4]
      have f4' : (op = op') = False := by simp [e4]
      go_wp2_with fail
      go_ret
      exact Ret.mk (by simp) HE0.out
    .
     have f3 : (s == s') = false := by simp [e3]
     have f3' : (s = s') = False := by simp [e3]
     go_wp2_with fail
     go_ret
     exact Ret.mk (by simp) HE0.out
   .
    have f2 : ((n : Int) == (n' : Int)) = false := by simp; omega
    have f2' : (n = n') = False := by simp [e2]
    go_wp2_with fail
    go_ret
    exact Ret.mk (by simp [e2]) HE0.out
  .
   have f1 : (kind == kind') = false := by simp [e1]
   have f1' : (kind = kind') = False := by simp [e1]
   go_wp2_with fail
   go_ret
   exact Ret.mk (by simp) HE0.out
end Go.Proofs.YthecmnbkjchjmaaGreat
