/-
 Items: the code's Right, Build and Same.
-/
import Derived.Test.YthecmnbkjchjmaaGreatMExtAgesag

namespace Go.Proofs.YthecmnbkjchjmaaGreat
open Go.RowKit
set_option linter.unusedVariables false
set_option linter.unusedSimpArgs false

theorem T.leaf_all {kind : Int} {n : Nat} {s : List UInt8} {op : Bool} {k : Nat} {f : Nat -> Bool} (h : kind ≠ 4) : (T.node kind n s op k && T.all f k) = T.node kind n s op k := by
 cases hn : T.node kind n s op k with
 | false => rfl
 | true =>
  unfold T.node at hn
  by_cases a : kind = 0
  . rw [if_pos a] at hn; simp at hn; rw [hn.1.2]; rfl
  .
   rw [if_neg a] at hn
   by_cases b : kind = 2 \/ kind = 3
   . rw [if_pos b] at hn; simp at hn; rw [hn.1.2]; rfl
   . rw [if_neg b, if_neg h] at hn; cases hn

set_option maxRecDepth 20000 in
set_option maxHeartbeats 3200000 in
theorem right_any (t : T) : ∀ (d : Nat), d <= 9 -> t.ok -> ∀ A c w, IsL w (fun _ => True) t A ->
  Calls Tryz.prog 102 #[itemV t A c, .int .i64 (d : Int)] w (Ret (.bool (t.right d)) w) := by
 induction t with
 | nil => intro m _ hok; cases hok
 | mk kind n s op k ch ih =>
  intro d hd hok A c w h
  have H := hid h; have HO := hid hok; have HD := hid hd
  have HI := hid ih
  have d0 : (0 : Int) <= (d : Int) := by omega
  have d1 : (d : Int) <= 9 := by omega
  have hk : Hid (k < 4611686018427387904) := by unfold T.ok at hok; exact hok.2.2.2.1
  have HR : Hid ((T.mk kind n s op k ch).right d = if d < 1 then false else T.node kind n s op k && T.all (fun i => (ch i).right (d - 1)) k) := rfl
  show Calls Tryz.prog 102 #[.agg #[.int .i64 kind, .int .u64 (n : Int), str s, .slice A k c, .bool op], .int .i64 (d : Int)] w (Ret (.bool ((T.mk kind n s op k ch).right d)) w)
  have HE0 := hid ((Mod.refl [] w).alloc (.cells #[.int .i64 kind, .int .u64 (n : Int), str s, .slice A k c, .bool op] 86))
  clear h hok ih hd
  by_cases hd0 : d < 1
  .
   obtain rfl : d = 0 := by omega
   rw [HR.out, if_pos (by omega)]
   go_enter Tryz.func102, Tryz.ntmps102
   go_wp2
   go_ret
   exact Ret.mk rfl HE0.out
  .
   rw [HR.out, if_neg hd0]
   have HD1 : Hid (1 <= d) := by unfold Hid; omega
   have td : decide ((d : Int) < 1) = false := by simp; omega
   have td2 : (d < 1) = False := by simp [hd0]
   have td3 : (d = 0) = False := by simp; omega
   have bs : s ≠ [] -> (s == []) = false := fun h => by simp [h]
   have bS : s ≠ [] -> (s = []) = False := fun h => by simp [h]
   have bn : n ≠ 0 -> ((n : Int) == 0) = false := fun h => by simp [h]
   have bN : n ≠ 0 -> (n = 0) = False := fun h => by simp [h]
   have bk : k ≠ 0 -> ((k : Int) == 0) = false := fun h => by simp [h]
   have q1 : k ≠ 0 -> (k = 0) = False := fun h => by simp [h]
   clear hd0
   by_cases a0 : kind = 0
   .
    subst a0
    go_enter Tryz.func102, Tryz.ntmps102
    by_cases hs : s = []
    .
     subst hs
     by_cases hk0 : k = 0
     .
      subst hk0
      cases op
      .
       skip
       go_wp2_with fail
       go_ret
       exact Ret.mk (by rw [T.leaf_all (by omega)]; simp [T.node]) HE0.out
      .
       skip
       go_wp2_with fail
       go_ret
       exact Ret.mk (by rw [T.leaf_all (by omega)]; simp [T.node]) HE0.out
     .
      have bk := bk hk0; have q1 := q1 hk0
      go_wp2_with fail
      go_ret
      exact Ret.mk (by rw [T.leaf_all (by omega)]; simp [T.node, hk0]) HE0.out
    .
     have bs := bs hs; have bS := bS hs
     go_wp2_with fail
     go_ret
     exact Ret.mk (by rw [T.leaf_all (by omega)]; simp [T.node, hs]) HE0.out
   .
    skip
    by_cases a2 : kind = 2
    .
     subst a2
     go_enter Tryz.func102, Tryz.ntmps102
     have hn : n = 0 \/ n ≠ 0 := by omega
     rcases hn with rfl | hn
     .
      skip
      by_cases hk0 : k = 0
      .
       subst hk0
       cases op
       .
        skip
        go_wp2_with fail
        go_ret
        exact Ret.mk (by rw [T.leaf_all (by omega)]; simp [T.node]) HE0.out
       .
        skip
        go_wp2_with fail
        go_ret
        exact Ret.mk (by rw [T.leaf_all (by omega)]; simp [T.node]) HE0.out
      .
       have bk := bk hk0; have q1 := q1 hk0
       go_wp2_with fail
       go_ret
       exact Ret.mk (by rw [T.leaf_all (by omega)]; simp [T.node, hk0]) HE0.out
     .
      have bn := bn hn; have bN := bN hn
      go_wp2_with fail
      go_ret
      exact Ret.mk (by rw [T.leaf_all (by omega)]; simp [T.node, hn]) HE0.out
    .
     skip
     by_cases a3 : kind = 3
     .
      subst a3
      go_enter Tryz.func102, Tryz.ntmps102
      have hn : n = 0 \/ n ≠ 0 := by omega
      rcases hn with rfl | hn
      .
       skip
       by_cases hk0 : k = 0
       .
        subst hk0
        cases op
        .
         skip
         go_wp2_with fail
         go_ret
         exact Ret.mk (by rw [T.leaf_all (by omega)]; simp [T.node]) HE0.out
        .
         skip
         go_wp2_with fail
         go_ret
         exact Ret.mk (by rw [T.leaf_all (by omega)]; simp [T.node]) HE0.out
       .
        have bk := bk hk0; have q1 := q1 hk0
        go_wp2_with fail
        go_ret
        exact Ret.mk (by rw [T.leaf_all (by omega)]; simp [T.node, hk0]) HE0.out
      .
       have bn := bn hn; have bN := bN hn
       go_wp2_with fail
       go_ret
       exact Ret.mk (by rw [T.leaf_all (by omega)]; simp [T.node, hn]) HE0.out
     .
      skip
      have e0 : (kind == 0) = false := by simp [a0]
      have e2 : (kind == 2) = false := by simp [a2]
      have e3 : (kind == 3) = false := by simp [a3]
      have f0 : (kind = 0) = False := by simp [a0]
      have f2 : (kind = 2) = False := by simp [a2]
      have f3 : (kind = 3) = False := by simp [a3]
      by_cases a4 : kind = 4
      .
       subst a4
       clear e0 e2 e3 f0 f2 f3 a0 a2 a3
       go_enter Tryz.func102, Tryz.ntmps102
       have hn : n = 0 \/ n ≠ 0 := by omega
       rcases hn with rfl | hn
       .
        by_cases hs : s = []
        .
         subst hs
         by_cases hk1 : 1000 < k
         .
          have bK : decide (1000 < k) = true := by simp [hk1]
          have z1 : decide (k <= 1000) = false := by simp; omega
          go_wp2_with fail
          go_ret
          exact Ret.mk (by simp [T.node, z1]) HE0.out
         .
          have bK : decide (1000 < k) = false := by simp; omega
          have z1 : decide (k <= 1000) = true := by simp; omega
          have HND : Hid (T.node 4 0 [] op k = true) := by unfold Hid; simp [T.node, z1]
          have bK3 : (1000 < k) = False := by simp; omega
          go_wp2_with fail
          clear hk1 z1 bK bK3
          go_loopw [63] (fun s63 wr => ∃ i : Nat, i <= k /\ s63 = .int .i64 (i : Int) /\ Hid (Ext w wr /\ T.all (fun i => (ch i).right (d - 1)) i = true)) (fun i _ => k - (intOf i).toNat)
          case atStart => exact ⟨0, Nat.zero_le _, rfl, HE0.out, rfl⟩
          case round =>
           obtain ⟨i, hi, rfl, hX⟩ := hrel
           have i0 : (0 : Int) <= (i : Int) := by omega
           by_cases hlt : i < k
           .
            obtain ⟨b, o, Ai, ci, rfl, hb, ⟨k0, k1, k2, k3, k4⟩, hL⟩ := H.out.cells hX.out.1 hlt
            have i1 : (i : Int) < (k : Int) := by omega
            have hk2 : (k : Int) < 4611686018427387904 := by have := hk.out; omega
            have ti : decide (i < k) = true := by simp [hlt]
            have ha : (d : Int) - 1 = ((d - 1 : Nat) : Int) := by have := HD1.out; omega
            have HL := hid hL; have HLT := hid hlt
            have HOi : Hid (ch i).ok := by have := HO.out; unfold T.ok at this; exact this.2.2.2.2 i hlt
            clear hL hlt
            go_wp2_with fail
            have HEa := hid ((Mod.refl [] wr).alloc (.cells (itemC (ch i) Ai ci) 86))
            refine (HI.out i (d - 1) (by have := HD.out; omega) HOi.out Ai ci _ (HL.out.ext HEa.out)).mono ?_
            rintro e w3 ⟨rfl, hb3⟩
            have HE3 := hid ((hX.out.1.trans HEa.out).trans hb3)
            clear hb3
            cases hpl : (ch i).right (d - 1)
            .
             have hno : T.all (fun i => (ch i).right (d - 1)) k = false := by
              have hlt := HLT.out
              cases hh : T.all (fun i => (ch i).right (d - 1)) k with
              | false => rfl
              | true => have := T.all_iff.1 hh i hlt; rw [hpl] at this; cases this
             have HNO := hid hno
             clear hno hpl
             go_wp2_with fail
             go_ret
             exact Ret.mk (by rw [HND.out, HNO.out]; rfl) HE3.out
            .
             have HPL := hid hpl
             clear hpl
             go_wp2_with fail
             have hlt := HLT.out
             refine ⟨⟨i + 1, by omega, by simp, (show Hid _ from ⟨HE3.out, by rw [T.all, hX.out.2, HPL.out]; rfl⟩)⟩, ?_⟩
             simp only [intOf]; omega
           .
            obtain rfl : i = k := by omega
            have ti : decide (i < i) = false := by simp
            go_wp2_with fail
            go_ret
            exact Ret.mk (by rw [HND.out, hX.out.2]; rfl) hX.out.1
        .
         have bs := bs hs; have bS := bS hs
         go_wp2_with fail
         go_ret
         exact Ret.mk (by simp [T.node, hs]) HE0.out
       .
        have bn := bn hn; have bN := bN hn
        go_wp2_with fail
        go_ret
        exact Ret.mk (by simp [T.node, hn]) HE0.out
      .
       have e4 : (kind == 4) = false := by simp [a4]
       have f4 : (kind = 4) = False := by simp [a4]
       go_enter Tryz.func102, Tryz.ntmps102
       go_wp2_with fail
       go_ret
       exact Ret.mk (by simp [T.node, a0, a2, a3, a4]) HE0.out

set_option maxRecDepth 20000 in
set_option maxHeartbeats 1600000 in
theorem iRight_any (t : T) (hok : t.ok) (A : Option Addr) (c : Nat) (w : World) (h : IsL w (fun _ => True) t A) :
  Calls Tryz.prog 85 #[itemV t A c] w (Ret (.bool (t.right 8)) w) := by
 have H := hid h; have HO := hid hok
 clear h hok
 have HE0 := hid ((Mod.refl [] w).alloc (.cells (itemC t A c) 86))
 go_enter Tryz.func85, Tryz.ntmps85
 go_wp2_with fail
 refine (right_any t 8 (by omega) HO.out A c _ (H.out.ext HE0.out)).mono ?_
 rintro e w2 ⟨rfl, hb2⟩
 go_wp2_with fail
 go_ret
 exact Ret.mk rfl (HE0.out.trans hb2)
end Go.Proofs.YthecmnbkjchjmaaGreat


namespace Go.Proofs.YthecmnbkjchjmaaGreat
open Go.RowKit
set_option linter.unusedVariables false
set_option linter.unusedSimpArgs false

theorem Blk.new' (w : World) (t : TypeId) (cs : Array Value) {N : Nat} (h : w.heap.size = N) : Blk (w.alloc (.cells cs t)) N t cs := by subst h; exact Blk.new _ _ _
theorem openL4 : openL 4 = [159] := by decide
theorem openL7 : openL 7 = [255] := by decide

set_option maxRecDepth 20000 in
set_option maxHeartbeats 3200000 in
theorem build_any (t : T) : t.ok -> t.plain = true -> t.size <= 100000 -> ∀ A c w, IsL w (fun _ => True) t A ->
  Calls Tryz.prog 86 #[itemV t A c] w (Ret (str t.bytes) w) := by
 induction t with
 | nil => intro hok; cases hok
 | mk kind n s op k ch ih =>
  intro hok hpl hsz A c w h
  have H := hid h; have HO := hid hok; have HPL := hid hpl; have HSZ := hid hsz
  have HI := hid ih
  have hk : Hid (k < 4611686018427387904) := by unfold T.ok at hok; exact hok.2.2.2.1
  have hn64 : Hid (n < 18446744073709551616) := by unfold T.ok at hok; exact hok.2.1
  have hs64 : Hid (s.length < 4611686018427387904) := by unfold T.ok at hok; exact hok.2.2.1
  have hkd : kind = 0 \/ kind = 2 \/ kind = 3 \/ kind = 4 := by unfold T.plain at hpl; rw [Bool.and_eq_true] at hpl; exact T.node_kind hpl.1
  have hpc : Hid (∀ i, i < k -> (ch i).plain = true) := by unfold T.plain at hpl; rw [Bool.and_eq_true, T.all_iff] at hpl; exact hpl.2
  have hBy : (T.mk kind n s op k ch).bytes = if kind = 0 then headL 0 n else if kind < 4 then headL kind.toNat s.length ++ s else (if op then [159] else headL 4 k) ++ (T.cat (fun i => (ch i).bytes) k ++ (if op then [255] else [])) := rfl
  have HBy := hid hBy
  show Calls Tryz.prog 86 #[.agg #[.int .i64 kind, .int .u64 (n : Int), str s, .slice A k c, .bool op]] w (Ret (str (T.mk kind n s op k ch).bytes) w)
  have HB : Hid (Blk (w.alloc (.cells #[.int .i64 kind, .int .u64 (n : Int), str s, .slice A k c, .bool op] 86)) w.heap.size 86 #[.int .i64 kind, .int .u64 (n : Int), str s, .slice A k c, .bool op]) := Blk.new _ _ _
  have HE0 := hid ((Mod.refl [] w).alloc (.cells #[.int .i64 kind, .int .u64 (n : Int), str s, .slice A k c, .bool op] 86))
  clear h hok hpl hsz ih hBy
  rcases hkd with rfl | rfl | rfl | rfl
  .
   rw [HBy.out, if_pos rfl]
   go_enter Tryz.func86, Tryz.ntmps86
   go_wp2_with fail
   refine (head_in 0 n (by omega) (by omega) (by omega) (by have := hn64.out; omega) _).mono ?_
   rintro e w2 ⟨rfl, hb2⟩
   go_wp2_with fail
   go_ret
   exact Ret.mk rfl (HE0.out.trans hb2)
  .
   rw [HBy.out, if_neg (by omega), if_pos (by omega)]
   go_enter Tryz.func86, Tryz.ntmps86
   go_wp2_with fail
   refine (wBytes_any s hs64 _).mono ?_
   rintro e w2 ⟨rfl, hb2⟩
   go_wp2_with fail
   go_ret
   exact Ret.mk rfl (HE0.out.trans hb2)
  .
   rw [HBy.out, if_neg (by omega), if_pos (by omega)]
   go_enter Tryz.func86, Tryz.ntmps86
   go_wp2_with fail
   refine (wText_any s hs64 _).mono ?_
   rintro e w2 ⟨rfl, hb2⟩
   go_wp2_with fail
   go_ret
   exact Ret.mk rfl (HE0.out.trans hb2)
  .
   clear HBy
   have K0 : (0 : Int) <= (k : Int) := by omega
   have K1 : (k : Int) < 9223372036854775808 := by have := hk.out; omega
   cases op
   .
    go_enter Tryz.func86, Tryz.ntmps86
    go_wp2_with fail
    refine (head_in 4 (k : Int) (by omega) (by omega) (by omega) (by have := hk.out; omega) _).mono ?_
    rintro e w2 ⟨rfl, hb2⟩
    rw [Int.toNat_natCast]
    have HE2 := hid (HE0.out.trans hb2)
    have HB2 := hid (HB.out.ext hb2)
    have c4 : w2.cell? ⟨w.heap.size, 4, none⟩ = some (.bool false) := HB2.out.cell 4
    have c3 : w2.cell? ⟨w.heap.size, 3, none⟩ = some (.slice A k c) := HB2.out.cell 3
    clear hb2 K1
    go_wp2_with fail
    clear c4 c3
    go_loopw [3, 36] (fun s3 s36 wr => ∃ i : Nat, i <= k /\ s36 = .int .i64 (i : Int) /\ s3 = str (pre 4 s false k ch i) /\ Hid (Ext w wr)) (fun _ i _ => k - (intOf i).toNat)
    case atStart => exact ⟨0, Nat.zero_le _, rfl, by simp [pre, T.cat], HE2.out⟩
    case round =>
     obtain ⟨i, hi, rfl, rfl, hH⟩ := hrel
     have i0 : (0 : Int) <= (i : Int) := by omega
     have HP := hid (pre_le (op := false) hi HSZ.out)
     by_cases hlt : i < k
     .
      obtain ⟨b, o, Ai, ci, rfl, hb, ⟨k0, k1, k2, k3, k4⟩, hL⟩ := H.out.cells hH.out hlt
      have i1 : (i : Int) < (k : Int) := by omega
      have ti : decide (i < k) = true := by simp [hlt]
      have HL := hid hL; have HLT := hid hlt
      have HOi : Hid (ch i).ok := by have := HO.out; unfold T.ok at this; exact this.2.2.2.2 i hlt
      have HZi : Hid ((ch i).size <= 100000) := Nat.le_trans (T.size_ch hlt) HSZ.out
      have HPS := hid (pre_succ 4 s false k ch i)
      have hno : (9223372036854775807 < (pre 4 s false k ch i).length + (ch i).bytes.length) = False := by
       have h1 := pre_le (op := false) (show i + 1 <= k by omega) HSZ.out
       rw [HPS.out, List.length_append] at h1
       simp; omega
      have hk2 : (k : Int) < 4611686018427387904 := by have := hk.out; omega
      have HEa := hid ((Mod.refl [] wr).alloc (.cells (itemC (ch i) Ai ci) 86))
      clear hL hlt
      go_wp2_with fail
      refine (HI.out i HOi.out (hpc.out i HLT.out) HZi.out Ai ci _ (HL.out.ext HEa.out)).mono ?_
      rintro e w3 ⟨rfl, hb3⟩
      have HE3 := hid ((hH.out.trans HEa.out).trans hb3)
      clear hb3
      go_wp2_with fail
      have hlt := HLT.out
      refine ⟨⟨i + 1, by omega, by simp, by rw [HPS.out]; exact str_app _ _, (show Hid _ from HE3.out)⟩, ?_⟩
      simp only [intOf]; omega
     .
      obtain rfl : i = k := by omega
      have ti : decide (i < i) = false := by simp
      have HPE := hid (pre_end (n := n) (s := s) (op := false) (k := i) (ch := ch))
      have hno : (9223372036854775807 < (pre 4 s false i ch i).length) = False := by have := HP.out; simp; omega
      go_wp2_with fail
      go_ret
      exact Ret.mk (by rw [HPE.out]; exact str_app _ []) hH.out
   .
    go_enter Tryz.func86, Tryz.ntmps86
    go_wp2_with fail
    refine (head_in 4 (k : Int) (by omega) (by omega) (by omega) (by have := hk.out; omega) _).mono ?_
    rintro e w2 ⟨rfl, hb2⟩
    rw [Int.toNat_natCast]
    have HE2 := hid (HE0.out.trans hb2)
    have HB2 := hid (HB.out.ext hb2)
    have c4 : w2.cell? ⟨w.heap.size, 4, none⟩ = some (.bool true) := HB2.out.cell 4
    have c3 : w2.cell? ⟨w.heap.size, 3, none⟩ = some (.slice A k c) := HB2.out.cell 3
    clear hb2 K1
    go_wp2_with fail
    refine (open_any 4 _).mono ?_
    rintro e w3 ⟨rfl, hb3⟩
    rw [openL4]
    go_wp2_with fail
    refine (open_any 7 _).mono ?_
    rintro e w4 ⟨rfl, hb4⟩
    rw [openL7]
    have HE4 := hid ((HE2.out.trans hb3).trans hb4)
    have HB4 := hid ((HB2.out.ext hb3).ext hb4)
    clear hb3 hb4 c3 c4 HE2 HB2
    have HE2 := HE4
    have c3 : w4.cell? ⟨w.heap.size, 3, none⟩ = some (.slice A k c) := HB4.out.cell 3
    have c4 : w4.cell? ⟨w.heap.size, 4, none⟩ = some (.bool true) := HB4.out.cell 4
    go_wp2_with fail
    clear c4 c3
    go_loopw [3, 36] (fun s3 s36 wr => ∃ i : Nat, i <= k /\ s36 = .int .i64 (i : Int) /\ s3 = str (pre 4 s true k ch i) /\ Hid (Ext w wr)) (fun _ i _ => k - (intOf i).toNat)
    case atStart => exact ⟨0, Nat.zero_le _, rfl, by simp [pre, T.cat], HE2.out⟩
    case round =>
     obtain ⟨i, hi, rfl, rfl, hH⟩ := hrel
     have i0 : (0 : Int) <= (i : Int) := by omega
     have HP := hid (pre_le (op := true) hi HSZ.out)
     by_cases hlt : i < k
     .
      obtain ⟨b, o, Ai, ci, rfl, hb, ⟨k0, k1, k2, k3, k4⟩, hL⟩ := H.out.cells hH.out hlt
      have i1 : (i : Int) < (k : Int) := by omega
      have ti : decide (i < k) = true := by simp [hlt]
      have HL := hid hL; have HLT := hid hlt
      have HOi : Hid (ch i).ok := by have := HO.out; unfold T.ok at this; exact this.2.2.2.2 i hlt
      have HZi : Hid ((ch i).size <= 100000) := Nat.le_trans (T.size_ch hlt) HSZ.out
      have HPS := hid (pre_succ 4 s true k ch i)
      have hno : (9223372036854775807 < (pre 4 s true k ch i).length + (ch i).bytes.length) = False := by
       have h1 := pre_le (op := true) (show i + 1 <= k by omega) HSZ.out
       rw [HPS.out, List.length_append] at h1
       simp; omega
      have hk2 : (k : Int) < 4611686018427387904 := by have := hk.out; omega
      have HEa := hid ((Mod.refl [] wr).alloc (.cells (itemC (ch i) Ai ci) 86))
      clear hL hlt
      go_wp2_with fail
      refine (HI.out i HOi.out (hpc.out i HLT.out) HZi.out Ai ci _ (HL.out.ext HEa.out)).mono ?_
      rintro e w3 ⟨rfl, hb3⟩
      have HE3 := hid ((hH.out.trans HEa.out).trans hb3)
      clear hb3
      go_wp2_with fail
      have hlt := HLT.out
      refine ⟨⟨i + 1, by omega, by simp, by rw [HPS.out]; exact str_app _ _, (show Hid _ from HE3.out)⟩, ?_⟩
      simp only [intOf]; omega
     .
      obtain rfl : i = k := by omega
      have ti : decide (i < i) = false := by simp
      have HPE := hid (pre_end (n := n) (s := s) (op := true) (k := i) (ch := ch))
      have hno : (9223372036854775807 < (pre 4 s true i ch i).length + 1) = False := by have := HP.out; simp; omega
      go_wp2_with fail
      go_ret
      exact Ret.mk (by rw [HPE.out]; exact str_app _ [255]) hH.out

def buildV (t : T) : Value := if t.right 8 then .tuple #[str t.bytes, .int .i64 0] else .tuple #[str [], .int .i64 1]
set_option maxRecDepth 20000 in
set_option maxHeartbeats 1600000 in
theorem iBuild_any (t : T) (hok : t.ok) (hsz : t.size <= 100000) (A : Option Addr) (c : Nat) (w : World) (h : IsL w (fun _ => True) t A) :
  Calls Tryz.prog 70 #[itemV t A c] w (Ret (buildV t) w) := by
 have H := hid h; have HO := hid hok; have HS := hid hsz
 have HB : Hid (Blk (w.alloc (.cells (itemC t A c) 86)) w.heap.size 86 (itemC t A c)) := Blk.new _ _ _
 have HE0 := hid ((Mod.refl [] w).alloc (.cells (itemC t A c) 86))
 have HPL : Hid (t.right 8 = true -> t.plain = true) := fun h => by rw [T.right_eq] at h; simp at h; exact h.2
 clear h hok hsz
 go_enter Tryz.func70, Tryz.ntmps70
 go_wp2_with fail
 refine (iRight_any t HO.out A c _ (H.out.ext HE0.out)).mono ?_
 rintro e w2 ⟨rfl, hb2⟩
 have HE2 := hid (HE0.out.trans hb2)
 have hB2 := HB.out.ext hb2
 have c0 : w2.cell? ⟨w.heap.size, 0, none⟩ = some (.int .i64 t.kind) := hB2.cell 0
 have c1 : w2.cell? ⟨w.heap.size, 1, none⟩ = some (.int .u64 (t.n : Int)) := hB2.cell 1
 have c2 : w2.cell? ⟨w.heap.size, 2, none⟩ = some (str t.s) := hB2.cell 2
 have c3 : w2.cell? ⟨w.heap.size, 3, none⟩ = some (.slice A t.k c) := hB2.cell 3
 have c4 : w2.cell? ⟨w.heap.size, 4, none⟩ = some (.bool t.op) := hB2.cell 4
 clear hb2 hB2
 cases hr : t.right 8
 .
  have HR := hid hr
  clear hr
  go_wp2_with fail
  go_ret2
  exact Ret.mk (by rw [buildV, HR.out]; rfl) HE2.out
 .
  have HR := hid hr
  clear hr
  go_wp2_with fail
  refine (build_any t HO.out (HPL.out HR.out) HS.out A c _ (H.out.ext HE2.out)).mono ?_
  rintro e w3 ⟨rfl, hb3⟩
  go_wp2_with fail
  go_ret2
  exact Ret.mk (by rw [buildV, HR.out]; rfl) (HE2.out.trans hb3)
end Go.Proofs.YthecmnbkjchjmaaGreat
