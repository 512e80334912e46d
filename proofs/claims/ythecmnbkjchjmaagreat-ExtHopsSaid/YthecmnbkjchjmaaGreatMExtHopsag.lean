/-
 The reference's look at names.
-/
import Derived.Test.YthecmnbkjchjmaaGreatMExtHopsab
import Derived.Test.YthecmnbkjchjmaaGreatMExtHopsac
import Derived.Test.YthecmnbkjchjmaaGreatMExtHopsaf
namespace Go.Proofs.YthecmnbkjchjmaaGreat
open Go.RowKit
set_option linter.unusedVariables false
set_option linter.unusedSimpArgs false
def lettersL : List UInt8 := [97, 98, 99, 100, 101, 102, 103, 104, 105, 106, 107, 108, 109, 110, 111, 112, 113, 114, 115, 116, 117, 118, 119, 120, 121, 122, 48, 49, 50, 51, 52, 53, 54, 55, 56, 57, 45, 46]
theorem lett_mem_n : ∀ n : Fin 256, lett (UInt8.ofNat n.val) = lettersL.contains (UInt8.ofNat n.val) := by decide +kernel
theorem lett_mem (c : UInt8) : lett c = lettersL.contains c := by
 have := lett_mem_n ⟨c.toNat, c.toNat_lt⟩
 simpa using this
set_option maxHeartbeats 800000 in
theorem letter_any (c : UInt8) (w : World) : Calls Tryz.prog 30 #[.int .u8 (c.toNat : Int)] w (Ret (.bool (lett c)) w) := by
 rw [lett_mem]
 obtain ⟨B, hB⟩ : ∃ B, lettersL.contains c = B := ⟨_, rfl⟩
 rw [hB]
 have HB : Hid ((lettersL.drop 0).contains c = B) := hB
 clear hB
 go_enter Tryz.func30, Tryz.ntmps30
 go_wp2_with fail
 go_loop [3] (fun i => ∃ j : Nat, j <= 38 /\ i = .int .i64 j /\ Hid ((lettersL.drop j).contains c = B)) (fun i => 38 - (intOf i).toNat)
 case atStart => exact ⟨0, Nat.zero_le _, rfl, HB⟩
 case round =>
  obtain ⟨j, hj, rfl, HP⟩ := hrel
  by_cases hlt : j < 38
  .
   have hlt2 : j < lettersL.length := hlt
   have hdr : lettersL.drop j = lettersL[j] :: lettersL.drop (j + 1) := List.drop_eq_getElem_cons hlt2
   rw [hdr] at HP
   by_cases hx : lettersL[j] = c
   .
    have q : ((((({ data := #[97, 98, 99, 100, 101, 102, 103, 104, 105, 106, 107, 108, 109, 110, 111, 112, 113, 114, 115, 116, 117, 118, 119, 120, 121, 122, 48, 49, 50, 51, 52, 53, 54, 55, 56, 57, 45, 46] } : ByteArray)[j]'hlt)).toNat : Int) == (c.toNat : Int)) = true := by show (((lettersL[j]).toNat : Int) == _) = true; simp [hx]
    have HT : Hid (true = B) := by have := HP.out; rw [hx, List.contains_cons] at this; rw [<- this]; unfold Hid; simp
    clear HP hdr hx
    go_wp2_with fail
    go_ret
    exact Ret.mk (by rw [<- HT.out]; rfl) (Mod.refl _ _)
   .
    have hn : ¬ (lettersL[j]).toNat = c.toNat := fun h => hx (UInt8.toNat_inj.1 h)
    have q : ((((({ data := #[97, 98, 99, 100, 101, 102, 103, 104, 105, 106, 107, 108, 109, 110, 111, 112, 113, 114, 115, 116, 117, 118, 119, 120, 121, 122, 48, 49, 50, 51, 52, 53, 54, 55, 56, 57, 45, 46] } : ByteArray)[j]'hlt)).toNat : Int) == (c.toNat : Int)) = false := by show (((lettersL[j]).toNat : Int) == _) = false; simp; omega
    have HT : Hid ((lettersL.drop (j + 1)).contains c = B) := by have := HP.out; rw [List.contains_cons] at this; have h2 : (c == lettersL[j]) = false := (by simpa using Ne.symm hx); rw [h2, Bool.false_or] at this; exact this
    clear HP hdr hx hn
    go_wp2_with fail
    go_round
    case rel => exact ⟨j + 1, by omega, by go_num, HT⟩
    case measure => simp [intOf]; omega
  .
   obtain rfl : j = 38 := by omega
   have HT : Hid (false = B) := HP
   clear HP
   go_wp2_with fail
   go_ret
   exact Ret.mk (by rw [<- HT.out]; rfl) (Mod.refl _ _)
set_option maxHeartbeats 800000 in
theorem slash_any (s : List UInt8) (hs : Hid (s.length < 4611686018427387904)) (w : World) : Calls Tryz.prog 29 #[str s] w (Ret (.int .i64 (slash s : Nat)) w) := by
 obtain ⟨B, hB⟩ : ∃ B, slash s = B := ⟨_, rfl⟩
 rw [hB]
 have HB : Hid (slashA (s.drop 2) 2 = B) := hB
 clear hB
 go_enter Tryz.func29, Tryz.ntmps29
 go_wp2_with fail
 have hs2 := hs.out
 by_cases hl : s.length < 2
 .
  have HT : Hid (0 = B) := by have := HB.out; rw [List.drop_eq_nil_of_le (by omega)] at this; exact this
  go_loop [3] (fun i => i = .int .i64 2) (fun i => 0)
  case atStart => rfl
  case round =>
   subst hrel
   go_wp2_with fail
   go_ret
   exact Ret.mk (by rw [<- HT.out]; rfl) (Mod.refl _ _)
 go_loop [3] (fun i => ∃ j : Nat, 2 <= j /\ j <= s.length /\ i = .int .i64 j /\ Hid (slashA (s.drop j) j = B)) (fun i => s.length - (intOf i).toNat)
 case atStart => exact ⟨2, Nat.le_refl _, by omega, rfl, HB⟩
 case round =>
  obtain ⟨j, hj2, hj, rfl, HP⟩ := hrel
  by_cases hlt : j < s.length
  .
   have hdr : s.drop j = s[j] :: s.drop (j + 1) := List.drop_eq_getElem_cons hlt
   rw [hdr, slashA] at HP
   clear hdr
   by_cases hx : (s[j]).toNat = 47
   .
    have q : ((((⟨s.toArray⟩ : ByteArray)[j]'hlt).toNat : Int) == 47) = true := by show (((s[j]).toNat : Int) == 47) = true; simp; omega
    have q2 : ((((⟨s.toArray⟩ : ByteArray)[j]'hlt).toNat : Int) = 47) = True := by show (((s[j]).toNat : Int) = 47) = True; simp; omega
    have HT : Hid (j = B) := by have := HP.out; rw [if_pos hx] at this; exact this
    clear HP hx
    go_wp2_with fail
    go_ret
    exact Ret.mk (by rw [<- HT.out]; rfl) (Mod.refl _ _)
   .
    have q : ((((⟨s.toArray⟩ : ByteArray)[j]'hlt).toNat : Int) == 47) = false := by show (((s[j]).toNat : Int) == 47) = false; simp; omega
    have q2 : ((((⟨s.toArray⟩ : ByteArray)[j]'hlt).toNat : Int) = 47) = False := by show (((s[j]).toNat : Int) = 47) = False; simp; omega
    have HT : Hid (slashA (s.drop (j + 1)) (j + 1) = B) := by have := HP.out; rw [if_neg hx] at this; exact this
    clear HP hx
    go_wp2_with fail
    go_round
    case rel => exact ⟨j + 1, by omega, by omega, by go_num, HT⟩
    case measure => simp [intOf]; omega
  .
   obtain rfl : j = s.length := by omega
   have HT : Hid (0 = B) := by have := HP.out; rw [List.drop_length] at this; exact this
   clear HP
   go_wp2_with fail
   go_ret
   exact Ret.mk (by rw [<- HT.out]; rfl) (Mod.refl _ _)
set_option maxRecDepth 20000 in
set_option maxHeartbeats 3200000 in
theorem plain_any (t : T) : t.ok -> ∀ A c w, IsL w (fun _ => True) t A ->
  Calls Tryz.prog 88 #[itemV t A c] w (Ret (.bool t.plain) w) := by
 induction t with
 | nil => intro hok; cases hok
 | mk kind n s op k ch ih =>
  intro hok A c w h
  have H := hid h; have HO := hid hok
  have HI := hid ih
  have hk : Hid (k < 4611686018427387904) := by unfold T.ok at hok; exact hok.2.2.2.1
  show Calls Tryz.prog 88 #[.agg #[.int .i64 kind, .int .u64 (n : Int), str s, .slice A k c, .bool op]] w (Ret (.bool (T.node kind n s op k && T.all (fun i => (ch i).plain) k)) w)
  have HB : Hid (Blk (w.alloc (.cells #[.int .i64 kind, .int .u64 (n : Int), str s, .slice A k c, .bool op] 86)) w.heap.size 86 #[.int .i64 kind, .int .u64 (n : Int), str s, .slice A k c, .bool op]) := Blk.new _ _ _
  have HE0 := hid ((Mod.refl [] w).alloc (.cells #[.int .i64 kind, .int .u64 (n : Int), str s, .slice A k c, .bool op] 86))
  clear h hok ih
  go_enter Tryz.func88, Tryz.ntmps88
  go_upto_region 2 with fail
  go_cut [4] (fun s4 wx => s4 = .bool (decide (kind = 2 \/ kind = 3)) /\ Hid (Ext w wx /\ Blk wx w.heap.size 86 #[.int .i64 kind, .int .u64 (n : Int), str s, .slice A k c, .bool op]))
  case first =>
   by_cases a2 : kind = 2
   .
    subst a2
    go_wp2_with fail
    go_meet
    exact ⟨by simp, HE0.out, HB.out⟩
   .
    have b2 : (kind == 2) = false := by simp [a2]
    go_wp2_with fail
    go_meet
    exact ⟨by simp only [a2, false_or]; rfl, HE0.out, HB.out⟩
  obtain ⟨rfl, hH⟩ := hcut
  have c0 : wc.cell? ⟨w.heap.size, 0, none⟩ = some (.int .i64 kind) := hH.out.2.cell 0
  have c1 : wc.cell? ⟨w.heap.size, 1, none⟩ = some (.int .u64 (n : Int)) := hH.out.2.cell 1
  have c2 : wc.cell? ⟨w.heap.size, 2, none⟩ = some (str s) := hH.out.2.cell 2
  have c3 : wc.cell? ⟨w.heap.size, 3, none⟩ = some (.slice A k c) := hH.out.2.cell 3
  have c4 : wc.cell? ⟨w.heap.size, 4, none⟩ = some (.bool op) := hH.out.2.cell 4
  go_upto_region 3 with fail
  go_cut [3, 4, 66] (fun s3 s4 s66 wx => ∃ bb, s66 = .bool bb /\ bb = !T.node kind n s op k /\ wx = wc)
  case first =>
   have bs : s ≠ [] -> (s == []) = false := fun h => by simp [h]
   have bS : s ≠ [] -> (s = []) = False := fun h => by simp [h]
   have bn : n ≠ 0 -> ((n : Int) == 0) = false := fun h => by simp [h]
   have bN : n ≠ 0 -> (n = 0) = False := fun h => by simp [h]
   have bk : 0 < k -> decide (0 < k) = true := fun h => by simp [h]
   have bK : 1000 < k -> decide (1000 < k) = true := fun h => by simp [h]
   have bK2 : ¬ 1000 < k -> decide (1000 < k) = false := fun h => by simp at h; simp [h]
   have bk2 : ¬ 0 < k -> k = 0 := fun h => by omega
   have q1 : k ≠ 0 -> (k = 0) = False := fun h => by simp [h]
   by_cases a0 : kind = 0
   .
    subst a0
    have hn : n = 0 \/ n ≠ 0 := by omega
    rcases hn with rfl | hn
    .
     skip
     by_cases hs : s = []
     .
      subst hs
      by_cases hk0 : 0 < k
      .
       have bk := bk hk0; have q1 := q1 (by omega)
       go_wp2_with fail
       go_meet
       exact ⟨_, rfl, by simp [T.node, q1], rfl⟩
      .
       obtain rfl := bk2 hk0
       cases op
       .
        skip
        go_wp2_with fail
        go_meet
        exact ⟨_, rfl, by simp [T.node], rfl⟩
       .
        skip
        go_wp2_with fail
        go_meet
        exact ⟨_, rfl, by simp [T.node], rfl⟩
     .
      have bs := bs hs; have bS := bS hs
      go_wp2_with fail
      go_meet
      exact ⟨_, rfl, by simp [T.node, hs], rfl⟩
    .
     have bn := bn hn; have bN := bN hn
     by_cases hs : s = []
     .
      subst hs
      by_cases hk0 : 0 < k
      .
       have bk := bk hk0; have q1 := q1 (by omega)
       go_wp2_with fail
       go_meet
       exact ⟨_, rfl, by simp [T.node, q1], rfl⟩
      .
       obtain rfl := bk2 hk0
       cases op
       .
        skip
        go_wp2_with fail
        go_meet
        exact ⟨_, rfl, by simp [T.node], rfl⟩
       .
        skip
        go_wp2_with fail
        go_meet
        exact ⟨_, rfl, by simp [T.node], rfl⟩
     .
      have bs := bs hs; have bS := bS hs
      go_wp2_with fail
      go_meet
      exact ⟨_, rfl, by simp [T.node, hs], rfl⟩
   .
    skip
    by_cases a2 : kind = 2
    .
     subst a2
     have hn : n = 0 \/ n ≠ 0 := by omega
     rcases hn with rfl | hn
     .
      skip
      by_cases hs : s = []
      .
       subst hs
       by_cases hk0 : 0 < k
       .
        have bk := bk hk0; have q1 := q1 (by omega)
        go_wp2_with fail
        go_meet
        exact ⟨_, rfl, by simp [T.node, q1], rfl⟩
       .
        obtain rfl := bk2 hk0
        cases op
        .
         skip
         go_wp2_with fail
         go_meet
         exact ⟨_, rfl, by simp [T.node], rfl⟩
        .
         skip
         go_wp2_with fail
         go_meet
         exact ⟨_, rfl, by simp [T.node], rfl⟩
      .
       have bs := bs hs; have bS := bS hs
       by_cases hk0 : 0 < k
       .
        have bk := bk hk0; have q1 := q1 (by omega)
        go_wp2_with fail
        go_meet
        exact ⟨_, rfl, by simp [T.node, q1], rfl⟩
       .
        obtain rfl := bk2 hk0
        cases op
        .
         skip
         go_wp2_with fail
         go_meet
         exact ⟨_, rfl, by simp [T.node], rfl⟩
        .
         skip
         go_wp2_with fail
         go_meet
         exact ⟨_, rfl, by simp [T.node], rfl⟩
     .
      have bn := bn hn; have bN := bN hn
      go_wp2_with fail
      go_meet
      exact ⟨_, rfl, by simp [T.node, hn], rfl⟩
    .
     skip
     by_cases a3 : kind = 3
     .
      subst a3
      have hn : n = 0 \/ n ≠ 0 := by omega
      rcases hn with rfl | hn
      .
       skip
       by_cases hs : s = []
       .
        subst hs
        by_cases hk0 : 0 < k
        .
         have bk := bk hk0; have q1 := q1 (by omega)
         go_wp2_with fail
         go_meet
         exact ⟨_, rfl, by simp [T.node, q1], rfl⟩
        .
         obtain rfl := bk2 hk0
         cases op
         .
          skip
          go_wp2_with fail
          go_meet
          exact ⟨_, rfl, by simp [T.node], rfl⟩
         .
          skip
          go_wp2_with fail
          go_meet
          exact ⟨_, rfl, by simp [T.node], rfl⟩
       .
        have bs := bs hs; have bS := bS hs
        by_cases hk0 : 0 < k
        .
         have bk := bk hk0; have q1 := q1 (by omega)
         go_wp2_with fail
         go_meet
         exact ⟨_, rfl, by simp [T.node, q1], rfl⟩
        .
         obtain rfl := bk2 hk0
         cases op
         .
          skip
          go_wp2_with fail
          go_meet
          exact ⟨_, rfl, by simp [T.node], rfl⟩
         .
          skip
          go_wp2_with fail
          go_meet
          exact ⟨_, rfl, by simp [T.node], rfl⟩
      .
       have bn := bn hn; have bN := bN hn
       go_wp2_with fail
       go_meet
       exact ⟨_, rfl, by simp [T.node, hn], rfl⟩
     .
      skip
      by_cases a4 : kind = 4
      .
       subst a4
       have hn : n = 0 \/ n ≠ 0 := by omega
       rcases hn with rfl | hn
       .
        skip
        by_cases hs : s = []
        .
         subst hs
         by_cases hk0 : 0 < k
         .
          have bk := bk hk0; have q1 := q1 (by omega)
          by_cases hk1 : 1000 < k
          .
           have bK := bK hk1; have z1 : decide (k <= 1000) = false := by simp; omega
           have z2 : decide (1000 < (k : Int)) = true := by simp; omega
           go_wp2_with fail
           go_meet
           exact ⟨_, rfl, by simp [T.node, z1], rfl⟩
          .
           have bK := bK2 hk1; have z1 : decide (k <= 1000) = true := by simp; omega
           have z2 : decide (1000 < (k : Int)) = false := by simp; omega
           go_wp2_with fail
           go_meet
           exact ⟨_, rfl, by simp [T.node, z1], rfl⟩
         .
          obtain rfl := bk2 hk0
          cases op
          .
           skip
           go_wp2_with fail
           go_meet
           exact ⟨_, rfl, by simp [T.node], rfl⟩
          .
           skip
           go_wp2_with fail
           go_meet
           exact ⟨_, rfl, by simp [T.node], rfl⟩
        .
         have bs := bs hs; have bS := bS hs
         go_wp2_with fail
         go_meet
         exact ⟨_, rfl, by simp [T.node, hs], rfl⟩
       .
        have bn := bn hn; have bN := bN hn
        go_wp2_with fail
        go_meet
        exact ⟨_, rfl, by simp [T.node, hn], rfl⟩
      .
       skip
       have e0 : (kind == 0) = false := by simp [a0]
       have e4 : (kind == 4) = false := by simp [a4]
       have e23 : decide (kind = 2 \/ kind = 3) = false := by simp [a2, a3]
       have f0 : (kind = 0) = False := by simp [a0]
       have f4 : (kind = 4) = False := by simp [a4]
       have f2 : (kind = 2) = False := by simp [a2]
       have f3 : (kind = 3) = False := by simp [a3]
       go_wp2_with fail
       go_meet
       exact ⟨_, rfl, by simp [T.node, a0, a2, a3, a4], rfl⟩
  obtain ⟨bb, rfl, hbb, rfl⟩ := hcut
  cases hnd : T.node kind n s op k
  .
   have HND := hid hnd
   rw [hnd] at hbb; obtain rfl : bb = true := hbb
   go_wp2_with fail
   go_ret
   exact Ret.mk (by rw [HND.out]; rfl) hH.out.1
  .
   have HND := hid hnd
   rw [hnd] at hbb; obtain rfl : bb = false := hbb
   clear hnd
   go_wp2_with fail
   go_loopw [5] (fun s5 wr => ∃ i : Nat, i <= k /\ s5 = .int .i64 (i : Int) /\ Hid (Ext w wr /\ Blk wr w.heap.size 86 #[.int .i64 kind, .int .u64 (n : Int), str s, .slice A k c, .bool op] /\ T.all (fun i => (ch i).plain) i = true)) (fun i _ => k - (intOf i).toNat)
   case atStart => exact ⟨0, Nat.zero_le _, rfl, hH.out.1, hH.out.2, rfl⟩
   case round =>
    clear c0 c1 c2 c3 c4
    obtain ⟨i, hi, rfl, hX⟩ := hrel
    have i0 : (0 : Int) <= (i : Int) := by omega
    have c3 : wr.cell? ⟨w.heap.size, 3, none⟩ = some (.slice A k c) := hX.out.2.1.cell 3
    by_cases hlt : i < k
    .
     obtain ⟨b, o, Ai, ci, rfl, hb, ⟨k0, k1, k2, k3, k4⟩, hL⟩ := H.out.cells hX.out.1 hlt
     have i1 : (i : Int) < (k : Int) := by omega
     have hk2 : (k : Int) < 4611686018427387904 := by have := hk.out; omega
     have ti : decide (i < k) = true := by simp [hlt]
     have HL := hid hL; have HLT := hid hlt
     have HOi : Hid (ch i).ok := by have := HO.out; unfold T.ok at this; exact this.2.2.2.2 i hlt
     clear hL hlt
     go_wp2_with fail
     refine (HI.out i HOi.out Ai ci _ HL.out).mono ?_
     rintro e w3 ⟨rfl, hb3⟩
     have HE3 := hid (hX.out.1.trans hb3)
     have HB3 := hid (hX.out.2.1.ext hb3)
     clear hb3
     cases hpl : (ch i).plain
     .
      have hno : T.all (fun i => (ch i).plain) k = false := by
       have hlt := HLT.out
       cases hh : T.all (fun i => (ch i).plain) k with
       | false => rfl
       | true => have := T.all_iff.1 hh i hlt; rw [hpl] at this; cases this
      have HNO := hid hno
      clear hno
      go_wp2_with fail
      go_ret
      exact Ret.mk (by rw [HND.out, HNO.out]; rfl) HE3.out
     .
      have HPL := hid hpl
      go_wp2_with fail
      have hlt := HLT.out
      refine ⟨⟨i + 1, by omega, by simp, (show Hid _ from ⟨HE3.out, HB3.out, by rw [T.all, hX.out.2.2, HPL.out]; rfl⟩)⟩, ?_⟩
      simp only [intOf]; omega
    .
     obtain rfl : i = k := by omega
     have ti : decide (i < i) = false := by simp
     go_wp2_with fail
     go_ret
     exact Ret.mk (by rw [HND.out, hX.out.2.2]; rfl) hX.out.1
set_option maxRecDepth 20000 in
set_option maxHeartbeats 1600000 in
theorem rRight_any (t : T) (hok : t.ok) (A : Option Addr) (c : Nat) (w : World) (h : IsL w (fun _ => True) t A) :
  Calls Tryz.prog 71 #[itemV t A c] w (Ret (.bool (t.right 8)) w) := by
 have H := hid h; have HO := hid hok
 have HR := hid (T.right_eq t 8)
 have HB : Hid (Blk (w.alloc (.cells (itemC t A c) 86)) w.heap.size 86 (itemC t A c)) := Blk.new _ _ _
 have HE0 := hid ((Mod.refl [] w).alloc (.cells (itemC t A c) 86))
 clear h hok
 go_enter Tryz.func71, Tryz.ntmps71
 go_wp2_with fail
 refine (Deep_any t 9 (by omega) HO.out A c _ (H.out.ext HE0.out)).mono ?_
 rintro e w2 ⟨rfl, hb2⟩
 have HE2 := hid (HE0.out.trans hb2)
 have hB2 := HB.out.ext hb2
 have c0 : w2.cell? ⟨w.heap.size, 0, none⟩ = some (.int .i64 t.kind) := hB2.cell 0
 have c1 : w2.cell? ⟨w.heap.size, 1, none⟩ = some (.int .u64 (t.n : Int)) := hB2.cell 1
 have c2 : w2.cell? ⟨w.heap.size, 2, none⟩ = some (str t.s) := hB2.cell 2
 have c3 : w2.cell? ⟨w.heap.size, 3, none⟩ = some (.slice A t.k c) := hB2.cell 3
 have c4 : w2.cell? ⟨w.heap.size, 4, none⟩ = some (.bool t.op) := hB2.cell 4
 by_cases hd : t.deep 9 <= 8
 .
  have HD := hid hd
  have td : decide (t.deep 9 <= 8) = true := by simp [hd]
  have td2 : decide ((t.deep 9 : Int) <= 8) = true := by simp; omega
  clear hd hb2 hB2
  go_wp2_with fail
  refine (plain_any t HO.out A c _ (H.out.ext HE2.out)).mono ?_
  rintro e w3 ⟨rfl, hb3⟩
  go_wp2_with fail
  go_ret
  exact Ret.mk (by rw [HR.out]; simp [HD.out]) (HE2.out.trans hb3)
 .
  have HD := hid hd
  have td : decide (t.deep 9 <= 8) = false := by simp; omega
  have td2 : decide ((t.deep 9 : Int) <= 8) = false := by simp; omega
  clear hd hb2 hB2
  go_wp2_with fail
  go_ret
  exact Ret.mk (by rw [HR.out]; simp [HD.out]) HE2.out
def pre (kind : Int) (s : List UInt8) (op : Bool) (k : Nat) (ch : Nat -> T) (j : Nat) : List UInt8 := (if op then [159] else headL 4 k) ++ T.cat (fun i => (ch i).bytes) j
theorem T.cat_mono {f : Nat -> List UInt8} {j k : Nat} (h : j <= k) : (T.cat f j).length <= (T.cat f k).length := by
 induction k with
 | zero =>
    have : j = 0 := by omega
    subst this; exact Nat.le_refl _
 | succ k ih =>
  by_cases e : j = k + 1
  . subst e; exact Nat.le_refl _
  .
   have := ih (by omega)
   rw [T.cat, List.length_append]; omega
theorem pre_succ (kind : Int) (s : List UInt8) (op : Bool) (k : Nat) (ch : Nat -> T) (j : Nat) : pre kind s op k ch (j + 1) = pre kind s op k ch j ++ (ch j).bytes := by
 unfold pre; rw [T.cat, List.append_assoc]
theorem pre_le {n : Nat} {s : List UInt8} {op : Bool} {k : Nat} {ch : Nat -> T} {j : Nat} (hj : j <= k) (h : (T.mk 4 n s op k ch).size <= 100000) : (pre 4 s op k ch j).length <= 1000000 := by
 have h1 := T.bytes_le (.mk 4 n s op k ch)
 have h2 : (T.mk 4 n s op k ch).bytes = (if op then [159] else headL 4 k) ++ (T.cat (fun i => (ch i).bytes) k ++ (if op then [255] else [])) := rfl
 have h3 := T.cat_mono (f := fun i => (ch i).bytes) hj
 rw [h2, List.length_append, List.length_append] at h1
 unfold pre
 rw [List.length_append]
 omega
theorem pre_end {n : Nat} {s : List UInt8} {op : Bool} {k : Nat} {ch : Nat -> T} : (T.mk 4 n s op k ch).bytes = pre 4 s op k ch k ++ (if op then [255] else []) := by
 have h2 : (T.mk 4 n s op k ch).bytes = (if op then [159] else headL 4 k) ++ (T.cat (fun i => (ch i).bytes) k ++ (if op then [255] else [])) := rfl
 rw [h2, pre, List.append_assoc]
set_option maxRecDepth 20000 in
set_option maxHeartbeats 3200000 in
theorem rBytesI_any (t : T) : t.ok -> t.plain = true -> t.size <= 100000 -> ∀ A c w, IsL w (fun _ => True) t A ->
  Calls Tryz.prog 72 #[itemV t A c] w (Ret (str t.bytes) w) := by
 induction t with
 | nil => intro hok; cases hok
 | mk kind n s op k ch ih =>
  intro hok hpl hsz A c w h
  have H := hid h; have HO := hid hok; have HPL := hid hpl; have HSZ := hid hsz
  have HI := hid ih
  have hk : Hid (k < 4611686018427387904) := by unfold T.ok at hok; exact hok.2.2.2.1
  have hn64 : Hid (n < 18446744073709551616) := by unfold T.ok at hok; exact hok.2.1
  have hs64 : Hid (s.length < 4611686018427387904) := by unfold T.ok at hok; exact hok.2.2.1
  have hkd : kind = 0 \/ kind = 2 \/ kind = 3 \/ kind = 4 := by unfold T.plain at hpl; rw [Bool.and_eq_true] at hpl; exact T.node_kind hpl.1
  have hpc : Hid (∀ i, i < k -> (ch i).plain = true) := by unfold T.plain at hpl; rw [Bool.and_eq_true, T.all_iff] at hpl; exact hpl.2
  have HBL := hid (T.bytes_le (.mk kind n s op k ch))
  have hBy : (T.mk kind n s op k ch).bytes = if kind = 0 then headL 0 n else if kind < 4 then headL kind.toNat s.length ++ s else (if op then [159] else headL 4 k) ++ (T.cat (fun i => (ch i).bytes) k ++ (if op then [255] else [])) := rfl
  have HBy := hid hBy
  show Calls Tryz.prog 72 #[.agg #[.int .i64 kind, .int .u64 (n : Int), str s, .slice A k c, .bool op]] w (Ret (str (T.mk kind n s op k ch).bytes) w)
  have HB : Hid (Blk (w.alloc (.cells #[.int .i64 kind, .int .u64 (n : Int), str s, .slice A k c, .bool op] 86)) w.heap.size 86 #[.int .i64 kind, .int .u64 (n : Int), str s, .slice A k c, .bool op]) := Blk.new _ _ _
  have HE0 := hid ((Mod.refl [] w).alloc (.cells #[.int .i64 kind, .int .u64 (n : Int), str s, .slice A k c, .bool op] 86))
  clear h hok hpl hsz ih hBy
  by_cases k0 : kind = 0
  .
   subst k0
   rw [HBy.out, if_pos rfl]
   go_enter Tryz.func72, Tryz.ntmps72
   go_wp2_with fail
   refine (rhead_in 0 n (by omega) (by omega) (by omega) (by have := hn64.out; omega) _).mono ?_
   rintro e w2 ⟨rfl, hb2⟩
   go_wp2_with fail
   go_ret
   exact Ret.mk rfl (HE0.out.trans hb2)
  .
   by_cases k4 : kind < 4
   .
    rw [HBy.out, if_neg k0, if_pos k4]
    have b0 : (kind == 0) = false := by simp [k0]
    have b1 : (kind = 0) = False := by simp [k0]
    have b2 : decide (kind < 4) = true := by simp [k4]
    have HK : Hid (0 <= kind /\ kind <= 3) := by unfold Hid; omega
    have s0 : (s.length : Int) < 9223372036854775808 := by have := hs64.out; omega
    have hno : (9223372036854775807 < (headL kind.toNat s.length).length + s.length) = False := by have := headL_le kind.toNat s.length; have := hs64.out; simp; omega
    clear k0 k4 hkd
    go_enter Tryz.func72, Tryz.ntmps72
    go_upto_region 1 with fail
    go_cut [5, 6, 7] (fun s5 s6 s7 wx => s7 = .bool false /\ Hid (Ext w wx /\ Blk wx w.heap.size 86 #[.int .i64 kind, .int .u64 (n : Int), str s, .slice A k c, .bool op]))
    case first =>
     go_wp2_with fail
     go_meet
     exact ⟨rfl, HE0.out, HB.out⟩
    obtain ⟨rfl, hX⟩ := hcut
    have HX : Hid (∀ W, Ext wc W -> W.cell? ⟨w.heap.size, 0, none⟩ = some (.int .i64 kind) /\ W.cell? ⟨w.heap.size, 2, none⟩ = some (str s)) := fun W hW => ⟨(hX.out.2.ext hW).cell 0, (hX.out.2.ext hW).cell 2⟩
    have tw : IntKind.u64.wrap (s.length : Int) = (s.length : Int) := IntWalk.u64_in _ (by have := hs64.out; omega)
    have y0 := (HX.out wc (Mod.refl _ _)).1
    have y2 := (HX.out wc (Mod.refl _ _)).2
    go_upto_region 4 with fail
    go_region_held3 (fun w' => w'.cell? ⟨w.heap.size, 0, none⟩ = some (.int .i64 kind) /\ w'.cell? ⟨w.heap.size, 2, none⟩ = some (str s)) (go_keep)
     ((go_at_call 28; (try rw [tw]); refine (rhead_in kind (s.length : Int) HK.out.1 (by have := HK.out.2; omega) (by omega) (by have := hs64.out; omega) _).mono ?_; rintro e w3 ⟨rfl, hb3⟩; rw [Int.toNat_natCast]; have hx3 : Ext wc w3 := (by with_reducible refine Mod.trans ?_ hb3; (repeat (first | with_reducible assumption | with_reducible exact Mod.refl _ _ | with_reducible refine Mod.drew ?_))); have z0 := (HX.out w3 hx3).1; have z2 := (HX.out w3 hx3).2))
    all_goals go_wp2_with fail
    all_goals go_ret
    all_goals exact Ret.mk rfl (hX.out.1.trans hx3)
   .
    have hk4 : kind = 4 := by omega
    subst hk4
    clear HBy k0 k4 hkd HBL
    have K0 : (0 : Int) <= (k : Int) := by omega
    have K1 : (k : Int) < 9223372036854775808 := by have := hk.out; omega
    cases op
    .
     go_enter Tryz.func72, Tryz.ntmps72
     go_wp2_with fail
     refine (rhead_in 4 (k : Int) (by omega) (by omega) (by omega) (by have := hk.out; omega) _).mono ?_
     rintro e w2 ⟨rfl, hb2⟩
     rw [Int.toNat_natCast]
     have HE2 := hid (HE0.out.trans hb2)
     have HB2 := hid (HB.out.ext hb2)
     have c4 : w2.cell? ⟨w.heap.size, 4, none⟩ = some (.bool false) := HB2.out.cell 4
     clear hb2 K1
     go_wp2_with fail
     clear c4
     go_loopw [3, 4] (fun s3 s4 wr => ∃ i : Nat, i <= k /\ s4 = .int .i64 (i : Int) /\ s3 = str (pre 4 s false k ch i) /\ Hid (Ext w wr /\ Blk wr w.heap.size 86 #[.int .i64 4, .int .u64 (n : Int), str s, .slice A k c, .bool false])) (fun _ i _ => k - (intOf i).toNat)
     case atStart => exact ⟨0, Nat.zero_le _, rfl, by simp [pre, T.cat], HE2.out, HB2.out⟩
     case round =>
      obtain ⟨i, hi, rfl, rfl, hH⟩ := hrel
      have i0 : (0 : Int) <= (i : Int) := by omega
      have c3 : wr.cell? ⟨w.heap.size, 3, none⟩ = some (.slice A k c) := hH.out.2.cell 3
      have c4 : wr.cell? ⟨w.heap.size, 4, none⟩ = some (.bool false) := hH.out.2.cell 4
      have HP := hid (pre_le (op := false) hi HSZ.out)
      by_cases hlt : i < k
      .
       obtain ⟨b, o, Ai, ci, rfl, hb, ⟨k0, k1, k2, k3, k4⟩, hL⟩ := H.out.cells hH.out.1 hlt
       have i1 : (i : Int) < (k : Int) := by omega
       have ti : decide (i < k) = true := by simp [hlt]
       have HL := hid hL; have HLT := hid hlt
       have HOi : Hid (ch i).ok := by have := HO.out; unfold T.ok at this; exact this.2.2.2.2 i hlt
       have HZi : Hid ((ch i).size <= 100000) := Nat.le_trans (T.size_ch hlt) HSZ.out
       have HPS := hid (pre_succ 4 s false k ch i)
       have hno : (9223372036854775807 < (pre 4 s false k ch i).length + (ch i).bytes.length) = False := by
        have h1 := pre_le (op := false) (show i + 1 <= k by omega) HSZ.out
        rw [HPS.out, List.length_append] at h1
        simp; omega
       have hk2 : (k : Int) < 4611686018427387904 := by have := hk.out; omega
       clear hL hlt
       go_wp2_with fail
       refine (HI.out i HOi.out (hpc.out i HLT.out) HZi.out Ai ci _ HL.out).mono ?_
       rintro e w3 ⟨rfl, hb3⟩
       have HE3 := hid (hH.out.1.trans hb3)
       have HB3 := hid (hH.out.2.ext hb3)
       clear hb3
       go_wp2_with fail
       have hlt := HLT.out
       refine ⟨⟨i + 1, by omega, by simp, by rw [HPS.out]; exact str_app _ _, (show Hid _ from ⟨HE3.out, HB3.out⟩)⟩, ?_⟩
       simp only [intOf]; omega
      .
       obtain rfl : i = k := by omega
       have ti : decide (i < i) = false := by simp
       have HPE := hid (pre_end (n := n) (s := s) (op := false) (k := i) (ch := ch))
       have hno : (9223372036854775807 < (pre 4 s false i ch i).length + 1) = False := by have := HP.out; simp; omega
       go_wp2_with fail
       go_ret
       exact Ret.mk (by rw [HPE.out]; simp) hH.out.1
    .
     go_enter Tryz.func72, Tryz.ntmps72
     go_wp2_with fail
     refine (rhead_in 4 (k : Int) (by omega) (by omega) (by omega) (by have := hk.out; omega) _).mono ?_
     rintro e w2 ⟨rfl, hb2⟩
     rw [Int.toNat_natCast]
     have HE2 := hid (HE0.out.trans hb2)
     have HB2 := hid (HB.out.ext hb2)
     have c4 : w2.cell? ⟨w.heap.size, 4, none⟩ = some (.bool true) := HB2.out.cell 4
     clear hb2 K1
     go_wp2_with fail
     clear c4
     go_loopw [3, 4] (fun s3 s4 wr => ∃ i : Nat, i <= k /\ s4 = .int .i64 (i : Int) /\ s3 = str (pre 4 s true k ch i) /\ Hid (Ext w wr /\ Blk wr w.heap.size 86 #[.int .i64 4, .int .u64 (n : Int), str s, .slice A k c, .bool true])) (fun _ i _ => k - (intOf i).toNat)
     case atStart => exact ⟨0, Nat.zero_le _, rfl, by simp [pre, T.cat], HE2.out, HB2.out⟩
     case round =>
      obtain ⟨i, hi, rfl, rfl, hH⟩ := hrel
      have i0 : (0 : Int) <= (i : Int) := by omega
      have c3 : wr.cell? ⟨w.heap.size, 3, none⟩ = some (.slice A k c) := hH.out.2.cell 3
      have c4 : wr.cell? ⟨w.heap.size, 4, none⟩ = some (.bool true) := hH.out.2.cell 4
      have HP := hid (pre_le (op := true) hi HSZ.out)
      by_cases hlt : i < k
      .
       obtain ⟨b, o, Ai, ci, rfl, hb, ⟨k0, k1, k2, k3, k4⟩, hL⟩ := H.out.cells hH.out.1 hlt
       have i1 : (i : Int) < (k : Int) := by omega
       have ti : decide (i < k) = true := by simp [hlt]
       have HL := hid hL; have HLT := hid hlt
       have HOi : Hid (ch i).ok := by have := HO.out; unfold T.ok at this; exact this.2.2.2.2 i hlt
       have HZi : Hid ((ch i).size <= 100000) := Nat.le_trans (T.size_ch hlt) HSZ.out
       have HPS := hid (pre_succ 4 s true k ch i)
       have hno : (9223372036854775807 < (pre 4 s true k ch i).length + (ch i).bytes.length) = False := by
        have h1 := pre_le (op := true) (show i + 1 <= k by omega) HSZ.out
        rw [HPS.out, List.length_append] at h1
        simp; omega
       have hk2 : (k : Int) < 4611686018427387904 := by have := hk.out; omega
       clear hL hlt
       go_wp2_with fail
       refine (HI.out i HOi.out (hpc.out i HLT.out) HZi.out Ai ci _ HL.out).mono ?_
       rintro e w3 ⟨rfl, hb3⟩
       have HE3 := hid (hH.out.1.trans hb3)
       have HB3 := hid (hH.out.2.ext hb3)
       clear hb3
       go_wp2_with fail
       have hlt := HLT.out
       refine ⟨⟨i + 1, by omega, by simp, by rw [HPS.out]; exact str_app _ _, (show Hid _ from ⟨HE3.out, HB3.out⟩)⟩, ?_⟩
       simp only [intOf]; omega
      .
       obtain rfl : i = k := by omega
       have ti : decide (i < i) = false := by simp
       have HPE := hid (pre_end (n := n) (s := s) (op := true) (k := i) (ch := ch))
       have hno : (9223372036854775807 < (pre 4 s true i ch i).length + 1) = False := by have := HP.out; simp; omega
       go_wp2_with fail
       go_ret
       exact Ret.mk (by rw [HPE.out]; exact str_app _ [255]) hH.out.1
set_option maxRecDepth 20000 in
set_option maxHeartbeats 400000 in
theorem wBytes_any (l : List UInt8) (hl : Hid (l.length < 4611686018427387904)) (w : World) : Calls Tryz.prog 104 #[str l] w (Ret (str (headL 2 l.length ++ l)) w) := by
 have hw : IntKind.u64.wrap (l.length : Int) = (l.length : Int) := IntWalk.u64_in _ (by have := hl.out; omega)
 have hno : (9223372036854775807 < (headL 2 l.length).length + l.length) = False := by have h1 := hl.out; have h2 := headL_le 2 l.length; simp; omega
 go_enter Tryz.func104, Tryz.ntmps104
 go_wp2_with (go_at_call 103; refine (head_in _ _ (by omega) (by omega) (by omega) (by have := hl.out; omega) _).mono ?_; rintro x w1 ⟨rfl, hb⟩; simp only [Int.toNat_natCast, show Int.toNat 2 = 2 from rfl])
 go_ret
 exact Ret.mk (str_app _ _) hb
set_option maxRecDepth 20000 in
set_option maxHeartbeats 400000 in
theorem wText_any (l : List UInt8) (hl : Hid (l.length < 4611686018427387904)) (w : World) : Calls Tryz.prog 105 #[str l] w (Ret (str (headL 3 l.length ++ l)) w) := by
 have hw : IntKind.u64.wrap (l.length : Int) = (l.length : Int) := IntWalk.u64_in _ (by have := hl.out; omega)
 have hno : (9223372036854775807 < (headL 3 l.length).length + l.length) = False := by have h1 := hl.out; have h2 := headL_le 3 l.length; simp; omega
 go_enter Tryz.func105, Tryz.ntmps105
 go_wp2_with (go_at_call 103; refine (head_in _ _ (by omega) (by omega) (by omega) (by have := hl.out; omega) _).mono ?_; rintro x w1 ⟨rfl, hb⟩; simp only [Int.toNat_natCast, show Int.toNat 3 = 3 from rfl])
 go_ret
 exact Ret.mk (str_app _ _) hb
set_option maxRecDepth 20000 in
set_option maxHeartbeats 400000 in
theorem rBytes_any (l : List UInt8) (hl : Hid (l.length < 4611686018427387904)) (w : World) : Calls Tryz.prog 76 #[str l] w (Ret (str (headL 2 l.length ++ l)) w) := by
 have hw : IntKind.u64.wrap (l.length : Int) = (l.length : Int) := IntWalk.u64_in _ (by have := hl.out; omega)
 have hno : (9223372036854775807 < (headL 2 l.length).length + l.length) = False := by have h1 := hl.out; have h2 := headL_le 2 l.length; simp; omega
 go_enter Tryz.func76, Tryz.ntmps76
 go_wp2_with (go_at_call 28; refine (rhead_in _ _ (by omega) (by omega) (by omega) (by have := hl.out; omega) _).mono ?_; rintro x w1 ⟨rfl, hb⟩; simp only [Int.toNat_natCast, show Int.toNat 2 = 2 from rfl])
 go_ret
 exact Ret.mk (str_app _ _) hb
def IsC (w : World) (Q : Nat -> Prop) : T -> Option Addr -> Nat -> Prop
 | T.nil, A, c => False
 | T.mk _ _ _ _ k ch, A, c => k <= c /\ (0 < k -> ∃ b o, A = some ⟨b, o, none⟩ /\ b < w.heap.size /\ Q b /\ ∀ i, i < k -> ∃ Ai ci, At5 w b (o + i * 5) (ch i) Ai ci /\ IsC w Q (ch i) Ai ci)
theorem IsC.mod {w w' : World} {Q : Nat -> Prop} {S : List Nat} (hm : Mod S w w') (hs : ∀ k, Q k -> k < w.heap.size -> k ∉ S) (t : T) : ∀ {A : Option Addr} {c : Nat}, IsC w Q t A c -> IsC w' Q t A c := by
 induction t with
 | nil => intro A c h; cases h
 | mk kind n s op k ch ih =>
  rintro A c ⟨hc0, h⟩
  refine ⟨hc0, fun h0 => ?_⟩
  obtain ⟨b, o, hA, hb, hq, hc⟩ := h h0
  refine ⟨b, o, hA, Nat.lt_of_lt_of_le hb hm.size, hq, fun i hi => ?_⟩
  obtain ⟨Ai, ci, h1, h2⟩ := hc i hi
  exact ⟨Ai, ci, h1.mod hm hb (hs b hq hb), ih i h2⟩
theorem IsC.ext {w w' : World} {Q : Nat -> Prop} {t : T} {A : Option Addr} {c : Nat} (h : IsC w Q t A c) (hm : Ext w w') : IsC w' Q t A c := IsC.mod hm (by simp) t h
theorem IsC.weak {w : World} {Q R : Nat -> Prop} (hq : ∀ k, k < w.heap.size -> Q k -> R k) (t : T) : ∀ {A : Option Addr} {c : Nat}, IsC w Q t A c -> IsC w R t A c := by
 induction t with
 | nil => intro A c h; cases h
 | mk kind n s op k ch ih =>
  rintro A c ⟨hc0, h⟩
  refine ⟨hc0, fun h0 => ?_⟩
  obtain ⟨b, o, hA, hb, hq', hc⟩ := h h0
  refine ⟨b, o, hA, hb, hq b hb hq', fun i hi => ?_⟩
  obtain ⟨Ai, ci, h1, h2⟩ := hc i hi
  exact ⟨Ai, ci, h1, ih i h2⟩
theorem IsC.leaf {w : World} {Q : Nat -> Prop} {kind : Int} {n : Nat} {s : List UInt8} {op : Bool} {ch : Nat -> T} {A : Option Addr} {c : Nat} : IsC w Q (.mk kind n s op 0 ch) A c := ⟨Nat.zero_le _, fun h => by omega⟩
theorem IsC.isL {w : World} {Q : Nat -> Prop} (t : T) : ∀ {A : Option Addr} {c : Nat}, IsC w Q t A c -> IsL w Q t A := by
 induction t with
 | nil => intro A c h; cases h
 | mk kind n s op k ch ih =>
  rintro A c ⟨hc0, h⟩ h0
  obtain ⟨b, o, hA, hb, hq, hc⟩ := h h0
  refine ⟨b, o, hA, hb, hq, fun i hi => ?_⟩
  obtain ⟨Ai, ci, h1, h2⟩ := hc i hi
  exact ⟨Ai, ci, h1, ih i h2⟩
theorem room_cap {w : World} {base : Nat} {e : TypeId} {size : Nat} {A : Option Addr} {k c : Nat} {xs : List Value} (h : w.ownsRow base e size (.slice A k c) k xs) : k <= c := by
 rcases h.2 with ⟨_, h0⟩ | ⟨g, cap, cs, e1, _, _, h1, _⟩
 . omega
 .
  simp only [Value.slice.injEq] at e1
  omega
def Crc.x25 (l : List UInt8) : Nat := 65535 - Crc.divC 33800 65535 l
def Crc.cast (l : List UInt8) : Nat := 4294967295 - Crc.divC 2197175160 4294967295 l
def Crc.sumL (kind : Nat) (l : List UInt8) : List UInt8 := if kind = 1 then be (Crc.x25 l) 2 else if kind = 2 then be (Crc.cast l) 4 else []
theorem Size_any (k : Nat) (hk : k <= 2) (w : World) : Calls Tryz.prog 151 #[.int .i64 (k : Int)] w (Ret (.int .i64 ((2 * k : Nat) : Int)) w) := by
 go_enter Tryz.func151, Tryz.ntmps151
 go_wp2
 go_ret
 exact Ret.mk (by simp) (Mod.refl _ _)
theorem X25_any (l : List UInt8) (hl : Hid (l.length < 1000000)) (w : World) : Calls Tryz.prog 167 #[str l] w (Ret (.int .u16 (Crc.x25 l : Nat)) w) := by
 have hd : Crc.divC 33800 65535 l < 65536 := Crc.divC_lt (m := 16) (by decide) l 65535 (by decide) (by decide)
 have tx : bits .xor .u16 IntKind.u16.max (Crc.divC 33800 65535 l : Int) = ((65535 - Crc.divC 33800 65535 l : Nat) : Int) := by
  rw [Crc.not_xor (n := 16) hd]
  exact u16_xor_nat 65535 _ (by decide) hd
 have K := hid (fun W => divide16 33800 65535 (by unfold Hid; decide) (by unfold Hid; decide) l hl W)
 unfold Crc.x25
 generalize Crc.divC 33800 65535 l = d at *
 go_enter Tryz.func167, Tryz.ntmps167
 go_wp2_with fail
 refine (K.out _).mono ?_
 rintro e w1 ⟨rfl, hb1⟩
 go_wp2_with fail
 go_ret
 exact Ret.mk (by simp) hb1
theorem Castagnoli_any (l : List UInt8) (hl : Hid (l.length < 1000000)) (w : World) : Calls Tryz.prog 168 #[str l] w (Ret (.int .u32 (Crc.cast l : Nat)) w) := by
 have hd : Crc.divC 2197175160 4294967295 l < 4294967296 := Crc.divC_lt (m := 32) (by decide) l 4294967295 (by decide) (by decide)
 have tx : bits .xor .u32 IntKind.u32.max (Crc.divC 2197175160 4294967295 l : Int) = ((4294967295 - Crc.divC 2197175160 4294967295 l : Nat) : Int) := by
  rw [Crc.not_xor (n := 32) hd]
  exact u32_xor_nat 4294967295 _ (by decide) hd
 have K := hid (fun W => divide32 2197175160 4294967295 (by unfold Hid; decide) (by unfold Hid; decide) l hl W)
 unfold Crc.cast
 generalize Crc.divC 2197175160 4294967295 l = d at *
 go_enter Tryz.func168, Tryz.ntmps168
 go_wp2_with fail
 refine (K.out _).mono ?_
 rintro e w1 ⟨rfl, hb1⟩
 go_wp2_with fail
 go_ret
 exact Ret.mk (by simp) hb1
theorem be2 {n : Nat} (h : n < 65536) : be n 2 = [b8 (n / 256), b8 (n % 256)] := by
 have e : n / 256 % 256 = n / 256 := by omega
 rw [be_succ, be_succ, be_zero]
 simp [e]
theorem be4 {n : Nat} (h : n < 4294967296) : be n 4 = [b8 (n / 16777216), b8 (n / 65536 % 256), b8 (n / 256 % 256), b8 (n % 256)] := by
 have e : n / 16777216 % 256 = n / 16777216 := by omega
 rw [be_succ, be_succ, be_succ, be_succ, be_zero]
 simp [e]
theorem b8_cast {n : Nat} (h : n < 256) : ((b8 n).toNat : Int) = (n : Int) := by
 simp [b8]
 omega
theorem conv_new (l : List UInt8) (c : Nat) (W : World) : (convert 100 9 (.slice (some ⟨W.heap.size, 0, none⟩) l.length c)).run Tryz.prog (W.alloc (.cells (l.map fun b => Value.int .u8 (b.toNat : Int)).toArray 5)) = .ok (str l) (W.alloc (.cells (l.map fun b => Value.int .u8 (b.toNat : Int)).toArray 5)) := by
 refine run_convert_bytes_back (P := Tryz.prog) _ 100 9 5 _ c l vqB vqE vqD (fun j hj => ?_)
 rw [addr_add, Nat.zero_add, (Blk.new W 5 _).cell j]
 simp [hj]
theorem Sum_1 (l : List UInt8) (hl : Hid (l.length < 1000000)) (w : World) : Calls Tryz.prog 160 #[.int .i64 1, str l] w (Ret (str (be (Crc.x25 l) 2)) w) := by
 have hd : Crc.x25 l < 65536 := by unfold Crc.x25; omega
 have K := hid (fun W => X25_any l hl W)
 generalize Crc.x25 l = d at *
 have hcv : ∀ W : World, (convert 100 9 (.slice (some ⟨W.heap.size, 0, none⟩) 2 2)).run Tryz.prog (W.alloc (.cells #[.int .u8 ((d : Int) / 256), .int .u8 ((d : Int) % 256)] 5)) = .ok (str (be d 2)) (W.alloc (.cells #[.int .u8 ((d : Int) / 256), .int .u8 ((d : Int) % 256)] 5)) := fun W => by
  have := conv_new (be d 2) 2 W
  rw [be_length, be2 hd] at this
  simpa [b8_cast (show d / 256 < 256 by omega), b8_cast (show d % 256 < 256 by omega), be2 hd] using this
 go_enter Tryz.func160, Tryz.ntmps160
 go_wp2_with fail
 refine (K.out _).mono ?_
 rintro e w1 ⟨rfl, hb1⟩
 go_wp2_with fail
 go_ret
 exact Ret.mk rfl (hb1.alloc _)
theorem Sum_2 (l : List UInt8) (hl : Hid (l.length < 1000000)) (w : World) : Calls Tryz.prog 160 #[.int .i64 2, str l] w (Ret (str (be (Crc.cast l) 4)) w) := by
 have hd : Crc.cast l < 4294967296 := by unfold Crc.cast; omega
 have K := hid (fun W => Castagnoli_any l hl W)
 generalize Crc.cast l = d at *
 have hcv : ∀ W : World, (convert 100 9 (.slice (some ⟨W.heap.size, 0, none⟩) 4 4)).run Tryz.prog (W.alloc (.cells #[.int .u8 ((d : Int) / 16777216), .int .u8 ((d : Int) / 65536 % 256), .int .u8 ((d : Int) / 256 % 256), .int .u8 ((d : Int) % 256)] 5)) = .ok (str (be d 4)) (W.alloc (.cells #[.int .u8 ((d : Int) / 16777216), .int .u8 ((d : Int) / 65536 % 256), .int .u8 ((d : Int) / 256 % 256), .int .u8 ((d : Int) % 256)] 5)) := fun W => by
  have := conv_new (be d 4) 4 W
  rw [be_length, be4 hd] at this
  simpa [b8_cast (show d / 16777216 < 256 by omega), b8_cast (show d / 65536 % 256 < 256 by omega), b8_cast (show d / 256 % 256 < 256 by omega), b8_cast (show d % 256 < 256 by omega), be4 hd] using this
 go_enter Tryz.func160, Tryz.ntmps160
 go_wp2_with fail
 refine (K.out _).mono ?_
 rintro e w1 ⟨rfl, hb1⟩
 go_wp2_with fail
 go_ret
 exact Ret.mk rfl (hb1.alloc _)
theorem Sum_any (k : Nat) (h1 : 1 <= k) (h2 : k <= 2) (l : List UInt8) (hl : Hid (l.length < 1000000)) (w : World) : Calls Tryz.prog 160 #[.int .i64 (k : Int), str l] w (Ret (str (Crc.sumL k l)) w) := by
 have : k = 1 \/ k = 2 := by omega
 rcases this with rfl | rfl
 . exact Sum_1 l hl w
 . exact Sum_2 l hl w
theorem Crc.sumL_length {k : Nat} (h1 : 1 <= k) (h2 : k <= 2) (l : List UInt8) : (Crc.sumL k l).length = 2 * k := by
 have : k = 1 \/ k = 2 := by omega
 rcases this with rfl | rfl
 . exact be_length _ _
 . exact be_length _ _
theorem Crc.rv_succ : ∀ (i n : Nat), Crc.rv (i + 1) n = 2 * Crc.rv i n + n / 2 ^ i % 2
 | 0, n => by simp [Crc.rv]
 | i + 1, n => by
  have h := Crc.rv_succ i (n / 2)
  have e : n / 2 / 2 ^ i = n / 2 ^ (i + 1) := by rw [Nat.div_div_eq_div_mul, Nat.pow_succ, Nat.mul_comm]
  have e2 : 2 ^ (i + 1) * (n % 2) = 2 * (2 ^ i * (n % 2)) := by rw [Nat.pow_succ, Nat.mul_comm (2 ^ i) 2, Nat.mul_assoc]
  have e3 : Crc.rv (i + 1 + 1) n = 2 ^ (i + 1) * (n % 2) + Crc.rv (i + 1) (n / 2) := rfl
  have e4 : Crc.rv (i + 1) n = 2 ^ i * (n % 2) + Crc.rv i (n / 2) := rfl
  rw [e3, h, e4, e, e2]
  omega
set_option maxHeartbeats 400000 in
theorem turn_n (n : Nat) (hn : Hid (n < 4294967296)) (size : Nat) (hs : Hid (size <= 32)) (w : World) : Calls Tryz.prog 90 #[.int .u64 (n : Int), .int .i64 (size : Int)] w (Ret (.int .u64 (Crc.rv size n : Nat)) w) := by
 go_enter Tryz.func90, Tryz.ntmps90
 go_wp2
 go_loopw [0, 5, 6] (fun x o i wr => ∃ j : Nat, j <= size /\ i = .int .i64 j /\ o = .int .u64 ((Crc.rv j n : Nat) : Int) /\ x = .int .u64 ((n / 2 ^ j : Nat) : Int) /\ Ext w wr) (fun _ _ i _ => size - (intOf i).toNat)
 case atStart => exact ⟨0, Nat.zero_le _, rfl, rfl, by simp, Mod.refl _ _⟩
 case round =>
  obtain ⟨j, hj, rfl, rfl, rfl, hb⟩ := hrel
  by_cases hlt : j < size
  .
   have h32 := hs.out
   have HS := hid (Crc.rv_succ j n)
   have hx : n / 2 ^ (j + 1) = n / 2 ^ j / 2 := by rw [Nat.div_div_eq_div_mul, Nat.pow_succ]
   have HX := hid hx; clear hx
   have hr : Crc.rv j n < 4294967296 := Nat.lt_of_lt_of_le (Crc.rv_lt j n) (show 2 ^ j <= 2 ^ 32 from Nat.pow_le_pow_right (by omega) (by omega))
   have hq : n / 2 ^ j < 4294967296 := Nat.lt_of_le_of_lt (Nat.div_le_self _ _) hn.out
   generalize Crc.rv j n = r at *
   generalize n / 2 ^ j = q at *
   go_wp2
   go_roundw
   case rel => exact ⟨j + 1, by omega, by go_num, by rw [HS.out]; go_num, by rw [HX.out]; go_num, hb⟩
   case measure => simp [intOf]; omega
  .
   obtain rfl : j = size := by omega
   go_wp2
   go_ret
   exact ⟨rfl, hb⟩
set_option maxHeartbeats 400000 in
theorem divisor_16 (w : World) : Calls Tryz.prog 89 #[.int .i64 16] w (Ret (.int .u64 4129) w) := by
 go_enter Tryz.func89, Tryz.ntmps89
 go_wp2
 go_ret
 exact Ret.mk rfl (Mod.refl _ _)
def Crc.tab : List Nat := [28, 27, 26, 25, 23, 22, 20, 19, 18, 14, 13, 11, 10, 9, 8, 6, 0]
def Crc.dv (j : Nat) : Nat := ((Crc.tab.take j).map (2 ^ ·)).sum
theorem Crc.dv_succ : ∀ j : Fin 17, Crc.dv (j.val + 1) = Crc.dv j.val + 2 ^ (Crc.tab.getD j.val 0) /\ Crc.dv j.val <= 517762881 /\ Crc.tab.getD j.val 0 <= 28 := by decide
set_option maxHeartbeats 400000 in
theorem divisor_32 (w : World) : Calls Tryz.prog 89 #[.int .i64 32] w (Ret (.int .u64 517762881) w) := by
 go_enter Tryz.func89, Tryz.ntmps89
 go_wp2
 have hext := hid ((Mod.refl [] w).alloc (.cells ((Crc.tab.map fun (n : Nat) => Value.int .i64 (n : Int)).toArray) 143))
 have hcell : Hid (∀ j, j < 17 -> (w.alloc (.cells ((Crc.tab.map fun (n : Nat) => Value.int .i64 (n : Int)).toArray) 143)).cell? ⟨w.heap.size, j, none⟩ = some (.int .i64 ((Crc.tab.getD j 0 : Nat) : Int))) := fun j hj => by
  rw [(Blk.new w 143 _).cell j]
  have h : j < Crc.tab.length := hj
  simp [h]
 have hW : ∃ W, W = w.alloc (.cells ((Crc.tab.map fun (n : Nat) => Value.int .i64 (n : Int)).toArray) 143) := ⟨_, rfl⟩
 obtain ⟨W, hW⟩ := hW
 rw [<- hW] at hext hcell
 change Code.wp _ _ _ _ (w.alloc (.cells ((Crc.tab.map fun (n : Nat) => Value.int .i64 (n : Int)).toArray) 143))
 rw [<- hW]
 clear hW
 go_loop [3, 5, 6, 7] (fun n i p k => ∃ j : Nat, j <= 17 /\ i = .int .i64 j /\ n = .int .u64 ((Crc.dv j : Nat) : Int)) (fun _ i _ _ => 17 - (intOf i).toNat)
 case atStart => exact ⟨0, Nat.zero_le _, rfl, rfl⟩
 case round =>
  obtain ⟨j, hj, rfl, rfl⟩ := hrel
  by_cases hlt : j < 17
  .
   have hc := hcell.out j hlt
   obtain ⟨hd, hd2, ht⟩ := Crc.dv_succ ⟨j, hlt⟩
   simp only [] at hd hd2 ht
   have HD := hid hd; clear hd
   generalize Crc.tab.getD j 0 = t at *
   generalize Crc.dv j = d at *
   go_wp2
   go_loop [6, 7] (fun p k => ∃ i : Nat, i <= t /\ k = .int .i64 i /\ p = .int .u64 ((2 ^ i : Nat) : Int)) (fun _ k => t - (intOf k).toNat)
   case atStart => exact ⟨0, Nat.zero_le _, rfl, rfl⟩
   case round =>
    obtain ⟨i, hi, rfl, rfl⟩ := hrel
    have hp : 2 ^ i <= 268435456 := show 2 ^ i <= 2 ^ 28 from Nat.pow_le_pow_right (by omega) (by omega)
    by_cases hil : i < t
    .
     have HS := hid (Nat.pow_succ 2 i)
     generalize 2 ^ i = x at *
     go_wp2
     go_round
     case rel => exact ⟨i + 1, by omega, by go_num, by rw [HS.out]; go_num⟩
     case measure => simp [intOf]; omega
    .
     obtain rfl : i = t := by omega
     generalize 2 ^ i = x at *
     go_wp2
     go_round
     case rel => exact ⟨j + 1, by omega, by go_num, by rw [HD.out]; go_num⟩
     case measure => simp [intOf]; omega
  .
   obtain rfl : j = 17 := by omega
   go_wp2
   go_ret
   have e : Crc.dv 17 = 517762881 := by decide
   refine ⟨?_, hext.out⟩
   show Ending.returned (.int .u64 ((Crc.dv 17 : Nat) : Int)) = _
   rw [e]; rfl
end Go.Proofs.YthecmnbkjchjmaaGreat
