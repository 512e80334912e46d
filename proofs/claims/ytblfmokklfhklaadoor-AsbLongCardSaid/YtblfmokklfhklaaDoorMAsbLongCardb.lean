/-
  Items: right ones, few ones; the reference's bytes.
  The walks of cbor.Bytes, cbor.Text and of the reference's.
  Items: the code's Right, Build and Same.
  Items: the code's Build and Same.
  A right name's item, by the code and by the reference.
  Sums against chance, plainly: the code's (bits turned about, a byte at a time) and the reference's (bits in a row) are the same.
  Lists of items, plainly; a primary's items and bytes; why it is not right.
  Security texts, plainly: what is right; their items.
  Regions that draw their order, whose operations read and whose callees turn nothing that was there: walked once, in the order of the text.
  Later worlds: nothing that was there has turned; drawn regions of quiet operations over them.
  Rows of elements of a fixed number of cells, plainly.
  Security texts: rows of numbers and of pairs in memory; numbers that are coded, and unlike.
  A row of items of the call's own: its form, in a later world; what is appended to it.
  Security texts: numbers that are unlike; pairs that may be.
  Bundles in memory.
  Why a block is not right, as the code and the reference tell it.
  Bundles: the first block of a type, as the code finds it.
  Rows of blocks of the call's own: their cells; what is appended to them.
  Security texts: lists of pairs that may be.
  Security texts that are right but for their length.
-/
import Derived.Test.YtblfmokklfhklaaDoorMAsbLongCarda
import Init
import Derived.Laws.Rows
import Derived.Deep.Quiet
import Derived.Deep.MidRow
import Derived.Deep.RegionHeld3
import Derived.Laws.OwnMore
import Derived.OwnWalk
import Derived.OneCell
import Derived.Deep.AppendLies
import Derived.Deep.RegionLaw
import Derived.Shelf.Abstract

namespace Go.Proofs.YtblfmokklfhklaaDoor
open Go.RowKit
set_option linter.unusedVariables false
set_option linter.unusedSimpArgs false

def few (t : T) (m : Nat) : Bool := decide (t.deep 9 ≤ 9) && decide (t.count m ≤ m)
theorem few_size {t : T} {m : Nat} (h : few t m = true) : t.size ≤ m ∧ t.deep 9 ≤ 9 := by
  unfold few at h
  simp at h
  rw [T.count_size t m h.2]
  exact ⟨h.2, h.1⟩

/-- What has been written of an array after its first j items. -/
def pre (kind : Int) (s : List UInt8) (op : Bool) (k : Nat) (ch : Nat → T) (j : Nat) : List UInt8 := (if op then [159] else headL 4 k) ++ T.cat (fun i => (ch i).bytes) j

theorem T.cat_mono {f : Nat → List UInt8} {j k : Nat} (h : j ≤ k) : (T.cat f j).length ≤ (T.cat f k).length := by
  induction k with
  | zero => have : j = 0 := by omega
            subst this; exact Nat.le_refl _
  | succ k ih =>
    by_cases e : j = k + 1
    · subst e; exact Nat.le_refl _
    · have := ih (by omega)
      rw [T.cat, List.length_append]; omega
theorem pre_succ (kind : Int) (s : List UInt8) (op : Bool) (k : Nat) (ch : Nat → T) (j : Nat) : pre kind s op k ch (j + 1) = pre kind s op k ch j ++ (ch j).bytes := by
  unfold pre; rw [T.cat, List.append_assoc]
theorem pre_le {n : Nat} {s : List UInt8} {op : Bool} {k : Nat} {ch : Nat → T} {j : Nat} (hj : j ≤ k) (h : (T.mk 4 n s op k ch).size ≤ 100000) : (pre 4 s op k ch j).length ≤ 1000000 := by
  have h1 := T.bytes_le (.mk 4 n s op k ch)
  have h2 : (T.mk 4 n s op k ch).bytes = (if op then [159] else headL 4 k) ++ (T.cat (fun i => (ch i).bytes) k ++ (if op then [255] else [])) := rfl
  have h3 := T.cat_mono (f := fun i => (ch i).bytes) hj
  rw [h2, List.length_append, List.length_append] at h1
  unfold pre
  rw [List.length_append]
  omega
theorem pre_end {n : Nat} {s : List UInt8} {op : Bool} {k : Nat} {ch : Nat → T} : (T.mk 4 n s op k ch).bytes = pre 4 s op k ch k ++ (if op then [255] else []) := by
  have h2 : (T.mk 4 n s op k ch).bytes = (if op then [159] else headL 4 k) ++ (T.cat (fun i => (ch i).bytes) k ++ (if op then [255] else [])) := rfl
  rw [h2, pre, List.append_assoc]

set_option maxRecDepth 20000 in
set_option maxHeartbeats 3200000 in
theorem rBytesI_any (t : T) : t.ok → t.plain = true → t.size ≤ 100000 → ∀ A c w, IsL w (fun _ => True) t A →
    Calls Tryd.prog 12 #[itemV t A c] w (Ret (str t.bytes) w) := by
  induction t with
  | nil => intro hok; cases hok
  | mk kind n s op k ch ih =>
    intro hok hpl hsz A c w h
    have H := hid h; have HO := hid hok; have HPL := hid hpl; have HSZ := hid hsz
    have HI := hid ih
    have hk : Hid (k < 4611686018427387904) := by unfold T.ok at hok; exact hok.2.2.2.1
    have hn64 : Hid (n < 18446744073709551616) := by unfold T.ok at hok; exact hok.2.1
    have hs64 : Hid (s.length < 4611686018427387904) := by unfold T.ok at hok; exact hok.2.2.1
    have hkd : kind = 0 ∨ kind = 2 ∨ kind = 3 ∨ kind = 4 := by unfold T.plain at hpl; rw [Bool.and_eq_true] at hpl; exact T.node_kind hpl.1
    have hpc : Hid (∀ i, i < k → (ch i).plain = true) := by unfold T.plain at hpl; rw [Bool.and_eq_true, T.all_iff] at hpl; exact hpl.2
    have HBL := hid (T.bytes_le (.mk kind n s op k ch))
    have hBy : (T.mk kind n s op k ch).bytes = if kind = 0 then headL 0 n else if kind < 4 then headL kind.toNat s.length ++ s else (if op then [159] else headL 4 k) ++ (T.cat (fun i => (ch i).bytes) k ++ (if op then [255] else [])) := rfl
    have HBy := hid hBy
    show Calls Tryd.prog 12 #[.agg #[.int .i64 kind, .int .u64 (n : Int), str s, .slice A k c, .bool op]] w (Ret (str (T.mk kind n s op k ch).bytes) w)
    have HB : Hid (Blk (w.alloc (.cells #[.int .i64 kind, .int .u64 (n : Int), str s, .slice A k c, .bool op] 36)) w.heap.size 36 #[.int .i64 kind, .int .u64 (n : Int), str s, .slice A k c, .bool op]) := Blk.new _ _ _
    have HE0 := hid ((Mod.refl [] w).alloc (.cells #[.int .i64 kind, .int .u64 (n : Int), str s, .slice A k c, .bool op] 36))
    clear h hok hpl hsz ih hBy
    by_cases k0 : kind = 0
    · subst k0
      rw [HBy.out, if_pos rfl]
      go_enter Tryd.func12, Tryd.ntmps12
      go_wp2_with fail
      refine (rhead_in 0 n (by omega) (by omega) (by omega) (by have := hn64.out; omega) _).mono ?_
      rintro e w2 ⟨rfl, hb2⟩
      go_wp2_with fail
      go_ret
      exact Ret.mk rfl (HE0.out.trans hb2)
    · by_cases k4 : kind < 4
      · rw [HBy.out, if_neg k0, if_pos k4]
        have b0 : (kind == 0) = false := by simp [k0]
        have b1 : (kind = 0) = False := by simp [k0]
        have b2 : decide (kind < 4) = true := by simp [k4]
        have HK : Hid (0 ≤ kind ∧ kind ≤ 3) := by unfold Hid; omega
        have s0 : (s.length : Int) < 9223372036854775808 := by have := hs64.out; omega
        have hno : (9223372036854775807 < (headL kind.toNat s.length).length + s.length) = False := by have := headL_le kind.toNat s.length; have := hs64.out; simp; omega
        clear k0 k4 hkd
        go_enter Tryd.func12, Tryd.ntmps12
        go_upto_region 1 with fail
        go_cut [5, 6, 7] (fun s5 s6 s7 wx => s7 = .bool false ∧ Hid (Ext w wx ∧ Blk wx w.heap.size 36 #[.int .i64 kind, .int .u64 (n : Int), str s, .slice A k c, .bool op]))
        case first =>
          go_wp2_with fail
          go_meet
          exact ⟨rfl, HE0.out, HB.out⟩
        obtain ⟨rfl, hX⟩ := hcut
        have HX : Hid (∀ W, Ext wc W → W.cell? ⟨w.heap.size, 0, none⟩ = some (.int .i64 kind) ∧ W.cell? ⟨w.heap.size, 2, none⟩ = some (str s)) := fun W hW => ⟨(hX.out.2.ext hW).cell 0, (hX.out.2.ext hW).cell 2⟩
        have tw : IntKind.u64.wrap (s.length : Int) = (s.length : Int) := IntWalk.u64_in _ (by have := hs64.out; omega)
        have y0 := (HX.out wc (Mod.refl _ _)).1
        have y2 := (HX.out wc (Mod.refl _ _)).2
        go_upto_region 4 with fail
        go_region_held3 (fun w' => w'.cell? ⟨w.heap.size, 0, none⟩ = some (.int .i64 kind) ∧ w'.cell? ⟨w.heap.size, 2, none⟩ = some (str s)) (go_keep)
          ((go_at_call 11; (try rw [tw]); refine (rhead_in kind (s.length : Int) HK.out.1 (by have := HK.out.2; omega) (by omega) (by have := hs64.out; omega) _).mono ?_; rintro e w3 ⟨rfl, hb3⟩; rw [Int.toNat_natCast]; have hx3 : Ext wc w3 := (by with_reducible refine Mod.trans ?_ hb3; (repeat (first | with_reducible assumption | with_reducible exact Mod.refl _ _ | with_reducible refine Mod.drew ?_))); have z0 := (HX.out w3 hx3).1; have z2 := (HX.out w3 hx3).2))
        all_goals go_wp2_with fail
        all_goals go_ret
        all_goals exact Ret.mk rfl (hX.out.1.trans hx3)
      · have hk4 : kind = 4 := by omega
        subst hk4
        clear HBy k0 k4 hkd HBL
        have K0 : (0 : Int) ≤ (k : Int) := by omega
        have K1 : (k : Int) < 9223372036854775808 := by have := hk.out; omega
        cases op
        · go_enter Tryd.func12, Tryd.ntmps12
          go_wp2_with fail
          refine (rhead_in 4 (k : Int) (by omega) (by omega) (by omega) (by have := hk.out; omega) _).mono ?_
          rintro e w2 ⟨rfl, hb2⟩
          rw [Int.toNat_natCast]
          have HE2 := hid (HE0.out.trans hb2)
          have HB2 := hid (HB.out.ext hb2)
          have c4 : w2.cell? ⟨w.heap.size, 4, none⟩ = some (.bool false) := HB2.out.cell 4
          clear hb2 K1
          go_wp2_with fail
          clear c4
          go_loopw [3, 4] (fun s3 s4 wr => ∃ i : Nat, i ≤ k ∧ s4 = .int .i64 (i : Int) ∧ s3 = str (pre 4 s false k ch i) ∧ Hid (Ext w wr ∧ Blk wr w.heap.size 36 #[.int .i64 4, .int .u64 (n : Int), str s, .slice A k c, .bool false])) (fun _ i _ => k - (intOf i).toNat)
          case atStart => exact ⟨0, Nat.zero_le _, rfl, by simp [pre, T.cat], HE2.out, HB2.out⟩
          case round =>
            obtain ⟨i, hi, rfl, rfl, hH⟩ := hrel
            have i0 : (0 : Int) ≤ (i : Int) := by omega
            have c3 : wr.cell? ⟨w.heap.size, 3, none⟩ = some (.slice A k c) := hH.out.2.cell 3
            have c4 : wr.cell? ⟨w.heap.size, 4, none⟩ = some (.bool false) := hH.out.2.cell 4
            have HP := hid (pre_le (op := false) hi HSZ.out)
            by_cases hlt : i < k
            · obtain ⟨b, o, Ai, ci, rfl, hb, ⟨k0, k1, k2, k3, k4⟩, hL⟩ := H.out.cells hH.out.1 hlt
              have i1 : (i : Int) < (k : Int) := by omega
              have ti : decide (i < k) = true := by simp [hlt]
              have HL := hid hL; have HLT := hid hlt
              have HOi : Hid (ch i).ok := by have := HO.out; unfold T.ok at this; exact this.2.2.2.2 i hlt
              have HZi : Hid ((ch i).size ≤ 100000) := Nat.le_trans (T.size_ch hlt) HSZ.out
              have HPS := hid (pre_succ 4 s false k ch i)
              have hno : (9223372036854775807 < (pre 4 s false k ch i).length + (ch i).bytes.length) = False := by
                have h1 := pre_le (op := false) (show i + 1 ≤ k by omega) HSZ.out
                rw [HPS.out, List.length_append] at h1
                simp; omega
              have hk2 : (k : Int) < 4611686018427387904 := by have := hk.out; omega
              clear hL hlt
              go_wp2_with fail
              refine (HI.out i HOi.out (hpc.out i HLT.out) HZi.out Ai ci _ HL.out).mono ?_
              rintro e w3 ⟨rfl, hb3⟩
              have HE3 := hid (hH.out.1.trans hb3)
              have HB3 := hid (hH.out.2.ext hb3)
              clear hb3
              go_wp2_with fail
              have hlt := HLT.out
              refine ⟨⟨i + 1, by omega, by simp, by rw [HPS.out]; exact str_app _ _, (show Hid _ from ⟨HE3.out, HB3.out⟩)⟩, ?_⟩
              simp only [intOf]; omega
            · obtain rfl : i = k := by omega
              have ti : decide (i < i) = false := by simp
              have HPE := hid (pre_end (n := n) (s := s) (op := false) (k := i) (ch := ch))
              have hno : (9223372036854775807 < (pre 4 s false i ch i).length + 1) = False := by have := HP.out; simp; omega
              go_wp2_with fail
              go_ret
              exact Ret.mk (by rw [HPE.out]; simp) hH.out.1
        · go_enter Tryd.func12, Tryd.ntmps12
          go_wp2_with fail
          refine (rhead_in 4 (k : Int) (by omega) (by omega) (by omega) (by have := hk.out; omega) _).mono ?_
          rintro e w2 ⟨rfl, hb2⟩
          rw [Int.toNat_natCast]
          have HE2 := hid (HE0.out.trans hb2)
          have HB2 := hid (HB.out.ext hb2)
          have c4 : w2.cell? ⟨w.heap.size, 4, none⟩ = some (.bool true) := HB2.out.cell 4
          clear hb2 K1
          go_wp2_with fail
          clear c4
          go_loopw [3, 4] (fun s3 s4 wr => ∃ i : Nat, i ≤ k ∧ s4 = .int .i64 (i : Int) ∧ s3 = str (pre 4 s true k ch i) ∧ Hid (Ext w wr ∧ Blk wr w.heap.size 36 #[.int .i64 4, .int .u64 (n : Int), str s, .slice A k c, .bool true])) (fun _ i _ => k - (intOf i).toNat)
          case atStart => exact ⟨0, Nat.zero_le _, rfl, by simp [pre, T.cat], HE2.out, HB2.out⟩
          case round =>
            obtain ⟨i, hi, rfl, rfl, hH⟩ := hrel
            have i0 : (0 : Int) ≤ (i : Int) := by omega
            have c3 : wr.cell? ⟨w.heap.size, 3, none⟩ = some (.slice A k c) := hH.out.2.cell 3
            have c4 : wr.cell? ⟨w.heap.size, 4, none⟩ = some (.bool true) := hH.out.2.cell 4
            have HP := hid (pre_le (op := true) hi HSZ.out)
            by_cases hlt : i < k
            · obtain ⟨b, o, Ai, ci, rfl, hb, ⟨k0, k1, k2, k3, k4⟩, hL⟩ := H.out.cells hH.out.1 hlt
              have i1 : (i : Int) < (k : Int) := by omega
              have ti : decide (i < k) = true := by simp [hlt]
              have HL := hid hL; have HLT := hid hlt
              have HOi : Hid (ch i).ok := by have := HO.out; unfold T.ok at this; exact this.2.2.2.2 i hlt
              have HZi : Hid ((ch i).size ≤ 100000) := Nat.le_trans (T.size_ch hlt) HSZ.out
              have HPS := hid (pre_succ 4 s true k ch i)
              have hno : (9223372036854775807 < (pre 4 s true k ch i).length + (ch i).bytes.length) = False := by
                have h1 := pre_le (op := true) (show i + 1 ≤ k by omega) HSZ.out
                rw [HPS.out, List.length_append] at h1
                simp; omega
              have hk2 : (k : Int) < 4611686018427387904 := by have := hk.out; omega
              clear hL hlt
              go_wp2_with fail
              refine (HI.out i HOi.out (hpc.out i HLT.out) HZi.out Ai ci _ HL.out).mono ?_
              rintro e w3 ⟨rfl, hb3⟩
              have HE3 := hid (hH.out.1.trans hb3)
              have HB3 := hid (hH.out.2.ext hb3)
              clear hb3
              go_wp2_with fail
              have hlt := HLT.out
              refine ⟨⟨i + 1, by omega, by simp, by rw [HPS.out]; exact str_app _ _, (show Hid _ from ⟨HE3.out, HB3.out⟩)⟩, ?_⟩
              simp only [intOf]; omega
            · obtain rfl : i = k := by omega
              have ti : decide (i < i) = false := by simp
              have HPE := hid (pre_end (n := n) (s := s) (op := true) (k := i) (ch := ch))
              have hno : (9223372036854775807 < (pre 4 s true i ch i).length + 1) = False := by have := HP.out; simp; omega
              go_wp2_with fail
              go_ret
              exact Ret.mk (by rw [HPE.out]; exact str_app _ [255]) hH.out.1
end Go.Proofs.YtblfmokklfhklaaDoor


namespace Go.Proofs.YtblfmokklfhklaaDoor
open Go.RowKit
set_option linter.unusedVariables false
set_option linter.unusedSimpArgs false

set_option maxRecDepth 20000 in
set_option maxHeartbeats 400000 in
theorem wBytes_any (l : List UInt8) (hl : Hid (l.length < 4611686018427387904)) (w : World) : Calls Tryd.prog 61 #[str l] w (Ret (str (headL 2 l.length ++ l)) w) := by
  have hw : IntKind.u64.wrap (l.length : Int) = (l.length : Int) := IntWalk.u64_in _ (by have := hl.out; omega)
  have hno : (9223372036854775807 < (headL 2 l.length).length + l.length) = False := by have h1 := hl.out; have h2 := headL_le 2 l.length; simp; omega
  go_enter Tryd.func61, Tryd.ntmps61
  go_wp2_with (go_at_call 60; refine (head_in _ _ (by omega) (by omega) (by omega) (by have := hl.out; omega) _).mono ?_; rintro x w1 ⟨rfl, hb⟩; simp only [Int.toNat_natCast, show Int.toNat 2 = 2 from rfl])
  go_ret
  exact Ret.mk (str_app _ _) hb

set_option maxRecDepth 20000 in
set_option maxHeartbeats 400000 in
theorem wText_any (l : List UInt8) (hl : Hid (l.length < 4611686018427387904)) (w : World) : Calls Tryd.prog 62 #[str l] w (Ret (str (headL 3 l.length ++ l)) w) := by
  have hw : IntKind.u64.wrap (l.length : Int) = (l.length : Int) := IntWalk.u64_in _ (by have := hl.out; omega)
  have hno : (9223372036854775807 < (headL 3 l.length).length + l.length) = False := by have h1 := hl.out; have h2 := headL_le 3 l.length; simp; omega
  go_enter Tryd.func62, Tryd.ntmps62
  go_wp2_with (go_at_call 60; refine (head_in _ _ (by omega) (by omega) (by omega) (by have := hl.out; omega) _).mono ?_; rintro x w1 ⟨rfl, hb⟩; simp only [Int.toNat_natCast, show Int.toNat 3 = 3 from rfl])
  go_ret
  exact Ret.mk (str_app _ _) hb

end Go.Proofs.YtblfmokklfhklaaDoor


namespace Go.Proofs.YtblfmokklfhklaaDoor
open Go.RowKit
set_option linter.unusedVariables false
set_option linter.unusedSimpArgs false

theorem T.leaf_all {kind : Int} {n : Nat} {s : List UInt8} {op : Bool} {k : Nat} {f : Nat → Bool} (h : kind ≠ 4) : (T.node kind n s op k && T.all f k) = T.node kind n s op k := by
  cases hn : T.node kind n s op k with
  | false => rfl
  | true =>
    unfold T.node at hn
    by_cases a : kind = 0
    · rw [if_pos a] at hn; simp at hn; rw [hn.1.2]; rfl
    · rw [if_neg a] at hn
      by_cases b : kind = 2 ∨ kind = 3
      · rw [if_pos b] at hn; simp at hn; rw [hn.1.2]; rfl
      · rw [if_neg b, if_neg h] at hn; cases hn

set_option maxRecDepth 20000 in
set_option maxHeartbeats 3200000 in
theorem right_any (t : T) : ∀ (d : Nat), d ≤ 9 → t.ok → ∀ A c w, IsL w (fun _ => True) t A →
    Calls Tryd.prog 59 #[itemV t A c, .int .i64 (d : Int)] w (Ret (.bool (t.right d)) w) := by
  induction t with
  | nil => intro m _ hok; cases hok
  | mk kind n s op k ch ih =>
    intro d hd hok A c w h
    have H := hid h; have HO := hid hok; have HD := hid hd
    have HI := hid ih
    have d0 : (0 : Int) ≤ (d : Int) := by omega
    have d1 : (d : Int) ≤ 9 := by omega
    have hk : Hid (k < 4611686018427387904) := by unfold T.ok at hok; exact hok.2.2.2.1
    have HR : Hid ((T.mk kind n s op k ch).right d = if d < 1 then false else T.node kind n s op k && T.all (fun i => (ch i).right (d - 1)) k) := rfl
    show Calls Tryd.prog 59 #[.agg #[.int .i64 kind, .int .u64 (n : Int), str s, .slice A k c, .bool op], .int .i64 (d : Int)] w (Ret (.bool ((T.mk kind n s op k ch).right d)) w)
    have HE0 := hid ((Mod.refl [] w).alloc (.cells #[.int .i64 kind, .int .u64 (n : Int), str s, .slice A k c, .bool op] 36))
    clear h hok ih hd
    by_cases hd0 : d < 1
    · obtain rfl : d = 0 := by omega
      rw [HR.out, if_pos (by omega)]
      go_enter Tryd.func59, Tryd.ntmps59
      go_wp2
      go_ret
      exact Ret.mk rfl HE0.out
    · rw [HR.out, if_neg hd0]
      have HD1 : Hid (1 ≤ d) := by unfold Hid; omega
      have td : decide ((d : Int) < 1) = false := by simp; omega
      have td2 : (d < 1) = False := by simp [hd0]
      have td3 : (d = 0) = False := by simp; omega
      have bs : s ≠ [] → (s == []) = false := fun h => by simp [h]
      have bS : s ≠ [] → (s = []) = False := fun h => by simp [h]
      have bn : n ≠ 0 → ((n : Int) == 0) = false := fun h => by simp [h]
      have bN : n ≠ 0 → (n = 0) = False := fun h => by simp [h]
      have bk : k ≠ 0 → ((k : Int) == 0) = false := fun h => by simp [h]
      have q1 : k ≠ 0 → (k = 0) = False := fun h => by simp [h]
      clear hd0
      by_cases a0 : kind = 0
      · subst a0
        go_enter Tryd.func59, Tryd.ntmps59
        by_cases hs : s = []
        · subst hs
          by_cases hk0 : k = 0
          · subst hk0
            cases op
            · skip
              go_wp2_with fail
              go_ret
              exact Ret.mk (by rw [T.leaf_all (by omega)]; simp [T.node]) HE0.out
            · skip
              go_wp2_with fail
              go_ret
              exact Ret.mk (by rw [T.leaf_all (by omega)]; simp [T.node]) HE0.out
          · have bk := bk hk0; have q1 := q1 hk0
            go_wp2_with fail
            go_ret
            exact Ret.mk (by rw [T.leaf_all (by omega)]; simp [T.node, hk0]) HE0.out
        · have bs := bs hs; have bS := bS hs
          go_wp2_with fail
          go_ret
          exact Ret.mk (by rw [T.leaf_all (by omega)]; simp [T.node, hs]) HE0.out
      · skip
        by_cases a2 : kind = 2
        · subst a2
          go_enter Tryd.func59, Tryd.ntmps59
          have hn : n = 0 ∨ n ≠ 0 := by omega
          rcases hn with rfl | hn
          · skip
            by_cases hk0 : k = 0
            · subst hk0
              cases op
              · skip
                go_wp2_with fail
                go_ret
                exact Ret.mk (by rw [T.leaf_all (by omega)]; simp [T.node]) HE0.out
              · skip
                go_wp2_with fail
                go_ret
                exact Ret.mk (by rw [T.leaf_all (by omega)]; simp [T.node]) HE0.out
            · have bk := bk hk0; have q1 := q1 hk0
              go_wp2_with fail
              go_ret
              exact Ret.mk (by rw [T.leaf_all (by omega)]; simp [T.node, hk0]) HE0.out
          · have bn := bn hn; have bN := bN hn
            go_wp2_with fail
            go_ret
            exact Ret.mk (by rw [T.leaf_all (by omega)]; simp [T.node, hn]) HE0.out
        · skip
          by_cases a3 : kind = 3
          · subst a3
            go_enter Tryd.func59, Tryd.ntmps59
            have hn : n = 0 ∨ n ≠ 0 := by omega
            rcases hn with rfl | hn
            · skip
              by_cases hk0 : k = 0
              · subst hk0
                cases op
                · skip
                  go_wp2_with fail
                  go_ret
                  exact Ret.mk (by rw [T.leaf_all (by omega)]; simp [T.node]) HE0.out
                · skip
                  go_wp2_with fail
                  go_ret
                  exact Ret.mk (by rw [T.leaf_all (by omega)]; simp [T.node]) HE0.out
              · have bk := bk hk0; have q1 := q1 hk0
                go_wp2_with fail
                go_ret
                exact Ret.mk (by rw [T.leaf_all (by omega)]; simp [T.node, hk0]) HE0.out
            · have bn := bn hn; have bN := bN hn
              go_wp2_with fail
              go_ret
              exact Ret.mk (by rw [T.leaf_all (by omega)]; simp [T.node, hn]) HE0.out
          · skip
            have e0 : (kind == 0) = false := by simp [a0]
            have e2 : (kind == 2) = false := by simp [a2]
            have e3 : (kind == 3) = false := by simp [a3]
            have f0 : (kind = 0) = False := by simp [a0]
            have f2 : (kind = 2) = False := by simp [a2]
            have f3 : (kind = 3) = False := by simp [a3]
            by_cases a4 : kind = 4
            · subst a4
              clear e0 e2 e3 f0 f2 f3 a0 a2 a3
              go_enter Tryd.func59, Tryd.ntmps59
              have hn : n = 0 ∨ n ≠ 0 := by omega
              rcases hn with rfl | hn
              · by_cases hs : s = []
                · subst hs
                  by_cases hk1 : 1000 < k
                  · have bK : decide (1000 < k) = true := by simp [hk1]
                    have z1 : decide (k ≤ 1000) = false := by simp; omega
                    go_wp2_with fail
                    go_ret
                    exact Ret.mk (by simp [T.node, z1]) HE0.out
                  · have bK : decide (1000 < k) = false := by simp; omega
                    have z1 : decide (k ≤ 1000) = true := by simp; omega
                    have HND : Hid (T.node 4 0 [] op k = true) := by unfold Hid; simp [T.node, z1]
                    have bK3 : (1000 < k) = False := by simp; omega
                    go_wp2_with fail
                    clear hk1 z1 bK bK3
                    go_loopw [63] (fun s63 wr => ∃ i : Nat, i ≤ k ∧ s63 = .int .i64 (i : Int) ∧ Hid (Ext w wr ∧ T.all (fun i => (ch i).right (d - 1)) i = true)) (fun i _ => k - (intOf i).toNat)
                    case atStart => exact ⟨0, Nat.zero_le _, rfl, HE0.out, rfl⟩
                    case round =>
                      obtain ⟨i, hi, rfl, hX⟩ := hrel
                      have i0 : (0 : Int) ≤ (i : Int) := by omega
                      by_cases hlt : i < k
                      · obtain ⟨b, o, Ai, ci, rfl, hb, ⟨k0, k1, k2, k3, k4⟩, hL⟩ := H.out.cells hX.out.1 hlt
                        have i1 : (i : Int) < (k : Int) := by omega
                        have hk2 : (k : Int) < 4611686018427387904 := by have := hk.out; omega
                        have ti : decide (i < k) = true := by simp [hlt]
                        have ha : (d : Int) - 1 = ((d - 1 : Nat) : Int) := by have := HD1.out; omega
                        have HL := hid hL; have HLT := hid hlt
                        have HOi : Hid (ch i).ok := by have := HO.out; unfold T.ok at this; exact this.2.2.2.2 i hlt
                        clear hL hlt
                        go_wp2_with fail
                        have HEa := hid ((Mod.refl [] wr).alloc (.cells (itemC (ch i) Ai ci) 36))
                        refine (HI.out i (d - 1) (by have := HD.out; omega) HOi.out Ai ci _ (HL.out.ext HEa.out)).mono ?_
                        rintro e w3 ⟨rfl, hb3⟩
                        have HE3 := hid ((hX.out.1.trans HEa.out).trans hb3)
                        clear hb3
                        cases hpl : (ch i).right (d - 1)
                        · have hno : T.all (fun i => (ch i).right (d - 1)) k = false := by
                            have hlt := HLT.out
                            cases hh : T.all (fun i => (ch i).right (d - 1)) k with
                            | false => rfl
                            | true => have := T.all_iff.1 hh i hlt; rw [hpl] at this; cases this
                          have HNO := hid hno
                          clear hno hpl
                          go_wp2_with fail
                          go_ret
                          exact Ret.mk (by rw [HND.out, HNO.out]; rfl) HE3.out
                        · have HPL := hid hpl
                          clear hpl
                          go_wp2_with fail
                          have hlt := HLT.out
                          refine ⟨⟨i + 1, by omega, by simp, (show Hid _ from ⟨HE3.out, by rw [T.all, hX.out.2, HPL.out]; rfl⟩)⟩, ?_⟩
                          simp only [intOf]; omega
                      · obtain rfl : i = k := by omega
                        have ti : decide (i < i) = false := by simp
                        go_wp2_with fail
                        go_ret
                        exact Ret.mk (by rw [HND.out, hX.out.2]; rfl) hX.out.1
                · have bs := bs hs; have bS := bS hs
                  go_wp2_with fail
                  go_ret
                  exact Ret.mk (by simp [T.node, hs]) HE0.out
              · have bn := bn hn; have bN := bN hn
                go_wp2_with fail
                go_ret
                exact Ret.mk (by simp [T.node, hn]) HE0.out
            · have e4 : (kind == 4) = false := by simp [a4]
              have f4 : (kind = 4) = False := by simp [a4]
              go_enter Tryd.func59, Tryd.ntmps59
              go_wp2_with fail
              go_ret
              exact Ret.mk (by simp [T.node, a0, a2, a3, a4]) HE0.out

set_option maxRecDepth 20000 in
set_option maxHeartbeats 1600000 in
theorem iRight_any (t : T) (hok : t.ok) (A : Option Addr) (c : Nat) (w : World) (h : IsL w (fun _ => True) t A) :
    Calls Tryd.prog 43 #[itemV t A c] w (Ret (.bool (t.right 8)) w) := by
  have H := hid h; have HO := hid hok
  clear h hok
  have HE0 := hid ((Mod.refl [] w).alloc (.cells (itemC t A c) 36))
  go_enter Tryd.func43, Tryd.ntmps43
  go_wp2_with fail
  refine (right_any t 8 (by omega) HO.out A c _ (H.out.ext HE0.out)).mono ?_
  rintro e w2 ⟨rfl, hb2⟩
  go_wp2_with fail
  go_ret
  exact Ret.mk rfl (HE0.out.trans hb2)
end Go.Proofs.YtblfmokklfhklaaDoor


namespace Go.Proofs.YtblfmokklfhklaaDoor
open Go.RowKit
set_option linter.unusedVariables false
set_option linter.unusedSimpArgs false

theorem Blk.new' (w : World) (t : TypeId) (cs : Array Value) {N : Nat} (h : w.heap.size = N) : Blk (w.alloc (.cells cs t)) N t cs := by subst h; exact Blk.new _ _ _
theorem openL4 : openL 4 = [159] := by decide
theorem openL7 : openL 7 = [255] := by decide

set_option maxRecDepth 20000 in
set_option maxHeartbeats 3200000 in
theorem build_any (t : T) : t.ok → t.plain = true → t.size ≤ 100000 → ∀ A c w, IsL w (fun _ => True) t A →
    Calls Tryd.prog 44 #[itemV t A c] w (Ret (str t.bytes) w) := by
  induction t with
  | nil => intro hok; cases hok
  | mk kind n s op k ch ih =>
    intro hok hpl hsz A c w h
    have H := hid h; have HO := hid hok; have HPL := hid hpl; have HSZ := hid hsz
    have HI := hid ih
    have hk : Hid (k < 4611686018427387904) := by unfold T.ok at hok; exact hok.2.2.2.1
    have hn64 : Hid (n < 18446744073709551616) := by unfold T.ok at hok; exact hok.2.1
    have hs64 : Hid (s.length < 4611686018427387904) := by unfold T.ok at hok; exact hok.2.2.1
    have hkd : kind = 0 ∨ kind = 2 ∨ kind = 3 ∨ kind = 4 := by unfold T.plain at hpl; rw [Bool.and_eq_true] at hpl; exact T.node_kind hpl.1
    have hpc : Hid (∀ i, i < k → (ch i).plain = true) := by unfold T.plain at hpl; rw [Bool.and_eq_true, T.all_iff] at hpl; exact hpl.2
    have hBy : (T.mk kind n s op k ch).bytes = if kind = 0 then headL 0 n else if kind < 4 then headL kind.toNat s.length ++ s else (if op then [159] else headL 4 k) ++ (T.cat (fun i => (ch i).bytes) k ++ (if op then [255] else [])) := rfl
    have HBy := hid hBy
    show Calls Tryd.prog 44 #[.agg #[.int .i64 kind, .int .u64 (n : Int), str s, .slice A k c, .bool op]] w (Ret (str (T.mk kind n s op k ch).bytes) w)
    have HB : Hid (Blk (w.alloc (.cells #[.int .i64 kind, .int .u64 (n : Int), str s, .slice A k c, .bool op] 36)) w.heap.size 36 #[.int .i64 kind, .int .u64 (n : Int), str s, .slice A k c, .bool op]) := Blk.new _ _ _
    have HE0 := hid ((Mod.refl [] w).alloc (.cells #[.int .i64 kind, .int .u64 (n : Int), str s, .slice A k c, .bool op] 36))
    clear h hok hpl hsz ih hBy
    rcases hkd with rfl | rfl | rfl | rfl
    · rw [HBy.out, if_pos rfl]
      go_enter Tryd.func44, Tryd.ntmps44
      go_wp2_with fail
      refine (head_in 0 n (by omega) (by omega) (by omega) (by have := hn64.out; omega) _).mono ?_
      rintro e w2 ⟨rfl, hb2⟩
      go_wp2_with fail
      go_ret
      exact Ret.mk rfl (HE0.out.trans hb2)
    · rw [HBy.out, if_neg (by omega), if_pos (by omega)]
      go_enter Tryd.func44, Tryd.ntmps44
      go_wp2_with fail
      refine (wBytes_any s hs64 _).mono ?_
      rintro e w2 ⟨rfl, hb2⟩
      go_wp2_with fail
      go_ret
      exact Ret.mk rfl (HE0.out.trans hb2)
    · rw [HBy.out, if_neg (by omega), if_pos (by omega)]
      go_enter Tryd.func44, Tryd.ntmps44
      go_wp2_with fail
      refine (wText_any s hs64 _).mono ?_
      rintro e w2 ⟨rfl, hb2⟩
      go_wp2_with fail
      go_ret
      exact Ret.mk rfl (HE0.out.trans hb2)
    · clear HBy
      have K0 : (0 : Int) ≤ (k : Int) := by omega
      have K1 : (k : Int) < 9223372036854775808 := by have := hk.out; omega
      cases op
      · go_enter Tryd.func44, Tryd.ntmps44
        go_wp2_with fail
        refine (head_in 4 (k : Int) (by omega) (by omega) (by omega) (by have := hk.out; omega) _).mono ?_
        rintro e w2 ⟨rfl, hb2⟩
        rw [Int.toNat_natCast]
        have HE2 := hid (HE0.out.trans hb2)
        have HB2 := hid (HB.out.ext hb2)
        have c4 : w2.cell? ⟨w.heap.size, 4, none⟩ = some (.bool false) := HB2.out.cell 4
        have c3 : w2.cell? ⟨w.heap.size, 3, none⟩ = some (.slice A k c) := HB2.out.cell 3
        clear hb2 K1
        go_wp2_with fail
        clear c4 c3
        go_loopw [3, 36] (fun s3 s36 wr => ∃ i : Nat, i ≤ k ∧ s36 = .int .i64 (i : Int) ∧ s3 = str (pre 4 s false k ch i) ∧ Hid (Ext w wr)) (fun _ i _ => k - (intOf i).toNat)
        case atStart => exact ⟨0, Nat.zero_le _, rfl, by simp [pre, T.cat], HE2.out⟩
        case round =>
          obtain ⟨i, hi, rfl, rfl, hH⟩ := hrel
          have i0 : (0 : Int) ≤ (i : Int) := by omega
          have HP := hid (pre_le (op := false) hi HSZ.out)
          by_cases hlt : i < k
          · obtain ⟨b, o, Ai, ci, rfl, hb, ⟨k0, k1, k2, k3, k4⟩, hL⟩ := H.out.cells hH.out hlt
            have i1 : (i : Int) < (k : Int) := by omega
            have ti : decide (i < k) = true := by simp [hlt]
            have HL := hid hL; have HLT := hid hlt
            have HOi : Hid (ch i).ok := by have := HO.out; unfold T.ok at this; exact this.2.2.2.2 i hlt
            have HZi : Hid ((ch i).size ≤ 100000) := Nat.le_trans (T.size_ch hlt) HSZ.out
            have HPS := hid (pre_succ 4 s false k ch i)
            have hno : (9223372036854775807 < (pre 4 s false k ch i).length + (ch i).bytes.length) = False := by
              have h1 := pre_le (op := false) (show i + 1 ≤ k by omega) HSZ.out
              rw [HPS.out, List.length_append] at h1
              simp; omega
            have hk2 : (k : Int) < 4611686018427387904 := by have := hk.out; omega
            have HEa := hid ((Mod.refl [] wr).alloc (.cells (itemC (ch i) Ai ci) 36))
            clear hL hlt
            go_wp2_with fail
            refine (HI.out i HOi.out (hpc.out i HLT.out) HZi.out Ai ci _ (HL.out.ext HEa.out)).mono ?_
            rintro e w3 ⟨rfl, hb3⟩
            have HE3 := hid ((hH.out.trans HEa.out).trans hb3)
            clear hb3
            go_wp2_with fail
            have hlt := HLT.out
            refine ⟨⟨i + 1, by omega, by simp, by rw [HPS.out]; exact str_app _ _, (show Hid _ from HE3.out)⟩, ?_⟩
            simp only [intOf]; omega
          · obtain rfl : i = k := by omega
            have ti : decide (i < i) = false := by simp
            have HPE := hid (pre_end (n := n) (s := s) (op := false) (k := i) (ch := ch))
            have hno : (9223372036854775807 < (pre 4 s false i ch i).length) = False := by have := HP.out; simp; omega
            go_wp2_with fail
            go_ret
            exact Ret.mk (by rw [HPE.out]; exact str_app _ []) hH.out
      · go_enter Tryd.func44, Tryd.ntmps44
        go_wp2_with fail
        refine (head_in 4 (k : Int) (by omega) (by omega) (by omega) (by have := hk.out; omega) _).mono ?_
        rintro e w2 ⟨rfl, hb2⟩
        rw [Int.toNat_natCast]
        have HE2 := hid (HE0.out.trans hb2)
        have HB2 := hid (HB.out.ext hb2)
        have c4 : w2.cell? ⟨w.heap.size, 4, none⟩ = some (.bool true) := HB2.out.cell 4
        have c3 : w2.cell? ⟨w.heap.size, 3, none⟩ = some (.slice A k c) := HB2.out.cell 3
        clear hb2 K1
        go_wp2_with fail
        refine (open_any 4 _).mono ?_
        rintro e w3 ⟨rfl, hb3⟩
        rw [openL4]
        go_wp2_with fail
        refine (open_any 7 _).mono ?_
        rintro e w4 ⟨rfl, hb4⟩
        rw [openL7]
        have HE4 := hid ((HE2.out.trans hb3).trans hb4)
        have HB4 := hid ((HB2.out.ext hb3).ext hb4)
        clear hb3 hb4 c3 c4 HE2 HB2
        have HE2 := HE4
        have c3 : w4.cell? ⟨w.heap.size, 3, none⟩ = some (.slice A k c) := HB4.out.cell 3
        have c4 : w4.cell? ⟨w.heap.size, 4, none⟩ = some (.bool true) := HB4.out.cell 4
        go_wp2_with fail
        clear c4 c3
        go_loopw [3, 36] (fun s3 s36 wr => ∃ i : Nat, i ≤ k ∧ s36 = .int .i64 (i : Int) ∧ s3 = str (pre 4 s true k ch i) ∧ Hid (Ext w wr)) (fun _ i _ => k - (intOf i).toNat)
        case atStart => exact ⟨0, Nat.zero_le _, rfl, by simp [pre, T.cat], HE2.out⟩
        case round =>
          obtain ⟨i, hi, rfl, rfl, hH⟩ := hrel
          have i0 : (0 : Int) ≤ (i : Int) := by omega
          have HP := hid (pre_le (op := true) hi HSZ.out)
          by_cases hlt : i < k
          · obtain ⟨b, o, Ai, ci, rfl, hb, ⟨k0, k1, k2, k3, k4⟩, hL⟩ := H.out.cells hH.out hlt
            have i1 : (i : Int) < (k : Int) := by omega
            have ti : decide (i < k) = true := by simp [hlt]
            have HL := hid hL; have HLT := hid hlt
            have HOi : Hid (ch i).ok := by have := HO.out; unfold T.ok at this; exact this.2.2.2.2 i hlt
            have HZi : Hid ((ch i).size ≤ 100000) := Nat.le_trans (T.size_ch hlt) HSZ.out
            have HPS := hid (pre_succ 4 s true k ch i)
            have hno : (9223372036854775807 < (pre 4 s true k ch i).length + (ch i).bytes.length) = False := by
              have h1 := pre_le (op := true) (show i + 1 ≤ k by omega) HSZ.out
              rw [HPS.out, List.length_append] at h1
              simp; omega
            have hk2 : (k : Int) < 4611686018427387904 := by have := hk.out; omega
            have HEa := hid ((Mod.refl [] wr).alloc (.cells (itemC (ch i) Ai ci) 36))
            clear hL hlt
            go_wp2_with fail
            refine (HI.out i HOi.out (hpc.out i HLT.out) HZi.out Ai ci _ (HL.out.ext HEa.out)).mono ?_
            rintro e w3 ⟨rfl, hb3⟩
            have HE3 := hid ((hH.out.trans HEa.out).trans hb3)
            clear hb3
            go_wp2_with fail
            have hlt := HLT.out
            refine ⟨⟨i + 1, by omega, by simp, by rw [HPS.out]; exact str_app _ _, (show Hid _ from HE3.out)⟩, ?_⟩
            simp only [intOf]; omega
          · obtain rfl : i = k := by omega
            have ti : decide (i < i) = false := by simp
            have HPE := hid (pre_end (n := n) (s := s) (op := true) (k := i) (ch := ch))
            have hno : (9223372036854775807 < (pre 4 s true i ch i).length + 1) = False := by have := HP.out; simp; omega
            go_wp2_with fail
            go_ret
            exact Ret.mk (by rw [HPE.out]; exact str_app _ [255]) hH.out

/-- What Build hands back. -/
def buildV (t : T) : Value := if t.right 8 then .tuple #[str t.bytes, .int .i64 0] else .tuple #[str [], .int .i64 1]
set_option maxRecDepth 20000 in
set_option maxHeartbeats 1600000 in
theorem iBuild_any (t : T) (hok : t.ok) (hsz : t.size ≤ 100000) (A : Option Addr) (c : Nat) (w : World) (h : IsL w (fun _ => True) t A) :
    Calls Tryd.prog 21 #[itemV t A c] w (Ret (buildV t) w) := by
  have H := hid h; have HO := hid hok; have HS := hid hsz
  have HB : Hid (Blk (w.alloc (.cells (itemC t A c) 36)) w.heap.size 36 (itemC t A c)) := Blk.new _ _ _
  have HE0 := hid ((Mod.refl [] w).alloc (.cells (itemC t A c) 36))
  have HPL : Hid (t.right 8 = true → t.plain = true) := fun h => by rw [T.right_eq] at h; simp at h; exact h.2
  clear h hok hsz
  go_enter Tryd.func21, Tryd.ntmps21
  go_wp2_with fail
  refine (iRight_any t HO.out A c _ (H.out.ext HE0.out)).mono ?_
  rintro e w2 ⟨rfl, hb2⟩
  have HE2 := hid (HE0.out.trans hb2)
  have hB2 := HB.out.ext hb2
  have c0 : w2.cell? ⟨w.heap.size, 0, none⟩ = some (.int .i64 t.kind) := hB2.cell 0
  have c1 : w2.cell? ⟨w.heap.size, 1, none⟩ = some (.int .u64 (t.n : Int)) := hB2.cell 1
  have c2 : w2.cell? ⟨w.heap.size, 2, none⟩ = some (str t.s) := hB2.cell 2
  have c3 : w2.cell? ⟨w.heap.size, 3, none⟩ = some (.slice A t.k c) := hB2.cell 3
  have c4 : w2.cell? ⟨w.heap.size, 4, none⟩ = some (.bool t.op) := hB2.cell 4
  clear hb2 hB2
  cases hr : t.right 8
  · have HR := hid hr
    clear hr
    go_wp2_with fail
    go_ret2
    exact Ret.mk (by rw [buildV, HR.out]; rfl) HE2.out
  · have HR := hid hr
    clear hr
    go_wp2_with fail
    refine (build_any t HO.out (HPL.out HR.out) HS.out A c _ (H.out.ext HE2.out)).mono ?_
    rintro e w3 ⟨rfl, hb3⟩
    go_wp2_with fail
    go_ret2
    exact Ret.mk (by rw [buildV, HR.out]; rfl) (HE2.out.trans hb3)
end Go.Proofs.YtblfmokklfhklaaDoor


namespace Go.Proofs.YtblfmokklfhklaaDoor
open Go.RowKit
set_option linter.unusedVariables false
set_option linter.unusedSimpArgs false

theorem EV.ok_cases {e : EV} (h : e.ok = true) : (e = ⟨1, [110, 111, 110, 101], 0, 0⟩) ∨ (∃ name, e = ⟨1, name, 0, 0⟩ ∧ name ≠ [110, 111, 110, 101] ∧ name.length ≤ 60) ∨ (∃ node svc, e = ⟨2, [], node, svc⟩ ∧ node ≤ 4294967295 ∧ svc ≤ 4294967295) := by
  obtain ⟨sch, name, node, svc⟩ := e
  unfold EV.ok at h
  simp only [] at h
  by_cases h1 : sch = 1
  · rw [if_pos h1] at h
    simp only [Bool.and_eq_true, decide_eq_true_eq] at h
    obtain ⟨⟨rfl, rfl⟩, hn⟩ := h
    subst h1
    by_cases h0 : name = [110, 111, 110, 101]
    · subst h0; exact .inl rfl
    · refine .inr (.inl ⟨name, rfl, h0, ?_⟩)
      have h00 : ¬ name = noneL := h0
      simp only [namedL, h00, decide_false, Bool.false_or, Bool.and_eq_true, decide_eq_true_eq] at hn
      by_cases hl : name.length ≤ 60
      · exact hl
      · exfalso
        apply hn.1
        unfold nodeN
        rw [if_neg (fun h => hl h.2)]
  · rw [if_neg h1] at h
    by_cases h2 : sch = 2
    · rw [if_pos h2] at h
      simp only [Bool.and_eq_true, decide_eq_true_eq] at h
      obtain ⟨⟨rfl, ha⟩, hb⟩ := h
      subst h2
      exact .inr (.inr ⟨node, svc, rfl, ha, hb⟩)
    · rw [if_neg h2] at h
      cases h
theorem eidItem_ok (e : EV) (ho : e.ok = true) (w : World) : Calls Tryd.prog 41 #[e.v] w (fun r w' => ∃ A, r = .returned (.tuple #[itemV (eidT e) A 2, .int .i64 0]) ∧ Ext w w' ∧ IsL w' (fun b => w.heap.size ≤ b) (eidT e) A) := by
  rcases EV.ok_cases ho with rfl | ⟨name, rfl, hn, hl⟩ | ⟨node, svc, rfl, ha, hb⟩
  · exact eidItem_none w
  · exact eidItem_dtn name (by unfold Hid; omega) hn ho w
  · have e1 : eidT ⟨2, [], node, svc⟩ = ipnT node svc := rfl
    rw [e1]
    exact eidItem_ipn node svc ha hb w
theorem text_ok {s : List UInt8} (h : s.length < 4611686018427387904) : (textT s).ok := by unfold textT T.ok; exact ⟨by omega, by omega, h, by omega, fun i hi => by omega⟩
theorem eidT_ok {e : EV} (ho : e.ok = true) : (eidT e).ok ∧ (∀ d, 3 ≤ d → (eidT e).right d = true) ∧ (eidT e).plain = true ∧ (eidT e).size ≤ 100000 := by
  rcases EV.ok_cases ho with rfl | ⟨name, rfl, hn, hl⟩ | ⟨node, svc, rfl, ha, hb⟩
  · refine ⟨?_, fun d hd => ?_, by decide, by decide⟩
    · unfold eidT T.ok
      exact ⟨by omega, by omega, by simp, by omega, fun i hi => by dsimp only; split; exact num_ok (by decide); exact num_ok (by decide)⟩
    · have h1 : ¬ d < 1 := by omega
      have h2 : ¬ d - 1 < 1 := by omega
      simp [eidT, twoT, noneL, T.right, h1, h2, T.node, T.all, numT]
  · have h0 : ¬ name = noneL := hn
    have e1 : twoT ⟨1, name, 0, 0⟩ = textT name := by simp [twoT, h0]
    refine ⟨?_, fun d hd => ?_, ?_, ?_⟩
    · unfold eidT T.ok
      exact ⟨by omega, by omega, by simp, by omega, fun i hi => by dsimp only; split; exact num_ok (by decide); rw [e1]; exact text_ok (by omega)⟩
    · have h1 : ¬ d < 1 := by omega
      have h2 : ¬ d - 1 < 1 := by omega
      simp [eidT, e1, T.right, h1, h2, T.node, T.all, numT, textT]
    · simp [eidT, e1, T.plain, T.node, T.all, numT, textT]
    · simp [eidT, e1, T.size, T.sum, numT, textT]; omega
  · refine ⟨?_, fun d hd => ?_, ?_, ?_⟩
    · unfold eidT T.ok
      refine ⟨by omega, by omega, by simp, by omega, fun i hi => ?_⟩
      dsimp only
      split
      · exact num_ok (by decide)
      · show (T.mk 4 0 [] false 2 (fun j => if j = 0 then numT node else numT svc)).ok
        unfold T.ok
        exact ⟨by omega, by omega, by simp, by omega, fun i hi => by dsimp only; split; exact num_ok (by omega); exact num_ok (by omega)⟩
    · have h1 : ¬ d < 1 := by omega
      have h2 : ¬ d - 1 < 1 := by omega
      have h3 : ¬ d - 1 - 1 < 1 := by omega
      simp [eidT, twoT, T.right, h1, h2, h3, T.node, T.all, numT]
    · simp [eidT, twoT, T.plain, T.node, T.all, numT]
    · simp [eidT, twoT, T.size, T.sum, numT]

theorem two_IsL {W : World} {Q : Nat → Prop} {g : Nat} (t0 t1 : T) (A0 A1 : Option Addr) (c0 c1 : Nat) (q : Q g)
    (h : Blk W g 36 #[.int .i64 t0.kind, .int .u64 (t0.n : Int), str t0.s, .slice A0 t0.k c0, .bool t0.op, .int .i64 t1.kind, .int .u64 (t1.n : Int), str t1.s, .slice A1 t1.k c1, .bool t1.op]) (h0 : IsL W Q t0 A0) (h1 : IsL W Q t1 A1) : IsL W Q (T.mk 4 0 [] false 2 fun i => if i = 0 then t0 else t1) (some ⟨g, 0, none⟩) := fun _ => ⟨g, 0, rfl, h.lt, q, fun i hi => by
  have hi2 : i = 0 ∨ i = 1 := by omega
  rcases hi2 with rfl | rfl
  · exact ⟨A0, c0, ⟨h.cell 0, h.cell 1, h.cell 2, h.cell 3, h.cell 4⟩, h0⟩
  · exact ⟨A1, c1, ⟨h.cell 5, h.cell 6, h.cell 7, h.cell 8, h.cell 9⟩, h1⟩⟩
theorem leaf_IsL {W : World} {Q : Nat → Prop} {t : T} {A : Option Addr} (h : t.k = 0) (hn : t ≠ T.nil) : IsL W Q t A := by
  cases t with
  | nil => exact absurd rfl hn
  | mk kind n s op k ch => intro h0; have : k = 0 := h; omega

set_option maxRecDepth 20000 in
set_option maxHeartbeats 1600000 in
theorem r10Item_none (w : World) : Calls Tryd.prog 13 #[EV.v ⟨1, [110, 111, 110, 101], 0, 0⟩] w (fun r w' => ∃ A, r = .returned (itemV (eidT ⟨1, [110, 111, 110, 101], 0, 0⟩) A 2) ∧ Ext w w' ∧ IsL w' (fun b => w.heap.size ≤ b) (eidT ⟨1, [110, 111, 110, 101], 0, 0⟩) A) := by
  go_enter Tryd.func13, Tryd.ntmps13
  go_wp2_with fail
  refine bodyPost_ret (v := itemV (eidT ⟨1, [110, 111, 110, 101], 0, 0⟩) (some ⟨w.heap.size + 1 + 1 + 1, 0, none⟩) 2) (by simp [results, Tryd.results13, go_sem]; exact ⟨rfl, rfl, rfl, rfl, rfl⟩) rfl ?_
  refine ⟨_, rfl, ((((Mod.refl _ _).alloc _).alloc _).alloc _).alloc _, ?_⟩
  exact two_IsL (numT 1) (numT 0) none none 0 0 (show w.heap.size ≤ w.heap.size + 1 + 1 + 1 by omega) (Blk.new' _ _ _ (by simp)) (leaf_IsL rfl (by simp [numT])) (leaf_IsL rfl (by simp [numT]))
set_option maxRecDepth 20000 in
set_option maxHeartbeats 1600000 in
theorem r10Item_dtn (name : List UInt8) (hn : name ≠ [110, 111, 110, 101]) (w : World) : Calls Tryd.prog 13 #[EV.v ⟨1, name, 0, 0⟩] w (fun r w' => ∃ A, r = .returned (itemV (eidT ⟨1, name, 0, 0⟩) A 2) ∧ Ext w w' ∧ IsL w' (fun b => w.heap.size ≤ b) (eidT ⟨1, name, 0, 0⟩) A) := by
  have h0 : ¬ name = noneL := hn
  have e1 : eidT ⟨1, name, 0, 0⟩ = T.mk 4 0 [] false 2 fun i => if i = 0 then numT 1 else textT name := by simp [eidT, twoT, h0]
  rw [e1]
  have n1 : (name == [110, 111, 110, 101]) = false := by simpa using hn
  have n2 : (name = [110, 111, 110, 101]) = False := by simpa using hn
  have n3 : (name != [110, 111, 110, 101]) = true := by simpa using hn
  clear e1 h0 hn
  go_enter Tryd.func13, Tryd.ntmps13
  go_wp2_with fail
  refine bodyPost_ret (v := itemV (T.mk 4 0 [] false 2 fun i => if i = 0 then numT 1 else textT name) (some ⟨w.heap.size + 1 + 1 + 1, 0, none⟩) 2) (by simp [results, Tryd.results13, go_sem]; exact ⟨rfl, rfl, rfl, rfl, rfl⟩) rfl ?_
  refine ⟨_, rfl, ((((Mod.refl _ _).alloc _).alloc _).alloc _).alloc _, ?_⟩
  exact two_IsL (numT 1) (textT name) none none 0 0 (show w.heap.size ≤ w.heap.size + 1 + 1 + 1 by omega) (Blk.new' _ _ _ (by simp)) (leaf_IsL rfl (by simp [numT])) (leaf_IsL rfl (by simp [textT]))
set_option maxRecDepth 20000 in
set_option maxHeartbeats 1600000 in
theorem r10Item_ipn (node svc : Nat) (w : World) : Calls Tryd.prog 13 #[EV.v ⟨2, [], node, svc⟩] w (fun r w' => ∃ A, r = .returned (itemV (eidT ⟨2, [], node, svc⟩) A 2) ∧ Ext w w' ∧ IsL w' (fun b => w.heap.size ≤ b) (eidT ⟨2, [], node, svc⟩) A) := by
  go_enter Tryd.func13, Tryd.ntmps13
  go_wp2_with fail
  refine bodyPost_ret (v := itemV (eidT ⟨2, [], node, svc⟩) (some ⟨w.heap.size + 1 + 1 + 1 + 1, 0, none⟩) 2) (by simp [results, Tryd.results13, go_sem]; exact ⟨rfl, rfl, rfl, rfl, rfl⟩) rfl ?_
  refine ⟨_, rfl, (((((Mod.refl _ _).alloc _).alloc _).alloc _).alloc _).alloc _, ?_⟩
  refine two_IsL (numT 2) (T.mk 4 0 [] false 2 (fun j => if j = 0 then numT node else numT svc)) none (some ⟨w.heap.size + 1 + 1 + 1, 0, none⟩) 0 2 (show w.heap.size ≤ w.heap.size + 1 + 1 + 1 + 1 by omega) (Blk.new' _ _ _ (by simp)) (leaf_IsL rfl (by simp [numT])) ?_
  exact two_IsL (numT node) (numT svc) none none 0 0 (show w.heap.size ≤ w.heap.size + 1 + 1 + 1 by omega) ((Blk.new' _ _ _ (by simp)).alloc _) (leaf_IsL rfl (by simp [numT])) (leaf_IsL rfl (by simp [numT]))
theorem r10Item_ok (e : EV) (ho : e.ok = true) (w : World) : Calls Tryd.prog 13 #[e.v] w (fun r w' => ∃ A, r = .returned (itemV (eidT e) A 2) ∧ Ext w w' ∧ IsL w' (fun b => w.heap.size ≤ b) (eidT e) A) := by
  rcases EV.ok_cases ho with rfl | ⟨name, rfl, hn, hl⟩ | ⟨node, svc, rfl, ha, hb⟩
  · exact r10Item_none w
  · exact r10Item_dtn name hn w
  · exact r10Item_ipn node svc w
end Go.Proofs.YtblfmokklfhklaaDoor


namespace Go.Proofs.YtblfmokklfhklaaDoor
set_option linter.unusedVariables false
set_option linter.unusedSimpArgs false
namespace Crc

/-- So many bits about. -/
def rv : Nat → Nat → Nat
  | 0, _ => 0
  | n + 1, x => 2 ^ n * (x % 2) + rv n (x / 2)
theorem rv_lt : ∀ (n x : Nat), rv n x < 2 ^ n
  | 0, _ => by simp [rv]
  | n + 1, x => by
    have h := rv_lt n (x / 2)
    have h2 : x % 2 < 2 := Nat.mod_lt _ (by omega)
    have : x % 2 = 0 ∨ x % 2 = 1 := by omega
    unfold rv
    rcases this with e | e <;> rw [e, Nat.pow_succ] <;> omega
theorem rv_bit : ∀ (n x i : Nat), (rv n x).testBit i = (decide (i < n) && x.testBit (n - 1 - i))
  | 0, x, i => by simp [rv]
  | n + 1, x, i => by
    have h := rv_bit n (x / 2) i
    have hl := rv_lt n (x / 2)
    unfold rv
    rw [Nat.testBit_two_pow_mul_add _ hl]
    by_cases hi : i < n
    · rw [if_pos hi, h]
      have e : n + 1 - 1 - i = (n - 1 - i) + 1 := by omega
      rw [e, Nat.testBit_succ]
      simp [hi, Nat.lt_succ_of_lt hi]
    · rw [if_neg hi]
      by_cases hin : i = n
      · subst hin
        simp [Nat.testBit_zero]
      · have h1 : ¬ i < n + 1 := by omega
        have h3 : i - n = (i - n - 1) + 1 := by omega
        have h4 : x % 2 / 2 = 0 := by omega
        simp only [h1, decide_false, Bool.false_and]
        rw [h3, Nat.testBit_succ, h4, Nat.zero_testBit]
theorem rv_xor (n x y : Nat) : rv n (x ^^^ y) = rv n x ^^^ rv n y := by
  apply Nat.eq_of_testBit_eq
  intro i
  rw [Nat.testBit_xor, rv_bit, rv_bit, rv_bit, Nat.testBit_xor]
  cases decide (i < n) <;> simp
theorem rv_rv (n x : Nat) (h : x < 2 ^ n) : rv n (rv n x) = x := by
  apply Nat.eq_of_testBit_eq
  intro i
  rw [rv_bit, rv_bit]
  by_cases hi : i < n
  · have e : n - 1 - (n - 1 - i) = i := by omega
    have e2 : n - 1 - i < n := by omega
    simp [hi, e, e2]
  · have : x < 2 ^ i := Nat.lt_of_lt_of_le h (Nat.pow_le_pow_right (by omega) (by omega))
    simp [hi, Nat.testBit_lt_two_pow this]
theorem rv_high (m x : Nat) : rv (m + 1) x / 2 ^ m = x % 2 := by
  unfold rv
  rw [Nat.mul_add_div (Nat.two_pow_pos m), Nat.div_eq_of_lt (rv_lt m _)]
  omega
theorem rv_half (m x : Nat) (h : x < 2 ^ (m + 1)) : rv (m + 1) (x / 2) = rv (m + 1) x * 2 % 2 ^ (m + 1) := by
  apply Nat.eq_of_testBit_eq
  intro i
  rw [rv_bit, Nat.testBit_mod_two_pow, ← Nat.testBit_succ]
  cases i with
  | zero =>
    have e : (m + 1 - 1 - 0).succ = m + 1 := by omega
    rw [e, Nat.testBit_lt_two_pow h]
    simp [Nat.testBit_zero]
  | succ i =>
    have t : (rv (m + 1) x * 2).testBit (i + 1) = (rv (m + 1) x).testBit i := by rw [Nat.testBit_succ, Nat.mul_div_cancel _ (by omega : 0 < 2)]
    rw [t, rv_bit]
    by_cases hi : i + 1 < m + 1
    · have e : (m + 1 - 1 - (i + 1)).succ = m + 1 - 1 - i := by omega
      have h2 : i < m + 1 := by omega
      simp only [hi, h2, e, decide_true, Bool.true_and]
    · simp [hi]

/-- The code's step, its byte, its row. -/
def stepC (p s : Nat) : Nat := if s % 2 = 1 then s / 2 ^^^ p else s / 2
def stepsC (p : Nat) : Nat → Nat → Nat
  | 0, s => s
  | k + 1, s => stepsC p k (stepC p s)
def divC (p : Nat) (s : Nat) (l : List UInt8) : Nat := l.foldl (fun s c => stepsC p 8 (s ^^^ c.toNat)) s
/-- The same step, with a bit of the row. -/
def stepB (p s b : Nat) : Nat := if s % 2 = b then s / 2 else s / 2 ^^^ p
def stepsB (p : Nat) : Nat → Nat → Nat → Nat
  | 0, s, _ => s
  | k + 1, s, c => stepsB p k (stepB p s (c % 2)) (c / 2)
/-- The reference's step, its byte, its row. -/
def stepR (top d r b : Nat) : Nat := if r / (top / 2) = b then r * 2 % top else (r * 2 % top) ^^^ d
def stepsR (top d : Nat) : Nat → Nat → Nat → Nat
  | 0, r, _ => r
  | k + 1, r, c => stepsR top d k (stepR top d r (c % 2)) (c / 2)
def divR (top d : Nat) (r : Nat) (l : List UInt8) : Nat := l.foldl (fun r c => stepsR top d 8 r c.toNat) r

theorem xor_mod (a b : Nat) : (a ^^^ b) % 2 = if a % 2 = b % 2 then 0 else 1 := by
  have h := Nat.testBit_xor a b 0
  simp only [Nat.testBit_zero] at h
  rcases Nat.mod_two_eq_zero_or_one a with ha | ha <;> rcases Nat.mod_two_eq_zero_or_one b with hb | hb <;> rcases Nat.mod_two_eq_zero_or_one (a ^^^ b) with hab | hab <;> simp [ha, hb, hab] at h ⊢
theorem xor_half (a b : Nat) : (a ^^^ b) / 2 = a / 2 ^^^ b / 2 := by
  apply Nat.eq_of_testBit_eq
  intro i
  rw [← Nat.testBit_succ, Nat.testBit_xor, Nat.testBit_xor, ← Nat.testBit_succ, ← Nat.testBit_succ]
theorem stepC_xor (p s c : Nat) : stepC p (s ^^^ c) = stepB p s (c % 2) ^^^ (c / 2) := by
  unfold stepC stepB
  rw [xor_mod, xor_half]
  by_cases h : s % 2 = c % 2
  · simp [h]
  · simp only [h, if_false, if_true]
    rw [Nat.xor_assoc, Nat.xor_comm (c / 2), ← Nat.xor_assoc]
theorem stepsC_xor (p : Nat) : ∀ (k s c : Nat), stepsC p k (s ^^^ c) = stepsB p k s c ^^^ (c / 2 ^ k)
  | 0, s, c => by simp [stepsC, stepsB]
  | k + 1, s, c => by
    show stepsC p k (stepC p (s ^^^ c)) = stepsB p k (stepB p s (c % 2)) (c / 2) ^^^ (c / 2 ^ (k + 1))
    rw [stepC_xor, stepsC_xor p k, Nat.div_div_eq_div_mul, Nat.pow_succ, Nat.mul_comm]
theorem stepB_lt {m p s b : Nat} (hp : p < 2 ^ (m + 1)) (hs : s < 2 ^ (m + 1)) : stepB p s b < 2 ^ (m + 1) := by
  unfold stepB
  split
  · omega
  · exact Nat.xor_lt_two_pow (by omega) hp
theorem stepsB_lt {m p : Nat} (hp : p < 2 ^ (m + 1)) : ∀ (k s c : Nat), s < 2 ^ (m + 1) → stepsB p k s c < 2 ^ (m + 1)
  | 0, s, c, h => h
  | k + 1, s, c, h => stepsB_lt hp k _ _ (stepB_lt hp h)
theorem stepR_rv {m p s b : Nat} (hs : s < 2 ^ (m + 1)) : stepR (2 ^ (m + 1)) (rv (m + 1) p) (rv (m + 1) s) b = rv (m + 1) (stepB p s b) := by
  have e : 2 ^ (m + 1) / 2 = 2 ^ m := by rw [Nat.pow_succ]; omega
  unfold stepR stepB
  rw [e, rv_high]
  split
  · rw [rv_half m s hs]
  · rw [rv_xor, rv_half m s hs]
theorem stepsR_rv {m p : Nat} (hp : p < 2 ^ (m + 1)) : ∀ (k s c : Nat), s < 2 ^ (m + 1) → stepsR (2 ^ (m + 1)) (rv (m + 1) p) k (rv (m + 1) s) c = rv (m + 1) (stepsB p k s c)
  | 0, s, c, h => rfl
  | k + 1, s, c, h => by
    show stepsR _ _ k (stepR _ _ _ _) _ = rv _ (stepsB p k (stepB p s _) _)
    rw [stepR_rv h]
    exact stepsR_rv hp k _ _ (stepB_lt hp h)
theorem byte_rv {m p s : Nat} (hp : p < 2 ^ (m + 1)) (hs : s < 2 ^ (m + 1)) (c : UInt8) :
    stepsR (2 ^ (m + 1)) (rv (m + 1) p) 8 (rv (m + 1) s) c.toNat = rv (m + 1) (stepsC p 8 (s ^^^ c.toNat)) ∧ stepsC p 8 (s ^^^ c.toNat) < 2 ^ (m + 1) := by
  have h0 : c.toNat / 2 ^ 8 = 0 := Nat.div_eq_of_lt c.toNat_lt
  have h := stepsC_xor p 8 s c.toNat
  rw [h0, Nat.xor_zero] at h
  rw [h]
  exact ⟨stepsR_rv hp 8 s _ hs, stepsB_lt hp 8 s _ hs⟩
theorem div_rv {m p : Nat} (hp : p < 2 ^ (m + 1)) : ∀ (l : List UInt8) (s : Nat), s < 2 ^ (m + 1) → divR (2 ^ (m + 1)) (rv (m + 1) p) (rv (m + 1) s) l = rv (m + 1) (divC p s l) ∧ divC p s l < 2 ^ (m + 1)
  | [], s, h => ⟨rfl, h⟩
  | c :: l, s, h => by
    have hb := byte_rv hp h c
    have ih := div_rv hp l _ hb.2
    unfold divR divC at ih ⊢
    simp only [List.foldl_cons]
    rw [hb.1]
    exact ih
theorem not_xor {n x : Nat} (h : x < 2 ^ n) : 2 ^ n - 1 - x = (2 ^ n - 1) ^^^ x := by
  apply Nat.eq_of_testBit_eq
  intro i
  have e : 2 ^ n - 1 - x = 2 ^ n - (x + 1) := by omega
  rw [e, Nat.testBit_two_pow_sub_succ h, Nat.testBit_xor, Nat.testBit_two_pow_sub_one]
  by_cases hi : i < n
  · simp [hi]
  · have : x < 2 ^ i := Nat.lt_of_lt_of_le h (Nat.pow_le_pow_right (by omega) (by omega))
    simp [hi, Nat.testBit_lt_two_pow this]
theorem rv_ones (n : Nat) : rv n (2 ^ n - 1) = 2 ^ n - 1 := by
  apply Nat.eq_of_testBit_eq
  intro i
  rw [rv_bit, Nat.testBit_two_pow_sub_one, Nat.testBit_two_pow_sub_one]
  by_cases hi : i < n
  · have : n - 1 - i < n := by omega
    simp [hi, this]
  · simp [hi]
/-- The two sums. -/
theorem sums {m p : Nat} (hp : p < 2 ^ (m + 1)) (l : List UInt8) :
    rv (m + 1) (2 ^ (m + 1) - 1 - divR (2 ^ (m + 1)) (rv (m + 1) p) (2 ^ (m + 1) - 1) l) = 2 ^ (m + 1) - 1 - divC p (2 ^ (m + 1) - 1) l := by
  have h0 : 2 ^ (m + 1) - 1 < 2 ^ (m + 1) := by have := Nat.two_pow_pos (m + 1); omega
  have h := div_rv hp l (2 ^ (m + 1) - 1) h0
  rw [rv_ones] at h
  rw [h.1, not_xor (rv_lt _ _), rv_xor, rv_ones, rv_rv _ _ h.2, ← not_xor h.2]
end Crc
end Go.Proofs.YtblfmokklfhklaaDoor


namespace Go.Proofs.YtblfmokklfhklaaDoor
open Go.RowKit
set_option linter.unusedVariables false
set_option linter.unusedSimpArgs false

/-- An array of these items. -/
def listT (L : List T) : T := T.mk 4 0 [] false L.length fun i => (L[i]?).getD T.nil
theorem catR_list (g : T → List UInt8) : ∀ L : List T, T.catR (fun i => g ((L[i]?).getD T.nil)) L.length = (L.map g).flatten
  | [] => rfl
  | x :: L => by
    rw [List.length_cons, T.catR, List.map_cons, List.flatten_cons, ← catR_list g L]
    rfl
theorem listT_bytes (L : List T) : (listT L).bytes = headL 4 L.length ++ (L.map T.bytes).flatten := by
  unfold listT
  rw [T.bytes, if_neg (by decide), if_neg (by decide), T.cat_eq, catR_list]
  simp
theorem getD_mem {L : List T} {i : Nat} (h : i < L.length) : (L[i]?).getD T.nil ∈ L := by
  rw [List.getElem?_eq_getElem h]; exact List.getElem_mem h
theorem listT_ok {L : List T} (hl : L.length < 4611686018427387904) (h : ∀ t ∈ L, t.ok) : (listT L).ok := by
  unfold listT T.ok
  exact ⟨by omega, by omega, by simp, hl, fun i hi => h _ (getD_mem hi)⟩
theorem listT_right {L : List T} {d : Nat} (hd : 1 ≤ d) (hl : L.length ≤ 1000) (h : ∀ t ∈ L, t.right (d - 1) = true) : (listT L).right d = true := by
  unfold listT T.right
  rw [if_neg (by omega), Bool.and_eq_true, T.all_iff]
  refine ⟨?_, fun i hi => h _ (getD_mem hi)⟩
  simp [T.node, hl]
theorem sum_le_each {f : Nat → Nat} {B k : Nat} (h : ∀ i, i < k → f i ≤ B) : T.sum f k ≤ k * B := by
  induction k with
  | zero => simp [T.sum]
  | succ k ih =>
    have := ih (fun i hi => h i (by omega))
    have := h k (by omega)
    rw [T.sum, Nat.succ_mul]; omega
theorem listT_size {L : List T} {B : Nat} (h : ∀ t ∈ L, t.size ≤ B) : (listT L).size ≤ 1 + L.length * B := by
  unfold listT T.size
  have := sum_le_each (f := fun i => ((L[i]?).getD T.nil).size) (B := B) (k := L.length) (fun i hi => h _ (getD_mem hi))
  simp; omega
theorem numT_all (n : Nat) (h : n < 18446744073709551616) : (numT n).ok ∧ (∀ d, 1 ≤ d → (numT n).right d = true) ∧ (numT n).size ≤ 100 ∧ (numT n).bytes = headL 0 n := by
  refine ⟨num_ok h, fun d hd => ?_, by simp [numT, T.size, T.sum], rfl⟩
  unfold numT T.right
  rw [if_neg (by omega)]
  simp [T.node, T.all]
theorem strT_all {s : List UInt8} (h : s.length ≤ 90) : (strT s).ok ∧ (∀ d, 1 ≤ d → (strT s).right d = true) ∧ (strT s).size ≤ 100 ∧ (strT s).bytes = headL 2 s.length ++ s := by
  refine ⟨str_ok (by omega), fun d hd => ?_, ?_, rfl⟩
  · unfold strT T.right
    rw [if_neg (by omega)]
    simp [T.node, T.all]
  · simp [strT, T.size, T.sum]; omega
theorem eidT_small {e : EV} (ho : e.ok = true) : (eidT e).size ≤ 100 := by
  rcases EV.ok_cases ho with rfl | ⟨name, rfl, hn, hl⟩ | ⟨node, svc, rfl, ha, hb⟩
  · decide
  · have h0 : ¬ name = noneL := hn
    have e1 : twoT ⟨1, name, 0, 0⟩ = textT name := by simp [twoT, h0]
    simp [eidT, e1, T.size, T.sum, numT, textT]; omega
  · simp [eidT, twoT, T.size, T.sum, numT]

/- A primary. -/
def PV.ranged (p : PV) : Bool := p.d.ok && (p.s.ok && (p.r.ok && decide (0 ≤ p.crc ∧ p.crc ≤ 2 ∧ p.fl < 2097152 ∧ p.t ≤ 1099511627776 ∧ p.q ≤ 1099511627776 ∧ p.l ≤ 1099511627776 ∧ p.o ≤ 1099511627776 ∧ p.n ≤ 1099511627776)))
def PV.none (p : PV) : Prop := p.s.sch = 1 ∧ p.s.name = noneL
instance (p : PV) : Decidable p.none := by unfold PV.none; infer_instance
def PV.right (p : PV) : Int :=
  if p.ranged = false then 1
  else if (p.fl % 2 = 1 ∧ (p.fl / 4 % 2 = 1 ∨ p.n ≤ p.o)) ∨ (¬ p.fl % 2 = 1 ∧ (0 < p.o ∨ 0 < p.n)) then 8
  else if ((p.fl / 16384 % 2 = 1 ∨ p.fl / 262144 % 2 = 1) ∧ (p.none ∨ p.fl / 2 % 2 = 1)) ∨ (p.none ∧ ¬ p.fl / 4 % 2 = 1) then 8
  else 0
theorem PV.ranged_spec {p : PV} (h : p.ranged = true) : p.d.ok = true ∧ p.s.ok = true ∧ p.r.ok = true ∧ 0 ≤ p.crc ∧ p.crc ≤ 2 ∧ p.fl < 2097152 ∧ p.t ≤ 1099511627776 ∧ p.q ≤ 1099511627776 ∧ p.l ≤ 1099511627776 ∧ p.o ≤ 1099511627776 ∧ p.n ≤ 1099511627776 := by
  unfold PV.ranged at h
  simp only [Bool.and_eq_true, decide_eq_true_eq] at h
  exact ⟨h.1, h.2.1, h.2.2.1, h.2.2.2⟩
theorem PV.right_ranged {p : PV} (h : p.right = 0) : p.ranged = true := by
  unfold PV.right at h
  cases hr : p.ranged with
  | true => rfl
  | false => rw [hr, if_pos rfl] at h; exact absurd h (by decide)
/-- Its items, with a sum. -/
def priL (p : PV) (k : Nat) (sum : List UInt8) : List T :=
  [numT 7, numT p.fl, numT k, eidT p.d, eidT p.s, eidT p.r, listT [numT p.t, numT p.q], numT p.l] ++ ((if p.fl % 2 = 1 then [numT p.o, numT p.n] else []) ++ (if k = 0 then [] else [strT sum]))
def priT (p : PV) (k : Nat) (sum : List UInt8) : T := listT (priL p k sum)
def priN (p : PV) (k : Nat) : Nat := 8 + ((if p.fl % 2 = 1 then 2 else 0) + (if k = 0 then 0 else 1))
theorem priL_length (p : PV) (k : Nat) (sum : List UInt8) : (priL p k sum).length = priN p k := by
  unfold priL priN
  split <;> split <;> simp
/-- Its bytes, with a sum. -/
def priB (p : PV) (k : Nat) (sum : List UInt8) : List UInt8 :=
  headL 4 (priN p k) ++ (headL 0 7 ++ (headL 0 p.fl ++ (headL 0 k ++ ((eidT p.d).bytes ++ ((eidT p.s).bytes ++ ((eidT p.r).bytes ++ (headL 4 2 ++ (headL 0 p.t ++ (headL 0 p.q ++ (headL 0 p.l ++
  ((if p.fl % 2 = 1 then headL 0 p.o ++ headL 0 p.n else []) ++ (if k = 0 then [] else headL 2 sum.length ++ sum))))))))))))
theorem priT_bytes (p : PV) (k : Nat) (sum : List UInt8) : (priT p k sum).bytes = priB p k sum := by
  unfold priT
  rw [listT_bytes, priL_length]
  unfold priL priB
  have e : (listT [numT p.t, numT p.q]).bytes = headL 4 2 ++ (headL 0 p.t ++ headL 0 p.q) := by
    rw [listT_bytes]; simp [show ∀ n, (numT n).bytes = headL 0 n from fun n => rfl]
  by_cases h1 : p.fl % 2 = 1 <;> by_cases h2 : k = 0 <;>
    simp [h1, h2, e, show ∀ n, (numT n).bytes = headL 0 n from fun n => rfl, show ∀ s, (strT s).bytes = headL 2 s.length ++ s from fun s => rfl]
theorem priT_all {p : PV} (h : p.ranged = true) {k : Nat} (hk : k ≤ 2) {sum : List UInt8} (hs : sum.length ≤ 90) : (priT p k sum).ok ∧ (∀ d, 4 ≤ d → (priT p k sum).right d = true) ∧ (priT p k sum).size ≤ 4000 := by
  obtain ⟨h1, h2, h3, h4, h5, h6, h7, h8, h9, h10, h11⟩ := PV.ranged_spec h
  have hm : ∀ t ∈ priL p k sum, t.ok ∧ (∀ d, 3 ≤ d → t.right d = true) ∧ t.size ≤ 350 := by
    intro t ht
    have num : ∀ n, n < 18446744073709551616 → (numT n).ok ∧ (∀ d, 3 ≤ d → (numT n).right d = true) ∧ (numT n).size ≤ 350 := fun n hn => by
      obtain ⟨a, b, c, _⟩ := numT_all n hn
      exact ⟨a, fun d hd => b d (by omega), by omega⟩
    have eid : ∀ e : EV, e.ok = true → (eidT e).ok ∧ (∀ d, 3 ≤ d → (eidT e).right d = true) ∧ (eidT e).size ≤ 350 := fun e he => by
      obtain ⟨a, b, _, _⟩ := eidT_ok he
      exact ⟨a, b, by have := eidT_small he; omega⟩
    unfold priL at ht
    rw [List.mem_append, List.mem_append] at ht
    rcases ht with ht | ht | ht
    · simp only [List.mem_cons, List.not_mem_nil, or_false] at ht
      rcases ht with rfl | rfl | rfl | rfl | rfl | rfl | rfl | rfl
      · exact num 7 (by decide)
      · exact num _ (by omega)
      · exact num _ (by omega)
      · exact eid _ h1
      · exact eid _ h2
      · exact eid _ h3
      · have a := numT_all p.t (by omega)
        have b := numT_all p.q (by omega)
        refine ⟨listT_ok (by simp) ?_, fun d hd => listT_right (by omega) (by simp) ?_, ?_⟩
        · intro t ht
          simp only [List.mem_cons, List.not_mem_nil, or_false] at ht
          rcases ht with rfl | rfl
          · exact a.1
          · exact b.1
        · intro t ht
          simp only [List.mem_cons, List.not_mem_nil, or_false] at ht
          rcases ht with rfl | rfl
          · exact a.2.1 _ (by omega)
          · exact b.2.1 _ (by omega)
        · have := listT_size (L := [numT p.t, numT p.q]) (B := 100) (by
            intro t ht
            simp only [List.mem_cons, List.not_mem_nil, or_false] at ht
            rcases ht with rfl | rfl
            · exact a.2.2.1
            · exact b.2.2.1)
          simp at this
          omega
      · exact num _ (by omega)
    · split at ht
      · simp only [List.mem_cons, List.not_mem_nil, or_false] at ht
        rcases ht with rfl | rfl
        · exact num _ (by omega)
        · exact num _ (by omega)
      · cases ht
    · split at ht
      · cases ht
      · simp only [List.mem_cons, List.not_mem_nil, or_false] at ht
        subst ht
        obtain ⟨a, b, c, _⟩ := strT_all hs
        exact ⟨a, fun d hd => b d (by omega), by omega⟩
  have hl : (priL p k sum).length ≤ 11 := by rw [priL_length]; unfold priN; split <;> split <;> omega
  refine ⟨listT_ok (by omega) fun t ht => (hm t ht).1, fun d hd => listT_right (by omega) (by omega) fun t ht => (hm t ht).2.1 _ (by omega), ?_⟩
  have := listT_size (L := priL p k sum) (B := 350) fun t ht => (hm t ht).2.2
  have h2 : (priL p k sum).length * 350 ≤ 11 * 350 := Nat.mul_le_mul_right _ hl
  show (listT (priL p k sum)).size ≤ 4000
  omega
/-- A number's bytes, as the first is the greatest. -/
def PV.sumK (f : Nat → List UInt8 → List UInt8) (p : PV) (k : Nat) : List UInt8 := if k = 0 then [] else f k (priB p k (List.replicate (2 * k) 0))
end Go.Proofs.YtblfmokklfhklaaDoor


namespace Go.Proofs.YtblfmokklfhklaaDoor
set_option linter.unusedVariables false
set_option linter.unusedSimpArgs false

/-- An ID and a value; a list of them; a security text. -/
structure PR where
  id : Int
  t : T
structure PL where
  k : Nat
  a : Nat → PR
structure AV where
  tk : Nat
  tg : Nat → Int
  ctx : Int
  src : EV
  ps : PL
  rk : Nat
  rs : Nat → PL
def codedB (n : Int) : Bool := decide (0 ≤ n) && decide (n ≤ 65535)
def unlikeB (f : Nat → Int) (k : Nat) : Bool := T.all (fun i => codedB (f i) && T.all (fun j => decide (f j ≠ f i)) i) k
def valB (t : T) : Bool := (decide (t.kind = 0) || decide (t.kind = 2)) && t.right 8
def pairsB (p : PL) : Bool := T.all (fun i => valB (p.a i).t) p.k && unlikeB (fun i => (p.a i).id) p.k
def resB (p : PL) : Bool := decide (1 ≤ p.k) && decide (p.k ≤ 4) && pairsB p
def AV.shaped (a : AV) : Bool := (decide (1 ≤ a.tk) && decide (a.tk ≤ 16) && unlikeB a.tg a.tk && codedB a.ctx && a.src.ok) && (decide (a.ps.k ≤ 8) && pairsB a.ps && decide (a.rk = a.tk)) && T.all (fun i => resB (a.rs i)) a.rk
/-- The items. -/
def pairT (p : PR) : T := listT [numT p.id.toNat, p.t]
def plT (p : PL) : T := .mk 4 0 [] false p.k fun i => pairT (p.a i)
def tgT (k : Nat) (f : Nat → Int) : T := .mk 4 0 [] false k fun i => numT (f i).toNat
def rsT (k : Nat) (f : Nat → PL) : T := .mk 4 0 [] false k fun i => plT (f i)
def AV.items (a : AV) : List T := if a.ps.k = 0 then [tgT a.tk a.tg, numT a.ctx.toNat, numT 0, eidT a.src, rsT a.rk a.rs] else [tgT a.tk a.tg, numT a.ctx.toNat, numT 1, eidT a.src, plT a.ps, rsT a.rk a.rs]
def AV.bytes (a : AV) : List UInt8 := (a.items.map T.bytes).flatten
def AV.right (a : AV) : Bool := a.shaped && decide (a.bytes.length ≤ 4000)
/-- Numbers are a machine's; texts are not too long. -/
def PL.wf (p : PL) : Prop := p.k < 4611686018427387904 ∧ ∀ i, i < p.k → (p.a i).t.ok ∧ (-9223372036854775808 ≤ (p.a i).id ∧ (p.a i).id ≤ 9223372036854775807)
def AV.wf (a : AV) : Prop := (a.tk < 4611686018427387904 ∧ ∀ i, i < a.tk → -9223372036854775808 ≤ a.tg i ∧ a.tg i ≤ 9223372036854775807) ∧ (-9223372036854775808 ≤ a.ctx ∧ a.ctx ≤ 9223372036854775807) ∧ a.src.name.length < 4611686018427387904 ∧ a.ps.wf ∧ a.rk < 4611686018427387904 ∧ ∀ i, i < a.rk → (a.rs i).wf
def AV.small (a : AV) : Prop := (plT a.ps).size ≤ 100000 ∧ (rsT a.rk a.rs).size ≤ 100000

theorem codedB_iff {n : Int} : codedB n = true ↔ 0 ≤ n ∧ n ≤ 65535 := by simp [codedB]
theorem unlikeB_coded {f : Nat → Int} {k : Nat} (h : unlikeB f k = true) : ∀ i, i < k → 0 ≤ f i ∧ f i ≤ 65535 := fun i hi => by
  have := T.all_iff.1 h i hi
  rw [Bool.and_eq_true] at this
  exact codedB_iff.1 this.1
theorem valB_right {t : T} (h : valB t = true) : t.right 8 = true := by
  unfold valB at h
  rw [Bool.and_eq_true] at h
  exact h.2
/-- A right value has no items: it is right at any depth. -/
theorem valB_deep {t : T} (h : valB t = true) : ∀ d, 1 ≤ d → t.right d = true := by
  intro d hd
  unfold valB at h
  cases t with
  | nil => simp [T.right] at h
  | mk kind n s op k ch =>
    rw [Bool.and_eq_true, Bool.or_eq_true] at h
    obtain ⟨h1, h2⟩ := h
    have h1 : kind = 0 ∨ kind = 2 := h1.elim (fun h => .inl (of_decide_eq_true h)) (fun h => .inr (of_decide_eq_true h))
    unfold T.right at h2 ⊢
    rw [if_neg (by omega), Bool.and_eq_true] at h2
    rw [if_neg (by omega), Bool.and_eq_true]
    refine ⟨h2.1, ?_⟩
    have hk : k = 0 := by
      have h3 := h2.1
      unfold T.node at h3
      rcases h1 with rfl | rfl
      · simp at h3; omega
      · simp at h3; omega
    subst hk
    rfl
theorem pair_right {p : PR} {d : Nat} (hd : 2 ≤ d) (hi : 0 ≤ p.id ∧ p.id ≤ 65535) (h : valB p.t = true) : (pairT p).right d = true := by
  refine listT_right (by omega) (by simp) fun t ht => ?_
  simp only [List.mem_cons, List.not_mem_nil, or_false] at ht
  rcases ht with rfl | rfl
  · exact (numT_all _ (by omega)).2.1 _ (by omega)
  · exact valB_deep h _ (by omega)
theorem pair_ok {p : PR} (hi : 0 ≤ p.id ∧ p.id ≤ 65535) (h : p.t.ok) : (pairT p).ok := by
  refine listT_ok (by simp) fun t ht => ?_
  simp only [List.mem_cons, List.not_mem_nil, or_false] at ht
  rcases ht with rfl | rfl
  · exact num_ok (by omega)
  · exact h
theorem pairsB_iff {p : PL} : pairsB p = true ↔ (∀ i, i < p.k → valB (p.a i).t = true) ∧ unlikeB (fun i => (p.a i).id) p.k = true := by
  unfold pairsB
  rw [Bool.and_eq_true, T.all_iff]
theorem pl_right {p : PL} {d : Nat} (hd : 3 ≤ d) (hk : p.k ≤ 1000) (h : pairsB p = true) : (plT p).right d = true := by
  obtain ⟨h1, h2⟩ := pairsB_iff.1 h
  unfold plT T.right
  rw [if_neg (by omega), Bool.and_eq_true, T.all_iff]
  exact ⟨by simp [T.node, hk], fun i hi => pair_right (by omega) (unlikeB_coded h2 i hi) (h1 i hi)⟩
theorem pl_ok {p : PL} (hw : p.wf) (h : pairsB p = true) : (plT p).ok := by
  obtain ⟨h1, h2⟩ := pairsB_iff.1 h
  unfold plT T.ok
  exact ⟨by omega, by omega, by simp, hw.1, fun i hi => pair_ok (unlikeB_coded h2 i hi) (hw.2 i hi).1⟩
theorem tg_right {k : Nat} {f : Nat → Int} {d : Nat} (hd : 2 ≤ d) (hk : k ≤ 1000) (h : unlikeB f k = true) : (tgT k f).right d = true := by
  unfold tgT T.right
  rw [if_neg (by omega), Bool.and_eq_true, T.all_iff]
  exact ⟨by simp [T.node, hk], fun i hi => (numT_all _ (by have := unlikeB_coded h i hi; omega)).2.1 _ (by omega)⟩
theorem tg_ok {k : Nat} {f : Nat → Int} (hk : k ≤ 1000) (h : unlikeB f k = true) : (tgT k f).ok := by
  unfold tgT T.ok
  exact ⟨by omega, by omega, by simp, by omega, fun i hi => num_ok (by have := unlikeB_coded h i hi; omega)⟩
theorem tg_size {k : Nat} {f : Nat → Int} (hk : k ≤ 1000) : (tgT k f).size ≤ 2001 := by
  unfold tgT T.size
  have := sum_le_each (f := fun i => (numT (f i).toNat).size) (B := 1) (k := k) (fun i _ => by simp [numT, T.size, T.sum])
  simp; omega
theorem resB_iff {p : PL} : resB p = true ↔ (1 ≤ p.k ∧ p.k ≤ 4) ∧ pairsB p = true := by
  unfold resB; simp [and_assoc]
theorem rs_right {k : Nat} {f : Nat → PL} {d : Nat} (hd : 4 ≤ d) (hk : k ≤ 1000) (h : T.all (fun i => resB (f i)) k = true) : (rsT k f).right d = true := by
  unfold rsT T.right
  rw [if_neg (by omega), Bool.and_eq_true, T.all_iff]
  exact ⟨by simp [T.node, hk], fun i hi => by
    obtain ⟨h1, h2⟩ := resB_iff.1 (T.all_iff.1 h i hi)
    exact pl_right (by omega) (by omega) h2⟩
theorem rs_ok {k : Nat} {f : Nat → PL} (hk : k ≤ 1000) (hw : ∀ i, i < k → (f i).wf) (h : T.all (fun i => resB (f i)) k = true) : (rsT k f).ok := by
  unfold rsT T.ok
  exact ⟨by omega, by omega, by simp, by omega, fun i hi => pl_ok (hw i hi) (resB_iff.1 (T.all_iff.1 h i hi)).2⟩
theorem AV.shaped_iff {a : AV} : a.shaped = true ↔ (1 ≤ a.tk ∧ a.tk ≤ 16) ∧ unlikeB a.tg a.tk = true ∧ codedB a.ctx = true ∧ a.src.ok = true ∧ a.ps.k ≤ 8 ∧ pairsB a.ps = true ∧ a.rk = a.tk ∧ T.all (fun i => resB (a.rs i)) a.rk = true := by
  unfold AV.shaped
  simp only [Bool.and_eq_true, decide_eq_true_eq]
  constructor
  · rintro ⟨⟨⟨⟨⟨⟨h1, h2⟩, h3⟩, h4⟩, h5⟩, ⟨⟨h6, h7⟩, h8⟩⟩, h9⟩
    exact ⟨⟨h1, h2⟩, h3, h4, h5, h6, h7, h8, h9⟩
  · rintro ⟨⟨h1, h2⟩, h3, h4, h5, h6, h7, h8, h9⟩
    exact ⟨⟨⟨⟨⟨⟨h1, h2⟩, h3⟩, h4⟩, h5⟩, ⟨⟨h6, h7⟩, h8⟩⟩, h9⟩
/-- The items of one that is shaped may all be built. -/
theorem AV.items_all {a : AV} (hw : a.wf) (hs : a.small) (h : a.shaped = true) : ∀ t ∈ a.items, t.ok ∧ t.right 8 = true ∧ t.size ≤ 100000 := by
  obtain ⟨⟨h1, h2⟩, h3, h4, h5, h6, h7, h8, h9⟩ := AV.shaped_iff.1 h
  obtain ⟨w1, w2, w3, w4, w5, w6⟩ := hw
  have c := codedB_iff.1 h4
  have ntg : (tgT a.tk a.tg).ok ∧ (tgT a.tk a.tg).right 8 = true ∧ (tgT a.tk a.tg).size ≤ 100000 := ⟨tg_ok (by omega) h3, tg_right (by omega) (by omega) h3, by have := tg_size (k := a.tk) (f := a.tg) (by omega); omega⟩
  have nn : ∀ n, n ≤ 65535 → (numT n).ok ∧ (numT n).right 8 = true ∧ (numT n).size ≤ 100000 := fun n hn => by
    have := numT_all n (by omega)
    exact ⟨this.1, this.2.1 8 (by omega), by have := this.2.2.1; omega⟩
  have ne : (eidT a.src).ok ∧ (eidT a.src).right 8 = true ∧ (eidT a.src).size ≤ 100000 := by
    have := eidT_ok h5
    exact ⟨this.1, this.2.1 8 (by omega), this.2.2.2⟩
  have np : (plT a.ps).ok ∧ (plT a.ps).right 8 = true ∧ (plT a.ps).size ≤ 100000 := ⟨pl_ok w4 h7, pl_right (by omega) (by omega) h7, hs.1⟩
  have nr : (rsT a.rk a.rs).ok ∧ (rsT a.rk a.rs).right 8 = true ∧ (rsT a.rk a.rs).size ≤ 100000 := ⟨rs_ok (by omega) w6 h9, rs_right (by omega) (by omega) h9, hs.2⟩
  intro t ht
  unfold AV.items at ht
  split at ht
  · simp only [List.mem_cons, List.not_mem_nil, or_false] at ht
    rcases ht with rfl | rfl | rfl | rfl | rfl
    · exact ntg
    · exact nn _ (by omega)
    · exact nn _ (by omega)
    · exact ne
    · exact nr
  · simp only [List.mem_cons, List.not_mem_nil, or_false] at ht
    rcases ht with rfl | rfl | rfl | rfl | rfl | rfl
    · exact ntg
    · exact nn _ (by omega)
    · exact nn _ (by omega)
    · exact ne
    · exact np
    · exact nr
end Go.Proofs.YtblfmokklfhklaaDoor


namespace Go.Proofs.YtblfmokklfhklaaDoor
open Go.RowKit
set_option linter.unusedVariables false
set_option linter.unusedSimpArgs false

section
variable {P : Program} {ops : Array Oper} {C : World → Prop} {rest : List Oper} {o : Oper} {a : Act} {w : World}
/-- A drawn region, walked once: the class of worlds is 'nothing that was there has turned'. -/
theorem wp_region_ext {id : Nat} {Q : Exit → Act → World → Prop} {l : List Oper} (hm : P.follows .mixedOrders = true) (hB : Region.lexB .any l.toArray = true)
    (h : wpQuiet P l.toArray (Ext w) (fun a' => ∀ w', Ext w w' → Q .normal a' w') l a) : (Code.region id l.toArray true).wp P Q a w :=
  wp_region_quiet (C := Ext w) hm hB ((Mod.refl [] w).drew) (by simpa using h)
theorem q_skip {Q : Act → Prop} (hw : Region.wanted o (yielded ops a.tmps) = false) (h : wpQuiet P ops C Q rest (a.put o.dst undef)) : wpQuiet P ops C Q (o :: rest) a :=
  wpQuiet_step fun K hK => by rw [if_neg (by rw [hw]; exact Bool.false_ne_true)]; exact hK _ h
/-- A struct or array is loaded out of a block that is known whole. -/
theorem q_row {Q : Act → Prop} (hw : Region.wanted o (yielded ops a.tmps) = true) (ty : TypeId) (x : Operand) (ho : o.op = .load ty x) (g : Nat) (hx : a.eval x = .pointer (some ⟨g, 0, none⟩))
    {t : TypeId} {cs : Array Value} {d : TypeDesc} (hg : ∀ w, C w → Blk w g t cs) (hu : P.underlying ty = some d) (hd : (match d with | .struct _ | .array _ _ => true | _ => false) = true)
    (hi : (P.info? ty).map (·.size) = some cs.size) (h : wpQuiet P ops C Q rest (a.put o.dst (.agg cs))) : wpQuiet P ops C Q (o :: rest) a :=
  wpQuiet_step fun K hK => by
    rw [if_pos hw]
    refine ⟨.agg cs, fun w hw' => ?_, hK _ h⟩
    unfold Oper.quietAt execOp
    simp only [ho, hx, Instr.loadAt, Instr.sureAddr, Sem.run_bind, Sem.run_pure, Result.andThen_ok, run_loadVar_row w g t ty cs (0, 0) d (hg w hw') hu hd hi]
    exact ⟨rfl, rfl⟩
/-- A number, a string, a pointer is loaded out of a cell. -/
theorem q_load {Q : Act → Prop} (hw : Region.wanted o (yielded ops a.tmps) = true) (ty : TypeId) (x : Operand) (ho : o.op = .load ty x) (p : Addr) (hx : a.eval x = .pointer (some p))
    {v : Value} {d : TypeDesc} (hc : ∀ w, C w → w.cell? p = some v) (hu : P.underlying ty = some d) (hd : (match d with | .struct _ | .array _ _ => true | _ => false) = false)
    (h : wpQuiet P ops C Q rest (a.put o.dst v)) : wpQuiet P ops C Q (o :: rest) a :=
  wpQuiet_step fun K hK => by
    rw [if_pos hw]
    refine ⟨v, fun w hw' => ?_, hK _ h⟩
    have hagg : (isAgg ty).run P w = .ok false w := by
      unfold isAgg
      rw [Sem.run_bind, run_underlying hu w]
      cases d <;> simp_all
    have hl : (loadVar ty p).run P w = .ok v w := by
      simp [loadVar, Sem.run_bind, hagg, hc w hw']
    unfold Oper.quietAt execOp
    simp only [ho, hx, Instr.loadAt, Instr.sureAddr, Sem.run_bind, Sem.run_pure, Result.andThen_ok, hl]
    exact ⟨rfl, rfl⟩
/-- Two strings become one. -/
theorem q_cat {Q : Act → Prop} (hw : Region.wanted o (yielded ops a.tmps) = true) (ty t2 : TypeId) (x y : Operand) (ho : o.op = .binOp .add ty x y t2) (l1 l2 : List UInt8) (hx : a.eval x = str l1) (hy : a.eval y = str l2)
    (hl : l1.length + l2.length ≤ 9223372036854775807) (h : wpQuiet P ops C Q rest (a.put o.dst (str (l1 ++ l2)))) : wpQuiet P ops C Q (o :: rest) a :=
  wpQuiet_step fun K hK => by
    rw [if_pos hw]
    refine ⟨str (l1 ++ l2), fun w hw' => ?_, hK _ h⟩
    have hl' : ¬ 9223372036854775807 < l1.length + l2.length := by omega
    unfold Oper.quietAt execOp
    simp only [ho, hx, hy]
    simp [go_sem, hl']
    rw [ByteArray.mk_append_mk]
/-- A struct or array is loaded out of a block that is known whole, in a plain region. -/
theorem wpList_row {Q : Exit → Act → World → Prop} (hw : Region.wanted o (yielded ops a.tmps) = true) (ty : TypeId) (x : Operand) (ho : o.op = .load ty x)
    (g : Nat) (hx : a.eval x = .pointer (some ⟨g, 0, none⟩)) {t : TypeId} {cs : Array Value} {d : TypeDesc} (hg : Blk w g t cs)
    (hu : P.underlying ty = some d) (hd : (match d with | .struct _ | .array _ _ => true | _ => false) = true) (hi : (P.info? ty).map (·.size) = some cs.size)
    (h : wpList P ops Q rest (a.put o.dst (.agg cs)) w) : wpList P ops Q (o :: rest) a w :=
  wpList_step fun K hK => by rw [if_pos hw]; exact wp_load_row ty x ho g hx t cs (0, 0) d hg hu hd hi (hK _ _ h)
theorem Ret.ext {f : FuncId} {args : Array Value} {v : Value} {w W : World} (h : Calls P f args W (Ret v W)) (hW : Ext w W) : Calls P f args W (fun e w'' => e = .returned v ∧ Ext w w'') :=
  h.mono fun _ _ hh => ⟨hh.1, hW.trans hh.2⟩
end
end Go.Proofs.YtblfmokklfhklaaDoor


namespace Go.Proofs.YtblfmokklfhklaaDoor
open Go.RowKit
set_option linter.unusedVariables false
set_option linter.unusedSimpArgs false

/-- A later world. -/
structure Later (w : World) where
  x : World
  h : Ext w x
instance (w : World) : Nonempty (Later w) := ⟨⟨w, Mod.refl _ _⟩⟩
section
variable {P : Program} {w : World}
theorem Later.self (w : World) : ∃ e : Later w, w = e.x := ⟨⟨w, Mod.refl _ _⟩, rfl⟩
theorem Later.go (e : Later w) {y : World} (h : Ext e.x y) : ∃ e' : Later w, y = e'.x := ⟨⟨y, e.h.trans h⟩, rfl⟩
/-- What the walk keeps of a call that returns v. -/
def LRet (v : Value) (w : World) (e : Ending) (w' : World) : Prop := e = .returned v ∧ ∃ e' : Later w, w' = e'.x
theorem Ret.later {e : Later w} {f : FuncId} {args : Array Value} {v : Value} (h : Calls P f args e.x (Ret v e.x)) : Calls P f args e.x (fun r w' => r = .returned v ∧ ∃ e' : Later w, w' = e'.x) :=
  h.mono fun _ _ hh => ⟨hh.1, e.go hh.2⟩
theorem Ret.laterW {W : World} (hW : Ext w W) {f : FuncId} {args : Array Value} {v : Value} (h : Calls P f args W (Ret v W)) : Calls P f args W (fun r w' => r = .returned v ∧ ∃ e' : Later w, w' = e'.x) :=
  h.mono fun _ _ hh => ⟨hh.1, ⟨_, hW.trans hh.2⟩, rfl⟩
theorem Blk.later {g : Nat} {t : TypeId} {cs : Array Value} (h : Blk w g t cs) (e : Later w) : Blk e.x g t cs := h.ext e.h
theorem Blk.cellL {g : Nat} {t : TypeId} {cs : Array Value} (h : Blk w g t cs) (i : Nat) {v : Value} (hv : cs[i]? = some v) (e : Later w) : e.x.cell? ⟨g, i, none⟩ = some v := ((h.later e).cell i).trans hv
theorem Blk.newL (w : World) (t : TypeId) (cs : Array Value) {N : Nat} (h : w.heap.size = N) : Blk (w.alloc (.cells cs t)) N t cs := h ▸ Blk.new w t cs
theorem cellL {b o : Nat} {v : Value} (h : w.cell? ⟨b, o, none⟩ = some v) (e : Later w) : e.x.cell? ⟨b, o, none⟩ = some v := by
  have hb : b < w.heap.size := by
    rcases Nat.lt_or_ge b w.heap.size with hlt | hge
    · exact hlt
    · simp [World.cell?, Array.getElem?_eq_none hge] at h
  exact (e.h.cell hb (by simp)).trans h
/-- A drawn region of quiet operations, at a later world: one walk. -/
theorem wp_region_later {e : Later w} {id : Nat} {Q : Exit → Act → World → Prop} {a : Act} {l : List Oper} (hm : P.follows .mixedOrders = true) (hB : Region.lexB .any l.toArray = true)
    (h : wpQuiet P l.toArray (fun w' => ∃ e : Later w, w' = e.x) (fun a' => ∀ w', (∃ e : Later w, w' = e.x) → Q .normal a' w') l a) : (Code.region id l.toArray true).wp P Q a e.x :=
  wp_region_quiet (C := fun w' => ∃ e : Later w, w' = e.x) hm hB ⟨⟨_, e.h.drew⟩, rfl⟩ (by simpa using h)
/-- A struct is loaded out of the midst of a block. -/
theorem wpList_mid {ops : Array Oper} {rest : List Oper} {op : Oper} {a : Act} {W : World} {Q : Exit → Act → World → Prop} (hw : Region.wanted op (yielded ops a.tmps) = true) (ty : TypeId) (x : Operand) (ho : op.op = .load ty x)
    (b o : Nat) (hx : a.eval x = .pointer (some ⟨b, o, none⟩)) (cs : List Value) (d : TypeDesc) (hc : W.rangeAt b o cs)
    (hu : P.underlying ty = some d) (hd : d.isRow = true) (hi : (P.info? ty).map (·.size) = some cs.length)
    (h : wpList P ops Q rest (a.put op.dst (.agg cs.toArray)) W) : wpList P ops Q (op :: rest) a W :=
  wpList_step fun K hK => by rw [if_pos hw]; exact wp_load_mid ty x ho b o hx cs d hc hu hd hi (hK _ _ h)
theorem later_mid {ops : Array Oper} {rest : List Oper} {op : Oper} {a : Act} {Q : Act → Prop} (hw : Region.wanted op (yielded ops a.tmps) = true) (ty : TypeId) (x : Operand) (ho : op.op = .load ty x)
    (b o : Nat) (hx : a.eval x = .pointer (some ⟨b, o, none⟩)) (cs : List Value) (d : TypeDesc) (hc : ∀ e : Later w, e.x.rangeAt b o cs)
    (hu : P.underlying ty = some d) (hd : d.isRow = true) (hi : (P.info? ty).map (·.size) = some cs.length)
    (h : wpQuiet P ops (fun w' => ∃ e : Later w, w' = e.x) Q rest (a.put op.dst (.agg cs.toArray))) : wpQuiet P ops (fun w' => ∃ e : Later w, w' = e.x) Q (op :: rest) a :=
  wpQuiet_step fun K hK => by
    rw [if_pos hw]
    refine ⟨.agg cs.toArray, fun W ⟨e, he⟩ => ?_, hK _ h⟩
    subst he
    unfold Oper.quietAt execOp
    simp only [ho, hx, Instr.loadAt, Instr.sureAddr, Sem.run_bind, Sem.run_pure, Result.andThen_ok, run_loadVar_mid e.x b o ty cs d (hc e) hu hd hi]
    exact ⟨rfl, rfl⟩
/-- Part of a block that is known whole. -/
theorem Blk.range {g : Nat} {t : TypeId} {cs : Array Value} (h : Blk w g t cs) (o n : Nat) {l : List Value} (hl : (cs.extract o (o + n)).toList = l) (e : Later w) : e.x.rangeAt g o l := hl ▸ World.rangeAt_of_block (h.later e) o n
theorem yieldsIf_row {ops : Array Oper} {S : World → Prop} {op : Oper} {a : Act} (hw : Region.wanted op (yielded ops a.tmps) = true) (ty : TypeId) (x : Operand) (ho : op.op = .load ty x) (g : Nat) (hx : a.eval x = .pointer (some ⟨g, 0, none⟩))
    {t : TypeId} {cs : Array Value} {d : TypeDesc} (hS : ∀ w, S w → Blk w g t cs) (hu : P.underlying ty = some d) (hd : (match d with | .struct _ | .array _ _ => true | _ => false) = true)
    (hi : (P.info? ty).map (·.size) = some cs.size) : YieldsIf P ops S op (.agg cs) a :=
  .inl ⟨hw, fun w hw' => by
    unfold execOp
    simp only [ho, hx, Instr.loadAt, Instr.sureAddr, Sem.run_bind, Sem.run_pure, Result.andThen_ok, run_loadVar_row w g t ty cs (0, 0) d (hS w hw') hu hd hi]⟩
theorem yieldsIf_cat {ops : Array Oper} {S : World → Prop} {o : Oper} {a : Act} (hw : Region.wanted o (yielded ops a.tmps) = true) (ty t2 : TypeId) (x y : Operand) (ho : o.op = .binOp .add ty x y t2) (l1 l2 : List UInt8) (hx : a.eval x = str l1) (hy : a.eval y = str l2)
    (hl : l1.length + l2.length ≤ 9223372036854775807) : YieldsIf P ops S o (str (l1 ++ l2)) a :=
  .inl ⟨hw, fun w hw' => by
    have hl' : ¬ 9223372036854775807 < l1.length + l2.length := by omega
    unfold execOp
    simp only [ho, hx, hy]
    simp [go_sem, hl']
    rw [ByteArray.mk_append_mk]⟩
theorem later_row {ops : Array Oper} {rest : List Oper} {o : Oper} {a : Act} {Q : Act → Prop} (hw : Region.wanted o (yielded ops a.tmps) = true) (ty : TypeId) (x : Operand) (ho : o.op = .load ty x) (g : Nat) (hx : a.eval x = .pointer (some ⟨g, 0, none⟩))
    {t : TypeId} {cs : Array Value} {d : TypeDesc} (hg : ∀ e : Later w, Blk e.x g t cs) (hu : P.underlying ty = some d) (hd : (match d with | .struct _ | .array _ _ => true | _ => false) = true)
    (hi : (P.info? ty).map (·.size) = some cs.size) (h : wpQuiet P ops (fun w' => ∃ e : Later w, w' = e.x) Q rest (a.put o.dst (.agg cs))) : wpQuiet P ops (fun w' => ∃ e : Later w, w' = e.x) Q (o :: rest) a :=
  q_row hw ty x ho g hx (fun w ⟨e, he⟩ => he ▸ hg e) hu hd hi h
end
end Go.Proofs.YtblfmokklfhklaaDoor


namespace Go.Proofs.YtblfmokklfhklaaDoor
open Go.RowKit
set_option linter.unusedVariables false
set_option linter.unusedSimpArgs false

/-- The row's cells: the first i elements'. -/
def flatG (f : Nat → List Value) : Nat → List Value
  | 0 => []
  | i + 1 => flatG f i ++ f i
section
variable {f g : Nat → List Value} {z : Nat}
theorem flatG_length (hf : ∀ i, (f i).length = z) (i : Nat) : (flatG f i).length = i * z := by
  induction i with
  | zero => simp [flatG]
  | succ i ih => rw [flatG, List.length_append, ih, hf, Nat.succ_mul]
theorem flatG_congr {i : Nat} (h : ∀ j, j < i → f j = g j) : flatG f i = flatG g i := by
  induction i with
  | zero => rfl
  | succ i ih => rw [flatG, flatG, ih (fun j hj => h j (by omega)), h i (by omega)]
theorem flatG_get (hf : ∀ i, (f i).length = z) (k : Nat) : ∀ j, j < k → ∀ r, r < z → (flatG f k)[j * z + r]? = (f j)[r]? := by
  induction k with
  | zero => intro j hj; omega
  | succ k ih =>
    intro j hj r hr
    have hl := flatG_length hf k
    rw [flatG]
    by_cases e : j = k
    · subst e
      rw [List.getElem?_append_right (by omega), hl]
      congr 1; omega
    · have h1 : (j + 1) * z ≤ k * z := Nat.mul_le_mul_right z (by omega)
      rw [Nat.succ_mul] at h1
      rw [List.getElem?_append_left (by omega), ih j (by omega) r hr]
theorem flatG_idx (hz : 0 < z) (hf : ∀ i, (f i).length = z) (k : Nat) {j : Nat} {u : Value} (h : (flatG f k)[j]? = some u) : ∃ i r, i < k ∧ r < z ∧ j = i * z + r ∧ (f i)[r]? = some u := by
  have h1 := (List.getElem?_eq_some_iff.1 h).1
  rw [flatG_length hf] at h1
  have hi : j / z < k := Nat.div_lt_of_lt_mul (by rw [Nat.mul_comm]; exact h1)
  have hr : j % z < z := Nat.mod_lt _ hz
  have he : j = j / z * z + j % z := by have := Nat.div_add_mod j z; rw [Nat.mul_comm] at this; omega
  refine ⟨j / z, j % z, hi, hr, he, ?_⟩
  rw [← flatG_get hf k _ hi _ hr, ← he]; exact h
theorem flatG_one (hz : 0 < z) (hf : ∀ i, (f i).length = z) (h1 : ∀ i, ∀ u ∈ f i, u.oneCell' = true) (k : Nat) : ∀ u ∈ flatG f k, u.oneCell' = true := by
  intro u hu
  obtain ⟨j, hj⟩ := List.getElem?_of_mem hu
  obtain ⟨i, r, _, _, _, h⟩ := flatG_idx hz hf k hj
  exact h1 i u (List.mem_of_getElem? h)
theorem flatG_news (hz : 0 < z) (hf : ∀ i, (f i).length = z) {W : World} {b o k : Nat} (h : ∀ i, i < k → ∀ r u, (f i)[r]? = some u → W.cell? ⟨b, o + i * z + r, none⟩ = some u) : ∀ j u, (flatG f k)[j]? = some u → W.cell? ((⟨b, o, none⟩ : Addr).add j) = some u := by
  intro j u hj
  obtain ⟨i, r, hi, hr, rfl, hu⟩ := flatG_idx hz hf k hj
  rw [addr_add, ← Nat.add_assoc]
  exact h i hi r u hu
theorem flatG_own {W : World} {base b c k : Nat} {e : TypeId} (hf : ∀ i, (f i).length = z) (h : W.ownsRow base e z (.slice (some ⟨b, 0, none⟩) k c) k (flatG f k)) {i : Nat} (hi : i < k) {r : Nat} (hr : r < z) {u : Value} (hu : (f i)[r]? = some u) : W.cell? ⟨b, i * z + r, none⟩ = some u := by
  have := h.cells (g := b) rfl (i * z + r) u (by rw [flatG_get hf k i hi r hr]; exact hu)
  rw [addr_add, Nat.zero_add] at this
  exact this
end
theorem own_cap {w : World} {base size n c : Nat} {e : TypeId} {A : Option Addr} {xs : List Value} (h : w.ownsRow base e size (.slice A n c) n xs) : n ≤ c := by
  rcases h.2 with ⟨h1, h2⟩ | ⟨g, cap, cur, hv, hbg, hg, hnc, hcm, hcs, htake⟩
  · simp only [Value.slice.injEq] at h1; omega
  · simp only [Value.slice.injEq] at hv; omega
end Go.Proofs.YtblfmokklfhklaaDoor


namespace Go.Proofs.YtblfmokklfhklaaDoor
open Go.RowKit
set_option linter.unusedVariables false
set_option linter.unusedSimpArgs false

/-- A row of numbers in memory. -/
def NsL (w : World) (A : Option Addr) (k : Nat) (f : Nat → Int) : Prop := 0 < k → ∃ b o, A = some ⟨b, o, none⟩ ∧ b < w.heap.size ∧ ∀ i, i < k → w.cell? ⟨b, o + i, none⟩ = some (.int .i64 (f i))
/-- A pair's six cells; a row of pairs. -/
def At6 (w : World) (b o : Nat) (p : PR) (A : Option Addr) (c : Nat) : Prop := w.cell? ⟨b, o, none⟩ = some (.int .i64 p.id) ∧ w.cell? ⟨b, o + 1, none⟩ = some (.int .i64 p.t.kind) ∧ w.cell? ⟨b, o + 2, none⟩ = some (.int .u64 (p.t.n : Int)) ∧ w.cell? ⟨b, o + 3, none⟩ = some (str p.t.s) ∧ w.cell? ⟨b, o + 4, none⟩ = some (.slice A p.t.k c) ∧ w.cell? ⟨b, o + 5, none⟩ = some (.bool p.t.op)
theorem At6.five {w : World} {b o : Nat} {p : PR} {A : Option Addr} {c : Nat} (h : At6 w b o p A c) : At5 w b (o + 1) p.t A c := ⟨h.2.1, h.2.2.1, h.2.2.2.1, h.2.2.2.2.1, h.2.2.2.2.2⟩
def PsL (w : World) (Q : Nat → Prop) (A : Option Addr) (p : PL) : Prop := 0 < p.k → ∃ b o, A = some ⟨b, o, none⟩ ∧ b < w.heap.size ∧ Q b ∧ ∀ i, i < p.k → ∃ Ai ci, At6 w b (o + i * 6) (p.a i) Ai ci ∧ IsL w Q (p.a i).t Ai
/-- A row of rows of pairs. -/
def RsL (w : World) (Q : Nat → Prop) (A : Option Addr) (k : Nat) (f : Nat → PL) : Prop := 0 < k → ∃ b o, A = some ⟨b, o, none⟩ ∧ b < w.heap.size ∧ Q b ∧ ∀ i, i < k → ∃ Ai ci, w.cell? ⟨b, o + i, none⟩ = some (.slice Ai (f i).k ci) ∧ (f i).k ≤ ci ∧ PsL w Q Ai (f i)
abbrev anyQ : Nat → Prop := fun _ => True
theorem NsL.mod {S : List Nat} {w w' : World} {A : Option Addr} {k : Nat} {f : Nat → Int} (h : NsL w A k f) (hm : Mod S w w') (hs : ∀ b o, A = some ⟨b, o, none⟩ → b < w.heap.size → b ∉ S) : NsL w' A k f := fun h0 => by
  obtain ⟨b, o, hA, hb, hc⟩ := h h0
  exact ⟨b, o, hA, Nat.lt_of_lt_of_le hb hm.size, fun i hi => (hm.cell hb (hs b o hA hb)).trans (hc i hi)⟩
theorem NsL.ext {w w' : World} {A : Option Addr} {k : Nat} {f : Nat → Int} (h : NsL w A k f) (hm : Ext w w') : NsL w' A k f := h.mod hm (by simp)
theorem At6.mod {S : List Nat} {w w' : World} {b o : Nat} {p : PR} {A : Option Addr} {c : Nat} (h : At6 w b o p A c) (hm : Mod S w w') (hb : b < w.heap.size) (hs : b ∉ S) : At6 w' b o p A c := by
  obtain ⟨h0, h1, h2, h3, h4, h5⟩ := h
  exact ⟨(hm.cell hb hs).trans h0, (hm.cell hb hs).trans h1, (hm.cell hb hs).trans h2, (hm.cell hb hs).trans h3, (hm.cell hb hs).trans h4, (hm.cell hb hs).trans h5⟩
theorem PsL.mod {S : List Nat} {Q : Nat → Prop} {w w' : World} {A : Option Addr} {p : PL} (h : PsL w Q A p) (hm : Mod S w w') (hs : ∀ k, Q k → k < w.heap.size → k ∉ S) : PsL w' Q A p := fun h0 => by
  obtain ⟨b, o, hA, hb, hq, hc⟩ := h h0
  refine ⟨b, o, hA, Nat.lt_of_lt_of_le hb hm.size, hq, fun i hi => ?_⟩
  obtain ⟨Ai, ci, h1, h2⟩ := hc i hi
  exact ⟨Ai, ci, h1.mod hm hb (hs b hq hb), IsL.mod hm hs _ h2⟩
theorem PsL.ext {Q : Nat → Prop} {w w' : World} {A : Option Addr} {p : PL} (h : PsL w Q A p) (hm : Ext w w') : PsL w' Q A p := h.mod hm (by simp)
theorem PsL.weak {Q R : Nat → Prop} {w : World} {A : Option Addr} {p : PL} (h : PsL w Q A p) (hq : ∀ k, k < w.heap.size → Q k → R k) : PsL w R A p := fun h0 => by
  obtain ⟨b, o, hA, hb, hqb, hc⟩ := h h0
  refine ⟨b, o, hA, hb, hq b hb hqb, fun i hi => ?_⟩
  obtain ⟨Ai, ci, h1, h2⟩ := hc i hi
  exact ⟨Ai, ci, h1, IsL.weak hq _ h2⟩
theorem RsL.mod {S : List Nat} {Q : Nat → Prop} {w w' : World} {A : Option Addr} {k : Nat} {f : Nat → PL} (h : RsL w Q A k f) (hm : Mod S w w') (hs : ∀ k, Q k → k < w.heap.size → k ∉ S) : RsL w' Q A k f := fun h0 => by
  obtain ⟨b, o, hA, hb, hq, hc⟩ := h h0
  refine ⟨b, o, hA, Nat.lt_of_lt_of_le hb hm.size, hq, fun i hi => ?_⟩
  obtain ⟨Ai, ci, h1, hkc, h2⟩ := hc i hi
  exact ⟨Ai, ci, (hm.cell hb (hs b hq hb)).trans h1, hkc, h2.mod hm hs⟩
theorem RsL.ext {Q : Nat → Prop} {w w' : World} {A : Option Addr} {k : Nat} {f : Nat → PL} (h : RsL w Q A k f) (hm : Ext w w') : RsL w' Q A k f := h.mod hm (by simp)
theorem RsL.weak {Q R : Nat → Prop} {w : World} {A : Option Addr} {k : Nat} {f : Nat → PL} (h : RsL w Q A k f) (hq : ∀ k, k < w.heap.size → Q k → R k) : RsL w R A k f := fun h0 => by
  obtain ⟨b, o, hA, hb, hqb, hc⟩ := h h0
  refine ⟨b, o, hA, hb, hq b hb hqb, fun i hi => ?_⟩
  obtain ⟨Ai, ci, h1, hkc, h2⟩ := hc i hi
  exact ⟨Ai, ci, h1, hkc, h2.weak hq⟩
/-- A pair's cells, as values. -/
abbrev prC (p : PR) (A : Option Addr) (c : Nat) : Array Value := #[.int .i64 p.id, .int .i64 p.t.kind, .int .u64 (p.t.n : Int), str p.t.s, .slice A p.t.k c, .bool p.t.op]
/-- A security text's cells. -/
structure AA where
  t : Option Addr
  tc : Nat
  p : Option Addr
  pc : Nat
  r : Option Addr
  rc : Nat
abbrev asbC (a : AV) (m : AA) : Array Value := #[.slice m.t a.tk m.tc, .int .i64 a.ctx, .int .i64 a.src.sch, str a.src.name, .int .u64 (a.src.node : Int), .int .u64 (a.src.svc : Int), .slice m.p a.ps.k m.pc, .slice m.r a.rk m.rc]
abbrev asbV (a : AV) (m : AA) : Value := .agg (asbC a m)
/-- It lies in memory, in blocks of Q alone. -/
structure AsL (w : World) (Q : Nat → Prop) (a : AV) (m : AA) : Prop where
  t : NsL w m.t a.tk a.tg
  tq : ∀ b o, m.t = some ⟨b, o, none⟩ → 0 < a.tk → Q b
  p : PsL w Q m.p a.ps
  r : RsL w Q m.r a.rk a.rs
theorem AsL.mod {S : List Nat} {Q : Nat → Prop} {w w' : World} {a : AV} {m : AA} (h : AsL w Q a m) (hm : Mod S w w') (hs : ∀ k, Q k → k < w.heap.size → k ∉ S) : AsL w' Q a m :=
  ⟨fun h0 => by
    obtain ⟨b, o, hA, hb, hc⟩ := h.t h0
    exact ⟨b, o, hA, Nat.lt_of_lt_of_le hb hm.size, fun i hi => (hm.cell hb (hs b (h.tq b o hA h0) hb)).trans (hc i hi)⟩, h.tq, h.p.mod hm hs, h.r.mod hm hs⟩
theorem AsL.ext {Q : Nat → Prop} {w w' : World} {a : AV} {m : AA} (h : AsL w Q a m) (hm : Ext w w') : AsL w' Q a m := h.mod hm (by simp)

theorem coded_any (n : Int) (w : World) : Calls Tryd.prog 34 #[.int .i64 n] w (fun e w' => e = .returned (.bool (codedB n)) ∧ w' = w) := by
  go_enter Tryd.func34, Tryd.ntmps34
  go_wp2
  all_goals go_ret
  all_goals exact ⟨ret_bool (by unfold codedB; rw [Bool.eq_iff_iff]; simp [*]; try omega), rfl⟩
/-- Where a number is. -/
def isN (f : Nat → Int) (x : Int) (i : Nat) : Bool := x == f i
set_option maxHeartbeats 800000 in
theorem IndexN_any (A : Option Addr) (f : Nat → Int) (k c : Nat) (x : Int) (hk : k < 4611686018427387904) (w : World) (h : NsL w A k f) :
    Calls Tryd.prog 71 #[.slice A k c, .int .i64 x] w (Ret (.int .i64 (firstI (isN f x) k)) w) := by
  have H := hid h; have HK := hid hk
  clear h hk
  have k1 : (k : Int) < 4611686018427387904 := by have := HK.out; omega
  go_enter Tryd.func71, Tryd.ntmps71
  go_upto_region 2 with fail
  go_loopw [8] (fun s8 wr => ∃ j : Nat, j ≤ k ∧ s8 = .int .i64 (j : Int) ∧ wr = w ∧ Hid (∀ i, i < j → isN f x i = false)) (fun s8 _ => k - (intOf s8).toNat)
  case atStart => exact ⟨0, Nat.zero_le _, rfl, rfl, fun i h => absurd h (Nat.not_lt_zero _)⟩
  case round =>
    obtain ⟨j, hj, rfl, rfl, hno⟩ := hrel
    have j0 : (0 : Int) ≤ (j : Int) := by omega
    by_cases hlt : j < k
    · obtain ⟨b, o, rfl, hb, hc⟩ := H.out (by omega)
      have c0 := hc j hlt
      have j1 : (j : Int) < (k : Int) := by omega
      have tc : decide (j < k) = true := by simp [hlt]
      clear hc
      cases hq : isN f x j with
      | true =>
        have HQ := hid hq
        have tq : (x == f j) = true := hq
        have tq2 : (x = f j) = True := by rw [beq_iff_eq] at tq; exact eq_true tq
        clear hq
        go_wp2_with fail
        go_ret
        refine Ret.mk ?_ (Mod.refl _ _)
        unfold firstI
        rw [firstOf_some hlt HQ.out hno.out]; rfl
      | false =>
        have HQ := hid hq
        have tq : (x == f j) = false := hq
        have tq2 : (x = f j) = False := by rw [beq_eq_false_iff_ne] at tq; exact eq_false tq
        clear hq
        go_wp2_with fail
        go_roundw
        case rel =>
          refine ⟨j + 1, by omega, by go_num, by trivial, (show Hid _ from fun i hi => ?_)⟩
          by_cases e : i = j
          · subst e; exact HQ.out
          · exact hno.out i (by omega)
        case measure => simp [intOf]; omega
    · obtain rfl : j = k := by omega
      have tc : decide (j < j) = false := by simp
      go_wp2_with fail
      go_ret
      refine Ret.mk ?_ (Mod.refl _ _)
      unfold firstI
      rw [firstOf_none hno.out]; rfl
theorem firstI_is {p : Nat → Bool} {k : Nat} : decide (0 ≤ firstI p k) = (firstOf p k).isSome := by
  unfold firstI
  cases firstOf p k <;> simp
set_option maxHeartbeats 800000 in
theorem ContainsN_any (A : Option Addr) (f : Nat → Int) (k c : Nat) (x : Int) (hk : k < 4611686018427387904) (w : World) (h : NsL w A k f) :
    Calls Tryd.prog 56 #[.slice A k c, .int .i64 x] w (Ret (.bool (firstOf (isN f x) k).isSome) w) := by
  have K := hid (IndexN_any A f k c x hk w h)
  have hX := hid (firstI_is (p := isN f x) (k := k))
  generalize firstI (isN f x) k = X at *
  generalize (firstOf (isN f x) k).isSome = B at *
  clear h
  go_enter Tryd.func56, Tryd.ntmps56
  go_wp2_with (go_at_call 71; refine K.out.mono ?_; rintro e w' ⟨rfl, hb'⟩)
  go_ret
  exact Ret.mk (congrArg Value.bool hX.out) hb'
theorem contains_all {f : Nat → Int} {x : Int} {k : Nat} : (firstOf (isN f x) k).isSome = !(T.all (fun j => decide (f j ≠ x)) k) := by
  cases h : firstOf (isN f x) k with
  | none =>
    have := firstOf_no h
    have h2 : T.all (fun j => decide (f j ≠ x)) k = true := T.all_iff.2 fun i hi => by
      have := this i hi
      unfold isN at this
      rw [beq_eq_false_iff_ne] at this
      simpa using fun e => this e.symm
    rw [h2]; rfl
  | some i =>
    obtain ⟨h1, h2, _⟩ := firstOf_spec h
    have h3 : T.all (fun j => decide (f j ≠ x)) k = false := by
      cases hh : T.all (fun j => decide (f j ≠ x)) k with
      | false => rfl
      | true =>
        have := T.all_iff.1 hh i h1
        unfold isN at h2
        rw [beq_iff_eq] at h2
        simp [h2] at this
    rw [h3]; rfl
end Go.Proofs.YtblfmokklfhklaaDoor


namespace Go.Proofs.YtblfmokklfhklaaDoor
open Go.RowKit
set_option linter.unusedVariables false
set_option linter.unusedSimpArgs false

theorem infoItem : (Tryd.prog.info? 36).map (fun i => (i.zero, i.size, i.bytes)) = some (some (.agg #[.int .i64 0, .int .u64 0, .string ⟨#[]⟩, .slice none 0 0, .bool false]), 5, 64) := by kernel_rfl

theorem ownsRow_mod {w w' : World} {S : List Nat} {base : Nat} {e : TypeId} {size : Nat} {v : Value} {n : Nat} {xs : List Value} (h : w.ownsRow base e size v n xs) (hm : Mod S w w') (hs : ∀ k, v.ownBlock = some k → k ∉ S) : w'.ownsRow base e size v n xs := by
  refine ⟨h.1, ?_⟩
  have hlt := h.lt
  rcases h.2 with h0 | ⟨g, cap, cur, rfl, hbg, hg, hnc, hcm, hcs, htake⟩
  · exact .inl h0
  · exact .inr ⟨g, cap, cur, rfl, hbg, (hm.block g (hlt g rfl).2 (hs g rfl)).trans hg, hnc, hcm, hcs, htake⟩

theorem own_form {w : World} {base : Nat} {e : TypeId} {size : Nat} {v : Value} {n : Nat} {xs : List Value} (h : w.ownsRow base e size v (n + 1) xs) : ∃ g c, v = .slice (some ⟨g, 0, none⟩) (n + 1) c ∧ base ≤ g ∧ g < w.heap.size := by
  have hlt := h.lt
  rcases h.2 with ⟨_, h0⟩ | ⟨g, cap, cur, rfl, hbg, hg, _⟩
  · cases h0
  · exact ⟨g, cap, rfl, hbg, (hlt g rfl).2⟩
theorem news5 (W : World) (t : T) (A : Option Addr) (c : Nat) : ∀ j u, [Value.int .i64 t.kind, .int .u64 (t.n : Int), str t.s, .slice A t.k c, .bool t.op][j]? = some u →
    (W.alloc (.cells (itemC t A c) 36)).cell? ((⟨W.heap.size, 0, none⟩ : Addr).add j) = some u := by
  intro j u hj
  rw [addr_add, Nat.zero_add]
  rw [(Blk.new W 36 (itemC t A c)).cell j]
  simpa using hj
theorem one5 (t : T) (A : Option Addr) (c : Nat) : ∀ u ∈ [Value.int .i64 t.kind, .int .u64 (t.n : Int), str t.s, .slice A t.k c, .bool t.op], u.oneCell' = true := by
  intro u hu
  simp at hu
  rcases hu with rfl | rfl | rfl | rfl | rfl <;> rfl

theorem own_of_blk {w : World} {g base n size : Nat} {e : TypeId} {cs : Array Value} (h : Blk w g e cs) (hb : base ≤ g) (hn : n ≤ maxLen) (hs : cs.size = n * size) : w.ownsRow base e size (.slice (some ⟨g, 0, none⟩) n n) n cs.toList :=
  ⟨by simpa using hs, .inr ⟨g, n, cs, rfl, hb, h, Nat.le_refl _, hn, hs, by rw [← hs]; exact List.take_of_length_le (by simp)⟩⟩
theorem own_cells {w : World} {g base n c size : Nat} {e : TypeId} {xs : List Value} (h : w.ownsRow base e size (.slice (some ⟨g, 0, none⟩) n c) n xs) {j : Nat} {u : Value} (hj : xs[j]? = some u) : w.cell? ⟨g, j, none⟩ = some u := by
  have := h.cells (g := g) rfl j u hj
  rw [addr_add, Nat.zero_add] at this
  exact this
/-- The row's cells: the first i items'. -/
def flatC (ch : Nat → T) (ac : Nat → Option Addr × Nat) : Nat → List Value
  | 0 => []
  | i + 1 => flatC ch ac i ++ [.int .i64 (ch i).kind, .int .u64 ((ch i).n : Int), str (ch i).s, .slice (ac i).1 (ch i).k (ac i).2, .bool (ch i).op]
theorem flatC_length (ch : Nat → T) (ac : Nat → Option Addr × Nat) (i : Nat) : (flatC ch ac i).length = i * 5 := by
  induction i with
  | zero => rfl
  | succ i ih => rw [flatC, List.length_append, ih]; simp; omega
theorem flatC_congr {ch ch' : Nat → T} {ac ac' : Nat → Option Addr × Nat} {i : Nat} (h : ∀ j, j < i → ch j = ch' j ∧ ac j = ac' j) : flatC ch ac i = flatC ch' ac' i := by
  induction i with
  | zero => rfl
  | succ i ih => rw [flatC, flatC, ih (fun j hj => h j (by omega)), (h i (by omega)).1, (h i (by omega)).2]
theorem flatC_get (ch : Nat → T) (ac : Nat → Option Addr × Nat) (i : Nat) : ∀ j, j < i → (flatC ch ac i)[j * 5]? = some (.int .i64 (ch j).kind) ∧ (flatC ch ac i)[j * 5 + 1]? = some (.int .u64 ((ch j).n : Int)) ∧ (flatC ch ac i)[j * 5 + 2]? = some (str (ch j).s) ∧
    (flatC ch ac i)[j * 5 + 3]? = some (.slice (ac j).1 (ch j).k (ac j).2) ∧ (flatC ch ac i)[j * 5 + 4]? = some (.bool (ch j).op) := by
  induction i with
  | zero => intro j hj; omega
  | succ i ih =>
    intro j hj
    have hl := flatC_length ch ac i
    rw [flatC]
    by_cases e : j = i
    · subst e
      refine ⟨?_, ?_, ?_, ?_, ?_⟩ <;> (rw [List.getElem?_append_right (by omega), hl]; simp)
    · have := ih j (by omega)
      refine ⟨?_, ?_, ?_, ?_, ?_⟩ <;> rw [List.getElem?_append_left (by omega)]
      · exact this.1
      · exact this.2.1
      · exact this.2.2.1
      · exact this.2.2.2.1
      · exact this.2.2.2.2

theorem flatC_idx (ch : Nat → T) (ac : Nat → Option Addr × Nat) (k : Nat) {j : Nat} {u : Value} (h : (flatC ch ac k)[j]? = some u) : ∃ i r, i < k ∧ r < 5 ∧ j = i * 5 + r := by
  have := (List.getElem?_eq_some_iff.1 h).1
  rw [flatC_length] at this
  exact ⟨j / 5, j % 5, by omega, by omega, by omega⟩
theorem flatC_news {W : World} {b o : Nat} {ch : Nat → T} {ac : Nat → Option Addr × Nat} {k : Nat} (h : ∀ i, i < k → At5 W b (o + i * 5) (ch i) (ac i).1 (ac i).2) : ∀ j u, (flatC ch ac k)[j]? = some u → W.cell? ((⟨b, o, none⟩ : Addr).add j) = some u := by
  intro j u hj
  obtain ⟨i, r, hi, hr, rfl⟩ := flatC_idx ch ac k hj
  obtain ⟨g0, g1, g2, g3, g4⟩ := flatC_get ch ac k i hi
  obtain ⟨a0, a1, a2, a3, a4⟩ := h i hi
  rw [addr_add, ← Nat.add_assoc]
  have h5 : r = 0 ∨ r = 1 ∨ r = 2 ∨ r = 3 ∨ r = 4 := by omega
  rcases h5 with rfl | rfl | rfl | rfl | rfl
  · rw [← hj, Nat.add_zero, Nat.add_zero, g0]; exact a0
  · rw [← hj, g1]; exact a1
  · rw [← hj, g2]; exact a2
  · rw [← hj, g3]; exact a3
  · rw [← hj, g4]; exact a4
theorem flatC_one (ch : Nat → T) (ac : Nat → Option Addr × Nat) (k : Nat) : ∀ u ∈ flatC ch ac k, u.oneCell' = true := by
  intro u hu
  obtain ⟨j, hj⟩ := List.getElem?_of_mem hu
  obtain ⟨i, r, hi, hr, rfl⟩ := flatC_idx ch ac k hj
  obtain ⟨g0, g1, g2, g3, g4⟩ := flatC_get ch ac k i hi
  have h5 : r = 0 ∨ r = 1 ∨ r = 2 ∨ r = 3 ∨ r = 4 := by omega
  rcases h5 with rfl | rfl | rfl | rfl | rfl
  · rw [Nat.add_zero, g0] at hj; cases hj; rfl
  · rw [g1] at hj; cases hj; rfl
  · rw [g2] at hj; cases hj; rfl
  · rw [g3] at hj; cases hj; rfl
  · rw [g4] at hj; cases hj; rfl
theorem IsL.rows {W : World} {Q : Nat → Prop} {kind : Int} {n : Nat} {s : List UInt8} {op : Bool} {k : Nat} {ch : Nat → T} {A : Option Addr} (h : IsL W Q (T.mk kind n s op k ch) A) (hk : 0 < k) :
    ∃ (b o : Nat) (ac : Nat → Option Addr × Nat), A = some ⟨b, o, none⟩ ∧ b < W.heap.size ∧ Q b ∧ ∀ i, i < k → At5 W b (o + i * 5) (ch i) (ac i).1 (ac i).2 ∧ IsL W Q (ch i) (ac i).1 := by
  obtain ⟨b, o, hA, hb, hq, hc⟩ := h hk
  have hex : ∀ i, ∃ p : Option Addr × Nat, i < k → At5 W b (o + i * 5) (ch i) p.1 p.2 ∧ IsL W Q (ch i) p.1 := fun i => by
    by_cases hi : i < k
    · obtain ⟨Ai, ci, h1, h2⟩ := hc i hi
      exact ⟨(Ai, ci), fun _ => ⟨h1, h2⟩⟩
    · exact ⟨(none, 0), fun h => absurd h hi⟩
  exact ⟨b, o, fun i => (hex i).choose, hA, hb, hq, fun i hi => (hex i).choose_spec hi⟩
theorem own_IsL {W : World} {Q : Nat → Prop} {base g c k : Nat} {ch : Nat → T} {ac : Nat → Option Addr × Nat} (hlt : g < W.heap.size) (q : Q g) (h : W.ownsRow base 36 5 (.slice (some ⟨g, 0, none⟩) k c) k (flatC ch ac k)) (hI : ∀ i, i < k → IsL W Q (ch i) (ac i).1) : IsL W Q (T.mk 4 0 [] false k ch) (some ⟨g, 0, none⟩) := fun _ => ⟨g, 0, rfl, hlt, q, fun i hi => by
  obtain ⟨g0, g1, g2, g3, g4⟩ := flatC_get ch ac k i hi
  refine ⟨(ac i).1, (ac i).2, ⟨?_, ?_, ?_, ?_, ?_⟩, hI i hi⟩
  · rw [Nat.zero_add]; exact own_cells h g0
  · rw [Nat.zero_add]; exact own_cells h g1
  · rw [Nat.zero_add]; exact own_cells h g2
  · rw [Nat.zero_add]; exact own_cells h g3
  · rw [Nat.zero_add]; exact own_cells h g4⟩
/-- The last item's five cells, stored anew. -/
theorem own_last {W : World} {base g c n : Nat} {ch : Nat → T} {ac : Nat → Option Addr × Nat} (t : T) (A : Option Addr) (ca : Nat) (h : W.ownsRow base 36 5 (.slice (some ⟨g, 0, none⟩) (n + 1) c) (n + 1) (flatC ch ac (n + 1))) :
    (((((W.setCell ⟨g, n * 5, none⟩ (.int .i64 t.kind)).setCell ⟨g, n * 5 + 1, none⟩ (.int .u64 (t.n : Int))).setCell ⟨g, n * 5 + 2, none⟩ (str t.s)).setCell ⟨g, n * 5 + 3, none⟩ (.slice A t.k ca)).setCell ⟨g, n * 5 + 4, none⟩ (.bool t.op)).ownsRow base 36 5 (.slice (some ⟨g, 0, none⟩) (n + 1) c) (n + 1)
      (flatC (fun i => if i = n then t else ch i) (fun i => if i = n then (A, ca) else ac i) (n + 1)) := by
  have h5 := ((((h.stored (n * 5) (.int .i64 t.kind)).1.stored (n * 5 + 1) (.int .u64 (t.n : Int))).1.stored (n * 5 + 2) (str t.s)).1.stored (n * 5 + 3) (.slice A t.k ca)).1.stored (n * 5 + 4) (.bool t.op)
  have hl := flatC_length ch ac n
  have e : (((((flatC ch ac (n + 1)).set (n * 5) (.int .i64 t.kind)).set (n * 5 + 1) (.int .u64 (t.n : Int))).set (n * 5 + 2) (str t.s)).set (n * 5 + 3) (.slice A t.k ca)).set (n * 5 + 4) (.bool t.op) = flatC (fun i => if i = n then t else ch i) (fun i => if i = n then (A, ca) else ac i) (n + 1) := by
    have hc : flatC (fun i => if i = n then t else ch i) (fun i => if i = n then (A, ca) else ac i) n = flatC ch ac n := flatC_congr fun j hj => by
      have : ¬ j = n := by omega
      simp [this]
    rw [flatC, flatC, hc, ← hl]
    simp
  rw [e] at h5
  exact h5.1
end Go.Proofs.YtblfmokklfhklaaDoor


namespace Go.Proofs.YtblfmokklfhklaaDoor
open Go.RowKit
set_option linter.unusedVariables false
set_option linter.unusedSimpArgs false

def fitB (f : Nat → Int) (i : Nat) : Bool := codedB (f i) && !(firstOf (isN f (f i)) i).isSome
theorem unlike_fit (f : Nat → Int) (k : Nat) : unlikeB f k = T.all (fitB f) k := by
  unfold unlikeB fitB
  congr 1
  funext i
  rw [contains_all, Bool.not_not]
theorem all_no {f : Nat → Bool} {k i : Nat} (hi : i < k) (h : f i = false) : T.all f k = false := by
  cases hh : T.all f k with
  | false => rfl
  | true => have := T.all_iff.1 hh i hi; rw [h] at this; cases this
theorem NsL.take {w : World} {A : Option Addr} {k : Nat} {f : Nat → Int} (h : NsL w A k f) {i : Nat} (hi : i ≤ k) : NsL w A i f := fun h0 => by
  obtain ⟨b, o, hA, hb, hc⟩ := h (by omega)
  exact ⟨b, o, hA, hb, fun j hj => hc j (by omega)⟩
set_option maxHeartbeats 1600000 in
set_option maxRecDepth 20000 in
theorem unlike_any (A : Option Addr) (f : Nat → Int) (k c : Nat) (hk : k < 4611686018427387904) (hkc : k ≤ c) (w : World) (h : NsL w A k f) :
    Calls Tryd.prog 33 #[.slice A k c] w (Ret (.bool (unlikeB f k)) w) := by
  rw [unlike_fit]
  have HL := hid h
  have HK := hid hk
  have HKC := hid hkc
  have k1 : (k : Int) < 4611686018427387904 := by omega
  clear h hk hkc
  obtain ⟨e0, he0⟩ := Later.self w
  go_enter Tryd.func33, Tryd.ntmps33
  go_wp2_with fail
  go_loopw [7] (fun s7 wr => ∃ i : Nat, s7 = .int .i64 (i : Int) ∧ Hid (i ≤ k ∧ T.all (fitB f) i = true) ∧ ∃ e : Later w, wr = e.x) (fun s7 _ => k - (intOf s7).toNat)
  case atStart => exact ⟨0, rfl, (show Hid _ from ⟨Nat.zero_le _, rfl⟩), e0, (by first | exact he0 | rfl)⟩
  case round =>
    clear he0 e0
    obtain ⟨i, rfl, hi, e, rfl⟩ := hrel
    have i0 : (0 : Int) ≤ (i : Int) := by omega
    by_cases hlt : i < k
    · obtain ⟨b, o, rfl, hb, hc⟩ := HL.out (by omega)
      have c0 : e.x.cell? ⟨b, o + i, none⟩ = some (.int .i64 (f i)) := (e.h.cell hb (by simp)).trans (hc i hlt)
      have tc : decide (i < k) = true := by simp [hlt]
      have i1 : (i : Int) < (k : Int) := by omega
      have i2 : (i : Int) ≤ (c : Int) := by have := HKC.out; omega
      have i3 : i ≤ c := by have := HKC.out; omega
      have HLT := hid hlt
      have KC := hid (fun W => coded_any (f i) W)
      have KN := hid (fun e : Later w => ContainsN_any (some ⟨b, o, none⟩) f i c (f i) (by have := HK.out; omega) e.x ((HL.out.ext e.h).take (by omega)))
      clear hlt hc hb
      cases hcd : codedB (f i) with
      | false =>
        rw [hcd] at KC
        have HN := hid (all_no HLT.out (show fitB f i = false by unfold fitB; rw [hcd]; rfl))
        clear hcd KN
        go_wp2_with (go_at_call 34; refine (KC.out _).mono ?_; rintro e' w' ⟨rfl, rfl⟩)
        go_ret
        exact Ret.mk (by rw [HN.out]; rfl) e.h
      | true =>
        rw [hcd] at KC
        have HCD := hid hcd
        clear hcd
        cases hf : (firstOf (isN f (f i)) i).isSome with
        | true =>
          rw [hf] at KN
          have HN := hid (all_no HLT.out (show fitB f i = false by unfold fitB; rw [hf, Bool.and_comm]; rfl))
          clear hf
          go_wp2_with (first | (go_at_call 34; refine (KC.out _).mono ?_; rintro e' w' ⟨rfl, rfl⟩) | (go_at_call 56; refine (Ret.later (KN.out _)).mono ?_; rintro x _ ⟨rfl, e, rfl⟩))
          go_ret
          exact Ret.mk (by rw [HN.out]; rfl) e.h
        | false =>
          rw [hf] at KN
          have HN : Hid (fitB f i = true) := hid (by unfold fitB; rw [hf, HCD.out]; rfl)
          clear hf
          go_wp2_with (first | (go_at_call 34; refine (KC.out _).mono ?_; rintro e' w' ⟨rfl, rfl⟩) | (go_at_call 56; refine (Ret.later (KN.out _)).mono ?_; rintro x _ ⟨rfl, e, rfl⟩))
          go_roundw
          case rel => exact ⟨i + 1, by go_num, (show Hid _ from ⟨HLT.out, by rw [T.all, hi.out.2, HN.out]; rfl⟩), e, rfl⟩
          case measure => have := HLT.out; simp [intOf]; omega
    · obtain rfl : i = k := by have := hi.out.1; omega
      have tc : decide (i < i) = false := by simp
      go_wp2_with fail
      go_ret
      exact Ret.mk (by rw [hi.out.2]; rfl) e.h
theorem infoInt : (Tryd.prog.info? 3).map (fun i => (i.zero, i.size, i.bytes)) = some (some (.int .i64 0), 1, 8) := by kernel_rfl
/-- Numbers, as a row's cells. -/
abbrev numsF (f : Nat → Int) (i : Nat) : List Value := [.int .i64 (f i)]
theorem numsF_len (f : Nat → Int) (i : Nat) : (numsF f i).length = 1 := rfl
theorem own_NsL {W : World} {base k c : Nat} {A : Option Addr} {f : Nat → Int} (h : W.ownsRow base 3 1 (.slice A k c) k (flatG (numsF f) k)) : NsL W A k f := by
  intro h0
  obtain ⟨k', rfl⟩ : ∃ k', k = k' + 1 := ⟨k - 1, by omega⟩
  obtain ⟨g, c', hv, hb, hlt⟩ := own_form h
  simp only [Value.slice.injEq] at hv
  obtain ⟨rfl, _, rfl⟩ := hv
  refine ⟨g, 0, rfl, hlt, fun i hi => ?_⟩
  have := flatG_own (z := 1) (numsF_len f) h hi (r := 0) (by omega) (u := .int .i64 (f i)) rfl
  rw [Nat.mul_one, Nat.add_zero] at this
  rw [Nat.zero_add]; exact this
end Go.Proofs.YtblfmokklfhklaaDoor


namespace Go.Proofs.YtblfmokklfhklaaDoor
open Go.RowKit
set_option linter.unusedVariables false
set_option linter.unusedSimpArgs false

def zeroB : BV := ⟨0, 0, 0, 0, []⟩
abbrev PV.c (p : PV) : Array Value := #[.int .u64 (p.fl : Int), .int .i64 p.crc, .int .i64 p.d.sch, str p.d.name, .int .u64 (p.d.node : Int), .int .u64 (p.d.svc : Int), .int .i64 p.s.sch, str p.s.name, .int .u64 (p.s.node : Int), .int .u64 (p.s.svc : Int), .int .i64 p.r.sch, str p.r.name, .int .u64 (p.r.node : Int), .int .u64 (p.r.svc : Int), .int .u64 (p.t : Int), .int .u64 (p.q : Int), .int .u64 (p.l : Int), .int .u64 (p.o : Int), .int .u64 (p.n : Int)]
abbrev PV.v (p : PV) : Value := .agg p.c
abbrev bunC (p : PV) (A : Option Addr) (k c : Nat) : Array Value := #[.int .u64 (p.fl : Int), .int .i64 p.crc, .int .i64 p.d.sch, str p.d.name, .int .u64 (p.d.node : Int), .int .u64 (p.d.svc : Int), .int .i64 p.s.sch, str p.s.name, .int .u64 (p.s.node : Int), .int .u64 (p.s.svc : Int), .int .i64 p.r.sch, str p.r.name, .int .u64 (p.r.node : Int), .int .u64 (p.r.svc : Int), .int .u64 (p.t : Int), .int .u64 (p.q : Int), .int .u64 (p.l : Int), .int .u64 (p.o : Int), .int .u64 (p.n : Int), .slice A k c]
abbrev bunV (p : PV) (A : Option Addr) (k c : Nat) : Value := .agg (bunC p A k c)
/-- A block's five cells in the midst of a memory block. -/
def BAt (w : World) (b o : Nat) (x : BV) : Prop :=
  w.cell? ⟨b, o, none⟩ = some (.int .i64 x.ty) ∧ w.cell? ⟨b, o + 1, none⟩ = some (.int .i64 x.num) ∧ w.cell? ⟨b, o + 2, none⟩ = some (.int .u64 (x.fl : Int)) ∧ w.cell? ⟨b, o + 3, none⟩ = some (.int .i64 x.crc) ∧ w.cell? ⟨b, o + 4, none⟩ = some (str x.data)
/-- k blocks lie in memory. -/
def BsL (w : World) (A : Option Addr) (k : Nat) (bs : Nat → BV) : Prop := 0 < k → ∃ b o, A = some ⟨b, o, none⟩ ∧ b < w.heap.size ∧ ∀ i, i < k → BAt w b (o + i * 5) (bs i)
theorem BAt.mod {w w' : World} {S : List Nat} {b o : Nat} {x : BV} (h : BAt w b o x) (hm : Mod S w w') (hb : b < w.heap.size) (hs : b ∉ S) : BAt w' b o x := by
  obtain ⟨h0, h1, h2, h3, h4⟩ := h
  exact ⟨(hm.cell hb hs).trans h0, (hm.cell hb hs).trans h1, (hm.cell hb hs).trans h2, (hm.cell hb hs).trans h3, (hm.cell hb hs).trans h4⟩
theorem BsL.ext {w w' : World} {A : Option Addr} {k : Nat} {bs : Nat → BV} (h : BsL w A k bs) (hm : Ext w w') : BsL w' A k bs := fun hk => by
  obtain ⟨b, o, hA, hb, hc⟩ := h hk
  exact ⟨b, o, hA, Nat.lt_of_lt_of_le hb hm.size, fun i hi => (hc i hi).mod hm hb (by simp)⟩
/-- A block's cells, whatever later world. -/
theorem BsL.cells {V : World} {A : Option Addr} {k : Nat} {bs : Nat → BV} (h : BsL V A k bs) {i : Nat} (hi : i < k) : ∃ b o, A = some ⟨b, o, none⟩ ∧ b < V.heap.size ∧
    (∀ e : Later V, e.x.cell? ⟨b, o + i * 5, none⟩ = some (.int .i64 (bs i).ty)) ∧ (∀ e : Later V, e.x.cell? ⟨b, o + i * 5 + 1, none⟩ = some (.int .i64 (bs i).num)) ∧ (∀ e : Later V, e.x.cell? ⟨b, o + i * 5 + 2, none⟩ = some (.int .u64 ((bs i).fl : Int))) ∧
    (∀ e : Later V, e.x.cell? ⟨b, o + i * 5 + 3, none⟩ = some (.int .i64 (bs i).crc)) ∧ (∀ e : Later V, e.x.cell? ⟨b, o + i * 5 + 4, none⟩ = some (str (bs i).data)) := by
  obtain ⟨b, o, hA, hb, hc⟩ := h (by omega)
  obtain ⟨h0, h1, h2, h3, h4⟩ := hc i hi
  exact ⟨b, o, hA, hb, cellL h0, cellL h1, cellL h2, cellL h3, cellL h4⟩
end Go.Proofs.YtblfmokklfhklaaDoor


namespace Go.Proofs.YtblfmokklfhklaaDoor
open Go.RowKit
set_option linter.unusedVariables false
set_option linter.unusedSimpArgs false

abbrev BV.c (b : BV) : Array Value := #[.int .i64 b.ty, .int .i64 b.num, .int .u64 (b.fl : Int), .int .i64 b.crc, str b.data]
abbrev BV.v (b : BV) : Value := .agg b.c
end Go.Proofs.YtblfmokklfhklaaDoor


namespace Go.Proofs.YtblfmokklfhklaaDoor
open Go.RowKit
set_option linter.unusedVariables false
set_option linter.unusedSimpArgs false

def tyB (bs : Nat → BV) (typ : Int) (i : Nat) : Bool := decide ((bs i).ty = typ)
theorem tyB_no {bs : Nat → BV} {typ : Int} {i : Nat} (h : (bs i).ty ≠ typ) : tyB bs typ i = false := by unfold tyB; simp [h]
theorem tyB_yes {bs : Nat → BV} {typ : Int} {i : Nat} (h : (bs i).ty = typ) : tyB bs typ i = true := by unfold tyB; simp [h]
/-- A block's five cells, stored anew. -/
def setB (W : World) (g : Nat) (b : BV) : World := ((((W.setCell ⟨g, 0, none⟩ (.int .i64 b.ty)).setCell ⟨g, 1, none⟩ (.int .i64 b.num)).setCell ⟨g, 2, none⟩ (.int .u64 (b.fl : Int))).setCell ⟨g, 3, none⟩ (.int .i64 b.crc)).setCell ⟨g, 4, none⟩ (str b.data)
section
variable {W : World} {g : Nat} {b0 b : BV}
theorem setB_mod {w : World} {S : List Nat} (h : Mod S w W) (hb : w.heap.size ≤ g) : Mod S w (setB W g b) :=
  ((((h.setCell (.inr hb) _).setCell (.inr hb) _).setCell (.inr hb) _).setCell (.inr hb) _).setCell (.inr hb) _
end
/-- What Find hands back. -/
def findV (bs : Nat → BV) (typ : Int) (k : Nat) : Value := match firstOf (tyB bs typ) k with | some i => .tuple #[(bs i).v, .bool true] | none => .tuple #[zeroB.v, .bool false]
end Go.Proofs.YtblfmokklfhklaaDoor


namespace Go.Proofs.YtblfmokklfhklaaDoor
open Go.RowKit
set_option linter.unusedVariables false
set_option linter.unusedSimpArgs false

/-- The row's cells: the first i blocks'. -/
def flatB (bs : Nat → BV) : Nat → List Value
  | 0 => []
  | i + 1 => flatB bs i ++ [.int .i64 (bs i).ty, .int .i64 (bs i).num, .int .u64 ((bs i).fl : Int), .int .i64 (bs i).crc, str (bs i).data]
theorem flatB_length (bs : Nat → BV) (i : Nat) : (flatB bs i).length = i * 5 := by
  induction i with
  | zero => rfl
  | succ i ih => rw [flatB, List.length_append, ih]; simp; omega
theorem flatB_congr {bs bs' : Nat → BV} {i : Nat} (h : ∀ j, j < i → bs j = bs' j) : flatB bs i = flatB bs' i := by
  induction i with
  | zero => rfl
  | succ i ih => rw [flatB, flatB, ih (fun j hj => h j (by omega)), h i (by omega)]
theorem flatB_get (bs : Nat → BV) (i : Nat) : ∀ j, j < i → (flatB bs i)[j * 5]? = some (.int .i64 (bs j).ty) ∧ (flatB bs i)[j * 5 + 1]? = some (.int .i64 (bs j).num) ∧ (flatB bs i)[j * 5 + 2]? = some (.int .u64 ((bs j).fl : Int)) ∧
    (flatB bs i)[j * 5 + 3]? = some (.int .i64 (bs j).crc) ∧ (flatB bs i)[j * 5 + 4]? = some (str (bs j).data) := by
  induction i with
  | zero => intro j hj; omega
  | succ i ih =>
    intro j hj
    have hl := flatB_length bs i
    rw [flatB]
    by_cases e : j = i
    · subst e
      refine ⟨?_, ?_, ?_, ?_, ?_⟩ <;> (rw [List.getElem?_append_right (by omega), hl]; simp)
    · have := ih j (by omega)
      refine ⟨?_, ?_, ?_, ?_, ?_⟩ <;> rw [List.getElem?_append_left (by omega)]
      · exact this.1
      · exact this.2.1
      · exact this.2.2.1
      · exact this.2.2.2.1
      · exact this.2.2.2.2
theorem flatB_idx (bs : Nat → BV) (k : Nat) {j : Nat} {u : Value} (h : (flatB bs k)[j]? = some u) : ∃ i r, i < k ∧ r < 5 ∧ j = i * 5 + r := by
  have := (List.getElem?_eq_some_iff.1 h).1
  rw [flatB_length] at this
  exact ⟨j / 5, j % 5, by omega, by omega, by omega⟩
theorem flatB_news {W : World} {b o : Nat} {bs : Nat → BV} {k : Nat} (h : ∀ i, i < k → BAt W b (o + i * 5) (bs i)) : ∀ j u, (flatB bs k)[j]? = some u → W.cell? ((⟨b, o, none⟩ : Addr).add j) = some u := by
  intro j u hj
  obtain ⟨i, r, hi, hr, rfl⟩ := flatB_idx bs k hj
  obtain ⟨g0, g1, g2, g3, g4⟩ := flatB_get bs k i hi
  obtain ⟨a0, a1, a2, a3, a4⟩ := h i hi
  rw [addr_add, ← Nat.add_assoc]
  have h5 : r = 0 ∨ r = 1 ∨ r = 2 ∨ r = 3 ∨ r = 4 := by omega
  rcases h5 with rfl | rfl | rfl | rfl | rfl
  · rw [← hj, Nat.add_zero, Nat.add_zero, g0]; exact a0
  · rw [← hj, g1]; exact a1
  · rw [← hj, g2]; exact a2
  · rw [← hj, g3]; exact a3
  · rw [← hj, g4]; exact a4
theorem flatB_one (bs : Nat → BV) (k : Nat) : ∀ u ∈ flatB bs k, u.oneCell' = true := by
  intro u hu
  obtain ⟨j, hj⟩ := List.getElem?_of_mem hu
  obtain ⟨i, r, hi, hr, rfl⟩ := flatB_idx bs k hj
  obtain ⟨g0, g1, g2, g3, g4⟩ := flatB_get bs k i hi
  have h5 : r = 0 ∨ r = 1 ∨ r = 2 ∨ r = 3 ∨ r = 4 := by omega
  rcases h5 with rfl | rfl | rfl | rfl | rfl
  · rw [Nat.add_zero, g0] at hj; cases hj; rfl
  · rw [g1] at hj; cases hj; rfl
  · rw [g2] at hj; cases hj; rfl
  · rw [g3] at hj; cases hj; rfl
  · rw [g4] at hj; cases hj; rfl
theorem oneB (b : BV) : ∀ u ∈ [Value.int .i64 b.ty, .int .i64 b.num, .int .u64 (b.fl : Int), .int .i64 b.crc, str b.data], u.oneCell' = true := by
  intro u hu
  simp at hu
  rcases hu with rfl | rfl | rfl | rfl | rfl <;> rfl
/-- Which blocks an append turns: the row's own. -/
theorem own_turned {w2 w4 : World} {base n size : Nat} {e : TypeId} {v : Value} {xs : List Value} (h : w2.ownsRow base e size v n xs) {w : World} {S : List Nat} (hw : Mod S w w2) (hgr : w2.grownBy w4 v.ownBlock) (hb : w.heap.size ≤ base) : Mod S w w4 :=
  hw.grown hgr (fun k hk => .inr (Nat.le_trans hb (h.lt k hk).1))
theorem own_far {w2 w4 : World} {base n size : Nat} {e : TypeId} {v : Value} {xs : List Value} (h : w2.ownsRow base e size v n xs) (hgr : w2.grownBy w4 v.ownBlock) {b : Nat} {ty : TypeId} {cs : Array Value} (hB : Blk w2 b ty cs) (hbN : b < base) : Blk w4 b ty cs :=
  (hgr.block b hB.lt (fun e => by have := (h.lt b e.symm).1; omega)).trans hB
end Go.Proofs.YtblfmokklfhklaaDoor


namespace Go.Proofs.YtblfmokklfhklaaDoor
open Go.RowKit
set_option linter.unusedVariables false
set_option linter.unusedSimpArgs false

def ppB (p : PL) (i : Nat) : Bool := valB (p.a i).t
theorem PsL.at {w W : World} {Q : Nat → Prop} {A : Option Addr} {p : PL} (h : PsL w Q A p) (hW : Ext w W) {i : Nat} (hi : i < p.k) : ∃ b o Ai ci, A = some ⟨b, o, none⟩ ∧ b < w.heap.size ∧ At6 W b (o + i * 6) (p.a i) Ai ci ∧ IsL W Q (p.a i).t Ai := by
  obtain ⟨b, o, hA, hb, hq, hc⟩ := h (by omega)
  obtain ⟨Ai, ci, h1, h2⟩ := hc i hi
  exact ⟨b, o, Ai, ci, hA, hb, h1.mod hW hb (by simp), h2.ext hW⟩
set_option maxRecDepth 20000 in
set_option maxHeartbeats 4000000 in
theorem pairs_any (p : PL) (hk : p.k ≤ 100000) (hok : ∀ i, i < p.k → (p.a i).t.ok) (A : Option Addr) (c : Nat) (w : World) (h : PsL w anyQ A p) : Calls Tryd.prog 36 #[.slice A p.k c] w (Ret (.bool (pairsB p)) w) := by
  have HL := hid h
  have HK := hid hk
  have HOK := hid hok
  have k0 : (p.k : Int) ≤ 100000 := by omega
  have HW0 := hid (Mod.refl [] w)
  generalize hkk : p.k = k at *
  have HKK := hid hkk
  clear hok hk h hkk
  go_enter Tryd.func36, Tryd.ntmps36
  go_wp2_with fail
  go_loopw [3, 8] (fun s3 s8 wr => ∃ (i : Nat) (A' : Option Addr) (c' : Nat), s8 = .int .i64 (i : Int) ∧ s3 = .slice A' i c' ∧ Hid (i ≤ k ∧ Ext w wr ∧ wr.ownsRow w.heap.size 3 1 (.slice A' i c') i (flatG (numsF (fun j => (p.a j).id)) i) ∧ T.all (ppB p) i = true)) (fun _ s8 _ => k - (intOf s8).toNat)
  case atStart => exact ⟨0, none, 0, rfl, rfl, (show Hid _ from ⟨Nat.zero_le _, HW0.out, World.ownsRow_nil _ _ _ _, rfl⟩)⟩
  case round =>
    clear HW0
    obtain ⟨i, A', c', rfl, rfl, hS⟩ := hrel
    rename World => wr
    have i0 : (0 : Int) ≤ (i : Int) := by omega
    by_cases hlt : i < k
    · obtain ⟨b, o, Ai, ci, rfl, hb, ⟨q0, q1, q2, q3, q4, q5⟩, hI⟩ := HL.out.at hS.out.2.1 (i := i) (by have := HKK.out; omega)
      have tc : decide (i < k) = true := by simp [hlt]
      have i1 : (i : Int) < (k : Int) := by omega
      have HLT := hid hlt
      have HI := hid hI
      have HOi := hid (HOK.out i hlt)
      clear hlt hI hb
      go_upto_region 5 with fail
      generalize hW1 : World.alloc wr _ = W1
      have HG1 : Hid (Blk W1 wr.heap.size 38 (prC (p.a i) Ai ci)) := hid (by rw [← hW1]; exact Blk.new _ _ _)
      have hS1 : Hid (i ≤ k ∧ Ext w W1 ∧ W1.ownsRow w.heap.size 3 1 (.slice A' i c') i (flatG (numsF (fun j => (p.a j).id)) i) ∧ T.all (ppB p) i = true) := hid (by
        have h := hS.out
        rw [← hW1]; exact ⟨h.1, h.2.1.alloc _, h.2.2.1.alloc _, h.2.2.2⟩)
      have HI1 : Hid (IsL W1 anyQ (p.a i).t Ai) := hid (by rw [← hW1]; exact HI.out.ext ((Mod.refl [] wr).alloc _))
      have HSZ : Hid (w.heap.size ≤ wr.heap.size) := hid hS.out.2.1.size
      clear hW1 hS q0 q1 q2 q3 q4 q5 HI
      generalize wr.heap.size = G at *
      have g0 : ∀ e : Later W1, e.x.cell? ⟨G, 0, none⟩ = some (.int .i64 (p.a i).id) := HG1.out.cellL 0 rfl
      have g1 : ∀ e : Later W1, e.x.cell? ⟨G, 1, none⟩ = some (.int .i64 (p.a i).t.kind) := HG1.out.cellL 1 rfl
      have HRG : Hid (∀ e : Later W1, e.x.rangeAt G 1 [.int .i64 (p.a i).t.kind, .int .u64 ((p.a i).t.n : Int), str (p.a i).t.s, .slice Ai (p.a i).t.k ci, .bool (p.a i).t.op]) := HG1.out.range 1 5 (by rfl)
      have KR := hid (fun e : Later W1 => iRight_any (p.a i).t HOi.out Ai ci e.x (HI1.out.ext e.h))
      obtain ⟨e, he⟩ := Later.self W1
      rw [he]
      clear he
      by_cases hk0 : (p.a i).t.kind = 0 ∨ (p.a i).t.kind = 2
      case neg =>
        have HN := hid (all_no HLT.out (show ppB p i = false by
          unfold ppB valB
          rw [decide_eq_false (fun h => hk0 (.inl h)), decide_eq_false (fun h => hk0 (.inr h))]; rfl))
        have ta : (((p.a i).t.kind) == (0)) = false := by rw [beq_eq_false_iff_ne]; omega
        have tb : (((p.a i).t.kind) = (0)) = False := eq_false (by omega)
        have td : (((p.a i).t.kind) != (0)) = true := by rw [bne_iff_ne]; omega
        have ua : (((p.a i).t.kind) == (2)) = false := by rw [beq_eq_false_iff_ne]; omega
        have ub : (((p.a i).t.kind) = (2)) = False := eq_false (by omega)
        have ud : (((p.a i).t.kind) != (2)) = true := by rw [bne_iff_ne]; omega
        have HFIN : Hid (pairsB p = false) := hid (by unfold pairsB; rw [show T.all (fun i => valB (p.a i).t) p.k = false by rw [HKK.out]; exact HN.out]; rfl)
        clear hk0
        go_wp2_with fail
        go_ret
        exact Ret.mk (by rw [HFIN.out]; rfl) (hS1.out.2.1.trans e.h)
      have HKIND := hid hk0
      have hd1 : (decide ((p.a i).t.kind = 0) || decide ((p.a i).t.kind = 2)) = true := by
        rcases hk0 with h | h <;> simp [h]
      have HD1 := hid hd1
      clear hd1
      cases hr : (p.a i).t.right 8 with
      | false =>
        rw [hr] at KR
        have HN := hid (all_no HLT.out (show ppB p i = false by unfold ppB valB; rw [hr, Bool.and_comm]; rfl))
        have HFIN : Hid (pairsB p = false) := hid (by unfold pairsB; rw [show T.all (fun i => valB (p.a i).t) p.k = false by rw [HKK.out]; exact HN.out]; rfl)
        clear hr
        rcases hk0 with hk0 | hk0
        · have ta : (((p.a i).t.kind) == (0)) = true := by rw [beq_iff_eq]; omega
          have tb : (((p.a i).t.kind) = (0)) = True := eq_true (by omega)
          have td : (((p.a i).t.kind) != (0)) = false := by rw [bne_eq_false_iff_eq]; omega
          clear hk0
          go_wp2_with (first | (refine wpList_mid (by rfl) 36 _ rfl _ 1 rfl _ _ (HRG.out _) Tryd.underlying36 rfl (by kernel_rfl) ?_) | (go_at_call 43; refine (Ret.later (KR.out _)).mono ?_; rintro x _ ⟨rfl, e, rfl⟩))
          go_ret
          exact Ret.mk (by rw [HFIN.out]; rfl) (hS1.out.2.1.trans e.h)
        · have ta : (((p.a i).t.kind) == (0)) = false := by rw [beq_eq_false_iff_ne]; omega
          have tb : (((p.a i).t.kind) = (0)) = False := eq_false (by omega)
          have td : (((p.a i).t.kind) != (0)) = true := by rw [bne_iff_ne]; omega
          have ua : (((p.a i).t.kind) == (2)) = true := by rw [beq_iff_eq]; omega
          have ub : (((p.a i).t.kind) = (2)) = True := eq_true (by omega)
          have ud : (((p.a i).t.kind) != (2)) = false := by rw [bne_eq_false_iff_eq]; omega
          clear hk0
          go_wp2_with (first | (refine wpList_mid (by rfl) 36 _ rfl _ 1 rfl _ _ (HRG.out _) Tryd.underlying36 rfl (by kernel_rfl) ?_) | (go_at_call 43; refine (Ret.later (KR.out _)).mono ?_; rintro x _ ⟨rfl, e, rfl⟩))
          go_ret
          exact Ret.mk (by rw [HFIN.out]; rfl) (hS1.out.2.1.trans e.h)
      | true =>
        rw [hr] at KR
        have HY : Hid (ppB p i = true) := hid (by unfold ppB valB; rw [HD1.out, hr]; rfl)
        obtain ⟨ib, hi, hz0, hz1, hz2⟩ := info_parts infoInt
        have HOWN : Hid (∀ e : Later W1, e.x.ownsRow w.heap.size 3 1 (.slice A' i c') i (flatG (numsF (fun j => (p.a j).id)) i)) := hid (fun e => ownsRow_mod hS1.out.2.2.1 e.h (fun _ _ => by simp))
        have HSZ1 : Hid (w.heap.size ≤ W1.heap.size) := hid hS1.out.2.1.size
        clear hr
        rcases hk0 with hk0 | hk0
        · have ta : (((p.a i).t.kind) == (0)) = true := by rw [beq_iff_eq]; omega
          have tb : (((p.a i).t.kind) = (0)) = True := eq_true (by omega)
          have td : (((p.a i).t.kind) != (0)) = false := by rw [bne_eq_false_iff_eq]; omega
          clear hk0
          go_wp2_with (first | (refine wpList_mid (by rfl) 36 _ rfl _ 1 rfl _ _ (HRG.out _) Tryd.underlying36 rfl (by kernel_rfl) ?_) | (go_at_call 43; refine (Ret.later (KR.out _)).mono ?_; rintro x _ ⟨rfl, e, rfl⟩) | (at_builtin; refine wpList_append_own _ rfl _ _ 24 rfl w.heap.size 3 ib _ 1 8 Tryd.underlying24 hi hz0 hz1 hz2 rfl (by decide) _ _ _ rfl ((HOWN.out e).alloc _) ⟨e.x.heap.size, 0, none⟩ 1 1 [.int .i64 (p.a i).id] rfl rfl (fun j u hu => by (match j, hu with | 0, hu => (simp at hu; subst hu; rw [addr_add]; exact (Blk.new _ _ _).cell 0))) (by simp [Value.oneCell']) (by have := HLT.out; have := HK.out; simp [maxLen]; omega) (by have := HLT.out; have := HK.out; omega) (by have := HSZ1.out; have := e.h.size; simp; omega) ?_; intro v' w4 hown' hgrow _; obtain ⟨g', c4, rfl, hg', hlt'⟩ := own_form hown'; have hE4 := own_turned ((HOWN.out e).alloc _) ((hS1.out.2.1.trans e.h).alloc _) hgrow (Nat.le_refl _); have HO4 := hid hown'; have HE4 := hid hE4; clear hown' hgrow hE4 hg' hlt'))
          go_roundw
          case rel => exact ⟨i + 1, some ⟨g', 0, none⟩, c4, by go_num, rfl, (show Hid _ from ⟨HLT.out, HE4.out, by simpa [flatG] using HO4.out, by rw [T.all, hS1.out.2.2.2, HY.out]; rfl⟩)⟩
          case measure => have := HLT.out; simp [intOf]; omega
        · have ta : (((p.a i).t.kind) == (0)) = false := by rw [beq_eq_false_iff_ne]; omega
          have tb : (((p.a i).t.kind) = (0)) = False := eq_false (by omega)
          have td : (((p.a i).t.kind) != (0)) = true := by rw [bne_iff_ne]; omega
          have ua : (((p.a i).t.kind) == (2)) = true := by rw [beq_iff_eq]; omega
          have ub : (((p.a i).t.kind) = (2)) = True := eq_true (by omega)
          have ud : (((p.a i).t.kind) != (2)) = false := by rw [bne_eq_false_iff_eq]; omega
          clear hk0
          go_wp2_with (first | (refine wpList_mid (by rfl) 36 _ rfl _ 1 rfl _ _ (HRG.out _) Tryd.underlying36 rfl (by kernel_rfl) ?_) | (go_at_call 43; refine (Ret.later (KR.out _)).mono ?_; rintro x _ ⟨rfl, e, rfl⟩) | (at_builtin; refine wpList_append_own _ rfl _ _ 24 rfl w.heap.size 3 ib _ 1 8 Tryd.underlying24 hi hz0 hz1 hz2 rfl (by decide) _ _ _ rfl ((HOWN.out e).alloc _) ⟨e.x.heap.size, 0, none⟩ 1 1 [.int .i64 (p.a i).id] rfl rfl (fun j u hu => by (match j, hu with | 0, hu => (simp at hu; subst hu; rw [addr_add]; exact (Blk.new _ _ _).cell 0))) (by simp [Value.oneCell']) (by have := HLT.out; have := HK.out; simp [maxLen]; omega) (by have := HLT.out; have := HK.out; omega) (by have := HSZ1.out; have := e.h.size; simp; omega) ?_; intro v' w4 hown' hgrow _; obtain ⟨g', c4, rfl, hg', hlt'⟩ := own_form hown'; have hE4 := own_turned ((HOWN.out e).alloc _) ((hS1.out.2.1.trans e.h).alloc _) hgrow (Nat.le_refl _); have HO4 := hid hown'; have HE4 := hid hE4; clear hown' hgrow hE4 hg' hlt'))
          go_roundw
          case rel => exact ⟨i + 1, some ⟨g', 0, none⟩, c4, by go_num, rfl, (show Hid _ from ⟨HLT.out, HE4.out, by simpa [flatG] using HO4.out, by rw [T.all, hS1.out.2.2.2, HY.out]; rfl⟩)⟩
          case measure => have := HLT.out; simp [intOf]; omega
    · obtain rfl : i = k := by have := hS.out.1; omega
      have tc : decide (i < i) = false := by simp
      have KU := hid (fun W (hW : Ext wr W) => unlike_any A' (fun j => (p.a j).id) i c' (by have := HK.out; omega) (own_cap hS.out.2.2.1) W ((own_NsL hS.out.2.2.1).ext hW))
      have HFIN : Hid (pairsB p = unlikeB (fun j => (p.a j).id) i) := hid (by unfold pairsB; rw [HKK.out, show T.all (fun i => valB (p.a i).t) i = true from hS.out.2.2.2]; rfl)
      have HE1 := hid hS.out.2.1
      clear hS
      generalize unlikeB (fun j => (p.a j).id) i = B at *
      go_wp2_with (go_at_call 33; refine (KU.out _ (Mod.refl _ _)).mono ?_; rintro e' w' ⟨rfl, hb'⟩)
      go_ret
      exact Ret.mk (by rw [HFIN.out]; rfl) (HE1.out.trans hb')
end Go.Proofs.YtblfmokklfhklaaDoor


namespace Go.Proofs.YtblfmokklfhklaaDoor
open Go.RowKit Go.Shelf
set_option linter.unusedVariables false
set_option linter.unusedSimpArgs false

theorem RsL.at {w W : World} {Q : Nat → Prop} {A : Option Addr} {k : Nat} {f : Nat → PL} (h : RsL w Q A k f) (hW : Ext w W) {i : Nat} (hi : i < k) : ∃ b o Ai ci, A = some ⟨b, o, none⟩ ∧ b < w.heap.size ∧ W.cell? ⟨b, o + i, none⟩ = some (.slice Ai (f i).k ci) ∧ (f i).k ≤ ci ∧ PsL W Q Ai (f i) := by
  obtain ⟨b, o, hA, hb, hq, hc⟩ := h (by omega)
  obtain ⟨Ai, ci, h1, hkc, h2⟩ := hc i hi
  exact ⟨b, o, Ai, ci, hA, hb, (hW.cell hb (by simp)).trans h1, hkc, h2.ext hW⟩
/-- The closure in shaped: are these pairs no results? -/
theorem shaped1_any (p : PL) (hk : p.k < 4611686018427387904) (hok : ∀ i, i < p.k → (p.a i).t.ok) (A : Option Addr) (c : Nat) (w : World) (h : PsL w anyQ A p) : Calls Tryd.prog 38 #[.slice A p.k c] w (Ret (.bool (!resB p)) w) := by
  have HK := hid hk
  have k0 : (p.k : Int) < 4611686018427387904 := by omega
  have KP := hid (fun (h4 : p.k ≤ 100000) W (hW : Ext w W) => pairs_any p h4 hok A c W (h.ext hW))
  have HR : Hid (resB p = (decide (1 ≤ p.k) && decide (p.k ≤ 4) && pairsB p)) := rfl
  generalize pairsB p = B at *
  generalize resB p = R at *
  generalize p.k = k at *
  clear hk hok h
  by_cases h1 : k < 1
  · have t1 : decide (k < 1) = true := decide_eq_true h1
    have t2 : decide ((k : Int) < 1) = true := decide_eq_true (by omega)
    have t3 : ((k : Int) < 1) = True := eq_true (by omega)
    have HX : Hid (R = false) := hid (by rw [HR.out, decide_eq_false (show ¬ 1 ≤ k by omega)]; rfl)
    clear h1
    go_enter Tryd.func38, Tryd.ntmps38
    go_wp2_with fail
    go_ret
    exact Ret.mk (by rw [HX.out]; rfl) (Mod.refl _ _)
  have t1 : decide (k < 1) = false := decide_eq_false h1
  have t2 : decide ((k : Int) < 1) = false := decide_eq_false (by omega)
  have t3 : ((k : Int) < 1) = False := eq_false (by omega)
  have H1 := hid h1
  clear h1
  by_cases h4 : 4 < k
  · have u1 : decide (4 < k) = true := decide_eq_true h4
    have u2 : decide ((4 : Int) < k) = true := decide_eq_true (by omega)
    have u3 : ((4 : Int) < (k : Int)) = True := eq_true (by omega)
    have HX : Hid (R = false) := hid (by rw [HR.out, decide_eq_false (show ¬ k ≤ 4 by omega), Bool.and_false]; rfl)
    clear h4
    go_enter Tryd.func38, Tryd.ntmps38
    go_wp2_with fail
    go_ret
    exact Ret.mk (by rw [HX.out]; rfl) (Mod.refl _ _)
  have u1 : decide (4 < k) = false := decide_eq_false h4
  have u2 : decide ((4 : Int) < k) = false := decide_eq_false (by omega)
  have u3 : ((4 : Int) < (k : Int)) = False := eq_false (by omega)
  have HX : Hid (R = B) := hid (by rw [HR.out, decide_eq_true (show k ≤ 4 by omega), decide_eq_true (show 1 ≤ k by have := H1.out; omega)]; rfl)
  have K := hid (KP.out (by omega) w (Mod.refl _ _))
  clear h4 KP
  go_enter Tryd.func38, Tryd.ntmps38
  go_wp2_with (go_at_call 36; refine K.out.mono ?_; rintro e' w' ⟨rfl, hb'⟩)
  go_ret
  exact Ret.mk (by rw [HX.out]; rfl) hb'
theorem entersS1 : ∀ args w, (callFunc 38 args).run Tryd.prog w = .ok (.enter 38 args) w := enters_of Tryd.func38 (by kernel_rfl) rfl
def noRes (f : Nat → PL) (i : Nat) : Bool := !resB (f i)
set_option maxHeartbeats 1600000 in
theorem IndexR_any (A : Option Addr) (f : Nat → PL) (k c : Nat) (hk : k < 4611686018427387904) (hw : ∀ i, i < k → (f i).wf) (w : World) (h : RsL w anyQ A k f) :
    Calls Tryd.prog 58 #[.slice A k c, .func (.func 38) #[] #[]] w (Ret (.int .i64 (firstI (noRes f) k)) w) := by
  have H := hid h; have HK := hid hk; have HW := hid hw
  clear h hk hw
  have eg := entersS1
  have k1 : (k : Int) < 4611686018427387904 := by have := HK.out; omega
  obtain ⟨e0, he0⟩ := Later.self w
  go_enter Tryd.func58, Tryd.ntmps58
  go_upto_region 2 with fail
  go_loopw [8] (fun s8 wr => ∃ j : Nat, j ≤ k ∧ s8 = .int .i64 (j : Int) ∧ Hid (∀ i, i < j → noRes f i = false) ∧ ∃ e : Later w, wr = e.x) (fun s8 _ => k - (intOf s8).toNat)
  case atStart => exact ⟨0, Nat.zero_le _, rfl, fun i h => absurd h (Nat.not_lt_zero _), e0, (by first | exact he0 | rfl)⟩
  case round =>
    clear he0 e0
    obtain ⟨j, hj, rfl, hno, e, rfl⟩ := hrel
    have j0 : (0 : Int) ≤ (j : Int) := by omega
    by_cases hlt : j < k
    · obtain ⟨b, o, Ai, ci, rfl, hb, c0, hkc, hP⟩ := H.out.at e.h hlt
      have j1 : (j : Int) < (k : Int) := by omega
      have tc : decide (j < k) = true := by simp [hlt]
      have hcall : Calls Tryd.prog 38 (#[.slice Ai (f j).k ci] ++ #[]) e.x (Ret (.bool (noRes f j)) e.x) := shaped1_any (f j) (HW.out j hlt).1 (fun i hi => ((HW.out j hlt).2 i hi).1) Ai ci e.x hP
      have HLT := hid hlt
      clear hlt hP hkc hb
      cases hq : noRes f j with
      | true =>
        rw [hq] at hcall
        have HQ := hid hq
        clear hq
        go_wp2_with (go_at_fn 38; refine (Ret.later hcall).mono ?_; rintro x _ ⟨rfl, e, rfl⟩)
        go_ret
        refine Ret.mk ?_ e.h
        unfold firstI
        rw [firstOf_some HLT.out HQ.out hno.out]; rfl
      | false =>
        rw [hq] at hcall
        have HQ := hid hq
        clear hq
        go_wp2_with (go_at_fn 38; refine (Ret.later hcall).mono ?_; rintro x _ ⟨rfl, e, rfl⟩)
        go_roundw
        case rel =>
          refine ⟨j + 1, by have := HLT.out; omega, by go_num, (show Hid _ from fun i hi => ?_), e, rfl⟩
          by_cases e : i = j
          · subst e; exact HQ.out
          · exact hno.out i (by omega)
        case measure => have := HLT.out; simp [intOf]; omega
    · obtain rfl : j = k := by omega
      have tc : decide (j < j) = false := by simp
      go_wp2_with fail
      go_ret
      refine Ret.mk ?_ e.h
      unfold firstI
      rw [firstOf_none hno.out]; rfl
theorem noRes_all {f : Nat → PL} {k : Nat} : (firstOf (noRes f) k).isSome = !(T.all (fun i => resB (f i)) k) := by
  cases h : firstOf (noRes f) k with
  | none =>
    have := firstOf_no h
    have h2 : T.all (fun i => resB (f i)) k = true := T.all_iff.2 fun i hi => by
      have := this i hi
      unfold noRes at this
      simpa using this
    rw [h2]; rfl
  | some i =>
    obtain ⟨h1, h2, _⟩ := firstOf_spec h
    rw [all_no h1 (by unfold noRes at h2; simpa using h2)]; rfl
theorem ContainsR_any (A : Option Addr) (f : Nat → PL) (k c : Nat) (hk : k < 4611686018427387904) (hw : ∀ i, i < k → (f i).wf) (w : World) (h : RsL w anyQ A k f) :
    Calls Tryd.prog 37 #[.slice A k c, .func (.func 38) #[] #[]] w (Ret (.bool (!(T.all (fun i => resB (f i)) k))) w) := by
  have K := hid (IndexR_any A f k c hk hw w h)
  have hX := hid (firstI_is (p := noRes f) (k := k))
  rw [noRes_all] at hX
  generalize firstI (noRes f) k = X at *
  generalize T.all (fun i => resB (f i)) k = B at *
  clear h
  go_enter Tryd.func37, Tryd.ntmps37
  go_wp2_with (go_at_call 58; refine K.out.mono ?_; rintro e w' ⟨rfl, hb'⟩)
  go_ret
  exact Ret.mk (congrArg Value.bool hX.out) hb'
/-- What is asked first, of targets, context and source. -/
def AV.one (a : AV) : Bool := decide (1 ≤ a.tk) && decide (a.tk ≤ 16) && unlikeB a.tg a.tk && codedB a.ctx && a.src.ok
def AV.two (a : AV) : Bool := decide (a.ps.k ≤ 8) && pairsB a.ps && decide (a.rk = a.tk)
theorem AV.shaped_eq (a : AV) : a.shaped = (a.one && a.two && T.all (fun i => resB (a.rs i)) a.rk) := rfl
end Go.Proofs.YtblfmokklfhklaaDoor
