/-
  Items: right ones, few ones; the reference's bytes.
-/
import Derived.Test.YtagjhkknefiieaaItRef
import Derived.Test.YtagjhkknefiieaaRef01
namespace Go.Proofs.Ytagjhkknefiieaa
open Go.RowKit
set_option linter.unusedVariables false

set_option maxRecDepth 20000 in
set_option maxHeartbeats 1600000 in
theorem rRight_any (t : T) (hok : t.ok) (A : Option Addr) (c : Nat) (w : World) (h : IsL w (fun _ => True) t A) :
    Calls Try.prog 58 #[itemV t A c] w (Ret (.bool (t.right 8)) w) := by
  have H := hid h; have HO := hid hok
  have HR := hid (T.right_eq t 8)
  have HB : Hid (Blk (w.alloc (.cells (itemC t A c) 63)) w.heap.size 63 (itemC t A c)) := Blk.new _ _ _
  have HE0 := hid ((Mod.refl [] w).alloc (.cells (itemC t A c) 63))
  clear h hok
  go_enter Try.func58, Try.ntmps58
  go_wp2_with fail
  refine (Deep_any t 9 (by omega) HO.out A c _ (H.out.ext HE0.out)).mono ?_
  rintro e w2 ⟨rfl, hb2⟩
  have HE2 := hid (HE0.out.trans hb2)
  have hB2 := HB.out.ext hb2
  have c0 : w2.cell? ⟨w.heap.size, 0, none⟩ = some (.int .i64 t.kind) := hB2.cell 0
  have c1 : w2.cell? ⟨w.heap.size, 1, none⟩ = some (.int .u64 (t.n : Int)) := hB2.cell 1
  have c2 : w2.cell? ⟨w.heap.size, 2, none⟩ = some (str t.s) := hB2.cell 2
  have c3 : w2.cell? ⟨w.heap.size, 3, none⟩ = some (.slice A t.k c) := hB2.cell 3
  have c4 : w2.cell? ⟨w.heap.size, 4, none⟩ = some (.bool t.op) := hB2.cell 4
  by_cases hd : t.deep 9 ≤ 8
  · have HD := hid hd
    have td : decide (t.deep 9 ≤ 8) = true := by simp [hd]
    have td2 : decide ((t.deep 9 : Int) ≤ 8) = true := by simp; omega
    clear hd hb2 hB2
    go_wp2_with fail
    refine (plain_any t HO.out A c _ (H.out.ext HE2.out)).mono ?_
    rintro e w3 ⟨rfl, hb3⟩
    go_wp2_with fail
    go_ret
    exact Ret.mk (by rw [HR.out]; simp [HD.out]) (HE2.out.trans hb3)
  · have HD := hid hd
    have td : decide (t.deep 9 ≤ 8) = false := by simp; omega
    have td2 : decide ((t.deep 9 : Int) ≤ 8) = false := by simp; omega
    clear hd hb2 hB2
    go_wp2_with fail
    go_ret
    exact Ret.mk (by rw [HR.out]; simp [HD.out]) HE2.out

def few (t : T) (m : Nat) : Bool := decide (t.deep 9 ≤ 9) && decide (t.count m ≤ m)
theorem few_size {t : T} {m : Nat} (h : few t m = true) : t.size ≤ m ∧ t.deep 9 ≤ 9 := by
  unfold few at h
  simp at h
  rw [T.count_size t m h.2]
  exact ⟨h.2, h.1⟩

/-- What has been written of an array after its first j items. -/
def pre (kind : Int) (s : List UInt8) (op : Bool) (k : Nat) (ch : Nat → T) (j : Nat) : List UInt8 := (if op then [159] else headL 4 k) ++ T.cat (fun i => (ch i).bytes) j

theorem T.cat_mono {f : Nat → List UInt8} {j k : Nat} (h : j ≤ k) : (T.cat f j).length ≤ (T.cat f k).length := by
  induction k with
  | zero => have : j = 0 := by omega
            subst this; exact Nat.le_refl _
  | succ k ih =>
    by_cases e : j = k + 1
    · subst e; exact Nat.le_refl _
    · have := ih (by omega)
      rw [T.cat, List.length_append]; omega
theorem pre_succ (kind : Int) (s : List UInt8) (op : Bool) (k : Nat) (ch : Nat → T) (j : Nat) : pre kind s op k ch (j + 1) = pre kind s op k ch j ++ (ch j).bytes := by
  unfold pre; rw [T.cat, List.append_assoc]
theorem pre_le {n : Nat} {s : List UInt8} {op : Bool} {k : Nat} {ch : Nat → T} {j : Nat} (hj : j ≤ k) (h : (T.mk 4 n s op k ch).size ≤ 100000) : (pre 4 s op k ch j).length ≤ 1000000 := by
  have h1 := T.bytes_le (.mk 4 n s op k ch)
  have h2 : (T.mk 4 n s op k ch).bytes = (if op then [159] else headL 4 k) ++ (T.cat (fun i => (ch i).bytes) k ++ (if op then [255] else [])) := rfl
  have h3 := T.cat_mono (f := fun i => (ch i).bytes) hj
  rw [h2, List.length_append, List.length_append] at h1
  unfold pre
  rw [List.length_append]
  omega
theorem pre_end {n : Nat} {s : List UInt8} {op : Bool} {k : Nat} {ch : Nat → T} : (T.mk 4 n s op k ch).bytes = pre 4 s op k ch k ++ (if op then [255] else []) := by
  have h2 : (T.mk 4 n s op k ch).bytes = (if op then [159] else headL 4 k) ++ (T.cat (fun i => (ch i).bytes) k ++ (if op then [255] else [])) := rfl
  rw [h2, pre, List.append_assoc]

set_option maxRecDepth 20000 in
set_option maxHeartbeats 3200000 in
theorem rBytesI_any (t : T) : t.ok → t.plain = true → t.size ≤ 100000 → ∀ A c w, IsL w (fun _ => True) t A →
    Calls Try.prog 32 #[itemV t A c] w (Ret (str t.bytes) w) := by
  induction t with
  | nil => intro hok; cases hok
  | mk kind n s op k ch ih =>
    intro hok hpl hsz A c w h
    have H := hid h; have HO := hid hok; have HPL := hid hpl; have HSZ := hid hsz
    have HI := hid ih
    have hk : Hid (k < 4611686018427387904) := by unfold T.ok at hok; exact hok.2.2.2.1
    have hn64 : Hid (n < 18446744073709551616) := by unfold T.ok at hok; exact hok.2.1
    have hs64 : Hid (s.length < 4611686018427387904) := by unfold T.ok at hok; exact hok.2.2.1
    have hkd : kind = 0 ∨ kind = 2 ∨ kind = 3 ∨ kind = 4 := by unfold T.plain at hpl; rw [Bool.and_eq_true] at hpl; exact T.node_kind hpl.1
    have hpc : Hid (∀ i, i < k → (ch i).plain = true) := by unfold T.plain at hpl; rw [Bool.and_eq_true, T.all_iff] at hpl; exact hpl.2
    have HBL := hid (T.bytes_le (.mk kind n s op k ch))
    have hBy : (T.mk kind n s op k ch).bytes = if kind = 0 then headL 0 n else if kind < 4 then headL kind.toNat s.length ++ s else (if op then [159] else headL 4 k) ++ (T.cat (fun i => (ch i).bytes) k ++ (if op then [255] else [])) := rfl
    have HBy := hid hBy
    show Calls Try.prog 32 #[.agg #[.int .i64 kind, .int .u64 (n : Int), str s, .slice A k c, .bool op]] w (Ret (str (T.mk kind n s op k ch).bytes) w)
    have HB : Hid (Blk (w.alloc (.cells #[.int .i64 kind, .int .u64 (n : Int), str s, .slice A k c, .bool op] 63)) w.heap.size 63 #[.int .i64 kind, .int .u64 (n : Int), str s, .slice A k c, .bool op]) := Blk.new _ _ _
    have HE0 := hid ((Mod.refl [] w).alloc (.cells #[.int .i64 kind, .int .u64 (n : Int), str s, .slice A k c, .bool op] 63))
    clear h hok hpl hsz ih hBy
    by_cases k0 : kind = 0
    · subst k0
      rw [HBy.out, if_pos rfl]
      go_enter Try.func32, Try.ntmps32
      go_wp2_with fail
      refine (rhead_in 0 n (by omega) (by omega) (by omega) (by have := hn64.out; omega) _).mono ?_
      rintro e w2 ⟨rfl, hb2⟩
      go_wp2_with fail
      go_ret
      exact Ret.mk rfl (HE0.out.trans hb2)
    · by_cases k4 : kind < 4
      · rw [HBy.out, if_neg k0, if_pos k4]
        have b0 : (kind == 0) = false := by simp [k0]
        have b1 : (kind = 0) = False := by simp [k0]
        have b2 : decide (kind < 4) = true := by simp [k4]
        have HK : Hid (0 ≤ kind ∧ kind ≤ 3) := by unfold Hid; omega
        have s0 : (s.length : Int) < 9223372036854775808 := by have := hs64.out; omega
        have hno : (9223372036854775807 < (headL kind.toNat s.length).length + s.length) = False := by have := headL_le kind.toNat s.length; have := hs64.out; simp; omega
        clear k0 k4 hkd
        go_enter Try.func32, Try.ntmps32
        go_upto_region 1 with fail
        go_cut [5, 6, 7] (fun s5 s6 s7 wx => s7 = .bool false ∧ Hid (Ext w wx ∧ Blk wx w.heap.size 63 #[.int .i64 kind, .int .u64 (n : Int), str s, .slice A k c, .bool op]))
        case first =>
          go_wp2_with fail
          go_meet
          exact ⟨rfl, HE0.out, HB.out⟩
        obtain ⟨rfl, hX⟩ := hcut
        have HX : Hid (∀ W, Ext wc W → W.cell? ⟨w.heap.size, 0, none⟩ = some (.int .i64 kind) ∧ W.cell? ⟨w.heap.size, 2, none⟩ = some (str s)) := fun W hW => ⟨(hX.out.2.ext hW).cell 0, (hX.out.2.ext hW).cell 2⟩
        have tw : IntKind.u64.wrap (s.length : Int) = (s.length : Int) := IntWalk.u64_in _ (by have := hs64.out; omega)
        have y0 := (HX.out wc (Mod.refl _ _)).1
        have y2 := (HX.out wc (Mod.refl _ _)).2
        go_upto_region 4 with fail
        go_region_held3 (fun w' => w'.cell? ⟨w.heap.size, 0, none⟩ = some (.int .i64 kind) ∧ w'.cell? ⟨w.heap.size, 2, none⟩ = some (str s)) (go_keep)
          ((go_at_call 35; (try rw [tw]); refine (rhead_in kind (s.length : Int) HK.out.1 (by have := HK.out.2; omega) (by omega) (by have := hs64.out; omega) _).mono ?_; rintro e w3 ⟨rfl, hb3⟩; rw [Int.toNat_natCast]; have hx3 : Ext wc w3 := (by with_reducible refine Mod.trans ?_ hb3; (repeat (first | with_reducible assumption | with_reducible exact Mod.refl _ _ | with_reducible refine Mod.drew ?_))); have z0 := (HX.out w3 hx3).1; have z2 := (HX.out w3 hx3).2))
        all_goals go_wp2_with fail
        all_goals go_ret
        all_goals exact Ret.mk rfl (hX.out.1.trans hx3)
      · have hk4 : kind = 4 := by omega
        subst hk4
        clear HBy k0 k4 hkd HBL
        have K0 : (0 : Int) ≤ (k : Int) := by omega
        have K1 : (k : Int) < 9223372036854775808 := by have := hk.out; omega
        cases op
        · go_enter Try.func32, Try.ntmps32
          go_wp2_with fail
          refine (rhead_in 4 (k : Int) (by omega) (by omega) (by omega) (by have := hk.out; omega) _).mono ?_
          rintro e w2 ⟨rfl, hb2⟩
          rw [Int.toNat_natCast]
          have HE2 := hid (HE0.out.trans hb2)
          have HB2 := hid (HB.out.ext hb2)
          have c4 : w2.cell? ⟨w.heap.size, 4, none⟩ = some (.bool false) := HB2.out.cell 4
          clear hb2 K1
          go_wp2_with fail
          clear c4
          go_loopw [3, 4] (fun s3 s4 wr => ∃ i : Nat, i ≤ k ∧ s4 = .int .i64 (i : Int) ∧ s3 = str (pre 4 s false k ch i) ∧ Hid (Ext w wr ∧ Blk wr w.heap.size 63 #[.int .i64 4, .int .u64 (n : Int), str s, .slice A k c, .bool false])) (fun _ i _ => k - (intOf i).toNat)
          case atStart => exact ⟨0, Nat.zero_le _, rfl, by simp [pre, T.cat], HE2.out, HB2.out⟩
          case round =>
            obtain ⟨i, hi, rfl, rfl, hH⟩ := hrel
            have i0 : (0 : Int) ≤ (i : Int) := by omega
            have c3 : wr.cell? ⟨w.heap.size, 3, none⟩ = some (.slice A k c) := hH.out.2.cell 3
            have c4 : wr.cell? ⟨w.heap.size, 4, none⟩ = some (.bool false) := hH.out.2.cell 4
            have HP := hid (pre_le (op := false) hi HSZ.out)
            by_cases hlt : i < k
            · obtain ⟨b, o, Ai, ci, rfl, hb, ⟨k0, k1, k2, k3, k4⟩, hL⟩ := H.out.cells hH.out.1 hlt
              have i1 : (i : Int) < (k : Int) := by omega
              have ti : decide (i < k) = true := by simp [hlt]
              have HL := hid hL; have HLT := hid hlt
              have HOi : Hid (ch i).ok := by have := HO.out; unfold T.ok at this; exact this.2.2.2.2 i hlt
              have HZi : Hid ((ch i).size ≤ 100000) := Nat.le_trans (T.size_ch hlt) HSZ.out
              have HPS := hid (pre_succ 4 s false k ch i)
              have hno : (9223372036854775807 < (pre 4 s false k ch i).length + (ch i).bytes.length) = False := by
                have h1 := pre_le (op := false) (show i + 1 ≤ k by omega) HSZ.out
                rw [HPS.out, List.length_append] at h1
                simp; omega
              have hk2 : (k : Int) < 4611686018427387904 := by have := hk.out; omega
              clear hL hlt
              go_wp2_with fail
              refine (HI.out i HOi.out (hpc.out i HLT.out) HZi.out Ai ci _ HL.out).mono ?_
              rintro e w3 ⟨rfl, hb3⟩
              have HE3 := hid (hH.out.1.trans hb3)
              have HB3 := hid (hH.out.2.ext hb3)
              clear hb3
              go_wp2_with fail
              have hlt := HLT.out
              refine ⟨⟨i + 1, by omega, by simp, by rw [HPS.out]; exact str_app _ _, (show Hid _ from ⟨HE3.out, HB3.out⟩)⟩, ?_⟩
              simp only [intOf]; omega
            · obtain rfl : i = k := by omega
              have ti : decide (i < i) = false := by simp
              have HPE := hid (pre_end (n := n) (s := s) (op := false) (k := i) (ch := ch))
              have hno : (9223372036854775807 < (pre 4 s false i ch i).length + 1) = False := by have := HP.out; simp; omega
              go_wp2_with fail
              go_ret
              exact Ret.mk (by rw [HPE.out]; simp) hH.out.1
        · go_enter Try.func32, Try.ntmps32
          go_wp2_with fail
          refine (rhead_in 4 (k : Int) (by omega) (by omega) (by omega) (by have := hk.out; omega) _).mono ?_
          rintro e w2 ⟨rfl, hb2⟩
          rw [Int.toNat_natCast]
          have HE2 := hid (HE0.out.trans hb2)
          have HB2 := hid (HB.out.ext hb2)
          have c4 : w2.cell? ⟨w.heap.size, 4, none⟩ = some (.bool true) := HB2.out.cell 4
          clear hb2 K1
          go_wp2_with fail
          clear c4
          go_loopw [3, 4] (fun s3 s4 wr => ∃ i : Nat, i ≤ k ∧ s4 = .int .i64 (i : Int) ∧ s3 = str (pre 4 s true k ch i) ∧ Hid (Ext w wr ∧ Blk wr w.heap.size 63 #[.int .i64 4, .int .u64 (n : Int), str s, .slice A k c, .bool true])) (fun _ i _ => k - (intOf i).toNat)
          case atStart => exact ⟨0, Nat.zero_le _, rfl, by simp [pre, T.cat], HE2.out, HB2.out⟩
          case round =>
            obtain ⟨i, hi, rfl, rfl, hH⟩ := hrel
            have i0 : (0 : Int) ≤ (i : Int) := by omega
            have c3 : wr.cell? ⟨w.heap.size, 3, none⟩ = some (.slice A k c) := hH.out.2.cell 3
            have c4 : wr.cell? ⟨w.heap.size, 4, none⟩ = some (.bool true) := hH.out.2.cell 4
            have HP := hid (pre_le (op := true) hi HSZ.out)
            by_cases hlt : i < k
            · obtain ⟨b, o, Ai, ci, rfl, hb, ⟨k0, k1, k2, k3, k4⟩, hL⟩ := H.out.cells hH.out.1 hlt
              have i1 : (i : Int) < (k : Int) := by omega
              have ti : decide (i < k) = true := by simp [hlt]
              have HL := hid hL; have HLT := hid hlt
              have HOi : Hid (ch i).ok := by have := HO.out; unfold T.ok at this; exact this.2.2.2.2 i hlt
              have HZi : Hid ((ch i).size ≤ 100000) := Nat.le_trans (T.size_ch hlt) HSZ.out
              have HPS := hid (pre_succ 4 s true k ch i)
              have hno : (9223372036854775807 < (pre 4 s true k ch i).length + (ch i).bytes.length) = False := by
                have h1 := pre_le (op := true) (show i + 1 ≤ k by omega) HSZ.out
                rw [HPS.out, List.length_append] at h1
                simp; omega
              have hk2 : (k : Int) < 4611686018427387904 := by have := hk.out; omega
              clear hL hlt
              go_wp2_with fail
              refine (HI.out i HOi.out (hpc.out i HLT.out) HZi.out Ai ci _ HL.out).mono ?_
              rintro e w3 ⟨rfl, hb3⟩
              have HE3 := hid (hH.out.1.trans hb3)
              have HB3 := hid (hH.out.2.ext hb3)
              clear hb3
              go_wp2_with fail
              have hlt := HLT.out
              refine ⟨⟨i + 1, by omega, by simp, by rw [HPS.out]; exact str_app _ _, (show Hid _ from ⟨HE3.out, HB3.out⟩)⟩, ?_⟩
              simp only [intOf]; omega
            · obtain rfl : i = k := by omega
              have ti : decide (i < i) = false := by simp
              have HPE := hid (pre_end (n := n) (s := s) (op := true) (k := i) (ch := ch))
              have hno : (9223372036854775807 < (pre 4 s true i ch i).length + 1) = False := by have := HP.out; simp; omega
              go_wp2_with fail
              go_ret
              exact Ret.mk (by rw [HPE.out]; exact str_app _ [255]) hH.out.1
end Go.Proofs.Ytagjhkknefiieaa
