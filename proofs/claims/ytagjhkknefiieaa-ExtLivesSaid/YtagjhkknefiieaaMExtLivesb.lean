/-
  Items: the code's Build and Same.
  Items: a number, bytes, an array, made.
  An item's block: its five cells, stored anew.
  A row of items of the call's own: its form, in a later world; what is appended to it.
  A list of items that grows by append: what is kept from round to round.
  The plain law of a reader: its state, and what each call makes of it. No program in sight.
  The walks of package cbor's reading functions: join, fail.
  The walks of (*Reader).head, a case at a time.
  The walks of the reader's calls: each returns what the plain reader returns, and leaves the reader as the plain one.
  The walk of the reference's Read: it returns how a head is read.
  The walk of the reference's Read: a number behind the first byte.
  The reference's Read, whatever the bytes; and its reader's fail.
  How an item is parsed, plainly: how far it goes, or where it is wrong, and why.
-/
import Derived.Test.YtagjhkknefiieaaMExtLivesa
import Derived.Laws.OwnMore
import Derived.OwnWalk
import Derived.OneCell
import Derived.Deep.AppendLies
import Derived.Deep.RegionLaw
import Derived.Lib.Strings

namespace Go.Proofs.Ytagjhkknefiieaa
open Go.RowKit
set_option linter.unusedVariables false

theorem Blk.new' (w : World) (t : TypeId) (cs : Array Value) {N : Nat} (h : w.heap.size = N) : Blk (w.alloc (.cells cs t)) N t cs := by subst h; exact Blk.new _ _ _
theorem openL4 : openL 4 = [159] := by decide
theorem openL7 : openL 7 = [255] := by decide

set_option maxRecDepth 20000 in
set_option maxHeartbeats 3200000 in
theorem build_any (t : T) : t.ok → t.plain = true → t.size ≤ 100000 → ∀ A c w, IsL w (fun _ => True) t A →
    Calls Try.prog 63 #[itemV t A c] w (Ret (str t.bytes) w) := by
  induction t with
  | nil => intro hok; cases hok
  | mk kind n s op k ch ih =>
    intro hok hpl hsz A c w h
    have H := hid h; have HO := hid hok; have HPL := hid hpl; have HSZ := hid hsz
    have HI := hid ih
    have hk : Hid (k < 4611686018427387904) := by unfold T.ok at hok; exact hok.2.2.2.1
    have hn64 : Hid (n < 18446744073709551616) := by unfold T.ok at hok; exact hok.2.1
    have hs64 : Hid (s.length < 4611686018427387904) := by unfold T.ok at hok; exact hok.2.2.1
    have hkd : kind = 0 ∨ kind = 2 ∨ kind = 3 ∨ kind = 4 := by unfold T.plain at hpl; rw [Bool.and_eq_true] at hpl; exact T.node_kind hpl.1
    have hpc : Hid (∀ i, i < k → (ch i).plain = true) := by unfold T.plain at hpl; rw [Bool.and_eq_true, T.all_iff] at hpl; exact hpl.2
    have hBy : (T.mk kind n s op k ch).bytes = if kind = 0 then headL 0 n else if kind < 4 then headL kind.toNat s.length ++ s else (if op then [159] else headL 4 k) ++ (T.cat (fun i => (ch i).bytes) k ++ (if op then [255] else [])) := rfl
    have HBy := hid hBy
    show Calls Try.prog 63 #[.agg #[.int .i64 kind, .int .u64 (n : Int), str s, .slice A k c, .bool op]] w (Ret (str (T.mk kind n s op k ch).bytes) w)
    have HB : Hid (Blk (w.alloc (.cells #[.int .i64 kind, .int .u64 (n : Int), str s, .slice A k c, .bool op] 63)) w.heap.size 63 #[.int .i64 kind, .int .u64 (n : Int), str s, .slice A k c, .bool op]) := Blk.new _ _ _
    have HE0 := hid ((Mod.refl [] w).alloc (.cells #[.int .i64 kind, .int .u64 (n : Int), str s, .slice A k c, .bool op] 63))
    clear h hok hpl hsz ih hBy
    rcases hkd with rfl | rfl | rfl | rfl
    · rw [HBy.out, if_pos rfl]
      go_enter Try.func63, Try.ntmps63
      go_wp2_with fail
      refine (head_in 0 n (by omega) (by omega) (by omega) (by have := hn64.out; omega) _).mono ?_
      rintro e w2 ⟨rfl, hb2⟩
      go_wp2_with fail
      go_ret
      exact Ret.mk rfl (HE0.out.trans hb2)
    · rw [HBy.out, if_neg (by omega), if_pos (by omega)]
      go_enter Try.func63, Try.ntmps63
      go_wp2_with fail
      refine (wBytes_any s hs64 _).mono ?_
      rintro e w2 ⟨rfl, hb2⟩
      go_wp2_with fail
      go_ret
      exact Ret.mk rfl (HE0.out.trans hb2)
    · rw [HBy.out, if_neg (by omega), if_pos (by omega)]
      go_enter Try.func63, Try.ntmps63
      go_wp2_with fail
      refine (wText_any s hs64 _).mono ?_
      rintro e w2 ⟨rfl, hb2⟩
      go_wp2_with fail
      go_ret
      exact Ret.mk rfl (HE0.out.trans hb2)
    · clear HBy
      have K0 : (0 : Int) ≤ (k : Int) := by omega
      have K1 : (k : Int) < 9223372036854775808 := by have := hk.out; omega
      cases op
      · go_enter Try.func63, Try.ntmps63
        go_wp2_with fail
        refine (head_in 4 (k : Int) (by omega) (by omega) (by omega) (by have := hk.out; omega) _).mono ?_
        rintro e w2 ⟨rfl, hb2⟩
        rw [Int.toNat_natCast]
        have HE2 := hid (HE0.out.trans hb2)
        have HB2 := hid (HB.out.ext hb2)
        have c4 : w2.cell? ⟨w.heap.size, 4, none⟩ = some (.bool false) := HB2.out.cell 4
        have c3 : w2.cell? ⟨w.heap.size, 3, none⟩ = some (.slice A k c) := HB2.out.cell 3
        clear hb2 K1
        go_wp2_with fail
        clear c4 c3
        go_loopw [3, 36] (fun s3 s36 wr => ∃ i : Nat, i ≤ k ∧ s36 = .int .i64 (i : Int) ∧ s3 = str (pre 4 s false k ch i) ∧ Hid (Ext w wr)) (fun _ i _ => k - (intOf i).toNat)
        case atStart => exact ⟨0, Nat.zero_le _, rfl, by simp [pre, T.cat], HE2.out⟩
        case round =>
          obtain ⟨i, hi, rfl, rfl, hH⟩ := hrel
          have i0 : (0 : Int) ≤ (i : Int) := by omega
          have HP := hid (pre_le (op := false) hi HSZ.out)
          by_cases hlt : i < k
          · obtain ⟨b, o, Ai, ci, rfl, hb, ⟨k0, k1, k2, k3, k4⟩, hL⟩ := H.out.cells hH.out hlt
            have i1 : (i : Int) < (k : Int) := by omega
            have ti : decide (i < k) = true := by simp [hlt]
            have HL := hid hL; have HLT := hid hlt
            have HOi : Hid (ch i).ok := by have := HO.out; unfold T.ok at this; exact this.2.2.2.2 i hlt
            have HZi : Hid ((ch i).size ≤ 100000) := Nat.le_trans (T.size_ch hlt) HSZ.out
            have HPS := hid (pre_succ 4 s false k ch i)
            have hno : (9223372036854775807 < (pre 4 s false k ch i).length + (ch i).bytes.length) = False := by
              have h1 := pre_le (op := false) (show i + 1 ≤ k by omega) HSZ.out
              rw [HPS.out, List.length_append] at h1
              simp; omega
            have hk2 : (k : Int) < 4611686018427387904 := by have := hk.out; omega
            have HEa := hid ((Mod.refl [] wr).alloc (.cells (itemC (ch i) Ai ci) 63))
            clear hL hlt
            go_wp2_with fail
            refine (HI.out i HOi.out (hpc.out i HLT.out) HZi.out Ai ci _ (HL.out.ext HEa.out)).mono ?_
            rintro e w3 ⟨rfl, hb3⟩
            have HE3 := hid ((hH.out.trans HEa.out).trans hb3)
            clear hb3
            go_wp2_with fail
            have hlt := HLT.out
            refine ⟨⟨i + 1, by omega, by simp, by rw [HPS.out]; exact str_app _ _, (show Hid _ from HE3.out)⟩, ?_⟩
            simp only [intOf]; omega
          · obtain rfl : i = k := by omega
            have ti : decide (i < i) = false := by simp
            have HPE := hid (pre_end (n := n) (s := s) (op := false) (k := i) (ch := ch))
            have hno : (9223372036854775807 < (pre 4 s false i ch i).length) = False := by have := HP.out; simp; omega
            go_wp2_with fail
            go_ret
            exact Ret.mk (by rw [HPE.out]; exact str_app _ []) hH.out
      · go_enter Try.func63, Try.ntmps63
        go_wp2_with fail
        refine (head_in 4 (k : Int) (by omega) (by omega) (by omega) (by have := hk.out; omega) _).mono ?_
        rintro e w2 ⟨rfl, hb2⟩
        rw [Int.toNat_natCast]
        have HE2 := hid (HE0.out.trans hb2)
        have HB2 := hid (HB.out.ext hb2)
        have c4 : w2.cell? ⟨w.heap.size, 4, none⟩ = some (.bool true) := HB2.out.cell 4
        have c3 : w2.cell? ⟨w.heap.size, 3, none⟩ = some (.slice A k c) := HB2.out.cell 3
        clear hb2 K1
        go_wp2_with fail
        refine (open_any 4 _).mono ?_
        rintro e w3 ⟨rfl, hb3⟩
        rw [openL4]
        go_wp2_with fail
        refine (open_any 7 _).mono ?_
        rintro e w4 ⟨rfl, hb4⟩
        rw [openL7]
        have HE4 := hid ((HE2.out.trans hb3).trans hb4)
        have HB4 := hid ((HB2.out.ext hb3).ext hb4)
        clear hb3 hb4 c3 c4 HE2 HB2
        have HE2 := HE4
        have c3 : w4.cell? ⟨w.heap.size, 3, none⟩ = some (.slice A k c) := HB4.out.cell 3
        have c4 : w4.cell? ⟨w.heap.size, 4, none⟩ = some (.bool true) := HB4.out.cell 4
        go_wp2_with fail
        clear c4 c3
        go_loopw [3, 36] (fun s3 s36 wr => ∃ i : Nat, i ≤ k ∧ s36 = .int .i64 (i : Int) ∧ s3 = str (pre 4 s true k ch i) ∧ Hid (Ext w wr)) (fun _ i _ => k - (intOf i).toNat)
        case atStart => exact ⟨0, Nat.zero_le _, rfl, by simp [pre, T.cat], HE2.out⟩
        case round =>
          obtain ⟨i, hi, rfl, rfl, hH⟩ := hrel
          have i0 : (0 : Int) ≤ (i : Int) := by omega
          have HP := hid (pre_le (op := true) hi HSZ.out)
          by_cases hlt : i < k
          · obtain ⟨b, o, Ai, ci, rfl, hb, ⟨k0, k1, k2, k3, k4⟩, hL⟩ := H.out.cells hH.out hlt
            have i1 : (i : Int) < (k : Int) := by omega
            have ti : decide (i < k) = true := by simp [hlt]
            have HL := hid hL; have HLT := hid hlt
            have HOi : Hid (ch i).ok := by have := HO.out; unfold T.ok at this; exact this.2.2.2.2 i hlt
            have HZi : Hid ((ch i).size ≤ 100000) := Nat.le_trans (T.size_ch hlt) HSZ.out
            have HPS := hid (pre_succ 4 s true k ch i)
            have hno : (9223372036854775807 < (pre 4 s true k ch i).length + (ch i).bytes.length) = False := by
              have h1 := pre_le (op := true) (show i + 1 ≤ k by omega) HSZ.out
              rw [HPS.out, List.length_append] at h1
              simp; omega
            have hk2 : (k : Int) < 4611686018427387904 := by have := hk.out; omega
            have HEa := hid ((Mod.refl [] wr).alloc (.cells (itemC (ch i) Ai ci) 63))
            clear hL hlt
            go_wp2_with fail
            refine (HI.out i HOi.out (hpc.out i HLT.out) HZi.out Ai ci _ (HL.out.ext HEa.out)).mono ?_
            rintro e w3 ⟨rfl, hb3⟩
            have HE3 := hid ((hH.out.trans HEa.out).trans hb3)
            clear hb3
            go_wp2_with fail
            have hlt := HLT.out
            refine ⟨⟨i + 1, by omega, by simp, by rw [HPS.out]; exact str_app _ _, (show Hid _ from HE3.out)⟩, ?_⟩
            simp only [intOf]; omega
          · obtain rfl : i = k := by omega
            have ti : decide (i < i) = false := by simp
            have HPE := hid (pre_end (n := n) (s := s) (op := true) (k := i) (ch := ch))
            have hno : (9223372036854775807 < (pre 4 s true i ch i).length + 1) = False := by have := HP.out; simp; omega
            go_wp2_with fail
            go_ret
            exact Ret.mk (by rw [HPE.out]; exact str_app _ [255]) hH.out

/-- What Build hands back. -/
def buildV (t : T) : Value := if t.right 8 then .tuple #[str t.bytes, .int .i64 0] else .tuple #[str [], .int .i64 1]
set_option maxRecDepth 20000 in
set_option maxHeartbeats 1600000 in
theorem iBuild_any (t : T) (hok : t.ok) (hsz : t.size ≤ 100000) (A : Option Addr) (c : Nat) (w : World) (h : IsL w (fun _ => True) t A) :
    Calls Try.prog 53 #[itemV t A c] w (Ret (buildV t) w) := by
  have H := hid h; have HO := hid hok; have HS := hid hsz
  have HB : Hid (Blk (w.alloc (.cells (itemC t A c) 63)) w.heap.size 63 (itemC t A c)) := Blk.new _ _ _
  have HE0 := hid ((Mod.refl [] w).alloc (.cells (itemC t A c) 63))
  have HPL : Hid (t.right 8 = true → t.plain = true) := fun h => by rw [T.right_eq] at h; simp at h; exact h.2
  clear h hok hsz
  go_enter Try.func53, Try.ntmps53
  go_wp2_with fail
  refine (iRight_any t HO.out A c _ (H.out.ext HE0.out)).mono ?_
  rintro e w2 ⟨rfl, hb2⟩
  have HE2 := hid (HE0.out.trans hb2)
  have hB2 := HB.out.ext hb2
  have c0 : w2.cell? ⟨w.heap.size, 0, none⟩ = some (.int .i64 t.kind) := hB2.cell 0
  have c1 : w2.cell? ⟨w.heap.size, 1, none⟩ = some (.int .u64 (t.n : Int)) := hB2.cell 1
  have c2 : w2.cell? ⟨w.heap.size, 2, none⟩ = some (str t.s) := hB2.cell 2
  have c3 : w2.cell? ⟨w.heap.size, 3, none⟩ = some (.slice A t.k c) := hB2.cell 3
  have c4 : w2.cell? ⟨w.heap.size, 4, none⟩ = some (.bool t.op) := hB2.cell 4
  clear hb2 hB2
  cases hr : t.right 8
  · have HR := hid hr
    clear hr
    go_wp2_with fail
    go_ret2
    exact Ret.mk (by rw [buildV, HR.out]; rfl) HE2.out
  · have HR := hid hr
    clear hr
    go_wp2_with fail
    refine (build_any t HO.out (HPL.out HR.out) HS.out A c _ (H.out.ext HE2.out)).mono ?_
    rintro e w3 ⟨rfl, hb3⟩
    go_wp2_with fail
    go_ret2
    exact Ret.mk (by rw [buildV, HR.out]; rfl) (HE2.out.trans hb3)
end Go.Proofs.Ytagjhkknefiieaa


namespace Go.Proofs.Ytagjhkknefiieaa
open Go.RowKit
set_option linter.unusedVariables false

/-- A number; bytes. -/
def numT (n : Nat) : T := T.mk 0 n [] false 0 fun _ => T.nil
def strT (s : List UInt8) : T := T.mk 2 0 s false 0 fun _ => T.nil

theorem Num_any (n : Nat) (w : World) : Calls Try.prog 34 #[.int .u64 (n : Int)] w (Ret (itemV (numT n) none 0) w) := by
  go_enter Try.func34, Try.ntmps34
  go_wp2
  refine bodyPost_ret (v := itemV (numT n) none 0) ?_ rfl (Ret.mk rfl ((Mod.refl _ _).alloc _))
  simp [results, Try.results34, go_sem]
  exact ⟨rfl, rfl, rfl, rfl, rfl⟩
theorem List_any (ch : Nat → T) (k : Nat) (A : Option Addr) (c : Nat) (w : World) : Calls Try.prog 36 #[.slice A k c] w (Ret (itemV (T.mk 4 0 [] false k ch) A c) w) := by
  go_enter Try.func36, Try.ntmps36
  go_wp2
  refine bodyPost_ret (v := itemV (T.mk 4 0 [] false k ch) A c) ?_ rfl (Ret.mk rfl ((Mod.refl _ _).alloc _))
  simp [results, Try.results36, go_sem]
  exact ⟨rfl, rfl, rfl, rfl, rfl⟩
theorem NumI_any (n : Int) (w : World) : Calls Try.prog 34 #[.int .u64 n] w (Ret (.agg #[.int .i64 0, .int .u64 n, str [], .slice none 0 0, .bool false]) w) := by
  go_enter Try.func34, Try.ntmps34
  go_wp2
  refine bodyPost_ret (v := .agg #[.int .i64 0, .int .u64 n, str [], .slice none 0 0, .bool false]) ?_ rfl (Ret.mk rfl ((Mod.refl _ _).alloc _))
  simp [results, Try.results34, go_sem]
/-- A list's value, whatever its items. -/
theorem ListV_any (k : Nat) (A : Option Addr) (c : Nat) (w : World) : Calls Try.prog 36 #[.slice A k c] w (Ret (.agg #[.int .i64 4, .int .u64 0, str [], .slice A k c, .bool false]) w) := List_any (fun _ => T.nil) k A c w
theorem num_ok {n : Nat} (h : n < 18446744073709551616) : (numT n).ok := by unfold numT T.ok; exact ⟨by omega, h, by simp, by omega, fun i hi => by omega⟩
theorem str_ok {s : List UInt8} (h : s.length < 4611686018427387904) : (strT s).ok := by unfold strT T.ok; exact ⟨by omega, by omega, h, by omega, fun i hi => by omega⟩
end Go.Proofs.Ytagjhkknefiieaa


namespace Go.Proofs.Ytagjhkknefiieaa
open Go.RowKit
set_option linter.unusedVariables false

/-- A block's five cells, stored anew. -/
def set5 (W : World) (b : Nat) (t : T) (A : Option Addr) (c : Nat) : World := ((((W.setCell ⟨b, 0, none⟩ (.int .i64 t.kind)).setCell ⟨b, 1, none⟩ (.int .u64 (t.n : Int))).setCell ⟨b, 2, none⟩ (str t.s)).setCell ⟨b, 3, none⟩ (.slice A t.k c)).setCell ⟨b, 4, none⟩ (.bool t.op)
section
variable {W : World} {b : Nat} {t0 t : T} {A0 A : Option Addr} {c0 c : Nat}
theorem set5_blk (h : Blk W b 63 (itemC t0 A0 c0)) : Blk (set5 W b t A c) b 63 (itemC t A c) := by
  have := ((((h.set_ 0 (.int .i64 t.kind)).set_ 1 (.int .u64 (t.n : Int))).set_ 2 (str t.s)).set_ 3 (.slice A t.k c)).set_ 4 (.bool t.op)
  unfold set5
  simpa [itemC] using this
theorem set5_mod {w : World} {S : List Nat} (h : Mod S w W) (hb : w.heap.size ≤ b) : Mod S w (set5 W b t A c) :=
  ((((h.setCell (.inr hb) _).setCell (.inr hb) _).setCell (.inr hb) _).setCell (.inr hb) _).setCell (.inr hb) _
theorem set5_modb : Mod [b] W (set5 W b t A c) :=
  (((((Mod.refl _ _).setCell (.inl (by simp)) _).setCell (.inl (by simp)) _).setCell (.inl (by simp)) _).setCell (.inl (by simp)) _).setCell (.inl (by simp)) _
theorem set5_far {g : Nat} {ty : TypeId} {cs : Array Value} (h : Blk W g ty cs) (hg : g ≠ b) : Blk (set5 W b t A c) g ty cs := h.mod set5_modb (by simpa using hg)
end
/-- The cells of an item's block. -/
theorem cells5 {W : World} {b : Nat} {t : T} {A : Option Addr} {c : Nat} (h : Blk W b 63 (itemC t A c)) : W.cell? ⟨b, 0, none⟩ = some (.int .i64 t.kind) ∧ W.cell? ⟨b, 1, none⟩ = some (.int .u64 (t.n : Int)) ∧ W.cell? ⟨b, 2, none⟩ = some (str t.s) ∧
    W.cell? ⟨b, 3, none⟩ = some (.slice A t.k c) ∧ W.cell? ⟨b, 4, none⟩ = some (.bool t.op) := ⟨h.cell 0, h.cell 1, h.cell 2, h.cell 3, h.cell 4⟩
end Go.Proofs.Ytagjhkknefiieaa


namespace Go.Proofs.Ytagjhkknefiieaa
open Go.RowKit
set_option linter.unusedVariables false

theorem infoItem : (Try.prog.info? 63).map (fun i => (i.zero, i.size, i.bytes)) = some (some (.agg #[.int .i64 0, .int .u64 0, .string ⟨#[]⟩, .slice none 0 0, .bool false]), 5, 64) := by kernel_rfl

theorem ownsRow_mod {w w' : World} {S : List Nat} {base : Nat} {e : TypeId} {size : Nat} {v : Value} {n : Nat} {xs : List Value} (h : w.ownsRow base e size v n xs) (hm : Mod S w w') (hs : ∀ k, v.ownBlock = some k → k ∉ S) : w'.ownsRow base e size v n xs := by
  refine ⟨h.1, ?_⟩
  have hlt := h.lt
  rcases h.2 with h0 | ⟨g, cap, cur, rfl, hbg, hg, hnc, hcm, hcs, htake⟩
  · exact .inl h0
  · exact .inr ⟨g, cap, cur, rfl, hbg, (hm.block g (hlt g rfl).2 (hs g rfl)).trans hg, hnc, hcm, hcs, htake⟩

theorem own_form {w : World} {base : Nat} {e : TypeId} {size : Nat} {v : Value} {n : Nat} {xs : List Value} (h : w.ownsRow base e size v (n + 1) xs) : ∃ g c, v = .slice (some ⟨g, 0, none⟩) (n + 1) c ∧ base ≤ g ∧ g < w.heap.size := by
  have hlt := h.lt
  rcases h.2 with ⟨_, h0⟩ | ⟨g, cap, cur, rfl, hbg, hg, _⟩
  · cases h0
  · exact ⟨g, cap, rfl, hbg, (hlt g rfl).2⟩
theorem news5 (W : World) (t : T) (A : Option Addr) (c : Nat) : ∀ j u, [Value.int .i64 t.kind, .int .u64 (t.n : Int), str t.s, .slice A t.k c, .bool t.op][j]? = some u →
    (W.alloc (.cells (itemC t A c) 63)).cell? ((⟨W.heap.size, 0, none⟩ : Addr).add j) = some u := by
  intro j u hj
  rw [addr_add, Nat.zero_add]
  rw [(Blk.new W 63 (itemC t A c)).cell j]
  simpa using hj
theorem one5 (t : T) (A : Option Addr) (c : Nat) : ∀ u ∈ [Value.int .i64 t.kind, .int .u64 (t.n : Int), str t.s, .slice A t.k c, .bool t.op], u.oneCell' = true := by
  intro u hu
  simp at hu
  rcases hu with rfl | rfl | rfl | rfl | rfl <;> rfl

theorem own_of_blk {w : World} {g base n size : Nat} {e : TypeId} {cs : Array Value} (h : Blk w g e cs) (hb : base ≤ g) (hn : n ≤ maxLen) (hs : cs.size = n * size) : w.ownsRow base e size (.slice (some ⟨g, 0, none⟩) n n) n cs.toList :=
  ⟨by simpa using hs, .inr ⟨g, n, cs, rfl, hb, h, Nat.le_refl _, hn, hs, by rw [← hs]; exact List.take_of_length_le (by simp)⟩⟩
theorem own_cells {w : World} {g base n c size : Nat} {e : TypeId} {xs : List Value} (h : w.ownsRow base e size (.slice (some ⟨g, 0, none⟩) n c) n xs) {j : Nat} {u : Value} (hj : xs[j]? = some u) : w.cell? ⟨g, j, none⟩ = some u := by
  have := h.cells (g := g) rfl j u hj
  rw [addr_add, Nat.zero_add] at this
  exact this
/-- The row's cells: the first i items'. -/
def flatC (ch : Nat → T) (ac : Nat → Option Addr × Nat) : Nat → List Value
  | 0 => []
  | i + 1 => flatC ch ac i ++ [.int .i64 (ch i).kind, .int .u64 ((ch i).n : Int), str (ch i).s, .slice (ac i).1 (ch i).k (ac i).2, .bool (ch i).op]
theorem flatC_length (ch : Nat → T) (ac : Nat → Option Addr × Nat) (i : Nat) : (flatC ch ac i).length = i * 5 := by
  induction i with
  | zero => rfl
  | succ i ih => rw [flatC, List.length_append, ih]; simp; omega
theorem flatC_congr {ch ch' : Nat → T} {ac ac' : Nat → Option Addr × Nat} {i : Nat} (h : ∀ j, j < i → ch j = ch' j ∧ ac j = ac' j) : flatC ch ac i = flatC ch' ac' i := by
  induction i with
  | zero => rfl
  | succ i ih => rw [flatC, flatC, ih (fun j hj => h j (by omega)), (h i (by omega)).1, (h i (by omega)).2]
theorem flatC_get (ch : Nat → T) (ac : Nat → Option Addr × Nat) (i : Nat) : ∀ j, j < i → (flatC ch ac i)[j * 5]? = some (.int .i64 (ch j).kind) ∧ (flatC ch ac i)[j * 5 + 1]? = some (.int .u64 ((ch j).n : Int)) ∧ (flatC ch ac i)[j * 5 + 2]? = some (str (ch j).s) ∧
    (flatC ch ac i)[j * 5 + 3]? = some (.slice (ac j).1 (ch j).k (ac j).2) ∧ (flatC ch ac i)[j * 5 + 4]? = some (.bool (ch j).op) := by
  induction i with
  | zero => intro j hj; omega
  | succ i ih =>
    intro j hj
    have hl := flatC_length ch ac i
    rw [flatC]
    by_cases e : j = i
    · subst e
      refine ⟨?_, ?_, ?_, ?_, ?_⟩ <;> (rw [List.getElem?_append_right (by omega), hl]; simp)
    · have := ih j (by omega)
      refine ⟨?_, ?_, ?_, ?_, ?_⟩ <;> rw [List.getElem?_append_left (by omega)]
      · exact this.1
      · exact this.2.1
      · exact this.2.2.1
      · exact this.2.2.2.1
      · exact this.2.2.2.2

theorem flatC_idx (ch : Nat → T) (ac : Nat → Option Addr × Nat) (k : Nat) {j : Nat} {u : Value} (h : (flatC ch ac k)[j]? = some u) : ∃ i r, i < k ∧ r < 5 ∧ j = i * 5 + r := by
  have := (List.getElem?_eq_some_iff.1 h).1
  rw [flatC_length] at this
  exact ⟨j / 5, j % 5, by omega, by omega, by omega⟩
theorem flatC_news {W : World} {b o : Nat} {ch : Nat → T} {ac : Nat → Option Addr × Nat} {k : Nat} (h : ∀ i, i < k → At5 W b (o + i * 5) (ch i) (ac i).1 (ac i).2) : ∀ j u, (flatC ch ac k)[j]? = some u → W.cell? ((⟨b, o, none⟩ : Addr).add j) = some u := by
  intro j u hj
  obtain ⟨i, r, hi, hr, rfl⟩ := flatC_idx ch ac k hj
  obtain ⟨g0, g1, g2, g3, g4⟩ := flatC_get ch ac k i hi
  obtain ⟨a0, a1, a2, a3, a4⟩ := h i hi
  rw [addr_add, ← Nat.add_assoc]
  have h5 : r = 0 ∨ r = 1 ∨ r = 2 ∨ r = 3 ∨ r = 4 := by omega
  rcases h5 with rfl | rfl | rfl | rfl | rfl
  · rw [← hj, Nat.add_zero, Nat.add_zero, g0]; exact a0
  · rw [← hj, g1]; exact a1
  · rw [← hj, g2]; exact a2
  · rw [← hj, g3]; exact a3
  · rw [← hj, g4]; exact a4
theorem flatC_one (ch : Nat → T) (ac : Nat → Option Addr × Nat) (k : Nat) : ∀ u ∈ flatC ch ac k, u.oneCell' = true := by
  intro u hu
  obtain ⟨j, hj⟩ := List.getElem?_of_mem hu
  obtain ⟨i, r, hi, hr, rfl⟩ := flatC_idx ch ac k hj
  obtain ⟨g0, g1, g2, g3, g4⟩ := flatC_get ch ac k i hi
  have h5 : r = 0 ∨ r = 1 ∨ r = 2 ∨ r = 3 ∨ r = 4 := by omega
  rcases h5 with rfl | rfl | rfl | rfl | rfl
  · rw [Nat.add_zero, g0] at hj; cases hj; rfl
  · rw [g1] at hj; cases hj; rfl
  · rw [g2] at hj; cases hj; rfl
  · rw [g3] at hj; cases hj; rfl
  · rw [g4] at hj; cases hj; rfl
theorem IsL.rows {W : World} {Q : Nat → Prop} {kind : Int} {n : Nat} {s : List UInt8} {op : Bool} {k : Nat} {ch : Nat → T} {A : Option Addr} (h : IsL W Q (T.mk kind n s op k ch) A) (hk : 0 < k) :
    ∃ (b o : Nat) (ac : Nat → Option Addr × Nat), A = some ⟨b, o, none⟩ ∧ b < W.heap.size ∧ Q b ∧ ∀ i, i < k → At5 W b (o + i * 5) (ch i) (ac i).1 (ac i).2 ∧ IsL W Q (ch i) (ac i).1 := by
  obtain ⟨b, o, hA, hb, hq, hc⟩ := h hk
  have hex : ∀ i, ∃ p : Option Addr × Nat, i < k → At5 W b (o + i * 5) (ch i) p.1 p.2 ∧ IsL W Q (ch i) p.1 := fun i => by
    by_cases hi : i < k
    · obtain ⟨Ai, ci, h1, h2⟩ := hc i hi
      exact ⟨(Ai, ci), fun _ => ⟨h1, h2⟩⟩
    · exact ⟨(none, 0), fun h => absurd h hi⟩
  exact ⟨b, o, fun i => (hex i).choose, hA, hb, hq, fun i hi => (hex i).choose_spec hi⟩
theorem own_IsL {W : World} {Q : Nat → Prop} {base g c k : Nat} {ch : Nat → T} {ac : Nat → Option Addr × Nat} (hlt : g < W.heap.size) (q : Q g) (h : W.ownsRow base 63 5 (.slice (some ⟨g, 0, none⟩) k c) k (flatC ch ac k)) (hI : ∀ i, i < k → IsL W Q (ch i) (ac i).1) : IsL W Q (T.mk 4 0 [] false k ch) (some ⟨g, 0, none⟩) := fun _ => ⟨g, 0, rfl, hlt, q, fun i hi => by
  obtain ⟨g0, g1, g2, g3, g4⟩ := flatC_get ch ac k i hi
  refine ⟨(ac i).1, (ac i).2, ⟨?_, ?_, ?_, ?_, ?_⟩, hI i hi⟩
  · rw [Nat.zero_add]; exact own_cells h g0
  · rw [Nat.zero_add]; exact own_cells h g1
  · rw [Nat.zero_add]; exact own_cells h g2
  · rw [Nat.zero_add]; exact own_cells h g3
  · rw [Nat.zero_add]; exact own_cells h g4⟩
/-- The last item's five cells, stored anew. -/
theorem own_last {W : World} {base g c n : Nat} {ch : Nat → T} {ac : Nat → Option Addr × Nat} (t : T) (A : Option Addr) (ca : Nat) (h : W.ownsRow base 63 5 (.slice (some ⟨g, 0, none⟩) (n + 1) c) (n + 1) (flatC ch ac (n + 1))) :
    (((((W.setCell ⟨g, n * 5, none⟩ (.int .i64 t.kind)).setCell ⟨g, n * 5 + 1, none⟩ (.int .u64 (t.n : Int))).setCell ⟨g, n * 5 + 2, none⟩ (str t.s)).setCell ⟨g, n * 5 + 3, none⟩ (.slice A t.k ca)).setCell ⟨g, n * 5 + 4, none⟩ (.bool t.op)).ownsRow base 63 5 (.slice (some ⟨g, 0, none⟩) (n + 1) c) (n + 1)
      (flatC (fun i => if i = n then t else ch i) (fun i => if i = n then (A, ca) else ac i) (n + 1)) := by
  have h5 := ((((h.stored (n * 5) (.int .i64 t.kind)).1.stored (n * 5 + 1) (.int .u64 (t.n : Int))).1.stored (n * 5 + 2) (str t.s)).1.stored (n * 5 + 3) (.slice A t.k ca)).1.stored (n * 5 + 4) (.bool t.op)
  have hl := flatC_length ch ac n
  have e : (((((flatC ch ac (n + 1)).set (n * 5) (.int .i64 t.kind)).set (n * 5 + 1) (.int .u64 (t.n : Int))).set (n * 5 + 2) (str t.s)).set (n * 5 + 3) (.slice A t.k ca)).set (n * 5 + 4) (.bool t.op) = flatC (fun i => if i = n then t else ch i) (fun i => if i = n then (A, ca) else ac i) (n + 1) := by
    have hc : flatC (fun i => if i = n then t else ch i) (fun i => if i = n then (A, ca) else ac i) n = flatC ch ac n := flatC_congr fun j hj => by
      have : ¬ j = n := by omega
      simp [this]
    rw [flatC, flatC, hc, ← hl]
    simp
  rw [e] at h5
  exact h5.1
end Go.Proofs.Ytagjhkknefiieaa


namespace Go.Proofs.Ytagjhkknefiieaa
open Go.RowKit
set_option linter.unusedVariables false

def putT (ch : Nat → T) (i : Nat) (t : T) (j : Nat) : T := if j = i then t else ch j
def putP (ac : Nat → Option Addr × Nat) (i : Nat) (a : Option Addr × Nat) (j : Nat) : Option Addr × Nat := if j = i then a else ac j
theorem putT_self (ch : Nat → T) (i : Nat) : putT ch i (ch i) = ch := by
  funext j
  unfold putT
  by_cases h : j = i
  · rw [if_pos h, h]
  · rw [if_neg h]

/-- i items of ch lie in a list of one's own, at or above N; what hangs on them lies in blocks of Q0. -/
structure GL (Q0 : Nat → Prop) (N : Nat) (wr : World) (i : Nat) (A : Option Addr) (c : Nat) (ch : Nat → T) (ac : Nat → Option Addr × Nat) : Prop where
  nx : N ≤ wr.heap.size
  own : wr.ownsRow N 63 5 (.slice A i c) i (flatC ch ac i)
  mem : ∀ j, j < i → IsL wr (fun b => Q0 b ∧ A ≠ some ⟨b, 0, none⟩) (ch j) (ac j).1

section
variable {Q0 : Nat → Prop} {N : Nat} {wr : World} {i : Nat} {A : Option Addr} {c : Nat} {ch : Nat → T} {ac : Nat → Option Addr × Nat}
theorem GL.nil (Q0 : Nat → Prop) {N : Nat} {wr : World} (h : N ≤ wr.heap.size) (ch : Nat → T) (ac : Nat → Option Addr × Nat) : GL Q0 N wr 0 none 0 ch ac := ⟨h, World.ownsRow_nil _ _ _ _, fun j hj => by omega⟩
theorem GL.mod (h : GL Q0 N wr i A c ch ac) {w2 : World} {S : List Nat} (hm : Mod S wr w2) (hS : ∀ k, k ∈ S → k < N ∧ ¬ Q0 k) : GL Q0 N w2 i A c ch ac :=
  ⟨Nat.le_trans h.nx hm.size, ownsRow_mod h.own hm (fun k hk hm => by have := (h.own.lt k hk).1; have := (hS k hm).1; omega), fun j hj => IsL.mod hm (fun k hq _ hk => (hS k hk).2 hq.1) (ch j) (h.mem j hj)⟩
theorem GL.ext (h : GL Q0 N wr i A c ch ac) {w2 : World} (hm : Ext wr w2) : GL Q0 N w2 i A c ch ac := h.mod hm (fun k hk => by cases hk)
theorem GL.own2 (h : GL Q0 N wr i A c ch ac) {w2 : World} (hm : Ext wr w2) (ob : Obj) : (w2.alloc ob).ownsRow N 63 5 (.slice A i c) i (flatC ch ac i) := (h.ext hm).own.alloc ob
theorem GL.room (h : GL Q0 N wr i A c ch ac) {w2 : World} (hm : Ext wr w2) : N ≤ w2.heap.size := Nat.le_trans h.nx hm.size
/-- Which blocks an append turns. -/
theorem GL.turned (h : GL Q0 N wr i A c ch ac) {w2 w4 : World} (hm : Ext wr w2) {ob : Obj} (hgr : (w2.alloc ob).grownBy w4 (Value.slice A i c).ownBlock) : ∃ S, (∀ k, k ∈ S ↔ (Value.slice A i c).ownBlock = some k) ∧ Mod S w2 w4 := by
  obtain ⟨S, hS⟩ : ∃ S : List Nat, ∀ k, k ∈ S ↔ (Value.slice A i c).ownBlock = some k := by
    cases A with
    | none => exact ⟨[], fun k => by simp [Value.ownBlock]⟩
    | some a => exact ⟨[a.block], fun k => by simp [Value.ownBlock, eq_comm]⟩
  exact ⟨S, hS, ((Mod.refl S w2).alloc _).grown hgr (fun k hk => .inl ((hS k).2 hk))⟩
theorem GL.keep (h : GL Q0 N wr i A c ch ac) {w2 w4 : World} (hm : Ext wr w2) {ob : Obj} (hgr : (w2.alloc ob).grownBy w4 (Value.slice A i c).ownBlock) {b : Nat} {ty : TypeId} {cs : Array Value} (hB : Blk wr b ty cs) (hbN : b < N) : Blk w4 b ty cs := by
  obtain ⟨S, hS, hm4⟩ := h.turned hm hgr
  exact (hB.ext hm).mod hm4 (fun hk => by have := (h.own.lt b ((hS b).1 hk)).1; omega)
theorem GL.since (h : GL Q0 N wr i A c ch ac) {w w2 w4 : World} (hw : Ext w wr) (hwN : w.heap.size ≤ N) (hm : Ext wr w2) {ob : Obj} (hgr : (w2.alloc ob).grownBy w4 (Value.slice A i c).ownBlock) : Ext w w4 := by
  obtain ⟨S, hS, hm4⟩ := h.turned hm hgr
  refine Mod.new (S := S) (((hw.trans hm).of_ext).trans hm4) (fun k hk => .inr ?_)
  have := (h.own.lt k ((hS k).1 hk)).1; omega
theorem GL.step (h : GL Q0 N wr i A c ch ac) {w2 w4 : World} (hm : Ext wr w2) {t : T} {At : Option Addr} {ct : Nat} {v' : Value}
    (hL : IsL w2 (fun b => Q0 b ∧ (b < N ∨ wr.heap.size ≤ b)) t At)
    (hown : w4.ownsRow N 63 5 v' (i + 1) (flatC ch ac i ++ [.int .i64 t.kind, .int .u64 (t.n : Int), str t.s, .slice At t.k ct, .bool t.op])) {ob : Obj} (hgr : (w2.alloc ob).grownBy w4 (Value.slice A i c).ownBlock)
    (hbl : v'.ownBlock = (Value.slice A i c).ownBlock ∨ ∀ k, v'.ownBlock = some k → w2.heap.size ≤ k) :
    ∃ g' c', v' = .slice (some ⟨g', 0, none⟩) (i + 1) c' ∧ GL Q0 N w4 (i + 1) (some ⟨g', 0, none⟩) c' (putT ch i t) (putP ac i (At, ct)) := by
  obtain ⟨S, hS, hm4⟩ := h.turned hm hgr
  obtain ⟨h8, h11, h12⟩ := h
  obtain ⟨g', c', rfl, hNg, hgl⟩ := own_form hown
  refine ⟨g', c', rfl, ?_⟩
  have hs2 := hm.size
  have hs4 := hm4.size
  have hrow : ∀ k, (Value.slice A i c).ownBlock = some k → N ≤ k ∧ k < wr.heap.size := h11.lt
  have hA' : ∀ b, b < wr.heap.size → A ≠ some ⟨b, 0, none⟩ → (some ⟨g', 0, none⟩ : Option Addr) ≠ some ⟨b, 0, none⟩ := by
    intro b hb hne he
    simp only [Option.some.injEq, Addr.mk.injEq, and_true] at he
    subst he
    rcases hbl with hbl | hbl
    · cases A with
      | none => simp [Value.ownBlock] at hbl
      | some a =>
        simp [Value.ownBlock] at hbl
        rcases h11.2 with ⟨hs, _⟩ | ⟨q, cap, cur, hs, _⟩
        · cases hs
        · simp only [Value.slice.injEq, Option.some.injEq] at hs
          obtain ⟨rfl, _⟩ := hs
          simp at hbl
          subst hbl
          exact hne rfl
    · have := hbl g' rfl; omega
  refine ⟨by omega, ?_, ?_⟩
  · rw [flatC, flatC_congr (ch := putT ch i t) (ac := putP ac i (At, ct)) (ch' := ch) (ac' := ac) (fun j hj => ⟨if_neg (by omega), if_neg (by omega)⟩), show putT ch i t i = t from if_pos rfl, show putP ac i (At, ct) i = (At, ct) from if_pos rfl]
    exact hown
  · intro j hj
    by_cases e : j = i
    · subst e
      rw [show putT ch j t j = t from if_pos rfl, show putP ac j (At, ct) j = (At, ct) from if_pos rfl]
      have q1 : IsL w2 (fun b => (Q0 b ∧ (some ⟨g', 0, none⟩ : Option Addr) ≠ some ⟨b, 0, none⟩) ∧ b ∉ S) t At := IsL.weak (fun k hk hq => ⟨⟨hq.1, fun he => by
        simp only [Option.some.injEq, Addr.mk.injEq, and_true] at he
        subst he
        rcases hbl with hbl | hbl
        · have := hrow g' hbl.symm; have := hq.2; omega
        · have := hbl g' rfl; have := hq.2; omega⟩, fun hkS => by have := hrow k ((hS k).1 hkS); have := hq.2; omega⟩) t hL
      exact IsL.weak (fun k hk hq => hq.1) t (IsL.mod hm4 (fun k hq hk hmm => hq.2 hmm) t q1)
    · rw [show putT ch i t j = ch j from if_neg e, show putP ac i (At, ct) j = ac j from if_neg e]
      have q0 := IsL.weak (R := fun b => (Q0 b ∧ (some ⟨g', 0, none⟩ : Option Addr) ≠ some ⟨b, 0, none⟩) ∧ A ≠ some ⟨b, 0, none⟩) (fun k hk hq => ⟨⟨hq.1, hA' k hk hq.2⟩, hq.2⟩) (ch j) (h12 j (by omega))
      have q1 := IsL.mod hm (fun k hq hk hm => by cases hm) (ch j) q0
      have q2 := IsL.mod hm4 (fun k hq hk hm => by
        have hk2 := (hS k).1 hm
        cases A with
        | none => simp [Value.ownBlock] at hk2
        | some a =>
          simp [Value.ownBlock] at hk2
          rcases h11.2 with ⟨hs, _⟩ | ⟨q, cap, cur, hs, _⟩
          · cases hs
          · simp only [Value.slice.injEq, Option.some.injEq] at hs
            obtain ⟨rfl, _⟩ := hs
            simp at hk2
            subst hk2
            exact hq.2 rfl) (ch j) q1
      exact IsL.weak (fun k hk hq => hq.1) (ch j) q2
/-- The list, whole. -/
theorem GL.isL (h : GL Q0 N wr i A c ch ac) {Q : Nat → Prop} (hQ : ∀ b, Q0 b → Q b) (hN : ∀ b, N ≤ b → Q b) (op : Bool) : IsL wr Q (T.mk 4 0 [] op i ch) A := by
  intro h0
  obtain ⟨i', rfl⟩ : ∃ i', i = i' + 1 := ⟨i - 1, by omega⟩
  obtain ⟨g', c', hv, hNg, hgl⟩ := own_form h.own
  simp only [Value.slice.injEq] at hv
  obtain ⟨rfl, _, rfl⟩ := hv
  refine ⟨g', 0, rfl, hgl, hN _ hNg, fun j hj => ⟨(ac j).1, (ac j).2, ?_, IsL.weak (fun k hk hq => hQ _ hq.1) (ch j) (h.mem j hj)⟩⟩
  obtain ⟨f0, f1, f2, f3, f4⟩ := flatC_get ch ac (i' + 1) j hj
  refine ⟨?_, ?_, ?_, ?_, ?_⟩
  · rw [Nat.zero_add]; exact own_cells h.own f0
  · rw [Nat.zero_add]; exact own_cells h.own f1
  · rw [Nat.zero_add]; exact own_cells h.own f2
  · rw [Nat.zero_add]; exact own_cells h.own f3
  · rw [Nat.zero_add]; exact own_cells h.own f4
end
end Go.Proofs.Ytagjhkknefiieaa


namespace Go.Proofs.Ytagjhkknefiieaa

/-- A reader's state: its bytes, its place, where what failed began, why, where what is read now began. -/
structure RS where
  s : List UInt8
  at_ : Nat
  bad : Int
  e : Int
  fr : Nat

namespace RS
def ok (r : RS) : Prop := r.at_ ≤ r.s.length ∧ r.fr ≤ r.s.length ∧ r.s.length < 4611686018427387904
def fail (r : RS) (e : Int) : RS := if r.e = 0 then { r with at_ := r.fr, bad := r.fr, e := e } else r
def Fail (r : RS) (e : Int) : RS := if r.e = 0 then { r with bad := r.at_, e := e } else r
def head (r : RS) : RS × Nat × Nat × Bool :=
  if r.e = 0 then
    match readH (r.s.drop r.at_) with
    | none => (r.fail 2, 0, 0, false)
    | some (sz, m, n, o) => ({ r with at_ := r.at_ + sz }, m, n, o)
  else (r, 0, 0, false)
def Head (r : RS) : RS × Nat × Nat × Bool := head { r with fr := r.at_ }
def Uint (r : RS) : RS × Nat := if r.Head.1.e = 0 ∧ r.Head.2.1 ≠ 0 then (r.Head.1.fail 2, 0) else (r.Head.1, r.Head.2.2.1)
def str (r : RS) (want : Nat) (most : Int) : RS × List UInt8 :=
  if r.Head.1.e = 0 then
    if r.Head.2.1 ≠ want ∨ r.Head.2.2.2 = true ∨ r.Head.1.s.length - r.Head.1.at_ < r.Head.2.2.1 then (r.Head.1.fail 2, [])
    else if most < 0 ∨ most < r.Head.2.2.1 then (r.Head.1.fail 4, [])
    else ({ r.Head.1 with at_ := r.Head.1.at_ + r.Head.2.2.1 }, (r.Head.1.s.drop r.Head.1.at_).take r.Head.2.2.1)
  else (r.Head.1, [])
def Array (r : RS) : RS × Int :=
  if r.Head.1.e = 0 then
    if r.Head.2.1 ≠ 4 then (r.Head.1.fail 2, 0)
    else if r.Head.2.2.2 = true then (r.Head.1, -1)
    else if 1000 < r.Head.2.2.1 then (r.Head.1.fail 4, 0)
    else (r.Head.1, r.Head.2.2.1)
  else (r.Head.1, 0)
def done (r : RS) : Bool := decide (r.e = 0) && decide (r.at_ = r.s.length)
def new (s : List UInt8) : RS := ⟨s, 0, -1, 0, 0⟩

theorem fail_s (r : RS) (e : Int) : (r.fail e).s = r.s := by unfold fail; split <;> rfl
theorem head_s (r : RS) : r.head.1.s = r.s := by
  unfold head
  split
  · cases readH (r.s.drop r.at_) with
    | none => exact fail_s _ _
    | some x => rfl
  · rfl
theorem Head_s (r : RS) : r.Head.1.s = r.s := by unfold Head; rw [head_s]
theorem fail_ok {r : RS} (h : r.ok) (e : Int) : (r.fail e).ok := by
  unfold fail
  split
  · exact ⟨h.2.1, h.2.1, h.2.2⟩
  · exact h
theorem head_ok {r : RS} (h : r.ok) : r.head.1.ok := by
  unfold head
  split
  · cases hr : readH (r.s.drop r.at_) with
    | none => exact fail_ok h _
    | some x =>
      obtain ⟨sz, m, n, o⟩ := x
      have := (readH_some hr).le
      rw [List.length_drop] at this
      obtain ⟨a, b, c⟩ := h
      exact ⟨by show r.at_ + sz ≤ r.s.length; omega, b, c⟩
  · exact h
theorem Head_ok {r : RS} (h : r.ok) : r.Head.1.ok := head_ok ⟨h.1, h.1, h.2.2⟩
theorem Head_n {r : RS} : r.Head.2.2.1 < 18446744073709551616 ∧ r.Head.2.1 ≤ 7 := by
  unfold Head head
  split
  · cases hr : readH _ with
    | none => exact ⟨(by show (0 : Nat) < 18446744073709551616; decide), Nat.zero_le _⟩
    | some x =>
      obtain ⟨sz, m, n, o⟩ := x
      exact ⟨(readH_some hr).n64, (readH_some hr).m7⟩
  · exact ⟨(by show (0 : Nat) < 18446744073709551616; decide), Nat.zero_le _⟩
theorem Uint_ok {r : RS} (h : r.ok) : r.Uint.1.ok := by
  unfold Uint; split
  · exact fail_ok (Head_ok h) _
  · exact Head_ok h
theorem str_ok {r : RS} (h : r.ok) (want : Nat) (most : Int) : (r.str want most).1.ok := by
  have h1 := Head_ok h
  unfold str; split
  · split
    · exact fail_ok h1 _
    · split
      · exact fail_ok h1 _
      · rename_i h2 h3
        obtain ⟨a, b, c⟩ := h1
        refine ⟨?_, b, c⟩
        show r.Head.1.at_ + r.Head.2.2.1 ≤ r.Head.1.s.length
        simp only [not_or, Nat.not_lt] at h2
        omega
  · exact h1
theorem Array_ok {r : RS} (h : r.ok) : r.Array.1.ok := by
  have h1 := Head_ok h
  unfold Array; split
  · split
    · exact fail_ok h1 _
    · split
      · exact h1
      · split
        · exact fail_ok h1 _
        · exact h1
  · exact h1
theorem Fail_ok {r : RS} (h : r.ok) (e : Int) : (r.Fail e).ok := by
  unfold Fail; split
  · exact ⟨h.1, h.2.1, h.2.2⟩
  · exact h
theorem new_ok {s : List UInt8} (h : s.length < 4611686018427387904) : (new s).ok := ⟨Nat.zero_le _, Nat.zero_le _, h⟩
/-- The reference's fail, and its calls. -/
def rf (r : RS) (e : Int) : RS := { r with bad := (r.at_ : Int), e := e }
abbrev Told : Type := Nat × Nat × Bool × List UInt8 × Int
def zero : Told := (0, 0, false, [], 0)
def nx (r : RS) (sz : Nat) : RS := { r with at_ := r.at_ + sz, bad := -1, e := 0 }
def rdo (r : RS) (k : Nat) (N : Int) : RS × Told :=
  if r.e = 0 then
    if k = 5 then (r.rf 9, zero)
    else match readH (r.s.drop r.at_) with
    | none => (r.rf 2, zero)
    | some (sz, m, n, o) =>
      if k = 0 then (r.nx sz, (m, n, o, [], 0))
      else if k = 1 then (if m = 0 then (r.nx sz, (0, n, false, [], 0)) else (r.rf 2, zero))
      else if k = 4 then
        if m = 4 then (if o = true then (r.nx sz, (0, 0, false, [], -1)) else if 1000 < n then (r.rf 4, zero) else (r.nx sz, (0, 0, false, [], (n : Int)))) else (r.rf 2, zero)
      else if m ≠ k ∨ o = true ∨ r.s.length - (r.at_ + sz) < n then (r.rf 2, zero)
      else if N < 0 ∨ N < n then (r.rf 4, zero)
      else (r.nx (sz + n), (0, 0, false, (r.s.drop (r.at_ + sz)).take n, 0))
  else (r, zero)
def call (r : RS) (k : Nat) (N : Int) : RS × Told :=
  if k = 0 then (r.Head.1, (r.Head.2.1, r.Head.2.2.1, r.Head.2.2.2, [], 0))
  else if k = 1 then (r.Uint.1, (0, r.Uint.2, false, [], 0))
  else if k = 2 then ((r.str 2 N).1, (0, 0, false, (r.str 2 N).2, 0))
  else if k = 3 then ((r.str 3 N).1, (0, 0, false, (r.str 3 N).2, 0))
  else if k = 4 then (r.Array.1, (0, 0, false, [], r.Array.2))
  else (r.Fail 9, zero)
/-- Two readers that are alike but for where what is read now began. -/
def sim (a b : RS) : Prop := a.s = b.s ∧ a.at_ = b.at_ ∧ a.bad = b.bad ∧ a.e = b.e
def fresh (r : RS) : Prop := r.e = 0 → r.bad = -1

theorem Head_off {r : RS} (h : r.e ≠ 0) : r.Head = ({ r with fr := r.at_ }, 0, 0, false) := by
  unfold Head head; rw [if_neg (by simpa using h)]
theorem Head_none {r : RS} (h : r.e = 0) (hr : readH (r.s.drop r.at_) = none) : r.Head = (⟨r.s, r.at_, (r.at_ : Int), 2, r.at_⟩, 0, 0, false) := by
  unfold Head head; dsimp only; rw [if_pos h, hr]; unfold fail; dsimp only; rw [if_pos h]
theorem Head_some {r : RS} (h : r.e = 0) {sz m n : Nat} {o : Bool} (hr : readH (r.s.drop r.at_) = some (sz, m, n, o)) : r.Head = (⟨r.s, r.at_ + sz, r.bad, 0, r.at_⟩, m, n, o) := by
  unfold Head head; dsimp only; rw [if_pos h, hr]; rw [h]
theorem call_sim {r : RS} (hf : r.fresh) {k : Nat} (hk : k < 6) (N : Int) : (r.rdo k N).2 = (r.call k N).2 ∧ sim (r.rdo k N).1 (r.call k N).1 := by
  by_cases h : r.e = 0
  case neg =>
    have e := Head_off h
    have e1 : r.rdo k N = (r, zero) := by unfold rdo; rw [if_neg h]
    rw [e1]
    have : k = 0 ∨ k = 1 ∨ k = 2 ∨ k = 3 ∨ k = 4 ∨ k = 5 := by omega
    rcases this with rfl | rfl | rfl | rfl | rfl | rfl <;> simp [call, Uint, str, Array, Fail, e, h, sim, zero]
  have hb := hf h
  have h5 : k = 0 ∨ k = 1 ∨ k = 2 ∨ k = 3 ∨ k = 4 ∨ k = 5 := by omega
  cases hr : readH (r.s.drop r.at_) with
  | none =>
    have e := Head_none h hr
    rcases h5 with rfl | rfl | rfl | rfl | rfl | rfl <;> simp [rdo, call, Uint, str, Array, Fail, e, h, hr, sim, rf, zero]
  | some x =>
    obtain ⟨sz, m, n, o⟩ := x
    have e := Head_some h hr
    rcases h5 with rfl | rfl | rfl | rfl | rfl | rfl
    · simp [rdo, call, e, h, hr, sim, nx, hb]
    · by_cases hm : m = 0 <;> simp [rdo, call, Uint, e, h, hr, sim, nx, hb, hm, rf, fail, zero]
    · by_cases c1 : m ≠ 2 ∨ o = true ∨ r.s.length - (r.at_ + sz) < n
      · simp only [rdo, call, str, e, h, hr, if_true, c1]; simp [sim, rf, fail, zero]
      · by_cases c2 : N < 0 ∨ N < (n : Int)
        · simp only [rdo, call, str, e, h, hr, if_true, c1, c2, if_false]; simp [sim, rf, fail, zero]
        · simp only [rdo, call, str, e, h, hr, if_true, c1, c2, if_false]; simp [sim, nx, hb, Nat.add_assoc]
    · by_cases c1 : m ≠ 3 ∨ o = true ∨ r.s.length - (r.at_ + sz) < n
      · simp only [rdo, call, str, e, h, hr, if_true, c1]; simp [sim, rf, fail, zero]
      · by_cases c2 : N < 0 ∨ N < (n : Int)
        · simp only [rdo, call, str, e, h, hr, if_true, c1, c2, if_false]; simp [sim, rf, fail, zero]
        · simp only [rdo, call, str, e, h, hr, if_true, c1, c2, if_false]; simp [sim, nx, hb, Nat.add_assoc]
    · by_cases hm : m = 4
      · cases o
        · by_cases hn : 1000 < n <;> simp [rdo, call, Array, e, h, hr, sim, nx, hb, hm, rf, fail, zero, hn]
        · simp [rdo, call, Array, e, h, hr, sim, nx, hb, hm]
      · simp [rdo, call, Array, e, h, hr, sim, hm, rf, fail, zero]
    · simp [rdo, call, Fail, h, sim, rf, zero]
end RS
end Go.Proofs.Ytagjhkknefiieaa


namespace Go.Proofs.Ytagjhkknefiieaa
open Go.RowKit
set_option linter.unusedVariables false

def RS.cells (r : RS) : _root_.Array Value := rdr r.s r.at_ r.bad r.e r.fr
/-- The reader behind a pointer. -/
def RdAt (w : World) (b : Nat) (r : RS) : Prop := Blk w b 137 r.cells
section
variable {w : World} {b : Nat} {r : RS}
theorem RdAt.s (h : RdAt w b r) : w.cell? ⟨b, 0, none⟩ = some (str r.s) := Blk.cell h 0
theorem RdAt.at_ (h : RdAt w b r) : w.cell? ⟨b, 1, none⟩ = some (.int .i64 r.at_) := Blk.cell h 1
theorem RdAt.bad (h : RdAt w b r) : w.cell? ⟨b, 2, none⟩ = some (.int .i64 r.bad) := Blk.cell h 2
theorem RdAt.e (h : RdAt w b r) : w.cell? ⟨b, 3, none⟩ = some (.int .i64 r.e) := Blk.cell h 3
theorem RdAt.fr (h : RdAt w b r) : w.cell? ⟨b, 4, none⟩ = some (.int .i64 r.fr) := Blk.cell h 4
end

theorem beq0_false {x : Int} (h : x ≠ 0) : (x == 0) = false := by simp [h]
set_option maxHeartbeats 400000 in
theorem fail_bad (b : Nat) (r : RS) (e : Int) (h0 : Hid (r.e ≠ 0)) (w : World) (h : RdAt w b r) : Calls Try.prog 94 #[.pointer (some ⟨b, 0, none⟩), .int .i64 e] w fun x w' => x = .returned (.tuple #[]) ∧ w = w' := by
  have c3 := h.e
  have t := beq0_false h0.out
  go_enter Try.func94, Try.ntmps94
  go_wp2
  go_end0
  exact ⟨rfl, rfl⟩
set_option maxHeartbeats 400000 in
theorem fail_good (b : Nat) (r : RS) (e : Int) (h0 : Hid (r.e = 0)) (w : World) (h : RdAt w b r) : Calls Try.prog 94 #[.pointer (some ⟨b, 0, none⟩), .int .i64 e] w
    fun x w' => x = .returned (.tuple #[]) ∧ w' = ((w.setCell ⟨b, 1, none⟩ (.int .i64 r.fr)).setCell ⟨b, 2, none⟩ (.int .i64 r.fr)).setCell ⟨b, 3, none⟩ (.int .i64 e) := by
  have c1 := h.at_
  have c2 := h.bad
  have c3 : w.cell? ⟨b, 3, none⟩ = some (.int .i64 0) := by have := h.e; rw [h0.out] at this; exact this
  have c4 := h.fr
  have f1 := Blk.frozen h 1
  have f2 := Blk.frozen h 2
  have f3 := Blk.frozen h 3
  go_enter Try.func94, Try.ntmps94
  go_wp2
  go_end0
  exact ⟨rfl, rfl⟩
theorem fail_any (b : Nat) (r : RS) (e : Int) (w : World) (h : RdAt w b r) : Calls Try.prog 94 #[.pointer (some ⟨b, 0, none⟩), .int .i64 e] w (RetS [b] (.tuple #[]) (fun w' => RdAt w' b (r.fail e)) w) := by
  by_cases h0 : r.e = 0
  · refine (fail_good b r e h0 w h).mono ?_
    rintro x w' ⟨rfl, rfl⟩
    refine RetS.mk rfl ((((Mod.refl _ _).setCell (.inl (by simp)) _).setCell (.inl (by simp)) _).setCell (.inl (by simp)) _) ?_
    unfold RS.fail
    rw [if_pos h0]
    exact ((Blk.set_ h 1 _).set_ 2 _).set_ 3 _
  · refine (fail_bad b r e h0 w h).mono ?_
    rintro x w' ⟨rfl, rfl⟩
    refine RetS.mk rfl (Mod.refl _ _) ?_
    unfold RS.fail
    rw [if_neg h0]
    exact h

/-! The number of bytes. -/
theorem or_byte_small (n c : Nat) (hc : c < 256) : (n * 256) ||| c = n * 256 + c := by
  rw [show n * 256 = n <<< 8 from by simp [Nat.shiftLeft_eq], ← Nat.shiftLeft_add_eq_or_of_lt (by simpa using hc)]
theorem join_val {n : Nat} (c : UInt8) (h : n < 72057594037927936) : Value.int .u64 (bits .or .u64 (IntKind.u64.wrap ((n : Int) * 256)) (IntKind.u64.wrap (c.toNat : Int))) = .int .u64 ((n * 256 + c.toNat : Nat) : Int) := by
  have hc := c.toNat_lt
  rw [IntWalk.u64_in _ (by omega), IntWalk.u64_in _ (by omega)]
  have := u64_or_nat (n * 256) c.toNat (by omega) (by omega)
  rw [or_byte_small _ _ (by omega)] at this
  rw [← this]; simp
theorem join_step {l : List UInt8} {j q : Nat} {x : UInt8} (hj : j < l.length) (hl : l.length ≤ 8) (hx : l[j] = x) (hq : fromBE (l.take j) = q) :
    Value.int .u64 (bits .or .u64 (IntKind.u64.wrap ((q : Int) * 256)) (IntKind.u64.wrap (x.toNat : Int))) = .int .u64 ((fromBE (l.take (j + 1)) : Nat) : Int) := by
  have hlt := fromBE_lt (l.take j)
  have hle : (l.take j).length ≤ 7 := by rw [List.length_take]; omega
  have hp : 2 ^ (8 * (l.take j).length) ≤ 2 ^ (8 * 7) := Nat.pow_le_pow_right (by omega) (by omega)
  rw [join_val x (by rw [← hq]; exact Nat.lt_of_lt_of_le hlt (by simpa using hp)), List.take_succ_eq_append_getElem hj, fromBE_snoc, hq, hx]
theorem cell_bytesRow (w : World) (l : List UInt8) (cap t : Nat) (fz : Nat × Nat) (j : Nat) (h : j < l.length) :
    (w.alloc (.cells (bytesRow ⟨l.toArray⟩ cap) t fz)).cell? ⟨w.heap.size, j, none⟩ = some (.int .u8 (l[j].toNat : Int)) := by
  rw [World.cell?_alloc_mark]
  simp only [bytesRow]
  rw [Array.getElem?_append_left (by simpa using h)]
  simp [h]
set_option maxHeartbeats 400000 in
theorem join_n (l : List UInt8) (hl : l.length ≤ 8) (w : World) : Calls Try.prog 97 #[str l] w (Ret (.int .u64 (fromBE l)) w) := by
  have hconv := fun (w : World) (s : ByteArray) => run_bytes_of_string (P := Try.prog) w 9 97 5 s Try.underlying9 Try.underlying97 Try.underlying5
  go_enter Try.func97, Try.ntmps97
  go_wp2
  have hext : Ext w ((w.alloc (Obj.cells (bytesRow { data := l.toArray } (grownCap w l.length 0 5)) 5 ((bytesRow { data := l.toArray } (grownCap w l.length 0 5)).size, (bytesRow { data := l.toArray } (grownCap w l.length 0 5)).size + 1))).drew) :=
    ((Mod.refl _ _).alloc _).drew
  have hcell : ∀ j (h : j < l.length), ((w.alloc (Obj.cells (bytesRow { data := l.toArray } (grownCap w l.length 0 5)) 5 ((bytesRow { data := l.toArray } (grownCap w l.length 0 5)).size, (bytesRow { data := l.toArray } (grownCap w l.length 0 5)).size + 1))).drew).cell? ⟨w.heap.size, j, none⟩ = some (.int .u8 (l[j].toNat : Int)) := by
    intro j h
    rw [World.cell?_drew]
    exact cell_bytesRow w l _ _ _ j h
  generalize hW : World.drew (World.alloc w _) = W at *
  have HW := hid hW; clear hW
  have HC := hid hcell; clear hcell
  go_loop [3, 9] (fun n i => ∃ j : Nat, j ≤ l.length ∧ i = .int .i64 j ∧ n = .int .u64 ((fromBE (l.take j) : Nat) : Int)) (fun _ i => l.length - (intOf i).toNat)
  case atStart => exact ⟨0, Nat.zero_le _, rfl, rfl⟩
  case round =>
    obtain ⟨j, hj, rfl, rfl⟩ := hrel
    by_cases hlt : j < l.length
    · have hc := HC.out j hlt
      generalize hx : l[j] = x at *
      generalize hq : fromBE (l.take j) = q at *
      have HX := hid hx; clear hx
      have HQ := hid hq; clear hq
      go_wp2
      go_round
      case rel => exact ⟨j + 1, by omega, by go_num, join_step hlt hl HX.out HQ.out⟩
      case measure => simp [intOf]; omega
    · obtain rfl : j = l.length := by omega
      have ht : l.take l.length = l := List.take_length
      rw [ht]
      go_wp2
      go_ret
      exact ⟨rfl, hext⟩
theorem RdAt.froz {w : World} {b : Nat} {r : RS} (h : RdAt w b r) (i : Nat) : w.frozen? ⟨b, i, none⟩ = false := Blk.frozen h i
theorem extract_str (l : List UInt8) (a b : Nat) : Value.string ((⟨l.toArray⟩ : ByteArray).extract a b) = str ((l.drop a).take (b - a)) := by
  rw [Go.Lib.extract_eq]
theorem extract_rest (l : List UInt8) (a : Nat) : Value.string ((⟨l.toArray⟩ : ByteArray).extract a l.length) = str (l.drop a) := by
  rw [extract_str, List.take_of_length_le]; simp

set_option maxHeartbeats 400000 in
theorem head_off (b : Nat) (r : RS) (h0 : Hid (r.e ≠ 0)) (w : World) (h : RdAt w b r) : Calls Try.prog 91 #[.pointer (some ⟨b, 0, none⟩)] w
    (RetS [b] (.tuple #[.int .i64 0, .int .u64 0, .bool false]) (fun w' => RdAt w' b r) w) := by
  have c3 := h.e
  have t : (r.e != 0) = true := by simp [h0.out]
  go_enter Try.func91, Try.ntmps91
  go_wp2
  go_ret3
  exact RetS.mk rfl (Mod.refl _ _) h
set_option maxHeartbeats 400000 in
theorem head_end (b : Nat) (r : RS) (hok : r.ok) (h0 : Hid (r.e = 0)) (hend : Hid (r.s.drop r.at_ = [])) (w : World) (h : RdAt w b r) : Calls Try.prog 91 #[.pointer (some ⟨b, 0, none⟩)] w
    (RetS [b] (.tuple #[.int .i64 0, .int .u64 0, .bool false]) (fun w' => RdAt w' b (r.fail 2)) w) := by
  have c0 := h.s
  have c1 := h.at_
  have c3 : w.cell? ⟨b, 3, none⟩ = some (.int .i64 0) := by have := h.e; rw [h0.out] at this; exact this
  have b1 := hok.1
  have hx := extract_rest r.s r.at_
  have hx2 := hend.out
  go_enter Try.func91, Try.ntmps91
  go_upto_region 3 with fail
  go_quiet (fail)
  go_wp2_with (go_at_call 94; refine (fail_any b r 2 _ (Blk.drewN h nq)).mono ?_; rintro x w' ⟨rfl, hm, hr⟩)
  go_ret3
  exact RetS.mk rfl (((Mod.refl _ _).drewN nq).trans hm) hr
end Go.Proofs.Ytagjhkknefiieaa


namespace Go.Proofs.Ytagjhkknefiieaa
open Go.RowKit
set_option linter.unusedVariables false
theorem and_small : ∀ c : Fin 256, bits .and .u8 (c.val : Int) 31 = ((c.val % 32 : Nat) : Int) := by decide +kernel
theorem and31 (c : UInt8) : bits .and .u8 (c.toNat : Int) 31 = ((c.toNat % 32 : Nat) : Int) := and_small ⟨c.toNat, c.toNat_lt⟩
theorem first_div (c : UInt8) (l : List UInt8) {m : Nat} (h : 0 < (⟨(c :: l).toArray⟩ : ByteArray).size) (hm : Hid (c.toNat / 32 = m)) : Value.int .i64 (wrap64 (((⟨(c :: l).toArray⟩ : ByteArray)[0].toNat : Int) / 32)) = .int .i64 (m : Int) := by
  rw [← hm.out]
  show Value.int .i64 (wrap64 ((c.toNat : Int) / 32)) = _
  rw [IntWalk.wrap64_in _ (by have := c.toNat_lt; omega)]; rfl
theorem first_mod (c : UInt8) (l : List UInt8) {k : Nat} (h : 0 < (⟨(c :: l).toArray⟩ : ByteArray).size) (hk : Hid (c.toNat % 32 = k)) : Value.int .i64 (wrap64 (bits .and .u8 ((⟨(c :: l).toArray⟩ : ByteArray)[0].toNat : Int) 31)) = .int .i64 (k : Int) := by
  rw [← hk.out]
  show Value.int .i64 (wrap64 (bits .and .u8 (c.toNat : Int) 31)) = _
  rw [and31, IntWalk.wrap64_in _ (by omega)]
theorem extract_one (c : UInt8) (l : List UInt8) (S : Nat) : Value.string ((⟨(c :: l).toArray⟩ : ByteArray).extract 1 (1 + S)) = str (l.take S) := by
  rw [extract_str, List.drop_succ_cons, List.drop_zero, Nat.add_sub_cancel_left]
set_option maxRecDepth 20000 in
set_option maxHeartbeats 400000 in
theorem head_small (b : Nat) (r : RS) (hok : r.ok) (h0 : Hid (r.e = 0)) (c : UInt8) (l : List UInt8) (hd : Hid (r.s.drop r.at_ = c :: l)) (m k : Nat) (hmm : Hid (c.toNat / 32 = m)) (hkk : Hid (c.toNat % 32 = k)) (hk : Hid (k < 24)) (w : World) (h : RdAt w b r) : Calls Try.prog 91 #[.pointer (some ⟨b, 0, none⟩)] w
    (RetS [b] (.tuple #[.int .i64 (m : Int), .int .u64 (k : Int), .bool false]) (fun w' => RdAt w' b { r with at_ := r.at_ + 1 }) w) := by
  have c0 := h.s
  have c1 := h.at_
  have c3 : w.cell? ⟨b, 3, none⟩ = some (.int .i64 0) := by have := h.e; rw [h0.out] at this; exact this
  have f1 := h.froz 1
  have b1 := hok.1
  have hx := extract_rest r.s r.at_
  have hx2 := hd.out
  go_enter Try.func91, Try.ntmps91
  go_upto_region 3 with fail
  go_quiet (fail)
  go_upto_region 7 with fail
  go_cut [6, 7] (fun s6 s7 wx => s6 = .int .i64 (m : Int) ∧ s7 = .int .i64 (k : Int) ∧ ∃ n, wx = w.drewN n)
  case first =>
    have hlen : (0 : Int) < (l.length : Int) + 1 := by omega
    go_quiet (fail)
    go_wp2_with fail
    go_meet
    exact ⟨first_div c l _ hmm, first_mod c l _ hkk, _, World.drewN_drewN _ _ _⟩
  obtain ⟨rfl, rfl, nw, rfl⟩ := hcut
  clear hx hx2
  have hcn := Blk.drewN h nw
  have hk32 : Hid (k ≤ 31) := by have := hkk.out; unfold Hid; omega
  have hlr : Hid (r.at_ + (l.length + 1) = r.s.length) := by
    have h1 := congrArg List.length hd.out
    rw [List.length_drop, List.length_cons] at h1
    have h2 := hok.1
    unfold Hid; omega
  have hbig := hid hok.2.2
  have t1 : decide ((k : Int) < 24) = true := by have h1 := hk.out; have h2 := hk32.out; simp; omega
  have hw1 : IntKind.u64.wrap (k : Int) = k := IntWalk.u64_in _ (by have := hk32.out; omega)
  have hw2 : wrap64 ((r.at_ : Int) + 1) = ((r.at_ + 1 : Nat) : Int) := IntWalk.wrap64_in _ (by have := hlr.out; have := hbig.out; omega)
  go_wp2
  go_ret3
  exact RetS.mk rfl (((Mod.refl _ _).drewN _).setCell (.inl (by simp)) _) (Blk.set_ hcn 1 _)

set_option maxRecDepth 20000 in
set_option maxHeartbeats 400000 in
theorem head_open (b : Nat) (r : RS) (hok : r.ok) (h0 : Hid (r.e = 0)) (c : UInt8) (l : List UInt8) (hd : Hid (r.s.drop r.at_ = c :: l)) (m k : Nat) (hmm : Hid (c.toNat / 32 = m)) (hkk : Hid (c.toNat % 32 = k)) (hk : Hid (k = 31)) (ho : opensB (m : Int) = true) (w : World) (h : RdAt w b r) : Calls Try.prog 91 #[.pointer (some ⟨b, 0, none⟩)] w
    (RetS [b] (.tuple #[.int .i64 (m : Int), .int .u64 0, .bool true]) (fun w' => RdAt w' b { r with at_ := r.at_ + 1 }) w) := by
  have c0 := h.s
  have c1 := h.at_
  have c3 : w.cell? ⟨b, 3, none⟩ = some (.int .i64 0) := by have := h.e; rw [h0.out] at this; exact this
  have f1 := h.froz 1
  have b1 := hok.1
  have hx := extract_rest r.s r.at_
  have hx2 := hd.out
  go_enter Try.func91, Try.ntmps91
  go_upto_region 3 with fail
  go_quiet (fail)
  go_upto_region 7 with fail
  go_cut [6, 7] (fun s6 s7 wx => s6 = .int .i64 (m : Int) ∧ s7 = .int .i64 (k : Int) ∧ ∃ n, wx = w.drewN n)
  case first =>
    have hlen : (0 : Int) < (l.length : Int) + 1 := by omega
    go_quiet (fail)
    go_wp2_with fail
    go_meet
    exact ⟨first_div c l _ hmm, first_mod c l _ hkk, _, World.drewN_drewN _ _ _⟩
  obtain ⟨rfl, rfl, nw, rfl⟩ := hcut
  clear hx hx2
  have hcn := Blk.drewN h nw
  have hk32 : Hid (k ≤ 31) := by have := hkk.out; unfold Hid; omega
  have hlr : Hid (r.at_ + (l.length + 1) = r.s.length) := by
    have h1 := congrArg List.length hd.out
    rw [List.length_drop, List.length_cons] at h1
    have h2 := hok.1
    unfold Hid; omega
  have hbig := hid hok.2.2
  have t1 : decide ((k : Int) < 24) = false := by have h1 := hk.out; have h2 := hk32.out; simp; omega
  have t2 : ((k : Int) == 31) = true := by have h1 := hk.out; have h2 := hk32.out; simp; omega
  have hw2 : wrap64 ((r.at_ : Int) + 1) = ((r.at_ + 1 : Nat) : Int) := IntWalk.wrap64_in _ (by have := hlr.out; have := hbig.out; omega)
  go_wp2_with (go_at_call 89; refine (opens_any _ _).mono ?_; rintro x w2 ⟨rfl, rfl⟩)
  go_ret3
  exact RetS.mk rfl (((Mod.refl _ _).drewN _).setCell (.inl (by simp)) _) (Blk.set_ hcn 1 _)

set_option maxRecDepth 20000 in
set_option maxHeartbeats 400000 in
theorem head_shut (b : Nat) (r : RS) (hok : r.ok) (h0 : Hid (r.e = 0)) (c : UInt8) (l : List UInt8) (hd : Hid (r.s.drop r.at_ = c :: l)) (m k : Nat) (hmm : Hid (c.toNat / 32 = m)) (hkk : Hid (c.toNat % 32 = k)) (hk : Hid (k = 31)) (ho : opensB (m : Int) = false) (w : World) (h : RdAt w b r) : Calls Try.prog 91 #[.pointer (some ⟨b, 0, none⟩)] w
    (RetS [b] (.tuple #[.int .i64 0, .int .u64 0, .bool false]) (fun w' => RdAt w' b (r.fail 2)) w) := by
  have c0 := h.s
  have c1 := h.at_
  have c3 : w.cell? ⟨b, 3, none⟩ = some (.int .i64 0) := by have := h.e; rw [h0.out] at this; exact this
  have f1 := h.froz 1
  have b1 := hok.1
  have hx := extract_rest r.s r.at_
  have hx2 := hd.out
  go_enter Try.func91, Try.ntmps91
  go_upto_region 3 with fail
  go_quiet (fail)
  go_upto_region 7 with fail
  go_cut [6, 7] (fun s6 s7 wx => s6 = .int .i64 (m : Int) ∧ s7 = .int .i64 (k : Int) ∧ ∃ n, wx = w.drewN n)
  case first =>
    have hlen : (0 : Int) < (l.length : Int) + 1 := by omega
    go_quiet (fail)
    go_wp2_with fail
    go_meet
    exact ⟨first_div c l _ hmm, first_mod c l _ hkk, _, World.drewN_drewN _ _ _⟩
  obtain ⟨rfl, rfl, nw, rfl⟩ := hcut
  clear hx hx2
  have hcn := Blk.drewN h nw
  have hk32 : Hid (k ≤ 31) := by have := hkk.out; unfold Hid; omega
  have hlr : Hid (r.at_ + (l.length + 1) = r.s.length) := by
    have h1 := congrArg List.length hd.out
    rw [List.length_drop, List.length_cons] at h1
    have h2 := hok.1
    unfold Hid; omega
  have hbig := hid hok.2.2
  have t1 : decide ((k : Int) < 24) = false := by have h1 := hk.out; have h2 := hk32.out; simp; omega
  have t2 : ((k : Int) == 31) = true := by have h1 := hk.out; have h2 := hk32.out; simp; omega
  have t3 : decide (28 ≤ (k : Int)) = true := by have h1 := hk.out; have h2 := hk32.out; simp; omega
  go_wp2_with (first | (go_at_call 89; refine (opens_any _ _).mono ?_; rintro x w2 ⟨rfl, rfl⟩) | (go_at_call 94; refine (fail_any b r 2 _ (by exact hcn)).mono ?_; rintro x w1 ⟨rfl, hmf, hrf⟩))
  go_ret3
  exact RetS.mk rfl (((Mod.refl _ _).drewN _).trans hmf) hrf

set_option maxRecDepth 20000 in
set_option maxHeartbeats 400000 in
theorem head_big (b : Nat) (r : RS) (hok : r.ok) (h0 : Hid (r.e = 0)) (c : UInt8) (l : List UInt8) (hd : Hid (r.s.drop r.at_ = c :: l)) (m k : Nat) (hmm : Hid (c.toNat / 32 = m)) (hkk : Hid (c.toNat % 32 = k)) (hk : Hid (28 ≤ k ∧ k ≠ 31)) (w : World) (h : RdAt w b r) : Calls Try.prog 91 #[.pointer (some ⟨b, 0, none⟩)] w
    (RetS [b] (.tuple #[.int .i64 0, .int .u64 0, .bool false]) (fun w' => RdAt w' b (r.fail 2)) w) := by
  have c0 := h.s
  have c1 := h.at_
  have c3 : w.cell? ⟨b, 3, none⟩ = some (.int .i64 0) := by have := h.e; rw [h0.out] at this; exact this
  have f1 := h.froz 1
  have b1 := hok.1
  have hx := extract_rest r.s r.at_
  have hx2 := hd.out
  go_enter Try.func91, Try.ntmps91
  go_upto_region 3 with fail
  go_quiet (fail)
  go_upto_region 7 with fail
  go_cut [6, 7] (fun s6 s7 wx => s6 = .int .i64 (m : Int) ∧ s7 = .int .i64 (k : Int) ∧ ∃ n, wx = w.drewN n)
  case first =>
    have hlen : (0 : Int) < (l.length : Int) + 1 := by omega
    go_quiet (fail)
    go_wp2_with fail
    go_meet
    exact ⟨first_div c l _ hmm, first_mod c l _ hkk, _, World.drewN_drewN _ _ _⟩
  obtain ⟨rfl, rfl, nw, rfl⟩ := hcut
  clear hx hx2
  have hcn := Blk.drewN h nw
  have hk32 : Hid (k ≤ 31) := by have := hkk.out; unfold Hid; omega
  have hlr : Hid (r.at_ + (l.length + 1) = r.s.length) := by
    have h1 := congrArg List.length hd.out
    rw [List.length_drop, List.length_cons] at h1
    have h2 := hok.1
    unfold Hid; omega
  have hbig := hid hok.2.2
  have t1 : decide ((k : Int) < 24) = false := by have h1 := hk.out; have h2 := hk32.out; simp; omega
  have t2 : ((k : Int) == 31) = false := by have h1 := hk.out; have h2 := hk32.out; simp; omega
  have t3 : decide (28 ≤ (k : Int)) = true := by have h1 := hk.out; have h2 := hk32.out; simp; omega
  go_wp2_with (go_at_call 94; refine (fail_any b r 2 _ (by exact hcn)).mono ?_; rintro x w1 ⟨rfl, hmf, hrf⟩)
  go_ret3
  exact RetS.mk rfl (((Mod.refl _ _).drewN _).trans hmf) hrf

set_option maxRecDepth 20000 in
set_option maxHeartbeats 400000 in
theorem head_short (b : Nat) (r : RS) (hok : r.ok) (h0 : Hid (r.e = 0)) (c : UInt8) (l : List UInt8) (hd : Hid (r.s.drop r.at_ = c :: l)) (m k : Nat) (hmm : Hid (c.toNat / 32 = m)) (hkk : Hid (c.toNat % 32 = k)) (S : Nat) (hS : Hid (2 ^ (k - 24) = S)) (hk : Hid (24 ≤ k ∧ k < 28)) (hs : Hid (l.length < S)) (w : World) (h : RdAt w b r) : Calls Try.prog 91 #[.pointer (some ⟨b, 0, none⟩)] w
    (RetS [b] (.tuple #[.int .i64 0, .int .u64 0, .bool false]) (fun w' => RdAt w' b (r.fail 2)) w) := by
  have c0 := h.s
  have c1 := h.at_
  have c3 : w.cell? ⟨b, 3, none⟩ = some (.int .i64 0) := by have := h.e; rw [h0.out] at this; exact this
  have f1 := h.froz 1
  have b1 := hok.1
  have hx := extract_rest r.s r.at_
  have hx2 := hd.out
  go_enter Try.func91, Try.ntmps91
  go_upto_region 3 with fail
  go_quiet (fail)
  go_upto_region 7 with fail
  go_cut [6, 7] (fun s6 s7 wx => s6 = .int .i64 (m : Int) ∧ s7 = .int .i64 (k : Int) ∧ ∃ n, wx = w.drewN n)
  case first =>
    have hlen : (0 : Int) < (l.length : Int) + 1 := by omega
    go_quiet (fail)
    go_wp2_with fail
    go_meet
    exact ⟨first_div c l _ hmm, first_mod c l _ hkk, _, World.drewN_drewN _ _ _⟩
  obtain ⟨rfl, rfl, nw, rfl⟩ := hcut
  clear hx hx2
  have hcn := Blk.drewN h nw
  have hk32 : Hid (k ≤ 31) := by have := hkk.out; unfold Hid; omega
  have hlr : Hid (r.at_ + (l.length + 1) = r.s.length) := by
    have h1 := congrArg List.length hd.out
    rw [List.length_drop, List.length_cons] at h1
    have h2 := hok.1
    unfold Hid; omega
  have hbig := hid hok.2.2
  have t1 : decide ((k : Int) < 24) = false := by have h1 := hk.out; have h2 := hk32.out; simp; omega
  have t2 : ((k : Int) == 31) = false := by have h1 := hk.out; have h2 := hk32.out; simp; omega
  have t3 : decide (28 ≤ (k : Int)) = false := by have h1 := hk.out; have h2 := hk32.out; simp; omega
  go_upto_region 17 with fail
  go_cut [8] (fun s wx => s = .int .i64 (S : Int) ∧ wx = w.drewN nw)
  case first =>
    have hk4 : k = 24 ∨ k = 25 ∨ k = 26 ∨ k = 27 := by have := hk.out; omega
    rcases hk4 with rfl | rfl | rfl | rfl
    all_goals go_wp2
    all_goals go_meet
    all_goals exact ⟨by rw [← hS.out]; rfl, rfl⟩
  obtain ⟨rfl, rfl⟩ := hcut
  have hw3 : wrap64 (1 + (S : Int)) = 1 + (S : Int) := IntWalk.wrap64_in _ (by have := hS.out; have h2 : S ≤ 8 := by { have h1 := hk.out; rw [← hS.out]; exact Nat.le_trans (Nat.pow_le_pow_right (by omega) (show k - 24 ≤ 3 by omega)) (by decide) }; omega)
  have hS8 : Hid (S ≤ 8) := by
    have h1 := hk.out
    unfold Hid
    rw [← hS.out]
    exact Nat.le_trans (Nat.pow_le_pow_right (by omega) (show k - 24 ≤ 3 by omega)) (by decide)
  have t4 : decide ((l.length : Int) + 1 < 1 + (S : Int)) = true := by have := hs.out; simp; omega
  go_wp2_with (go_at_call 94; refine (fail_any b r 2 _ (by exact hcn)).mono ?_; rintro x w1 ⟨rfl, hmf, hrf⟩)
  go_ret3
  exact RetS.mk rfl (((Mod.refl _ _).drewN _).trans hmf) hrf

set_option maxRecDepth 20000 in
set_option maxHeartbeats 400000 in
theorem head_long (b : Nat) (r : RS) (hok : r.ok) (h0 : Hid (r.e = 0)) (c : UInt8) (l : List UInt8) (hd : Hid (r.s.drop r.at_ = c :: l)) (m k : Nat) (hmm : Hid (c.toNat / 32 = m)) (hkk : Hid (c.toNat % 32 = k)) (S : Nat) (hS : Hid (2 ^ (k - 24) = S)) (hk : Hid (24 ≤ k ∧ k < 28)) (n : Nat) (hn : Hid (fromBE (l.take S) = n)) (hs : Hid (S ≤ l.length)) (hc : Hid ((headL m n).length ≠ 1 + S)) (w : World) (h : RdAt w b r) : Calls Try.prog 91 #[.pointer (some ⟨b, 0, none⟩)] w
    (RetS [b] (.tuple #[.int .i64 0, .int .u64 0, .bool false]) (fun w' => RdAt w' b (r.fail 2)) w) := by
  have c0 := h.s
  have c1 := h.at_
  have c3 : w.cell? ⟨b, 3, none⟩ = some (.int .i64 0) := by have := h.e; rw [h0.out] at this; exact this
  have f1 := h.froz 1
  have b1 := hok.1
  have hx := extract_rest r.s r.at_
  have hx2 := hd.out
  go_enter Try.func91, Try.ntmps91
  go_upto_region 3 with fail
  go_quiet (fail)
  go_upto_region 7 with fail
  go_cut [6, 7] (fun s6 s7 wx => s6 = .int .i64 (m : Int) ∧ s7 = .int .i64 (k : Int) ∧ ∃ n, wx = w.drewN n)
  case first =>
    have hlen : (0 : Int) < (l.length : Int) + 1 := by omega
    go_quiet (fail)
    go_wp2_with fail
    go_meet
    exact ⟨first_div c l _ hmm, first_mod c l _ hkk, _, World.drewN_drewN _ _ _⟩
  obtain ⟨rfl, rfl, nw, rfl⟩ := hcut
  clear hx hx2
  have hcn := Blk.drewN h nw
  have hk32 : Hid (k ≤ 31) := by have := hkk.out; unfold Hid; omega
  have hlr : Hid (r.at_ + (l.length + 1) = r.s.length) := by
    have h1 := congrArg List.length hd.out
    rw [List.length_drop, List.length_cons] at h1
    have h2 := hok.1
    unfold Hid; omega
  have hbig := hid hok.2.2
  have t1 : decide ((k : Int) < 24) = false := by have h1 := hk.out; have h2 := hk32.out; simp; omega
  have t2 : ((k : Int) == 31) = false := by have h1 := hk.out; have h2 := hk32.out; simp; omega
  have t3 : decide (28 ≤ (k : Int)) = false := by have h1 := hk.out; have h2 := hk32.out; simp; omega
  go_upto_region 17 with fail
  go_cut [8] (fun s wx => s = .int .i64 (S : Int) ∧ wx = w.drewN nw)
  case first =>
    have hk4 : k = 24 ∨ k = 25 ∨ k = 26 ∨ k = 27 := by have := hk.out; omega
    rcases hk4 with rfl | rfl | rfl | rfl
    all_goals go_wp2
    all_goals go_meet
    all_goals exact ⟨by rw [← hS.out]; rfl, rfl⟩
  obtain ⟨rfl, rfl⟩ := hcut
  have hw3 : wrap64 (1 + (S : Int)) = 1 + (S : Int) := IntWalk.wrap64_in _ (by have := hS.out; have h2 : S ≤ 8 := by { have h1 := hk.out; rw [← hS.out]; exact Nat.le_trans (Nat.pow_le_pow_right (by omega) (show k - 24 ≤ 3 by omega)) (by decide) }; omega)
  have hS8 : Hid (S ≤ 8) := by
    have h1 := hk.out
    unfold Hid
    rw [← hS.out]
    exact Nat.le_trans (Nat.pow_le_pow_right (by omega) (show k - 24 ≤ 3 by omega)) (by decide)
  have t4 : decide ((l.length : Int) + 1 < 1 + (S : Int)) = false := by have := hs.out; simp; omega
  have t5 : (S : Int) ≤ (l.length : Int) := by have := hs.out; omega
  have t6 : (((headL m n).length : Int) == 1 + (S : Int)) = false := by have := hc.out; simp; omega
  have t7 : (((headL m n).length : Int) != 1 + (S : Int)) = true := by have := hc.out; simp; omega
  have hn64 : Hid (n < 18446744073709551616 ∧ m ≤ 7) := by
    have h1 := fromBE_lt (l.take S)
    have h2 : (l.take S).length ≤ 8 := by have := hS8.out; rw [List.length_take]; omega
    have h3 : 2 ^ (8 * (l.take S).length) ≤ 2 ^ (8 * 8) := Nat.pow_le_pow_right (by omega) (by omega)
    rw [hn.out] at h1
    have := c.toNat_lt
    have := hmm.out
    exact ⟨Nat.lt_of_lt_of_le h1 h3, by omega⟩
  have hl8 : Hid ((l.take S).length ≤ 8) := by have := hS8.out; unfold Hid; rw [List.length_take]; omega
  go_wp2_with (first | (go_at_call 97; rw [extract_one]; refine (join_n (l.take S) hl8.out _).mono ?_; rintro x w2 ⟨rfl, hb2⟩; rw [hn.out]) | (go_at_call 72; refine (head_in m n (by omega) (by have := hn64.out; omega) (by omega) (by have := hn64.out; omega) _).mono ?_; rintro x w3 ⟨rfl, hb3⟩; simp only [Int.toNat_natCast]; have hr3 : RdAt w3 b r := (Blk.ext hcn hb2).ext hb3; have c1' := hr3.at_; have f1' := hr3.froz 1) | (go_at_call 94; refine (fail_any b r 2 _ hr3).mono ?_; rintro x w1 ⟨rfl, hmf, hrf⟩))
  go_ret3
  exact RetS.mk rfl ((((((Mod.refl _ _).drewN _).trans hb2.of_ext).trans hb3.of_ext)).trans hmf) hrf

set_option maxRecDepth 20000 in
set_option maxHeartbeats 400000 in
theorem head_good (b : Nat) (r : RS) (hok : r.ok) (h0 : Hid (r.e = 0)) (c : UInt8) (l : List UInt8) (hd : Hid (r.s.drop r.at_ = c :: l)) (m k : Nat) (hmm : Hid (c.toNat / 32 = m)) (hkk : Hid (c.toNat % 32 = k)) (S : Nat) (hS : Hid (2 ^ (k - 24) = S)) (hk : Hid (24 ≤ k ∧ k < 28)) (n : Nat) (hn : Hid (fromBE (l.take S) = n)) (hs : Hid (S ≤ l.length)) (hc : Hid ((headL m n).length = 1 + S)) (w : World) (h : RdAt w b r) : Calls Try.prog 91 #[.pointer (some ⟨b, 0, none⟩)] w
    (RetS [b] (.tuple #[.int .i64 (m : Int), .int .u64 (n : Int), .bool false]) (fun w' => RdAt w' b { r with at_ := r.at_ + (1 + S) }) w) := by
  have c0 := h.s
  have c1 := h.at_
  have c3 : w.cell? ⟨b, 3, none⟩ = some (.int .i64 0) := by have := h.e; rw [h0.out] at this; exact this
  have f1 := h.froz 1
  have b1 := hok.1
  have hx := extract_rest r.s r.at_
  have hx2 := hd.out
  go_enter Try.func91, Try.ntmps91
  go_upto_region 3 with fail
  go_quiet (fail)
  go_upto_region 7 with fail
  go_cut [6, 7] (fun s6 s7 wx => s6 = .int .i64 (m : Int) ∧ s7 = .int .i64 (k : Int) ∧ ∃ n, wx = w.drewN n)
  case first =>
    have hlen : (0 : Int) < (l.length : Int) + 1 := by omega
    go_quiet (fail)
    go_wp2_with fail
    go_meet
    exact ⟨first_div c l _ hmm, first_mod c l _ hkk, _, World.drewN_drewN _ _ _⟩
  obtain ⟨rfl, rfl, nw, rfl⟩ := hcut
  clear hx hx2
  have hcn := Blk.drewN h nw
  have hk32 : Hid (k ≤ 31) := by have := hkk.out; unfold Hid; omega
  have hlr : Hid (r.at_ + (l.length + 1) = r.s.length) := by
    have h1 := congrArg List.length hd.out
    rw [List.length_drop, List.length_cons] at h1
    have h2 := hok.1
    unfold Hid; omega
  have hbig := hid hok.2.2
  have t1 : decide ((k : Int) < 24) = false := by have h1 := hk.out; have h2 := hk32.out; simp; omega
  have t2 : ((k : Int) == 31) = false := by have h1 := hk.out; have h2 := hk32.out; simp; omega
  have t3 : decide (28 ≤ (k : Int)) = false := by have h1 := hk.out; have h2 := hk32.out; simp; omega
  go_upto_region 17 with fail
  go_cut [8] (fun s wx => s = .int .i64 (S : Int) ∧ wx = w.drewN nw)
  case first =>
    have hk4 : k = 24 ∨ k = 25 ∨ k = 26 ∨ k = 27 := by have := hk.out; omega
    rcases hk4 with rfl | rfl | rfl | rfl
    all_goals go_wp2
    all_goals go_meet
    all_goals exact ⟨by rw [← hS.out]; rfl, rfl⟩
  obtain ⟨rfl, rfl⟩ := hcut
  have hw3 : wrap64 (1 + (S : Int)) = 1 + (S : Int) := IntWalk.wrap64_in _ (by have := hS.out; have h2 : S ≤ 8 := by { have h1 := hk.out; rw [← hS.out]; exact Nat.le_trans (Nat.pow_le_pow_right (by omega) (show k - 24 ≤ 3 by omega)) (by decide) }; omega)
  have hS8 : Hid (S ≤ 8) := by
    have h1 := hk.out
    unfold Hid
    rw [← hS.out]
    exact Nat.le_trans (Nat.pow_le_pow_right (by omega) (show k - 24 ≤ 3 by omega)) (by decide)
  have t4 : decide ((l.length : Int) + 1 < 1 + (S : Int)) = false := by have := hs.out; simp; omega
  have t5 : (S : Int) ≤ (l.length : Int) := by have := hs.out; omega
  have t6 : (((headL m n).length : Int) == 1 + (S : Int)) = true := by have := hc.out; simp; omega
  have t7 : (((headL m n).length : Int) != 1 + (S : Int)) = false := by have := hc.out; simp; omega
  have hw4 : wrap64 ((r.at_ : Int) + (1 + (S : Int))) = ((r.at_ + (1 + S) : Nat) : Int) := IntWalk.wrap64_in _ (by have := hlr.out; have := hbig.out; have := hS8.out; omega)
  have hn64 : Hid (n < 18446744073709551616 ∧ m ≤ 7) := by
    have h1 := fromBE_lt (l.take S)
    have h2 : (l.take S).length ≤ 8 := by have := hS8.out; rw [List.length_take]; omega
    have h3 : 2 ^ (8 * (l.take S).length) ≤ 2 ^ (8 * 8) := Nat.pow_le_pow_right (by omega) (by omega)
    rw [hn.out] at h1
    have := c.toNat_lt
    have := hmm.out
    exact ⟨Nat.lt_of_lt_of_le h1 h3, by omega⟩
  have hl8 : Hid ((l.take S).length ≤ 8) := by have := hS8.out; unfold Hid; rw [List.length_take]; omega
  go_wp2_with (first | (go_at_call 97; rw [extract_one]; refine (join_n (l.take S) hl8.out _).mono ?_; rintro x w2 ⟨rfl, hb2⟩; rw [hn.out]) | (go_at_call 72; refine (head_in m n (by omega) (by have := hn64.out; omega) (by omega) (by have := hn64.out; omega) _).mono ?_; rintro x w3 ⟨rfl, hb3⟩; simp only [Int.toNat_natCast]; have hr3 : RdAt w3 b r := (Blk.ext hcn hb2).ext hb3; have c1' := hr3.at_; have f1' := hr3.froz 1) | (go_at_call 94; refine (fail_any b r 2 _ hr3).mono ?_; rintro x w1 ⟨rfl, hmf, hrf⟩))
  go_ret3
  exact RetS.mk rfl (((((Mod.refl _ _).drewN _).trans hb2.of_ext).trans hb3.of_ext).setCell (.inl (by simp)) _) (Blk.set_ hr3 1 _)

end Go.Proofs.Ytagjhkknefiieaa


namespace Go.Proofs.Ytagjhkknefiieaa
open Go.RowKit
set_option linter.unusedVariables false

theorem head_of {b : Nat} {w : World} {r r' : RS} {m n : Nat} {o : Bool} (hm : r.head = (r', m, n, o))
    (h : Calls Try.prog 91 #[.pointer (some ⟨b, 0, none⟩)] w (RetS [b] (.tuple #[.int .i64 (m : Int), .int .u64 (n : Int), .bool o]) (fun w' => RdAt w' b r') w)) :
    Calls Try.prog 91 #[.pointer (some ⟨b, 0, none⟩)] w
      (RetS [b] (.tuple #[.int .i64 (r.head.2.1 : Int), .int .u64 (r.head.2.2.1 : Int), .bool r.head.2.2.2]) (fun w' => RdAt w' b r.head.1) w) := by
  rw [hm]; exact h
theorem head_any_r (b : Nat) (r : RS) (hok : r.ok) (w : World) (h : RdAt w b r) : Calls Try.prog 91 #[.pointer (some ⟨b, 0, none⟩)] w
    (RetS [b] (.tuple #[.int .i64 (r.head.2.1 : Int), .int .u64 (r.head.2.2.1 : Int), .bool r.head.2.2.2]) (fun w' => RdAt w' b r.head.1) w) := by
  by_cases h0 : r.e = 0
  case neg => exact head_of (by unfold RS.head; rw [if_neg h0]) (head_off b r h0 w h)
  cases hd : r.s.drop r.at_ with
  | nil => exact head_of (by unfold RS.head; rw [if_pos h0, hd]; rfl) (head_end b r hok h0 hd w h)
  | cons c l =>
    have hc := c.toNat_lt
    by_cases h1 : c.toNat % 32 < 24
    · exact head_of (by unfold RS.head; rw [if_pos h0, hd]; unfold readH; dsimp only; rw [if_pos h1]) (head_small b r hok h0 c l hd _ _ rfl rfl h1 w h)
    by_cases h2 : c.toNat % 32 = 31
    · cases ho : opensB ((c.toNat / 32 : Nat) : Int)
      · exact head_of (by unfold RS.head; rw [if_pos h0, hd]; unfold readH; dsimp only; rw [if_neg h1, if_neg (by rw [ho]; simp), if_pos (by omega)]) (head_shut b r hok h0 c l hd _ _ rfl rfl h2 ho w h)
      · exact head_of (by unfold RS.head; rw [if_pos h0, hd]; unfold readH; dsimp only; rw [if_neg h1, if_pos ⟨h2, ho⟩]) (head_open b r hok h0 c l hd _ _ rfl rfl h2 ho w h)
    by_cases h3 : 28 ≤ c.toNat % 32
    · exact head_of (by unfold RS.head; rw [if_pos h0, hd]; unfold readH; dsimp only; rw [if_neg h1, if_neg (fun x => h2 x.1), if_pos h3]) (head_big b r hok h0 c l hd _ _ rfl rfl ⟨h3, h2⟩ w h)
    by_cases h4 : l.length < 2 ^ (c.toNat % 32 - 24)
    · exact head_of (by unfold RS.head; rw [if_pos h0, hd]; unfold readH; dsimp only; rw [if_neg h1, if_neg (fun x => h2 x.1), if_neg h3, if_pos h4]) (head_short b r hok h0 c l hd _ _ rfl rfl _ rfl ⟨by omega, by omega⟩ h4 w h)
    by_cases h5 : (headL (c.toNat / 32) (fromBE (l.take (2 ^ (c.toNat % 32 - 24))))).length = 1 + 2 ^ (c.toNat % 32 - 24)
    · exact head_of (by unfold RS.head; rw [if_pos h0, hd]; unfold readH; dsimp only; rw [if_neg h1, if_neg (fun x => h2 x.1), if_neg h3, if_neg h4, if_pos h5]) (head_good b r hok h0 c l hd _ _ rfl rfl _ rfl ⟨by omega, by omega⟩ _ rfl (Nat.le_of_not_lt h4) h5 w h)
    · exact head_of (by unfold RS.head; rw [if_pos h0, hd]; unfold readH; dsimp only; rw [if_neg h1, if_neg (fun x => h2 x.1), if_neg h3, if_neg h4, if_neg h5]) (head_long b r hok h0 c l hd _ _ rfl rfl _ rfl ⟨by omega, by omega⟩ _ rfl (Nat.le_of_not_lt h4) h5 w h)

set_option maxRecDepth 20000 in
set_option maxHeartbeats 400000 in
theorem Head_any_r (b : Nat) (r : RS) (hok : r.ok) (w : World) (h : RdAt w b r) : Calls Try.prog 77 #[.pointer (some ⟨b, 0, none⟩)] w
    (RetS [b] (.tuple #[.int .i64 (r.Head.2.1 : Int), .int .u64 (r.Head.2.2.1 : Int), .bool r.Head.2.2.2]) (fun w' => RdAt w' b r.Head.1) w) := by
  have c1 := h.at_
  have c4 := h.fr
  have f4 := h.froz 4
  have hs : RdAt (w.setCell ⟨b, 4, none⟩ (.int .i64 (r.at_ : Int))) b { r with fr := r.at_ } := Blk.set_ h 4 _
  have hok2 : RS.ok { r with fr := r.at_ } := ⟨hok.1, hok.1, hok.2.2⟩
  go_enter Try.func77, Try.ntmps77
  go_wp2_with (go_at_call 91; refine (head_any_r b _ hok2 _ hs).mono ?_; rintro x w1 ⟨rfl, hm, hr⟩)
  go_ret3
  exact RetS.mk rfl (((Mod.refl _ _).setCell (.inl (by simp)) _).trans hm) hr

set_option maxRecDepth 20000 in
set_option maxHeartbeats 400000 in
theorem At_any (b : Nat) (r : RS) (w : World) (h : RdAt w b r) : Calls Try.prog 79 #[.pointer (some ⟨b, 0, none⟩)] w fun e w' => e = .returned (.int .i64 r.at_) ∧ w = w' := by
  have c1 := h.at_
  go_enter Try.func79, Try.ntmps79
  go_wp2
  go_ret
  exact ⟨rfl, rfl⟩
set_option maxRecDepth 20000 in
set_option maxHeartbeats 400000 in
theorem Array_e (b : Nat) (r : RS) (hok : r.ok) (he : Hid (r.Head.1.e ≠ 0)) (w : World) (h : RdAt w b r) : Calls Try.prog 81 #[.pointer (some ⟨b, 0, none⟩)] w (RetS [b] (.int .i64 0) (fun w' => RdAt w' b r.Head.1) w) := by
  have te : (r.Head.1.e != 0) = true := by have := he.out; simp [this]
  go_enter Try.func81, Try.ntmps81
  go_wp2_with (go_at_call 77; refine (Head_any_r b r hok _ h).mono ?_; rintro x w1 ⟨rfl, hm1, hr1⟩; have c0 := hr1.s; have c1 := hr1.at_; have c3 := hr1.e; have f1 := hr1.froz 1)
  go_ret
  exact RetS.mk rfl hm1 hr1

set_option maxRecDepth 20000 in
set_option maxHeartbeats 400000 in
theorem Array_m (b : Nat) (r : RS) (hok : r.ok) (he : Hid (r.Head.1.e = 0)) (hm : Hid (r.Head.2.1 ≠ 4)) (w : World) (h : RdAt w b r) : Calls Try.prog 81 #[.pointer (some ⟨b, 0, none⟩)] w (RetS [b] (.int .i64 0) (fun w' => RdAt w' b (r.Head.1.fail 2)) w) := by
  have te : (r.Head.1.e != 0) = false := by have := he.out; simp [this]
  have tm : ((r.Head.2.1 : Int) != 4) = true := by have := hm.out; simp; omega
  go_enter Try.func81, Try.ntmps81
  go_wp2_with (first | (go_at_call 77; refine (Head_any_r b r hok _ h).mono ?_; rintro x w1 ⟨rfl, hm1, hr1⟩; have c0 := hr1.s; have c1 := hr1.at_; have c3 := hr1.e; have f1 := hr1.froz 1) | (go_at_call 94; refine (fail_any b r.Head.1 2 _ (by first | exact hr1 | exact Blk.drewN hr1 _)).mono ?_; rintro x w2 ⟨rfl, hm2, hr2⟩))
  go_ret
  exact RetS.mk rfl (hm1.trans hm2) hr2

set_option maxRecDepth 20000 in
set_option maxHeartbeats 400000 in
theorem Array_o (b : Nat) (r : RS) (hok : r.ok) (he : Hid (r.Head.1.e = 0)) (hm : Hid (r.Head.2.1 = 4)) (ho : r.Head.2.2.2 = true) (w : World) (h : RdAt w b r) : Calls Try.prog 81 #[.pointer (some ⟨b, 0, none⟩)] w (RetS [b] (.int .i64 (-1)) (fun w' => RdAt w' b r.Head.1) w) := by
  have te : (r.Head.1.e != 0) = false := by have := he.out; simp [this]
  have tm : ((r.Head.2.1 : Int) != 4) = false := by have := hm.out; simp; omega
  go_enter Try.func81, Try.ntmps81
  go_wp2_with (go_at_call 77; refine (Head_any_r b r hok _ h).mono ?_; rintro x w1 ⟨rfl, hm1, hr1⟩; have c0 := hr1.s; have c1 := hr1.at_; have c3 := hr1.e; have f1 := hr1.froz 1)
  go_ret
  exact RetS.mk rfl hm1 hr1

set_option maxRecDepth 20000 in
set_option maxHeartbeats 400000 in
theorem Array_l (b : Nat) (r : RS) (hok : r.ok) (he : Hid (r.Head.1.e = 0)) (hm : Hid (r.Head.2.1 = 4)) (ho : r.Head.2.2.2 = false) (hn : Hid (1000 < r.Head.2.2.1)) (w : World) (h : RdAt w b r) : Calls Try.prog 81 #[.pointer (some ⟨b, 0, none⟩)] w (RetS [b] (.int .i64 0) (fun w' => RdAt w' b (r.Head.1.fail 4)) w) := by
  have te : (r.Head.1.e != 0) = false := by have := he.out; simp [this]
  have tm : ((r.Head.2.1 : Int) != 4) = false := by have := hm.out; simp; omega
  have tn : decide (1000 < (r.Head.2.2.1 : Int)) = true := by have := hn.out; simp; omega
  go_enter Try.func81, Try.ntmps81
  go_wp2_with (first | (go_at_call 77; refine (Head_any_r b r hok _ h).mono ?_; rintro x w1 ⟨rfl, hm1, hr1⟩; have c0 := hr1.s; have c1 := hr1.at_; have c3 := hr1.e; have f1 := hr1.froz 1) | (go_at_call 94; refine (fail_any b r.Head.1 4 _ (by first | exact hr1 | exact Blk.drewN hr1 _)).mono ?_; rintro x w2 ⟨rfl, hm2, hr2⟩))
  go_ret
  exact RetS.mk rfl (hm1.trans hm2) hr2

set_option maxRecDepth 20000 in
set_option maxHeartbeats 400000 in
theorem Array_g (b : Nat) (r : RS) (hok : r.ok) (he : Hid (r.Head.1.e = 0)) (hm : Hid (r.Head.2.1 = 4)) (ho : r.Head.2.2.2 = false) (hn : Hid (¬ 1000 < r.Head.2.2.1)) (w : World) (h : RdAt w b r) : Calls Try.prog 81 #[.pointer (some ⟨b, 0, none⟩)] w (RetS [b] (.int .i64 (r.Head.2.2.1 : Int)) (fun w' => RdAt w' b r.Head.1) w) := by
  have te : (r.Head.1.e != 0) = false := by have := he.out; simp [this]
  have tm : ((r.Head.2.1 : Int) != 4) = false := by have := hm.out; simp; omega
  have tn : decide (1000 < (r.Head.2.2.1 : Int)) = false := by have := hn.out; simp; omega
  have hw : Hid (wrap64 (r.Head.2.2.1 : Int) = (r.Head.2.2.1 : Int)) := IntWalk.wrap64_in _ (by have := hn.out; omega)
  go_enter Try.func81, Try.ntmps81
  go_wp2_with (go_at_call 77; refine (Head_any_r b r hok _ h).mono ?_; rintro x w1 ⟨rfl, hm1, hr1⟩; have c0 := hr1.s; have c1 := hr1.at_; have c3 := hr1.e; have f1 := hr1.froz 1)
  go_ret
  exact RetS.mk (congrArg (Value.int .i64) hw.out) hm1 hr1

theorem Array_any (b : Nat) (r : RS) (hok : r.ok) (w : World) (h : RdAt w b r) : Calls Try.prog 81 #[.pointer (some ⟨b, 0, none⟩)] w (RetS [b] (.int .i64 r.Array.2) (fun w' => RdAt w' b r.Array.1) w) := by
  by_cases he : r.Head.1.e = 0
  · by_cases hm : r.Head.2.1 = 4
    · cases ho : r.Head.2.2.2
      · by_cases hn : 1000 < r.Head.2.2.1
        · have e : r.Array = (r.Head.1.fail 4, 0) := by unfold RS.Array; rw [if_pos he, if_neg (fun x => x hm), if_neg (by simp [ho]), if_pos hn]
          rw [e]; exact Array_l b r hok he hm ho hn w h
        · have e : r.Array = (r.Head.1, (r.Head.2.2.1 : Int)) := by unfold RS.Array; rw [if_pos he, if_neg (fun x => x hm), if_neg (by simp [ho]), if_neg hn]
          rw [e]; exact Array_g b r hok he hm ho hn w h
      · have e : r.Array = (r.Head.1, -1) := by unfold RS.Array; rw [if_pos he, if_neg (fun x => x hm), if_pos ho]
        rw [e]; exact Array_o b r hok he hm ho w h
    · have e : r.Array = (r.Head.1.fail 2, 0) := by unfold RS.Array; rw [if_pos he, if_pos hm]
      rw [e]; exact Array_m b r hok he hm w h
  · have e : r.Array = (r.Head.1, 0) := by unfold RS.Array; rw [if_neg he]
    rw [e]; exact Array_e b r hok he w h

set_option maxRecDepth 20000 in
set_option maxHeartbeats 400000 in
theorem str_e (b : Nat) (r : RS) (hok : r.ok) (want : Nat) (most : Int) (he : Hid (r.Head.1.e ≠ 0)) (w : World) (h : RdAt w b r) : Calls Try.prog 98 #[.pointer (some ⟨b, 0, none⟩), .int .i64 (want : Int), .int .i64 most] w (RetS [b] (str []) (fun w' => RdAt w' b r.Head.1) w) := by
  have te : (r.Head.1.e != 0) = true := by have := he.out; simp [this]
  go_enter Try.func98, Try.ntmps98
  go_wp2_with (go_at_call 77; refine (Head_any_r b r hok _ h).mono ?_; rintro x w1 ⟨rfl, hm1, hr1⟩; have c0 := hr1.s; have c1 := hr1.at_; have c3 := hr1.e; have f1 := hr1.froz 1)
  go_ret
  exact RetS.mk rfl hm1 hr1

set_option maxRecDepth 20000 in
set_option maxHeartbeats 400000 in
theorem str_m (b : Nat) (r : RS) (hok : r.ok) (want : Nat) (most : Int) (he : Hid (r.Head.1.e = 0)) (hm : Hid (r.Head.2.1 ≠ want)) (w : World) (h : RdAt w b r) : Calls Try.prog 98 #[.pointer (some ⟨b, 0, none⟩), .int .i64 (want : Int), .int .i64 most] w (RetS [b] (str []) (fun w' => RdAt w' b (r.Head.1.fail 2)) w) := by
  have te : (r.Head.1.e != 0) = false := by have := he.out; simp [this]
  have tm : ((r.Head.2.1 : Int) != (want : Int)) = true := by have := hm.out; simp; omega
  go_enter Try.func98, Try.ntmps98
  go_upto_region 4 with (go_at_call 77; refine (Head_any_r b r hok _ h).mono ?_; rintro x w1 ⟨rfl, hm1, hr1⟩; have c0 := hr1.s; have c1 := hr1.at_; have c3 := hr1.e; have f1 := hr1.froz 1)
  go_quiet (fail)
  go_wp2_with (go_at_call 94; refine (fail_any b r.Head.1 2 _ (by first | exact hr1 | exact Blk.drewN hr1 _)).mono ?_; rintro x w2 ⟨rfl, hm2, hr2⟩)
  go_ret
  exact RetS.mk rfl ((hm1.drewN _).trans hm2) hr2

set_option maxRecDepth 20000 in
set_option maxHeartbeats 400000 in
theorem str_o (b : Nat) (r : RS) (hok : r.ok) (want : Nat) (most : Int) (he : Hid (r.Head.1.e = 0)) (hm : Hid (r.Head.2.1 = want)) (ho : r.Head.2.2.2 = true) (w : World) (h : RdAt w b r) : Calls Try.prog 98 #[.pointer (some ⟨b, 0, none⟩), .int .i64 (want : Int), .int .i64 most] w (RetS [b] (str []) (fun w' => RdAt w' b (r.Head.1.fail 2)) w) := by
  have te : (r.Head.1.e != 0) = false := by have := he.out; simp [this]
  have tm : ((r.Head.2.1 : Int) != (want : Int)) = false := by have := hm.out; simp; omega
  go_enter Try.func98, Try.ntmps98
  go_upto_region 4 with (go_at_call 77; refine (Head_any_r b r hok _ h).mono ?_; rintro x w1 ⟨rfl, hm1, hr1⟩; have c0 := hr1.s; have c1 := hr1.at_; have c3 := hr1.e; have f1 := hr1.froz 1)
  go_quiet (fail)
  go_wp2_with (go_at_call 94; refine (fail_any b r.Head.1 2 _ (by first | exact hr1 | exact Blk.drewN hr1 _)).mono ?_; rintro x w2 ⟨rfl, hm2, hr2⟩)
  go_ret
  exact RetS.mk rfl ((hm1.drewN _).trans hm2) hr2

set_option maxRecDepth 20000 in
set_option maxHeartbeats 400000 in
theorem str_s (b : Nat) (r : RS) (hok : r.ok) (want : Nat) (most : Int) (he : Hid (r.Head.1.e = 0)) (hm : Hid (r.Head.2.1 = want)) (ho : r.Head.2.2.2 = false) (hn : Hid (r.Head.1.s.length - r.Head.1.at_ < r.Head.2.2.1)) (w : World) (h : RdAt w b r) : Calls Try.prog 98 #[.pointer (some ⟨b, 0, none⟩), .int .i64 (want : Int), .int .i64 most] w (RetS [b] (str []) (fun w' => RdAt w' b (r.Head.1.fail 2)) w) := by
  have te : (r.Head.1.e != 0) = false := by have := he.out; simp [this]
  have tm : ((r.Head.2.1 : Int) != (want : Int)) = false := by have := hm.out; simp; omega
  have hok1 := RS.Head_ok hok
  have hle := hid hok1.1
  have hbig := hid hok1.2.2
  have hw : IntKind.u64.wrap (wrap64 ((r.Head.1.s.length : Int) - (r.Head.1.at_ : Int))) = (r.Head.1.s.length : Int) - (r.Head.1.at_ : Int) := by
    have h1 := hle.out; have h2 := hbig.out
    rw [IntWalk.wrap64_in _ (by omega), IntWalk.u64_in _ (by omega)]
  have tn : decide ((r.Head.1.s.length : Int) - (r.Head.1.at_ : Int) < (r.Head.2.2.1 : Int)) = true := by have h1 := hn.out; have h2 := hle.out; simp; omega
  go_enter Try.func98, Try.ntmps98
  go_upto_region 4 with (go_at_call 77; refine (Head_any_r b r hok _ h).mono ?_; rintro x w1 ⟨rfl, hm1, hr1⟩; have c0 := hr1.s; have c1 := hr1.at_; have c3 := hr1.e; have f1 := hr1.froz 1)
  go_quiet (fail)
  go_wp2_with (go_at_call 94; refine (fail_any b r.Head.1 2 _ (by first | exact hr1 | exact Blk.drewN hr1 _)).mono ?_; rintro x w2 ⟨rfl, hm2, hr2⟩)
  go_ret
  exact RetS.mk rfl ((hm1.drewN _).trans hm2) hr2

set_option maxRecDepth 20000 in
set_option maxHeartbeats 400000 in
theorem str_l1 (b : Nat) (r : RS) (hok : r.ok) (want : Nat) (most : Int) (he : Hid (r.Head.1.e = 0)) (hm : Hid (r.Head.2.1 = want)) (ho : r.Head.2.2.2 = false) (hn : Hid (¬ r.Head.1.s.length - r.Head.1.at_ < r.Head.2.2.1)) (hl : Hid (most < 0)) (w : World) (h : RdAt w b r) : Calls Try.prog 98 #[.pointer (some ⟨b, 0, none⟩), .int .i64 (want : Int), .int .i64 most] w (RetS [b] (str []) (fun w' => RdAt w' b (r.Head.1.fail 4)) w) := by
  have te : (r.Head.1.e != 0) = false := by have := he.out; simp [this]
  have tm : ((r.Head.2.1 : Int) != (want : Int)) = false := by have := hm.out; simp; omega
  have hok1 := RS.Head_ok hok
  have hle := hid hok1.1
  have hbig := hid hok1.2.2
  have hw : IntKind.u64.wrap (wrap64 ((r.Head.1.s.length : Int) - (r.Head.1.at_ : Int))) = (r.Head.1.s.length : Int) - (r.Head.1.at_ : Int) := by
    have h1 := hle.out; have h2 := hbig.out
    rw [IntWalk.wrap64_in _ (by omega), IntWalk.u64_in _ (by omega)]
  have tn : decide ((r.Head.1.s.length : Int) - (r.Head.1.at_ : Int) < (r.Head.2.2.1 : Int)) = false := by have h1 := hn.out; have h2 := hle.out; simp; omega
  have t1 : decide (most < 0) = true := by have := hl.out; simp; omega
  go_enter Try.func98, Try.ntmps98
  go_upto_region 4 with (go_at_call 77; refine (Head_any_r b r hok _ h).mono ?_; rintro x w1 ⟨rfl, hm1, hr1⟩; have c0 := hr1.s; have c1 := hr1.at_; have c3 := hr1.e; have f1 := hr1.froz 1)
  go_quiet (fail)
  go_wp2_with (go_at_call 94; refine (fail_any b r.Head.1 4 _ (by first | exact hr1 | exact Blk.drewN hr1 _)).mono ?_; rintro x w2 ⟨rfl, hm2, hr2⟩)
  go_ret
  exact RetS.mk rfl ((hm1.drewN _).trans hm2) hr2

set_option maxRecDepth 20000 in
set_option maxHeartbeats 400000 in
theorem str_l2 (b : Nat) (r : RS) (hok : r.ok) (want : Nat) (most : Int) (hmb : Hid (most < 9223372036854775808)) (he : Hid (r.Head.1.e = 0)) (hm : Hid (r.Head.2.1 = want)) (ho : r.Head.2.2.2 = false) (hn : Hid (¬ r.Head.1.s.length - r.Head.1.at_ < r.Head.2.2.1)) (hl : Hid (0 ≤ most ∧ most < (r.Head.2.2.1 : Int))) (w : World) (h : RdAt w b r) : Calls Try.prog 98 #[.pointer (some ⟨b, 0, none⟩), .int .i64 (want : Int), .int .i64 most] w (RetS [b] (str []) (fun w' => RdAt w' b (r.Head.1.fail 4)) w) := by
  have te : (r.Head.1.e != 0) = false := by have := he.out; simp [this]
  have tm : ((r.Head.2.1 : Int) != (want : Int)) = false := by have := hm.out; simp; omega
  have hok1 := RS.Head_ok hok
  have hle := hid hok1.1
  have hbig := hid hok1.2.2
  have hw : IntKind.u64.wrap (wrap64 ((r.Head.1.s.length : Int) - (r.Head.1.at_ : Int))) = (r.Head.1.s.length : Int) - (r.Head.1.at_ : Int) := by
    have h1 := hle.out; have h2 := hbig.out
    rw [IntWalk.wrap64_in _ (by omega), IntWalk.u64_in _ (by omega)]
  have tn : decide ((r.Head.1.s.length : Int) - (r.Head.1.at_ : Int) < (r.Head.2.2.1 : Int)) = false := by have h1 := hn.out; have h2 := hle.out; simp; omega
  have t1 : decide (most < 0) = false := by have := hl.out; simp; omega
  have hwm : IntKind.u64.wrap most = most := IntWalk.u64_in _ (by have h1 := hl.out; have h2 := hmb.out; omega)
  have t2 : decide (most < (r.Head.2.2.1 : Int)) = true := by have := hl.out; simp; omega
  go_enter Try.func98, Try.ntmps98
  go_upto_region 4 with (go_at_call 77; refine (Head_any_r b r hok _ h).mono ?_; rintro x w1 ⟨rfl, hm1, hr1⟩; have c0 := hr1.s; have c1 := hr1.at_; have c3 := hr1.e; have f1 := hr1.froz 1)
  go_quiet (fail)
  go_wp2_with (go_at_call 94; refine (fail_any b r.Head.1 4 _ (by first | exact hr1 | exact Blk.drewN hr1 _)).mono ?_; rintro x w2 ⟨rfl, hm2, hr2⟩)
  go_ret
  exact RetS.mk rfl ((hm1.drewN _).trans hm2) hr2

set_option maxRecDepth 20000 in
set_option maxHeartbeats 400000 in
theorem str_g (b : Nat) (r : RS) (hok : r.ok) (want : Nat) (most : Int) (hmb : Hid (most < 9223372036854775808)) (he : Hid (r.Head.1.e = 0)) (hm : Hid (r.Head.2.1 = want)) (ho : r.Head.2.2.2 = false) (hn : Hid (¬ r.Head.1.s.length - r.Head.1.at_ < r.Head.2.2.1)) (hl : Hid (0 ≤ most ∧ (r.Head.2.2.1 : Int) ≤ most)) (w : World) (h : RdAt w b r) : Calls Try.prog 98 #[.pointer (some ⟨b, 0, none⟩), .int .i64 (want : Int), .int .i64 most] w (RetS [b] (str ((r.Head.1.s.drop r.Head.1.at_).take r.Head.2.2.1)) (fun w' => RdAt w' b { r.Head.1 with at_ := r.Head.1.at_ + r.Head.2.2.1 }) w) := by
  have te : (r.Head.1.e != 0) = false := by have := he.out; simp [this]
  have tm : ((r.Head.2.1 : Int) != (want : Int)) = false := by have := hm.out; simp; omega
  have hok1 := RS.Head_ok hok
  have hle := hid hok1.1
  have hbig := hid hok1.2.2
  have hw : IntKind.u64.wrap (wrap64 ((r.Head.1.s.length : Int) - (r.Head.1.at_ : Int))) = (r.Head.1.s.length : Int) - (r.Head.1.at_ : Int) := by
    have h1 := hle.out; have h2 := hbig.out
    rw [IntWalk.wrap64_in _ (by omega), IntWalk.u64_in _ (by omega)]
  have tn : decide ((r.Head.1.s.length : Int) - (r.Head.1.at_ : Int) < (r.Head.2.2.1 : Int)) = false := by have h1 := hn.out; have h2 := hle.out; simp; omega
  have t1 : decide (most < 0) = false := by have := hl.out; simp; omega
  have hwm : IntKind.u64.wrap most = most := IntWalk.u64_in _ (by have h1 := hl.out; have h2 := hmb.out; omega)
  have t2 : decide (most < (r.Head.2.2.1 : Int)) = false := by have := hl.out; simp; omega
  have hw1 : wrap64 (r.Head.2.2.1 : Int) = (r.Head.2.2.1 : Int) := IntWalk.wrap64_in _ (by have h1 := hn.out; have h2 := hbig.out; omega)
  have hw2 : wrap64 ((r.Head.1.at_ : Int) + (r.Head.2.2.1 : Int)) = ((r.Head.1.at_ + r.Head.2.2.1 : Nat) : Int) := IntWalk.wrap64_in _ (by have h1 := hn.out; have h2 := hbig.out; have h3 := hle.out; omega)
  have hsl : (r.Head.1.at_ : Int) + (r.Head.2.2.1 : Int) ≤ (r.Head.1.s.length : Int) := by have h1 := hn.out; have h3 := hle.out; omega
  have hex : Hid (_ = _) := (extract_str r.Head.1.s r.Head.1.at_ (r.Head.1.at_ + r.Head.2.2.1)).trans (by rw [Nat.add_sub_cancel_left])
  go_enter Try.func98, Try.ntmps98
  go_upto_region 4 with (go_at_call 77; refine (Head_any_r b r hok _ h).mono ?_; rintro x w1 ⟨rfl, hm1, hr1⟩; have c0 := hr1.s; have c1 := hr1.at_; have c3 := hr1.e; have f1 := hr1.froz 1)
  go_quiet (fail)
  go_upto_region 10 with fail
  go_quiet (fail)
  go_wp2
  go_ret
  exact RetS.mk hex.out ((hm1.drewN _).setCell (.inl (List.mem_singleton.2 rfl)) _) (Blk.set_ (Blk.drewN hr1 _) 1 _)

theorem str_any (b : Nat) (r : RS) (hok : r.ok) (want : Nat) (most : Int) (hmb : most < 9223372036854775808) (w : World) (h : RdAt w b r) : Calls Try.prog 98 #[.pointer (some ⟨b, 0, none⟩), .int .i64 (want : Int), .int .i64 most] w (RetS [b] (str (r.str want most).2) (fun w' => RdAt w' b (r.str want most).1) w) := by
  by_cases he : r.Head.1.e = 0
  · by_cases hm : r.Head.2.1 = want
    · cases ho : r.Head.2.2.2
      · by_cases hn : r.Head.1.s.length - r.Head.1.at_ < r.Head.2.2.1
        · have e : r.str want most = (r.Head.1.fail 2, []) := by unfold RS.str; rw [if_pos he, if_pos (.inr (.inr hn))]
          rw [e]; exact str_s b r hok want most he hm ho hn w h
        · have hno : ¬ (r.Head.2.1 ≠ want ∨ r.Head.2.2.2 = true ∨ r.Head.1.s.length - r.Head.1.at_ < r.Head.2.2.1) := by rw [ho]; simp [hm, hn]
          by_cases h1 : most < 0
          · have e : r.str want most = (r.Head.1.fail 4, []) := by unfold RS.str; rw [if_pos he, if_neg hno, if_pos (.inl h1)]
            rw [e]; exact str_l1 b r hok want most he hm ho hn h1 w h
          · by_cases h2 : most < (r.Head.2.2.1 : Int)
            · have e : r.str want most = (r.Head.1.fail 4, []) := by unfold RS.str; rw [if_pos he, if_neg hno, if_pos (.inr h2)]
              rw [e]; exact str_l2 b r hok want most hmb he hm ho hn ⟨by omega, h2⟩ w h
            · have e : r.str want most = ({ r.Head.1 with at_ := r.Head.1.at_ + r.Head.2.2.1 }, (r.Head.1.s.drop r.Head.1.at_).take r.Head.2.2.1) := by
                unfold RS.str; rw [if_pos he, if_neg hno, if_neg (by rintro (x | x); exact h1 x; exact h2 x)]
              rw [e]; exact str_g b r hok want most hmb he hm ho hn ⟨by omega, by omega⟩ w h
      · have e : r.str want most = (r.Head.1.fail 2, []) := by unfold RS.str; rw [if_pos he, if_pos (.inr (.inl ho))]
        rw [e]; exact str_o b r hok want most he hm ho w h
    · have e : r.str want most = (r.Head.1.fail 2, []) := by unfold RS.str; rw [if_pos he, if_pos (.inl hm)]
      rw [e]; exact str_m b r hok want most he hm w h
  · have e : r.str want most = (r.Head.1, []) := by unfold RS.str; rw [if_neg he]
    rw [e]; exact str_e b r hok want most he w h

set_option maxRecDepth 20000 in
set_option maxHeartbeats 400000 in
theorem RBytes_any (b : Nat) (r : RS) (hok : r.ok) (most : Int) (hmb : Hid (most < 9223372036854775808)) (w : World) (h : RdAt w b r) : Calls Try.prog 92 #[.pointer (some ⟨b, 0, none⟩), .int .i64 most] w (RetS [b] (str (r.str 2 most).2) (fun w' => RdAt w' b (r.str 2 most).1) w) := by
  go_enter Try.func92, Try.ntmps92
  go_wp2_with (go_at_call 98; refine (str_any b r hok 2 most hmb.out _ h).mono ?_; rintro x w1 ⟨rfl, hm, hr⟩)
  go_ret
  exact RetS.mk rfl hm hr

set_option maxRecDepth 20000 in
set_option maxHeartbeats 400000 in
theorem RText_any (b : Nat) (r : RS) (hok : r.ok) (most : Int) (hmb : Hid (most < 9223372036854775808)) (w : World) (h : RdAt w b r) : Calls Try.prog 93 #[.pointer (some ⟨b, 0, none⟩), .int .i64 most] w (RetS [b] (str (r.str 3 most).2) (fun w' => RdAt w' b (r.str 3 most).1) w) := by
  go_enter Try.func93, Try.ntmps93
  go_wp2_with (go_at_call 98; refine (str_any b r hok 3 most hmb.out _ h).mono ?_; rintro x w1 ⟨rfl, hm, hr⟩)
  go_ret
  exact RetS.mk rfl hm hr

set_option maxRecDepth 20000 in
set_option maxHeartbeats 400000 in
theorem Bad_any (b : Nat) (r : RS) (w : World) (h : RdAt w b r) : Calls Try.prog 78 #[.pointer (some ⟨b, 0, none⟩)] w (Ret (.tuple #[.int .i64 r.bad, .int .i64 r.e]) w) := by
  have c2 := h.bad
  have c3 := h.e
  go_enter Try.func78, Try.ntmps78
  go_upto_region 1 with fail
  go_quiet (fail)
  go_wp2
  go_ret2
  exact Ret.mk rfl ((Mod.refl _ _).drewN _)
end Go.Proofs.Ytagjhkknefiieaa


namespace Go.Proofs.Ytagjhkknefiieaa
open Go.RowKit
set_option linter.unusedVariables false

def gotV (sz m n : Nat) (o : Bool) : Value := .agg #[.int .i64 (sz : Int), .int .i64 (m : Int), .int .u64 (n : Int), .bool o]
def gotOf (x : Option (Nat × Nat × Nat × Bool)) : Value := match x with | none => gotV 0 0 0 false | some (sz, m, n, o) => gotV sz m n o
theorem first_div' (c : UInt8) (l : List UInt8) {m : Nat} (h : 0 < (⟨(c :: l).toArray⟩ : ByteArray).size) (hm : Hid (c.toNat / 32 = m)) : Value.int .i64 (wrap64 ((wrap64 ((⟨(c :: l).toArray⟩ : ByteArray)[0].toNat : Int)).tdiv 32)) = .int .i64 (m : Int) := by
  rw [← hm.out]
  show Value.int .i64 (wrap64 ((wrap64 (c.toNat : Int)).tdiv 32)) = _
  have := c.toNat_lt
  have e : wrap64 (c.toNat : Int) = (c.toNat : Int) := IntWalk.wrap64_in _ (by omega)
  rw [e, Int.tdiv_eq_ediv_of_nonneg (by omega), IntWalk.wrap64_in _ (by omega)]; rfl
theorem first_mod' (c : UInt8) (l : List UInt8) {k : Nat} (h : 0 < (⟨(c :: l).toArray⟩ : ByteArray).size) (hk : Hid (c.toNat % 32 = k)) : Value.int .i64 ((wrap64 ((⟨(c :: l).toArray⟩ : ByteArray)[0].toNat : Int)).tmod 32) = .int .i64 (k : Int) := by
  rw [← hk.out]
  show Value.int .i64 ((wrap64 (c.toNat : Int)).tmod 32) = _
  have := c.toNat_lt
  have e : wrap64 (c.toNat : Int) = (c.toNat : Int) := IntWalk.wrap64_in _ (by omega)
  rw [e, Int.tmod_eq_emod_of_nonneg (by omega)]; rfl
def sz1 (k : Nat) : Nat := if k = 24 then 1 else 0
def sz2 (k : Nat) : Nat := if k = 25 then 2 else sz1 k
def sz3 (k : Nat) : Nat := if k = 26 then 4 else sz2 k
def sz4 (k : Nat) : Nat := if k = 27 then 8 else sz3 k
theorem infoGot : Try.prog.cellsOf 85 = 4 := by kernel_rfl

set_option maxRecDepth 20000 in
set_option maxHeartbeats 400000 in
theorem read_nil (w : World) : Calls Try.prog 46 #[str []] w (Ret (gotV 0 0 0 false) w) := by
  go_enter Try.func46, Try.ntmps46
  go_wp2
  refine bodyPost_ret (v := gotV 0 0 0 false) (by simp [results, Try.results46, go_sem, gotV]) rfl (Ret.mk rfl ?_)
  repeat (first | exact Mod.refl _ _ | apply Mod.drewN | apply Mod.alloc | refine Mod.setCell ?_ (.inr (Nat.le_refl _)) _)

set_option maxRecDepth 20000 in
set_option maxHeartbeats 400000 in
theorem read_small (c : UInt8) (l : List UInt8) (m k : Nat) (hmm : Hid (c.toNat / 32 = m)) (hkk : Hid (c.toNat % 32 = k)) (hk : Hid (k < 24)) (w : World) : Calls Try.prog 46 #[str (c :: l)] w (Ret (gotV 1 m k false) w) := by
  have hlen : (0 : Int) < (l.length : Int) + 1 := by omega
  go_enter Try.func46, Try.ntmps46
  go_upto_region 3 with fail
  go_cut [3, 4] (fun s6 s7 wx => s6 = .int .i64 (m : Int) ∧ s7 = .int .i64 (k : Int) ∧ ∃ n, wx = (w.alloc (.cells #[.int .i64 0, .int .i64 0, .int .u64 0, .bool false] 85)).drewN n)
  case first =>
    go_quiet (fail)
    go_wp2_with fail
    go_meet
    exact ⟨first_div' c l _ hmm, first_mod' c l _ hkk, _, rfl⟩
  obtain ⟨rfl, rfl, nw, rfl⟩ := hcut
  have hk32 : Hid (k ≤ 31) := by have := hkk.out; unfold Hid; omega
  have t1 : decide ((k : Int) < 24) = true := by have h1 := hk.out; have h2 := hk32.out; simp; omega
  have hw1 : IntKind.u64.wrap (k : Int) = k := IntWalk.u64_in _ (by have := hk32.out; omega)
  go_wp2
  refine bodyPost_ret (v := gotV 1 m k false) (by simp [results, Try.results46, go_sem, gotV]) rfl (Ret.mk rfl ?_)
  repeat (first | exact Mod.refl _ _ | apply Mod.drewN | apply Mod.alloc | refine Mod.setCell ?_ (.inr (Nat.le_refl _)) _)

set_option maxRecDepth 20000 in
set_option maxHeartbeats 400000 in
theorem read_open (c : UInt8) (l : List UInt8) (m k : Nat) (hmm : Hid (c.toNat / 32 = m)) (hkk : Hid (c.toNat % 32 = k)) (hk : Hid (k = 31)) (ho : Hid (opensB (m : Int) = true)) (w : World) : Calls Try.prog 46 #[str (c :: l)] w (Ret (gotV 1 m 0 true) w) := by
  have hlen : (0 : Int) < (l.length : Int) + 1 := by omega
  go_enter Try.func46, Try.ntmps46
  go_upto_region 3 with fail
  go_cut [3, 4] (fun s6 s7 wx => s6 = .int .i64 (m : Int) ∧ s7 = .int .i64 (k : Int) ∧ ∃ n, wx = (w.alloc (.cells #[.int .i64 0, .int .i64 0, .int .u64 0, .bool false] 85)).drewN n)
  case first =>
    go_quiet (fail)
    go_wp2_with fail
    go_meet
    exact ⟨first_div' c l _ hmm, first_mod' c l _ hkk, _, rfl⟩
  obtain ⟨rfl, rfl, nw, rfl⟩ := hcut
  have hk32 : Hid (k ≤ 31) := by have := hkk.out; unfold Hid; omega
  have t1 : decide ((k : Int) < 24) = false := by have h1 := hk.out; have h2 := hk32.out; simp; omega
  have t2 : ((k : Int) == 31) = true := by have h1 := hk.out; have h2 := hk32.out; simp; omega
  have t3 : ((m : Int) != 0) = true := by have h1 := ho.out; have h2 := hmm.out; have h3 := c.toNat_lt; unfold opensB at h1; simp at h1 ⊢; omega
  have t4 : ((m : Int) != 1) = true := by have h1 := ho.out; have h2 := hmm.out; have h3 := c.toNat_lt; unfold opensB at h1; simp at h1 ⊢; omega
  have t5 : ((m : Int) != 6) = true := by have h1 := ho.out; have h2 := hmm.out; have h3 := c.toNat_lt; unfold opensB at h1; simp at h1 ⊢; omega
  go_wp2
  refine bodyPost_ret (v := gotV 1 m 0 true) (by simp [results, Try.results46, go_sem, gotV]) rfl (Ret.mk rfl ?_)
  repeat (first | exact Mod.refl _ _ | apply Mod.drewN | apply Mod.alloc | refine Mod.setCell ?_ (.inr (Nat.le_refl _)) _)

set_option maxRecDepth 20000 in
set_option maxHeartbeats 400000 in
theorem read_none (c : UInt8) (l : List UInt8) (m k : Nat) (hmm : Hid (c.toNat / 32 = m)) (hkk : Hid (c.toNat % 32 = k)) (hk : Hid (24 ≤ k)) (ho : Hid (¬ (k = 31 ∧ opensB (m : Int) = true))) (hz : Hid (sz4 k = 0)) (w : World) : Calls Try.prog 46 #[str (c :: l)] w (Ret (gotV 0 0 0 false) w) := by
  have hlen : (0 : Int) < (l.length : Int) + 1 := by omega
  go_enter Try.func46, Try.ntmps46
  go_upto_region 3 with fail
  go_cut [3, 4] (fun s6 s7 wx => s6 = .int .i64 (m : Int) ∧ s7 = .int .i64 (k : Int) ∧ ∃ n, wx = (w.alloc (.cells #[.int .i64 0, .int .i64 0, .int .u64 0, .bool false] 85)).drewN n)
  case first =>
    go_quiet (fail)
    go_wp2_with fail
    go_meet
    exact ⟨first_div' c l _ hmm, first_mod' c l _ hkk, _, rfl⟩
  obtain ⟨rfl, rfl, nw, rfl⟩ := hcut
  have hk32 : Hid (k ≤ 31) := by have := hkk.out; unfold Hid; omega
  have t1 : decide ((k : Int) < 24) = false := by have h1 := hk.out; have h2 := hk32.out; simp; omega
  go_upto_region 6 with fail
  go_cut [38] (fun s wx => s = .bool false ∧ ∃ n, wx = (w.alloc (.cells #[.int .i64 0, .int .i64 0, .int .u64 0, .bool false] 85)).drewN n)
  case first =>
    by_cases hv : k = 31
    · have hm3 : m = 0 ∨ m = 1 ∨ m = 6 := by
        have h1 := hmm.out; have h2 := c.toNat_lt; have h3 := ho.out
        have h4 : opensB (m : Int) = false := by cases e : opensB (m : Int) with | false => rfl | true => exact absurd ⟨hv, e⟩ h3
        unfold opensB at h4; simp at h4; omega
      have tv : ((k : Int) == 31) = true := by simp; omega
      have HV := hid hv; clear hv
      rcases hm3 with hm | hm | hm
      · have tm : ((m : Int) != 0) = false := by simp; omega
        have HM := hid hm; clear hm
        go_wp2_with fail; go_meet; exact ⟨rfl, _, rfl⟩
      · have tm : ((m : Int) != 0) = true := by simp; omega
        have tm1 : ((m : Int) != 1) = false := by simp; omega
        have HM := hid hm; clear hm
        go_wp2_with fail; go_meet; exact ⟨rfl, _, rfl⟩
      · have tm : ((m : Int) != 0) = true := by simp; omega
        have tm1 : ((m : Int) != 1) = true := by simp; omega
        have tm2 : ((m : Int) != 6) = false := by simp; omega
        have HM := hid hm; clear hm
        go_wp2_with fail; go_meet; exact ⟨rfl, _, rfl⟩
    · have tv : ((k : Int) == 31) = false := by simp; omega
      have HV := hid hv; clear hv
      go_wp2_with fail; go_meet; exact ⟨rfl, _, rfl⟩
  obtain ⟨rfl, nv, rfl⟩ := hcut
  go_upto_region 8 with fail
  go_cut [5] (fun s wx => s = .int .i64 0 ∧ ∃ n, wx = (w.alloc (.cells #[.int .i64 0, .int .i64 0, .int .u64 0, .bool false] 85)).drewN n)
  case first => go_wp2_with fail; go_meet; exact ⟨rfl, _, rfl⟩
  obtain ⟨rfl, nx, rfl⟩ := hcut
  go_step
  go_step
  go_cut [5] (fun s wx => s = .int .i64 ((sz1 k : Nat) : Int) ∧ ∃ n, wx = (w.alloc (.cells #[.int .i64 0, .int .i64 0, .int .u64 0, .bool false] 85)).drewN n)
  case first =>
    by_cases hv : k = 24
    · have tv : ((k : Int) == 24) = true := by simp; omega
      have HV := hid hv; clear hv
      go_wp2_with fail; go_meet
      exact ⟨by unfold sz1; rw [if_pos HV.out]; rfl, _, rfl⟩
    · have tv : ((k : Int) == 24) = false := by simp; omega
      have HV := hid hv; clear hv
      go_wp2_with fail; go_meet
      exact ⟨by unfold sz1; rw [if_neg HV.out]; rfl, _, rfl⟩
  obtain ⟨rfl, nx1, rfl⟩ := hcut
  go_step
  go_step
  go_cut [5] (fun s wx => s = .int .i64 ((sz2 k : Nat) : Int) ∧ ∃ n, wx = (w.alloc (.cells #[.int .i64 0, .int .i64 0, .int .u64 0, .bool false] 85)).drewN n)
  case first =>
    by_cases hv : k = 25
    · have tv : ((k : Int) == 25) = true := by simp; omega
      have HV := hid hv; clear hv
      go_wp2_with fail; go_meet
      exact ⟨by unfold sz2; rw [if_pos HV.out]; rfl, _, rfl⟩
    · have tv : ((k : Int) == 25) = false := by simp; omega
      have HV := hid hv; clear hv
      go_wp2_with fail; go_meet
      exact ⟨by unfold sz2; rw [if_neg HV.out], _, rfl⟩
  obtain ⟨rfl, nx2, rfl⟩ := hcut
  go_step
  go_step
  go_cut [5] (fun s wx => s = .int .i64 ((sz3 k : Nat) : Int) ∧ ∃ n, wx = (w.alloc (.cells #[.int .i64 0, .int .i64 0, .int .u64 0, .bool false] 85)).drewN n)
  case first =>
    by_cases hv : k = 26
    · have tv : ((k : Int) == 26) = true := by simp; omega
      have HV := hid hv; clear hv
      go_wp2_with fail; go_meet
      exact ⟨by unfold sz3; rw [if_pos HV.out]; rfl, _, rfl⟩
    · have tv : ((k : Int) == 26) = false := by simp; omega
      have HV := hid hv; clear hv
      go_wp2_with fail; go_meet
      exact ⟨by unfold sz3; rw [if_neg HV.out], _, rfl⟩
  obtain ⟨rfl, nx3, rfl⟩ := hcut
  go_step
  go_step
  go_cut [5] (fun s wx => s = .int .i64 ((sz4 k : Nat) : Int) ∧ ∃ n, wx = (w.alloc (.cells #[.int .i64 0, .int .i64 0, .int .u64 0, .bool false] 85)).drewN n)
  case first =>
    by_cases hv : k = 27
    · have tv : ((k : Int) == 27) = true := by simp; omega
      have HV := hid hv; clear hv
      go_wp2_with fail; go_meet
      exact ⟨by unfold sz4; rw [if_pos HV.out]; rfl, _, rfl⟩
    · have tv : ((k : Int) == 27) = false := by simp; omega
      have HV := hid hv; clear hv
      go_wp2_with fail; go_meet
      exact ⟨by unfold sz4; rw [if_neg HV.out], _, rfl⟩
  obtain ⟨rfl, nx4, rfl⟩ := hcut
  rw [hz.out]
  go_wp2
  refine bodyPost_ret (v := gotV 0 0 0 false) (by simp [results, Try.results46, go_sem, gotV]) rfl (Ret.mk rfl ?_)
  repeat (first | exact Mod.refl _ _ | apply Mod.drewN | apply Mod.alloc | refine Mod.setCell ?_ (.inr (Nat.le_refl _)) _)

set_option maxRecDepth 20000 in
set_option maxHeartbeats 400000 in
theorem read_short (c : UInt8) (l : List UInt8) (m k : Nat) (hmm : Hid (c.toNat / 32 = m)) (hkk : Hid (c.toNat % 32 = k)) (S : Nat) (hk : Hid (24 ≤ k ∧ k < 28)) (hz : Hid (sz4 k = S)) (hS : Hid (1 ≤ S ∧ S ≤ 8)) (hs : Hid (l.length < S)) (w : World) : Calls Try.prog 46 #[str (c :: l)] w (Ret (gotV 0 0 0 false) w) := by
  have hlen : (0 : Int) < (l.length : Int) + 1 := by omega
  go_enter Try.func46, Try.ntmps46
  go_upto_region 3 with fail
  go_cut [3, 4] (fun s6 s7 wx => s6 = .int .i64 (m : Int) ∧ s7 = .int .i64 (k : Int) ∧ ∃ n, wx = (w.alloc (.cells #[.int .i64 0, .int .i64 0, .int .u64 0, .bool false] 85)).drewN n)
  case first =>
    go_quiet (fail)
    go_wp2_with fail
    go_meet
    exact ⟨first_div' c l _ hmm, first_mod' c l _ hkk, _, rfl⟩
  obtain ⟨rfl, rfl, nw, rfl⟩ := hcut
  have hk32 : Hid (k ≤ 31) := by have := hkk.out; unfold Hid; omega
  have t1 : decide ((k : Int) < 24) = false := by have h1 := hk.out; have h2 := hk32.out; simp; omega
  have te : ((k : Int) == 31) = false := by have h1 := hk.out; simp; omega
  go_upto_region 8 with fail
  go_cut [5] (fun s wx => s = .int .i64 0 ∧ ∃ n, wx = (w.alloc (.cells #[.int .i64 0, .int .i64 0, .int .u64 0, .bool false] 85)).drewN n)
  case first => go_wp2_with fail; go_meet; exact ⟨rfl, _, rfl⟩
  obtain ⟨rfl, nx, rfl⟩ := hcut
  go_step
  go_step
  go_cut [5] (fun s wx => s = .int .i64 ((sz1 k : Nat) : Int) ∧ ∃ n, wx = (w.alloc (.cells #[.int .i64 0, .int .i64 0, .int .u64 0, .bool false] 85)).drewN n)
  case first =>
    by_cases hv : k = 24
    · have tv : ((k : Int) == 24) = true := by simp; omega
      have HV := hid hv; clear hv
      go_wp2_with fail; go_meet
      exact ⟨by unfold sz1; rw [if_pos HV.out]; rfl, _, rfl⟩
    · have tv : ((k : Int) == 24) = false := by simp; omega
      have HV := hid hv; clear hv
      go_wp2_with fail; go_meet
      exact ⟨by unfold sz1; rw [if_neg HV.out]; rfl, _, rfl⟩
  obtain ⟨rfl, nx1, rfl⟩ := hcut
  go_step
  go_step
  go_cut [5] (fun s wx => s = .int .i64 ((sz2 k : Nat) : Int) ∧ ∃ n, wx = (w.alloc (.cells #[.int .i64 0, .int .i64 0, .int .u64 0, .bool false] 85)).drewN n)
  case first =>
    by_cases hv : k = 25
    · have tv : ((k : Int) == 25) = true := by simp; omega
      have HV := hid hv; clear hv
      go_wp2_with fail; go_meet
      exact ⟨by unfold sz2; rw [if_pos HV.out]; rfl, _, rfl⟩
    · have tv : ((k : Int) == 25) = false := by simp; omega
      have HV := hid hv; clear hv
      go_wp2_with fail; go_meet
      exact ⟨by unfold sz2; rw [if_neg HV.out], _, rfl⟩
  obtain ⟨rfl, nx2, rfl⟩ := hcut
  go_step
  go_step
  go_cut [5] (fun s wx => s = .int .i64 ((sz3 k : Nat) : Int) ∧ ∃ n, wx = (w.alloc (.cells #[.int .i64 0, .int .i64 0, .int .u64 0, .bool false] 85)).drewN n)
  case first =>
    by_cases hv : k = 26
    · have tv : ((k : Int) == 26) = true := by simp; omega
      have HV := hid hv; clear hv
      go_wp2_with fail; go_meet
      exact ⟨by unfold sz3; rw [if_pos HV.out]; rfl, _, rfl⟩
    · have tv : ((k : Int) == 26) = false := by simp; omega
      have HV := hid hv; clear hv
      go_wp2_with fail; go_meet
      exact ⟨by unfold sz3; rw [if_neg HV.out], _, rfl⟩
  obtain ⟨rfl, nx3, rfl⟩ := hcut
  go_step
  go_step
  go_cut [5] (fun s wx => s = .int .i64 ((sz4 k : Nat) : Int) ∧ ∃ n, wx = (w.alloc (.cells #[.int .i64 0, .int .i64 0, .int .u64 0, .bool false] 85)).drewN n)
  case first =>
    by_cases hv : k = 27
    · have tv : ((k : Int) == 27) = true := by simp; omega
      have HV := hid hv; clear hv
      go_wp2_with fail; go_meet
      exact ⟨by unfold sz4; rw [if_pos HV.out]; rfl, _, rfl⟩
    · have tv : ((k : Int) == 27) = false := by simp; omega
      have HV := hid hv; clear hv
      go_wp2_with fail; go_meet
      exact ⟨by unfold sz4; rw [if_neg HV.out], _, rfl⟩
  obtain ⟨rfl, nx4, rfl⟩ := hcut
  rw [hz.out]
  have hw3 : wrap64 ((S : Int) + 1) = (S : Int) + 1 := IntWalk.wrap64_in _ (by have := hS.out; omega)
  have tz : ((S : Int) == 0) = false := by have := hS.out; simp; omega
  have ts : decide (l.length < S) = true := by have := hs.out; simp; omega
  go_wp2
  refine bodyPost_ret (v := gotV 0 0 0 false) (by simp [results, Try.results46, go_sem, gotV]) rfl (Ret.mk rfl ?_)
  repeat (first | exact Mod.refl _ _ | apply Mod.drewN | apply Mod.alloc | refine Mod.setCell ?_ (.inr (Nat.le_refl _)) _)

end Go.Proofs.Ytagjhkknefiieaa


namespace Go.Proofs.Ytagjhkknefiieaa
open Go.RowKit
set_option linter.unusedVariables false

theorem rd_i' {j : Nat} (h : j < 1000) : wrap64 ((j : Int) + 1 + 1) = ((j + 1 : Nat) : Int) + 1 := by rw [IntWalk.wrap64_in _ (by omega)]; omega
theorem rd_i {j : Nat} (h : j < 1000) : Value.int .i64 (wrap64 ((j : Int) + 1 + 1)) = .int .i64 (((j + 1 : Nat) : Int) + 1) := by rw [rd_i' h]
theorem slice_to1 (c : UInt8) (l : List UInt8) (j : Nat) (h : j ≤ l.length) (w : World) :
    (Instr.slice 9 (str (c :: l)) none (some (.int .i64 ((j : Int) + 1))) none).run Try.prog w = .ok (str ((c :: l).take (j + 1))) w := by
  have hex : Value.string ((⟨(c :: l).toArray⟩ : ByteArray).extract 0 (j + 1)) = str ((c :: l).take (j + 1)) := by rw [extract_str]; rfl
  have hle : (j : Int) + 1 ≤ (l.length : Int) + 1 := by omega
  have hl0 : (0 : Int) ≤ (j : Int) + 1 := by omega
  generalize hT : (c :: l).take (j + 1) = tk at *
  have HT := hid hT; clear hT
  go_simp
theorem rd_n {c : UInt8} {l : List UInt8} {j q : Nat} (hj : j < l.length) (h8 : j < 8) (hq : fromBE (l.take j) = q) {h : j + 1 < (⟨(c :: l).toArray⟩ : ByteArray).size} :
    Value.int .u64 (IntKind.u64.wrap (IntKind.u64.wrap ((q : Int) * 256) + IntKind.u64.wrap (((⟨(c :: l).toArray⟩ : ByteArray)[j + 1].toNat : Nat) : Int))) = .int .u64 ((fromBE (l.take (j + 1)) : Nat) : Int) := by
  have e : (⟨(c :: l).toArray⟩ : ByteArray)[j + 1] = l[j] := rfl
  rw [e, List.take_succ_eq_append_getElem hj, fromBE_snoc, hq]
  have hlt := fromBE_lt (l.take j)
  have hle : (l.take j).length ≤ 7 := by rw [List.length_take]; omega
  have hp : 2 ^ (8 * (l.take j).length) ≤ 2 ^ (8 * 7) := Nat.pow_le_pow_right (by omega) (by omega)
  have h3 := Nat.lt_of_lt_of_le hlt hp
  rw [hq] at h3
  have hx := l[j].toNat_lt
  rw [IntWalk.u64_in ((q : Int) * 256) (by omega), IntWalk.u64_in ((l[j].toNat : Nat) : Int) (by omega), IntWalk.u64_in _ (by omega)]
  rfl

set_option maxRecDepth 20000 in
set_option maxHeartbeats 400000 in
theorem read_good (c : UInt8) (l : List UInt8) (m k : Nat) (hmm : Hid (c.toNat / 32 = m)) (hkk : Hid (c.toNat % 32 = k)) (S : Nat) (hk : Hid (24 ≤ k ∧ k < 28)) (hz : Hid (sz4 k = S)) (hS : Hid (1 ≤ S ∧ S ≤ 8)) (n : Nat) (hn : Hid (fromBE (l.take S) = n)) (hs : Hid (S ≤ l.length)) (hcmp : Hid (headL m n = (c :: l).take (S + 1))) (w : World) : Calls Try.prog 46 #[str (c :: l)] w (Ret (gotV (S + 1) m n false) w) := by
  have hlen : (0 : Int) < (l.length : Int) + 1 := by omega
  go_enter Try.func46, Try.ntmps46
  go_upto_region 3 with fail
  go_cut [3, 4] (fun s6 s7 wx => s6 = .int .i64 (m : Int) ∧ s7 = .int .i64 (k : Int) ∧ ∃ n, wx = (w.alloc (.cells #[.int .i64 0, .int .i64 0, .int .u64 0, .bool false] 85)).drewN n)
  case first =>
    go_quiet (fail)
    go_wp2_with fail
    go_meet
    exact ⟨first_div' c l _ hmm, first_mod' c l _ hkk, _, rfl⟩
  obtain ⟨rfl, rfl, nw, rfl⟩ := hcut
  have hk32 : Hid (k ≤ 31) := by have := hkk.out; unfold Hid; omega
  have t1 : decide ((k : Int) < 24) = false := by have h1 := hk.out; have h2 := hk32.out; simp; omega
  have te : ((k : Int) == 31) = false := by have h1 := hk.out; simp; omega
  go_upto_region 8 with fail
  go_cut [5] (fun s wx => s = .int .i64 0 ∧ ∃ n, wx = (w.alloc (.cells #[.int .i64 0, .int .i64 0, .int .u64 0, .bool false] 85)).drewN n)
  case first => go_wp2_with fail; go_meet; exact ⟨rfl, _, rfl⟩
  obtain ⟨rfl, nx, rfl⟩ := hcut
  go_step
  go_step
  go_cut [5] (fun s wx => s = .int .i64 ((sz1 k : Nat) : Int) ∧ ∃ n, wx = (w.alloc (.cells #[.int .i64 0, .int .i64 0, .int .u64 0, .bool false] 85)).drewN n)
  case first =>
    by_cases hv : k = 24
    · have tv : ((k : Int) == 24) = true := by simp; omega
      have HV := hid hv; clear hv
      go_wp2_with fail; go_meet
      exact ⟨by unfold sz1; rw [if_pos HV.out]; rfl, _, rfl⟩
    · have tv : ((k : Int) == 24) = false := by simp; omega
      have HV := hid hv; clear hv
      go_wp2_with fail; go_meet
      exact ⟨by unfold sz1; rw [if_neg HV.out]; rfl, _, rfl⟩
  obtain ⟨rfl, nx1, rfl⟩ := hcut
  go_step
  go_step
  go_cut [5] (fun s wx => s = .int .i64 ((sz2 k : Nat) : Int) ∧ ∃ n, wx = (w.alloc (.cells #[.int .i64 0, .int .i64 0, .int .u64 0, .bool false] 85)).drewN n)
  case first =>
    by_cases hv : k = 25
    · have tv : ((k : Int) == 25) = true := by simp; omega
      have HV := hid hv; clear hv
      go_wp2_with fail; go_meet
      exact ⟨by unfold sz2; rw [if_pos HV.out]; rfl, _, rfl⟩
    · have tv : ((k : Int) == 25) = false := by simp; omega
      have HV := hid hv; clear hv
      go_wp2_with fail; go_meet
      exact ⟨by unfold sz2; rw [if_neg HV.out], _, rfl⟩
  obtain ⟨rfl, nx2, rfl⟩ := hcut
  go_step
  go_step
  go_cut [5] (fun s wx => s = .int .i64 ((sz3 k : Nat) : Int) ∧ ∃ n, wx = (w.alloc (.cells #[.int .i64 0, .int .i64 0, .int .u64 0, .bool false] 85)).drewN n)
  case first =>
    by_cases hv : k = 26
    · have tv : ((k : Int) == 26) = true := by simp; omega
      have HV := hid hv; clear hv
      go_wp2_with fail; go_meet
      exact ⟨by unfold sz3; rw [if_pos HV.out]; rfl, _, rfl⟩
    · have tv : ((k : Int) == 26) = false := by simp; omega
      have HV := hid hv; clear hv
      go_wp2_with fail; go_meet
      exact ⟨by unfold sz3; rw [if_neg HV.out], _, rfl⟩
  obtain ⟨rfl, nx3, rfl⟩ := hcut
  go_step
  go_step
  go_cut [5] (fun s wx => s = .int .i64 ((sz4 k : Nat) : Int) ∧ ∃ n, wx = (w.alloc (.cells #[.int .i64 0, .int .i64 0, .int .u64 0, .bool false] 85)).drewN n)
  case first =>
    by_cases hv : k = 27
    · have tv : ((k : Int) == 27) = true := by simp; omega
      have HV := hid hv; clear hv
      go_wp2_with fail; go_meet
      exact ⟨by unfold sz4; rw [if_pos HV.out]; rfl, _, rfl⟩
    · have tv : ((k : Int) == 27) = false := by simp; omega
      have HV := hid hv; clear hv
      go_wp2_with fail; go_meet
      exact ⟨by unfold sz4; rw [if_neg HV.out], _, rfl⟩
  obtain ⟨rfl, nx4, rfl⟩ := hcut
  rw [hz.out]
  have hw3 : wrap64 ((S : Int) + 1) = (S : Int) + 1 := IntWalk.wrap64_in _ (by have := hS.out; omega)
  have tz : ((S : Int) == 0) = false := by have := hS.out; simp; omega
  have ts : decide (l.length < S) = false := by have := hs.out; simp; omega
  go_wp2
  go_loop [6, 7] (fun x i => ∃ j : Nat, j ≤ S ∧ i = .int .i64 ((j : Int) + 1) ∧ x = .int .u64 ((fromBE (l.take j) : Nat) : Int)) (fun _ i => S + 1 - (intOf i).toNat)
  case atStart => exact ⟨0, Nat.zero_le _, rfl, rfl⟩
  case round =>
    obtain ⟨j, hj, rfl, rfl⟩ := hrel
    by_cases hlt : j < S
    · have hjl : j < l.length := by have := hs.out; omega
      generalize hq : fromBE (l.take j) = q
      have HQ := hid hq; clear hq
      have hb1 : (j : Int) + 1 < (l.length : Int) + 1 := by omega
      have hb2 : (0 : Int) ≤ (j : Int) + 1 := by omega
      have tj : decide ((j : Int) + 1 ≤ (S : Int)) = true := by simp; omega
      have HJ := hid hjl
      have HL := hid hlt
      clear hjl hlt hj
      go_wp2
      go_round
      case rel => exact ⟨j + 1, HL.out, rd_i (by have := HJ.out; have := hs.out; have := hS.out; have := HL.out; omega), rd_n HJ.out (by have := HL.out; have := hS.out; omega) HQ.out⟩
      case measure => rw [rd_i' (by have := HL.out; have := hS.out; omega)]; simp [intOf]; have := HL.out; omega
    · obtain rfl : j = S := by omega
      rw [hn.out]
      have hn64 : Hid (n < 18446744073709551616 ∧ m ≤ 7) := by
        have h1 := fromBE_lt (l.take j)
        have h2 : (l.take j).length ≤ 8 := by have := hS.out; rw [List.length_take]; omega
        have h3 : 2 ^ (8 * (l.take j).length) ≤ 2 ^ (8 * 8) := Nat.pow_le_pow_right (by omega) (by omega)
        rw [hn.out] at h1
        have := c.toNat_lt
        have := hmm.out
        exact ⟨Nat.lt_of_lt_of_le h1 h3, by omega⟩
      clear hlt hj
      generalize hW : World.drewN (World.alloc w _) _ = W at *
      have hE : Ext w W := by rw [← hW]; exact ((Mod.refl _ _).alloc _).drewN _
      have hB : Blk W w.heap.size 85 #[.int .i64 0, .int .i64 0, .int .u64 0, .bool false] := by rw [← hW]; exact (Blk.new _ _ _).drewN _
      have HW := hid hW; clear hW
      have hex : Value.string ((⟨(c :: l).toArray⟩ : ByteArray).extract 0 (j + 1)) = str ((c :: l).take (j + 1)) := by rw [extract_str]; rfl
      have hsl := fun wx => slice_to1 c l j (by have := hs.out; omega) wx
      generalize hT : (c :: l).take (j + 1) = tk at *
      have HT := hid hT; clear hT
      have hc1 := hcmp.out
      have hle : (j : Int) + 1 ≤ (l.length : Int) + 1 := by have := hs.out; omega
      have hwi : IntKind.i64.wrap ((j : Int) + 1) = (j : Int) + 1 := IntWalk.i64_in _ (by have := hS.out; omega)
      clear hex hle
      go_upto_region 24 with fail
      go_cut [78] (fun s wx => s = .bool false ∧ Ext W wx)
      case first =>
        go_region_with ((go_at_call 35; refine (rhead_in m n (by omega) (by have := hn64.out; omega) (by omega) (by have := hn64.out; omega) _).mono ?_; rintro x w3 ⟨rfl, hb3⟩; simp only [Int.toNat_natCast]))
        all_goals (go_wp2_with fail; go_meet)
        all_goals exact ⟨rfl, by first | exact (Mod.refl _ _).drew.trans hb3 | exact ((Mod.refl _ _).drew.trans hb3).drew⟩
      obtain ⟨rfl, hb⟩ := hcut
      have hB2 := hB.ext hb
      have g0 : wc.cell? ⟨w.heap.size, 0, none⟩ = some (.int .i64 0) := hB2.cell 0
      have g1 : wc.cell? ⟨w.heap.size, 1, none⟩ = some (.int .i64 0) := hB2.cell 1
      have g2 : wc.cell? ⟨w.heap.size, 2, none⟩ = some (.int .u64 0) := hB2.cell 2
      have g3 : wc.cell? ⟨w.heap.size, 3, none⟩ = some (.bool false) := hB2.cell 3
      have p0 := hB2.frozen 0
      have p1 := hB2.frozen 1
      have p2 := hB2.frozen 2
      have p3 := hB2.frozen 3
      go_wp2
      refine bodyPost_ret (v := gotV (j + 1) m n false) (by simp [results, Try.results46, go_sem, gotV, g0, g1, g2, g3]) rfl (Ret.mk rfl ?_)
      repeat (first | exact hE.trans hb | refine Mod.setCell ?_ (.inr (Nat.le_refl _)) _)

set_option maxRecDepth 20000 in
set_option maxHeartbeats 400000 in
theorem read_long (c : UInt8) (l : List UInt8) (m k : Nat) (hmm : Hid (c.toNat / 32 = m)) (hkk : Hid (c.toNat % 32 = k)) (S : Nat) (hk : Hid (24 ≤ k ∧ k < 28)) (hz : Hid (sz4 k = S)) (hS : Hid (1 ≤ S ∧ S ≤ 8)) (n : Nat) (hn : Hid (fromBE (l.take S) = n)) (hs : Hid (S ≤ l.length)) (hcmp : Hid (headL m n ≠ (c :: l).take (S + 1))) (w : World) : Calls Try.prog 46 #[str (c :: l)] w (Ret (gotV 0 0 0 false) w) := by
  have hlen : (0 : Int) < (l.length : Int) + 1 := by omega
  go_enter Try.func46, Try.ntmps46
  go_upto_region 3 with fail
  go_cut [3, 4] (fun s6 s7 wx => s6 = .int .i64 (m : Int) ∧ s7 = .int .i64 (k : Int) ∧ ∃ n, wx = (w.alloc (.cells #[.int .i64 0, .int .i64 0, .int .u64 0, .bool false] 85)).drewN n)
  case first =>
    go_quiet (fail)
    go_wp2_with fail
    go_meet
    exact ⟨first_div' c l _ hmm, first_mod' c l _ hkk, _, rfl⟩
  obtain ⟨rfl, rfl, nw, rfl⟩ := hcut
  have hk32 : Hid (k ≤ 31) := by have := hkk.out; unfold Hid; omega
  have t1 : decide ((k : Int) < 24) = false := by have h1 := hk.out; have h2 := hk32.out; simp; omega
  have te : ((k : Int) == 31) = false := by have h1 := hk.out; simp; omega
  go_upto_region 8 with fail
  go_cut [5] (fun s wx => s = .int .i64 0 ∧ ∃ n, wx = (w.alloc (.cells #[.int .i64 0, .int .i64 0, .int .u64 0, .bool false] 85)).drewN n)
  case first => go_wp2_with fail; go_meet; exact ⟨rfl, _, rfl⟩
  obtain ⟨rfl, nx, rfl⟩ := hcut
  go_step
  go_step
  go_cut [5] (fun s wx => s = .int .i64 ((sz1 k : Nat) : Int) ∧ ∃ n, wx = (w.alloc (.cells #[.int .i64 0, .int .i64 0, .int .u64 0, .bool false] 85)).drewN n)
  case first =>
    by_cases hv : k = 24
    · have tv : ((k : Int) == 24) = true := by simp; omega
      have HV := hid hv; clear hv
      go_wp2_with fail; go_meet
      exact ⟨by unfold sz1; rw [if_pos HV.out]; rfl, _, rfl⟩
    · have tv : ((k : Int) == 24) = false := by simp; omega
      have HV := hid hv; clear hv
      go_wp2_with fail; go_meet
      exact ⟨by unfold sz1; rw [if_neg HV.out]; rfl, _, rfl⟩
  obtain ⟨rfl, nx1, rfl⟩ := hcut
  go_step
  go_step
  go_cut [5] (fun s wx => s = .int .i64 ((sz2 k : Nat) : Int) ∧ ∃ n, wx = (w.alloc (.cells #[.int .i64 0, .int .i64 0, .int .u64 0, .bool false] 85)).drewN n)
  case first =>
    by_cases hv : k = 25
    · have tv : ((k : Int) == 25) = true := by simp; omega
      have HV := hid hv; clear hv
      go_wp2_with fail; go_meet
      exact ⟨by unfold sz2; rw [if_pos HV.out]; rfl, _, rfl⟩
    · have tv : ((k : Int) == 25) = false := by simp; omega
      have HV := hid hv; clear hv
      go_wp2_with fail; go_meet
      exact ⟨by unfold sz2; rw [if_neg HV.out], _, rfl⟩
  obtain ⟨rfl, nx2, rfl⟩ := hcut
  go_step
  go_step
  go_cut [5] (fun s wx => s = .int .i64 ((sz3 k : Nat) : Int) ∧ ∃ n, wx = (w.alloc (.cells #[.int .i64 0, .int .i64 0, .int .u64 0, .bool false] 85)).drewN n)
  case first =>
    by_cases hv : k = 26
    · have tv : ((k : Int) == 26) = true := by simp; omega
      have HV := hid hv; clear hv
      go_wp2_with fail; go_meet
      exact ⟨by unfold sz3; rw [if_pos HV.out]; rfl, _, rfl⟩
    · have tv : ((k : Int) == 26) = false := by simp; omega
      have HV := hid hv; clear hv
      go_wp2_with fail; go_meet
      exact ⟨by unfold sz3; rw [if_neg HV.out], _, rfl⟩
  obtain ⟨rfl, nx3, rfl⟩ := hcut
  go_step
  go_step
  go_cut [5] (fun s wx => s = .int .i64 ((sz4 k : Nat) : Int) ∧ ∃ n, wx = (w.alloc (.cells #[.int .i64 0, .int .i64 0, .int .u64 0, .bool false] 85)).drewN n)
  case first =>
    by_cases hv : k = 27
    · have tv : ((k : Int) == 27) = true := by simp; omega
      have HV := hid hv; clear hv
      go_wp2_with fail; go_meet
      exact ⟨by unfold sz4; rw [if_pos HV.out]; rfl, _, rfl⟩
    · have tv : ((k : Int) == 27) = false := by simp; omega
      have HV := hid hv; clear hv
      go_wp2_with fail; go_meet
      exact ⟨by unfold sz4; rw [if_neg HV.out], _, rfl⟩
  obtain ⟨rfl, nx4, rfl⟩ := hcut
  rw [hz.out]
  have hw3 : wrap64 ((S : Int) + 1) = (S : Int) + 1 := IntWalk.wrap64_in _ (by have := hS.out; omega)
  have tz : ((S : Int) == 0) = false := by have := hS.out; simp; omega
  have ts : decide (l.length < S) = false := by have := hs.out; simp; omega
  go_wp2
  go_loop [6, 7] (fun x i => ∃ j : Nat, j ≤ S ∧ i = .int .i64 ((j : Int) + 1) ∧ x = .int .u64 ((fromBE (l.take j) : Nat) : Int)) (fun _ i => S + 1 - (intOf i).toNat)
  case atStart => exact ⟨0, Nat.zero_le _, rfl, rfl⟩
  case round =>
    obtain ⟨j, hj, rfl, rfl⟩ := hrel
    by_cases hlt : j < S
    · have hjl : j < l.length := by have := hs.out; omega
      generalize hq : fromBE (l.take j) = q
      have HQ := hid hq; clear hq
      have hb1 : (j : Int) + 1 < (l.length : Int) + 1 := by omega
      have hb2 : (0 : Int) ≤ (j : Int) + 1 := by omega
      have tj : decide ((j : Int) + 1 ≤ (S : Int)) = true := by simp; omega
      have HJ := hid hjl
      have HL := hid hlt
      clear hjl hlt hj
      go_wp2
      go_round
      case rel => exact ⟨j + 1, HL.out, rd_i (by have := HJ.out; have := hs.out; have := hS.out; have := HL.out; omega), rd_n HJ.out (by have := HL.out; have := hS.out; omega) HQ.out⟩
      case measure => rw [rd_i' (by have := HL.out; have := hS.out; omega)]; simp [intOf]; have := HL.out; omega
    · obtain rfl : j = S := by omega
      rw [hn.out]
      have hn64 : Hid (n < 18446744073709551616 ∧ m ≤ 7) := by
        have h1 := fromBE_lt (l.take j)
        have h2 : (l.take j).length ≤ 8 := by have := hS.out; rw [List.length_take]; omega
        have h3 : 2 ^ (8 * (l.take j).length) ≤ 2 ^ (8 * 8) := Nat.pow_le_pow_right (by omega) (by omega)
        rw [hn.out] at h1
        have := c.toNat_lt
        have := hmm.out
        exact ⟨Nat.lt_of_lt_of_le h1 h3, by omega⟩
      clear hlt hj
      generalize hW : World.drewN (World.alloc w _) _ = W at *
      have hE : Ext w W := by rw [← hW]; exact ((Mod.refl _ _).alloc _).drewN _
      have hB : Blk W w.heap.size 85 #[.int .i64 0, .int .i64 0, .int .u64 0, .bool false] := by rw [← hW]; exact (Blk.new _ _ _).drewN _
      have HW := hid hW; clear hW
      have hex : Value.string ((⟨(c :: l).toArray⟩ : ByteArray).extract 0 (j + 1)) = str ((c :: l).take (j + 1)) := by rw [extract_str]; rfl
      have hsl := fun wx => slice_to1 c l j (by have := hs.out; omega) wx
      generalize hT : (c :: l).take (j + 1) = tk at *
      have HT := hid hT; clear hT
      have hc1 := hcmp.out
      have hc2 : (headL m n == tk) = false := by simp [hc1]
      have hle : (j : Int) + 1 ≤ (l.length : Int) + 1 := by have := hs.out; omega
      have hwi : IntKind.i64.wrap ((j : Int) + 1) = (j : Int) + 1 := IntWalk.i64_in _ (by have := hS.out; omega)
      clear hex hle
      go_upto_region 24 with fail
      go_cut [78] (fun s wx => s = .bool true ∧ Ext W wx)
      case first =>
        go_region_with ((go_at_call 35; refine (rhead_in m n (by omega) (by have := hn64.out; omega) (by omega) (by have := hn64.out; omega) _).mono ?_; rintro x w3 ⟨rfl, hb3⟩; simp only [Int.toNat_natCast]))
        all_goals (go_wp2_with fail; go_meet)
        all_goals exact ⟨rfl, by first | exact (Mod.refl _ _).drew.trans hb3 | exact ((Mod.refl _ _).drew.trans hb3).drew⟩
      obtain ⟨rfl, hb⟩ := hcut
      have hB2 := hB.ext hb
      have g0 : wc.cell? ⟨w.heap.size, 0, none⟩ = some (.int .i64 0) := hB2.cell 0
      have g1 : wc.cell? ⟨w.heap.size, 1, none⟩ = some (.int .i64 0) := hB2.cell 1
      have g2 : wc.cell? ⟨w.heap.size, 2, none⟩ = some (.int .u64 0) := hB2.cell 2
      have g3 : wc.cell? ⟨w.heap.size, 3, none⟩ = some (.bool false) := hB2.cell 3
      have p0 := hB2.frozen 0
      have p1 := hB2.frozen 1
      have p2 := hB2.frozen 2
      have p3 := hB2.frozen 3
      go_wp2
      refine bodyPost_ret (v := gotV 0 0 0 false) (by simp [results, Try.results46, go_sem, gotV, g0, g1, g2, g3]) rfl (Ret.mk rfl ?_)
      repeat (first | exact hE.trans hb | refine Mod.setCell ?_ (.inr (Nat.le_refl _)) _)

end Go.Proofs.Ytagjhkknefiieaa


namespace Go.Proofs.Ytagjhkknefiieaa
open Go.RowKit
set_option linter.unusedVariables false

theorem read_of {l : List UInt8} {x : Option (Nat × Nat × Nat × Bool)} {w : World} (h : readH l = x) (hc : Calls Try.prog 46 #[str l] w (Ret (gotOf x) w)) :
    Calls Try.prog 46 #[str l] w (Ret (gotOf (readH l)) w) := by rw [h]; exact hc
theorem sz4_val {k : Nat} (h : 24 ≤ k) (h2 : k < 28) : sz4 k = 2 ^ (k - 24) := by
  have : k = 24 ∨ k = 25 ∨ k = 26 ∨ k = 27 := by omega
  rcases this with rfl | rfl | rfl | rfl <;> decide
theorem sz4_none {k : Nat} (h : 28 ≤ k) : sz4 k = 0 := by
  unfold sz4 sz3 sz2 sz1
  rw [if_neg (by omega), if_neg (by omega), if_neg (by omega), if_neg (by omega)]
theorem pow_sz {k : Nat} (h : 24 ≤ k) (h2 : k < 28) : 1 ≤ 2 ^ (k - 24) ∧ 2 ^ (k - 24) ≤ 8 := by
  have : k = 24 ∨ k = 25 ∨ k = 26 ∨ k = 27 := by omega
  rcases this with rfl | rfl | rfl | rfl <;> decide
theorem canon_iff {c : UInt8} {l : List UInt8} {k : Nat} (hk : c.toNat % 32 = k) (h : 24 ≤ k) (h2 : k < 28) (hl : 2 ^ (k - 24) ≤ l.length) :
    headL (c.toNat / 32) (fromBE (l.take (2 ^ (k - 24)))) = (c :: l).take (2 ^ (k - 24) + 1) ↔ (headL (c.toNat / 32) (fromBE (l.take (2 ^ (k - 24))))).length = 1 + 2 ^ (k - 24) := by
  obtain ⟨j, rfl⟩ : ∃ j, k = 24 + j := ⟨k - 24, by omega⟩
  rw [Nat.add_sub_cancel_left] at *
  have hlen : (l.take (2 ^ j)).length = 2 ^ j := by rw [List.length_take]; omega
  constructor
  · intro e; rw [e, List.length_take, List.length_cons]; omega
  · intro e
    have hlt := fromBE_lt (l.take (2 ^ j))
    rw [hlen] at hlt
    rw [headL_of_length (by omega) hlt e, List.take_succ_cons]
    have hb := be_fromBE (l.take (2 ^ j))
    rw [hlen] at hb
    rw [hb, show 32 * (c.toNat / 32) + 24 + j = c.toNat from by omega, b8_toNat]

theorem read_any (l : List UInt8) (w : World) : Calls Try.prog 46 #[str l] w (Ret (gotOf (readH l)) w) := by
  cases l with
  | nil => exact read_of (x := none) rfl (read_nil w)
  | cons c l =>
    have hc := c.toNat_lt
    by_cases h1 : c.toNat % 32 < 24
    · exact read_of (x := some (_, _, _, _)) (by unfold readH; dsimp only; rw [if_pos h1]) (read_small c l _ _ rfl rfl h1 w)
    by_cases h2 : c.toNat % 32 = 31 ∧ opensB ((c.toNat / 32 : Nat) : Int) = true
    · exact read_of (x := some (_, _, _, _)) (by unfold readH; dsimp only; rw [if_neg h1, if_pos h2]) (read_open c l _ _ rfl rfl h2.1 h2.2 w)
    by_cases h3 : 28 ≤ c.toNat % 32
    · exact read_of (x := none) (by unfold readH; dsimp only; rw [if_neg h1, if_neg h2, if_pos h3]) (read_none c l _ _ rfl rfl (by unfold Hid; omega) h2 (sz4_none h3) w)
    have h24 : 24 ≤ c.toNat % 32 := by omega
    have h28 : c.toNat % 32 < 28 := by omega
    by_cases h4 : l.length < 2 ^ (c.toNat % 32 - 24)
    · exact read_of (x := none) (by unfold readH; dsimp only; rw [if_neg h1, if_neg h2, if_neg h3, if_pos h4]) (read_short c l _ _ rfl rfl _ ⟨h24, h28⟩ (sz4_val h24 h28) (pow_sz h24 h28) h4 w)
    have h4' := Nat.le_of_not_lt h4
    by_cases h5 : (headL (c.toNat / 32) (fromBE (l.take (2 ^ (c.toNat % 32 - 24))))).length = 1 + 2 ^ (c.toNat % 32 - 24)
    · exact read_of (x := some (_, _, _, _)) (by unfold readH; dsimp only; rw [if_neg h1, if_neg h2, if_neg h3, if_neg h4, if_pos h5, Nat.add_comm 1])
        (read_good c l _ _ rfl rfl _ ⟨h24, h28⟩ (sz4_val h24 h28) (pow_sz h24 h28) _ rfl h4' ((canon_iff rfl h24 h28 h4').2 h5) w)
    · exact read_of (x := none) (by unfold readH; dsimp only; rw [if_neg h1, if_neg h2, if_neg h3, if_neg h4, if_neg h5])
        (read_long c l _ _ rfl rfl _ ⟨h24, h28⟩ (sz4_val h24 h28) (pow_sz h24 h28) _ rfl h4' (fun e => h5 ((canon_iff rfl h24 h28 h4').1 e)) w)

/-- The reference's reader, as a value; what a call told, as a value. -/
def rrV (r : RS) : Value := .agg #[str r.s, .int .i64 (r.at_ : Int), .int .i64 r.bad, .int .i64 r.e]
def toldV (major n : Nat) (open_ : Bool) (s : List UInt8) (k : Int) : Value := .agg #[.int .i64 (major : Int), .int .u64 (n : Int), .bool open_, str s, .int .i64 k]
end Go.Proofs.Ytagjhkknefiieaa


namespace Go.Proofs.Ytagjhkknefiieaa
set_option linter.unusedVariables false

/-- An array's items from e on, the number of those that may still come being j of a thousand. -/
def floop (f : List UInt8 → Nat × Int) (l : List UInt8) (o : Bool) (n : Nat) : Nat → Nat → Nat × Int
  | 0, e => if o = false ∧ n ≤ 1000 then (e, 0) else if o = true ∧ l[e]? = some 255 then (e + 1, 0) else (e, 4)
  | j + 1, e => if o = false ∧ n ≤ 1000 - (j + 1) then (e, 0) else if o = true ∧ l[e]? = some 255 then (e + 1, 0) else
      if (f (l.drop e)).2 = 0 then floop f l o n j (e + (f (l.drop e)).1) else (e + (f (l.drop e)).1, (f (l.drop e)).2)
/-- No item's kind. -/
def noK (m : Nat) : Bool := m != 0 && m != 2 && m != 3 && m != 4
/-- Place and error. -/
def flt : Nat → List UInt8 → Nat × Int
  | 0, l => match readH l with
    | none => (0, 2)
    | some (sz, m, n, o) => if noK m = true then (0, 2) else (0, 3)
  | d + 1, l => match readH l with
    | none => (0, 2)
    | some (sz, m, n, o) => if noK m = true then (0, 2) else if m = 0 then (sz, 0) else
        if m < 4 then (if o = true ∨ l.length - sz < n then (0, 2) else (sz + n, 0)) else
        if o = false ∧ 1000 < n then (0, 4) else floop (flt d) l o n 1000 sz

theorem floop_le {f : List UInt8 → Nat × Int} (hf : ∀ l, (f l).1 ≤ l.length) (l : List UInt8) (o : Bool) (n : Nat) : ∀ j e, e ≤ l.length → (floop f l o n j e).1 ≤ l.length := by
  intro j
  induction j with
  | zero =>
    intro e he
    unfold floop
    split
    · exact he
    · split
      · rename_i h; exact (List.getElem?_eq_some_iff.1 h.2).1
      · exact he
  | succ j ih =>
    intro e he
    have h1 := hf (l.drop e)
    rw [List.length_drop] at h1
    unfold floop
    split
    · exact he
    · split
      · rename_i h; exact (List.getElem?_eq_some_iff.1 h.2).1
      · split
        · exact ih _ (by omega)
        · show e + (f (l.drop e)).1 ≤ l.length; omega
theorem flt_le (d : Nat) : ∀ l, (flt d l).1 ≤ l.length := by
  induction d with
  | zero =>
    intro l
    unfold flt
    split
    · exact Nat.zero_le _
    · split <;> exact Nat.zero_le _
  | succ d ih =>
    intro l
    unfold flt
    split
    · exact Nat.zero_le _
    · rename_i sz m n o hr
      have h1 := (readH_some hr).le
      split
      · exact Nat.zero_le _
      · split
        · exact h1
        · split
          · split
            · exact Nat.zero_le _
            · show sz + n ≤ l.length; rename_i h; simp only [not_or, Nat.not_lt] at h; omega
          · split
            · exact Nat.zero_le _
            · exact floop_le ih l o n 1000 sz h1

theorem cat_split (f : Nat → List UInt8) {i k : Nat} (h : i ≤ k) : ∃ r, T.cat f k = T.cat f i ++ r := by
  induction k with
  | zero => obtain rfl : i = 0 := by omega
            exact ⟨[], by simp⟩
  | succ k ih =>
    by_cases e : i = k + 1
    · subst e; exact ⟨[], by simp⟩
    · obtain ⟨r, hr⟩ := ih (by omega)
      exact ⟨r ++ f k, by rw [T.cat, hr, List.append_assoc]⟩
theorem pre_split (kind : Int) (s : List UInt8) (op : Bool) (kk : Nat) (ch : Nat → T) {i k : Nat} (h : i ≤ k) : ∃ r, pre kind s op kk ch k = pre kind s op kk ch i ++ r := by
  obtain ⟨r, hr⟩ := cat_split (fun i => (ch i).bytes) h
  exact ⟨r, by unfold pre; rw [hr, List.append_assoc]⟩
theorem get_255 {l : List UInt8} {e : Nat} : l[e]? = some 255 ↔ ∃ v, l.drop e = 255 :: v := by
  rw [← List.head?_drop]
  cases l.drop e with
  | nil => simp
  | cons x v => simp

theorem readH_255 {t : List UInt8} {sz m n : Nat} {o : Bool} (h : readH t = some (sz, m, n, o)) : (m = 7 ∧ o = true) ↔ ∃ v, t = 255 :: v := by
  constructor
  · rintro ⟨rfl, rfl⟩
    unfold readH at h
    match t, h with
    | c :: r, h =>
      have hc := c.toNat_lt
      dsimp only at h
      split at h
      · simp at h
      · split at h
        · rename_i h1
          simp only [Option.some.injEq, Prod.mk.injEq] at h
          have e : c.toNat = 255 := by omega
          refine ⟨r, ?_⟩
          rw [← b8_toNat c, e]; rfl
        · split at h
          · cases h
          · split at h
            · cases h
            · split at h
              · simp at h
              · cases h
  · rintro ⟨v, rfl⟩
    rw [T.readH_break] at h
    simp only [Option.some.injEq, Prod.mk.injEq] at h
    exact ⟨h.2.1.symm, h.2.2.2.symm⟩

theorem flt_bytes (t : T) : ∀ d, t.right d = true → t.ok → ∀ x, flt d (t.bytes ++ x) = (t.bytes.length, 0) := by
  induction t with
  | nil => intro d h hok; cases hok
  | mk kind n s op k ch ih =>
    intro d h hok x
    have hp : (T.mk kind n s op k ch).plain = true := by rw [T.right_eq] at h; simp at h; exact h.2
    have hr := T.readH_bytes _ hp hok x
    cases d with
    | zero => unfold T.right at h; simp at h
    | succ d =>
      unfold T.right at h
      rw [if_neg (by omega), Bool.and_eq_true, T.all_iff] at h
      obtain ⟨h1, h2⟩ := h
      simp only [Nat.add_sub_cancel] at h2
      have hkd := T.node_kind h1
      unfold T.ok at hok
      unfold flt
      rw [hr]
      unfold T.plain at hp
      rw [Bool.and_eq_true, T.all_iff] at hp
      rcases hkd with rfl | rfl | rfl | rfl
      · simp only [T.hd, if_true]
        unfold T.node at h1
        simp at h1
        obtain ⟨⟨rfl, rfl⟩, rfl⟩ := h1
        simp [noK, T.bytes]
      · unfold T.node at h1
        simp at h1
        obtain ⟨⟨rfl, rfl⟩, rfl⟩ := h1
        simp [T.hd, noK, T.bytes]
      · unfold T.node at h1
        simp at h1
        obtain ⟨⟨rfl, rfl⟩, rfl⟩ := h1
        simp [T.hd, noK, T.bytes]
      · unfold T.node at h1
        simp at h1
        obtain ⟨⟨rfl, rfl⟩, hk⟩ := h1
        rw [pre_end]
        have key : ∀ m i, i + m = k → floop (flt d) (pre 4 [] op k ch k ++ (if op then [255] else []) ++ x) op (if op then 0 else k) (1000 - i) (pre 4 [] op k ch i).length = ((pre 4 [] op k ch k ++ (if op then [255] else [])).length, 0) := by
          intro m
          induction m with
          | zero =>
            intro i hi
            obtain rfl : i = k := by omega
            cases op
            · simp only [Bool.false_eq_true, if_false, List.append_nil]
              cases hj : 1000 - i with
              | zero => unfold floop; rw [if_pos ⟨rfl, by omega⟩]
              | succ j => unfold floop; rw [if_pos ⟨rfl, by omega⟩]
            · simp only [if_true]
              have h255 : (pre 4 [] true i ch i ++ [255] ++ x)[(pre 4 [] true i ch i).length]? = some 255 := get_255.2 ⟨x, by rw [List.append_assoc, List.drop_left]; rfl⟩
              cases hj : 1000 - i with
              | zero => unfold floop; rw [if_neg (by simp), if_pos ⟨rfl, h255⟩, List.length_append]; rfl
              | succ j => unfold floop; rw [if_neg (by simp), if_pos ⟨rfl, h255⟩, List.length_append]; rfl
          | succ m ihm =>
            intro i hi
            have hik : i < k := by omega
            have e1 : 1000 - i = (1000 - (i + 1)) + 1 := by omega
            obtain ⟨r, hr⟩ := pre_split 4 [] op k ch (show i + 1 ≤ k by omega)
            have hd : (pre 4 [] op k ch k ++ (if op then [255] else []) ++ x).drop (pre 4 [] op k ch i).length = (ch i).bytes ++ (r ++ ((if op then [255] else []) ++ x)) := by
              rw [hr, pre_succ, List.append_assoc, List.append_assoc, List.append_assoc, List.drop_left]
            have hc := ih i d (h2 i hik) (hok.2.2.2.2 i hik) (r ++ ((if op then [255] else []) ++ x))
            rw [e1]
            unfold floop
            rw [if_neg (by intro h; obtain ⟨h3, h4⟩ := h; subst h3; simp at h4; omega), if_neg (by
              rintro ⟨_, h4⟩
              obtain ⟨v, hv⟩ := get_255.1 h4
              rw [hd] at hv
              exact T.bytes_not_break (ch i) (hp.2 i hik) (hok.2.2.2.2 i hik) _ _ hv), hd, hc, if_pos rfl]
            have := ihm (i + 1) (by omega)
            rw [pre_succ, List.length_append] at this
            exact this
        have h0 := key k 0 (by omega)
        cases op
        · have e : (pre 4 [] false k ch 0).length = (headL 4 k).length := by simp [pre, T.cat]
          rw [e] at h0
          have eh : (T.mk 4 0 [] false k ch).hd = ((headL 4 k).length, 4, k, false) := rfl
          rw [eh]
          dsimp only
          rw [if_neg (by decide), if_neg (by decide), if_neg (by decide), if_neg (by rintro ⟨_, h⟩; omega)]
          exact h0
        · have eh : (T.mk 4 0 [] true k ch).hd = (1, 4, 0, true) := rfl
          rw [eh]
          dsimp only
          rw [if_neg (by decide), if_neg (by decide), if_neg (by decide), if_neg (by rintro ⟨h, _⟩; cases h)]
          exact h0
end Go.Proofs.Ytagjhkknefiieaa
