/-
  Items: the code's Build and Same.
  Items: a number, bytes, an array, made.
  An item's block: its five cells, stored anew.
  A row of items of the call's own: its form, in a later world; what is appended to it.
  slices.Clone of items.
  The code's sums: divide, X25, Castagnoli, Size, Sum.
  The code's sums' bytes.
  strings.Repeat: the library's contract, at this program.
  The plain law of a reader: its state, and what each call makes of it. No program in sight.
  The walks of package cbor's reading functions: join, fail.
  The walks of (*Reader).head, a case at a time.
  The walks of the reader's calls: each returns what the plain reader returns, and leaves the reader as the plain one.
  How an item is parsed, plainly: how far it goes, or where it is wrong, and why.
  The parser of items: its small methods.
  An array's items, gathered: the row grows in place or anew; what a round of the parser's loop keeps.
-/
import Derived.Test.YtkeabdfgacicaaaMScopeAparta
import Derived.Laws.OwnMore
import Derived.OwnWalk
import Derived.OneCell
import Derived.Lib.SliceRun
import Derived.Laws.BitsAllLaws
import Derived.Shelf.Strings.Repeat
import Derived.Lib.Strings

namespace Go.Proofs.Ytkeabdfgacicaaa
open Go.RowKit
set_option linter.unusedVariables false
set_option linter.unusedSimpArgs false

theorem Blk.new' (w : World) (t : TypeId) (cs : Array Value) {N : Nat} (h : w.heap.size = N) : Blk (w.alloc (.cells cs t)) N t cs := by subst h; exact Blk.new _ _ _
theorem openL4 : openL 4 = [159] := by decide
theorem openL7 : openL 7 = [255] := by decide

set_option maxRecDepth 20000 in
set_option maxHeartbeats 3200000 in
theorem build_any (t : T) : t.ok → t.plain = true → t.size ≤ 100000 → ∀ A c w, IsL w (fun _ => True) t A →
    Calls Try.prog 70 #[itemV t A c] w (Ret (str t.bytes) w) := by
  induction t with
  | nil => intro hok; cases hok
  | mk kind n s op k ch ih =>
    intro hok hpl hsz A c w h
    have H := hid h; have HO := hid hok; have HPL := hid hpl; have HSZ := hid hsz
    have HI := hid ih
    have hk : Hid (k < 4611686018427387904) := by unfold T.ok at hok; exact hok.2.2.2.1
    have hn64 : Hid (n < 18446744073709551616) := by unfold T.ok at hok; exact hok.2.1
    have hs64 : Hid (s.length < 4611686018427387904) := by unfold T.ok at hok; exact hok.2.2.1
    have hkd : kind = 0 ∨ kind = 2 ∨ kind = 3 ∨ kind = 4 := by unfold T.plain at hpl; rw [Bool.and_eq_true] at hpl; exact T.node_kind hpl.1
    have hpc : Hid (∀ i, i < k → (ch i).plain = true) := by unfold T.plain at hpl; rw [Bool.and_eq_true, T.all_iff] at hpl; exact hpl.2
    have hBy : (T.mk kind n s op k ch).bytes = if kind = 0 then headL 0 n else if kind < 4 then headL kind.toNat s.length ++ s else (if op then [159] else headL 4 k) ++ (T.cat (fun i => (ch i).bytes) k ++ (if op then [255] else [])) := rfl
    have HBy := hid hBy
    show Calls Try.prog 70 #[.agg #[.int .i64 kind, .int .u64 (n : Int), str s, .slice A k c, .bool op]] w (Ret (str (T.mk kind n s op k ch).bytes) w)
    have HB : Hid (Blk (w.alloc (.cells #[.int .i64 kind, .int .u64 (n : Int), str s, .slice A k c, .bool op] 48)) w.heap.size 48 #[.int .i64 kind, .int .u64 (n : Int), str s, .slice A k c, .bool op]) := Blk.new _ _ _
    have HE0 := hid ((Mod.refl [] w).alloc (.cells #[.int .i64 kind, .int .u64 (n : Int), str s, .slice A k c, .bool op] 48))
    clear h hok hpl hsz ih hBy
    rcases hkd with rfl | rfl | rfl | rfl
    · rw [HBy.out, if_pos rfl]
      go_enter Try.func70, Try.ntmps70
      go_wp2_with fail
      refine (head_in 0 n (by omega) (by omega) (by omega) (by have := hn64.out; omega) _).mono ?_
      rintro e w2 ⟨rfl, hb2⟩
      go_wp2_with fail
      go_ret
      exact Ret.mk rfl (HE0.out.trans hb2)
    · rw [HBy.out, if_neg (by omega), if_pos (by omega)]
      go_enter Try.func70, Try.ntmps70
      go_wp2_with fail
      refine (wBytes_any s hs64 _).mono ?_
      rintro e w2 ⟨rfl, hb2⟩
      go_wp2_with fail
      go_ret
      exact Ret.mk rfl (HE0.out.trans hb2)
    · rw [HBy.out, if_neg (by omega), if_pos (by omega)]
      go_enter Try.func70, Try.ntmps70
      go_wp2_with fail
      refine (wText_any s hs64 _).mono ?_
      rintro e w2 ⟨rfl, hb2⟩
      go_wp2_with fail
      go_ret
      exact Ret.mk rfl (HE0.out.trans hb2)
    · clear HBy
      have K0 : (0 : Int) ≤ (k : Int) := by omega
      have K1 : (k : Int) < 9223372036854775808 := by have := hk.out; omega
      cases op
      · go_enter Try.func70, Try.ntmps70
        go_wp2_with fail
        refine (head_in 4 (k : Int) (by omega) (by omega) (by omega) (by have := hk.out; omega) _).mono ?_
        rintro e w2 ⟨rfl, hb2⟩
        rw [Int.toNat_natCast]
        have HE2 := hid (HE0.out.trans hb2)
        have HB2 := hid (HB.out.ext hb2)
        have c4 : w2.cell? ⟨w.heap.size, 4, none⟩ = some (.bool false) := HB2.out.cell 4
        have c3 : w2.cell? ⟨w.heap.size, 3, none⟩ = some (.slice A k c) := HB2.out.cell 3
        clear hb2 K1
        go_wp2_with fail
        clear c4 c3
        go_loopw [3, 36] (fun s3 s36 wr => ∃ i : Nat, i ≤ k ∧ s36 = .int .i64 (i : Int) ∧ s3 = str (pre 4 s false k ch i) ∧ Hid (Ext w wr)) (fun _ i _ => k - (intOf i).toNat)
        case atStart => exact ⟨0, Nat.zero_le _, rfl, by simp [pre, T.cat], HE2.out⟩
        case round =>
          obtain ⟨i, hi, rfl, rfl, hH⟩ := hrel
          have i0 : (0 : Int) ≤ (i : Int) := by omega
          have HP := hid (pre_le (op := false) hi HSZ.out)
          by_cases hlt : i < k
          · obtain ⟨b, o, Ai, ci, rfl, hb, ⟨k0, k1, k2, k3, k4⟩, hL⟩ := H.out.cells hH.out hlt
            have i1 : (i : Int) < (k : Int) := by omega
            have ti : decide (i < k) = true := by simp [hlt]
            have HL := hid hL; have HLT := hid hlt
            have HOi : Hid (ch i).ok := by have := HO.out; unfold T.ok at this; exact this.2.2.2.2 i hlt
            have HZi : Hid ((ch i).size ≤ 100000) := Nat.le_trans (T.size_ch hlt) HSZ.out
            have HPS := hid (pre_succ 4 s false k ch i)
            have hno : (9223372036854775807 < (pre 4 s false k ch i).length + (ch i).bytes.length) = False := by
              have h1 := pre_le (op := false) (show i + 1 ≤ k by omega) HSZ.out
              rw [HPS.out, List.length_append] at h1
              simp; omega
            have hk2 : (k : Int) < 4611686018427387904 := by have := hk.out; omega
            have HEa := hid ((Mod.refl [] wr).alloc (.cells (itemC (ch i) Ai ci) 48))
            clear hL hlt
            go_wp2_with fail
            refine (HI.out i HOi.out (hpc.out i HLT.out) HZi.out Ai ci _ (HL.out.ext HEa.out)).mono ?_
            rintro e w3 ⟨rfl, hb3⟩
            have HE3 := hid ((hH.out.trans HEa.out).trans hb3)
            clear hb3
            go_wp2_with fail
            have hlt := HLT.out
            refine ⟨⟨i + 1, by omega, by simp, by rw [HPS.out]; exact str_app _ _, (show Hid _ from HE3.out)⟩, ?_⟩
            simp only [intOf]; omega
          · obtain rfl : i = k := by omega
            have ti : decide (i < i) = false := by simp
            have HPE := hid (pre_end (n := n) (s := s) (op := false) (k := i) (ch := ch))
            have hno : (9223372036854775807 < (pre 4 s false i ch i).length) = False := by have := HP.out; simp; omega
            go_wp2_with fail
            go_ret
            exact Ret.mk (by rw [HPE.out]; exact str_app _ []) hH.out
      · go_enter Try.func70, Try.ntmps70
        go_wp2_with fail
        refine (head_in 4 (k : Int) (by omega) (by omega) (by omega) (by have := hk.out; omega) _).mono ?_
        rintro e w2 ⟨rfl, hb2⟩
        rw [Int.toNat_natCast]
        have HE2 := hid (HE0.out.trans hb2)
        have HB2 := hid (HB.out.ext hb2)
        have c4 : w2.cell? ⟨w.heap.size, 4, none⟩ = some (.bool true) := HB2.out.cell 4
        have c3 : w2.cell? ⟨w.heap.size, 3, none⟩ = some (.slice A k c) := HB2.out.cell 3
        clear hb2 K1
        go_wp2_with fail
        refine (open_any 4 _).mono ?_
        rintro e w3 ⟨rfl, hb3⟩
        rw [openL4]
        go_wp2_with fail
        refine (open_any 7 _).mono ?_
        rintro e w4 ⟨rfl, hb4⟩
        rw [openL7]
        have HE4 := hid ((HE2.out.trans hb3).trans hb4)
        have HB4 := hid ((HB2.out.ext hb3).ext hb4)
        clear hb3 hb4 c3 c4 HE2 HB2
        have HE2 := HE4
        have c3 : w4.cell? ⟨w.heap.size, 3, none⟩ = some (.slice A k c) := HB4.out.cell 3
        have c4 : w4.cell? ⟨w.heap.size, 4, none⟩ = some (.bool true) := HB4.out.cell 4
        go_wp2_with fail
        clear c4 c3
        go_loopw [3, 36] (fun s3 s36 wr => ∃ i : Nat, i ≤ k ∧ s36 = .int .i64 (i : Int) ∧ s3 = str (pre 4 s true k ch i) ∧ Hid (Ext w wr)) (fun _ i _ => k - (intOf i).toNat)
        case atStart => exact ⟨0, Nat.zero_le _, rfl, by simp [pre, T.cat], HE2.out⟩
        case round =>
          obtain ⟨i, hi, rfl, rfl, hH⟩ := hrel
          have i0 : (0 : Int) ≤ (i : Int) := by omega
          have HP := hid (pre_le (op := true) hi HSZ.out)
          by_cases hlt : i < k
          · obtain ⟨b, o, Ai, ci, rfl, hb, ⟨k0, k1, k2, k3, k4⟩, hL⟩ := H.out.cells hH.out hlt
            have i1 : (i : Int) < (k : Int) := by omega
            have ti : decide (i < k) = true := by simp [hlt]
            have HL := hid hL; have HLT := hid hlt
            have HOi : Hid (ch i).ok := by have := HO.out; unfold T.ok at this; exact this.2.2.2.2 i hlt
            have HZi : Hid ((ch i).size ≤ 100000) := Nat.le_trans (T.size_ch hlt) HSZ.out
            have HPS := hid (pre_succ 4 s true k ch i)
            have hno : (9223372036854775807 < (pre 4 s true k ch i).length + (ch i).bytes.length) = False := by
              have h1 := pre_le (op := true) (show i + 1 ≤ k by omega) HSZ.out
              rw [HPS.out, List.length_append] at h1
              simp; omega
            have hk2 : (k : Int) < 4611686018427387904 := by have := hk.out; omega
            have HEa := hid ((Mod.refl [] wr).alloc (.cells (itemC (ch i) Ai ci) 48))
            clear hL hlt
            go_wp2_with fail
            refine (HI.out i HOi.out (hpc.out i HLT.out) HZi.out Ai ci _ (HL.out.ext HEa.out)).mono ?_
            rintro e w3 ⟨rfl, hb3⟩
            have HE3 := hid ((hH.out.trans HEa.out).trans hb3)
            clear hb3
            go_wp2_with fail
            have hlt := HLT.out
            refine ⟨⟨i + 1, by omega, by simp, by rw [HPS.out]; exact str_app _ _, (show Hid _ from HE3.out)⟩, ?_⟩
            simp only [intOf]; omega
          · obtain rfl : i = k := by omega
            have ti : decide (i < i) = false := by simp
            have HPE := hid (pre_end (n := n) (s := s) (op := true) (k := i) (ch := ch))
            have hno : (9223372036854775807 < (pre 4 s true i ch i).length + 1) = False := by have := HP.out; simp; omega
            go_wp2_with fail
            go_ret
            exact Ret.mk (by rw [HPE.out]; exact str_app _ [255]) hH.out

/-- What Build hands back. -/
def buildV (t : T) : Value := if t.right 8 then .tuple #[str t.bytes, .int .i64 0] else .tuple #[str [], .int .i64 1]
set_option maxRecDepth 20000 in
set_option maxHeartbeats 1600000 in
theorem iBuild_any (t : T) (hok : t.ok) (hsz : t.size ≤ 100000) (A : Option Addr) (c : Nat) (w : World) (h : IsL w (fun _ => True) t A) :
    Calls Try.prog 40 #[itemV t A c] w (Ret (buildV t) w) := by
  have H := hid h; have HO := hid hok; have HS := hid hsz
  have HB : Hid (Blk (w.alloc (.cells (itemC t A c) 48)) w.heap.size 48 (itemC t A c)) := Blk.new _ _ _
  have HE0 := hid ((Mod.refl [] w).alloc (.cells (itemC t A c) 48))
  have HPL : Hid (t.right 8 = true → t.plain = true) := fun h => by rw [T.right_eq] at h; simp at h; exact h.2
  clear h hok hsz
  go_enter Try.func40, Try.ntmps40
  go_wp2_with fail
  refine (iRight_any t HO.out A c _ (H.out.ext HE0.out)).mono ?_
  rintro e w2 ⟨rfl, hb2⟩
  have HE2 := hid (HE0.out.trans hb2)
  have hB2 := HB.out.ext hb2
  have c0 : w2.cell? ⟨w.heap.size, 0, none⟩ = some (.int .i64 t.kind) := hB2.cell 0
  have c1 : w2.cell? ⟨w.heap.size, 1, none⟩ = some (.int .u64 (t.n : Int)) := hB2.cell 1
  have c2 : w2.cell? ⟨w.heap.size, 2, none⟩ = some (str t.s) := hB2.cell 2
  have c3 : w2.cell? ⟨w.heap.size, 3, none⟩ = some (.slice A t.k c) := hB2.cell 3
  have c4 : w2.cell? ⟨w.heap.size, 4, none⟩ = some (.bool t.op) := hB2.cell 4
  clear hb2 hB2
  cases hr : t.right 8
  · have HR := hid hr
    clear hr
    go_wp2_with fail
    go_ret2
    exact Ret.mk (by rw [buildV, HR.out]; rfl) HE2.out
  · have HR := hid hr
    clear hr
    go_wp2_with fail
    refine (build_any t HO.out (HPL.out HR.out) HS.out A c _ (H.out.ext HE2.out)).mono ?_
    rintro e w3 ⟨rfl, hb3⟩
    go_wp2_with fail
    go_ret2
    exact Ret.mk (by rw [buildV, HR.out]; rfl) (HE2.out.trans hb3)
end Go.Proofs.Ytkeabdfgacicaaa


namespace Go.Proofs.Ytkeabdfgacicaaa
open Go.RowKit
set_option linter.unusedVariables false
set_option linter.unusedSimpArgs false

/-- A number; bytes. -/
def numT (n : Nat) : T := T.mk 0 n [] false 0 fun _ => T.nil
def strT (s : List UInt8) : T := T.mk 2 0 s false 0 fun _ => T.nil

theorem Num_any (n : Nat) (w : World) : Calls Try.prog 66 #[.int .u64 (n : Int)] w (Ret (itemV (numT n) none 0) w) := by
  go_enter Try.func66, Try.ntmps66
  go_wp2
  refine bodyPost_ret (v := itemV (numT n) none 0) ?_ rfl (Ret.mk rfl ((Mod.refl _ _).alloc _))
  simp [results, Try.results66, go_sem]
  exact ⟨rfl, rfl, rfl, rfl, rfl⟩
theorem Str_any (s : List UInt8) (w : World) : Calls Try.prog 50 #[str s] w (Ret (itemV (strT s) none 0) w) := by
  go_enter Try.func50, Try.ntmps50
  go_wp2
  refine bodyPost_ret (v := itemV (strT s) none 0) ?_ rfl (Ret.mk rfl ((Mod.refl _ _).alloc _))
  simp [results, Try.results50, go_sem]
  exact ⟨rfl, rfl, rfl, rfl, rfl⟩
theorem List_any (ch : Nat → T) (k : Nat) (A : Option Addr) (c : Nat) (w : World) : Calls Try.prog 54 #[.slice A k c] w (Ret (itemV (T.mk 4 0 [] false k ch) A c) w) := by
  go_enter Try.func54, Try.ntmps54
  go_wp2
  refine bodyPost_ret (v := itemV (T.mk 4 0 [] false k ch) A c) ?_ rfl (Ret.mk rfl ((Mod.refl _ _).alloc _))
  simp [results, Try.results54, go_sem]
  exact ⟨rfl, rfl, rfl, rfl, rfl⟩
theorem NumI_any (n : Int) (w : World) : Calls Try.prog 66 #[.int .u64 n] w (Ret (.agg #[.int .i64 0, .int .u64 n, str [], .slice none 0 0, .bool false]) w) := by
  go_enter Try.func66, Try.ntmps66
  go_wp2
  refine bodyPost_ret (v := .agg #[.int .i64 0, .int .u64 n, str [], .slice none 0 0, .bool false]) ?_ rfl (Ret.mk rfl ((Mod.refl _ _).alloc _))
  simp [results, Try.results66, go_sem]
/-- A list's value, whatever its items. -/
theorem ListV_any (k : Nat) (A : Option Addr) (c : Nat) (w : World) : Calls Try.prog 54 #[.slice A k c] w (Ret (.agg #[.int .i64 4, .int .u64 0, str [], .slice A k c, .bool false]) w) := List_any (fun _ => T.nil) k A c w
/-- Bytes' value. -/
theorem StrV_any (s : List UInt8) (w : World) : Calls Try.prog 50 #[str s] w (Ret (.agg #[.int .i64 2, .int .u64 0, str s, .slice none 0 0, .bool false]) w) := Str_any s w
theorem num_ok {n : Nat} (h : n < 18446744073709551616) : (numT n).ok := by unfold numT T.ok; exact ⟨by omega, h, by simp, by omega, fun i hi => by omega⟩
theorem str_ok {s : List UInt8} (h : s.length < 4611686018427387904) : (strT s).ok := by unfold strT T.ok; exact ⟨by omega, by omega, h, by omega, fun i hi => by omega⟩
end Go.Proofs.Ytkeabdfgacicaaa


namespace Go.Proofs.Ytkeabdfgacicaaa
open Go.RowKit
set_option linter.unusedVariables false
set_option linter.unusedSimpArgs false

/-- A block's five cells, stored anew. -/
def set5 (W : World) (b : Nat) (t : T) (A : Option Addr) (c : Nat) : World := ((((W.setCell ⟨b, 0, none⟩ (.int .i64 t.kind)).setCell ⟨b, 1, none⟩ (.int .u64 (t.n : Int))).setCell ⟨b, 2, none⟩ (str t.s)).setCell ⟨b, 3, none⟩ (.slice A t.k c)).setCell ⟨b, 4, none⟩ (.bool t.op)
section
variable {W : World} {b : Nat} {t0 t : T} {A0 A : Option Addr} {c0 c : Nat}
theorem set5_blk (h : Blk W b 48 (itemC t0 A0 c0)) : Blk (set5 W b t A c) b 48 (itemC t A c) := by
  have := ((((h.set_ 0 (.int .i64 t.kind)).set_ 1 (.int .u64 (t.n : Int))).set_ 2 (str t.s)).set_ 3 (.slice A t.k c)).set_ 4 (.bool t.op)
  unfold set5
  simpa [itemC] using this
theorem set5_mod {w : World} {S : List Nat} (h : Mod S w W) (hb : w.heap.size ≤ b) : Mod S w (set5 W b t A c) :=
  ((((h.setCell (.inr hb) _).setCell (.inr hb) _).setCell (.inr hb) _).setCell (.inr hb) _).setCell (.inr hb) _
theorem set5_modR {w : World} (h : Mod [b] w W) : Mod [b] w (set5 W b t A c) :=
  ((((h.setCell (.inl (by simp)) _).setCell (.inl (by simp)) _).setCell (.inl (by simp)) _).setCell (.inl (by simp)) _).setCell (.inl (by simp)) _
theorem set5_modb : Mod [b] W (set5 W b t A c) :=
  (((((Mod.refl _ _).setCell (.inl (by simp)) _).setCell (.inl (by simp)) _).setCell (.inl (by simp)) _).setCell (.inl (by simp)) _).setCell (.inl (by simp)) _
theorem set5_far {g : Nat} {ty : TypeId} {cs : Array Value} (h : Blk W g ty cs) (hg : g ≠ b) : Blk (set5 W b t A c) g ty cs := h.mod set5_modb (by simpa using hg)
end
/-- The cells of an item's block. -/
theorem cells5 {W : World} {b : Nat} {t : T} {A : Option Addr} {c : Nat} (h : Blk W b 48 (itemC t A c)) : W.cell? ⟨b, 0, none⟩ = some (.int .i64 t.kind) ∧ W.cell? ⟨b, 1, none⟩ = some (.int .u64 (t.n : Int)) ∧ W.cell? ⟨b, 2, none⟩ = some (str t.s) ∧
    W.cell? ⟨b, 3, none⟩ = some (.slice A t.k c) ∧ W.cell? ⟨b, 4, none⟩ = some (.bool t.op) := ⟨h.cell 0, h.cell 1, h.cell 2, h.cell 3, h.cell 4⟩
end Go.Proofs.Ytkeabdfgacicaaa


namespace Go.Proofs.Ytkeabdfgacicaaa
open Go.RowKit
set_option linter.unusedVariables false
set_option linter.unusedSimpArgs false

theorem infoItem : (Try.prog.info? 48).map (fun i => (i.zero, i.size, i.bytes)) = some (some (.agg #[.int .i64 0, .int .u64 0, .string ⟨#[]⟩, .slice none 0 0, .bool false]), 5, 64) := by kernel_rfl

theorem ownsRow_mod {w w' : World} {S : List Nat} {base : Nat} {e : TypeId} {size : Nat} {v : Value} {n : Nat} {xs : List Value} (h : w.ownsRow base e size v n xs) (hm : Mod S w w') (hs : ∀ k, v.ownBlock = some k → k ∉ S) : w'.ownsRow base e size v n xs := by
  refine ⟨h.1, ?_⟩
  have hlt := h.lt
  rcases h.2 with h0 | ⟨g, cap, cur, rfl, hbg, hg, hnc, hcm, hcs, htake⟩
  · exact .inl h0
  · exact .inr ⟨g, cap, cur, rfl, hbg, (hm.block g (hlt g rfl).2 (hs g rfl)).trans hg, hnc, hcm, hcs, htake⟩

theorem own_form {w : World} {base : Nat} {e : TypeId} {size : Nat} {v : Value} {n : Nat} {xs : List Value} (h : w.ownsRow base e size v (n + 1) xs) : ∃ g c, v = .slice (some ⟨g, 0, none⟩) (n + 1) c ∧ base ≤ g ∧ g < w.heap.size := by
  have hlt := h.lt
  rcases h.2 with ⟨_, h0⟩ | ⟨g, cap, cur, rfl, hbg, hg, _⟩
  · cases h0
  · exact ⟨g, cap, rfl, hbg, (hlt g rfl).2⟩
theorem news5 (W : World) (t : T) (A : Option Addr) (c : Nat) : ∀ j u, [Value.int .i64 t.kind, .int .u64 (t.n : Int), str t.s, .slice A t.k c, .bool t.op][j]? = some u →
    (W.alloc (.cells (itemC t A c) 48)).cell? ((⟨W.heap.size, 0, none⟩ : Addr).add j) = some u := by
  intro j u hj
  rw [addr_add, Nat.zero_add]
  rw [(Blk.new W 48 (itemC t A c)).cell j]
  simpa using hj
theorem one5 (t : T) (A : Option Addr) (c : Nat) : ∀ u ∈ [Value.int .i64 t.kind, .int .u64 (t.n : Int), str t.s, .slice A t.k c, .bool t.op], u.oneCell' = true := by
  intro u hu
  simp at hu
  rcases hu with rfl | rfl | rfl | rfl | rfl <;> rfl

theorem own_of_blk {w : World} {g base n size : Nat} {e : TypeId} {cs : Array Value} (h : Blk w g e cs) (hb : base ≤ g) (hn : n ≤ maxLen) (hs : cs.size = n * size) : w.ownsRow base e size (.slice (some ⟨g, 0, none⟩) n n) n cs.toList :=
  ⟨by simpa using hs, .inr ⟨g, n, cs, rfl, hb, h, Nat.le_refl _, hn, hs, by rw [← hs]; exact List.take_of_length_le (by simp)⟩⟩
theorem own_cells {w : World} {g base n c size : Nat} {e : TypeId} {xs : List Value} (h : w.ownsRow base e size (.slice (some ⟨g, 0, none⟩) n c) n xs) {j : Nat} {u : Value} (hj : xs[j]? = some u) : w.cell? ⟨g, j, none⟩ = some u := by
  have := h.cells (g := g) rfl j u hj
  rw [addr_add, Nat.zero_add] at this
  exact this
/-- The row's cells: the first i items'. -/
def flatC (ch : Nat → T) (ac : Nat → Option Addr × Nat) : Nat → List Value
  | 0 => []
  | i + 1 => flatC ch ac i ++ [.int .i64 (ch i).kind, .int .u64 ((ch i).n : Int), str (ch i).s, .slice (ac i).1 (ch i).k (ac i).2, .bool (ch i).op]
theorem flatC_length (ch : Nat → T) (ac : Nat → Option Addr × Nat) (i : Nat) : (flatC ch ac i).length = i * 5 := by
  induction i with
  | zero => rfl
  | succ i ih => rw [flatC, List.length_append, ih]; simp; omega
theorem flatC_congr {ch ch' : Nat → T} {ac ac' : Nat → Option Addr × Nat} {i : Nat} (h : ∀ j, j < i → ch j = ch' j ∧ ac j = ac' j) : flatC ch ac i = flatC ch' ac' i := by
  induction i with
  | zero => rfl
  | succ i ih => rw [flatC, flatC, ih (fun j hj => h j (by omega)), (h i (by omega)).1, (h i (by omega)).2]
theorem flatC_get (ch : Nat → T) (ac : Nat → Option Addr × Nat) (i : Nat) : ∀ j, j < i → (flatC ch ac i)[j * 5]? = some (.int .i64 (ch j).kind) ∧ (flatC ch ac i)[j * 5 + 1]? = some (.int .u64 ((ch j).n : Int)) ∧ (flatC ch ac i)[j * 5 + 2]? = some (str (ch j).s) ∧
    (flatC ch ac i)[j * 5 + 3]? = some (.slice (ac j).1 (ch j).k (ac j).2) ∧ (flatC ch ac i)[j * 5 + 4]? = some (.bool (ch j).op) := by
  induction i with
  | zero => intro j hj; omega
  | succ i ih =>
    intro j hj
    have hl := flatC_length ch ac i
    rw [flatC]
    by_cases e : j = i
    · subst e
      refine ⟨?_, ?_, ?_, ?_, ?_⟩ <;> (rw [List.getElem?_append_right (by omega), hl]; simp)
    · have := ih j (by omega)
      refine ⟨?_, ?_, ?_, ?_, ?_⟩ <;> rw [List.getElem?_append_left (by omega)]
      · exact this.1
      · exact this.2.1
      · exact this.2.2.1
      · exact this.2.2.2.1
      · exact this.2.2.2.2

theorem flatC_idx (ch : Nat → T) (ac : Nat → Option Addr × Nat) (k : Nat) {j : Nat} {u : Value} (h : (flatC ch ac k)[j]? = some u) : ∃ i r, i < k ∧ r < 5 ∧ j = i * 5 + r := by
  have := (List.getElem?_eq_some_iff.1 h).1
  rw [flatC_length] at this
  exact ⟨j / 5, j % 5, by omega, by omega, by omega⟩
theorem flatC_news {W : World} {b o : Nat} {ch : Nat → T} {ac : Nat → Option Addr × Nat} {k : Nat} (h : ∀ i, i < k → At5 W b (o + i * 5) (ch i) (ac i).1 (ac i).2) : ∀ j u, (flatC ch ac k)[j]? = some u → W.cell? ((⟨b, o, none⟩ : Addr).add j) = some u := by
  intro j u hj
  obtain ⟨i, r, hi, hr, rfl⟩ := flatC_idx ch ac k hj
  obtain ⟨g0, g1, g2, g3, g4⟩ := flatC_get ch ac k i hi
  obtain ⟨a0, a1, a2, a3, a4⟩ := h i hi
  rw [addr_add, ← Nat.add_assoc]
  have h5 : r = 0 ∨ r = 1 ∨ r = 2 ∨ r = 3 ∨ r = 4 := by omega
  rcases h5 with rfl | rfl | rfl | rfl | rfl
  · rw [← hj, Nat.add_zero, Nat.add_zero, g0]; exact a0
  · rw [← hj, g1]; exact a1
  · rw [← hj, g2]; exact a2
  · rw [← hj, g3]; exact a3
  · rw [← hj, g4]; exact a4
theorem flatC_one (ch : Nat → T) (ac : Nat → Option Addr × Nat) (k : Nat) : ∀ u ∈ flatC ch ac k, u.oneCell' = true := by
  intro u hu
  obtain ⟨j, hj⟩ := List.getElem?_of_mem hu
  obtain ⟨i, r, hi, hr, rfl⟩ := flatC_idx ch ac k hj
  obtain ⟨g0, g1, g2, g3, g4⟩ := flatC_get ch ac k i hi
  have h5 : r = 0 ∨ r = 1 ∨ r = 2 ∨ r = 3 ∨ r = 4 := by omega
  rcases h5 with rfl | rfl | rfl | rfl | rfl
  · rw [Nat.add_zero, g0] at hj; cases hj; rfl
  · rw [g1] at hj; cases hj; rfl
  · rw [g2] at hj; cases hj; rfl
  · rw [g3] at hj; cases hj; rfl
  · rw [g4] at hj; cases hj; rfl
theorem IsL.rows {W : World} {Q : Nat → Prop} {kind : Int} {n : Nat} {s : List UInt8} {op : Bool} {k : Nat} {ch : Nat → T} {A : Option Addr} (h : IsL W Q (T.mk kind n s op k ch) A) (hk : 0 < k) :
    ∃ (b o : Nat) (ac : Nat → Option Addr × Nat), A = some ⟨b, o, none⟩ ∧ b < W.heap.size ∧ Q b ∧ ∀ i, i < k → At5 W b (o + i * 5) (ch i) (ac i).1 (ac i).2 ∧ IsL W Q (ch i) (ac i).1 := by
  obtain ⟨b, o, hA, hb, hq, hc⟩ := h hk
  have hex : ∀ i, ∃ p : Option Addr × Nat, i < k → At5 W b (o + i * 5) (ch i) p.1 p.2 ∧ IsL W Q (ch i) p.1 := fun i => by
    by_cases hi : i < k
    · obtain ⟨Ai, ci, h1, h2⟩ := hc i hi
      exact ⟨(Ai, ci), fun _ => ⟨h1, h2⟩⟩
    · exact ⟨(none, 0), fun h => absurd h hi⟩
  exact ⟨b, o, fun i => (hex i).choose, hA, hb, hq, fun i hi => (hex i).choose_spec hi⟩
theorem own_IsL {W : World} {Q : Nat → Prop} {base g c k : Nat} {ch : Nat → T} {ac : Nat → Option Addr × Nat} (hlt : g < W.heap.size) (q : Q g) (h : W.ownsRow base 48 5 (.slice (some ⟨g, 0, none⟩) k c) k (flatC ch ac k)) (hI : ∀ i, i < k → IsL W Q (ch i) (ac i).1) : IsL W Q (T.mk 4 0 [] false k ch) (some ⟨g, 0, none⟩) := fun _ => ⟨g, 0, rfl, hlt, q, fun i hi => by
  obtain ⟨g0, g1, g2, g3, g4⟩ := flatC_get ch ac k i hi
  refine ⟨(ac i).1, (ac i).2, ⟨?_, ?_, ?_, ?_, ?_⟩, hI i hi⟩
  · rw [Nat.zero_add]; exact own_cells h g0
  · rw [Nat.zero_add]; exact own_cells h g1
  · rw [Nat.zero_add]; exact own_cells h g2
  · rw [Nat.zero_add]; exact own_cells h g3
  · rw [Nat.zero_add]; exact own_cells h g4⟩
/-- The last item's five cells, stored anew. -/
theorem own_last {W : World} {base g c n : Nat} {ch : Nat → T} {ac : Nat → Option Addr × Nat} (t : T) (A : Option Addr) (ca : Nat) (h : W.ownsRow base 48 5 (.slice (some ⟨g, 0, none⟩) (n + 1) c) (n + 1) (flatC ch ac (n + 1))) :
    (((((W.setCell ⟨g, n * 5, none⟩ (.int .i64 t.kind)).setCell ⟨g, n * 5 + 1, none⟩ (.int .u64 (t.n : Int))).setCell ⟨g, n * 5 + 2, none⟩ (str t.s)).setCell ⟨g, n * 5 + 3, none⟩ (.slice A t.k ca)).setCell ⟨g, n * 5 + 4, none⟩ (.bool t.op)).ownsRow base 48 5 (.slice (some ⟨g, 0, none⟩) (n + 1) c) (n + 1)
      (flatC (fun i => if i = n then t else ch i) (fun i => if i = n then (A, ca) else ac i) (n + 1)) := by
  have h5 := ((((h.stored (n * 5) (.int .i64 t.kind)).1.stored (n * 5 + 1) (.int .u64 (t.n : Int))).1.stored (n * 5 + 2) (str t.s)).1.stored (n * 5 + 3) (.slice A t.k ca)).1.stored (n * 5 + 4) (.bool t.op)
  have hl := flatC_length ch ac n
  have e : (((((flatC ch ac (n + 1)).set (n * 5) (.int .i64 t.kind)).set (n * 5 + 1) (.int .u64 (t.n : Int))).set (n * 5 + 2) (str t.s)).set (n * 5 + 3) (.slice A t.k ca)).set (n * 5 + 4) (.bool t.op) = flatC (fun i => if i = n then t else ch i) (fun i => if i = n then (A, ca) else ac i) (n + 1) := by
    have hc : flatC (fun i => if i = n then t else ch i) (fun i => if i = n then (A, ca) else ac i) n = flatC ch ac n := flatC_congr fun j hj => by
      have : ¬ j = n := by omega
      simp [this]
    rw [flatC, flatC, hc, ← hl]
    simp
  rw [e] at h5
  exact h5.1
end Go.Proofs.Ytkeabdfgacicaaa


namespace Go.Proofs.Ytkeabdfgacicaaa
open Go.RowKit
set_option linter.unusedVariables false
set_option linter.unusedSimpArgs false

set_option maxHeartbeats 800000 in
theorem CloneI_any {Q : Nat → Prop} {kind : Int} {n : Nat} {s : List UInt8} {op : Bool} (ch : Nat → T) (k : Nat) (hk : Hid (0 < k ∧ k ≤ 1000)) (A : Option Addr) (c : Nat) (w : World) (h : IsL w Q (T.mk kind n s op k ch) A) :
    Calls Try.prog 49 #[.slice A k c] w (fun e w' => ∃ (g c' : Nat) (ac : Nat → Option Addr × Nat), e = .returned (.slice (some ⟨g, 0, none⟩) k c') ∧ Ext w w' ∧ w.heap.size ≤ g ∧ g < w'.heap.size ∧ w'.ownsRow w.heap.size 48 5 (.slice (some ⟨g, 0, none⟩) k c') k (flatC ch ac k) ∧ ∀ i, i < k → IsL w' Q (ch i) (ac i).1) := by
  have he := Lib.run_eql_slice_nil (P := Try.prog)
  obtain ⟨i0, hi, hz0, hz1, hz2⟩ := info_parts infoItem
  obtain ⟨b, o, ac, rfl, hb, hq, hc⟩ := h.rows hk.out.1
  have hl := World.ownsRow_lit (base := w.heap.size) (e := 48) (size := 5) w #[] 0 (Nat.le_refl _) (Nat.zero_le _) rfl
  have hnews : Hid (∀ j u, (flatC ch ac k)[j]? = some u → (w.alloc (.cells #[] 48)).cell? ((⟨b, o, none⟩ : Addr).add j) = some u) := flatC_news fun i hi => (hc i hi).1.mod (S := []) ((Mod.refl _ _).alloc _) hb (by simp)
  have hfl := hid (flatC_length ch ac k)
  have hfc := hid (flatC_one ch ac k)
  have HC := hid hc
  clear hc h
  go_enter Try.func49, Try.ntmps49
  go_wp2_with (at_builtin; refine wpList_append_own _ rfl _ _ 46 rfl w.heap.size 48 i0 _ 5 64 Try.underlying46 hi hz0 hz1 hz2 rfl (by decide) _ _ _ rfl hl ⟨b, o, none⟩ k c (flatC ch ac k) rfl hfl.out hnews.out hfc.out (by have := hk.out; unfold maxLen; omega) (by have := hk.out; omega) (by simp) ?_; intro v' w1 hown' hgrow hnil)
  have hg2 : (w.alloc (.cells #[] 48)).grownBy w1 (some w.heap.size) := hgrow
  have hm : Ext w w1 := ((Mod.refl [] w).alloc (.cells #[] 48)).grown hg2 (fun k hk => .inr (by cases hk; exact Nat.le_refl _))
  have hown2 : w1.ownsRow w.heap.size 48 5 v' k (flatC ch ac k) := by simpa using hown'
  obtain ⟨m, rfl⟩ : ∃ m, k = m + 1 := ⟨k - 1, by have := hk.out.1; omega⟩
  obtain ⟨g, c', rfl, hg, hlt⟩ := own_form hown2
  go_wp2
  go_ret
  exact ⟨g, c', rfl, hm, hg, hlt, ac, hown2, fun i hi => (HC.out i hi).2.ext hm⟩

end Go.Proofs.Ytkeabdfgacicaaa


namespace Go.Proofs.Ytkeabdfgacicaaa
open Go.RowKit
set_option linter.unusedVariables false
set_option linter.unusedSimpArgs false

theorem cell_row8 (w : World) (l : List UInt8) (cap t : Nat) (fz : Nat × Nat) (j : Nat) (h : j < l.length) :
    (w.alloc (.cells (bytesRow ⟨l.toArray⟩ cap) t fz)).cell? ⟨w.heap.size, j, none⟩ = some (.int .u8 (l[j].toNat : Int)) := by
  rw [World.cell?_alloc_mark]
  simp only [bytesRow]
  rw [Array.getElem?_append_left (by simpa using h)]
  simp [h]
theorem Crc.stepC_lt {p s m : Nat} (hp : p < 2 ^ m) (hs : s < 2 ^ m) : Crc.stepC p s < 2 ^ m := by
  unfold Crc.stepC
  split
  · exact Nat.xor_lt_two_pow (by omega) hp
  · omega
theorem Crc.stepsC_lt {p m : Nat} (hp : p < 2 ^ m) : ∀ (k s : Nat), s < 2 ^ m → Crc.stepsC p k s < 2 ^ m
  | 0, s, h => h
  | k + 1, s, h => Crc.stepsC_lt hp k _ (Crc.stepC_lt hp h)
theorem Crc.divC_lt {p m : Nat} (hp : p < 2 ^ m) : ∀ (l : List UInt8) (s : Nat), s < 2 ^ m → 8 ≤ m → Crc.divC p s l < 2 ^ m
  | [], s, h, _ => h
  | c :: l, s, h, h8 => by
    have hc : c.toNat < 2 ^ m := Nat.lt_of_lt_of_le c.toNat_lt (Nat.pow_le_pow_right (by omega) h8)
    have := Crc.divC_lt hp l (Crc.stepsC p 8 (s ^^^ c.toNat)) (Crc.stepsC_lt hp 8 _ (Nat.xor_lt_two_pow h hc)) h8
    exact this

theorem and1_16 {s : Nat} (hs : s < 65536) : bits .and .u16 (s : Int) 1 = ((s % 2 : Nat) : Int) := by
  have := u16_and_nat s 1 hs (by omega)
  rw [Nat.and_one_is_mod] at this
  exact this
theorem xor_16 {s c : Nat} (hs : s < 65536) (hc : c < 65536) : bits .xor .u16 (s : Int) (c : Int) = ((s ^^^ c : Nat) : Int) := u16_xor_nat s c hs hc

set_option maxHeartbeats 400000 in
theorem divide16 (p s : Nat) (hp : Hid (p < 65536)) (hs : Hid (s < 65536)) (l : List UInt8) (hl : Hid (l.length < 1000000)) (w : World) :
    Calls Try.prog 125 #[.int .u16 (s : Int), .int .u16 (p : Int), str l] w (Ret (.int .u16 (Crc.divC p s l : Nat)) w) := by
  have hconv := fun (w : World) (s : ByteArray) => run_bytes_of_string (P := Try.prog) w 9 58 5 s Try.underlying9 Try.underlying58 Try.underlying5
  obtain ⟨T, hT⟩ : ∃ T, T = Crc.divC p s l := ⟨_, rfl⟩
  rw [← hT]
  have HT := hid hT; clear hT
  go_enter Try.func125, Try.ntmps125
  go_wp2
  have hext : Ext w (w.alloc (Obj.cells (bytesRow { data := l.toArray } (grownCap w l.length 0 5)) 5 ((bytesRow { data := l.toArray } (grownCap w l.length 0 5)).size, (bytesRow { data := l.toArray } (grownCap w l.length 0 5)).size + 1))).drew := ((Mod.refl _ _).alloc _).drew
  have hcell : ∀ j (h : j < l.length), (w.alloc (Obj.cells (bytesRow { data := l.toArray } (grownCap w l.length 0 5)) 5 ((bytesRow { data := l.toArray } (grownCap w l.length 0 5)).size, (bytesRow { data := l.toArray } (grownCap w l.length 0 5)).size + 1))).drew.cell? ⟨w.heap.size, j, none⟩ = some (.int .u8 (l[j].toNat : Int)) := fun j h => by rw [World.cell?_drew]; exact cell_row8 w l _ _ _ j h
  generalize hW : World.drew (World.alloc w _) = W at *
  have HW := hid hW; clear hW
  have HC := hid hcell; clear hcell
  have HL := hid hl.out
  go_loop [0, 12] (fun n i => ∃ j c : Nat, j ≤ l.length ∧ c < 65536 ∧ i = .int .i64 j ∧ n = .int .u16 (c : Int) ∧ Hid (T = Crc.divC p c (l.drop j))) (fun _ i => l.length - (intOf i).toNat)
  case atStart => exact ⟨0, s, Nat.zero_le _, hs.out, rfl, rfl, HT⟩
  case round =>
    obtain ⟨j, c, hj, hc, rfl, rfl, HR⟩ := hrel
    by_cases hlt : j < l.length
    · have hcc := HC.out j hlt
      generalize hx : l[j] = x at *
      have HX := hid hx; clear hx
      have hx8 := x.toNat_lt
      have tx : IntKind.u16.wrap (x.toNat : Int) = (x.toNat : Int) := IntWalk.u16_in _ (by omega)
      have t2 := xor_16 (s := c) (c := x.toNat) hc (by omega)
      have hcx : c ^^^ x.toNat < 65536 := Nat.xor_lt_two_pow (n := 16) hc (by omega)
      have HS : Hid (T = Crc.divC p (Crc.stepsC p 8 (c ^^^ x.toNat)) (l.drop (j + 1))) := by
        have h1 := HR.out
        rw [List.drop_eq_getElem_cons hlt, HX.out] at h1
        exact h1
      clear HR
      go_wp2
      generalize c ^^^ x.toNat = y at *
      go_loop [0, 20] (fun n i => ∃ k c : Nat, k ≤ 8 ∧ c < 65536 ∧ i = .int .i64 k ∧ n = .int .u16 (c : Int) ∧ Hid (Crc.stepsC p (8 - k) c = Crc.stepsC p 8 y)) (fun _ i => 8 - (intOf i).toNat)
      case atStart => exact ⟨0, y, by omega, hcx, rfl, rfl, rfl⟩
      case round =>
        obtain ⟨k, c, hk, hc, rfl, rfl, HR⟩ := hrel
        by_cases hlt : k < 8
        · have tA := and1_16 hc
          have HN : Hid (Crc.stepsC p (8 - (k + 1)) (Crc.stepC p c) = Crc.stepsC p 8 y) := by
            have h1 := HR.out
            rw [show 8 - k = (8 - (k + 1)) + 1 by omega] at h1
            exact h1
          have hL := Crc.stepC_lt (m := 16) hp.out hc
          clear HR
          rcases Nat.mod_two_eq_zero_or_one c with e | e
          · have hS : Crc.stepC p c = c / 2 := by unfold Crc.stepC; rw [if_neg (by omega)]
            rw [hS] at HN hL
            rw [e] at tA
            go_wp2
            go_round
            case rel => exact ⟨k + 1, c / 2, by omega, hL, by go_num, by simp, HN⟩
            case measure => simp [intOf]; omega
          · have hS : Crc.stepC p c = c / 2 ^^^ p := by unfold Crc.stepC; rw [if_pos e]
            have tX := xor_16 (s := c / 2) (c := p) (by omega) hp.out
            rw [hS] at HN hL
            rw [e] at tA
            go_wp2
            go_round
            case rel => exact ⟨k + 1, c / 2 ^^^ p, by omega, hL, by go_num, by rw [← tX]; simp, HN⟩
            case measure => simp [intOf]; omega
        · obtain rfl : k = 8 := by omega
          have h1 : c = Crc.stepsC p 8 y := HR.out
          have hl2 : l.length < 1000000 := hl.out
          subst h1
          clear HR
          go_wp2
          go_round
          case rel => exact ⟨j + 1, _, by omega, hc, by go_num, rfl, HS⟩
          case measure => simp [intOf]; omega
    · obtain rfl : j = l.length := by omega
      have h1 := HR.out
      rw [List.drop_length] at h1
      have h2 : T = c := h1
      subst h2
      clear HR h1
      go_wp2
      go_ret
      exact ⟨rfl, hext⟩

theorem and1_32 {s : Nat} (hs : s < 4294967296) : bits .and .u32 (s : Int) 1 = ((s % 2 : Nat) : Int) := by
  have := u32_and_nat s 1 hs (by omega)
  rw [Nat.and_one_is_mod] at this
  exact this
theorem xor_32 {s c : Nat} (hs : s < 4294967296) (hc : c < 4294967296) : bits .xor .u32 (s : Int) (c : Int) = ((s ^^^ c : Nat) : Int) := u32_xor_nat s c hs hc

set_option maxHeartbeats 400000 in
theorem divide32 (p s : Nat) (hp : Hid (p < 4294967296)) (hs : Hid (s < 4294967296)) (l : List UInt8) (hl : Hid (l.length < 1000000)) (w : World) :
    Calls Try.prog 126 #[.int .u32 (s : Int), .int .u32 (p : Int), str l] w (Ret (.int .u32 (Crc.divC p s l : Nat)) w) := by
  have hconv := fun (w : World) (s : ByteArray) => run_bytes_of_string (P := Try.prog) w 9 58 5 s Try.underlying9 Try.underlying58 Try.underlying5
  obtain ⟨T, hT⟩ : ∃ T, T = Crc.divC p s l := ⟨_, rfl⟩
  rw [← hT]
  have HT := hid hT; clear hT
  go_enter Try.func126, Try.ntmps126
  go_wp2
  have hext : Ext w (w.alloc (Obj.cells (bytesRow { data := l.toArray } (grownCap w l.length 0 5)) 5 ((bytesRow { data := l.toArray } (grownCap w l.length 0 5)).size, (bytesRow { data := l.toArray } (grownCap w l.length 0 5)).size + 1))).drew := ((Mod.refl _ _).alloc _).drew
  have hcell : ∀ j (h : j < l.length), (w.alloc (Obj.cells (bytesRow { data := l.toArray } (grownCap w l.length 0 5)) 5 ((bytesRow { data := l.toArray } (grownCap w l.length 0 5)).size, (bytesRow { data := l.toArray } (grownCap w l.length 0 5)).size + 1))).drew.cell? ⟨w.heap.size, j, none⟩ = some (.int .u8 (l[j].toNat : Int)) := fun j h => by rw [World.cell?_drew]; exact cell_row8 w l _ _ _ j h
  generalize hW : World.drew (World.alloc w _) = W at *
  have HW := hid hW; clear hW
  have HC := hid hcell; clear hcell
  have HL := hid hl.out
  go_loop [0, 12] (fun n i => ∃ j c : Nat, j ≤ l.length ∧ c < 4294967296 ∧ i = .int .i64 j ∧ n = .int .u32 (c : Int) ∧ Hid (T = Crc.divC p c (l.drop j))) (fun _ i => l.length - (intOf i).toNat)
  case atStart => exact ⟨0, s, Nat.zero_le _, hs.out, rfl, rfl, HT⟩
  case round =>
    obtain ⟨j, c, hj, hc, rfl, rfl, HR⟩ := hrel
    by_cases hlt : j < l.length
    · have hcc := HC.out j hlt
      generalize hx : l[j] = x at *
      have HX := hid hx; clear hx
      have hx8 := x.toNat_lt
      have tx : IntKind.u32.wrap (x.toNat : Int) = (x.toNat : Int) := IntWalk.u32_in _ (by omega)
      have t2 := xor_32 (s := c) (c := x.toNat) hc (by omega)
      have hcx : c ^^^ x.toNat < 4294967296 := Nat.xor_lt_two_pow (n := 32) hc (by omega)
      have HS : Hid (T = Crc.divC p (Crc.stepsC p 8 (c ^^^ x.toNat)) (l.drop (j + 1))) := by
        have h1 := HR.out
        rw [List.drop_eq_getElem_cons hlt, HX.out] at h1
        exact h1
      clear HR
      go_wp2
      generalize c ^^^ x.toNat = y at *
      go_loop [0, 20] (fun n i => ∃ k c : Nat, k ≤ 8 ∧ c < 4294967296 ∧ i = .int .i64 k ∧ n = .int .u32 (c : Int) ∧ Hid (Crc.stepsC p (8 - k) c = Crc.stepsC p 8 y)) (fun _ i => 8 - (intOf i).toNat)
      case atStart => exact ⟨0, y, by omega, hcx, rfl, rfl, rfl⟩
      case round =>
        obtain ⟨k, c, hk, hc, rfl, rfl, HR⟩ := hrel
        by_cases hlt : k < 8
        · have tA := and1_32 hc
          have HN : Hid (Crc.stepsC p (8 - (k + 1)) (Crc.stepC p c) = Crc.stepsC p 8 y) := by
            have h1 := HR.out
            rw [show 8 - k = (8 - (k + 1)) + 1 by omega] at h1
            exact h1
          have hL := Crc.stepC_lt (m := 32) hp.out hc
          clear HR
          rcases Nat.mod_two_eq_zero_or_one c with e | e
          · have hS : Crc.stepC p c = c / 2 := by unfold Crc.stepC; rw [if_neg (by omega)]
            rw [hS] at HN hL
            rw [e] at tA
            go_wp2
            go_round
            case rel => exact ⟨k + 1, c / 2, by omega, hL, by go_num, by simp, HN⟩
            case measure => simp [intOf]; omega
          · have hS : Crc.stepC p c = c / 2 ^^^ p := by unfold Crc.stepC; rw [if_pos e]
            have tX := xor_32 (s := c / 2) (c := p) (by omega) hp.out
            rw [hS] at HN hL
            rw [e] at tA
            go_wp2
            go_round
            case rel => exact ⟨k + 1, c / 2 ^^^ p, by omega, hL, by go_num, by rw [← tX]; simp, HN⟩
            case measure => simp [intOf]; omega
        · obtain rfl : k = 8 := by omega
          have h1 : c = Crc.stepsC p 8 y := HR.out
          have hl2 : l.length < 1000000 := hl.out
          subst h1
          clear HR
          go_wp2
          go_round
          case rel => exact ⟨j + 1, _, by omega, hc, by go_num, rfl, HS⟩
          case measure => simp [intOf]; omega
    · obtain rfl : j = l.length := by omega
      have h1 := HR.out
      rw [List.drop_length] at h1
      have h2 : T = c := h1
      subst h2
      clear HR h1
      go_wp2
      go_ret
      exact ⟨rfl, hext⟩
end Go.Proofs.Ytkeabdfgacicaaa


namespace Go.Proofs.Ytkeabdfgacicaaa
open Go.RowKit
set_option linter.unusedVariables false
set_option linter.unusedSimpArgs false

def Crc.x25 (l : List UInt8) : Nat := 65535 - Crc.divC 33800 65535 l
def Crc.cast (l : List UInt8) : Nat := 4294967295 - Crc.divC 2197175160 4294967295 l
def Crc.sumL (kind : Nat) (l : List UInt8) : List UInt8 := if kind = 1 then be (Crc.x25 l) 2 else if kind = 2 then be (Crc.cast l) 4 else []

theorem Size_any (k : Nat) (hk : k ≤ 2) (w : World) : Calls Try.prog 56 #[.int .i64 (k : Int)] w (Ret (.int .i64 ((2 * k : Nat) : Int)) w) := by
  go_enter Try.func56, Try.ntmps56
  go_wp2
  go_ret
  exact Ret.mk (by simp) (Mod.refl _ _)

theorem X25_any (l : List UInt8) (hl : Hid (l.length < 1000000)) (w : World) : Calls Try.prog 102 #[str l] w (Ret (.int .u16 (Crc.x25 l : Nat)) w) := by
  have hd : Crc.divC 33800 65535 l < 65536 := Crc.divC_lt (m := 16) (by decide) l 65535 (by decide) (by decide)
  have tx : bits .xor .u16 IntKind.u16.max (Crc.divC 33800 65535 l : Int) = ((65535 - Crc.divC 33800 65535 l : Nat) : Int) := by
    rw [Crc.not_xor (n := 16) hd]
    exact u16_xor_nat 65535 _ (by decide) hd
  have K := hid (fun W => divide16 33800 65535 (by unfold Hid; decide) (by unfold Hid; decide) l hl W)
  unfold Crc.x25
  generalize Crc.divC 33800 65535 l = d at *
  go_enter Try.func102, Try.ntmps102
  go_wp2_with fail
  refine (K.out _).mono ?_
  rintro e w1 ⟨rfl, hb1⟩
  go_wp2_with fail
  go_ret
  exact Ret.mk (by simp) hb1
theorem Castagnoli_any (l : List UInt8) (hl : Hid (l.length < 1000000)) (w : World) : Calls Try.prog 103 #[str l] w (Ret (.int .u32 (Crc.cast l : Nat)) w) := by
  have hd : Crc.divC 2197175160 4294967295 l < 4294967296 := Crc.divC_lt (m := 32) (by decide) l 4294967295 (by decide) (by decide)
  have tx : bits .xor .u32 IntKind.u32.max (Crc.divC 2197175160 4294967295 l : Int) = ((4294967295 - Crc.divC 2197175160 4294967295 l : Nat) : Int) := by
    rw [Crc.not_xor (n := 32) hd]
    exact u32_xor_nat 4294967295 _ (by decide) hd
  have K := hid (fun W => divide32 2197175160 4294967295 (by unfold Hid; decide) (by unfold Hid; decide) l hl W)
  unfold Crc.cast
  generalize Crc.divC 2197175160 4294967295 l = d at *
  go_enter Try.func103, Try.ntmps103
  go_wp2_with fail
  refine (K.out _).mono ?_
  rintro e w1 ⟨rfl, hb1⟩
  go_wp2_with fail
  go_ret
  exact Ret.mk (by simp) hb1
theorem be2 {n : Nat} (h : n < 65536) : be n 2 = [b8 (n / 256), b8 (n % 256)] := by
  have e : n / 256 % 256 = n / 256 := by omega
  rw [be_succ, be_succ, be_zero]
  simp [e]
theorem be4 {n : Nat} (h : n < 4294967296) : be n 4 = [b8 (n / 16777216), b8 (n / 65536 % 256), b8 (n / 256 % 256), b8 (n % 256)] := by
  have e : n / 16777216 % 256 = n / 16777216 := by omega
  rw [be_succ, be_succ, be_succ, be_succ, be_zero]
  simp [e]
theorem b8_cast {n : Nat} (h : n < 256) : ((b8 n).toNat : Int) = (n : Int) := by
  simp [b8]
  omega
/-- Bytes laid in a new block, as a string. -/
theorem conv_new (l : List UInt8) (c : Nat) (W : World) : (convert 58 9 (.slice (some ⟨W.heap.size, 0, none⟩) l.length c)).run Try.prog (W.alloc (.cells (l.map fun b => Value.int .u8 (b.toNat : Int)).toArray 5)) = .ok (str l) (W.alloc (.cells (l.map fun b => Value.int .u8 (b.toNat : Int)).toArray 5)) := by
  refine run_convert_bytes_back (P := Try.prog) _ 58 9 5 _ c l Try.underlying58 Try.underlying5 Try.underlying9 (fun j hj => ?_)
  rw [addr_add, Nat.zero_add, (Blk.new W 5 _).cell j]
  simp [hj]
theorem Sum_1 (l : List UInt8) (hl : Hid (l.length < 1000000)) (w : World) : Calls Try.prog 65 #[.int .i64 1, str l] w (Ret (str (be (Crc.x25 l) 2)) w) := by
  have hd : Crc.x25 l < 65536 := by unfold Crc.x25; omega
  have K := hid (fun W => X25_any l hl W)
  generalize Crc.x25 l = d at *
  have hcv : ∀ W : World, (convert 58 9 (.slice (some ⟨W.heap.size, 0, none⟩) 2 2)).run Try.prog (W.alloc (.cells #[.int .u8 ((d : Int) / 256), .int .u8 ((d : Int) % 256)] 5)) = .ok (str (be d 2)) (W.alloc (.cells #[.int .u8 ((d : Int) / 256), .int .u8 ((d : Int) % 256)] 5)) := fun W => by
    have := conv_new (be d 2) 2 W
    rw [be_length, be2 hd] at this
    simpa [b8_cast (show d / 256 < 256 by omega), b8_cast (show d % 256 < 256 by omega), be2 hd] using this
  go_enter Try.func65, Try.ntmps65
  go_wp2_with fail
  refine (K.out _).mono ?_
  rintro e w1 ⟨rfl, hb1⟩
  go_wp2_with fail
  go_ret
  exact Ret.mk rfl (hb1.alloc _)
theorem Sum_2 (l : List UInt8) (hl : Hid (l.length < 1000000)) (w : World) : Calls Try.prog 65 #[.int .i64 2, str l] w (Ret (str (be (Crc.cast l) 4)) w) := by
  have hd : Crc.cast l < 4294967296 := by unfold Crc.cast; omega
  have K := hid (fun W => Castagnoli_any l hl W)
  generalize Crc.cast l = d at *
  have hcv : ∀ W : World, (convert 58 9 (.slice (some ⟨W.heap.size, 0, none⟩) 4 4)).run Try.prog (W.alloc (.cells #[.int .u8 ((d : Int) / 16777216), .int .u8 ((d : Int) / 65536 % 256), .int .u8 ((d : Int) / 256 % 256), .int .u8 ((d : Int) % 256)] 5)) = .ok (str (be d 4)) (W.alloc (.cells #[.int .u8 ((d : Int) / 16777216), .int .u8 ((d : Int) / 65536 % 256), .int .u8 ((d : Int) / 256 % 256), .int .u8 ((d : Int) % 256)] 5)) := fun W => by
    have := conv_new (be d 4) 4 W
    rw [be_length, be4 hd] at this
    simpa [b8_cast (show d / 16777216 < 256 by omega), b8_cast (show d / 65536 % 256 < 256 by omega), b8_cast (show d / 256 % 256 < 256 by omega), b8_cast (show d % 256 < 256 by omega), be4 hd] using this
  go_enter Try.func65, Try.ntmps65
  go_wp2_with fail
  refine (K.out _).mono ?_
  rintro e w1 ⟨rfl, hb1⟩
  go_wp2_with fail
  go_ret
  exact Ret.mk rfl (hb1.alloc _)
theorem Sum_any (k : Nat) (h1 : 1 ≤ k) (h2 : k ≤ 2) (l : List UInt8) (hl : Hid (l.length < 1000000)) (w : World) : Calls Try.prog 65 #[.int .i64 (k : Int), str l] w (Ret (str (Crc.sumL k l)) w) := by
  have : k = 1 ∨ k = 2 := by omega
  rcases this with rfl | rfl
  · exact Sum_1 l hl w
  · exact Sum_2 l hl w
theorem Crc.sumL_length {k : Nat} (h1 : 1 ≤ k) (h2 : k ≤ 2) (l : List UInt8) : (Crc.sumL k l).length = 2 * k := by
  have : k = 1 ∨ k = 2 := by omega
  rcases this with rfl | rfl
  · exact be_length _ _
  · exact be_length _ _
end Go.Proofs.Ytkeabdfgacicaaa


namespace Go.Proofs.Ytkeabdfgacicaaa
open Go.RowKit
set_option linter.unusedVariables false
set_option linter.unusedSimpArgs false

def layRep_ren : Shelf.Ren where
  f := fun x => match x with
    | 105 => 51
    | 212 => 87
    | 99 => 88
    | 165 => 89
    | 166 => 90
    | 170 => 91
    | 169 => 92
    | 263 => 115
    | 264 => 116
    | 206 => 117
    | 240 => 118
    | 241 => 119
    | 276 => 132
    | 277 => 133
    | n => n
  t := fun x => match x with
    | 9 => 9
    | 3 => 3
    | 4 => 4
    | 20 => 20
    | 0 => 0
    | 46 => 134
    | 109 => 135
    | 5 => 5
    | 72 => 140
    | 76 => 144
    | 51 => 151
    | 146 => 165
    | 53 => 22
    | 148 => 167
    | 70 => 138
    | 37 => 58
    | 75 => 143
    | 127 => 169
    | 164 => 177
    | 80 => 146
    | n => n
  g := fun n => n
theorem layRep : Lays.n105 Try.prog layRep_ren where
  mixed := by kernel_rfl
  f105 := Try.func51.trans (by kernel_rfl)
  f212 := Try.func87.trans (by kernel_rfl)
  f99 := Try.func88.trans (by kernel_rfl)
  f165 := Try.func89.trans (by kernel_rfl)
  f166 := Try.func90.trans (by kernel_rfl)
  f170 := Try.func91.trans (by kernel_rfl)
  f169 := Try.func92.trans (by kernel_rfl)
  f263 := Try.func115.trans (by kernel_rfl)
  f264 := Try.func116.trans (by kernel_rfl)
  f206 := Try.func117.trans (by kernel_rfl)
  f240 := Try.func118.trans (by kernel_rfl)
  f241 := Try.func119.trans (by kernel_rfl)
  f276 := Try.func132.trans (by kernel_rfl)
  f277 := Try.func133.trans (by kernel_rfl)
  t9 := Try.underlying9
  a9 := Try.isAgg9
  z9 := Try.sizeOf9
  v9 := Try.zeroValue9
  t3 := Try.underlying3
  a3 := Try.isAgg3
  z3 := Try.sizeOf3
  v3 := Try.zeroValue3
  t4 := Try.underlying4
  a4 := Try.isAgg4
  z4 := Try.sizeOf4
  v4 := Try.zeroValue4
  t20 := Try.underlying20
  a20 := Try.isAgg20
  z20 := Try.sizeOf20
  v20 := Try.zeroValue20
  t0 := Try.underlying0
  a0 := Try.isAgg0
  z0 := Try.sizeOf0
  v0 := Try.zeroValue0
  t46 := Try.underlying134
  a46 := Try.isAgg134
  z46 := Try.sizeOf134
  v46 := Try.zeroValue134
  t109 := Try.underlying135
  a109 := Try.isAgg135
  z109 := Try.sizeOf135
  v109 := Try.zeroValue135
  t5 := Try.underlying5
  a5 := Try.isAgg5
  z5 := Try.sizeOf5
  v5 := Try.zeroValue5
  t72 := Try.underlying140
  a72 := Try.isAgg140
  z72 := Try.sizeOf140
  v72 := Try.zeroValue140
  t76 := Try.underlying144
  a76 := Try.isAgg144
  z76 := Try.sizeOf144
  v76 := Try.zeroValue144
  t51 := Try.underlying151
  a51 := Try.isAgg151
  z51 := Try.sizeOf151
  v51 := Try.zeroValue151
  t146 := Try.underlying165
  a146 := Try.isAgg165
  z146 := Try.sizeOf165
  v146 := Try.zeroValue165
  t53 := Try.underlying22
  a53 := Try.isAgg22
  z53 := Try.sizeOf22
  v53 := Try.zeroValue22
  t148 := Try.underlying167
  a148 := Try.isAgg167
  z148 := Try.sizeOf167
  v148 := Try.zeroValue167
  t70 := Try.underlying138
  a70 := Try.isAgg138
  z70 := Try.sizeOf138
  v70 := Try.zeroValue138
  t37 := Try.underlying58
  a37 := Try.isAgg58
  z37 := Try.sizeOf58
  v37 := Try.zeroValue58
  t75 := Try.underlying143
  a75 := Try.isAgg143
  z75 := Try.sizeOf143
  v75 := Try.zeroValue143
  t127 := Try.underlying169
  a127 := Try.isAgg169
  z127 := Try.sizeOf169
  v127 := Try.zeroValue169
  t164 := Try.underlying177
  a164 := Try.isAgg177
  z164 := Try.sizeOf177
  v164 := Try.zeroValue177
theorem layRepX : Builder.Extra Try.prog layRep_ren where
  sizeBuilder := by kernel_rfl
  liesBuilder := by kernel_rfl
  t5 := Try.underlying5
  a5 := Try.isAgg5
  z5 := Try.sizeOf5
  v5 := Try.zeroValue5
  infoByte := by kernel_rfl
  cellsByte := by kernel_rfl
  sizeByte := by kernel_rfl
  neB5 := by decide

theorem repeat0 (k : Nat) : Lib.repeatL [0] k = List.replicate k (0 : UInt8) := by
  induction k with
  | zero => rfl
  | succ k ih => rw [Lib.repeatL, ih, List.replicate_succ]; rfl
theorem Repeat_zero (k : Nat) (hk : k ≤ 1000) (w : World) : Calls Try.prog 51 #[.string ⟨#[0]⟩, .int .i64 (k : Int)] w (Ret (str (List.replicate k 0)) w) := by
  refine (Any.strings_Repeat layRep layRepX ⟨#[0]⟩ k w (by omega) (by show 1 * k ≤ _; omega)).mono fun e w' ⟨he, hb⟩ => ⟨?_, Mod.of_below hb⟩
  rw [he]
  show Ending.returned (.string ⟨(Lib.repeatL [0] k).toArray⟩) = _
  rw [repeat0]
end Go.Proofs.Ytkeabdfgacicaaa


namespace Go.Proofs.Ytkeabdfgacicaaa

/-- A reader's state: its bytes, its place, where what failed began, why, where what is read now began. -/
structure RS where
  s : List UInt8
  at_ : Nat
  bad : Int
  e : Int
  fr : Nat

namespace RS
def ok (r : RS) : Prop := r.at_ ≤ r.s.length ∧ r.fr ≤ r.s.length ∧ r.s.length < 4611686018427387904
def fail (r : RS) (e : Int) : RS := if r.e = 0 then { r with at_ := r.fr, bad := r.fr, e := e } else r
def Fail (r : RS) (e : Int) : RS := if r.e = 0 then { r with bad := r.at_, e := e } else r
def head (r : RS) : RS × Nat × Nat × Bool :=
  if r.e = 0 then
    match readH (r.s.drop r.at_) with
    | none => (r.fail 2, 0, 0, false)
    | some (sz, m, n, o) => ({ r with at_ := r.at_ + sz }, m, n, o)
  else (r, 0, 0, false)
def Head (r : RS) : RS × Nat × Nat × Bool := head { r with fr := r.at_ }
def Uint (r : RS) : RS × Nat := if r.Head.1.e = 0 ∧ r.Head.2.1 ≠ 0 then (r.Head.1.fail 2, 0) else (r.Head.1, r.Head.2.2.1)
def str (r : RS) (want : Nat) (most : Int) : RS × List UInt8 :=
  if r.Head.1.e = 0 then
    if r.Head.2.1 ≠ want ∨ r.Head.2.2.2 = true ∨ r.Head.1.s.length - r.Head.1.at_ < r.Head.2.2.1 then (r.Head.1.fail 2, [])
    else if most < 0 ∨ most < r.Head.2.2.1 then (r.Head.1.fail 4, [])
    else ({ r.Head.1 with at_ := r.Head.1.at_ + r.Head.2.2.1 }, (r.Head.1.s.drop r.Head.1.at_).take r.Head.2.2.1)
  else (r.Head.1, [])
def Array (r : RS) : RS × Int :=
  if r.Head.1.e = 0 then
    if r.Head.2.1 ≠ 4 then (r.Head.1.fail 2, 0)
    else if r.Head.2.2.2 = true then (r.Head.1, -1)
    else if 1000 < r.Head.2.2.1 then (r.Head.1.fail 4, 0)
    else (r.Head.1, r.Head.2.2.1)
  else (r.Head.1, 0)
def done (r : RS) : Bool := decide (r.e = 0) && decide (r.at_ = r.s.length)
def new (s : List UInt8) : RS := ⟨s, 0, -1, 0, 0⟩

theorem fail_s (r : RS) (e : Int) : (r.fail e).s = r.s := by unfold fail; split <;> rfl
theorem head_s (r : RS) : r.head.1.s = r.s := by
  unfold head
  split
  · cases readH (r.s.drop r.at_) with
    | none => exact fail_s _ _
    | some x => rfl
  · rfl
theorem Head_s (r : RS) : r.Head.1.s = r.s := by unfold Head; rw [head_s]
theorem fail_ok {r : RS} (h : r.ok) (e : Int) : (r.fail e).ok := by
  unfold fail
  split
  · exact ⟨h.2.1, h.2.1, h.2.2⟩
  · exact h
theorem head_ok {r : RS} (h : r.ok) : r.head.1.ok := by
  unfold head
  split
  · cases hr : readH (r.s.drop r.at_) with
    | none => exact fail_ok h _
    | some x =>
      obtain ⟨sz, m, n, o⟩ := x
      have := (readH_some hr).le
      rw [List.length_drop] at this
      obtain ⟨a, b, c⟩ := h
      exact ⟨by show r.at_ + sz ≤ r.s.length; omega, b, c⟩
  · exact h
theorem Head_ok {r : RS} (h : r.ok) : r.Head.1.ok := head_ok ⟨h.1, h.1, h.2.2⟩
theorem Head_n {r : RS} : r.Head.2.2.1 < 18446744073709551616 ∧ r.Head.2.1 ≤ 7 := by
  unfold Head head
  split
  · cases hr : readH _ with
    | none => exact ⟨(by show (0 : Nat) < 18446744073709551616; decide), Nat.zero_le _⟩
    | some x =>
      obtain ⟨sz, m, n, o⟩ := x
      exact ⟨(readH_some hr).n64, (readH_some hr).m7⟩
  · exact ⟨(by show (0 : Nat) < 18446744073709551616; decide), Nat.zero_le _⟩
theorem Uint_ok {r : RS} (h : r.ok) : r.Uint.1.ok := by
  unfold Uint; split
  · exact fail_ok (Head_ok h) _
  · exact Head_ok h
theorem str_ok {r : RS} (h : r.ok) (want : Nat) (most : Int) : (r.str want most).1.ok := by
  have h1 := Head_ok h
  unfold str; split
  · split
    · exact fail_ok h1 _
    · split
      · exact fail_ok h1 _
      · rename_i h2 h3
        obtain ⟨a, b, c⟩ := h1
        refine ⟨?_, b, c⟩
        show r.Head.1.at_ + r.Head.2.2.1 ≤ r.Head.1.s.length
        simp only [not_or, Nat.not_lt] at h2
        omega
  · exact h1
theorem Array_ok {r : RS} (h : r.ok) : r.Array.1.ok := by
  have h1 := Head_ok h
  unfold Array; split
  · split
    · exact fail_ok h1 _
    · split
      · exact h1
      · split
        · exact fail_ok h1 _
        · exact h1
  · exact h1
theorem Fail_ok {r : RS} (h : r.ok) (e : Int) : (r.Fail e).ok := by
  unfold Fail; split
  · exact ⟨h.1, h.2.1, h.2.2⟩
  · exact h
theorem new_ok {s : List UInt8} (h : s.length < 4611686018427387904) : (new s).ok := ⟨Nat.zero_le _, Nat.zero_le _, h⟩
/-- The reference's fail, and its calls. -/
def rf (r : RS) (e : Int) : RS := { r with bad := (r.at_ : Int), e := e }
abbrev Told : Type := Nat × Nat × Bool × List UInt8 × Int
def zero : Told := (0, 0, false, [], 0)
def nx (r : RS) (sz : Nat) : RS := { r with at_ := r.at_ + sz, bad := -1, e := 0 }
def rdo (r : RS) (k : Nat) (N : Int) : RS × Told :=
  if r.e = 0 then
    if k = 5 then (r.rf 9, zero)
    else match readH (r.s.drop r.at_) with
    | none => (r.rf 2, zero)
    | some (sz, m, n, o) =>
      if k = 0 then (r.nx sz, (m, n, o, [], 0))
      else if k = 1 then (if m = 0 then (r.nx sz, (0, n, false, [], 0)) else (r.rf 2, zero))
      else if k = 4 then
        if m = 4 then (if o = true then (r.nx sz, (0, 0, false, [], -1)) else if 1000 < n then (r.rf 4, zero) else (r.nx sz, (0, 0, false, [], (n : Int)))) else (r.rf 2, zero)
      else if m ≠ k ∨ o = true ∨ r.s.length - (r.at_ + sz) < n then (r.rf 2, zero)
      else if N < 0 ∨ N < n then (r.rf 4, zero)
      else (r.nx (sz + n), (0, 0, false, (r.s.drop (r.at_ + sz)).take n, 0))
  else (r, zero)
def call (r : RS) (k : Nat) (N : Int) : RS × Told :=
  if k = 0 then (r.Head.1, (r.Head.2.1, r.Head.2.2.1, r.Head.2.2.2, [], 0))
  else if k = 1 then (r.Uint.1, (0, r.Uint.2, false, [], 0))
  else if k = 2 then ((r.str 2 N).1, (0, 0, false, (r.str 2 N).2, 0))
  else if k = 3 then ((r.str 3 N).1, (0, 0, false, (r.str 3 N).2, 0))
  else if k = 4 then (r.Array.1, (0, 0, false, [], r.Array.2))
  else (r.Fail 9, zero)
/-- Two readers that are alike but for where what is read now began. -/
def sim (a b : RS) : Prop := a.s = b.s ∧ a.at_ = b.at_ ∧ a.bad = b.bad ∧ a.e = b.e
def fresh (r : RS) : Prop := r.e = 0 → r.bad = -1

theorem Head_off {r : RS} (h : r.e ≠ 0) : r.Head = ({ r with fr := r.at_ }, 0, 0, false) := by
  unfold Head head; rw [if_neg (by simpa using h)]
theorem Head_none {r : RS} (h : r.e = 0) (hr : readH (r.s.drop r.at_) = none) : r.Head = (⟨r.s, r.at_, (r.at_ : Int), 2, r.at_⟩, 0, 0, false) := by
  unfold Head head; dsimp only; rw [if_pos h, hr]; unfold fail; dsimp only; rw [if_pos h]
theorem Head_some {r : RS} (h : r.e = 0) {sz m n : Nat} {o : Bool} (hr : readH (r.s.drop r.at_) = some (sz, m, n, o)) : r.Head = (⟨r.s, r.at_ + sz, r.bad, 0, r.at_⟩, m, n, o) := by
  unfold Head head; dsimp only; rw [if_pos h, hr]; rw [h]
theorem call_sim {r : RS} (hf : r.fresh) {k : Nat} (hk : k < 6) (N : Int) : (r.rdo k N).2 = (r.call k N).2 ∧ sim (r.rdo k N).1 (r.call k N).1 := by
  by_cases h : r.e = 0
  case neg =>
    have e := Head_off h
    have e1 : r.rdo k N = (r, zero) := by unfold rdo; rw [if_neg h]
    rw [e1]
    have : k = 0 ∨ k = 1 ∨ k = 2 ∨ k = 3 ∨ k = 4 ∨ k = 5 := by omega
    rcases this with rfl | rfl | rfl | rfl | rfl | rfl <;> simp [call, Uint, str, Array, Fail, e, h, sim, zero]
  have hb := hf h
  have h5 : k = 0 ∨ k = 1 ∨ k = 2 ∨ k = 3 ∨ k = 4 ∨ k = 5 := by omega
  cases hr : readH (r.s.drop r.at_) with
  | none =>
    have e := Head_none h hr
    rcases h5 with rfl | rfl | rfl | rfl | rfl | rfl <;> simp [rdo, call, Uint, str, Array, Fail, e, h, hr, sim, rf, zero]
  | some x =>
    obtain ⟨sz, m, n, o⟩ := x
    have e := Head_some h hr
    rcases h5 with rfl | rfl | rfl | rfl | rfl | rfl
    · simp [rdo, call, e, h, hr, sim, nx, hb]
    · by_cases hm : m = 0 <;> simp [rdo, call, Uint, e, h, hr, sim, nx, hb, hm, rf, fail, zero]
    · by_cases c1 : m ≠ 2 ∨ o = true ∨ r.s.length - (r.at_ + sz) < n
      · simp only [rdo, call, str, e, h, hr, if_true, c1]; simp [sim, rf, fail, zero]
      · by_cases c2 : N < 0 ∨ N < (n : Int)
        · simp only [rdo, call, str, e, h, hr, if_true, c1, c2, if_false]; simp [sim, rf, fail, zero]
        · simp only [rdo, call, str, e, h, hr, if_true, c1, c2, if_false]; simp [sim, nx, hb, Nat.add_assoc]
    · by_cases c1 : m ≠ 3 ∨ o = true ∨ r.s.length - (r.at_ + sz) < n
      · simp only [rdo, call, str, e, h, hr, if_true, c1]; simp [sim, rf, fail, zero]
      · by_cases c2 : N < 0 ∨ N < (n : Int)
        · simp only [rdo, call, str, e, h, hr, if_true, c1, c2, if_false]; simp [sim, rf, fail, zero]
        · simp only [rdo, call, str, e, h, hr, if_true, c1, c2, if_false]; simp [sim, nx, hb, Nat.add_assoc]
    · by_cases hm : m = 4
      · cases o
        · by_cases hn : 1000 < n <;> simp [rdo, call, Array, e, h, hr, sim, nx, hb, hm, rf, fail, zero, hn]
        · simp [rdo, call, Array, e, h, hr, sim, nx, hb, hm]
      · simp [rdo, call, Array, e, h, hr, sim, hm, rf, fail, zero]
    · simp [rdo, call, Fail, h, sim, rf, zero]
end RS
end Go.Proofs.Ytkeabdfgacicaaa


namespace Go.Proofs.Ytkeabdfgacicaaa
open Go.RowKit
set_option linter.unusedVariables false
set_option linter.unusedSimpArgs false

def RS.cells (r : RS) : _root_.Array Value := rdr r.s r.at_ r.bad r.e r.fr
/-- The reader behind a pointer. -/
def RdAt (w : World) (b : Nat) (r : RS) : Prop := Blk w b 159 r.cells
section
variable {w : World} {b : Nat} {r : RS}
theorem RdAt.s (h : RdAt w b r) : w.cell? ⟨b, 0, none⟩ = some (str r.s) := Blk.cell h 0
theorem RdAt.at_ (h : RdAt w b r) : w.cell? ⟨b, 1, none⟩ = some (.int .i64 r.at_) := Blk.cell h 1
theorem RdAt.bad (h : RdAt w b r) : w.cell? ⟨b, 2, none⟩ = some (.int .i64 r.bad) := Blk.cell h 2
theorem RdAt.e (h : RdAt w b r) : w.cell? ⟨b, 3, none⟩ = some (.int .i64 r.e) := Blk.cell h 3
theorem RdAt.fr (h : RdAt w b r) : w.cell? ⟨b, 4, none⟩ = some (.int .i64 r.fr) := Blk.cell h 4
end

theorem beq0_false {x : Int} (h : x ≠ 0) : (x == 0) = false := by simp [h]
set_option maxHeartbeats 400000 in
theorem fail_bad (b : Nat) (r : RS) (e : Int) (h0 : Hid (r.e ≠ 0)) (w : World) (h : RdAt w b r) : Calls Try.prog 111 #[.pointer (some ⟨b, 0, none⟩), .int .i64 e] w fun x w' => x = .returned (.tuple #[]) ∧ w = w' := by
  have c3 := h.e
  have t := beq0_false h0.out
  go_enter Try.func111, Try.ntmps111
  go_wp2
  go_end0
  exact ⟨rfl, rfl⟩
set_option maxHeartbeats 400000 in
theorem fail_good (b : Nat) (r : RS) (e : Int) (h0 : Hid (r.e = 0)) (w : World) (h : RdAt w b r) : Calls Try.prog 111 #[.pointer (some ⟨b, 0, none⟩), .int .i64 e] w
    fun x w' => x = .returned (.tuple #[]) ∧ w' = ((w.setCell ⟨b, 1, none⟩ (.int .i64 r.fr)).setCell ⟨b, 2, none⟩ (.int .i64 r.fr)).setCell ⟨b, 3, none⟩ (.int .i64 e) := by
  have c1 := h.at_
  have c2 := h.bad
  have c3 : w.cell? ⟨b, 3, none⟩ = some (.int .i64 0) := by have := h.e; rw [h0.out] at this; exact this
  have c4 := h.fr
  have f1 := Blk.frozen h 1
  have f2 := Blk.frozen h 2
  have f3 := Blk.frozen h 3
  go_enter Try.func111, Try.ntmps111
  go_wp2
  go_end0
  exact ⟨rfl, rfl⟩
theorem fail_any (b : Nat) (r : RS) (e : Int) (w : World) (h : RdAt w b r) : Calls Try.prog 111 #[.pointer (some ⟨b, 0, none⟩), .int .i64 e] w (RetS [b] (.tuple #[]) (fun w' => RdAt w' b (r.fail e)) w) := by
  by_cases h0 : r.e = 0
  · refine (fail_good b r e h0 w h).mono ?_
    rintro x w' ⟨rfl, rfl⟩
    refine RetS.mk rfl ((((Mod.refl _ _).setCell (.inl (by simp)) _).setCell (.inl (by simp)) _).setCell (.inl (by simp)) _) ?_
    unfold RS.fail
    rw [if_pos h0]
    exact ((Blk.set_ h 1 _).set_ 2 _).set_ 3 _
  · refine (fail_bad b r e h0 w h).mono ?_
    rintro x w' ⟨rfl, rfl⟩
    refine RetS.mk rfl (Mod.refl _ _) ?_
    unfold RS.fail
    rw [if_neg h0]
    exact h

/-! The number of bytes. -/
theorem or_byte_small (n c : Nat) (hc : c < 256) : (n * 256) ||| c = n * 256 + c := by
  rw [show n * 256 = n <<< 8 from by simp [Nat.shiftLeft_eq], ← Nat.shiftLeft_add_eq_or_of_lt (by simpa using hc)]
theorem join_val {n : Nat} (c : UInt8) (h : n < 72057594037927936) : Value.int .u64 (bits .or .u64 (IntKind.u64.wrap ((n : Int) * 256)) (IntKind.u64.wrap (c.toNat : Int))) = .int .u64 ((n * 256 + c.toNat : Nat) : Int) := by
  have hc := c.toNat_lt
  rw [IntWalk.u64_in _ (by omega), IntWalk.u64_in _ (by omega)]
  have := u64_or_nat (n * 256) c.toNat (by omega) (by omega)
  rw [or_byte_small _ _ (by omega)] at this
  rw [← this]; simp
theorem join_step {l : List UInt8} {j q : Nat} {x : UInt8} (hj : j < l.length) (hl : l.length ≤ 8) (hx : l[j] = x) (hq : fromBE (l.take j) = q) :
    Value.int .u64 (bits .or .u64 (IntKind.u64.wrap ((q : Int) * 256)) (IntKind.u64.wrap (x.toNat : Int))) = .int .u64 ((fromBE (l.take (j + 1)) : Nat) : Int) := by
  have hlt := fromBE_lt (l.take j)
  have hle : (l.take j).length ≤ 7 := by rw [List.length_take]; omega
  have hp : 2 ^ (8 * (l.take j).length) ≤ 2 ^ (8 * 7) := Nat.pow_le_pow_right (by omega) (by omega)
  rw [join_val x (by rw [← hq]; exact Nat.lt_of_lt_of_le hlt (by simpa using hp)), List.take_succ_eq_append_getElem hj, fromBE_snoc, hq, hx]
theorem cell_bytesRow (w : World) (l : List UInt8) (cap t : Nat) (fz : Nat × Nat) (j : Nat) (h : j < l.length) :
    (w.alloc (.cells (bytesRow ⟨l.toArray⟩ cap) t fz)).cell? ⟨w.heap.size, j, none⟩ = some (.int .u8 (l[j].toNat : Int)) := by
  rw [World.cell?_alloc_mark]
  simp only [bytesRow]
  rw [Array.getElem?_append_left (by simpa using h)]
  simp [h]
set_option maxHeartbeats 400000 in
theorem join_n (l : List UInt8) (hl : l.length ≤ 8) (w : World) : Calls Try.prog 128 #[str l] w (Ret (.int .u64 (fromBE l)) w) := by
  have hconv := fun (w : World) (s : ByteArray) => run_bytes_of_string (P := Try.prog) w 9 58 5 s Try.underlying9 Try.underlying58 Try.underlying5
  go_enter Try.func128, Try.ntmps128
  go_wp2
  have hext : Ext w ((w.alloc (Obj.cells (bytesRow { data := l.toArray } (grownCap w l.length 0 5)) 5 ((bytesRow { data := l.toArray } (grownCap w l.length 0 5)).size, (bytesRow { data := l.toArray } (grownCap w l.length 0 5)).size + 1))).drew) :=
    ((Mod.refl _ _).alloc _).drew
  have hcell : ∀ j (h : j < l.length), ((w.alloc (Obj.cells (bytesRow { data := l.toArray } (grownCap w l.length 0 5)) 5 ((bytesRow { data := l.toArray } (grownCap w l.length 0 5)).size, (bytesRow { data := l.toArray } (grownCap w l.length 0 5)).size + 1))).drew).cell? ⟨w.heap.size, j, none⟩ = some (.int .u8 (l[j].toNat : Int)) := by
    intro j h
    rw [World.cell?_drew]
    exact cell_bytesRow w l _ _ _ j h
  generalize hW : World.drew (World.alloc w _) = W at *
  have HW := hid hW; clear hW
  have HC := hid hcell; clear hcell
  go_loop [3, 9] (fun n i => ∃ j : Nat, j ≤ l.length ∧ i = .int .i64 j ∧ n = .int .u64 ((fromBE (l.take j) : Nat) : Int)) (fun _ i => l.length - (intOf i).toNat)
  case atStart => exact ⟨0, Nat.zero_le _, rfl, rfl⟩
  case round =>
    obtain ⟨j, hj, rfl, rfl⟩ := hrel
    by_cases hlt : j < l.length
    · have hc := HC.out j hlt
      generalize hx : l[j] = x at *
      generalize hq : fromBE (l.take j) = q at *
      have HX := hid hx; clear hx
      have HQ := hid hq; clear hq
      go_wp2
      go_round
      case rel => exact ⟨j + 1, by omega, by go_num, join_step hlt hl HX.out HQ.out⟩
      case measure => simp [intOf]; omega
    · obtain rfl : j = l.length := by omega
      have ht : l.take l.length = l := List.take_length
      rw [ht]
      go_wp2
      go_ret
      exact ⟨rfl, hext⟩
theorem RdAt.froz {w : World} {b : Nat} {r : RS} (h : RdAt w b r) (i : Nat) : w.frozen? ⟨b, i, none⟩ = false := Blk.frozen h i
theorem extract_str (l : List UInt8) (a b : Nat) : Value.string ((⟨l.toArray⟩ : ByteArray).extract a b) = str ((l.drop a).take (b - a)) := by
  rw [Go.Lib.extract_eq]
theorem extract_rest (l : List UInt8) (a : Nat) : Value.string ((⟨l.toArray⟩ : ByteArray).extract a l.length) = str (l.drop a) := by
  rw [extract_str, List.take_of_length_le]; simp

set_option maxHeartbeats 400000 in
theorem head_off (b : Nat) (r : RS) (h0 : Hid (r.e ≠ 0)) (w : World) (h : RdAt w b r) : Calls Try.prog 108 #[.pointer (some ⟨b, 0, none⟩)] w
    (RetS [b] (.tuple #[.int .i64 0, .int .u64 0, .bool false]) (fun w' => RdAt w' b r) w) := by
  have c3 := h.e
  have t : (r.e != 0) = true := by simp [h0.out]
  go_enter Try.func108, Try.ntmps108
  go_wp2
  go_ret3
  exact RetS.mk rfl (Mod.refl _ _) h
set_option maxHeartbeats 400000 in
theorem head_end (b : Nat) (r : RS) (hok : r.ok) (h0 : Hid (r.e = 0)) (hend : Hid (r.s.drop r.at_ = [])) (w : World) (h : RdAt w b r) : Calls Try.prog 108 #[.pointer (some ⟨b, 0, none⟩)] w
    (RetS [b] (.tuple #[.int .i64 0, .int .u64 0, .bool false]) (fun w' => RdAt w' b (r.fail 2)) w) := by
  have c0 := h.s
  have c1 := h.at_
  have c3 : w.cell? ⟨b, 3, none⟩ = some (.int .i64 0) := by have := h.e; rw [h0.out] at this; exact this
  have b1 := hok.1
  have hx := extract_rest r.s r.at_
  have hx2 := hend.out
  go_enter Try.func108, Try.ntmps108
  go_upto_region 3 with fail
  go_quiet (fail)
  go_wp2_with (go_at_call 111; refine (fail_any b r 2 _ (Blk.drewN h nq)).mono ?_; rintro x w' ⟨rfl, hm, hr⟩)
  go_ret3
  exact RetS.mk rfl (((Mod.refl _ _).drewN nq).trans hm) hr
end Go.Proofs.Ytkeabdfgacicaaa


namespace Go.Proofs.Ytkeabdfgacicaaa
open Go.RowKit
set_option linter.unusedVariables false
set_option linter.unusedSimpArgs false
theorem and_small : ∀ c : Fin 256, bits .and .u8 (c.val : Int) 31 = ((c.val % 32 : Nat) : Int) := by decide +kernel
theorem and31 (c : UInt8) : bits .and .u8 (c.toNat : Int) 31 = ((c.toNat % 32 : Nat) : Int) := and_small ⟨c.toNat, c.toNat_lt⟩
theorem first_div (c : UInt8) (l : List UInt8) {m : Nat} (h : 0 < (⟨(c :: l).toArray⟩ : ByteArray).size) (hm : Hid (c.toNat / 32 = m)) : Value.int .i64 (wrap64 (((⟨(c :: l).toArray⟩ : ByteArray)[0].toNat : Int) / 32)) = .int .i64 (m : Int) := by
  rw [← hm.out]
  show Value.int .i64 (wrap64 ((c.toNat : Int) / 32)) = _
  rw [IntWalk.wrap64_in _ (by have := c.toNat_lt; omega)]; rfl
theorem first_mod (c : UInt8) (l : List UInt8) {k : Nat} (h : 0 < (⟨(c :: l).toArray⟩ : ByteArray).size) (hk : Hid (c.toNat % 32 = k)) : Value.int .i64 (wrap64 (bits .and .u8 ((⟨(c :: l).toArray⟩ : ByteArray)[0].toNat : Int) 31)) = .int .i64 (k : Int) := by
  rw [← hk.out]
  show Value.int .i64 (wrap64 (bits .and .u8 (c.toNat : Int) 31)) = _
  rw [and31, IntWalk.wrap64_in _ (by omega)]
theorem extract_one (c : UInt8) (l : List UInt8) (S : Nat) : Value.string ((⟨(c :: l).toArray⟩ : ByteArray).extract 1 (1 + S)) = str (l.take S) := by
  rw [extract_str, List.drop_succ_cons, List.drop_zero, Nat.add_sub_cancel_left]
set_option maxRecDepth 20000 in
set_option maxHeartbeats 400000 in
theorem head_small (b : Nat) (r : RS) (hok : r.ok) (h0 : Hid (r.e = 0)) (c : UInt8) (l : List UInt8) (hd : Hid (r.s.drop r.at_ = c :: l)) (m k : Nat) (hmm : Hid (c.toNat / 32 = m)) (hkk : Hid (c.toNat % 32 = k)) (hk : Hid (k < 24)) (w : World) (h : RdAt w b r) : Calls Try.prog 108 #[.pointer (some ⟨b, 0, none⟩)] w
    (RetS [b] (.tuple #[.int .i64 (m : Int), .int .u64 (k : Int), .bool false]) (fun w' => RdAt w' b { r with at_ := r.at_ + 1 }) w) := by
  have c0 := h.s
  have c1 := h.at_
  have c3 : w.cell? ⟨b, 3, none⟩ = some (.int .i64 0) := by have := h.e; rw [h0.out] at this; exact this
  have f1 := h.froz 1
  have b1 := hok.1
  have hx := extract_rest r.s r.at_
  have hx2 := hd.out
  go_enter Try.func108, Try.ntmps108
  go_upto_region 3 with fail
  go_quiet (fail)
  go_upto_region 7 with fail
  go_cut [6, 7] (fun s6 s7 wx => s6 = .int .i64 (m : Int) ∧ s7 = .int .i64 (k : Int) ∧ ∃ n, wx = w.drewN n)
  case first =>
    have hlen : (0 : Int) < (l.length : Int) + 1 := by omega
    go_quiet (fail)
    go_wp2_with fail
    go_meet
    exact ⟨first_div c l _ hmm, first_mod c l _ hkk, _, World.drewN_drewN _ _ _⟩
  obtain ⟨rfl, rfl, nw, rfl⟩ := hcut
  clear hx hx2
  have hcn := Blk.drewN h nw
  have hk32 : Hid (k ≤ 31) := by have := hkk.out; unfold Hid; omega
  have hlr : Hid (r.at_ + (l.length + 1) = r.s.length) := by
    have h1 := congrArg List.length hd.out
    rw [List.length_drop, List.length_cons] at h1
    have h2 := hok.1
    unfold Hid; omega
  have hbig := hid hok.2.2
  have t1 : decide ((k : Int) < 24) = true := by have h1 := hk.out; have h2 := hk32.out; simp; omega
  have hw1 : IntKind.u64.wrap (k : Int) = k := IntWalk.u64_in _ (by have := hk32.out; omega)
  have hw2 : wrap64 ((r.at_ : Int) + 1) = ((r.at_ + 1 : Nat) : Int) := IntWalk.wrap64_in _ (by have := hlr.out; have := hbig.out; omega)
  go_wp2
  go_ret3
  exact RetS.mk rfl (((Mod.refl _ _).drewN _).setCell (.inl (by simp)) _) (Blk.set_ hcn 1 _)

set_option maxRecDepth 20000 in
set_option maxHeartbeats 400000 in
theorem head_open (b : Nat) (r : RS) (hok : r.ok) (h0 : Hid (r.e = 0)) (c : UInt8) (l : List UInt8) (hd : Hid (r.s.drop r.at_ = c :: l)) (m k : Nat) (hmm : Hid (c.toNat / 32 = m)) (hkk : Hid (c.toNat % 32 = k)) (hk : Hid (k = 31)) (ho : opensB (m : Int) = true) (w : World) (h : RdAt w b r) : Calls Try.prog 108 #[.pointer (some ⟨b, 0, none⟩)] w
    (RetS [b] (.tuple #[.int .i64 (m : Int), .int .u64 0, .bool true]) (fun w' => RdAt w' b { r with at_ := r.at_ + 1 }) w) := by
  have c0 := h.s
  have c1 := h.at_
  have c3 : w.cell? ⟨b, 3, none⟩ = some (.int .i64 0) := by have := h.e; rw [h0.out] at this; exact this
  have f1 := h.froz 1
  have b1 := hok.1
  have hx := extract_rest r.s r.at_
  have hx2 := hd.out
  go_enter Try.func108, Try.ntmps108
  go_upto_region 3 with fail
  go_quiet (fail)
  go_upto_region 7 with fail
  go_cut [6, 7] (fun s6 s7 wx => s6 = .int .i64 (m : Int) ∧ s7 = .int .i64 (k : Int) ∧ ∃ n, wx = w.drewN n)
  case first =>
    have hlen : (0 : Int) < (l.length : Int) + 1 := by omega
    go_quiet (fail)
    go_wp2_with fail
    go_meet
    exact ⟨first_div c l _ hmm, first_mod c l _ hkk, _, World.drewN_drewN _ _ _⟩
  obtain ⟨rfl, rfl, nw, rfl⟩ := hcut
  clear hx hx2
  have hcn := Blk.drewN h nw
  have hk32 : Hid (k ≤ 31) := by have := hkk.out; unfold Hid; omega
  have hlr : Hid (r.at_ + (l.length + 1) = r.s.length) := by
    have h1 := congrArg List.length hd.out
    rw [List.length_drop, List.length_cons] at h1
    have h2 := hok.1
    unfold Hid; omega
  have hbig := hid hok.2.2
  have t1 : decide ((k : Int) < 24) = false := by have h1 := hk.out; have h2 := hk32.out; simp; omega
  have t2 : ((k : Int) == 31) = true := by have h1 := hk.out; have h2 := hk32.out; simp; omega
  have hw2 : wrap64 ((r.at_ : Int) + 1) = ((r.at_ + 1 : Nat) : Int) := IntWalk.wrap64_in _ (by have := hlr.out; have := hbig.out; omega)
  go_wp2_with (go_at_call 127; refine (opens_any _ _).mono ?_; rintro x w2 ⟨rfl, rfl⟩)
  go_ret3
  exact RetS.mk rfl (((Mod.refl _ _).drewN _).setCell (.inl (by simp)) _) (Blk.set_ hcn 1 _)

set_option maxRecDepth 20000 in
set_option maxHeartbeats 400000 in
theorem head_shut (b : Nat) (r : RS) (hok : r.ok) (h0 : Hid (r.e = 0)) (c : UInt8) (l : List UInt8) (hd : Hid (r.s.drop r.at_ = c :: l)) (m k : Nat) (hmm : Hid (c.toNat / 32 = m)) (hkk : Hid (c.toNat % 32 = k)) (hk : Hid (k = 31)) (ho : opensB (m : Int) = false) (w : World) (h : RdAt w b r) : Calls Try.prog 108 #[.pointer (some ⟨b, 0, none⟩)] w
    (RetS [b] (.tuple #[.int .i64 0, .int .u64 0, .bool false]) (fun w' => RdAt w' b (r.fail 2)) w) := by
  have c0 := h.s
  have c1 := h.at_
  have c3 : w.cell? ⟨b, 3, none⟩ = some (.int .i64 0) := by have := h.e; rw [h0.out] at this; exact this
  have f1 := h.froz 1
  have b1 := hok.1
  have hx := extract_rest r.s r.at_
  have hx2 := hd.out
  go_enter Try.func108, Try.ntmps108
  go_upto_region 3 with fail
  go_quiet (fail)
  go_upto_region 7 with fail
  go_cut [6, 7] (fun s6 s7 wx => s6 = .int .i64 (m : Int) ∧ s7 = .int .i64 (k : Int) ∧ ∃ n, wx = w.drewN n)
  case first =>
    have hlen : (0 : Int) < (l.length : Int) + 1 := by omega
    go_quiet (fail)
    go_wp2_with fail
    go_meet
    exact ⟨first_div c l _ hmm, first_mod c l _ hkk, _, World.drewN_drewN _ _ _⟩
  obtain ⟨rfl, rfl, nw, rfl⟩ := hcut
  clear hx hx2
  have hcn := Blk.drewN h nw
  have hk32 : Hid (k ≤ 31) := by have := hkk.out; unfold Hid; omega
  have hlr : Hid (r.at_ + (l.length + 1) = r.s.length) := by
    have h1 := congrArg List.length hd.out
    rw [List.length_drop, List.length_cons] at h1
    have h2 := hok.1
    unfold Hid; omega
  have hbig := hid hok.2.2
  have t1 : decide ((k : Int) < 24) = false := by have h1 := hk.out; have h2 := hk32.out; simp; omega
  have t2 : ((k : Int) == 31) = true := by have h1 := hk.out; have h2 := hk32.out; simp; omega
  have t3 : decide (28 ≤ (k : Int)) = true := by have h1 := hk.out; have h2 := hk32.out; simp; omega
  go_wp2_with (first | (go_at_call 127; refine (opens_any _ _).mono ?_; rintro x w2 ⟨rfl, rfl⟩) | (go_at_call 111; refine (fail_any b r 2 _ (by exact hcn)).mono ?_; rintro x w1 ⟨rfl, hmf, hrf⟩))
  go_ret3
  exact RetS.mk rfl (((Mod.refl _ _).drewN _).trans hmf) hrf

set_option maxRecDepth 20000 in
set_option maxHeartbeats 400000 in
theorem head_big (b : Nat) (r : RS) (hok : r.ok) (h0 : Hid (r.e = 0)) (c : UInt8) (l : List UInt8) (hd : Hid (r.s.drop r.at_ = c :: l)) (m k : Nat) (hmm : Hid (c.toNat / 32 = m)) (hkk : Hid (c.toNat % 32 = k)) (hk : Hid (28 ≤ k ∧ k ≠ 31)) (w : World) (h : RdAt w b r) : Calls Try.prog 108 #[.pointer (some ⟨b, 0, none⟩)] w
    (RetS [b] (.tuple #[.int .i64 0, .int .u64 0, .bool false]) (fun w' => RdAt w' b (r.fail 2)) w) := by
  have c0 := h.s
  have c1 := h.at_
  have c3 : w.cell? ⟨b, 3, none⟩ = some (.int .i64 0) := by have := h.e; rw [h0.out] at this; exact this
  have f1 := h.froz 1
  have b1 := hok.1
  have hx := extract_rest r.s r.at_
  have hx2 := hd.out
  go_enter Try.func108, Try.ntmps108
  go_upto_region 3 with fail
  go_quiet (fail)
  go_upto_region 7 with fail
  go_cut [6, 7] (fun s6 s7 wx => s6 = .int .i64 (m : Int) ∧ s7 = .int .i64 (k : Int) ∧ ∃ n, wx = w.drewN n)
  case first =>
    have hlen : (0 : Int) < (l.length : Int) + 1 := by omega
    go_quiet (fail)
    go_wp2_with fail
    go_meet
    exact ⟨first_div c l _ hmm, first_mod c l _ hkk, _, World.drewN_drewN _ _ _⟩
  obtain ⟨rfl, rfl, nw, rfl⟩ := hcut
  clear hx hx2
  have hcn := Blk.drewN h nw
  have hk32 : Hid (k ≤ 31) := by have := hkk.out; unfold Hid; omega
  have hlr : Hid (r.at_ + (l.length + 1) = r.s.length) := by
    have h1 := congrArg List.length hd.out
    rw [List.length_drop, List.length_cons] at h1
    have h2 := hok.1
    unfold Hid; omega
  have hbig := hid hok.2.2
  have t1 : decide ((k : Int) < 24) = false := by have h1 := hk.out; have h2 := hk32.out; simp; omega
  have t2 : ((k : Int) == 31) = false := by have h1 := hk.out; have h2 := hk32.out; simp; omega
  have t3 : decide (28 ≤ (k : Int)) = true := by have h1 := hk.out; have h2 := hk32.out; simp; omega
  go_wp2_with (go_at_call 111; refine (fail_any b r 2 _ (by exact hcn)).mono ?_; rintro x w1 ⟨rfl, hmf, hrf⟩)
  go_ret3
  exact RetS.mk rfl (((Mod.refl _ _).drewN _).trans hmf) hrf

set_option maxRecDepth 20000 in
set_option maxHeartbeats 400000 in
theorem head_short (b : Nat) (r : RS) (hok : r.ok) (h0 : Hid (r.e = 0)) (c : UInt8) (l : List UInt8) (hd : Hid (r.s.drop r.at_ = c :: l)) (m k : Nat) (hmm : Hid (c.toNat / 32 = m)) (hkk : Hid (c.toNat % 32 = k)) (S : Nat) (hS : Hid (2 ^ (k - 24) = S)) (hk : Hid (24 ≤ k ∧ k < 28)) (hs : Hid (l.length < S)) (w : World) (h : RdAt w b r) : Calls Try.prog 108 #[.pointer (some ⟨b, 0, none⟩)] w
    (RetS [b] (.tuple #[.int .i64 0, .int .u64 0, .bool false]) (fun w' => RdAt w' b (r.fail 2)) w) := by
  have c0 := h.s
  have c1 := h.at_
  have c3 : w.cell? ⟨b, 3, none⟩ = some (.int .i64 0) := by have := h.e; rw [h0.out] at this; exact this
  have f1 := h.froz 1
  have b1 := hok.1
  have hx := extract_rest r.s r.at_
  have hx2 := hd.out
  go_enter Try.func108, Try.ntmps108
  go_upto_region 3 with fail
  go_quiet (fail)
  go_upto_region 7 with fail
  go_cut [6, 7] (fun s6 s7 wx => s6 = .int .i64 (m : Int) ∧ s7 = .int .i64 (k : Int) ∧ ∃ n, wx = w.drewN n)
  case first =>
    have hlen : (0 : Int) < (l.length : Int) + 1 := by omega
    go_quiet (fail)
    go_wp2_with fail
    go_meet
    exact ⟨first_div c l _ hmm, first_mod c l _ hkk, _, World.drewN_drewN _ _ _⟩
  obtain ⟨rfl, rfl, nw, rfl⟩ := hcut
  clear hx hx2
  have hcn := Blk.drewN h nw
  have hk32 : Hid (k ≤ 31) := by have := hkk.out; unfold Hid; omega
  have hlr : Hid (r.at_ + (l.length + 1) = r.s.length) := by
    have h1 := congrArg List.length hd.out
    rw [List.length_drop, List.length_cons] at h1
    have h2 := hok.1
    unfold Hid; omega
  have hbig := hid hok.2.2
  have t1 : decide ((k : Int) < 24) = false := by have h1 := hk.out; have h2 := hk32.out; simp; omega
  have t2 : ((k : Int) == 31) = false := by have h1 := hk.out; have h2 := hk32.out; simp; omega
  have t3 : decide (28 ≤ (k : Int)) = false := by have h1 := hk.out; have h2 := hk32.out; simp; omega
  go_upto_region 17 with fail
  go_cut [8] (fun s wx => s = .int .i64 (S : Int) ∧ wx = w.drewN nw)
  case first =>
    have hk4 : k = 24 ∨ k = 25 ∨ k = 26 ∨ k = 27 := by have := hk.out; omega
    rcases hk4 with rfl | rfl | rfl | rfl
    all_goals go_wp2
    all_goals go_meet
    all_goals exact ⟨by rw [← hS.out]; rfl, rfl⟩
  obtain ⟨rfl, rfl⟩ := hcut
  have hw3 : wrap64 (1 + (S : Int)) = 1 + (S : Int) := IntWalk.wrap64_in _ (by have := hS.out; have h2 : S ≤ 8 := by { have h1 := hk.out; rw [← hS.out]; exact Nat.le_trans (Nat.pow_le_pow_right (by omega) (show k - 24 ≤ 3 by omega)) (by decide) }; omega)
  have hS8 : Hid (S ≤ 8) := by
    have h1 := hk.out
    unfold Hid
    rw [← hS.out]
    exact Nat.le_trans (Nat.pow_le_pow_right (by omega) (show k - 24 ≤ 3 by omega)) (by decide)
  have t4 : decide ((l.length : Int) + 1 < 1 + (S : Int)) = true := by have := hs.out; simp; omega
  go_wp2_with (go_at_call 111; refine (fail_any b r 2 _ (by exact hcn)).mono ?_; rintro x w1 ⟨rfl, hmf, hrf⟩)
  go_ret3
  exact RetS.mk rfl (((Mod.refl _ _).drewN _).trans hmf) hrf

set_option maxRecDepth 20000 in
set_option maxHeartbeats 400000 in
theorem head_long (b : Nat) (r : RS) (hok : r.ok) (h0 : Hid (r.e = 0)) (c : UInt8) (l : List UInt8) (hd : Hid (r.s.drop r.at_ = c :: l)) (m k : Nat) (hmm : Hid (c.toNat / 32 = m)) (hkk : Hid (c.toNat % 32 = k)) (S : Nat) (hS : Hid (2 ^ (k - 24) = S)) (hk : Hid (24 ≤ k ∧ k < 28)) (n : Nat) (hn : Hid (fromBE (l.take S) = n)) (hs : Hid (S ≤ l.length)) (hc : Hid ((headL m n).length ≠ 1 + S)) (w : World) (h : RdAt w b r) : Calls Try.prog 108 #[.pointer (some ⟨b, 0, none⟩)] w
    (RetS [b] (.tuple #[.int .i64 0, .int .u64 0, .bool false]) (fun w' => RdAt w' b (r.fail 2)) w) := by
  have c0 := h.s
  have c1 := h.at_
  have c3 : w.cell? ⟨b, 3, none⟩ = some (.int .i64 0) := by have := h.e; rw [h0.out] at this; exact this
  have f1 := h.froz 1
  have b1 := hok.1
  have hx := extract_rest r.s r.at_
  have hx2 := hd.out
  go_enter Try.func108, Try.ntmps108
  go_upto_region 3 with fail
  go_quiet (fail)
  go_upto_region 7 with fail
  go_cut [6, 7] (fun s6 s7 wx => s6 = .int .i64 (m : Int) ∧ s7 = .int .i64 (k : Int) ∧ ∃ n, wx = w.drewN n)
  case first =>
    have hlen : (0 : Int) < (l.length : Int) + 1 := by omega
    go_quiet (fail)
    go_wp2_with fail
    go_meet
    exact ⟨first_div c l _ hmm, first_mod c l _ hkk, _, World.drewN_drewN _ _ _⟩
  obtain ⟨rfl, rfl, nw, rfl⟩ := hcut
  clear hx hx2
  have hcn := Blk.drewN h nw
  have hk32 : Hid (k ≤ 31) := by have := hkk.out; unfold Hid; omega
  have hlr : Hid (r.at_ + (l.length + 1) = r.s.length) := by
    have h1 := congrArg List.length hd.out
    rw [List.length_drop, List.length_cons] at h1
    have h2 := hok.1
    unfold Hid; omega
  have hbig := hid hok.2.2
  have t1 : decide ((k : Int) < 24) = false := by have h1 := hk.out; have h2 := hk32.out; simp; omega
  have t2 : ((k : Int) == 31) = false := by have h1 := hk.out; have h2 := hk32.out; simp; omega
  have t3 : decide (28 ≤ (k : Int)) = false := by have h1 := hk.out; have h2 := hk32.out; simp; omega
  go_upto_region 17 with fail
  go_cut [8] (fun s wx => s = .int .i64 (S : Int) ∧ wx = w.drewN nw)
  case first =>
    have hk4 : k = 24 ∨ k = 25 ∨ k = 26 ∨ k = 27 := by have := hk.out; omega
    rcases hk4 with rfl | rfl | rfl | rfl
    all_goals go_wp2
    all_goals go_meet
    all_goals exact ⟨by rw [← hS.out]; rfl, rfl⟩
  obtain ⟨rfl, rfl⟩ := hcut
  have hw3 : wrap64 (1 + (S : Int)) = 1 + (S : Int) := IntWalk.wrap64_in _ (by have := hS.out; have h2 : S ≤ 8 := by { have h1 := hk.out; rw [← hS.out]; exact Nat.le_trans (Nat.pow_le_pow_right (by omega) (show k - 24 ≤ 3 by omega)) (by decide) }; omega)
  have hS8 : Hid (S ≤ 8) := by
    have h1 := hk.out
    unfold Hid
    rw [← hS.out]
    exact Nat.le_trans (Nat.pow_le_pow_right (by omega) (show k - 24 ≤ 3 by omega)) (by decide)
  have t4 : decide ((l.length : Int) + 1 < 1 + (S : Int)) = false := by have := hs.out; simp; omega
  have t5 : (S : Int) ≤ (l.length : Int) := by have := hs.out; omega
  have t6 : (((headL m n).length : Int) == 1 + (S : Int)) = false := by have := hc.out; simp; omega
  have t7 : (((headL m n).length : Int) != 1 + (S : Int)) = true := by have := hc.out; simp; omega
  have hn64 : Hid (n < 18446744073709551616 ∧ m ≤ 7) := by
    have h1 := fromBE_lt (l.take S)
    have h2 : (l.take S).length ≤ 8 := by have := hS8.out; rw [List.length_take]; omega
    have h3 : 2 ^ (8 * (l.take S).length) ≤ 2 ^ (8 * 8) := Nat.pow_le_pow_right (by omega) (by omega)
    rw [hn.out] at h1
    have := c.toNat_lt
    have := hmm.out
    exact ⟨Nat.lt_of_lt_of_le h1 h3, by omega⟩
  have hl8 : Hid ((l.take S).length ≤ 8) := by have := hS8.out; unfold Hid; rw [List.length_take]; omega
  go_wp2_with (first | (go_at_call 128; rw [extract_one]; refine (join_n (l.take S) hl8.out _).mono ?_; rintro x w2 ⟨rfl, hb2⟩; rw [hn.out]) | (go_at_call 60; refine (head_in m n (by omega) (by have := hn64.out; omega) (by omega) (by have := hn64.out; omega) _).mono ?_; rintro x w3 ⟨rfl, hb3⟩; simp only [Int.toNat_natCast]; have hr3 : RdAt w3 b r := (Blk.ext hcn hb2).ext hb3; have c1' := hr3.at_; have f1' := hr3.froz 1) | (go_at_call 111; refine (fail_any b r 2 _ hr3).mono ?_; rintro x w1 ⟨rfl, hmf, hrf⟩))
  go_ret3
  exact RetS.mk rfl ((((((Mod.refl _ _).drewN _).trans hb2.of_ext).trans hb3.of_ext)).trans hmf) hrf

set_option maxRecDepth 20000 in
set_option maxHeartbeats 400000 in
theorem head_good (b : Nat) (r : RS) (hok : r.ok) (h0 : Hid (r.e = 0)) (c : UInt8) (l : List UInt8) (hd : Hid (r.s.drop r.at_ = c :: l)) (m k : Nat) (hmm : Hid (c.toNat / 32 = m)) (hkk : Hid (c.toNat % 32 = k)) (S : Nat) (hS : Hid (2 ^ (k - 24) = S)) (hk : Hid (24 ≤ k ∧ k < 28)) (n : Nat) (hn : Hid (fromBE (l.take S) = n)) (hs : Hid (S ≤ l.length)) (hc : Hid ((headL m n).length = 1 + S)) (w : World) (h : RdAt w b r) : Calls Try.prog 108 #[.pointer (some ⟨b, 0, none⟩)] w
    (RetS [b] (.tuple #[.int .i64 (m : Int), .int .u64 (n : Int), .bool false]) (fun w' => RdAt w' b { r with at_ := r.at_ + (1 + S) }) w) := by
  have c0 := h.s
  have c1 := h.at_
  have c3 : w.cell? ⟨b, 3, none⟩ = some (.int .i64 0) := by have := h.e; rw [h0.out] at this; exact this
  have f1 := h.froz 1
  have b1 := hok.1
  have hx := extract_rest r.s r.at_
  have hx2 := hd.out
  go_enter Try.func108, Try.ntmps108
  go_upto_region 3 with fail
  go_quiet (fail)
  go_upto_region 7 with fail
  go_cut [6, 7] (fun s6 s7 wx => s6 = .int .i64 (m : Int) ∧ s7 = .int .i64 (k : Int) ∧ ∃ n, wx = w.drewN n)
  case first =>
    have hlen : (0 : Int) < (l.length : Int) + 1 := by omega
    go_quiet (fail)
    go_wp2_with fail
    go_meet
    exact ⟨first_div c l _ hmm, first_mod c l _ hkk, _, World.drewN_drewN _ _ _⟩
  obtain ⟨rfl, rfl, nw, rfl⟩ := hcut
  clear hx hx2
  have hcn := Blk.drewN h nw
  have hk32 : Hid (k ≤ 31) := by have := hkk.out; unfold Hid; omega
  have hlr : Hid (r.at_ + (l.length + 1) = r.s.length) := by
    have h1 := congrArg List.length hd.out
    rw [List.length_drop, List.length_cons] at h1
    have h2 := hok.1
    unfold Hid; omega
  have hbig := hid hok.2.2
  have t1 : decide ((k : Int) < 24) = false := by have h1 := hk.out; have h2 := hk32.out; simp; omega
  have t2 : ((k : Int) == 31) = false := by have h1 := hk.out; have h2 := hk32.out; simp; omega
  have t3 : decide (28 ≤ (k : Int)) = false := by have h1 := hk.out; have h2 := hk32.out; simp; omega
  go_upto_region 17 with fail
  go_cut [8] (fun s wx => s = .int .i64 (S : Int) ∧ wx = w.drewN nw)
  case first =>
    have hk4 : k = 24 ∨ k = 25 ∨ k = 26 ∨ k = 27 := by have := hk.out; omega
    rcases hk4 with rfl | rfl | rfl | rfl
    all_goals go_wp2
    all_goals go_meet
    all_goals exact ⟨by rw [← hS.out]; rfl, rfl⟩
  obtain ⟨rfl, rfl⟩ := hcut
  have hw3 : wrap64 (1 + (S : Int)) = 1 + (S : Int) := IntWalk.wrap64_in _ (by have := hS.out; have h2 : S ≤ 8 := by { have h1 := hk.out; rw [← hS.out]; exact Nat.le_trans (Nat.pow_le_pow_right (by omega) (show k - 24 ≤ 3 by omega)) (by decide) }; omega)
  have hS8 : Hid (S ≤ 8) := by
    have h1 := hk.out
    unfold Hid
    rw [← hS.out]
    exact Nat.le_trans (Nat.pow_le_pow_right (by omega) (show k - 24 ≤ 3 by omega)) (by decide)
  have t4 : decide ((l.length : Int) + 1 < 1 + (S : Int)) = false := by have := hs.out; simp; omega
  have t5 : (S : Int) ≤ (l.length : Int) := by have := hs.out; omega
  have t6 : (((headL m n).length : Int) == 1 + (S : Int)) = true := by have := hc.out; simp; omega
  have t7 : (((headL m n).length : Int) != 1 + (S : Int)) = false := by have := hc.out; simp; omega
  have hw4 : wrap64 ((r.at_ : Int) + (1 + (S : Int))) = ((r.at_ + (1 + S) : Nat) : Int) := IntWalk.wrap64_in _ (by have := hlr.out; have := hbig.out; have := hS8.out; omega)
  have hn64 : Hid (n < 18446744073709551616 ∧ m ≤ 7) := by
    have h1 := fromBE_lt (l.take S)
    have h2 : (l.take S).length ≤ 8 := by have := hS8.out; rw [List.length_take]; omega
    have h3 : 2 ^ (8 * (l.take S).length) ≤ 2 ^ (8 * 8) := Nat.pow_le_pow_right (by omega) (by omega)
    rw [hn.out] at h1
    have := c.toNat_lt
    have := hmm.out
    exact ⟨Nat.lt_of_lt_of_le h1 h3, by omega⟩
  have hl8 : Hid ((l.take S).length ≤ 8) := by have := hS8.out; unfold Hid; rw [List.length_take]; omega
  go_wp2_with (first | (go_at_call 128; rw [extract_one]; refine (join_n (l.take S) hl8.out _).mono ?_; rintro x w2 ⟨rfl, hb2⟩; rw [hn.out]) | (go_at_call 60; refine (head_in m n (by omega) (by have := hn64.out; omega) (by omega) (by have := hn64.out; omega) _).mono ?_; rintro x w3 ⟨rfl, hb3⟩; simp only [Int.toNat_natCast]; have hr3 : RdAt w3 b r := (Blk.ext hcn hb2).ext hb3; have c1' := hr3.at_; have f1' := hr3.froz 1) | (go_at_call 111; refine (fail_any b r 2 _ hr3).mono ?_; rintro x w1 ⟨rfl, hmf, hrf⟩))
  go_ret3
  exact RetS.mk rfl (((((Mod.refl _ _).drewN _).trans hb2.of_ext).trans hb3.of_ext).setCell (.inl (by simp)) _) (Blk.set_ hr3 1 _)

end Go.Proofs.Ytkeabdfgacicaaa


namespace Go.Proofs.Ytkeabdfgacicaaa
open Go.RowKit
set_option linter.unusedVariables false
set_option linter.unusedSimpArgs false

theorem head_of {b : Nat} {w : World} {r r' : RS} {m n : Nat} {o : Bool} (hm : r.head = (r', m, n, o))
    (h : Calls Try.prog 108 #[.pointer (some ⟨b, 0, none⟩)] w (RetS [b] (.tuple #[.int .i64 (m : Int), .int .u64 (n : Int), .bool o]) (fun w' => RdAt w' b r') w)) :
    Calls Try.prog 108 #[.pointer (some ⟨b, 0, none⟩)] w
      (RetS [b] (.tuple #[.int .i64 (r.head.2.1 : Int), .int .u64 (r.head.2.2.1 : Int), .bool r.head.2.2.2]) (fun w' => RdAt w' b r.head.1) w) := by
  rw [hm]; exact h
theorem head_any_r (b : Nat) (r : RS) (hok : r.ok) (w : World) (h : RdAt w b r) : Calls Try.prog 108 #[.pointer (some ⟨b, 0, none⟩)] w
    (RetS [b] (.tuple #[.int .i64 (r.head.2.1 : Int), .int .u64 (r.head.2.2.1 : Int), .bool r.head.2.2.2]) (fun w' => RdAt w' b r.head.1) w) := by
  by_cases h0 : r.e = 0
  case neg => exact head_of (by unfold RS.head; rw [if_neg h0]) (head_off b r h0 w h)
  cases hd : r.s.drop r.at_ with
  | nil => exact head_of (by unfold RS.head; rw [if_pos h0, hd]; rfl) (head_end b r hok h0 hd w h)
  | cons c l =>
    have hc := c.toNat_lt
    by_cases h1 : c.toNat % 32 < 24
    · exact head_of (by unfold RS.head; rw [if_pos h0, hd]; unfold readH; dsimp only; rw [if_pos h1]) (head_small b r hok h0 c l hd _ _ rfl rfl h1 w h)
    by_cases h2 : c.toNat % 32 = 31
    · cases ho : opensB ((c.toNat / 32 : Nat) : Int)
      · exact head_of (by unfold RS.head; rw [if_pos h0, hd]; unfold readH; dsimp only; rw [if_neg h1, if_neg (by rw [ho]; simp), if_pos (by omega)]) (head_shut b r hok h0 c l hd _ _ rfl rfl h2 ho w h)
      · exact head_of (by unfold RS.head; rw [if_pos h0, hd]; unfold readH; dsimp only; rw [if_neg h1, if_pos ⟨h2, ho⟩]) (head_open b r hok h0 c l hd _ _ rfl rfl h2 ho w h)
    by_cases h3 : 28 ≤ c.toNat % 32
    · exact head_of (by unfold RS.head; rw [if_pos h0, hd]; unfold readH; dsimp only; rw [if_neg h1, if_neg (fun x => h2 x.1), if_pos h3]) (head_big b r hok h0 c l hd _ _ rfl rfl ⟨h3, h2⟩ w h)
    by_cases h4 : l.length < 2 ^ (c.toNat % 32 - 24)
    · exact head_of (by unfold RS.head; rw [if_pos h0, hd]; unfold readH; dsimp only; rw [if_neg h1, if_neg (fun x => h2 x.1), if_neg h3, if_pos h4]) (head_short b r hok h0 c l hd _ _ rfl rfl _ rfl ⟨by omega, by omega⟩ h4 w h)
    by_cases h5 : (headL (c.toNat / 32) (fromBE (l.take (2 ^ (c.toNat % 32 - 24))))).length = 1 + 2 ^ (c.toNat % 32 - 24)
    · exact head_of (by unfold RS.head; rw [if_pos h0, hd]; unfold readH; dsimp only; rw [if_neg h1, if_neg (fun x => h2 x.1), if_neg h3, if_neg h4, if_pos h5]) (head_good b r hok h0 c l hd _ _ rfl rfl _ rfl ⟨by omega, by omega⟩ _ rfl (Nat.le_of_not_lt h4) h5 w h)
    · exact head_of (by unfold RS.head; rw [if_pos h0, hd]; unfold readH; dsimp only; rw [if_neg h1, if_neg (fun x => h2 x.1), if_neg h3, if_neg h4, if_neg h5]) (head_long b r hok h0 c l hd _ _ rfl rfl _ rfl ⟨by omega, by omega⟩ _ rfl (Nat.le_of_not_lt h4) h5 w h)

set_option maxRecDepth 20000 in
set_option maxHeartbeats 400000 in
theorem Head_any_r (b : Nat) (r : RS) (hok : r.ok) (w : World) (h : RdAt w b r) : Calls Try.prog 72 #[.pointer (some ⟨b, 0, none⟩)] w
    (RetS [b] (.tuple #[.int .i64 (r.Head.2.1 : Int), .int .u64 (r.Head.2.2.1 : Int), .bool r.Head.2.2.2]) (fun w' => RdAt w' b r.Head.1) w) := by
  have c1 := h.at_
  have c4 := h.fr
  have f4 := h.froz 4
  have hs : RdAt (w.setCell ⟨b, 4, none⟩ (.int .i64 (r.at_ : Int))) b { r with fr := r.at_ } := Blk.set_ h 4 _
  have hok2 : RS.ok { r with fr := r.at_ } := ⟨hok.1, hok.1, hok.2.2⟩
  go_enter Try.func72, Try.ntmps72
  go_wp2_with (go_at_call 108; refine (head_any_r b _ hok2 _ hs).mono ?_; rintro x w1 ⟨rfl, hm, hr⟩)
  go_ret3
  exact RetS.mk rfl (((Mod.refl _ _).setCell (.inl (by simp)) _).trans hm) hr

set_option maxRecDepth 20000 in
set_option maxHeartbeats 400000 in
theorem At_any (b : Nat) (r : RS) (w : World) (h : RdAt w b r) : Calls Try.prog 74 #[.pointer (some ⟨b, 0, none⟩)] w fun e w' => e = .returned (.int .i64 r.at_) ∧ w = w' := by
  have c1 := h.at_
  go_enter Try.func74, Try.ntmps74
  go_wp2
  go_ret
  exact ⟨rfl, rfl⟩
set_option maxRecDepth 20000 in
set_option maxHeartbeats 400000 in
theorem Array_e (b : Nat) (r : RS) (hok : r.ok) (he : Hid (r.Head.1.e ≠ 0)) (w : World) (h : RdAt w b r) : Calls Try.prog 76 #[.pointer (some ⟨b, 0, none⟩)] w (RetS [b] (.int .i64 0) (fun w' => RdAt w' b r.Head.1) w) := by
  have te : (r.Head.1.e != 0) = true := by have := he.out; simp [this]
  go_enter Try.func76, Try.ntmps76
  go_wp2_with (go_at_call 72; refine (Head_any_r b r hok _ h).mono ?_; rintro x w1 ⟨rfl, hm1, hr1⟩; have c0 := hr1.s; have c1 := hr1.at_; have c3 := hr1.e; have f1 := hr1.froz 1)
  go_ret
  exact RetS.mk rfl hm1 hr1

set_option maxRecDepth 20000 in
set_option maxHeartbeats 400000 in
theorem Array_m (b : Nat) (r : RS) (hok : r.ok) (he : Hid (r.Head.1.e = 0)) (hm : Hid (r.Head.2.1 ≠ 4)) (w : World) (h : RdAt w b r) : Calls Try.prog 76 #[.pointer (some ⟨b, 0, none⟩)] w (RetS [b] (.int .i64 0) (fun w' => RdAt w' b (r.Head.1.fail 2)) w) := by
  have te : (r.Head.1.e != 0) = false := by have := he.out; simp [this]
  have tm : ((r.Head.2.1 : Int) != 4) = true := by have := hm.out; simp; omega
  go_enter Try.func76, Try.ntmps76
  go_wp2_with (first | (go_at_call 72; refine (Head_any_r b r hok _ h).mono ?_; rintro x w1 ⟨rfl, hm1, hr1⟩; have c0 := hr1.s; have c1 := hr1.at_; have c3 := hr1.e; have f1 := hr1.froz 1) | (go_at_call 111; refine (fail_any b r.Head.1 2 _ (by first | exact hr1 | exact Blk.drewN hr1 _)).mono ?_; rintro x w2 ⟨rfl, hm2, hr2⟩))
  go_ret
  exact RetS.mk rfl (hm1.trans hm2) hr2

set_option maxRecDepth 20000 in
set_option maxHeartbeats 400000 in
theorem Array_o (b : Nat) (r : RS) (hok : r.ok) (he : Hid (r.Head.1.e = 0)) (hm : Hid (r.Head.2.1 = 4)) (ho : r.Head.2.2.2 = true) (w : World) (h : RdAt w b r) : Calls Try.prog 76 #[.pointer (some ⟨b, 0, none⟩)] w (RetS [b] (.int .i64 (-1)) (fun w' => RdAt w' b r.Head.1) w) := by
  have te : (r.Head.1.e != 0) = false := by have := he.out; simp [this]
  have tm : ((r.Head.2.1 : Int) != 4) = false := by have := hm.out; simp; omega
  go_enter Try.func76, Try.ntmps76
  go_wp2_with (go_at_call 72; refine (Head_any_r b r hok _ h).mono ?_; rintro x w1 ⟨rfl, hm1, hr1⟩; have c0 := hr1.s; have c1 := hr1.at_; have c3 := hr1.e; have f1 := hr1.froz 1)
  go_ret
  exact RetS.mk rfl hm1 hr1

set_option maxRecDepth 20000 in
set_option maxHeartbeats 400000 in
theorem Array_l (b : Nat) (r : RS) (hok : r.ok) (he : Hid (r.Head.1.e = 0)) (hm : Hid (r.Head.2.1 = 4)) (ho : r.Head.2.2.2 = false) (hn : Hid (1000 < r.Head.2.2.1)) (w : World) (h : RdAt w b r) : Calls Try.prog 76 #[.pointer (some ⟨b, 0, none⟩)] w (RetS [b] (.int .i64 0) (fun w' => RdAt w' b (r.Head.1.fail 4)) w) := by
  have te : (r.Head.1.e != 0) = false := by have := he.out; simp [this]
  have tm : ((r.Head.2.1 : Int) != 4) = false := by have := hm.out; simp; omega
  have tn : decide (1000 < (r.Head.2.2.1 : Int)) = true := by have := hn.out; simp; omega
  go_enter Try.func76, Try.ntmps76
  go_wp2_with (first | (go_at_call 72; refine (Head_any_r b r hok _ h).mono ?_; rintro x w1 ⟨rfl, hm1, hr1⟩; have c0 := hr1.s; have c1 := hr1.at_; have c3 := hr1.e; have f1 := hr1.froz 1) | (go_at_call 111; refine (fail_any b r.Head.1 4 _ (by first | exact hr1 | exact Blk.drewN hr1 _)).mono ?_; rintro x w2 ⟨rfl, hm2, hr2⟩))
  go_ret
  exact RetS.mk rfl (hm1.trans hm2) hr2

set_option maxRecDepth 20000 in
set_option maxHeartbeats 400000 in
theorem Array_g (b : Nat) (r : RS) (hok : r.ok) (he : Hid (r.Head.1.e = 0)) (hm : Hid (r.Head.2.1 = 4)) (ho : r.Head.2.2.2 = false) (hn : Hid (¬ 1000 < r.Head.2.2.1)) (w : World) (h : RdAt w b r) : Calls Try.prog 76 #[.pointer (some ⟨b, 0, none⟩)] w (RetS [b] (.int .i64 (r.Head.2.2.1 : Int)) (fun w' => RdAt w' b r.Head.1) w) := by
  have te : (r.Head.1.e != 0) = false := by have := he.out; simp [this]
  have tm : ((r.Head.2.1 : Int) != 4) = false := by have := hm.out; simp; omega
  have tn : decide (1000 < (r.Head.2.2.1 : Int)) = false := by have := hn.out; simp; omega
  have hw : Hid (wrap64 (r.Head.2.2.1 : Int) = (r.Head.2.2.1 : Int)) := IntWalk.wrap64_in _ (by have := hn.out; omega)
  go_enter Try.func76, Try.ntmps76
  go_wp2_with (go_at_call 72; refine (Head_any_r b r hok _ h).mono ?_; rintro x w1 ⟨rfl, hm1, hr1⟩; have c0 := hr1.s; have c1 := hr1.at_; have c3 := hr1.e; have f1 := hr1.froz 1)
  go_ret
  exact RetS.mk (congrArg (Value.int .i64) hw.out) hm1 hr1

theorem Array_any (b : Nat) (r : RS) (hok : r.ok) (w : World) (h : RdAt w b r) : Calls Try.prog 76 #[.pointer (some ⟨b, 0, none⟩)] w (RetS [b] (.int .i64 r.Array.2) (fun w' => RdAt w' b r.Array.1) w) := by
  by_cases he : r.Head.1.e = 0
  · by_cases hm : r.Head.2.1 = 4
    · cases ho : r.Head.2.2.2
      · by_cases hn : 1000 < r.Head.2.2.1
        · have e : r.Array = (r.Head.1.fail 4, 0) := by unfold RS.Array; rw [if_pos he, if_neg (fun x => x hm), if_neg (by simp [ho]), if_pos hn]
          rw [e]; exact Array_l b r hok he hm ho hn w h
        · have e : r.Array = (r.Head.1, (r.Head.2.2.1 : Int)) := by unfold RS.Array; rw [if_pos he, if_neg (fun x => x hm), if_neg (by simp [ho]), if_neg hn]
          rw [e]; exact Array_g b r hok he hm ho hn w h
      · have e : r.Array = (r.Head.1, -1) := by unfold RS.Array; rw [if_pos he, if_neg (fun x => x hm), if_pos ho]
        rw [e]; exact Array_o b r hok he hm ho w h
    · have e : r.Array = (r.Head.1.fail 2, 0) := by unfold RS.Array; rw [if_pos he, if_pos hm]
      rw [e]; exact Array_m b r hok he hm w h
  · have e : r.Array = (r.Head.1, 0) := by unfold RS.Array; rw [if_neg he]
    rw [e]; exact Array_e b r hok he w h

set_option maxRecDepth 20000 in
set_option maxHeartbeats 400000 in
theorem str_e (b : Nat) (r : RS) (hok : r.ok) (want : Nat) (most : Int) (he : Hid (r.Head.1.e ≠ 0)) (w : World) (h : RdAt w b r) : Calls Try.prog 129 #[.pointer (some ⟨b, 0, none⟩), .int .i64 (want : Int), .int .i64 most] w (RetS [b] (str []) (fun w' => RdAt w' b r.Head.1) w) := by
  have te : (r.Head.1.e != 0) = true := by have := he.out; simp [this]
  go_enter Try.func129, Try.ntmps129
  go_wp2_with (go_at_call 72; refine (Head_any_r b r hok _ h).mono ?_; rintro x w1 ⟨rfl, hm1, hr1⟩; have c0 := hr1.s; have c1 := hr1.at_; have c3 := hr1.e; have f1 := hr1.froz 1)
  go_ret
  exact RetS.mk rfl hm1 hr1

set_option maxRecDepth 20000 in
set_option maxHeartbeats 400000 in
theorem str_m (b : Nat) (r : RS) (hok : r.ok) (want : Nat) (most : Int) (he : Hid (r.Head.1.e = 0)) (hm : Hid (r.Head.2.1 ≠ want)) (w : World) (h : RdAt w b r) : Calls Try.prog 129 #[.pointer (some ⟨b, 0, none⟩), .int .i64 (want : Int), .int .i64 most] w (RetS [b] (str []) (fun w' => RdAt w' b (r.Head.1.fail 2)) w) := by
  have te : (r.Head.1.e != 0) = false := by have := he.out; simp [this]
  have tm : ((r.Head.2.1 : Int) != (want : Int)) = true := by have := hm.out; simp; omega
  go_enter Try.func129, Try.ntmps129
  go_upto_region 4 with (go_at_call 72; refine (Head_any_r b r hok _ h).mono ?_; rintro x w1 ⟨rfl, hm1, hr1⟩; have c0 := hr1.s; have c1 := hr1.at_; have c3 := hr1.e; have f1 := hr1.froz 1)
  go_quiet (fail)
  go_wp2_with (go_at_call 111; refine (fail_any b r.Head.1 2 _ (by first | exact hr1 | exact Blk.drewN hr1 _)).mono ?_; rintro x w2 ⟨rfl, hm2, hr2⟩)
  go_ret
  exact RetS.mk rfl ((hm1.drewN _).trans hm2) hr2

set_option maxRecDepth 20000 in
set_option maxHeartbeats 400000 in
theorem str_o (b : Nat) (r : RS) (hok : r.ok) (want : Nat) (most : Int) (he : Hid (r.Head.1.e = 0)) (hm : Hid (r.Head.2.1 = want)) (ho : r.Head.2.2.2 = true) (w : World) (h : RdAt w b r) : Calls Try.prog 129 #[.pointer (some ⟨b, 0, none⟩), .int .i64 (want : Int), .int .i64 most] w (RetS [b] (str []) (fun w' => RdAt w' b (r.Head.1.fail 2)) w) := by
  have te : (r.Head.1.e != 0) = false := by have := he.out; simp [this]
  have tm : ((r.Head.2.1 : Int) != (want : Int)) = false := by have := hm.out; simp; omega
  go_enter Try.func129, Try.ntmps129
  go_upto_region 4 with (go_at_call 72; refine (Head_any_r b r hok _ h).mono ?_; rintro x w1 ⟨rfl, hm1, hr1⟩; have c0 := hr1.s; have c1 := hr1.at_; have c3 := hr1.e; have f1 := hr1.froz 1)
  go_quiet (fail)
  go_wp2_with (go_at_call 111; refine (fail_any b r.Head.1 2 _ (by first | exact hr1 | exact Blk.drewN hr1 _)).mono ?_; rintro x w2 ⟨rfl, hm2, hr2⟩)
  go_ret
  exact RetS.mk rfl ((hm1.drewN _).trans hm2) hr2

set_option maxRecDepth 20000 in
set_option maxHeartbeats 400000 in
theorem str_s (b : Nat) (r : RS) (hok : r.ok) (want : Nat) (most : Int) (he : Hid (r.Head.1.e = 0)) (hm : Hid (r.Head.2.1 = want)) (ho : r.Head.2.2.2 = false) (hn : Hid (r.Head.1.s.length - r.Head.1.at_ < r.Head.2.2.1)) (w : World) (h : RdAt w b r) : Calls Try.prog 129 #[.pointer (some ⟨b, 0, none⟩), .int .i64 (want : Int), .int .i64 most] w (RetS [b] (str []) (fun w' => RdAt w' b (r.Head.1.fail 2)) w) := by
  have te : (r.Head.1.e != 0) = false := by have := he.out; simp [this]
  have tm : ((r.Head.2.1 : Int) != (want : Int)) = false := by have := hm.out; simp; omega
  have hok1 := RS.Head_ok hok
  have hle := hid hok1.1
  have hbig := hid hok1.2.2
  have hw : IntKind.u64.wrap (wrap64 ((r.Head.1.s.length : Int) - (r.Head.1.at_ : Int))) = (r.Head.1.s.length : Int) - (r.Head.1.at_ : Int) := by
    have h1 := hle.out; have h2 := hbig.out
    rw [IntWalk.wrap64_in _ (by omega), IntWalk.u64_in _ (by omega)]
  have tn : decide ((r.Head.1.s.length : Int) - (r.Head.1.at_ : Int) < (r.Head.2.2.1 : Int)) = true := by have h1 := hn.out; have h2 := hle.out; simp; omega
  go_enter Try.func129, Try.ntmps129
  go_upto_region 4 with (go_at_call 72; refine (Head_any_r b r hok _ h).mono ?_; rintro x w1 ⟨rfl, hm1, hr1⟩; have c0 := hr1.s; have c1 := hr1.at_; have c3 := hr1.e; have f1 := hr1.froz 1)
  go_quiet (fail)
  go_wp2_with (go_at_call 111; refine (fail_any b r.Head.1 2 _ (by first | exact hr1 | exact Blk.drewN hr1 _)).mono ?_; rintro x w2 ⟨rfl, hm2, hr2⟩)
  go_ret
  exact RetS.mk rfl ((hm1.drewN _).trans hm2) hr2

set_option maxRecDepth 20000 in
set_option maxHeartbeats 400000 in
theorem str_l1 (b : Nat) (r : RS) (hok : r.ok) (want : Nat) (most : Int) (he : Hid (r.Head.1.e = 0)) (hm : Hid (r.Head.2.1 = want)) (ho : r.Head.2.2.2 = false) (hn : Hid (¬ r.Head.1.s.length - r.Head.1.at_ < r.Head.2.2.1)) (hl : Hid (most < 0)) (w : World) (h : RdAt w b r) : Calls Try.prog 129 #[.pointer (some ⟨b, 0, none⟩), .int .i64 (want : Int), .int .i64 most] w (RetS [b] (str []) (fun w' => RdAt w' b (r.Head.1.fail 4)) w) := by
  have te : (r.Head.1.e != 0) = false := by have := he.out; simp [this]
  have tm : ((r.Head.2.1 : Int) != (want : Int)) = false := by have := hm.out; simp; omega
  have hok1 := RS.Head_ok hok
  have hle := hid hok1.1
  have hbig := hid hok1.2.2
  have hw : IntKind.u64.wrap (wrap64 ((r.Head.1.s.length : Int) - (r.Head.1.at_ : Int))) = (r.Head.1.s.length : Int) - (r.Head.1.at_ : Int) := by
    have h1 := hle.out; have h2 := hbig.out
    rw [IntWalk.wrap64_in _ (by omega), IntWalk.u64_in _ (by omega)]
  have tn : decide ((r.Head.1.s.length : Int) - (r.Head.1.at_ : Int) < (r.Head.2.2.1 : Int)) = false := by have h1 := hn.out; have h2 := hle.out; simp; omega
  have t1 : decide (most < 0) = true := by have := hl.out; simp; omega
  go_enter Try.func129, Try.ntmps129
  go_upto_region 4 with (go_at_call 72; refine (Head_any_r b r hok _ h).mono ?_; rintro x w1 ⟨rfl, hm1, hr1⟩; have c0 := hr1.s; have c1 := hr1.at_; have c3 := hr1.e; have f1 := hr1.froz 1)
  go_quiet (fail)
  go_wp2_with (go_at_call 111; refine (fail_any b r.Head.1 4 _ (by first | exact hr1 | exact Blk.drewN hr1 _)).mono ?_; rintro x w2 ⟨rfl, hm2, hr2⟩)
  go_ret
  exact RetS.mk rfl ((hm1.drewN _).trans hm2) hr2

set_option maxRecDepth 20000 in
set_option maxHeartbeats 400000 in
theorem str_l2 (b : Nat) (r : RS) (hok : r.ok) (want : Nat) (most : Int) (hmb : Hid (most < 9223372036854775808)) (he : Hid (r.Head.1.e = 0)) (hm : Hid (r.Head.2.1 = want)) (ho : r.Head.2.2.2 = false) (hn : Hid (¬ r.Head.1.s.length - r.Head.1.at_ < r.Head.2.2.1)) (hl : Hid (0 ≤ most ∧ most < (r.Head.2.2.1 : Int))) (w : World) (h : RdAt w b r) : Calls Try.prog 129 #[.pointer (some ⟨b, 0, none⟩), .int .i64 (want : Int), .int .i64 most] w (RetS [b] (str []) (fun w' => RdAt w' b (r.Head.1.fail 4)) w) := by
  have te : (r.Head.1.e != 0) = false := by have := he.out; simp [this]
  have tm : ((r.Head.2.1 : Int) != (want : Int)) = false := by have := hm.out; simp; omega
  have hok1 := RS.Head_ok hok
  have hle := hid hok1.1
  have hbig := hid hok1.2.2
  have hw : IntKind.u64.wrap (wrap64 ((r.Head.1.s.length : Int) - (r.Head.1.at_ : Int))) = (r.Head.1.s.length : Int) - (r.Head.1.at_ : Int) := by
    have h1 := hle.out; have h2 := hbig.out
    rw [IntWalk.wrap64_in _ (by omega), IntWalk.u64_in _ (by omega)]
  have tn : decide ((r.Head.1.s.length : Int) - (r.Head.1.at_ : Int) < (r.Head.2.2.1 : Int)) = false := by have h1 := hn.out; have h2 := hle.out; simp; omega
  have t1 : decide (most < 0) = false := by have := hl.out; simp; omega
  have hwm : IntKind.u64.wrap most = most := IntWalk.u64_in _ (by have h1 := hl.out; have h2 := hmb.out; omega)
  have t2 : decide (most < (r.Head.2.2.1 : Int)) = true := by have := hl.out; simp; omega
  go_enter Try.func129, Try.ntmps129
  go_upto_region 4 with (go_at_call 72; refine (Head_any_r b r hok _ h).mono ?_; rintro x w1 ⟨rfl, hm1, hr1⟩; have c0 := hr1.s; have c1 := hr1.at_; have c3 := hr1.e; have f1 := hr1.froz 1)
  go_quiet (fail)
  go_wp2_with (go_at_call 111; refine (fail_any b r.Head.1 4 _ (by first | exact hr1 | exact Blk.drewN hr1 _)).mono ?_; rintro x w2 ⟨rfl, hm2, hr2⟩)
  go_ret
  exact RetS.mk rfl ((hm1.drewN _).trans hm2) hr2

set_option maxRecDepth 20000 in
set_option maxHeartbeats 400000 in
theorem str_g (b : Nat) (r : RS) (hok : r.ok) (want : Nat) (most : Int) (hmb : Hid (most < 9223372036854775808)) (he : Hid (r.Head.1.e = 0)) (hm : Hid (r.Head.2.1 = want)) (ho : r.Head.2.2.2 = false) (hn : Hid (¬ r.Head.1.s.length - r.Head.1.at_ < r.Head.2.2.1)) (hl : Hid (0 ≤ most ∧ (r.Head.2.2.1 : Int) ≤ most)) (w : World) (h : RdAt w b r) : Calls Try.prog 129 #[.pointer (some ⟨b, 0, none⟩), .int .i64 (want : Int), .int .i64 most] w (RetS [b] (str ((r.Head.1.s.drop r.Head.1.at_).take r.Head.2.2.1)) (fun w' => RdAt w' b { r.Head.1 with at_ := r.Head.1.at_ + r.Head.2.2.1 }) w) := by
  have te : (r.Head.1.e != 0) = false := by have := he.out; simp [this]
  have tm : ((r.Head.2.1 : Int) != (want : Int)) = false := by have := hm.out; simp; omega
  have hok1 := RS.Head_ok hok
  have hle := hid hok1.1
  have hbig := hid hok1.2.2
  have hw : IntKind.u64.wrap (wrap64 ((r.Head.1.s.length : Int) - (r.Head.1.at_ : Int))) = (r.Head.1.s.length : Int) - (r.Head.1.at_ : Int) := by
    have h1 := hle.out; have h2 := hbig.out
    rw [IntWalk.wrap64_in _ (by omega), IntWalk.u64_in _ (by omega)]
  have tn : decide ((r.Head.1.s.length : Int) - (r.Head.1.at_ : Int) < (r.Head.2.2.1 : Int)) = false := by have h1 := hn.out; have h2 := hle.out; simp; omega
  have t1 : decide (most < 0) = false := by have := hl.out; simp; omega
  have hwm : IntKind.u64.wrap most = most := IntWalk.u64_in _ (by have h1 := hl.out; have h2 := hmb.out; omega)
  have t2 : decide (most < (r.Head.2.2.1 : Int)) = false := by have := hl.out; simp; omega
  have hw1 : wrap64 (r.Head.2.2.1 : Int) = (r.Head.2.2.1 : Int) := IntWalk.wrap64_in _ (by have h1 := hn.out; have h2 := hbig.out; omega)
  have hw2 : wrap64 ((r.Head.1.at_ : Int) + (r.Head.2.2.1 : Int)) = ((r.Head.1.at_ + r.Head.2.2.1 : Nat) : Int) := IntWalk.wrap64_in _ (by have h1 := hn.out; have h2 := hbig.out; have h3 := hle.out; omega)
  have hsl : (r.Head.1.at_ : Int) + (r.Head.2.2.1 : Int) ≤ (r.Head.1.s.length : Int) := by have h1 := hn.out; have h3 := hle.out; omega
  have hex : Hid (_ = _) := (extract_str r.Head.1.s r.Head.1.at_ (r.Head.1.at_ + r.Head.2.2.1)).trans (by rw [Nat.add_sub_cancel_left])
  go_enter Try.func129, Try.ntmps129
  go_upto_region 4 with (go_at_call 72; refine (Head_any_r b r hok _ h).mono ?_; rintro x w1 ⟨rfl, hm1, hr1⟩; have c0 := hr1.s; have c1 := hr1.at_; have c3 := hr1.e; have f1 := hr1.froz 1)
  go_quiet (fail)
  go_upto_region 10 with fail
  go_quiet (fail)
  go_wp2
  go_ret
  exact RetS.mk hex.out ((hm1.drewN _).setCell (.inl (List.mem_singleton.2 rfl)) _) (Blk.set_ (Blk.drewN hr1 _) 1 _)

theorem str_any (b : Nat) (r : RS) (hok : r.ok) (want : Nat) (most : Int) (hmb : most < 9223372036854775808) (w : World) (h : RdAt w b r) : Calls Try.prog 129 #[.pointer (some ⟨b, 0, none⟩), .int .i64 (want : Int), .int .i64 most] w (RetS [b] (str (r.str want most).2) (fun w' => RdAt w' b (r.str want most).1) w) := by
  by_cases he : r.Head.1.e = 0
  · by_cases hm : r.Head.2.1 = want
    · cases ho : r.Head.2.2.2
      · by_cases hn : r.Head.1.s.length - r.Head.1.at_ < r.Head.2.2.1
        · have e : r.str want most = (r.Head.1.fail 2, []) := by unfold RS.str; rw [if_pos he, if_pos (.inr (.inr hn))]
          rw [e]; exact str_s b r hok want most he hm ho hn w h
        · have hno : ¬ (r.Head.2.1 ≠ want ∨ r.Head.2.2.2 = true ∨ r.Head.1.s.length - r.Head.1.at_ < r.Head.2.2.1) := by rw [ho]; simp [hm, hn]
          by_cases h1 : most < 0
          · have e : r.str want most = (r.Head.1.fail 4, []) := by unfold RS.str; rw [if_pos he, if_neg hno, if_pos (.inl h1)]
            rw [e]; exact str_l1 b r hok want most he hm ho hn h1 w h
          · by_cases h2 : most < (r.Head.2.2.1 : Int)
            · have e : r.str want most = (r.Head.1.fail 4, []) := by unfold RS.str; rw [if_pos he, if_neg hno, if_pos (.inr h2)]
              rw [e]; exact str_l2 b r hok want most hmb he hm ho hn ⟨by omega, h2⟩ w h
            · have e : r.str want most = ({ r.Head.1 with at_ := r.Head.1.at_ + r.Head.2.2.1 }, (r.Head.1.s.drop r.Head.1.at_).take r.Head.2.2.1) := by
                unfold RS.str; rw [if_pos he, if_neg hno, if_neg (by rintro (x | x); exact h1 x; exact h2 x)]
              rw [e]; exact str_g b r hok want most hmb he hm ho hn ⟨by omega, by omega⟩ w h
      · have e : r.str want most = (r.Head.1.fail 2, []) := by unfold RS.str; rw [if_pos he, if_pos (.inr (.inl ho))]
        rw [e]; exact str_o b r hok want most he hm ho w h
    · have e : r.str want most = (r.Head.1.fail 2, []) := by unfold RS.str; rw [if_pos he, if_pos (.inl hm)]
      rw [e]; exact str_m b r hok want most he hm w h
  · have e : r.str want most = (r.Head.1, []) := by unfold RS.str; rw [if_neg he]
    rw [e]; exact str_e b r hok want most he w h

set_option maxRecDepth 20000 in
set_option maxHeartbeats 400000 in
theorem RBytes_any (b : Nat) (r : RS) (hok : r.ok) (most : Int) (hmb : Hid (most < 9223372036854775808)) (w : World) (h : RdAt w b r) : Calls Try.prog 109 #[.pointer (some ⟨b, 0, none⟩), .int .i64 most] w (RetS [b] (str (r.str 2 most).2) (fun w' => RdAt w' b (r.str 2 most).1) w) := by
  go_enter Try.func109, Try.ntmps109
  go_wp2_with (go_at_call 129; refine (str_any b r hok 2 most hmb.out _ h).mono ?_; rintro x w1 ⟨rfl, hm, hr⟩)
  go_ret
  exact RetS.mk rfl hm hr

set_option maxRecDepth 20000 in
set_option maxHeartbeats 400000 in
theorem RText_any (b : Nat) (r : RS) (hok : r.ok) (most : Int) (hmb : Hid (most < 9223372036854775808)) (w : World) (h : RdAt w b r) : Calls Try.prog 110 #[.pointer (some ⟨b, 0, none⟩), .int .i64 most] w (RetS [b] (str (r.str 3 most).2) (fun w' => RdAt w' b (r.str 3 most).1) w) := by
  go_enter Try.func110, Try.ntmps110
  go_wp2_with (go_at_call 129; refine (str_any b r hok 3 most hmb.out _ h).mono ?_; rintro x w1 ⟨rfl, hm, hr⟩)
  go_ret
  exact RetS.mk rfl hm hr

set_option maxRecDepth 20000 in
set_option maxHeartbeats 400000 in
theorem Bad_any (b : Nat) (r : RS) (w : World) (h : RdAt w b r) : Calls Try.prog 73 #[.pointer (some ⟨b, 0, none⟩)] w (Ret (.tuple #[.int .i64 r.bad, .int .i64 r.e]) w) := by
  have c2 := h.bad
  have c3 := h.e
  go_enter Try.func73, Try.ntmps73
  go_upto_region 1 with fail
  go_quiet (fail)
  go_wp2
  go_ret2
  exact Ret.mk rfl ((Mod.refl _ _).drewN _)
end Go.Proofs.Ytkeabdfgacicaaa


namespace Go.Proofs.Ytkeabdfgacicaaa
set_option linter.unusedVariables false
set_option linter.unusedSimpArgs false

/-- An array's items from e on, the number of those that may still come being j of a thousand. -/
def floop (f : List UInt8 → Nat × Int) (l : List UInt8) (o : Bool) (n : Nat) : Nat → Nat → Nat × Int
  | 0, e => if o = false ∧ n ≤ 1000 then (e, 0) else if o = true ∧ l[e]? = some 255 then (e + 1, 0) else (e, 4)
  | j + 1, e => if o = false ∧ n ≤ 1000 - (j + 1) then (e, 0) else if o = true ∧ l[e]? = some 255 then (e + 1, 0) else
      if (f (l.drop e)).2 = 0 then floop f l o n j (e + (f (l.drop e)).1) else (e + (f (l.drop e)).1, (f (l.drop e)).2)
/-- No item's kind. -/
def noK (m : Nat) : Bool := m != 0 && m != 2 && m != 3 && m != 4
/-- Place and error. -/
def flt : Nat → List UInt8 → Nat × Int
  | 0, l => match readH l with
    | none => (0, 2)
    | some (sz, m, n, o) => if noK m = true then (0, 2) else (0, 3)
  | d + 1, l => match readH l with
    | none => (0, 2)
    | some (sz, m, n, o) => if noK m = true then (0, 2) else if m = 0 then (sz, 0) else
        if m < 4 then (if o = true ∨ l.length - sz < n then (0, 2) else (sz + n, 0)) else
        if o = false ∧ 1000 < n then (0, 4) else floop (flt d) l o n 1000 sz

theorem floop_le {f : List UInt8 → Nat × Int} (hf : ∀ l, (f l).1 ≤ l.length) (l : List UInt8) (o : Bool) (n : Nat) : ∀ j e, e ≤ l.length → (floop f l o n j e).1 ≤ l.length := by
  intro j
  induction j with
  | zero =>
    intro e he
    unfold floop
    split
    · exact he
    · split
      · rename_i h; exact (List.getElem?_eq_some_iff.1 h.2).1
      · exact he
  | succ j ih =>
    intro e he
    have h1 := hf (l.drop e)
    rw [List.length_drop] at h1
    unfold floop
    split
    · exact he
    · split
      · rename_i h; exact (List.getElem?_eq_some_iff.1 h.2).1
      · split
        · exact ih _ (by omega)
        · show e + (f (l.drop e)).1 ≤ l.length; omega
theorem flt_le (d : Nat) : ∀ l, (flt d l).1 ≤ l.length := by
  induction d with
  | zero =>
    intro l
    unfold flt
    split
    · exact Nat.zero_le _
    · split <;> exact Nat.zero_le _
  | succ d ih =>
    intro l
    unfold flt
    split
    · exact Nat.zero_le _
    · rename_i sz m n o hr
      have h1 := (readH_some hr).le
      split
      · exact Nat.zero_le _
      · split
        · exact h1
        · split
          · split
            · exact Nat.zero_le _
            · show sz + n ≤ l.length; rename_i h; simp only [not_or, Nat.not_lt] at h; omega
          · split
            · exact Nat.zero_le _
            · exact floop_le ih l o n 1000 sz h1

theorem cat_split (f : Nat → List UInt8) {i k : Nat} (h : i ≤ k) : ∃ r, T.cat f k = T.cat f i ++ r := by
  induction k with
  | zero => obtain rfl : i = 0 := by omega
            exact ⟨[], by simp⟩
  | succ k ih =>
    by_cases e : i = k + 1
    · subst e; exact ⟨[], by simp⟩
    · obtain ⟨r, hr⟩ := ih (by omega)
      exact ⟨r ++ f k, by rw [T.cat, hr, List.append_assoc]⟩
theorem pre_split (kind : Int) (s : List UInt8) (op : Bool) (kk : Nat) (ch : Nat → T) {i k : Nat} (h : i ≤ k) : ∃ r, pre kind s op kk ch k = pre kind s op kk ch i ++ r := by
  obtain ⟨r, hr⟩ := cat_split (fun i => (ch i).bytes) h
  exact ⟨r, by unfold pre; rw [hr, List.append_assoc]⟩
theorem get_255 {l : List UInt8} {e : Nat} : l[e]? = some 255 ↔ ∃ v, l.drop e = 255 :: v := by
  rw [← List.head?_drop]
  cases l.drop e with
  | nil => simp
  | cons x v => simp

theorem readH_255 {t : List UInt8} {sz m n : Nat} {o : Bool} (h : readH t = some (sz, m, n, o)) : (m = 7 ∧ o = true) ↔ ∃ v, t = 255 :: v := by
  constructor
  · rintro ⟨rfl, rfl⟩
    unfold readH at h
    match t, h with
    | c :: r, h =>
      have hc := c.toNat_lt
      dsimp only at h
      split at h
      · simp at h
      · split at h
        · rename_i h1
          simp only [Option.some.injEq, Prod.mk.injEq] at h
          have e : c.toNat = 255 := by omega
          refine ⟨r, ?_⟩
          rw [← b8_toNat c, e]; rfl
        · split at h
          · cases h
          · split at h
            · cases h
            · split at h
              · simp at h
              · cases h
  · rintro ⟨v, rfl⟩
    rw [T.readH_break] at h
    simp only [Option.some.injEq, Prod.mk.injEq] at h
    exact ⟨h.2.1.symm, h.2.2.2.symm⟩

theorem flt_bytes (t : T) : ∀ d, t.right d = true → t.ok → ∀ x, flt d (t.bytes ++ x) = (t.bytes.length, 0) := by
  induction t with
  | nil => intro d h hok; cases hok
  | mk kind n s op k ch ih =>
    intro d h hok x
    have hp : (T.mk kind n s op k ch).plain = true := by rw [T.right_eq] at h; simp at h; exact h.2
    have hr := T.readH_bytes _ hp hok x
    cases d with
    | zero => unfold T.right at h; simp at h
    | succ d =>
      unfold T.right at h
      rw [if_neg (by omega), Bool.and_eq_true, T.all_iff] at h
      obtain ⟨h1, h2⟩ := h
      simp only [Nat.add_sub_cancel] at h2
      have hkd := T.node_kind h1
      unfold T.ok at hok
      unfold flt
      rw [hr]
      unfold T.plain at hp
      rw [Bool.and_eq_true, T.all_iff] at hp
      rcases hkd with rfl | rfl | rfl | rfl
      · simp only [T.hd, if_true]
        unfold T.node at h1
        simp at h1
        obtain ⟨⟨rfl, rfl⟩, rfl⟩ := h1
        simp [noK, T.bytes]
      · unfold T.node at h1
        simp at h1
        obtain ⟨⟨rfl, rfl⟩, rfl⟩ := h1
        simp [T.hd, noK, T.bytes]
      · unfold T.node at h1
        simp at h1
        obtain ⟨⟨rfl, rfl⟩, rfl⟩ := h1
        simp [T.hd, noK, T.bytes]
      · unfold T.node at h1
        simp at h1
        obtain ⟨⟨rfl, rfl⟩, hk⟩ := h1
        rw [pre_end]
        have key : ∀ m i, i + m = k → floop (flt d) (pre 4 [] op k ch k ++ (if op then [255] else []) ++ x) op (if op then 0 else k) (1000 - i) (pre 4 [] op k ch i).length = ((pre 4 [] op k ch k ++ (if op then [255] else [])).length, 0) := by
          intro m
          induction m with
          | zero =>
            intro i hi
            obtain rfl : i = k := by omega
            cases op
            · simp only [Bool.false_eq_true, if_false, List.append_nil]
              cases hj : 1000 - i with
              | zero => unfold floop; rw [if_pos ⟨rfl, by omega⟩]
              | succ j => unfold floop; rw [if_pos ⟨rfl, by omega⟩]
            · simp only [if_true]
              have h255 : (pre 4 [] true i ch i ++ [255] ++ x)[(pre 4 [] true i ch i).length]? = some 255 := get_255.2 ⟨x, by rw [List.append_assoc, List.drop_left]; rfl⟩
              cases hj : 1000 - i with
              | zero => unfold floop; rw [if_neg (by simp), if_pos ⟨rfl, h255⟩, List.length_append]; rfl
              | succ j => unfold floop; rw [if_neg (by simp), if_pos ⟨rfl, h255⟩, List.length_append]; rfl
          | succ m ihm =>
            intro i hi
            have hik : i < k := by omega
            have e1 : 1000 - i = (1000 - (i + 1)) + 1 := by omega
            obtain ⟨r, hr⟩ := pre_split 4 [] op k ch (show i + 1 ≤ k by omega)
            have hd : (pre 4 [] op k ch k ++ (if op then [255] else []) ++ x).drop (pre 4 [] op k ch i).length = (ch i).bytes ++ (r ++ ((if op then [255] else []) ++ x)) := by
              rw [hr, pre_succ, List.append_assoc, List.append_assoc, List.append_assoc, List.drop_left]
            have hc := ih i d (h2 i hik) (hok.2.2.2.2 i hik) (r ++ ((if op then [255] else []) ++ x))
            rw [e1]
            unfold floop
            rw [if_neg (by intro h; obtain ⟨h3, h4⟩ := h; subst h3; simp at h4; omega), if_neg (by
              rintro ⟨_, h4⟩
              obtain ⟨v, hv⟩ := get_255.1 h4
              rw [hd] at hv
              exact T.bytes_not_break (ch i) (hp.2 i hik) (hok.2.2.2.2 i hik) _ _ hv), hd, hc, if_pos rfl]
            have := ihm (i + 1) (by omega)
            rw [pre_succ, List.length_append] at this
            exact this
        have h0 := key k 0 (by omega)
        cases op
        · have e : (pre 4 [] false k ch 0).length = (headL 4 k).length := by simp [pre, T.cat]
          rw [e] at h0
          have eh : (T.mk 4 0 [] false k ch).hd = ((headL 4 k).length, 4, k, false) := rfl
          rw [eh]
          dsimp only
          rw [if_neg (by decide), if_neg (by decide), if_neg (by decide), if_neg (by rintro ⟨_, h⟩; omega)]
          exact h0
        · have eh : (T.mk 4 0 [] true k ch).hd = (1, 4, 0, true) := rfl
          rw [eh]
          dsimp only
          rw [if_neg (by decide), if_neg (by decide), if_neg (by decide), if_neg (by rintro ⟨h, _⟩; cases h)]
          exact h0
end Go.Proofs.Ytkeabdfgacicaaa


namespace Go.Proofs.Ytkeabdfgacicaaa
open Go.RowKit
set_option linter.unusedVariables false
set_option linter.unusedSimpArgs false

/-- A parser behind a pointer: its bytes, its place, its error. -/
def PAt (w : World) (g : Nat) (l : List UInt8) (p : Nat) (e : Int) : Prop := Blk w g 87 #[str l, .int .i64 (p : Int), .int .i64 e]
section
variable {w : World} {g : Nat} {l : List UInt8} {p : Nat} {x : Int}
theorem PAt.b (h : PAt w g l p x) : w.cell? ⟨g, 0, none⟩ = some (str l) := Blk.cell h 0
theorem PAt.at_ (h : PAt w g l p x) : w.cell? ⟨g, 1, none⟩ = some (.int .i64 (p : Int)) := Blk.cell h 1
theorem PAt.err (h : PAt w g l p x) : w.cell? ⟨g, 2, none⟩ = some (.int .i64 x) := Blk.cell h 2
theorem PAt.froz (h : PAt w g l p x) (i : Nat) : w.frozen? ⟨g, i, none⟩ = false := Blk.frozen h i
end

theorem head_255 {t : List UInt8} : t.head? = some 255 ↔ ∃ v, t = 255 :: v := by
  cases t with
  | nil => simp
  | cons x v => simp
theorem new_break (t : List UInt8) : (decide (((RS.new t).Head.2.1 : Int) = 7) && (RS.new t).Head.2.2.2) = decide (t.head? = some 255) := by
  cases hr : readH t with
  | none =>
    rw [RS.Head_none (r := RS.new t) rfl hr]
    have : ¬ t.head? = some 255 := fun h => by
      obtain ⟨v, rfl⟩ := head_255.1 h
      rw [T.readH_break] at hr; cases hr
    rw [decide_eq_false this]
    rfl
  | some x =>
    obtain ⟨sz, m, n, o⟩ := x
    rw [RS.Head_some (r := RS.new t) rfl hr]
    have h := readH_255 hr
    rw [Bool.eq_iff_iff, Bool.and_eq_true, decide_eq_true_iff, decide_eq_true_iff, head_255, ← h]
    constructor
    · rintro ⟨a, b⟩; exact ⟨by have : (m : Int) = 7 := a; omega, b⟩
    · rintro ⟨a, b⟩; subst a; exact ⟨rfl, b⟩
theorem new_break2 (l : List UInt8) (p : Nat) : (decide (((RS.new (l.drop p)).Head.2.1 : Int) = 7) && (RS.new (l.drop p)).Head.2.2.2) = decide (l[p]? = some 255) := by
  rw [new_break, Bool.eq_iff_iff, decide_eq_true_iff, decide_eq_true_iff, List.head?_drop]

/-- No item. -/
def nulT : T := T.mk 0 0 [] false 0 fun _ => T.nil

set_option maxRecDepth 20000 in
set_option maxHeartbeats 400000 in
theorem pfail_any (g : Nat) (l : List UInt8) (p q : Nat) (e : Int) (w : World) (h : PAt w g l p 0) :
    Calls Try.prog 42 #[.pointer (some ⟨g, 0, none⟩), .int .i64 (q : Int), .int .i64 e] w (RetS [g] (itemV nulT none 0) (fun w' => PAt w' g l q e) w) := by
  have c1 := h.at_
  have c2 := h.err
  have f1 := h.froz 1
  have f2 := h.froz 2
  have hg : g < w.heap.size := Blk.lt h
  have H := hid h
  clear h
  go_enter Try.func42, Try.ntmps42
  go_wp2
  refine bodyPost_ret (v := itemV nulT none 0) (by simp [results, Try.results42, go_sem]; exact ⟨rfl, rfl, rfl, rfl, rfl⟩) rfl (RetS.mk rfl ?_ ?_)
  · exact ((((Mod.refl _ _).setCell (.inl (by simp)) _).setCell (.inl (by simp)) _).alloc _)
  · exact Blk.alloc (Blk.set_ (Blk.set_ H.out 1 (.int .i64 (q : Int))) 2 (.int .i64 e)) _

set_option maxRecDepth 20000 in
set_option maxHeartbeats 400000 in
theorem preader_any (g : Nat) (l : List UInt8) (p : Nat) (e : Int) (hp : Hid (p ≤ l.length ∧ l.length ≤ 1073741824)) (w : World) (h : PAt w g l p e) :
    Calls Try.prog 71 #[.pointer (some ⟨g, 0, none⟩)] w fun x w' => x = .returned (.pointer (some ⟨w.heap.size, 0, none⟩)) ∧ Ext w w' ∧ RdAt w' w.heap.size (RS.new (l.drop p)) := by
  have c0 := h.b
  have c1 := h.at_
  have hp0 : (0 : Int) ≤ (p : Int) := by omega
  have hp1 : (p : Int) ≤ (l.length : Int) := by have := hp.out; omega
  have hl1 : (l.length : Int) ≤ 1073741824 := by have := hp.out; omega
  go_enter Try.func71, Try.ntmps71
  go_upto_region 1 with fail
  go_region_held3 (fun w' => w'.cell? ⟨g, 0, none⟩ = some (str l) ∧ w'.cell? ⟨g, 1, none⟩ = some (.int .i64 (p : Int))) (go_keep)
    ((go_at_call 107; rw [extract_rest]; refine (newReader_any (l.drop p) _).mono ?_; rintro x w' ⟨rfl, rfl⟩))
  all_goals go_wp2_with fail
  all_goals go_ret
  all_goals exact ⟨rfl, by first | exact ((Mod.refl _ _).alloc _) | exact ((Mod.refl _ _).alloc _).drew | exact ((Mod.refl _ _).drew.alloc _).drew | exact ((Mod.refl _ _).drew.alloc _), Blk.new _ _ _⟩

set_option maxRecDepth 20000 in
set_option maxHeartbeats 400000 in
theorem broken_any (g : Nat) (l : List UInt8) (p : Nat) (e : Int) (hp : Hid (p ≤ l.length ∧ l.length ≤ 1073741824)) (w : World) (h : PAt w g l p e) :
    Calls Try.prog 112 #[.pointer (some ⟨g, 0, none⟩)] w (Ret (.bool (decide (l[p]? = some 255))) w) := by
  have hr : Hid (RS.ok (RS.new (l.drop p))) := RS.new_ok (by have := hp.out; rw [List.length_drop]; omega)
  go_enter Try.func112, Try.ntmps112
  go_wp2_with fail
  refine (preader_any g l p e hp _ h).mono ?_
  rintro x w1 ⟨rfl, hb1, hr1⟩
  go_wp2_with fail
  refine (Head_any_r _ _ hr.out _ hr1).mono ?_
  rintro x w2 ⟨rfl, hm2, hr2⟩
  have HB := hid (new_break2 l p)
  generalize (RS.new (List.drop p l)).Head.2.2.2 = o at *
  generalize (RS.new (List.drop p l)).Head.2.1 = m at *
  have hz : Ext w w2 := Mod.new (S := [w.heap.size]) ((hb1.of_ext).trans hm2) (fun k hk => by rw [List.mem_singleton] at hk; subst hk; exact .inr (Nat.le_refl _))
  go_wp2_with fail
  · rename_i h7
    go_ret
    refine Ret.mk ?_ hz
    rw [← HB.out]; simp [h7]
  · rename_i h7
    go_ret
    refine Ret.mk ?_ hz
    rw [← HB.out]; simp [h7]
end Go.Proofs.Ytkeabdfgacicaaa


namespace Go.Proofs.Ytkeabdfgacicaaa
open Go.RowKit
set_option linter.unusedVariables false
set_option linter.unusedSimpArgs false

section
variable {P : Program} (w : World)
/-- append to a row of the call's own: the row's block is the same, or new. -/
theorem run_append_own2 (base : Nat) (t ty e : TypeId) (i : TypeInfo) (z : Value) (size bytes : Nat) (ht : P.underlying t = some (.slice e)) (hi : P.info? e = some i) (hz : i.zero = some z)
    (hsize : i.size = size) (hby : i.bytes = bytes) (hzs : z.cells.size = size) (hsz : 0 < size)
    (v : Value) (n : Nat) (xs : List Value) (hown : w.ownsRow base e size v n xs)
    (a : Addr) (m c : Nat) (news : List Value) (hl : news.length = m * size) (hnews : ∀ j u, news[j]? = some u → w.cell? (a.add j) = some u) (h1 : ∀ u ∈ news, u.oneCell' = true)
    (h63 : n + m ≤ maxLen) (hbytes : (n + m) * bytes ≤ 140737488355328) (hbase : base ≤ w.heap.size) :
    ∃ v' w', (Builtin.append_ #[t, t] ty #[v, .slice (some a) m c]).run P w = .ok v' w' ∧ w'.ownsRow base e size v' (n + m) (xs ++ news) ∧ w.grownBy w' v.ownBlock ∧
      (v'.ownBlock = v.ownBlock ∨ ∀ k, v'.ownBlock = some k → w.heap.size ≤ k) := by
  obtain ⟨v', w', hr, h2, h3, h4⟩ := run_append_own (P := P) w base t ty e i z size bytes ht hi hz hsize hby hzs hsz v n xs hown a m c news hl hnews h1 h63 hbytes hbase
  refine ⟨v', w', hr, h2, h3, ?_⟩
  have hown0 := hown
  rcases hown.2 with ⟨rfl, rfl⟩ | ⟨g, cap, cur, rfl, hbg, hg, hnc, hcm, hcs, htake⟩
  · have hx : xs = [] := List.eq_nil_of_length_eq_zero (by simpa using hown.1)
    subst hx
    obtain ⟨v2, w2, hr2, g2, _, _⟩ := run_append_own (P := P) w w.heap.size t ty e i z size bytes ht hi hz hsize hby hzs hsz _ _ _ (World.ownsRow_nil w w.heap.size e size) a m c news hl hnews h1 h63 hbytes (Nat.le_refl _)
    rw [hr] at hr2
    simp only [Result.ok.injEq] at hr2
    obtain ⟨rfl, rfl⟩ := hr2
    exact .inr fun k hk => (g2.lt k hk).1
  · subst hsize
    subst hby
    have hsmall : n + m ≤ 9223372036854775807 := by simp only [maxLen] at h63; omega
    by_cases hroom : n + m ≤ cap
    · have hfit : n * i.size + news.length ≤ cur.size := by rw [hl, hcs, ← Nat.add_mul]; exact Nat.mul_le_mul_right _ hroom
      have hr2 := run_append_room (P := P) w t ty e i ht hi g n cap cur hg a m c news hl hnews h1 hroom hfit
      rw [hr] at hr2
      simp only [Result.ok.injEq] at hr2
      obtain ⟨rfl, rfl⟩ := hr2
      exact .inl rfl
    · have holds : ∀ j u, xs[j]? = some u → w.cell? ((⟨g, 0, none⟩ : Addr).add j) = some u := hown.cells (g := g) rfl
      have hr2 := run_append_grow (P := P) w t ty e i z ht hi hz ⟨g, 0, none⟩ n cap xs hown.1 holds a m c news hl hnews (by omega) (by omega) (growslice_fits (by omega) hbytes)
      rw [hr] at hr2
      simp only [Result.ok.injEq] at hr2
      obtain ⟨rfl, rfl⟩ := hr2
      exact .inr fun k hk => by simp [Value.ownBlock] at hk; omega
theorem wpList_append_own2 {ops : Array Oper} {rest : List Oper} {o : Oper} {a : Act} {Q : Exit → Act → World → Prop} (hgd : o.guard = none) (s x : Operand) (t : TypeId)
    (ho : o.op = .call { callee := .builtin .append, args := #[s, x], argTypes := #[t, t] })
    (base : Nat) (e : TypeId) (i : TypeInfo) (z : Value) (size bytes : Nat) (ht : P.underlying t = some (.slice e)) (hi : P.info? e = some i) (hz : i.zero = some z)
    (hsize : i.size = size) (hby : i.bytes = bytes) (hzs : z.cells.size = size) (hsz : 0 < size)
    (v : Value) (n : Nat) (xs : List Value) (hs : a.eval s = v) (hown : w.ownsRow base e size v n xs)
    (ad : Addr) (m c : Nat) (news : List Value) (hx : a.eval x = .slice (some ad) m c) (hl : news.length = m * size) (hnews : ∀ j u, news[j]? = some u → w.cell? (ad.add j) = some u) (h1 : ∀ u ∈ news, u.oneCell' = true)
    (h63 : n + m ≤ maxLen) (hbytes : (n + m) * bytes ≤ 140737488355328) (hbase : base ≤ w.heap.size)
    (h : ∀ v' w', w'.ownsRow base e size v' (n + m) (xs ++ news) → w.grownBy w' v.ownBlock → (v'.ownBlock = v.ownBlock ∨ ∀ k, v'.ownBlock = some k → w.heap.size ≤ k) → wpList P ops Q rest (a.put o.dst v') w') : wpList P ops Q (o :: rest) a w :=
  wpList_plain hgd fun K hK => by
    obtain ⟨v', w', hr, h2, h3, h4⟩ := run_append_own2 (P := P) w base t o.type e i z size bytes ht hi hz hsize hby hzs hsz v n xs hown ad m c news hl hnews h1 h63 hbytes hbase
    unfold Oper.wp execOp
    simp only [ho, resolve, invoke, builtin, Sem.run_bind, Sem.run_pure, Result.andThen_ok, List.map_toArray, List.map_cons, List.map_nil, hs, hx, hr]
    exact hK _ _ (h v' w' h2 h3 h4)
end

/-- What a round keeps: i items have come, as far as e. -/
structure LOk (w : World) (g X N p : Nat) (l : List UInt8) (o : Bool) (n d sz : Nat) (F : Nat × Int) (wr : World) (i e : Nat) (A : Option Addr) (c : Nat) (ch : Nat → T) (ac : Nat → Option Addr × Nat) : Prop where
  i1000 : i ≤ 1000
  iN : o = false → i ≤ n
  fl : floop (flt d) (l.drop p) o n (1000 - i) e = F
  le : p + e ≤ l.length
  cat : (l.drop p).drop sz = T.cat (fun j => (ch j).bytes) i ++ (l.drop p).drop e
  kids : ∀ j, j < i → (ch j).right d = true ∧ (ch j).ok
  mod : Mod [g] w wr
  nx : N ≤ wr.heap.size
  x : Blk wr X 48 #[.int .i64 4, .int .u64 0, str [], .slice A i c, .bool o]
  pa : PAt wr g l (p + e) 0
  own : wr.ownsRow N 48 5 (.slice A i c) i (flatC ch ac i)
  mem : ∀ j, j < i → IsL wr (fun b => N ≤ b ∧ A ≠ some ⟨b, 0, none⟩) (ch j) (ac j).1

theorem cat_congr {f f' : Nat → List UInt8} {i : Nat} (h : ∀ j, j < i → f j = f' j) : T.cat f i = T.cat f' i := by
  induction i with
  | zero => rfl
  | succ i ih => rw [T.cat, T.cat, ih (fun j hj => h j (by omega)), h i (by omega)]

/-- One more. -/
def put (ch : Nat → T) (i : Nat) (t : T) (j : Nat) : T := if j = i then t else ch j
def putA (ac : Nat → Option Addr × Nat) (i : Nat) (a : Option Addr × Nat) (j : Nat) : Option Addr × Nat := if j = i then a else ac j

theorem LOk.step {w : World} {g X N p : Nat} {l : List UInt8} {o : Bool} {n d sz : Nat} {F : Nat × Int} {wr : World} {i e : Nat} {A : Option Addr} {c : Nat} {ch : Nat → T} {ac : Nat → Option Addr × Nat}
    (h : LOk w g X N p l o n d sz F wr i e A c ch ac) (hg : g < w.heap.size) (hwX : w.heap.size ≤ X) (hXN : X < N) (hi : i < 1000) (hin : o = false → i < n) (hnb : ¬ (o = true ∧ l[p + e]? = some 255))
    {t : T} {At : Option Addr} {ct : Nat} {w2 w4 : World} {v' : Value} (hr0 : (flt d (l.drop (p + e))).2 = 0) (hm2 : Mod [g] wr w2) (hp2 : PAt w2 g l (p + e + (flt d (l.drop (p + e))).1) 0)
    (ht : t.right d = true ∧ t.ok) (htb : t.bytes ++ l.drop (p + e + (flt d (l.drop (p + e))).1) = l.drop (p + e)) (hL : IsL w2 (fun b => wr.heap.size ≤ b) t At)
    (hown : w4.ownsRow N 48 5 v' (i + 1) (flatC ch ac i ++ [.int .i64 t.kind, .int .u64 (t.n : Int), str t.s, .slice At t.k ct, .bool t.op])) (hgr : (w2.alloc (.cells (itemC t At ct) 48)).grownBy w4 (Value.slice A i c).ownBlock)
    (hbl : v'.ownBlock = (Value.slice A i c).ownBlock ∨ ∀ k, v'.ownBlock = some k → w2.heap.size ≤ k) :
    ∃ A' c', v' = .slice A' (i + 1) c' ∧ LOk w g X N p l o n d sz F (w4.setCell ⟨X, 3, none⟩ v') (i + 1) (e + (flt d (l.drop (p + e))).1) A' c' (put ch i t) (putA ac i (At, ct)) := by
  obtain ⟨h1, h2, h3, h4, h5, h6, h7, h8, h9, h10, h11, h12⟩ := h
  obtain ⟨g', c', rfl, hNg, hgl⟩ := own_form hown
  refine ⟨some ⟨g', 0, none⟩, c', rfl, ?_⟩
  have hlt := h11.lt
  have hXr : X < wr.heap.size := h9.lt
  have hgr2 : g < wr.heap.size := h10.lt
  have hs2 := hm2.size
  have hrow : ∀ k, (Value.slice A i c).ownBlock = some k → N ≤ k ∧ k < wr.heap.size := hlt
  obtain ⟨S, hS⟩ : ∃ S : List Nat, ∀ k, k ∈ S ↔ (Value.slice A i c).ownBlock = some k := by
    cases A with
    | none => exact ⟨[], fun k => by simp [Value.ownBlock]⟩
    | some a => exact ⟨[a.block], fun k => by simp [Value.ownBlock, eq_comm]⟩
  have hm4 : Mod S w2 w4 := ((Mod.refl S w2).alloc _).grown hgr (fun k hk => .inl ((hS k).2 hk))
  have hsz4 := hm4.size
  have hX4 : X ∉ S := fun hk => by have := hrow X ((hS X).1 hk); omega
  have hg4 : g ∉ S := fun hk => by have := hrow g ((hS g).1 hk); omega
  have hxg : X ≠ g := by omega
  have b4 : Blk w4 X 48 #[.int .i64 4, .int .u64 0, str [], .slice A i c, .bool o] := (h9.mod hm2 (by simpa using hxg)).mod hm4 hX4
  have p4 : PAt w4 g l (p + e + (flt d (l.drop (p + e))).1) 0 := Blk.mod hp2 hm4 hg4
  have hmW : Mod (X :: S) w2 (w4.setCell ⟨X, 3, none⟩ (.slice (some ⟨g', 0, none⟩) (i + 1) c')) := (hm4.mono (fun k hk => List.mem_cons_of_mem _ hk)).setCell (p := ⟨X, 3, none⟩) (.inl List.mem_cons_self) _
  have hA' : ∀ b, b < wr.heap.size → N ≤ b → A ≠ some ⟨b, 0, none⟩ → (some ⟨g', 0, none⟩ : Option Addr) ≠ some ⟨b, 0, none⟩ := by
    intro b hb hN hne he
    simp only [Option.some.injEq, Addr.mk.injEq, and_true] at he
    subst he
    rcases hbl with hbl | hbl
    · cases A with
      | none => simp [Value.ownBlock] at hbl
      | some a =>
        have hs := h11.2
        simp [Value.ownBlock] at hbl
        rcases hs with ⟨hs, _⟩ | ⟨q, cap, cur, hs, _⟩
        · cases hs
        · simp only [Value.slice.injEq, Option.some.injEq] at hs
          obtain ⟨rfl, _⟩ := hs
          simp at hbl
          subst hbl
          exact hne rfl
    · have := hbl g' rfl; omega
  have hle := flt_le d (l.drop (p + e))
  rw [List.length_drop] at hle
  refine ⟨by omega, fun ho => hin ho, ?_, by omega, ?_, ?_, ?_, ?_, ?_, ?_, ?_, ?_⟩
  · rw [← h3, show 1000 - i = (1000 - (i + 1)) + 1 by omega]
    conv => rhs; unfold floop
    rw [if_neg (by rintro ⟨ho, hn⟩; have := hin ho; omega), List.getElem?_drop, if_neg hnb, List.drop_drop, if_pos hr0]
  · rw [h5, T.cat, show put ch i t i = t from if_pos rfl, List.append_assoc]
    congr 1
    · exact cat_congr fun j hj => by rw [show put ch i t j = ch j from if_neg (by omega)]
    · rw [List.drop_drop, List.drop_drop, ← Nat.add_assoc]; exact htb.symm
  · intro j hj
    by_cases e : j = i
    · subst e; rw [show put ch j t j = t from if_pos rfl]; exact ht
    · rw [show put ch i t j = ch j from if_neg e]; exact h6 j (by omega)
  · refine Mod.new (S := g :: X :: S) (((h7.trans hm2).mono (fun k hk => by rw [List.mem_singleton] at hk; subst hk; exact List.mem_cons_self)).trans (hmW.mono (fun k hk => List.mem_cons_of_mem _ hk))) ?_
    intro k hk
    rcases List.mem_cons.1 hk with rfl | hk
    · exact .inl (List.mem_singleton.2 rfl)
    · rcases List.mem_cons.1 hk with rfl | hk
      · exact .inr hwX
      · have := hrow k ((hS k).1 hk)
        exact .inr (by omega)
  · have := hmW.size; omega
  · have := b4.set_ 3 (.slice (some ⟨g', 0, none⟩) (i + 1) c')
    simpa using this
  · rw [← Nat.add_assoc]
    exact Blk.far p4 (by simpa using fun e => hxg e.symm) _
  · rw [flatC, flatC_congr (ch := put ch i t) (ac := putA ac i (At, ct)) (ch' := ch) (ac' := ac) (fun j hj => ⟨if_neg (by omega), if_neg (by omega)⟩), show put ch i t i = t from if_pos rfl, show putA ac i (At, ct) i = (At, ct) from if_pos rfl]
    exact ownsRow_setCell_other hown (by simp [Value.ownBlock]; omega) _
  · intro j hj
    by_cases e : j = i
    · subst e
      rw [show put ch j t j = t from if_pos rfl, show putA ac j (At, ct) j = (At, ct) from if_pos rfl]
      have hS2 : ∀ k, k ∈ X :: S → k < wr.heap.size := fun k hk => by
        rcases List.mem_cons.1 hk with rfl | hk
        · exact hXr
        · exact (hrow k ((hS k).1 hk)).2
      have q1 : IsL w2 (fun b => wr.heap.size ≤ b ∧ (some ⟨g', 0, none⟩ : Option Addr) ≠ some ⟨b, 0, none⟩) t At := IsL.weak (fun k hk hq => ⟨hq, fun he => by
        simp only [Option.some.injEq, Addr.mk.injEq, and_true] at he
        subst he
        rcases hbl with hbl | hbl
        · have := (hrow g' hbl.symm).2; omega
        · have := hbl g' rfl; omega⟩) t hL
      have q2 := IsL.mod hmW (fun k hq hk hm => by have := hS2 k hm; have := hq.1; omega) t q1
      exact IsL.weak (fun k hk hq => ⟨by have := hq.1; omega, hq.2⟩) t q2
    · rw [show put ch i t j = ch j from if_neg e, show putA ac i (At, ct) j = ac j from if_neg e]
      have q0 := IsL.weak (R := fun b => N ≤ b ∧ A ≠ some ⟨b, 0, none⟩ ∧ (some ⟨g', 0, none⟩ : Option Addr) ≠ some ⟨b, 0, none⟩) (fun k hk hq => ⟨hq.1, hq.2, hA' k hk hq.1 hq.2⟩) (ch j) (h12 j (by omega))
      have q1 := IsL.mod hm2 (fun k hq hk hm => by rw [List.mem_singleton] at hm; subst hm; have := hq.1; omega) (ch j) q0
      have q2 := IsL.mod hmW (fun k hq hk hm => by
        rcases List.mem_cons.1 hm with rfl | hm
        · have := hq.1; omega
        · have hk2 := (hS k).1 hm
          cases A with
          | none => simp [Value.ownBlock] at hk2
          | some a =>
            simp [Value.ownBlock] at hk2
            rcases h11.2 with ⟨hs, _⟩ | ⟨q, cap, cur, hs, _⟩
            · cases hs
            · simp only [Value.slice.injEq, Option.some.injEq] at hs
              obtain ⟨rfl, _⟩ := hs
              simp at hk2
              subst hk2
              exact hq.2.1 rfl) (ch j) q1
      exact IsL.weak (fun k hk hq => ⟨hq.1, hq.2.2⟩) (ch j) q2
end Go.Proofs.Ytkeabdfgacicaaa
