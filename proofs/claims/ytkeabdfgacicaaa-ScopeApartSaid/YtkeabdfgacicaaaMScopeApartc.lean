/-
  The parser of items: a string.
  The parser's loop: where a round fails; how the loop ends.
  The parser of items: an array's items.
  The parser of items: an item.
  Parse: the item of bytes, or what is wrong, and where.
  Items: the code's same.
  The law ItemSame: its walk.
  Names of the scheme 2: Right, Item; None.
  Names: the code's look at them.
-/
import Derived.Test.YtkeabdfgacicaaaMScopeApartb
import Derived.Deep.AppendLies
import Derived.Deep.RegionLaw
import Derived.Laws.RangeAny
import Derived.Lib.Strings

namespace Go.Proofs.Ytkeabdfgacicaaa
open Go.RowKit
set_option linter.unusedVariables false
set_option linter.unusedSimpArgs false

/-- What an item's parse comes to: R: how far, or where, and what is wrong. -/
def IPost (g : Nat) (l : List UInt8) (p : Nat) (R : Nat × Int) (d : Nat) (w : World) (x : Ending) (w' : World) : Prop :=
  ∃ t A c, x = .returned (itemV t A c) ∧ Mod [g] w w' ∧ PAt w' g l (p + R.1) R.2 ∧ (R.2 = 0 → (t.right d = true ∧ t.ok) ∧ t.bytes ++ l.drop (p + R.1) = l.drop p ∧ IsL w' (fun b => w.heap.size ≤ b) t A)

theorem newstr_bad {L : List UInt8} {sz k n : Nat} {o : Bool} (h : readH L = some (sz, k, n, o)) (hb : o = true ∨ L.length - sz < n) : (RS.new L).str k 1073741824 = ((RS.new L).Head.1.fail 2, []) := by
  have e := RS.Head_some (r := RS.new L) rfl h
  unfold RS.str
  rw [e]
  dsimp only
  rw [if_pos rfl, if_pos (.inr (by simpa [RS.new] using hb))]
theorem newstr_good {L : List UInt8} {sz k n : Nat} {o : Bool} (h : readH L = some (sz, k, n, o)) (hL : L.length ≤ 1073741824) (hb : ¬ (o = true ∨ L.length - sz < n)) : (RS.new L).str k 1073741824 = (⟨L, sz + n, -1, 0, 0⟩, (L.drop sz).take n) := by
  have e := RS.Head_some (r := RS.new L) rfl h
  unfold RS.str
  rw [e]
  dsimp only
  rw [if_pos rfl, if_neg (by rintro (h1 | h1); exact h1 rfl; exact hb (by simpa [RS.new] using h1)), if_neg (by simp only [not_or, Nat.not_lt] at hb ⊢; omega)]
  simp [RS.new]
theorem newfail_e (L : List UInt8) {sz k n : Nat} {o : Bool} (h : readH L = some (sz, k, n, o)) : ((RS.new L).Head.1.fail 2).e = 2 ∧ ((RS.new L).Head.1.fail 2).bad = 0 := by
  rw [RS.Head_some (r := RS.new L) rfl h]
  unfold RS.fail
  rw [if_pos rfl]
  exact ⟨rfl, rfl⟩

/-- A string's item. -/
def sT (k : Nat) (s : List UInt8) : T := T.mk k 0 s false 0 fun _ => T.nil
theorem sT_good {l : List UInt8} {p sz k n d : Nat} {o : Bool} (hk : k = 2 ∨ k = 3) (h : readH (l.drop p) = some (sz, k, n, o)) (hL : l.length ≤ 1073741824) (hb : ¬ (o = true ∨ (l.drop p).length - sz < n)) :
    ((sT k (((l.drop p).drop sz).take n)).right (d + 1) = true ∧ (sT k (((l.drop p).drop sz).take n)).ok) ∧ (sT k (((l.drop p).drop sz).take n)).bytes ++ l.drop (p + (sz + n)) = l.drop p := by
  simp only [not_or, Nat.not_lt, Bool.not_eq_true] at hb
  obtain ⟨rfl, hn⟩ := hb
  have hh := readH_some h
  have hlen : (((l.drop p).drop sz).take n).length = n := by rw [List.length_take, List.length_drop]; omega
  have h1 := hh.closed rfl
  have hle := hh.le
  rw [List.length_drop] at hn hle
  refine ⟨⟨?_, ?_⟩, ?_⟩
  · unfold sT T.right T.node
    rcases hk with rfl | rfl <;> simp [T.all]
  · unfold sT T.ok
    rw [hlen]
    exact ⟨by omega, by omega, by omega, by omega, fun i hi => by omega⟩
  · have e : (sT k (((l.drop p).drop sz).take n)).bytes = headL k n ++ ((l.drop p).drop sz).take n := by
      unfold sT T.bytes
      rw [if_neg (by omega), if_pos (by omega), hlen, Int.toNat_natCast]
    rw [e, ← h1.1, ← List.drop_drop, ← List.drop_drop, List.append_assoc, List.take_append_drop, List.take_append_drop]

def strR (o : Bool) (L : List UInt8) (sz n : Nat) : Nat × Int := if o = true ∨ L.length - sz < n then (0, 2) else (sz + n, 0)
set_option maxRecDepth 20000 in
set_option maxHeartbeats 800000 in
theorem pstr_any (k : Nat) (hk : Hid (k = 2 ∨ k = 3)) (g : Nat) (l : List UInt8) (p : Nat) (hp : Hid (p ≤ l.length ∧ l.length ≤ 1073741824)) (d sz n : Nat) (o : Bool) (hr : Hid (readH (l.drop p) = some (sz, k, n, o)))
    (w : World) (h : PAt w g l p 0) :
    Calls Try.prog 75 #[.pointer (some ⟨g, 0, none⟩), .int .i64 (k : Int)] w (IPost g l p (strR o (l.drop p) sz n) (d + 1) w) := by
  have hrk : Hid (RS.ok (RS.new (l.drop p))) := RS.new_ok (by have := hp.out; rw [List.length_drop]; omega)
  have H0 := hid (Blk.alloc h (.cells (itemC nulT none 0) 48))
  have hg : Hid (g < w.heap.size) := Blk.lt h
  clear h
  go_enter Try.func75, Try.ntmps75
  go_wp2_with fail
  refine (preader_any g l p 0 hp _ H0.out).mono ?_
  rintro x w1 ⟨rfl, hb1, hr1⟩
  have P1 := hid (H0.out.ext hb1)
  have B1 := hid ((Blk.new w 48 (itemC nulT none 0)).ext hb1)
  have HE1 := hid (((Mod.refl [] w).alloc (.cells (itemC nulT none 0) 48)).trans hb1)
  have hw1 : Hid (w.heap.size + 1 ≤ w1.heap.size) := by have := hb1.size; simp at this; exact this
  have hR1 : RdAt w1 (w.heap.size + 1) (RS.new (l.drop p)) := by simpa using hr1
  have HR1 := hid hR1
  clear hr1 hR1 hb1
  go_upto_region 2 with fail
  go_cut [5, 6] (fun s5 s6 wx => ∃ R X, s5 = .pointer (some ⟨R, 0, none⟩) ∧ s6 = .pointer (some ⟨X, 0, none⟩) ∧ Hid (Ext w wx ∧ PAt wx g l p 0 ∧ Blk wx w.heap.size 48 (itemC nulT none 0) ∧ RdAt wx R (RS.new (l.drop p)) ∧ Blk wx X 48 (itemC (sT k []) none 0) ∧ w.heap.size < R ∧ R < X))
  case first =>
    go_wp2_with fail
    go_meet
    refine ⟨w.heap.size + 1, w1.heap.size, rfl, rfl, HE1.out.alloc _, P1.out.alloc _, B1.out.alloc _, Blk.alloc HR1.out _, Blk.new _ _ _, by omega, ?_⟩
    have := Blk.lt HR1.out; omega
  obtain ⟨R, X, rfl, rfl, hH⟩ := hcut
  clear P1 B1 HE1 HR1 hw1 H0
  have hgX : Hid (g ≠ X ∧ g ≠ R ∧ X ≠ R ∧ w.heap.size ≠ g ∧ w.heap.size ≠ R ∧ w.heap.size ≠ X) := by have h1 := hg.out; have h2 := hH.out.2.2.2.2.2; unfold Hid; omega
  have BX := hid hH.out.2.2.2.2.1
  have HSX : Hid (∀ W, Mod [R] wc W → W.cell? ⟨X, 2, none⟩ = some (str []) ∧ W.frozen? ⟨X, 2, none⟩ = false) := fun W hW => ⟨(BX.out.mod hW (by simpa using hgX.out.2.2.1)).cell 2, (BX.out.mod hW (by simpa using hgX.out.2.2.1)).frozen 2⟩
  have HXS : Hid (∀ W s, Blk W X 48 (itemC (sT k []) none 0) → Blk (W.setCell ⟨X, 2, none⟩ (str s)) X 48 (itemC (sT k s) none 0)) := fun W s h => by
    have := Blk.set_ h 2 (str s)
    simpa [itemC, sT, T.kind, T.n, T.s, T.k, T.op] using this
  have HJ : Hid (∀ w2 r s, Mod [R] wc w2 → RdAt w2 R r → (Ext w (w2.setCell ⟨X, 2, none⟩ (str s)) ∧ PAt (w2.setCell ⟨X, 2, none⟩ (str s)) g l p 0 ∧ Blk (w2.setCell ⟨X, 2, none⟩ (str s)) w.heap.size 48 (itemC nulT none 0) ∧ RdAt (w2.setCell ⟨X, 2, none⟩ (str s)) R r ∧ Blk (w2.setCell ⟨X, 2, none⟩ (str s)) X 48 (itemC (sT k s) none 0))) := by
    intro w2 r s hm hr
    obtain ⟨k1, k2, k3, k4, k5, k6⟩ := hH.out
    obtain ⟨n1, n2, n3, n4, n5, n6⟩ := hgX.out
    refine ⟨?_, ?_, ?_, ?_, HXS.out _ _ (k5.mod hm (by simpa using n3))⟩
    · exact Mod.new (S := [R, X]) ((k1.of_ext.trans (hm.mono (by simp))).setCell (.inl (by simp)) _) (fun k hk => .inr (by simp at hk; omega))
    · exact Blk.far (k2.mod hm (by simpa using n2)) (by simpa using n1) _
    · exact Blk.far (k3.mod hm (by simpa using n5)) (by simpa using n6) _
    · exact Blk.far hr (by simpa using fun e => n3 e.symm) _
  go_step
  go_step
  go_cut [] (fun wx => Hid (Ext w wx ∧ PAt wx g l p 0 ∧ Blk wx w.heap.size 48 (itemC nulT none 0) ∧ RdAt wx R ((RS.new (l.drop p)).str k 1073741824).1 ∧ Blk wx X 48 (itemC (sT k ((RS.new (l.drop p)).str k 1073741824).2) none 0)))
  case first =>
    rcases hk.out with rfl | rfl
    · go_wp2_with (go_at_call 109; refine (RBytes_any R _ hrk.out 1073741824 (by unfold Hid; omega) _ hH.out.2.2.2.1).mono ?_; rintro x w2 ⟨rfl, hm2, hr2⟩; obtain ⟨x2, f2⟩ := HSX.out w2 hm2)
      go_meet
      exact HJ.out _ _ _ hm2 hr2
    · go_wp2_with (go_at_call 110; refine (RText_any R _ hrk.out 1073741824 (by unfold Hid; omega) _ hH.out.2.2.2.1).mono ?_; rintro x w2 ⟨rfl, hm2, hr2⟩; obtain ⟨x2, f2⟩ := HSX.out w2 hm2)
      go_meet
      exact HJ.out _ _ _ hm2 hr2
  clear HJ HXS HSX BX
  by_cases hb : o = true ∨ (l.drop p).length - sz < n
  · have HS := newstr_bad hr.out hb
    have HF := hid (newfail_e _ hr.out)
    have hR0 : strR o (l.drop p) sz n = (0, 2) := if_pos hb
    have HR0 := hid hR0
    rw [HS] at hcut
    clear hR0 HS hb
    go_wp2_with fail
    refine (Bad_any R _ _ hcut.out.2.2.2.1).mono ?_
    rintro x w3 ⟨rfl, hb3⟩
    rw [HF.out.1]
    have P3 := hid (hcut.out.2.1.ext hb3)
    have B3 := hid (hcut.out.2.2.1.ext hb3)
    have HE3 := hid (hcut.out.1.trans hb3)
    have q1 : w3.cell? ⟨g, 1, none⟩ = some (.int .i64 (p : Int)) := PAt.at_ P3.out
    clear hb3
    go_wp2_with fail
    refine (pfail_any g l p p 2 _ P3.out).mono ?_
    rintro x w4 ⟨rfl, hm4, hp4⟩
    have B4 := B3.out.mod hm4 (by simpa using hgX.out.2.2.2.1)
    have HP4 := hid hp4; have HM4 := hid hm4; have HB4 := hid B4
    obtain ⟨c0, c1, c2, c3, c4⟩ := cells5 B4
    have f0 := B4.frozen 0
    have f1 := B4.frozen 1
    have f2 := B4.frozen 2
    have f3 := B4.frozen 3
    have f4 := B4.frozen 4
    clear hm4 hp4 B4 q1
    go_wp2_with fail
    obtain ⟨d0, d1, d2, d3, d4⟩ := cells5 (set5_blk (t := nulT) (A := none) (c := 0) HB4.out)
    clear c0 c1 c2 c3 c4 f0 f1 f2 f3 f4
    show bodyPost _ _ _ _ _ (set5 w4 w.heap.size nulT none 0)
    refine bodyPost_ret (v := itemV nulT none 0) (by simp [results, Try.results75, go_sem, d0, d1, d2, d3, d4]) rfl ?_
    rw [HR0.out]
    refine ⟨nulT, none, 0, rfl, set5_mod (HE3.out.of_ext.trans HM4.out) (Nat.le_refl _), set5_far HP4.out (by simpa using fun e => hgX.out.2.2.2.1 e.symm), fun h => by cases h⟩
  · have HS := newstr_good hr.out (by rw [List.length_drop]; have := hp.out; omega) hb
    have hR0 : strR o (l.drop p) sz n = (sz + n, 0) := if_neg hb
    have HN : Hid (sz + n ≤ 1073741824) := by
      have h1 := (readH_some hr.out).le
      have h2 := hp.out
      simp only [not_or, Nat.not_lt] at hb
      have h3 := hb.2
      rw [List.length_drop] at h1 h3
      unfold Hid; omega
    have HG := hid (sT_good (d := d) hk.out hr.out hp.out.2 hb)
    have HR0 := hid hR0
    rw [HS] at hcut
    clear hR0 HS hb
    go_wp2_with fail
    refine (Bad_any R _ _ hcut.out.2.2.2.1).mono ?_
    rintro x w3 ⟨rfl, hb3⟩
    have P3 := hid (hcut.out.2.1.ext hb3)
    have B3 := hid (hcut.out.2.2.1.ext hb3)
    have R3 := hid (hcut.out.2.2.2.1.ext hb3)
    have X3 := hid (hcut.out.2.2.2.2.ext hb3)
    have HE3 := hid (hcut.out.1.trans hb3)
    clear hb3
    have q1 : w3.cell? ⟨g, 1, none⟩ = some (.int .i64 (p : Int)) := PAt.at_ P3.out
    have z1 : w3.frozen? ⟨g, 1, none⟩ = false := PAt.froz P3.out 1
    have hp1 : (p : Int) ≤ 1073741824 := by have := hp.out; omega
    have hp0 : (0 : Int) ≤ (p : Int) := by omega
    have hs1 : (sz : Int) + (n : Int) ≤ 1073741824 := by have := HN.out; omega
    have hs0 : (0 : Int) ≤ (sz : Int) + (n : Int) := by omega
    have tw : IntKind.i64.wrap ((p : Int) + ((sz : Int) + (n : Int))) = (p : Int) + ((sz : Int) + (n : Int)) := IntWalk.i64_in _ (by omega)
    have HP9 : Hid (Mod [g] w (w3.setCell ⟨g, 1, none⟩ (.int .i64 ((p : Int) + ((sz : Int) + (n : Int))))) ∧ PAt (w3.setCell ⟨g, 1, none⟩ (.int .i64 ((p : Int) + ((sz : Int) + (n : Int))))) g l (p + (sz + n)) 0 ∧
        Blk (w3.setCell ⟨g, 1, none⟩ (.int .i64 ((p : Int) + ((sz : Int) + (n : Int))))) w.heap.size 48 (itemC nulT none 0) ∧ Blk (w3.setCell ⟨g, 1, none⟩ (.int .i64 ((p : Int) + ((sz : Int) + (n : Int))))) X 48 (itemC (sT k (((l.drop p).drop sz).take n)) none 0)) := by
      refine ⟨HE3.out.of_ext.setCell (.inl (by simp)) _, ?_, Blk.far B3.out (by simpa using hgX.out.2.2.2.1) _, Blk.far X3.out (by simpa using fun e => hgX.out.1 e.symm) _⟩
      have := Blk.set_ P3.out 1 (.int .i64 ((p + (sz + n) : Nat) : Int))
      simpa [PAt] using this
    go_upto_region 9 with fail
    go_cut [] (fun wx => Hid (Mod [g] w wx ∧ PAt wx g l (p + (sz + n)) 0 ∧ Blk wx w.heap.size 48 (itemC nulT none 0) ∧ Blk wx X 48 (itemC (sT k (((l.drop p).drop sz).take n)) none 0)))
    case first =>
      go_region_with ((go_at_call 74; refine (At_any R ⟨l.drop p, sz + n, -1, 0, 0⟩ _ ?_).mono ?_; (first | exact R3.out | exact Blk.drew R3.out | exact Blk.drew (Blk.drew R3.out)); rintro x w' ⟨rfl, rfl⟩))
      all_goals go_wp2_with fail
      all_goals go_meet
      all_goals exact ⟨by first | exact HP9.out.1 | exact HP9.out.1.drew, HP9.out.2⟩
    clear q1 z1 hp1 hp0 hs1 hs0 tw HP9 X3
    have hc2 := hid hcut.out
    have hg2 := hid HG.out
    clear hcut HG
    have HLs : Hid (∀ W Q, IsL W Q (sT k (((l.drop p).drop sz).take n)) none) := fun W Q => IsL.leaf
    generalize sT k (((l.drop p).drop sz).take n) = t at *
    obtain ⟨x0, x1, x2, x3, x4⟩ := cells5 hc2.out.2.2.2
    have B4 := hc2.out.2.2.1
    obtain ⟨c0, c1, c2, c3, c4⟩ := cells5 B4
    have f0 := B4.frozen 0
    have f1 := B4.frozen 1
    have f2 := B4.frozen 2
    have f3 := B4.frozen 3
    have f4 := B4.frozen 4
    have HB4 := hid B4
    clear B4
    go_wp2_with fail
    obtain ⟨d0, d1, d2, d3, d4⟩ := cells5 (set5_blk (t := t) (A := none) (c := 0) HB4.out)
    clear c0 c1 c2 c3 c4 f0 f1 f2 f3 f4 x0 x1 x2 x3 x4
    show bodyPost _ _ _ _ _ (set5 wc w.heap.size t none 0)
    refine bodyPost_ret (v := itemV t none 0) (by simp [results, Try.results75, go_sem, d0, d1, d2, d3, d4]) rfl ?_
    rw [HR0.out]
    refine ⟨_, none, 0, rfl, set5_mod hc2.out.1 (Nat.le_refl _), set5_far hc2.out.2.1 (by simpa using fun e => hgX.out.2.2.2.1 e.symm), fun _ => ⟨hg2.out.1, hg2.out.2, HLs.out _ _⟩⟩
end Go.Proofs.Ytkeabdfgacicaaa


namespace Go.Proofs.Ytkeabdfgacicaaa
open Go.RowKit
set_option linter.unusedVariables false
set_option linter.unusedSimpArgs false

/-- What is kept once an item has failed. -/
structure LErr (w : World) (g X : Nat) (l : List UInt8) (p : Nat) (F : Nat × Int) (wr : World) : Prop where
  ne : F.2 ≠ 0
  mod : Mod [g] w wr
  x : ∃ t A c, Blk wr X 48 (itemC t A c)
  pa : PAt wr g l (p + F.1) F.2

theorem LOk.next {w : World} {g X N p : Nat} {l : List UInt8} {o : Bool} {n d sz : Nat} {F : Nat × Int} {wr : World} {i e : Nat} {A : Option Addr} {c : Nat} {ch : Nat → T} {ac : Nat → Option Addr × Nat}
    (h : LOk w g X N p l o n d sz F wr i e A c ch ac) (hi : i < 1000) (hin : o = false → i < n) (hnb : ¬ (o = true ∧ l[p + e]? = some 255)) (hr : (flt d (l.drop (p + e))).2 ≠ 0) :
    F = (e + (flt d (l.drop (p + e))).1, (flt d (l.drop (p + e))).2) := by
  rw [← h.fl, show 1000 - i = (1000 - (i + 1)) + 1 by omega]
  unfold floop
  rw [if_neg (by rintro ⟨ho, hn⟩; have := hin ho; omega), List.getElem?_drop, if_neg hnb, List.drop_drop, if_neg hr]
theorem LOk.stepErr {w : World} {g X N p : Nat} {l : List UInt8} {o : Bool} {n d sz : Nat} {F : Nat × Int} {wr : World} {i e : Nat} {A : Option Addr} {c : Nat} {ch : Nat → T} {ac : Nat → Option Addr × Nat}
    (h : LOk w g X N p l o n d sz F wr i e A c ch ac) (hg : g < w.heap.size) (hwX : w.heap.size ≤ X) (hXN : X < N) (hi : i < 1000) (hin : o = false → i < n) (hnb : ¬ (o = true ∧ l[p + e]? = some 255))
    {t : T} {At : Option Addr} {ct : Nat} {w2 w4 : World} {v' : Value} {xs : List Value} (hr : (flt d (l.drop (p + e))).2 ≠ 0) (hm2 : Mod [g] wr w2) (hp2 : PAt w2 g l (p + e + (flt d (l.drop (p + e))).1) (flt d (l.drop (p + e))).2)
    (hown : w4.ownsRow N 48 5 v' (i + 1) xs) (hgr : (w2.alloc (.cells (itemC t At ct) 48)).grownBy w4 (Value.slice A i c).ownBlock) :
    LErr w g X l p F (w4.setCell ⟨X, 3, none⟩ v') := by
  have hF := h.next hi hin hnb hr
  obtain ⟨h1, h2, h3, h4, h5, h6, h7, h8, h9, h10, h11, h12⟩ := h
  obtain ⟨g', c', rfl, hNg, hgl⟩ := own_form hown
  have hrow : ∀ k, (Value.slice A i c).ownBlock = some k → N ≤ k ∧ k < wr.heap.size := h11.lt
  obtain ⟨S, hS⟩ : ∃ S : List Nat, ∀ k, k ∈ S ↔ (Value.slice A i c).ownBlock = some k := by
    cases A with
    | none => exact ⟨[], fun k => by simp [Value.ownBlock]⟩
    | some a => exact ⟨[a.block], fun k => by simp [Value.ownBlock, eq_comm]⟩
  have hm4 : Mod S w2 w4 := ((Mod.refl S w2).alloc _).grown hgr (fun k hk => .inl ((hS k).2 hk))
  have hX4 : X ∉ S := fun hk => by have := hrow X ((hS X).1 hk); omega
  have hg4 : g ∉ S := fun hk => by have := hrow g ((hS g).1 hk); omega
  have hxg : X ≠ g := by omega
  have b4 : Blk w4 X 48 #[.int .i64 4, .int .u64 0, str [], .slice A i c, .bool o] := (h9.mod hm2 (by simpa using hxg)).mod hm4 hX4
  have p4 : PAt w4 g l (p + e + (flt d (l.drop (p + e))).1) (flt d (l.drop (p + e))).2 := Blk.mod hp2 hm4 hg4
  have hmW : Mod (X :: S) w2 (w4.setCell ⟨X, 3, none⟩ (.slice (some ⟨g', 0, none⟩) (i + 1) c')) := (hm4.mono (fun k hk => List.mem_cons_of_mem _ hk)).setCell (p := ⟨X, 3, none⟩) (.inl List.mem_cons_self) _
  refine ⟨by rw [hF]; exact hr, ?_, ⟨T.mk 4 0 [] o (i + 1) ch, some ⟨g', 0, none⟩, c', ?_⟩, ?_⟩
  · refine Mod.new (S := g :: X :: S) (((h7.trans hm2).mono (fun k hk => by rw [List.mem_singleton] at hk; subst hk; exact List.mem_cons_self)).trans (hmW.mono (fun k hk => List.mem_cons_of_mem _ hk))) ?_
    intro k hk
    rcases List.mem_cons.1 hk with rfl | hk
    · exact .inl (List.mem_singleton.2 rfl)
    · rcases List.mem_cons.1 hk with rfl | hk
      · exact .inr hwX
      · have := hrow k ((hS k).1 hk)
        exact .inr (by omega)
  · have := b4.set_ 3 (.slice (some ⟨g', 0, none⟩) (i + 1) c')
    simpa [itemC, T.kind, T.n, T.s, T.k, T.op] using this
  · rw [hF]
    dsimp only
    rw [← Nat.add_assoc]
    exact Blk.far p4 (by simpa using fun e => hxg e.symm) _

/-- The loop's end. -/
theorem LOk.ends {w : World} {g X N p : Nat} {l : List UInt8} {o : Bool} {n d sz : Nat} {F : Nat × Int} {wr : World} {i e : Nat} {A : Option Addr} {c : Nat} {ch : Nat → T} {ac : Nat → Option Addr × Nat}
    (h : LOk w g X N p l o n d sz F wr i e A c ch ac) (hh : readH (l.drop p) = some (sz, 4, n, o)) (hn : o = false → i = n) {e' : Nat} (he : l.drop (p + e) = (if o then [255] else []) ++ l.drop (p + e')) :
    ((T.mk 4 0 [] o i ch).right (d + 1) = true ∧ (T.mk 4 0 [] o i ch).ok) ∧ (T.mk 4 0 [] o i ch).bytes ++ l.drop (p + e') = l.drop p ∧ IsL wr (fun b => N ≤ b) (T.mk 4 0 [] o i ch) A := by
  obtain ⟨h1, h2, h3, h4, h5, h6, h7, h8, h9, h10, h11, h12⟩ := h
  have hs := readH_some hh
  refine ⟨⟨?_, ?_⟩, ?_, ?_⟩
  · unfold T.right T.node
    rw [if_neg (by omega), Bool.and_eq_true, T.all_iff]
    exact ⟨by simp [h1], fun j hj => (h6 j hj).1⟩
  · unfold T.ok
    exact ⟨by omega, by omega, by simp, by omega, fun j hj => (h6 j hj).2⟩
  · have e1 : (T.mk 4 0 [] o i ch).bytes = (if o then [159] else headL 4 i) ++ (T.cat (fun j => (ch j).bytes) i ++ (if o then [255] else [])) := rfl
    rw [List.drop_drop, List.drop_drop, he] at h5
    rw [e1, List.append_assoc, List.append_assoc, ← h5]
    cases o with
    | false =>
      obtain rfl := hn rfl
      simp only [Bool.false_eq_true, if_false]
      rw [← (hs.closed rfl).1, ← List.drop_drop, List.take_append_drop]
    | true =>
      simp only [if_true]
      have h8 := hs.opened rfl
      obtain rfl := h8.1
      rw [show ([159] : List UInt8) = (l.drop p).take 1 from h8.2.2.2.symm, ← List.drop_drop, List.take_append_drop]
  · intro h0
    obtain ⟨i', rfl⟩ : ∃ i', i = i' + 1 := ⟨i - 1, by omega⟩
    obtain ⟨g', c', hv, hNg, hgl⟩ := own_form h11
    simp only [Value.slice.injEq] at hv
    obtain ⟨rfl, _, rfl⟩ := hv
    refine ⟨g', 0, rfl, hgl, hNg, fun j hj => ⟨(ac j).1, (ac j).2, ?_, IsL.weak (fun k hk hq => hq.1) (ch j) (h12 j hj)⟩⟩
    obtain ⟨f0, f1, f2, f3, f4⟩ := flatC_get ch ac (i' + 1) j hj
    rw [Nat.zero_add]
    exact ⟨(h11.cellAt _ (by omega)).trans f0, (h11.cellAt _ (by omega)).trans f1, (h11.cellAt _ (by omega)).trans f2, (h11.cellAt _ (by omega)).trans f3, (h11.cellAt _ (by omega)).trans f4⟩
/-- F where the loop ends. -/
theorem LOk.F_closed {w : World} {g X N p : Nat} {l : List UInt8} {n d sz : Nat} {F : Nat × Int} {wr : World} {i e : Nat} {A : Option Addr} {c : Nat} {ch : Nat → T} {ac : Nat → Option Addr × Nat}
    (h : LOk w g X N p l false n d sz F wr i e A c ch ac) (hi : i = n) : F = (e, 0) := by
  have h1 := h.i1000
  rw [← h.fl]
  cases hj : 1000 - i with
  | zero => unfold floop; rw [if_pos ⟨rfl, by omega⟩]
  | succ j => unfold floop; rw [if_pos ⟨rfl, by omega⟩]
theorem LOk.F_break {w : World} {g X N p : Nat} {l : List UInt8} {n d sz : Nat} {F : Nat × Int} {wr : World} {i e : Nat} {A : Option Addr} {c : Nat} {ch : Nat → T} {ac : Nat → Option Addr × Nat}
    (h : LOk w g X N p l true n d sz F wr i e A c ch ac) (hb : l[p + e]? = some 255) : F = (e + 1, 0) := by
  have h1 := h.i1000
  rw [← h.fl]
  cases hj : 1000 - i with
  | zero => unfold floop; rw [if_neg (by simp), List.getElem?_drop, if_pos ⟨rfl, hb⟩]
  | succ j => unfold floop; rw [if_neg (by simp), List.getElem?_drop, if_pos ⟨rfl, hb⟩]
theorem LOk.F_long {w : World} {g X N p : Nat} {l : List UInt8} {n d sz : Nat} {F : Nat × Int} {wr : World} {i e : Nat} {A : Option Addr} {c : Nat} {ch : Nat → T} {ac : Nat → Option Addr × Nat}
    (h : LOk w g X N p l true n d sz F wr i e A c ch ac) (hi : i = 1000) (hb : ¬ l[p + e]? = some 255) : F = (e, 4) := by
  rw [← h.fl, hi, show 1000 - 1000 = 0 from rfl]
  unfold floop
  rw [if_neg (by simp), List.getElem?_drop, if_neg (fun x => hb x.2)]

/-- The row's block in a later world. -/
theorem LOk.own2 {w : World} {g X N p : Nat} {l : List UInt8} {o : Bool} {n d sz : Nat} {F : Nat × Int} {wr : World} {i e : Nat} {A : Option Addr} {c : Nat} {ch : Nat → T} {ac : Nat → Option Addr × Nat}
    (h : LOk w g X N p l o n d sz F wr i e A c ch ac) (hgN : g < N) {w2 : World} (hm2 : Mod [g] wr w2) (ob : Obj) : (w2.alloc ob).ownsRow N 48 5 (.slice A i c) i (flatC ch ac i) :=
  (ownsRow_mod h.own hm2 (fun k hk => by have := (h.own.lt k hk).1; simp; omega)).alloc ob
theorem LOk.ext {w : World} {g X N p : Nat} {l : List UInt8} {o : Bool} {n d sz : Nat} {F : Nat × Int} {wr w2 : World} {i e : Nat} {A : Option Addr} {c : Nat} {ch : Nat → T} {ac : Nat → Option Addr × Nat}
    (h : LOk w g X N p l o n d sz F wr i e A c ch ac) (hm : Ext wr w2) : LOk w g X N p l o n d sz F w2 i e A c ch ac := by
  obtain ⟨h1, h2, h3, h4, h5, h6, h7, h8, h9, h10, h11, h12⟩ := h
  exact ⟨h1, h2, h3, h4, h5, h6, h7.trans hm.of_ext, Nat.le_trans h8 hm.size, h9.ext hm, Blk.ext h10 hm, ownsRow_mod h11 hm (by simp), fun j hj => (h12 j hj).ext hm⟩
theorem LOk.keep {w : World} {g X N p : Nat} {l : List UInt8} {o : Bool} {n d sz : Nat} {F : Nat × Int} {wr : World} {i e : Nat} {A : Option Addr} {c : Nat} {ch : Nat → T} {ac : Nat → Option Addr × Nat}
    (h : LOk w g X N p l o n d sz F wr i e A c ch ac) {w2 w4 : World} (hm2 : Mod [g] wr w2) {ob : Obj} (hgr : (w2.alloc ob).grownBy w4 (Value.slice A i c).ownBlock)
    {b : Nat} {ty : TypeId} {cs : Array Value} (hB : Blk wr b ty cs) (hbg : b ≠ g) (hbN : b < N) : Blk w4 b ty cs := by
  have hrow : ∀ k, (Value.slice A i c).ownBlock = some k → N ≤ k ∧ k < wr.heap.size := h.own.lt
  obtain ⟨S, hS⟩ : ∃ S : List Nat, ∀ k, k ∈ S ↔ (Value.slice A i c).ownBlock = some k := by
    cases A with
    | none => exact ⟨[], fun k => by simp [Value.ownBlock]⟩
    | some a => exact ⟨[a.block], fun k => by simp [Value.ownBlock, eq_comm]⟩
  have hm4 : Mod S w2 w4 := ((Mod.refl S w2).alloc _).grown hgr (fun k hk => .inl ((hS k).2 hk))
  exact (hB.mod hm2 (by simpa using hbg)).mod hm4 (fun hk => by have := hrow b ((hS b).1 hk); omega)
theorem LOk.room {w : World} {g X N p : Nat} {l : List UInt8} {o : Bool} {n d sz : Nat} {F : Nat × Int} {wr : World} {i e : Nat} {A : Option Addr} {c : Nat} {ch : Nat → T} {ac : Nat → Option Addr × Nat}
    (h : LOk w g X N p l o n d sz F wr i e A c ch ac) {w2 : World} (hm2 : Mod [g] wr w2) : N ≤ w2.heap.size := Nat.le_trans h.nx hm2.size
end Go.Proofs.Ytkeabdfgacicaaa


namespace Go.Proofs.Ytkeabdfgacicaaa
open Go.RowKit
set_option linter.unusedVariables false
set_option linter.unusedSimpArgs false

theorem Blk.newAt (w : World) (t : TypeId) (cs : Array Value) {N : Nat} (h : w.heap.size = N) : Blk (w.alloc (.cells cs t)) N t cs := by subst h; exact Blk.new _ _ _

set_option maxRecDepth 20000 in
set_option maxHeartbeats 1600000 in
theorem plist_any (d : Nat) (hd : Hid (d ≤ 8)) (g : Nat) (l : List UInt8) (hl : Hid (l.length ≤ 1073741824))
    (IH : Hid (∀ (p : Nat), p ≤ l.length → ∀ w, PAt w g l p 0 → Calls Try.prog 41 #[.pointer (some ⟨g, 0, none⟩), .int .i64 (d : Int)] w (IPost g l p (flt d (l.drop p)) d w)))
    (p sz n : Nat) (o : Bool) (nI : Int) (hn : Hid ((o = true → nI = -1) ∧ (o = false → nI = n))) (hr : Hid (readH (l.drop p) = some (sz, 4, n, o))) (hnn : Hid (o = false → n ≤ 1000)) (hpl : Hid (p + sz ≤ l.length))
    (w : World) (h : PAt w g l (p + sz) 0) :
    Calls Try.prog 77 #[.pointer (some ⟨g, 0, none⟩), .int .i64 nI, .int .i64 ((d : Int) + 1)] w (IPost g l p (floop (flt d) (l.drop p) o n 1000 sz) (d + 1) w) := by
  have hg : Hid (g < w.heap.size) := Blk.lt h
  have t1 : decide (nI < 0) = o := by
    have := hn.out
    cases o with
    | true => rw [this.1 rfl]; rfl
    | false => rw [this.2 rfl]; simp
  obtain ⟨F, hF⟩ : ∃ F, F = floop (flt d) (l.drop p) o n 1000 sz := ⟨_, rfl⟩
  rw [← hF]
  have HB0 := hid ((Blk.new w 48 (itemC nulT none 0)).alloc (.cells #[.int .i64 4, .int .u64 0, str [], .slice none 0 0, .bool o] 48))
  have HL0 : Hid (LOk w g (w.heap.size + 1) (w.heap.size + 2) p l o n d sz F ((w.alloc (.cells (itemC nulT none 0) 48)).alloc (.cells #[.int .i64 4, .int .u64 0, str [], .slice none 0 0, .bool o] 48)) 0 sz none 0 (fun _ => T.nil) (fun _ => (none, 0))) := by
    refine ⟨by omega, fun _ => Nat.zero_le _, hF.symm, hpl.out, by simp [T.cat], fun j hj => by omega, ((Mod.refl _ _).alloc _).alloc _, by simp, Blk.newAt _ _ _ (by simp), (Blk.alloc (Blk.alloc h _) _), World.ownsRow_nil _ _ _ _, fun j hj => by omega⟩
  have HF := hid hF
  clear hF h
  go_enter Try.func77, Try.ntmps77
  go_wp2_with fail
  go_loopg [] 1001 (fun gk wr => Hid (Blk wr w.heap.size 48 (itemC nulT none 0)) ∧ ((∃ i e A c ch ac, gk = 1001 - i ∧ Hid (LOk w g (w.heap.size + 1) (w.heap.size + 2) p l o n d sz F wr i e A c ch ac)) ∨ (gk = 0 ∧ Hid (LErr w g (w.heap.size + 1) l p F wr))))
  case atStart => exact ⟨HB0.out, .inl ⟨0, sz, none, 0, _, _, rfl, HL0.out⟩⟩
  case round =>
    clear HB0 HL0
    obtain ⟨hB, ⟨i, e, A, c, ch, ac, rfl, hK⟩ | ⟨rfl, hE⟩⟩ := hrel
    · obtain ⟨q, hq⟩ : ∃ q, q = p + e := ⟨_, rfl⟩
      have hpa : PAt wr g l q 0 := by rw [hq]; exact hK.out.pa
      have HPA := hid hpa
      have p1 : wr.cell? ⟨g, 1, none⟩ = some (.int .i64 (q : Int)) := PAt.at_ hpa
      have p2 : wr.cell? ⟨g, 2, none⟩ = some (.int .i64 0) := PAt.err hpa
      have hql : Hid (q ≤ l.length) := by rw [hq]; exact hK.out.le
      have HQ := hid hq
      clear hq hpa
      by_cases hend : o = false ∧ i = n
      · obtain ⟨ho, hi⟩ := hend
        subst ho
        have hFe := hK.out.F_closed hi
        have HE := hid (hK.out.ends hr.out (fun _ => hi) (e' := e) rfl)
        obtain ⟨t, ht⟩ : ∃ t, t = T.mk 4 0 [] false i ch := ⟨_, rfl⟩
        have hx : Blk wr (w.heap.size + 1) 48 (itemC t A c) := by subst ht; exact hK.out.x
        have hk : t.k = i := by subst ht; rfl
        obtain ⟨x0, x1, x2, x3, x4⟩ := cells5 hx
        have t2 : ((t.k : Int) != nI) = false := by rw [hk, hn.out.2 rfl, hi]; simp
        have t3 : ((t.k : Int) = nI) = True := by rw [hk, hn.out.2 rfl, hi]; simp
        rw [← ht] at HE
        have HFe := hid hFe
        clear hx ht hk hFe hi
        obtain ⟨c0, c1, c2, c3, c4⟩ := cells5 hB.out
        have f0 := hB.out.frozen 0
        have f1 := hB.out.frozen 1
        have f2 := hB.out.frozen 2
        have f3 := hB.out.frozen 3
        have f4 := hB.out.frozen 4
        go_wp2_with fail
        obtain ⟨d0, d1, d2, d3, d4⟩ := cells5 (set5_blk (t := t) (A := A) (c := c) hB.out)
        clear c0 c1 c2 c3 c4 f0 f1 f2 f3 f4 x0 x1 x2 x3 x4 p1 p2
        show bodyPost _ _ _ _ _ (set5 wr w.heap.size t A c)
        refine bodyPost_ret (v := itemV t A c) (by simp [results, Try.results77, go_sem, d0, d1, d2, d3, d4]) rfl ?_
        rw [HFe.out]
        refine ⟨t, A, c, rfl, set5_mod hK.out.mod (Nat.le_refl _), ?_, fun _ => ⟨HE.out.1, HE.out.2.1, ?_⟩⟩
        · have := HPA.out
          rw [HQ.out] at this
          exact set5_far this (by have := hg.out; omega)
        · exact IsL.weak (fun k hk hq => by omega) t (IsL.mod set5_modb (fun k hq hk hm => by rw [List.mem_singleton] at hm; omega) t HE.out.2.2)
      by_cases hbr : o = true ∧ l[p + e]? = some 255
      · obtain ⟨ho, hb⟩ := hbr
        subst ho
        have hFe := hK.out.F_break hb
        have hb2 := get_255.1 hb
        have he : l.drop (p + e) = [255] ++ l.drop (p + (e + 1)) := by
          obtain ⟨v, hv⟩ := hb2
          have h1 : l.drop (p + e + 1) = v := by rw [← List.drop_drop, hv]; rfl
          rw [hv, ← Nat.add_assoc, h1]; rfl
        have HE := hid (hK.out.ends hr.out (fun h => by cases h) (e' := e + 1) he)
        obtain ⟨t, ht⟩ : ∃ t, t = T.mk 4 0 [] true i ch := ⟨_, rfl⟩
        have hx : Blk wr (w.heap.size + 1) 48 (itemC t A c) := by subst ht; exact hK.out.x
        have hk : t.k = i := by subst ht; rfl
        obtain ⟨x0, x1, x2, x3, x4⟩ := cells5 hx
        have t2 : ((t.k : Int) != nI) = true := by rw [hk, hn.out.1 rfl]; simp
        have t3 : ((t.k : Int) = nI) = False := by rw [hk, hn.out.1 rfl]; simp
        have tb : decide (l[q]? = some 255) = true := by rw [HQ.out, hb]; simp
        rw [← ht] at HE
        have HFe := hid hFe; have HX := hid hx
        have hlt : q < l.length := by rw [HQ.out]; exact (List.getElem?_eq_some_iff.1 hb).1
        have hq0 : (0 : Int) ≤ (q : Int) := by omega
        have hq1 : (q : Int) ≤ 1073741824 := by have := hl.out; omega
        have HLT := hid hlt
        clear hx ht hk hFe hb hb2 he hlt x0 x1 x2 x3 x4
        have x3 : wr.cell? ⟨w.heap.size + 1, 3, none⟩ = some (.slice A t.k c) := HX.out.cell 3
        go_wp2_with fail
        refine (broken_any g l q 0 (show Hid _ from ⟨hql.out, hl.out⟩) _ HPA.out).mono ?_
        rintro x w2 ⟨rfl, hb2⟩
        rw [tb]
        have HP2 := hid (HPA.out.ext hb2)
        have HX2 := hid (HX.out.ext hb2)
        have HB2 := hid (hB.out.ext hb2)
        have HM2 := hid (hK.out.mod.trans hb2.of_ext)
        clear p1 p2 x3
        have p1 : w2.cell? ⟨g, 1, none⟩ = some (.int .i64 (q : Int)) := PAt.at_ HP2.out
        have z1 : w2.frozen? ⟨g, 1, none⟩ = false := PAt.froz HP2.out 1
        obtain ⟨x0, x1, x2, x3, x4⟩ := cells5 HX2.out
        obtain ⟨c0, c1, c2, c3, c4⟩ := cells5 HB2.out
        have f0 := HB2.out.frozen 0
        have f1 := HB2.out.frozen 1
        have f2 := HB2.out.frozen 2
        have f3 := HB2.out.frozen 3
        have f4 := HB2.out.frozen 4
        have HEL := hid (IsL.mod hb2 (fun k hq hk => by simp) t HE.out.2.2)
        have hgX : g ≠ w.heap.size := by have := hg.out; omega
        have hgX1 : ¬ w.heap.size = g := by have := hg.out; omega
        have hgX2 : ¬ w.heap.size + 1 = g := by have := hg.out; omega
        have hgX3 : ¬ g = w.heap.size + 1 := by have := hg.out; omega
        clear hb2
        go_wp2_with fail
        have HB5 : Hid (Blk (w2.setCell ⟨g, 1, none⟩ (.int .i64 ((q : Int) + 1))) w.heap.size 48 (itemC nulT none 0)) := Blk.far HB2.out (by simpa using fun e => hgX e.symm) _
        obtain ⟨d0, d1, d2, d3, d4⟩ := cells5 (set5_blk (t := t) (A := A) (c := c) HB5.out)
        clear c0 c1 c2 c3 c4 f0 f1 f2 f3 f4 x0 x1 x2 x3 x4 p1 z1
        show bodyPost _ _ _ _ _ (set5 (w2.setCell ⟨g, 1, none⟩ (.int .i64 ((q : Int) + 1))) w.heap.size t A c)
        refine bodyPost_ret (v := itemV t A c) (by simp [results, Try.results77, go_sem, d0, d1, d2, d3, d4]) rfl ?_
        rw [HFe.out]
        refine ⟨t, A, c, rfl, set5_mod (HM2.out.setCell (.inl (by simp)) _) (Nat.le_refl _), ?_, fun _ => ⟨HE.out.1, HE.out.2.1, ?_⟩⟩
        · have h1 := Blk.set_ HP2.out 1 (.int .i64 ((q + 1 : Nat) : Int))
          have h2 : PAt (w2.setCell ⟨g, 1, none⟩ (.int .i64 ((q : Int) + 1))) g l (p + (e + 1)) 0 := by
            rw [← Nat.add_assoc, ← HQ.out]
            simpa [PAt] using h1
          exact set5_far h2 hgX
        · have hm : Mod [g] w2 (w2.setCell ⟨g, 1, none⟩ (.int .i64 ((q : Int) + 1))) := (Mod.refl _ _).setCell (.inl (by simp)) _
          have e1 := IsL.mod hm (fun k hq hk hm => by rw [List.mem_singleton] at hm; have := hg.out; omega) t HEL.out
          exact IsL.weak (fun k hk hq => by omega) t (IsL.mod set5_modb (fun k hq hk hm => by rw [List.mem_singleton] at hm; omega) t e1)
      have hin : Hid (o = false → i < n) := fun ho => by have h1 := hK.out.iN ho; have h2 : i ≠ n := fun h => hend ⟨ho, h⟩; omega
      have t2 : ((i : Int) != nI) = true := by
        have := hn.out
        cases o with
        | true => rw [this.1 rfl]; simp
        | false => rw [this.2 rfl]; have := hin.out rfl; simp; omega
      have t3 : ((i : Int) = nI) = False := by simpa using t2
      have x3 : wr.cell? ⟨w.heap.size + 1, 3, none⟩ = some (.slice A i c) := hK.out.x.cell 3
      have y3 : wr.frozen? ⟨w.heap.size + 1, 3, none⟩ = false := hK.out.x.frozen 3
      by_cases hlong : o = true ∧ i = 1000
      · obtain ⟨ho, hi⟩ := hlong
        subst ho
        have hb : ¬ l[p + e]? = some 255 := fun h => hbr ⟨rfl, h⟩
        have HFe := hid (hK.out.F_long hi hb)
        have tb : decide (l[q]? = some 255) = false := by rw [HQ.out]; simpa using hb
        have ti : ((i : Int) == 1000) = true := by rw [hi]; rfl
        have ti2 : (i = 1000) = True := by simp [hi]
        have HX := hid hK.out.x
        clear hb hi hbr hend
        go_wp2_with fail
        refine (broken_any g l q 0 (show Hid _ from ⟨hql.out, hl.out⟩) _ HPA.out).mono ?_
        rintro x w2 ⟨rfl, hb2⟩
        rw [tb]
        have HP2 := hid (HPA.out.ext hb2)
        have HB2 := hid (hB.out.ext hb2)
        have HM2 := hid (hK.out.mod.trans hb2.of_ext)
        clear p1 p2 x3 y3
        have p1 : w2.cell? ⟨g, 1, none⟩ = some (.int .i64 (q : Int)) := PAt.at_ HP2.out
        have x3 : w2.cell? ⟨w.heap.size + 1, 3, none⟩ = some (.slice A i c) := (HX.out.ext hb2).cell 3
        have hgX : w.heap.size ≠ g := by have := hg.out; omega
        clear hb2
        go_wp2_with fail
        refine (pfail_any g l q q 4 _ HP2.out).mono ?_
        rintro x w3 ⟨rfl, hm3, hp3⟩
        have HB3 := hid (HB2.out.mod hm3 (by simpa using hgX))
        have HP3 := hid hp3; have HM3 := hid (HM2.out.trans hm3)
        clear hm3 hp3 p1 x3
        obtain ⟨c0, c1, c2, c3, c4⟩ := cells5 HB3.out
        have f0 := HB3.out.frozen 0
        have f1 := HB3.out.frozen 1
        have f2 := HB3.out.frozen 2
        have f3 := HB3.out.frozen 3
        have f4 := HB3.out.frozen 4
        go_wp2_with fail
        obtain ⟨d0, d1, d2, d3, d4⟩ := cells5 (set5_blk (t := nulT) (A := none) (c := 0) HB3.out)
        clear c0 c1 c2 c3 c4 f0 f1 f2 f3 f4 
        show bodyPost _ _ _ _ _ (set5 w3 w.heap.size nulT none 0)
        refine bodyPost_ret (v := itemV nulT none 0) (by simp [results, Try.results77, go_sem, d0, d1, d2, d3, d4]) rfl ?_
        rw [HFe.out]
        refine ⟨nulT, none, 0, rfl, set5_mod HM3.out (Nat.le_refl _), ?_, fun h => by cases h⟩
        have h3 := HP3.out
        rw [HQ.out] at h3
        exact set5_far h3 (fun e => hgX e.symm)
      · have hi : i < 1000 := by
          have h1 := hK.out.i1000
          have h2 := hin.out
          have h3 := hnn.out
          cases o with
          | true => have h4 : i ≠ 1000 := fun h => hlong ⟨rfl, h⟩; omega
          | false => have := h2 rfl; have := h3 rfl; omega
        have HI := hid hi
        have HNB := hid hbr
        have ti : ((i : Int) == 1000) = false := by simp; omega
        have ti2 : (i = 1000) = False := by simp; omega
        have HX := hid hK.out.x
        have hd1 : Hid (d ≤ 8) := hd
        have td : (d : Int) + 1 - 1 = (d : Int) := by omega
        have tw : IntKind.i64.wrap (d : Int) = (d : Int) := IntWalk.i64_in _ (by have := hd.out; omega)
        have tw2 : IntKind.i64.wrap ((d : Int) + 1 - 1) = (d : Int) := by rw [td, tw]
        clear hi hbr hend hlong
        have HIH : Hid (∀ W, PAt W g l q 0 → Calls Try.prog 41 #[.pointer (some ⟨g, 0, none⟩), .int .i64 (d : Int)] W (IPost g l q (flt d (l.drop q)) d W)) := fun W hW => IH.out q hql.out W hW
        cases o
        · have HIN := hid (hin.out rfl)
          obtain ⟨i0, hi0, hz0, hz1, hz2⟩ := info_parts infoItem
          have hgX : w.heap.size + 1 ≠ g := by have := hg.out; omega
          have hgB : w.heap.size ≠ g := by have := hg.out; omega
          have HgX := hid hgX; have HgB := hid hgB
          clear hgX hgB
          go_upto_region 8 with fail
          go_region_law (first
            | (refine step_append_lies _ rfl (.tmp 48) (.tmp 53) 46 rfl (w.heap.size + 2) 48 i0 _ 5 64 Try.underlying46 hi0 hz0 hz1 hz2 rfl (by decide) (.slice A i c) i _ (by simp [Act.eval]) ho2 ⟨w2.heap.size, 0, none⟩ 1 1 [Value.int .i64 tc.kind, .int .u64 (tc.n : Int), str tc.s, .slice Ac tc.k cc, .bool tc.op] (by simp [Act.eval]) rfl (news5 w2 tc Ac cc) (one5 tc Ac cc) (by decide) (by have := HI.out; unfold maxLen; omega) (by have := HI.out; omega) (by have := hK.out.room hm; simp; omega) (w2.heap.size + 1) (by simp) ?_; intro g' c' w4 hown' hgr hbl hgl; have hx4 := hK.out.keep hm hgr hK.out.x HgX.out (by omega); have x4 : w4.cell? ⟨w.heap.size + 1, 3, none⟩ = some (.slice A i c) := hx4.cell 3; have xf : w4.frozen? ⟨w.heap.size + 1, 3, none⟩ = false := hx4.frozen 3)
            | (go_simp; go_at_call 41; (try rw [tw2]); refine (HIH.out _ ?_).mono ?_; (first | exact HPA.out | exact Blk.drew HPA.out); rintro x w2 ⟨tc, Ac, cc, rfl, hm2, hp2, hs2⟩; have hm : Mod [g] wr w2 := (by first | exact hm2 | exact (Mod.refl _ _).drew.trans hm2); have ho2 := hK.out.own2 (by have := hg.out; omega) hm (.cells (itemC tc Ac cc) 48); have z3 : w2.cell? ⟨w.heap.size + 1, 3, none⟩ = some (.slice A i c) := (hK.out.x.mod hm (by simpa using HgX.out)).cell 3; have zf : w2.frozen? ⟨w.heap.size + 1, 3, none⟩ = false := (hK.out.x.mod hm (by simpa using HgX.out)).frozen 3; have z4 : (w2.alloc (.cells #[Value.int .i64 tc.kind, .int .u64 (tc.n : Int), str tc.s, .slice Ac tc.k cc, .bool tc.op] 48)).cell? ⟨w.heap.size + 1, 3, none⟩ = some (.slice A i c) := ((hK.out.x.mod hm (by simpa using HgX.out)).alloc _).cell 3; have hne : ¬ w.heap.size + 1 = w2.heap.size := (by have := hK.out.room hm; omega)))
          all_goals go_wp2_with fail
          all_goals have hq := HQ.out
          all_goals have hblk : (Value.slice (some ⟨g', 0, none⟩) (i + 1) c').ownBlock = (Value.slice A i c).ownBlock ∨ ∀ k, (Value.slice (some ⟨g', 0, none⟩) (i + 1) c').ownBlock = some k → w2.heap.size ≤ k := hbl.elim (fun h => .inl h.symm) (fun h => .inr fun k hk => by simp [Value.ownBlock] at hk; omega)
          all_goals have hB5 : Blk (w4.setCell ⟨w.heap.size + 1, 3, none⟩ (.slice (some ⟨g', 0, none⟩) (i + 1) c')) w.heap.size 48 (itemC nulT none 0) := Blk.far (hK.out.keep hm hgr hB.out HgB.out (by omega)) (by simp) _
          all_goals subst hq
          all_goals
            by_cases her : (flt d (l.drop (p + e))).2 = 0
            · obtain ⟨A', c2, e1, hL⟩ := hK.out.step hg.out (by omega) (by omega) HI.out (fun _ => HIN.out) (fun h => by cases h.1) her hm (by rw [her] at hp2; exact hp2) (hs2 her).1 (hs2 her).2.1 (hs2 her).2.2 hown' hgr hblk
              simp only [Value.slice.injEq, true_and] at e1
              obtain ⟨rfl, rfl⟩ := e1
              go_roundg (1001 - (i + 1))
              case measure => have := HI.out; omega
              case rel => exact ⟨hB5, .inl ⟨_, _, _, _, _, _, rfl, hL⟩⟩
            · have hL := hK.out.stepErr hg.out (by omega) (by omega) HI.out (fun _ => HIN.out) (fun h => by cases h.1) her hm hp2 hown' hgr
              go_roundg 0
              case measure => have := HI.out; omega
              case rel => exact ⟨hB5, .inr ⟨rfl, hL⟩⟩
        · have HNB2 : Hid (¬ l[p + e]? = some 255) := fun h => HNB.out ⟨rfl, h⟩
          have tb : decide (l[q]? = some 255) = false := by rw [HQ.out]; have := HNB2.out; simpa using this
          go_wp2_with fail
          refine (broken_any g l q 0 (show Hid _ from ⟨hql.out, hl.out⟩) _ HPA.out).mono ?_
          rintro x w1 ⟨rfl, hb1⟩
          rw [tb]
          have HK1 := hid (hK.out.ext hb1)
          have HB1 := hid (hB.out.ext hb1)
          have HP1 := hid (HPA.out.ext hb1)
          clear p1 p2 x3 y3 hb1
          have p1 : w1.cell? ⟨g, 1, none⟩ = some (.int .i64 (q : Int)) := PAt.at_ HP1.out
          have p2 : w1.cell? ⟨g, 2, none⟩ = some (.int .i64 0) := PAt.err HP1.out
          have x3 : w1.cell? ⟨w.heap.size + 1, 3, none⟩ = some (.slice A i c) := HK1.out.x.cell 3
          have y3 : w1.frozen? ⟨w.heap.size + 1, 3, none⟩ = false := HK1.out.x.frozen 3
          obtain ⟨i0, hi0, hz0, hz1, hz2⟩ := info_parts infoItem
          have hgX : w.heap.size + 1 ≠ g := by have := hg.out; omega
          have hgB : w.heap.size ≠ g := by have := hg.out; omega
          have HgX := hid hgX; have HgB := hid hgB
          clear hgX hgB
          go_upto_region 8 with fail
          go_region_law (first
            | (refine step_append_lies _ rfl (.tmp 48) (.tmp 53) 46 rfl (w.heap.size + 2) 48 i0 _ 5 64 Try.underlying46 hi0 hz0 hz1 hz2 rfl (by decide) (.slice A i c) i _ (by simp [Act.eval]) ho2 ⟨w2.heap.size, 0, none⟩ 1 1 [Value.int .i64 tc.kind, .int .u64 (tc.n : Int), str tc.s, .slice Ac tc.k cc, .bool tc.op] (by simp [Act.eval]) rfl (news5 w2 tc Ac cc) (one5 tc Ac cc) (by decide) (by have := HI.out; unfold maxLen; omega) (by have := HI.out; omega) (by have := HK1.out.room hm; simp; omega) (w2.heap.size + 1) (by simp) ?_; intro g' c' w4 hown' hgr hbl hgl; have hx4 := HK1.out.keep hm hgr HK1.out.x HgX.out (by omega); have x4 : w4.cell? ⟨w.heap.size + 1, 3, none⟩ = some (.slice A i c) := hx4.cell 3; have xf : w4.frozen? ⟨w.heap.size + 1, 3, none⟩ = false := hx4.frozen 3)
            | (go_simp; go_at_call 41; (try rw [tw2]); refine (HIH.out _ ?_).mono ?_; (first | exact HP1.out | exact Blk.drew HP1.out); rintro x w2 ⟨tc, Ac, cc, rfl, hm2, hp2, hs2⟩; have hm : Mod [g] w1 w2 := (by first | exact hm2 | exact (Mod.refl _ _).drew.trans hm2); have ho2 := HK1.out.own2 (by have := hg.out; omega) hm (.cells (itemC tc Ac cc) 48); have z3 : w2.cell? ⟨w.heap.size + 1, 3, none⟩ = some (.slice A i c) := (HK1.out.x.mod hm (by simpa using HgX.out)).cell 3; have zf : w2.frozen? ⟨w.heap.size + 1, 3, none⟩ = false := (HK1.out.x.mod hm (by simpa using HgX.out)).frozen 3; have z4 : (w2.alloc (.cells #[Value.int .i64 tc.kind, .int .u64 (tc.n : Int), str tc.s, .slice Ac tc.k cc, .bool tc.op] 48)).cell? ⟨w.heap.size + 1, 3, none⟩ = some (.slice A i c) := ((HK1.out.x.mod hm (by simpa using HgX.out)).alloc _).cell 3; have hne : ¬ w.heap.size + 1 = w2.heap.size := (by have := HK1.out.room hm; omega)))
          all_goals go_wp2_with fail
          all_goals have hq := HQ.out
          all_goals have hblk : (Value.slice (some ⟨g', 0, none⟩) (i + 1) c').ownBlock = (Value.slice A i c).ownBlock ∨ ∀ k, (Value.slice (some ⟨g', 0, none⟩) (i + 1) c').ownBlock = some k → w2.heap.size ≤ k := hbl.elim (fun h => .inl h.symm) (fun h => .inr fun k hk => by simp [Value.ownBlock] at hk; omega)
          all_goals have hB5 : Blk (w4.setCell ⟨w.heap.size + 1, 3, none⟩ (.slice (some ⟨g', 0, none⟩) (i + 1) c')) w.heap.size 48 (itemC nulT none 0) := Blk.far (HK1.out.keep hm hgr HB1.out HgB.out (by omega)) (by simp) _
          all_goals subst hq
          all_goals
            by_cases her : (flt d (l.drop (p + e))).2 = 0
            · obtain ⟨A', c2, e1, hL⟩ := HK1.out.step hg.out (by omega) (by omega) HI.out (fun h => by cases h) (fun h => HNB2.out h.2) her hm (by rw [her] at hp2; exact hp2) (hs2 her).1 (hs2 her).2.1 (hs2 her).2.2 hown' hgr hblk
              simp only [Value.slice.injEq, true_and] at e1
              obtain ⟨rfl, rfl⟩ := e1
              go_roundg (1001 - (i + 1))
              case measure => have := HI.out; omega
              case rel => exact ⟨hB5, .inl ⟨_, _, _, _, _, _, rfl, hL⟩⟩
            · have hL := HK1.out.stepErr hg.out (by omega) (by omega) HI.out (fun h => by cases h) (fun h => HNB2.out h.2) her hm hp2 hown' hgr
              go_roundg 0
              case measure => have := HI.out; omega
              case rel => exact ⟨hB5, .inr ⟨rfl, hL⟩⟩
    · obtain ⟨t, A, c, hx⟩ := hE.out.x
      have p2 : wr.cell? ⟨g, 2, none⟩ = some (.int .i64 F.2) := PAt.err hE.out.pa
      have te : (F.2 == 0) = false := by have := hE.out.ne; simp [this]
      have te2 : (F.2 = 0) = False := by have := hE.out.ne; simp [this]
      obtain ⟨x0, x1, x2, x3, x4⟩ := cells5 hx
      obtain ⟨c0, c1, c2, c3, c4⟩ := cells5 hB.out
      have f0 := hB.out.frozen 0
      have f1 := hB.out.frozen 1
      have f2 := hB.out.frozen 2
      have f3 := hB.out.frozen 3
      have f4 := hB.out.frozen 4
      clear hx
      go_wp2_with fail
      obtain ⟨d0, d1, d2, d3, d4⟩ := cells5 (set5_blk (t := t) (A := A) (c := c) hB.out)
      clear c0 c1 c2 c3 c4 f0 f1 f2 f3 f4 x0 x1 x2 x3 x4 p2
      show bodyPost _ _ _ _ _ (set5 wr w.heap.size t A c)
      refine bodyPost_ret (v := itemV t A c) (by simp [results, Try.results77, go_sem, d0, d1, d2, d3, d4]) rfl ?_
      exact ⟨t, A, c, rfl, set5_mod hE.out.mod (Nat.le_refl _), set5_far hE.out.pa (by have := hg.out; omega), fun h => absurd h hE.out.ne⟩
end Go.Proofs.Ytkeabdfgacicaaa


namespace Go.Proofs.Ytkeabdfgacicaaa
open Go.RowKit
set_option linter.unusedVariables false
set_option linter.unusedSimpArgs false

theorem flt_none {d : Nat} {l : List UInt8} (h : readH l = none) : flt d l = (0, 2) := by
  cases d <;> (unfold flt; rw [h])
theorem flt_noK {d : Nat} {l : List UInt8} {sz m n : Nat} {o : Bool} (h : readH l = some (sz, m, n, o)) (hm : noK m = true) : flt d l = (0, 2) := by
  cases d <;> (unfold flt; rw [h]; dsimp only; rw [if_pos hm])
theorem flt_deep {l : List UInt8} {sz m n : Nat} {o : Bool} (h : readH l = some (sz, m, n, o)) (hm : noK m = false) : flt 0 l = (0, 3) := by
  unfold flt; rw [h]; dsimp only; rw [if_neg (by simp [hm])]
theorem flt_num {d : Nat} {l : List UInt8} {sz n : Nat} {o : Bool} (h : readH l = some (sz, 0, n, o)) : flt (d + 1) l = (sz, 0) := by
  unfold flt; rw [h]; rfl
theorem flt_str {d : Nat} {l : List UInt8} {sz m n : Nat} {o : Bool} (h : readH l = some (sz, m, n, o)) (hm : m = 2 ∨ m = 3) : flt (d + 1) l = strR o l sz n := by
  unfold flt; rw [h]
  rcases hm with rfl | rfl <;> rfl
theorem flt_long {d : Nat} {l : List UInt8} {sz n : Nat} (h : readH l = some (sz, 4, n, false)) (hn : 1000 < n) : flt (d + 1) l = (0, 4) := by
  unfold flt; rw [h]; dsimp only
  rw [if_neg (by decide), if_neg (by decide), if_neg (by decide), if_pos ⟨rfl, hn⟩]
theorem flt_arr {d : Nat} {l : List UInt8} {sz n : Nat} {o : Bool} (h : readH l = some (sz, 4, n, o)) (hn : ¬ (o = false ∧ 1000 < n)) : flt (d + 1) l = floop (flt d) l o n 1000 sz := by
  unfold flt; rw [h]; dsimp only
  rw [if_neg (by decide), if_neg (by decide), if_neg (by decide), if_neg hn]

theorem newarr_long {L : List UInt8} {sz n : Nat} (h : readH L = some (sz, 4, n, false)) (hn : 1000 < n) : ((RS.new L).Array).1.e = 4 := by
  have e := RS.Head_some (r := RS.new L) rfl h
  unfold RS.Array
  rw [e]
  dsimp only
  rw [if_pos rfl, if_neg (by decide), if_neg (by decide), if_pos hn]
  rfl
theorem newarr_ok {L : List UInt8} {sz n : Nat} {o : Bool} (h : readH L = some (sz, 4, n, o)) (hn : ¬ (o = false ∧ 1000 < n)) : (RS.new L).Array = (⟨L, sz, -1, 0, 0⟩, if o = true then -1 else (n : Int)) := by
  have e := RS.Head_some (r := RS.new L) rfl h
  unfold RS.Array
  rw [e]
  dsimp only
  cases o
  · rw [if_pos rfl, if_neg (by decide), if_neg (by decide), if_neg (by intro h; exact hn ⟨rfl, h⟩)]
    simp [RS.new]
  · rw [if_pos rfl, if_neg (by decide), if_pos rfl]
    simp [RS.new]

/-- What came back, stored as the result. -/
theorem IPost.store {g : Nat} {l : List UInt8} {p : Nat} {F : Nat × Int} {d : Nat} {w W w4 : World} {t : T} {A : Option Addr} {c : Nat} (hg : g < w.heap.size) (hE : Mod [g] w W) (hW : w.heap.size < W.heap.size)
    (hm : Mod [g] W w4) (hp : PAt w4 g l (p + F.1) F.2) (hs : F.2 = 0 → (t.right d = true ∧ t.ok) ∧ t.bytes ++ l.drop (p + F.1) = l.drop p ∧ IsL w4 (fun b => W.heap.size ≤ b) t A) :
    IPost g l p F d w (.returned (itemV t A c)) (set5 w4 w.heap.size t A c) := by
  refine ⟨t, A, c, rfl, set5_mod (hE.trans hm) (Nat.le_refl _), set5_far hp (by omega), fun h0 => ⟨(hs h0).1, (hs h0).2.1, ?_⟩⟩
  exact IsL.weak (fun k hk hq => by omega) t (IsL.mod set5_modb (fun k hq hk hm => by rw [List.mem_singleton] at hm; omega) t (hs h0).2.2)

/-- What holds once the head has been read. -/
structure IH1 (w : World) (g : Nat) (l : List UInt8) (p : Nat) (wx : World) (R : Nat) : Prop where
  ext : Ext w wx
  pa : PAt wx g l p 0
  ret : Blk wx w.heap.size 48 (itemC nulT none 0)
  rd : RdAt wx R (RS.new (l.drop p)).Head.1
  lt : w.heap.size < R

set_option maxRecDepth 20000 in
set_option maxHeartbeats 800000 in
theorem pitem_none (g : Nat) (l : List UInt8) (p : Nat) (hp : Hid (p ≤ l.length ∧ l.length ≤ 1073741824)) (d : Nat) (hr : Hid (readH (l.drop p) = none)) (w : World) (h : PAt w g l p 0) :
    Calls Try.prog 41 #[.pointer (some ⟨g, 0, none⟩), .int .i64 (d : Int)] w (IPost g l p (flt d (l.drop p)) d w) := by
  have HF := hid (flt_none (d := d) hr.out)
  have hrk : Hid (RS.ok (RS.new (l.drop p))) := RS.new_ok (by have := hp.out; rw [List.length_drop]; omega)
  have hg : Hid (g < w.heap.size) := Blk.lt h
  have hgB : Hid (w.heap.size ≠ g) := by have := hg.out; unfold Hid; omega
  have H0 := hid (Blk.alloc h (.cells (itemC nulT none 0) 48))
  clear h
  go_enter Try.func41, Try.ntmps41
  go_wp2_with fail
  refine (preader_any g l p 0 hp _ H0.out).mono ?_
  rintro x w1 ⟨rfl, hb1, hr1⟩
  have P1 := hid (H0.out.ext hb1)
  have B1 := hid ((Blk.new w 48 (itemC nulT none 0)).ext hb1)
  have HE1 := hid (((Mod.refl [] w).alloc (.cells (itemC nulT none 0) 48)).trans hb1)
  have hR1 : RdAt w1 (w.heap.size + 1) (RS.new (l.drop p)) := by simpa using hr1
  have HR1 := hid hR1
  clear hr1 hR1 hb1 H0
  go_wp2_with fail
  refine (Head_any_r _ _ hrk.out _ HR1.out).mono ?_
  rintro x w2 ⟨rfl, hm2, hr2⟩
  have K2 : Hid (IH1 w g l p w2 (w.heap.size + 1)) := ⟨Mod.new (S := [w.heap.size + 1]) (HE1.out.of_ext.trans hm2) (fun k hk => by rw [List.mem_singleton] at hk; subst hk; exact .inr (by omega)), Blk.mod P1.out hm2 (by have := hg.out; simp; omega), B1.out.mod hm2 (by simp), hr2, by omega⟩
  clear P1 B1 HE1 HR1 hm2 hr2
  go_wp2_with fail
  refine (Bad_any _ _ _ K2.out.rd).mono ?_
  rintro x w3 ⟨rfl, hb3⟩
  have K3 : Hid (IH1 w g l p w3 (w.heap.size + 1)) := ⟨K2.out.ext.trans hb3, K2.out.pa.ext hb3, K2.out.ret.ext hb3, Blk.ext K2.out.rd hb3, by omega⟩
  clear K2 hb3
  have p1 : w3.cell? ⟨g, 1, none⟩ = some (.int .i64 (p : Int)) := PAt.at_ K3.out.pa
  have HH := hid (RS.Head_none (r := RS.new (l.drop p)) rfl hr.out)
  rw [HH.out]
  dsimp only
  go_wp2_with fail
  refine (pfail_any g l p p 2 _ K3.out.pa).mono ?_
  rintro x w9 ⟨rfl, hm9, hp9⟩
  have HB9 := hid (Blk.mod K3.out.ret hm9 (by simpa using hgB.out))
  have HM9 := hid hm9; have HP9 := hid hp9
  clear hm9 hp9
  obtain ⟨c0, c1, c2, c3, c4⟩ := cells5 HB9.out
  have f0 := Blk.frozen HB9.out 0
  have f1 := Blk.frozen HB9.out 1
  have f2 := Blk.frozen HB9.out 2
  have f3 := Blk.frozen HB9.out 3
  have f4 := Blk.frozen HB9.out 4
  go_wp2_with fail
  obtain ⟨d0, d1, d2, d3, d4⟩ := cells5 (set5_blk (t := nulT) (A := none) (c := 0) HB9.out)
  clear c0 c1 c2 c3 c4 f0 f1 f2 f3 f4 
  show bodyPost _ _ _ _ _ (set5 w9 w.heap.size nulT none 0)
  refine bodyPost_ret (v := itemV nulT none 0) (by simp [results, Try.results41, go_sem, d0, d1, d2, d3, d4]) rfl ?_
  rw [HF.out]
  exact IPost.store hg.out ((K3.out.ext).of_ext) (Blk.lt K3.out.ret) HM9.out HP9.out (fun h => by cases h)

set_option maxRecDepth 20000 in
set_option maxHeartbeats 1600000 in
theorem pitem_noK (g : Nat) (l : List UInt8) (p : Nat) (hp : Hid (p ≤ l.length ∧ l.length ≤ 1073741824)) (d sz m n : Nat) (o : Bool) (hm : Hid (m = 1 ∨ m = 5 ∨ m = 6 ∨ m = 7)) (hr : Hid (readH (l.drop p) = some (sz, m, n, o))) (w : World) (h : PAt w g l p 0) :
    Calls Try.prog 41 #[.pointer (some ⟨g, 0, none⟩), .int .i64 (d : Int)] w (IPost g l p (flt d (l.drop p)) d w) := by
  have HF := hid (flt_noK (d := d) hr.out (by rcases hm.out with rfl | rfl | rfl | rfl <;> rfl))
  have hrk : Hid (RS.ok (RS.new (l.drop p))) := RS.new_ok (by have := hp.out; rw [List.length_drop]; omega)
  have hg : Hid (g < w.heap.size) := Blk.lt h
  have hgB : Hid (w.heap.size ≠ g) := by have := hg.out; unfold Hid; omega
  have H0 := hid (Blk.alloc h (.cells (itemC nulT none 0) 48))
  clear h
  go_enter Try.func41, Try.ntmps41
  go_wp2_with fail
  refine (preader_any g l p 0 hp _ H0.out).mono ?_
  rintro x w1 ⟨rfl, hb1, hr1⟩
  have P1 := hid (H0.out.ext hb1)
  have B1 := hid ((Blk.new w 48 (itemC nulT none 0)).ext hb1)
  have HE1 := hid (((Mod.refl [] w).alloc (.cells (itemC nulT none 0) 48)).trans hb1)
  have hR1 : RdAt w1 (w.heap.size + 1) (RS.new (l.drop p)) := by simpa using hr1
  have HR1 := hid hR1
  clear hr1 hR1 hb1 H0
  go_wp2_with fail
  refine (Head_any_r _ _ hrk.out _ HR1.out).mono ?_
  rintro x w2 ⟨rfl, hm2, hr2⟩
  have K2 : Hid (IH1 w g l p w2 (w.heap.size + 1)) := ⟨Mod.new (S := [w.heap.size + 1]) (HE1.out.of_ext.trans hm2) (fun k hk => by rw [List.mem_singleton] at hk; subst hk; exact .inr (by omega)), Blk.mod P1.out hm2 (by have := hg.out; simp; omega), B1.out.mod hm2 (by simp), hr2, by omega⟩
  clear P1 B1 HE1 HR1 hm2 hr2
  go_wp2_with fail
  refine (Bad_any _ _ _ K2.out.rd).mono ?_
  rintro x w3 ⟨rfl, hb3⟩
  have K3 : Hid (IH1 w g l p w3 (w.heap.size + 1)) := ⟨K2.out.ext.trans hb3, K2.out.pa.ext hb3, K2.out.ret.ext hb3, Blk.ext K2.out.rd hb3, by omega⟩
  clear K2 hb3
  have p1 : w3.cell? ⟨g, 1, none⟩ = some (.int .i64 (p : Int)) := PAt.at_ K3.out.pa
  have HH := hid (RS.Head_some (r := RS.new (l.drop p)) rfl hr.out)
  rw [HH.out]
  dsimp only
  rcases hm.out with rfl | rfl | rfl | rfl
  · go_wp2_with fail
    refine (pfail_any g l p p 2 _ K3.out.pa).mono ?_
    rintro x w9 ⟨rfl, hm9, hp9⟩
    have HB9 := hid (Blk.mod K3.out.ret hm9 (by simpa using hgB.out))
    have HM9 := hid hm9; have HP9 := hid hp9
    clear hm9 hp9
    obtain ⟨c0, c1, c2, c3, c4⟩ := cells5 HB9.out
    have f0 := Blk.frozen HB9.out 0
    have f1 := Blk.frozen HB9.out 1
    have f2 := Blk.frozen HB9.out 2
    have f3 := Blk.frozen HB9.out 3
    have f4 := Blk.frozen HB9.out 4
    go_wp2_with fail
    obtain ⟨d0, d1, d2, d3, d4⟩ := cells5 (set5_blk (t := nulT) (A := none) (c := 0) HB9.out)
    clear c0 c1 c2 c3 c4 f0 f1 f2 f3 f4 
    show bodyPost _ _ _ _ _ (set5 w9 w.heap.size nulT none 0)
    refine bodyPost_ret (v := itemV nulT none 0) (by simp [results, Try.results41, go_sem, d0, d1, d2, d3, d4]) rfl ?_
    rw [HF.out]
    exact IPost.store hg.out ((K3.out.ext).of_ext) (Blk.lt K3.out.ret) HM9.out HP9.out (fun h => by cases h)
  · go_wp2_with fail
    refine (pfail_any g l p p 2 _ K3.out.pa).mono ?_
    rintro x w9 ⟨rfl, hm9, hp9⟩
    have HB9 := hid (Blk.mod K3.out.ret hm9 (by simpa using hgB.out))
    have HM9 := hid hm9; have HP9 := hid hp9
    clear hm9 hp9
    obtain ⟨c0, c1, c2, c3, c4⟩ := cells5 HB9.out
    have f0 := Blk.frozen HB9.out 0
    have f1 := Blk.frozen HB9.out 1
    have f2 := Blk.frozen HB9.out 2
    have f3 := Blk.frozen HB9.out 3
    have f4 := Blk.frozen HB9.out 4
    go_wp2_with fail
    obtain ⟨d0, d1, d2, d3, d4⟩ := cells5 (set5_blk (t := nulT) (A := none) (c := 0) HB9.out)
    clear c0 c1 c2 c3 c4 f0 f1 f2 f3 f4 
    show bodyPost _ _ _ _ _ (set5 w9 w.heap.size nulT none 0)
    refine bodyPost_ret (v := itemV nulT none 0) (by simp [results, Try.results41, go_sem, d0, d1, d2, d3, d4]) rfl ?_
    rw [HF.out]
    exact IPost.store hg.out ((K3.out.ext).of_ext) (Blk.lt K3.out.ret) HM9.out HP9.out (fun h => by cases h)
  · go_wp2_with fail
    refine (pfail_any g l p p 2 _ K3.out.pa).mono ?_
    rintro x w9 ⟨rfl, hm9, hp9⟩
    have HB9 := hid (Blk.mod K3.out.ret hm9 (by simpa using hgB.out))
    have HM9 := hid hm9; have HP9 := hid hp9
    clear hm9 hp9
    obtain ⟨c0, c1, c2, c3, c4⟩ := cells5 HB9.out
    have f0 := Blk.frozen HB9.out 0
    have f1 := Blk.frozen HB9.out 1
    have f2 := Blk.frozen HB9.out 2
    have f3 := Blk.frozen HB9.out 3
    have f4 := Blk.frozen HB9.out 4
    go_wp2_with fail
    obtain ⟨d0, d1, d2, d3, d4⟩ := cells5 (set5_blk (t := nulT) (A := none) (c := 0) HB9.out)
    clear c0 c1 c2 c3 c4 f0 f1 f2 f3 f4 
    show bodyPost _ _ _ _ _ (set5 w9 w.heap.size nulT none 0)
    refine bodyPost_ret (v := itemV nulT none 0) (by simp [results, Try.results41, go_sem, d0, d1, d2, d3, d4]) rfl ?_
    rw [HF.out]
    exact IPost.store hg.out ((K3.out.ext).of_ext) (Blk.lt K3.out.ret) HM9.out HP9.out (fun h => by cases h)
  · go_wp2_with fail
    refine (pfail_any g l p p 2 _ K3.out.pa).mono ?_
    rintro x w9 ⟨rfl, hm9, hp9⟩
    have HB9 := hid (Blk.mod K3.out.ret hm9 (by simpa using hgB.out))
    have HM9 := hid hm9; have HP9 := hid hp9
    clear hm9 hp9
    obtain ⟨c0, c1, c2, c3, c4⟩ := cells5 HB9.out
    have f0 := Blk.frozen HB9.out 0
    have f1 := Blk.frozen HB9.out 1
    have f2 := Blk.frozen HB9.out 2
    have f3 := Blk.frozen HB9.out 3
    have f4 := Blk.frozen HB9.out 4
    go_wp2_with fail
    obtain ⟨d0, d1, d2, d3, d4⟩ := cells5 (set5_blk (t := nulT) (A := none) (c := 0) HB9.out)
    clear c0 c1 c2 c3 c4 f0 f1 f2 f3 f4 
    show bodyPost _ _ _ _ _ (set5 w9 w.heap.size nulT none 0)
    refine bodyPost_ret (v := itemV nulT none 0) (by simp [results, Try.results41, go_sem, d0, d1, d2, d3, d4]) rfl ?_
    rw [HF.out]
    exact IPost.store hg.out ((K3.out.ext).of_ext) (Blk.lt K3.out.ret) HM9.out HP9.out (fun h => by cases h)

set_option maxRecDepth 20000 in
set_option maxHeartbeats 1600000 in
theorem pitem_deep (g : Nat) (l : List UInt8) (p : Nat) (hp : Hid (p ≤ l.length ∧ l.length ≤ 1073741824)) (sz m n : Nat) (o : Bool) (hm : Hid (m = 0 ∨ m = 2 ∨ m = 3 ∨ m = 4)) (hr : Hid (readH (l.drop p) = some (sz, m, n, o))) (w : World) (h : PAt w g l p 0) :
    Calls Try.prog 41 #[.pointer (some ⟨g, 0, none⟩), .int .i64 0] w (IPost g l p (flt 0 (l.drop p)) 0 w) := by
  have HF := hid (flt_deep hr.out (by rcases hm.out with rfl | rfl | rfl | rfl <;> rfl))
  have hrk : Hid (RS.ok (RS.new (l.drop p))) := RS.new_ok (by have := hp.out; rw [List.length_drop]; omega)
  have hg : Hid (g < w.heap.size) := Blk.lt h
  have hgB : Hid (w.heap.size ≠ g) := by have := hg.out; unfold Hid; omega
  have H0 := hid (Blk.alloc h (.cells (itemC nulT none 0) 48))
  clear h
  go_enter Try.func41, Try.ntmps41
  go_wp2_with fail
  refine (preader_any g l p 0 hp _ H0.out).mono ?_
  rintro x w1 ⟨rfl, hb1, hr1⟩
  have P1 := hid (H0.out.ext hb1)
  have B1 := hid ((Blk.new w 48 (itemC nulT none 0)).ext hb1)
  have HE1 := hid (((Mod.refl [] w).alloc (.cells (itemC nulT none 0) 48)).trans hb1)
  have hR1 : RdAt w1 (w.heap.size + 1) (RS.new (l.drop p)) := by simpa using hr1
  have HR1 := hid hR1
  clear hr1 hR1 hb1 H0
  go_wp2_with fail
  refine (Head_any_r _ _ hrk.out _ HR1.out).mono ?_
  rintro x w2 ⟨rfl, hm2, hr2⟩
  have K2 : Hid (IH1 w g l p w2 (w.heap.size + 1)) := ⟨Mod.new (S := [w.heap.size + 1]) (HE1.out.of_ext.trans hm2) (fun k hk => by rw [List.mem_singleton] at hk; subst hk; exact .inr (by omega)), Blk.mod P1.out hm2 (by have := hg.out; simp; omega), B1.out.mod hm2 (by simp), hr2, by omega⟩
  clear P1 B1 HE1 HR1 hm2 hr2
  go_wp2_with fail
  refine (Bad_any _ _ _ K2.out.rd).mono ?_
  rintro x w3 ⟨rfl, hb3⟩
  have K3 : Hid (IH1 w g l p w3 (w.heap.size + 1)) := ⟨K2.out.ext.trans hb3, K2.out.pa.ext hb3, K2.out.ret.ext hb3, Blk.ext K2.out.rd hb3, by omega⟩
  clear K2 hb3
  have p1 : w3.cell? ⟨g, 1, none⟩ = some (.int .i64 (p : Int)) := PAt.at_ K3.out.pa
  have HH := hid (RS.Head_some (r := RS.new (l.drop p)) rfl hr.out)
  rw [HH.out]
  dsimp only
  rcases hm.out with rfl | rfl | rfl | rfl
  · go_wp2_with fail
    refine (pfail_any g l p p 3 _ K3.out.pa).mono ?_
    rintro x w9 ⟨rfl, hm9, hp9⟩
    have HB9 := hid (Blk.mod K3.out.ret hm9 (by simpa using hgB.out))
    have HM9 := hid hm9; have HP9 := hid hp9
    clear hm9 hp9
    obtain ⟨c0, c1, c2, c3, c4⟩ := cells5 HB9.out
    have f0 := Blk.frozen HB9.out 0
    have f1 := Blk.frozen HB9.out 1
    have f2 := Blk.frozen HB9.out 2
    have f3 := Blk.frozen HB9.out 3
    have f4 := Blk.frozen HB9.out 4
    go_wp2_with fail
    obtain ⟨d0, d1, d2, d3, d4⟩ := cells5 (set5_blk (t := nulT) (A := none) (c := 0) HB9.out)
    clear c0 c1 c2 c3 c4 f0 f1 f2 f3 f4 
    show bodyPost _ _ _ _ _ (set5 w9 w.heap.size nulT none 0)
    refine bodyPost_ret (v := itemV nulT none 0) (by simp [results, Try.results41, go_sem, d0, d1, d2, d3, d4]) rfl ?_
    rw [HF.out]
    exact IPost.store hg.out ((K3.out.ext).of_ext) (Blk.lt K3.out.ret) HM9.out HP9.out (fun h => by cases h)
  · go_wp2_with fail
    refine (pfail_any g l p p 3 _ K3.out.pa).mono ?_
    rintro x w9 ⟨rfl, hm9, hp9⟩
    have HB9 := hid (Blk.mod K3.out.ret hm9 (by simpa using hgB.out))
    have HM9 := hid hm9; have HP9 := hid hp9
    clear hm9 hp9
    obtain ⟨c0, c1, c2, c3, c4⟩ := cells5 HB9.out
    have f0 := Blk.frozen HB9.out 0
    have f1 := Blk.frozen HB9.out 1
    have f2 := Blk.frozen HB9.out 2
    have f3 := Blk.frozen HB9.out 3
    have f4 := Blk.frozen HB9.out 4
    go_wp2_with fail
    obtain ⟨d0, d1, d2, d3, d4⟩ := cells5 (set5_blk (t := nulT) (A := none) (c := 0) HB9.out)
    clear c0 c1 c2 c3 c4 f0 f1 f2 f3 f4 
    show bodyPost _ _ _ _ _ (set5 w9 w.heap.size nulT none 0)
    refine bodyPost_ret (v := itemV nulT none 0) (by simp [results, Try.results41, go_sem, d0, d1, d2, d3, d4]) rfl ?_
    rw [HF.out]
    exact IPost.store hg.out ((K3.out.ext).of_ext) (Blk.lt K3.out.ret) HM9.out HP9.out (fun h => by cases h)
  · go_wp2_with fail
    refine (pfail_any g l p p 3 _ K3.out.pa).mono ?_
    rintro x w9 ⟨rfl, hm9, hp9⟩
    have HB9 := hid (Blk.mod K3.out.ret hm9 (by simpa using hgB.out))
    have HM9 := hid hm9; have HP9 := hid hp9
    clear hm9 hp9
    obtain ⟨c0, c1, c2, c3, c4⟩ := cells5 HB9.out
    have f0 := Blk.frozen HB9.out 0
    have f1 := Blk.frozen HB9.out 1
    have f2 := Blk.frozen HB9.out 2
    have f3 := Blk.frozen HB9.out 3
    have f4 := Blk.frozen HB9.out 4
    go_wp2_with fail
    obtain ⟨d0, d1, d2, d3, d4⟩ := cells5 (set5_blk (t := nulT) (A := none) (c := 0) HB9.out)
    clear c0 c1 c2 c3 c4 f0 f1 f2 f3 f4 
    show bodyPost _ _ _ _ _ (set5 w9 w.heap.size nulT none 0)
    refine bodyPost_ret (v := itemV nulT none 0) (by simp [results, Try.results41, go_sem, d0, d1, d2, d3, d4]) rfl ?_
    rw [HF.out]
    exact IPost.store hg.out ((K3.out.ext).of_ext) (Blk.lt K3.out.ret) HM9.out HP9.out (fun h => by cases h)
  · go_wp2_with fail
    refine (pfail_any g l p p 3 _ K3.out.pa).mono ?_
    rintro x w9 ⟨rfl, hm9, hp9⟩
    have HB9 := hid (Blk.mod K3.out.ret hm9 (by simpa using hgB.out))
    have HM9 := hid hm9; have HP9 := hid hp9
    clear hm9 hp9
    obtain ⟨c0, c1, c2, c3, c4⟩ := cells5 HB9.out
    have f0 := Blk.frozen HB9.out 0
    have f1 := Blk.frozen HB9.out 1
    have f2 := Blk.frozen HB9.out 2
    have f3 := Blk.frozen HB9.out 3
    have f4 := Blk.frozen HB9.out 4
    go_wp2_with fail
    obtain ⟨d0, d1, d2, d3, d4⟩ := cells5 (set5_blk (t := nulT) (A := none) (c := 0) HB9.out)
    clear c0 c1 c2 c3 c4 f0 f1 f2 f3 f4 
    show bodyPost _ _ _ _ _ (set5 w9 w.heap.size nulT none 0)
    refine bodyPost_ret (v := itemV nulT none 0) (by simp [results, Try.results41, go_sem, d0, d1, d2, d3, d4]) rfl ?_
    rw [HF.out]
    exact IPost.store hg.out ((K3.out.ext).of_ext) (Blk.lt K3.out.ret) HM9.out HP9.out (fun h => by cases h)

set_option maxRecDepth 20000 in
set_option maxHeartbeats 1600000 in
theorem pitem_str (g : Nat) (l : List UInt8) (p : Nat) (hp : Hid (p ≤ l.length ∧ l.length ≤ 1073741824)) (d sz m n : Nat) (o : Bool) (hm : Hid (m = 2 ∨ m = 3)) (hr : Hid (readH (l.drop p) = some (sz, m, n, o))) (w : World) (h : PAt w g l p 0) :
    Calls Try.prog 41 #[.pointer (some ⟨g, 0, none⟩), .int .i64 ((d : Int) + 1)] w (IPost g l p (flt (d + 1) (l.drop p)) (d + 1) w) := by
  have HF := hid (flt_str (d := d) hr.out hm.out)
  have hrk : Hid (RS.ok (RS.new (l.drop p))) := RS.new_ok (by have := hp.out; rw [List.length_drop]; omega)
  have hg : Hid (g < w.heap.size) := Blk.lt h
  have hgB : Hid (w.heap.size ≠ g) := by have := hg.out; unfold Hid; omega
  have H0 := hid (Blk.alloc h (.cells (itemC nulT none 0) 48))
  clear h
  go_enter Try.func41, Try.ntmps41
  go_wp2_with fail
  refine (preader_any g l p 0 hp _ H0.out).mono ?_
  rintro x w1 ⟨rfl, hb1, hr1⟩
  have P1 := hid (H0.out.ext hb1)
  have B1 := hid ((Blk.new w 48 (itemC nulT none 0)).ext hb1)
  have HE1 := hid (((Mod.refl [] w).alloc (.cells (itemC nulT none 0) 48)).trans hb1)
  have hR1 : RdAt w1 (w.heap.size + 1) (RS.new (l.drop p)) := by simpa using hr1
  have HR1 := hid hR1
  clear hr1 hR1 hb1 H0
  go_wp2_with fail
  refine (Head_any_r _ _ hrk.out _ HR1.out).mono ?_
  rintro x w2 ⟨rfl, hm2, hr2⟩
  have K2 : Hid (IH1 w g l p w2 (w.heap.size + 1)) := ⟨Mod.new (S := [w.heap.size + 1]) (HE1.out.of_ext.trans hm2) (fun k hk => by rw [List.mem_singleton] at hk; subst hk; exact .inr (by omega)), Blk.mod P1.out hm2 (by have := hg.out; simp; omega), B1.out.mod hm2 (by simp), hr2, by omega⟩
  clear P1 B1 HE1 HR1 hm2 hr2
  go_wp2_with fail
  refine (Bad_any _ _ _ K2.out.rd).mono ?_
  rintro x w3 ⟨rfl, hb3⟩
  have K3 : Hid (IH1 w g l p w3 (w.heap.size + 1)) := ⟨K2.out.ext.trans hb3, K2.out.pa.ext hb3, K2.out.ret.ext hb3, Blk.ext K2.out.rd hb3, by omega⟩
  clear K2 hb3
  have p1 : w3.cell? ⟨g, 1, none⟩ = some (.int .i64 (p : Int)) := PAt.at_ K3.out.pa
  have HH := hid (RS.Head_some (r := RS.new (l.drop p)) rfl hr.out)
  rw [HH.out]
  dsimp only
  have td : decide ((d : Int) + 1 < 1) = false := by simp; omega
  have td2 : ((d : Int) + 1 < 1) = False := by simp; omega
  rcases hm.out with rfl | rfl
  · go_wp2_with fail
    refine (pstr_any 2 (by first | exact .inl rfl | exact .inr rfl) g l p hp d sz n o hr _ K3.out.pa).mono ?_
    rintro x w9 ⟨t, A, c, rfl, hm9, hp9, hs9⟩
    have HB9 := hid (Blk.mod K3.out.ret hm9 (by simpa using hgB.out))
    have HM9 := hid hm9; have HP9 := hid hp9; have HS9 := hid hs9
    clear hm9 hp9 hs9
    obtain ⟨c0, c1, c2, c3, c4⟩ := cells5 HB9.out
    have f0 := Blk.frozen HB9.out 0
    have f1 := Blk.frozen HB9.out 1
    have f2 := Blk.frozen HB9.out 2
    have f3 := Blk.frozen HB9.out 3
    have f4 := Blk.frozen HB9.out 4
    go_wp2_with fail
    obtain ⟨d0, d1, d2, d3, d4⟩ := cells5 (set5_blk (t := t) (A := A) (c := c) HB9.out)
    clear c0 c1 c2 c3 c4 f0 f1 f2 f3 f4 
    show bodyPost _ _ _ _ _ (set5 w9 w.heap.size t A c)
    refine bodyPost_ret (v := itemV t A c) (by simp [results, Try.results41, go_sem, d0, d1, d2, d3, d4]) rfl ?_
    rw [HF.out]
    exact IPost.store hg.out (K3.out.ext.of_ext) (Blk.lt K3.out.ret) HM9.out HP9.out HS9.out
  · go_wp2_with fail
    refine (pstr_any 3 (by first | exact .inl rfl | exact .inr rfl) g l p hp d sz n o hr _ K3.out.pa).mono ?_
    rintro x w9 ⟨t, A, c, rfl, hm9, hp9, hs9⟩
    have HB9 := hid (Blk.mod K3.out.ret hm9 (by simpa using hgB.out))
    have HM9 := hid hm9; have HP9 := hid hp9; have HS9 := hid hs9
    clear hm9 hp9 hs9
    obtain ⟨c0, c1, c2, c3, c4⟩ := cells5 HB9.out
    have f0 := Blk.frozen HB9.out 0
    have f1 := Blk.frozen HB9.out 1
    have f2 := Blk.frozen HB9.out 2
    have f3 := Blk.frozen HB9.out 3
    have f4 := Blk.frozen HB9.out 4
    go_wp2_with fail
    obtain ⟨d0, d1, d2, d3, d4⟩ := cells5 (set5_blk (t := t) (A := A) (c := c) HB9.out)
    clear c0 c1 c2 c3 c4 f0 f1 f2 f3 f4 
    show bodyPost _ _ _ _ _ (set5 w9 w.heap.size t A c)
    refine bodyPost_ret (v := itemV t A c) (by simp [results, Try.results41, go_sem, d0, d1, d2, d3, d4]) rfl ?_
    rw [HF.out]
    exact IPost.store hg.out (K3.out.ext.of_ext) (Blk.lt K3.out.ret) HM9.out HP9.out HS9.out

theorem newhead {L : List UInt8} {sz m n : Nat} {o : Bool} (h : readH L = some (sz, m, n, o)) : (RS.new L).Head = (⟨L, sz, -1, 0, 0⟩, m, n, o) := by
  rw [RS.Head_some (r := RS.new L) rfl h]; simp [RS.new]
theorem numT_good {l : List UInt8} {p sz n d : Nat} {o : Bool} (h : readH (l.drop p) = some (sz, 0, n, o)) : ((numT n).right (d + 1) = true ∧ (numT n).ok) ∧ (numT n).bytes ++ l.drop (p + sz) = l.drop p := by
  have hs := readH_some h
  have ho : o = false := by
    cases o with
    | false => rfl
    | true => have := (hs.opened rfl).2.2.1; revert this; decide
  subst ho
  refine ⟨⟨?_, ?_⟩, ?_⟩
  · unfold numT T.right T.node; simp [T.all]
  · unfold numT T.ok; exact ⟨by omega, hs.n64, by simp, by omega, fun i hi => by omega⟩
  · have e : (numT n).bytes = headL 0 n := rfl
    rw [e, ← (hs.closed rfl).1, ← List.drop_drop, List.take_append_drop]

set_option maxRecDepth 20000 in
set_option maxHeartbeats 1600000 in
theorem pitem_num (g : Nat) (l : List UInt8) (p : Nat) (hp : Hid (p ≤ l.length ∧ l.length ≤ 1073741824)) (d sz n : Nat) (o : Bool) (hr : Hid (readH (l.drop p) = some (sz, 0, n, o))) (w : World) (h : PAt w g l p 0) :
    Calls Try.prog 41 #[.pointer (some ⟨g, 0, none⟩), .int .i64 ((d : Int) + 1)] w (IPost g l p (flt (d + 1) (l.drop p)) (d + 1) w) := by
  have HF := hid (flt_num (d := d) hr.out)
  have hsz : Hid (sz ≤ 1073741824) := by have h1 := (readH_some hr.out).le; have h2 := hp.out; rw [List.length_drop] at h1; unfold Hid; omega
  have hrk : Hid (RS.ok (RS.new (l.drop p))) := RS.new_ok (by have := hp.out; rw [List.length_drop]; omega)
  have hg : Hid (g < w.heap.size) := Blk.lt h
  have hgB : Hid (w.heap.size ≠ g) := by have := hg.out; unfold Hid; omega
  have H0 := hid (Blk.alloc h (.cells (itemC nulT none 0) 48))
  clear h
  go_enter Try.func41, Try.ntmps41
  go_wp2_with fail
  refine (preader_any g l p 0 hp _ H0.out).mono ?_
  rintro x w1 ⟨rfl, hb1, hr1⟩
  have P1 := hid (H0.out.ext hb1)
  have B1 := hid ((Blk.new w 48 (itemC nulT none 0)).ext hb1)
  have HE1 := hid (((Mod.refl [] w).alloc (.cells (itemC nulT none 0) 48)).trans hb1)
  have hR1 : RdAt w1 (w.heap.size + 1) (RS.new (l.drop p)) := by simpa using hr1
  have HR1 := hid hR1
  clear hr1 hR1 hb1 H0
  go_wp2_with fail
  refine (Head_any_r _ _ hrk.out _ HR1.out).mono ?_
  rintro x w2 ⟨rfl, hm2, hr2⟩
  have K2 : Hid (IH1 w g l p w2 (w.heap.size + 1)) := ⟨Mod.new (S := [w.heap.size + 1]) (HE1.out.of_ext.trans hm2) (fun k hk => by rw [List.mem_singleton] at hk; subst hk; exact .inr (by omega)), Blk.mod P1.out hm2 (by have := hg.out; simp; omega), B1.out.mod hm2 (by simp), hr2, by omega⟩
  clear P1 B1 HE1 HR1 hm2 hr2
  go_wp2_with fail
  refine (Bad_any _ _ _ K2.out.rd).mono ?_
  rintro x w3 ⟨rfl, hb3⟩
  have K3 : Hid (IH1 w g l p w3 (w.heap.size + 1)) := ⟨K2.out.ext.trans hb3, K2.out.pa.ext hb3, K2.out.ret.ext hb3, Blk.ext K2.out.rd hb3, by omega⟩
  clear K2 hb3
  have p1 : w3.cell? ⟨g, 1, none⟩ = some (.int .i64 (p : Int)) := PAt.at_ K3.out.pa
  have HH := hid (newhead hr.out)
  have HR3 : Hid (RdAt w3 (w.heap.size + 1) ⟨l.drop p, sz, -1, 0, 0⟩) := by have := K3.out.rd; rw [HH.out] at this; exact this
  rw [HH.out]
  dsimp only
  clear p1
  have td : decide ((d : Int) + 1 < 1) = false := by simp; omega
  have td2 : ((d : Int) + 1 < 1) = False := by simp; omega
  have q1 : w3.cell? ⟨g, 1, none⟩ = some (.int .i64 (p : Int)) := PAt.at_ K3.out.pa
  have z1 : w3.frozen? ⟨g, 1, none⟩ = false := PAt.froz K3.out.pa 1
  have tw : IntKind.i64.wrap ((p : Int) + (sz : Int)) = (p : Int) + (sz : Int) := IntWalk.i64_in _ (by have := hp.out; have := hsz.out; omega)
  have HP9 : Hid (Mod [g] w3 (w3.setCell ⟨g, 1, none⟩ (.int .i64 ((p : Int) + (sz : Int)))) ∧ PAt (w3.setCell ⟨g, 1, none⟩ (.int .i64 ((p : Int) + (sz : Int)))) g l (p + sz) 0 ∧ Blk (w3.setCell ⟨g, 1, none⟩ (.int .i64 ((p : Int) + (sz : Int)))) w.heap.size 48 (itemC nulT none 0)) := by
    refine ⟨(Mod.refl _ _).setCell (.inl (by simp)) _, ?_, Blk.far K3.out.ret (by simpa using hgB.out) _⟩
    have := Blk.set_ K3.out.pa 1 (.int .i64 ((p + sz : Nat) : Int))
    simpa [PAt] using this
  go_upto_region 11 with fail
  go_cut [] (fun wx => Hid (Mod [g] w3 wx ∧ PAt wx g l (p + sz) 0 ∧ Blk wx w.heap.size 48 (itemC nulT none 0)))
  case first =>
    go_region_with ((go_at_call 74; refine (At_any (w.heap.size + 1) ⟨l.drop p, sz, -1, 0, 0⟩ _ ?_).mono ?_; (first | exact HR3.out | exact Blk.drew HR3.out | exact Blk.drew (Blk.drew HR3.out)); rintro x w' ⟨rfl, rfl⟩))
    all_goals go_wp2_with fail
    all_goals go_meet
    all_goals exact ⟨by first | exact HP9.out.1 | exact HP9.out.1.drew, HP9.out.2⟩
  clear q1 z1 tw HP9
  have hc2 := hid hcut.out
  clear hcut
  go_wp2_with fail
  refine (Num_any n _).mono ?_
  rintro x w9 ⟨rfl, hb9⟩
  have HB9 := hid (hc2.out.2.2.ext hb9)
  have HM9 := hid (hc2.out.1.trans hb9.of_ext)
  have HP9 := hid (Blk.ext hc2.out.2.1 hb9)
  clear hb9
  have HG := hid (numT_good (d := d) hr.out)
  have HLs : Hid (∀ W Q, IsL W Q (numT n) none) := fun W Q => IsL.leaf
  generalize numT n = t at *
  obtain ⟨c0, c1, c2, c3, c4⟩ := cells5 HB9.out
  have f0 := Blk.frozen HB9.out 0
  have f1 := Blk.frozen HB9.out 1
  have f2 := Blk.frozen HB9.out 2
  have f3 := Blk.frozen HB9.out 3
  have f4 := Blk.frozen HB9.out 4
  go_wp2_with fail
  obtain ⟨d0, d1, d2, d3, d4⟩ := cells5 (set5_blk (t := t) (A := none) (c := 0) HB9.out)
  clear c0 c1 c2 c3 c4 f0 f1 f2 f3 f4 
  show bodyPost _ _ _ _ _ (set5 w9 w.heap.size t none 0)
  refine bodyPost_ret (v := itemV t none 0) (by simp [results, Try.results41, go_sem, d0, d1, d2, d3, d4]) rfl ?_
  rw [HF.out]
  exact IPost.store hg.out (K3.out.ext.of_ext) (Blk.lt K3.out.ret) HM9.out HP9.out (fun _ => ⟨HG.out.1, HG.out.2, HLs.out _ _⟩)

set_option maxRecDepth 20000 in
set_option maxHeartbeats 1600000 in
theorem pitem_long (g : Nat) (l : List UInt8) (p : Nat) (hp : Hid (p ≤ l.length ∧ l.length ≤ 1073741824)) (d sz n : Nat) (hn : Hid (1000 < n)) (hr : Hid (readH (l.drop p) = some (sz, 4, n, false))) (w : World) (h : PAt w g l p 0) :
    Calls Try.prog 41 #[.pointer (some ⟨g, 0, none⟩), .int .i64 ((d : Int) + 1)] w (IPost g l p (flt (d + 1) (l.drop p)) (d + 1) w) := by
  have HF := hid (flt_long (d := d) hr.out hn.out)
  have hrk : Hid (RS.ok (RS.new (l.drop p))) := RS.new_ok (by have := hp.out; rw [List.length_drop]; omega)
  have hg : Hid (g < w.heap.size) := Blk.lt h
  have hgB : Hid (w.heap.size ≠ g) := by have := hg.out; unfold Hid; omega
  have H0 := hid (Blk.alloc h (.cells (itemC nulT none 0) 48))
  clear h
  go_enter Try.func41, Try.ntmps41
  go_wp2_with fail
  refine (preader_any g l p 0 hp _ H0.out).mono ?_
  rintro x w1 ⟨rfl, hb1, hr1⟩
  have P1 := hid (H0.out.ext hb1)
  have B1 := hid ((Blk.new w 48 (itemC nulT none 0)).ext hb1)
  have HE1 := hid (((Mod.refl [] w).alloc (.cells (itemC nulT none 0) 48)).trans hb1)
  have hR1 : RdAt w1 (w.heap.size + 1) (RS.new (l.drop p)) := by simpa using hr1
  have HR1 := hid hR1
  clear hr1 hR1 hb1 H0
  go_wp2_with fail
  refine (Head_any_r _ _ hrk.out _ HR1.out).mono ?_
  rintro x w2 ⟨rfl, hm2, hr2⟩
  have K2 : Hid (IH1 w g l p w2 (w.heap.size + 1)) := ⟨Mod.new (S := [w.heap.size + 1]) (HE1.out.of_ext.trans hm2) (fun k hk => by rw [List.mem_singleton] at hk; subst hk; exact .inr (by omega)), Blk.mod P1.out hm2 (by have := hg.out; simp; omega), B1.out.mod hm2 (by simp), hr2, by omega⟩
  clear P1 B1 HE1 HR1 hm2 hr2
  go_wp2_with fail
  refine (Bad_any _ _ _ K2.out.rd).mono ?_
  rintro x w3 ⟨rfl, hb3⟩
  have K3 : Hid (IH1 w g l p w3 (w.heap.size + 1)) := ⟨K2.out.ext.trans hb3, K2.out.pa.ext hb3, K2.out.ret.ext hb3, Blk.ext K2.out.rd hb3, by omega⟩
  clear K2 hb3
  have p1 : w3.cell? ⟨g, 1, none⟩ = some (.int .i64 (p : Int)) := PAt.at_ K3.out.pa
  have HH := hid (newhead hr.out)
  rw [HH.out]
  dsimp only
  have td : decide ((d : Int) + 1 < 1) = false := by simp; omega
  have td2 : ((d : Int) + 1 < 1) = False := by simp; omega
  go_wp2_with fail
  refine (preader_any g l p 0 hp _ K3.out.pa).mono ?_
  rintro x w4 ⟨rfl, hb4, hr4⟩
  have P4 := hid (Blk.ext K3.out.pa hb4)
  have B4 := hid (K3.out.ret.ext hb4)
  have HR4 := hid hr4
  have HS4 := hid (Blk.lt K3.out.ret)
  have HS5 : Hid (w3.heap.size ≠ g ∧ w3.heap.size ≠ w.heap.size) := by have h1 := hg.out; have h2 := HS4.out; unfold Hid; omega
  have HE4 := hid (K3.out.ext.trans hb4)
  clear hb4 hr4 p1
  go_wp2_with fail
  refine (Array_any _ _ hrk.out _ HR4.out).mono ?_
  rintro x w5 ⟨rfl, hm5, hr5⟩
  have HA := hid (newarr_long hr.out hn.out)
  have P5 := hid (Blk.mod P4.out hm5 (by simpa using fun e => HS5.out.1 e.symm))
  have B5 := hid (B4.out.mod hm5 (by simpa using fun e => HS5.out.2 e.symm))
  have M5 : Hid (Ext w w5) := Mod.new (S := [w3.heap.size]) (HE4.out.of_ext.trans hm5) (fun k hk => by rw [List.mem_singleton] at hk; subst hk; exact .inr K3.out.ext.size)
  have HR5 := hid hr5
  clear hm5 hr5
  go_wp2_with fail
  refine (Bad_any _ _ _ HR5.out).mono ?_
  rintro x w6 ⟨rfl, hb6⟩
  rw [HA.out]
  have P6 := hid (Blk.ext P5.out hb6)
  have B6 := hid (B5.out.ext hb6)
  have M6 := hid (M5.out.trans hb6)
  have p1 : w6.cell? ⟨g, 1, none⟩ = some (.int .i64 (p : Int)) := PAt.at_ P6.out
  clear hb6
  go_wp2_with fail
  refine (pfail_any g l p p 4 _ P6.out).mono ?_
  rintro x w9 ⟨rfl, hm9, hp9⟩
  have HB9 := hid (Blk.mod B6.out hm9 (by simpa using hgB.out))
  have HM9 := hid hm9; have HP9 := hid hp9
  clear hm9 hp9
  obtain ⟨c0, c1, c2, c3, c4⟩ := cells5 HB9.out
  have f0 := Blk.frozen HB9.out 0
  have f1 := Blk.frozen HB9.out 1
  have f2 := Blk.frozen HB9.out 2
  have f3 := Blk.frozen HB9.out 3
  have f4 := Blk.frozen HB9.out 4
  go_wp2_with fail
  obtain ⟨d0, d1, d2, d3, d4⟩ := cells5 (set5_blk (t := nulT) (A := none) (c := 0) HB9.out)
  clear c0 c1 c2 c3 c4 f0 f1 f2 f3 f4 
  show bodyPost _ _ _ _ _ (set5 w9 w.heap.size nulT none 0)
  refine bodyPost_ret (v := itemV nulT none 0) (by simp [results, Try.results41, go_sem, d0, d1, d2, d3, d4]) rfl ?_
  rw [HF.out]
  exact IPost.store hg.out ((M6.out).of_ext) (Blk.lt B6.out) HM9.out HP9.out (fun h => by cases h)

set_option maxRecDepth 20000 in
set_option maxHeartbeats 1600000 in
theorem pitem_arr_false (g : Nat) (l : List UInt8) (p : Nat) (hp : Hid (p ≤ l.length ∧ l.length ≤ 1073741824)) (d sz n : Nat) (hd : Hid (d ≤ 8)) (IH : Hid (∀ (p : Nat), p ≤ l.length → ∀ w, PAt w g l p 0 → Calls Try.prog 41 #[.pointer (some ⟨g, 0, none⟩), .int .i64 (d : Int)] w (IPost g l p (flt d (l.drop p)) d w))) (hn : Hid (¬ (false = false ∧ 1000 < n))) (hr : Hid (readH (l.drop p) = some (sz, 4, n, false))) (w : World) (h : PAt w g l p 0) :
    Calls Try.prog 41 #[.pointer (some ⟨g, 0, none⟩), .int .i64 ((d : Int) + 1)] w (IPost g l p (flt (d + 1) (l.drop p)) (d + 1) w) := by
  have HF := hid (flt_arr (d := d) hr.out hn.out)
  have HA := hid (newarr_ok hr.out hn.out)
  have HNN : Hid (false = false → n ≤ 1000) := by have := hn.out; unfold Hid; simp at this ⊢; try omega
  have hsz : Hid (sz ≤ 1073741824) := by have h1 := (readH_some hr.out).le; have h2 := hp.out; rw [List.length_drop] at h1; unfold Hid; omega
  have hrk : Hid (RS.ok (RS.new (l.drop p))) := RS.new_ok (by have := hp.out; rw [List.length_drop]; omega)
  have hg : Hid (g < w.heap.size) := Blk.lt h
  have hgB : Hid (w.heap.size ≠ g) := by have := hg.out; unfold Hid; omega
  have H0 := hid (Blk.alloc h (.cells (itemC nulT none 0) 48))
  clear h
  go_enter Try.func41, Try.ntmps41
  go_wp2_with fail
  refine (preader_any g l p 0 hp _ H0.out).mono ?_
  rintro x w1 ⟨rfl, hb1, hr1⟩
  have P1 := hid (H0.out.ext hb1)
  have B1 := hid ((Blk.new w 48 (itemC nulT none 0)).ext hb1)
  have HE1 := hid (((Mod.refl [] w).alloc (.cells (itemC nulT none 0) 48)).trans hb1)
  have hR1 : RdAt w1 (w.heap.size + 1) (RS.new (l.drop p)) := by simpa using hr1
  have HR1 := hid hR1
  clear hr1 hR1 hb1 H0
  go_wp2_with fail
  refine (Head_any_r _ _ hrk.out _ HR1.out).mono ?_
  rintro x w2 ⟨rfl, hm2, hr2⟩
  have K2 : Hid (IH1 w g l p w2 (w.heap.size + 1)) := ⟨Mod.new (S := [w.heap.size + 1]) (HE1.out.of_ext.trans hm2) (fun k hk => by rw [List.mem_singleton] at hk; subst hk; exact .inr (by omega)), Blk.mod P1.out hm2 (by have := hg.out; simp; omega), B1.out.mod hm2 (by simp), hr2, by omega⟩
  clear P1 B1 HE1 HR1 hm2 hr2
  go_wp2_with fail
  refine (Bad_any _ _ _ K2.out.rd).mono ?_
  rintro x w3 ⟨rfl, hb3⟩
  have K3 : Hid (IH1 w g l p w3 (w.heap.size + 1)) := ⟨K2.out.ext.trans hb3, K2.out.pa.ext hb3, K2.out.ret.ext hb3, Blk.ext K2.out.rd hb3, by omega⟩
  clear K2 hb3
  have p1 : w3.cell? ⟨g, 1, none⟩ = some (.int .i64 (p : Int)) := PAt.at_ K3.out.pa
  have HH := hid (newhead hr.out)
  rw [HH.out]
  dsimp only
  have td : decide ((d : Int) + 1 < 1) = false := by simp; omega
  have td2 : ((d : Int) + 1 < 1) = False := by simp; omega
  go_wp2_with fail
  refine (preader_any g l p 0 hp _ K3.out.pa).mono ?_
  rintro x w4 ⟨rfl, hb4, hr4⟩
  have P4 := hid (Blk.ext K3.out.pa hb4)
  have B4 := hid (K3.out.ret.ext hb4)
  have HR4 := hid hr4
  have HS4 := hid (Blk.lt K3.out.ret)
  have HS5 : Hid (w3.heap.size ≠ g ∧ w3.heap.size ≠ w.heap.size) := by have h1 := hg.out; have h2 := HS4.out; unfold Hid; omega
  have HE4 := hid (K3.out.ext.trans hb4)
  clear hb4 hr4 p1
  go_wp2_with fail
  refine (Array_any _ _ hrk.out _ HR4.out).mono ?_
  rintro x w5 ⟨rfl, hm5, hr5⟩
  rw [HA.out] at hr5 ⊢
  simp only [Bool.false_eq_true, if_false]
  have P5 := hid (Blk.mod P4.out hm5 (by simpa using fun e => HS5.out.1 e.symm))
  have B5 := hid (B4.out.mod hm5 (by simpa using fun e => HS5.out.2 e.symm))
  have M5 : Hid (Ext w w5) := Mod.new (S := [w3.heap.size]) (HE4.out.of_ext.trans hm5) (fun k hk => by rw [List.mem_singleton] at hk; subst hk; exact .inr K3.out.ext.size)
  have HR5 := hid hr5
  clear hm5 hr5
  go_wp2_with fail
  refine (Bad_any _ _ _ HR5.out).mono ?_
  rintro x w6 ⟨rfl, hb6⟩
  have P6 := hid (Blk.ext P5.out hb6)
  have B6 := hid (B5.out.ext hb6)
  have M6 := hid (M5.out.trans hb6)
  have HR6 : Hid (RdAt w6 w3.heap.size ⟨l.drop p, sz, -1, 0, 0⟩) := Blk.ext HR5.out hb6
  clear hb6
  have q1 : w6.cell? ⟨g, 1, none⟩ = some (.int .i64 (p : Int)) := PAt.at_ P6.out
  have z1 : w6.frozen? ⟨g, 1, none⟩ = false := PAt.froz P6.out 1
  have tw : IntKind.i64.wrap ((p : Int) + (sz : Int)) = (p : Int) + (sz : Int) := IntWalk.i64_in _ (by have := hp.out; have := hsz.out; omega)
  have HP9 : Hid (Mod [g] w6 (w6.setCell ⟨g, 1, none⟩ (.int .i64 ((p : Int) + (sz : Int)))) ∧ PAt (w6.setCell ⟨g, 1, none⟩ (.int .i64 ((p : Int) + (sz : Int)))) g l (p + sz) 0 ∧ Blk (w6.setCell ⟨g, 1, none⟩ (.int .i64 ((p : Int) + (sz : Int)))) w.heap.size 48 (itemC nulT none 0)) := by
    refine ⟨(Mod.refl _ _).setCell (.inl (by simp)) _, ?_, Blk.far B6.out (by simpa using hgB.out) _⟩
    have := Blk.set_ P6.out 1 (.int .i64 ((p + sz : Nat) : Int))
    simpa [PAt] using this
  go_upto_region 20 with fail
  go_cut [] (fun wx => Hid (Mod [g] w6 wx ∧ PAt wx g l (p + sz) 0 ∧ Blk wx w.heap.size 48 (itemC nulT none 0)))
  case first =>
    go_region_with ((go_at_call 74; refine (At_any w3.heap.size ⟨l.drop p, sz, -1, 0, 0⟩ _ ?_).mono ?_; (first | exact HR6.out | exact Blk.drew HR6.out | exact Blk.drew (Blk.drew HR6.out)); rintro x w' ⟨rfl, rfl⟩))
    all_goals go_wp2_with fail
    all_goals go_meet
    all_goals exact ⟨by first | exact HP9.out.1 | exact HP9.out.1.drew, HP9.out.2⟩
  clear q1 z1 tw HP9
  have hc2 := hid hcut.out
  clear hcut
  go_wp2_with fail
  refine (plist_any d hd g l (show Hid _ from hp.out.2) IH p sz n false (n : Int) (by unfold Hid; simp) hr (by unfold Hid; first | exact HNN.out | (have := HNN.out; simpa using this) | simp) (by have h1 := (readH_some hr.out).le; have h2 := hp.out; rw [List.length_drop] at h1; unfold Hid; omega) _ hc2.out.2.1).mono ?_
  rintro x w9 ⟨t, A, c, rfl, hm9, hp9, hs9⟩
  have HB9 := hid (Blk.mod hc2.out.2.2 hm9 (by simpa using hgB.out))
  have HM9 := hid hm9; have HP9 := hid hp9; have HS9 := hid hs9
  clear hm9 hp9 hs9
  obtain ⟨c0, c1, c2, c3, c4⟩ := cells5 HB9.out
  have f0 := Blk.frozen HB9.out 0
  have f1 := Blk.frozen HB9.out 1
  have f2 := Blk.frozen HB9.out 2
  have f3 := Blk.frozen HB9.out 3
  have f4 := Blk.frozen HB9.out 4
  go_wp2_with fail
  obtain ⟨d0, d1, d2, d3, d4⟩ := cells5 (set5_blk (t := t) (A := A) (c := c) HB9.out)
  clear c0 c1 c2 c3 c4 f0 f1 f2 f3 f4 
  show bodyPost _ _ _ _ _ (set5 w9 w.heap.size t A c)
  refine bodyPost_ret (v := itemV t A c) (by simp [results, Try.results41, go_sem, d0, d1, d2, d3, d4]) rfl ?_
  rw [HF.out]
  exact IPost.store hg.out (M6.out.of_ext.trans hc2.out.1) (Blk.lt hc2.out.2.2) HM9.out HP9.out HS9.out

set_option maxRecDepth 20000 in
set_option maxHeartbeats 1600000 in
theorem pitem_arr_true (g : Nat) (l : List UInt8) (p : Nat) (hp : Hid (p ≤ l.length ∧ l.length ≤ 1073741824)) (d sz n : Nat) (hd : Hid (d ≤ 8)) (IH : Hid (∀ (p : Nat), p ≤ l.length → ∀ w, PAt w g l p 0 → Calls Try.prog 41 #[.pointer (some ⟨g, 0, none⟩), .int .i64 (d : Int)] w (IPost g l p (flt d (l.drop p)) d w))) (hn : Hid (¬ (true = false ∧ 1000 < n))) (hr : Hid (readH (l.drop p) = some (sz, 4, n, true))) (w : World) (h : PAt w g l p 0) :
    Calls Try.prog 41 #[.pointer (some ⟨g, 0, none⟩), .int .i64 ((d : Int) + 1)] w (IPost g l p (flt (d + 1) (l.drop p)) (d + 1) w) := by
  have HF := hid (flt_arr (d := d) hr.out hn.out)
  have HA := hid (newarr_ok hr.out hn.out)
  have HNN : Hid (true = false → n ≤ 1000) := by have := hn.out; unfold Hid; simp at this ⊢; try omega
  have hsz : Hid (sz ≤ 1073741824) := by have h1 := (readH_some hr.out).le; have h2 := hp.out; rw [List.length_drop] at h1; unfold Hid; omega
  have hrk : Hid (RS.ok (RS.new (l.drop p))) := RS.new_ok (by have := hp.out; rw [List.length_drop]; omega)
  have hg : Hid (g < w.heap.size) := Blk.lt h
  have hgB : Hid (w.heap.size ≠ g) := by have := hg.out; unfold Hid; omega
  have H0 := hid (Blk.alloc h (.cells (itemC nulT none 0) 48))
  clear h
  go_enter Try.func41, Try.ntmps41
  go_wp2_with fail
  refine (preader_any g l p 0 hp _ H0.out).mono ?_
  rintro x w1 ⟨rfl, hb1, hr1⟩
  have P1 := hid (H0.out.ext hb1)
  have B1 := hid ((Blk.new w 48 (itemC nulT none 0)).ext hb1)
  have HE1 := hid (((Mod.refl [] w).alloc (.cells (itemC nulT none 0) 48)).trans hb1)
  have hR1 : RdAt w1 (w.heap.size + 1) (RS.new (l.drop p)) := by simpa using hr1
  have HR1 := hid hR1
  clear hr1 hR1 hb1 H0
  go_wp2_with fail
  refine (Head_any_r _ _ hrk.out _ HR1.out).mono ?_
  rintro x w2 ⟨rfl, hm2, hr2⟩
  have K2 : Hid (IH1 w g l p w2 (w.heap.size + 1)) := ⟨Mod.new (S := [w.heap.size + 1]) (HE1.out.of_ext.trans hm2) (fun k hk => by rw [List.mem_singleton] at hk; subst hk; exact .inr (by omega)), Blk.mod P1.out hm2 (by have := hg.out; simp; omega), B1.out.mod hm2 (by simp), hr2, by omega⟩
  clear P1 B1 HE1 HR1 hm2 hr2
  go_wp2_with fail
  refine (Bad_any _ _ _ K2.out.rd).mono ?_
  rintro x w3 ⟨rfl, hb3⟩
  have K3 : Hid (IH1 w g l p w3 (w.heap.size + 1)) := ⟨K2.out.ext.trans hb3, K2.out.pa.ext hb3, K2.out.ret.ext hb3, Blk.ext K2.out.rd hb3, by omega⟩
  clear K2 hb3
  have p1 : w3.cell? ⟨g, 1, none⟩ = some (.int .i64 (p : Int)) := PAt.at_ K3.out.pa
  have HH := hid (newhead hr.out)
  rw [HH.out]
  dsimp only
  have td : decide ((d : Int) + 1 < 1) = false := by simp; omega
  have td2 : ((d : Int) + 1 < 1) = False := by simp; omega
  go_wp2_with fail
  refine (preader_any g l p 0 hp _ K3.out.pa).mono ?_
  rintro x w4 ⟨rfl, hb4, hr4⟩
  have P4 := hid (Blk.ext K3.out.pa hb4)
  have B4 := hid (K3.out.ret.ext hb4)
  have HR4 := hid hr4
  have HS4 := hid (Blk.lt K3.out.ret)
  have HS5 : Hid (w3.heap.size ≠ g ∧ w3.heap.size ≠ w.heap.size) := by have h1 := hg.out; have h2 := HS4.out; unfold Hid; omega
  have HE4 := hid (K3.out.ext.trans hb4)
  clear hb4 hr4 p1
  go_wp2_with fail
  refine (Array_any _ _ hrk.out _ HR4.out).mono ?_
  rintro x w5 ⟨rfl, hm5, hr5⟩
  rw [HA.out] at hr5 ⊢
  simp only [if_true]
  have P5 := hid (Blk.mod P4.out hm5 (by simpa using fun e => HS5.out.1 e.symm))
  have B5 := hid (B4.out.mod hm5 (by simpa using fun e => HS5.out.2 e.symm))
  have M5 : Hid (Ext w w5) := Mod.new (S := [w3.heap.size]) (HE4.out.of_ext.trans hm5) (fun k hk => by rw [List.mem_singleton] at hk; subst hk; exact .inr K3.out.ext.size)
  have HR5 := hid hr5
  clear hm5 hr5
  go_wp2_with fail
  refine (Bad_any _ _ _ HR5.out).mono ?_
  rintro x w6 ⟨rfl, hb6⟩
  have P6 := hid (Blk.ext P5.out hb6)
  have B6 := hid (B5.out.ext hb6)
  have M6 := hid (M5.out.trans hb6)
  have HR6 : Hid (RdAt w6 w3.heap.size ⟨l.drop p, sz, -1, 0, 0⟩) := Blk.ext HR5.out hb6
  clear hb6
  have q1 : w6.cell? ⟨g, 1, none⟩ = some (.int .i64 (p : Int)) := PAt.at_ P6.out
  have z1 : w6.frozen? ⟨g, 1, none⟩ = false := PAt.froz P6.out 1
  have tw : IntKind.i64.wrap ((p : Int) + (sz : Int)) = (p : Int) + (sz : Int) := IntWalk.i64_in _ (by have := hp.out; have := hsz.out; omega)
  have HP9 : Hid (Mod [g] w6 (w6.setCell ⟨g, 1, none⟩ (.int .i64 ((p : Int) + (sz : Int)))) ∧ PAt (w6.setCell ⟨g, 1, none⟩ (.int .i64 ((p : Int) + (sz : Int)))) g l (p + sz) 0 ∧ Blk (w6.setCell ⟨g, 1, none⟩ (.int .i64 ((p : Int) + (sz : Int)))) w.heap.size 48 (itemC nulT none 0)) := by
    refine ⟨(Mod.refl _ _).setCell (.inl (by simp)) _, ?_, Blk.far B6.out (by simpa using hgB.out) _⟩
    have := Blk.set_ P6.out 1 (.int .i64 ((p + sz : Nat) : Int))
    simpa [PAt] using this
  go_upto_region 20 with fail
  go_cut [] (fun wx => Hid (Mod [g] w6 wx ∧ PAt wx g l (p + sz) 0 ∧ Blk wx w.heap.size 48 (itemC nulT none 0)))
  case first =>
    go_region_with ((go_at_call 74; refine (At_any w3.heap.size ⟨l.drop p, sz, -1, 0, 0⟩ _ ?_).mono ?_; (first | exact HR6.out | exact Blk.drew HR6.out | exact Blk.drew (Blk.drew HR6.out)); rintro x w' ⟨rfl, rfl⟩))
    all_goals go_wp2_with fail
    all_goals go_meet
    all_goals exact ⟨by first | exact HP9.out.1 | exact HP9.out.1.drew, HP9.out.2⟩
  clear q1 z1 tw HP9
  have hc2 := hid hcut.out
  clear hcut
  go_wp2_with fail
  refine (plist_any d hd g l (show Hid _ from hp.out.2) IH p sz n true (-1) (by unfold Hid; simp) hr (by unfold Hid; first | exact HNN.out | (have := HNN.out; simpa using this) | simp) (by have h1 := (readH_some hr.out).le; have h2 := hp.out; rw [List.length_drop] at h1; unfold Hid; omega) _ hc2.out.2.1).mono ?_
  rintro x w9 ⟨t, A, c, rfl, hm9, hp9, hs9⟩
  have HB9 := hid (Blk.mod hc2.out.2.2 hm9 (by simpa using hgB.out))
  have HM9 := hid hm9; have HP9 := hid hp9; have HS9 := hid hs9
  clear hm9 hp9 hs9
  obtain ⟨c0, c1, c2, c3, c4⟩ := cells5 HB9.out
  have f0 := Blk.frozen HB9.out 0
  have f1 := Blk.frozen HB9.out 1
  have f2 := Blk.frozen HB9.out 2
  have f3 := Blk.frozen HB9.out 3
  have f4 := Blk.frozen HB9.out 4
  go_wp2_with fail
  obtain ⟨d0, d1, d2, d3, d4⟩ := cells5 (set5_blk (t := t) (A := A) (c := c) HB9.out)
  clear c0 c1 c2 c3 c4 f0 f1 f2 f3 f4 
  show bodyPost _ _ _ _ _ (set5 w9 w.heap.size t A c)
  refine bodyPost_ret (v := itemV t A c) (by simp [results, Try.results41, go_sem, d0, d1, d2, d3, d4]) rfl ?_
  rw [HF.out]
  exact IPost.store hg.out (M6.out.of_ext.trans hc2.out.1) (Blk.lt hc2.out.2.2) HM9.out HP9.out HS9.out


theorem pitem_any (g : Nat) (l : List UInt8) (hl : l.length ≤ 1073741824) : ∀ d : Nat, d ≤ 9 → ∀ p, p ≤ l.length → ∀ w, PAt w g l p 0 → Calls Try.prog 41 #[.pointer (some ⟨g, 0, none⟩), .int .i64 (d : Int)] w (IPost g l p (flt d (l.drop p)) d w) := by
  intro d
  induction d with
  | zero =>
    intro _ p hp w h
    cases hr : readH (l.drop p) with
    | none => exact pitem_none g l p ⟨hp, hl⟩ 0 hr w h
    | some x =>
      obtain ⟨sz, m, n, o⟩ := x
      have hm := (readH_some hr).m7
      have h8 : (m = 1 ∨ m = 5 ∨ m = 6 ∨ m = 7) ∨ (m = 0 ∨ m = 2 ∨ m = 3 ∨ m = 4) := by omega
      rcases h8 with h8 | h8
      · exact pitem_noK g l p ⟨hp, hl⟩ 0 sz m n o h8 hr w h
      · exact pitem_deep g l p ⟨hp, hl⟩ sz m n o h8 hr w h
  | succ d ih =>
    intro hd p hp w h
    have ih' := ih (by omega)
    have e : ((d + 1 : Nat) : Int) = (d : Int) + 1 := by omega
    cases hr : readH (l.drop p) with
    | none => exact pitem_none g l p ⟨hp, hl⟩ (d + 1) hr w h
    | some x =>
      obtain ⟨sz, m, n, o⟩ := x
      have hm := (readH_some hr).m7
      have h8 : (m = 1 ∨ m = 5 ∨ m = 6 ∨ m = 7) ∨ m = 0 ∨ (m = 2 ∨ m = 3) ∨ m = 4 := by omega
      rcases h8 with h8 | rfl | h8 | rfl
      · exact pitem_noK g l p ⟨hp, hl⟩ (d + 1) sz m n o h8 hr w h
      · rw [e]; exact pitem_num g l p ⟨hp, hl⟩ d sz n o hr w h
      · rw [e]; exact pitem_str g l p ⟨hp, hl⟩ d sz m n o h8 hr w h
      · rw [e]
        cases o with
        | false =>
          by_cases hn : 1000 < n
          · exact pitem_long g l p ⟨hp, hl⟩ d sz n hn hr w h
          · exact pitem_arr_false g l p ⟨hp, hl⟩ d sz n (by unfold Hid; omega) ih' (fun h => hn h.2) hr w h
        | true => exact pitem_arr_true g l p ⟨hp, hl⟩ d sz n (by unfold Hid; omega) ih' (fun h => by cases h.1) hr w h
end Go.Proofs.Ytkeabdfgacicaaa


namespace Go.Proofs.Ytkeabdfgacicaaa
open Go.RowKit
set_option linter.unusedVariables false
set_option linter.unusedSimpArgs false

/-- Place and error of a whole text. -/
def parseR (l : List UInt8) : Nat × Int := if (flt 8 l).2 = 0 ∧ (flt 8 l).1 < l.length then ((flt 8 l).1, 2) else flt 8 l
def PPost (l : List UInt8) (w : World) (x : Ending) (w' : World) : Prop :=
  Ext w w' ∧ (((parseR l).2 ≠ 0 ∧ x = .returned (.tuple #[itemV nulT none 0, .int .i64 ((parseR l).1 : Int), .int .i64 (parseR l).2])) ∨
    ((parseR l).2 = 0 ∧ ∃ t A c, x = .returned (.tuple #[itemV t A c, .int .i64 (-1), .int .i64 0]) ∧ (t.right 8 = true ∧ t.ok) ∧ t.bytes = l ∧ IsL w' (fun _ => True) t A))

set_option maxRecDepth 20000 in
set_option maxHeartbeats 1600000 in
theorem parse_any (l : List UInt8) (hl : Hid (l.length ≤ 1073741824)) (w : World) : Calls Try.prog 21 #[str l] w (PPost l w) := by
  have hF0 : Hid (flt 8 (l.drop 0) = flt 8 l) := by unfold Hid; rw [List.drop_zero]
  have HP1 : Hid (PAt ((w.alloc (.cells (itemC nulT none 0) 48)).alloc (.cells #[str l, .int .i64 ((0 : Nat) : Int), .int .i64 0] 87)) (w.heap.size + 1) l 0 0) := Blk.newAt _ _ _ (by simp)
  have HB1 : Hid (Blk ((w.alloc (.cells (itemC nulT none 0) 48)).alloc (.cells #[str l, .int .i64 ((0 : Nat) : Int), .int .i64 0] 87)) w.heap.size 48 (itemC nulT none 0)) := (Blk.new _ _ _).alloc _
  have HE1 := hid (((Mod.refl [w.heap.size + 1] w).alloc (.cells (itemC nulT none 0) 48)).alloc (.cells #[str l, .int .i64 ((0 : Nat) : Int), .int .i64 0] 87))
  go_enter Try.func21, Try.ntmps21
  go_upto_region 2 with fail
  go_cut [6] (fun s6 wx => ∃ X t A c, s6 = .pointer (some ⟨X, 0, none⟩) ∧ Hid (Mod [w.heap.size + 1] w wx ∧ PAt wx (w.heap.size + 1) l (flt 8 l).1 (flt 8 l).2 ∧ Blk wx w.heap.size 48 (itemC nulT none 0) ∧ Blk wx X 48 (itemC t A c) ∧ w.heap.size + 1 < X ∧
      ((flt 8 l).2 = 0 → (t.right 8 = true ∧ t.ok) ∧ t.bytes ++ l.drop (flt 8 l).1 = l ∧ IsL wx (fun b => w.heap.size + 2 ≤ b ∧ b ≠ X) t A)))
  case first =>
    go_wp2_with fail
    refine (pitem_any (w.heap.size + 1) l hl.out 8 (by omega) 0 (by omega) _ HP1.out).mono ?_
    rintro x w2 ⟨t, A, c, rfl, hm2, hp2, hs2⟩
    rw [hF0.out] at hp2 hs2
    rw [Nat.zero_add] at hp2 hs2
    rw [List.drop_zero] at hs2
    have HB2 := hid (HB1.out.mod hm2 (by simp))
    have HP2 := hid hp2
    have HS2 := hid hs2
    have HE2 := hid (HE1.out.trans hm2)
    clear hm2 hp2 hs2 HB1 HE1 HP1
    go_wp2_with fail
    go_meet
    refine ⟨w2.heap.size, t, A, c, rfl, HE2.out.alloc _, Blk.alloc HP2.out _, HB2.out.alloc _, Blk.new _ _ _, Blk.lt HP2.out, fun h0 => ⟨(HS2.out h0).1, (HS2.out h0).2.1, ?_⟩⟩
    have h3 := (HS2.out h0).2.2
    exact IsL.ext (IsL.weak (fun k hk hq => ⟨by simpa using hq, by omega⟩) t h3) ((Mod.refl _ _).alloc _)
  obtain ⟨X, t, A, c, rfl, hH⟩ := hcut
  clear HB1 HE1 HP1 hF0
  obtain ⟨E, hE⟩ : ∃ E, E = (flt 8 l).2 := ⟨_, rfl⟩
  obtain ⟨q, hq⟩ : ∃ q, q = (flt 8 l).1 := ⟨_, rfl⟩
  have HPR : Hid (parseR l = if E = 0 ∧ q < l.length then (q, 2) else (q, E)) := by unfold Hid parseR; rw [hE, hq]
  rw [← hE, ← hq] at hH
  have hql : q ≤ l.length := by rw [hq]; exact flt_le 8 l
  have q0 : (0 : Int) ≤ (q : Int) := by omega
  have q1 : (q : Int) ≤ (l.length : Int) := by omega
  have l1 : (l.length : Int) ≤ 1073741824 := by have := hl.out; omega
  have HQL := hid hql
  clear hE hq hql
  have p1 : wc.cell? ⟨w.heap.size + 1, 1, none⟩ = some (.int .i64 (q : Int)) := PAt.at_ hH.out.2.1
  have p2 : wc.cell? ⟨w.heap.size + 1, 2, none⟩ = some (.int .i64 E) := PAt.err hH.out.2.1
  by_cases hE : E = 0
  · subst hE
    by_cases hql : q < l.length
    · have tl : decide (q < l.length) = true := by simp [hql]
      have tl2 : decide ((q : Int) < (l.length : Int)) = true := by simp [hql]
      have HPE := hid HPR.out
      rw [if_pos ⟨rfl, hql⟩] at HPE
      clear hql
      go_upto_region 4 with fail
      go_wp2_with fail
      refine (pfail_any (w.heap.size + 1) l q q 2 _ hH.out.2.1).mono ?_
      rintro x w3 ⟨rfl, hm3, hp3⟩
      have HM3 := hid (hH.out.1.trans hm3)
      have HP3 := hid hp3
      have HB3 := hid (hH.out.2.2.1.mod hm3 (by simp))
      clear hm3 hp3 p1 p2
      have p1 : w3.cell? ⟨w.heap.size + 1, 1, none⟩ = some (.int .i64 (q : Int)) := PAt.at_ HP3.out
      have p2 : w3.cell? ⟨w.heap.size + 1, 2, none⟩ = some (.int .i64 2) := PAt.err HP3.out
      obtain ⟨c0, c1, c2, c3, c4⟩ := cells5 HB3.out
      have f0 := Blk.frozen HB3.out 0
      have f1 := Blk.frozen HB3.out 1
      have f2 := Blk.frozen HB3.out 2
      have f3 := Blk.frozen HB3.out 3
      have f4 := Blk.frozen HB3.out 4
      go_upto_region 6 with fail
      have HW : Hid (Mod [w.heap.size + 1] w (set5 w3 w.heap.size nulT none 0).drew ∧ Blk (set5 w3 w.heap.size nulT none 0).drew w.heap.size 48 (itemC nulT none 0)) := ⟨(set5_mod HM3.out (Nat.le_refl _)).drew, Blk.drew (set5_blk HB3.out)⟩
      go_cut [3, 4] (fun s3 s4 wx => s3 = .int .i64 (q : Int) ∧ s4 = .int .i64 2 ∧ Hid (Mod [w.heap.size + 1] w wx ∧ Blk wx w.heap.size 48 (itemC nulT none 0)))
      case first =>
        go_region
        all_goals go_wp2_with fail
        all_goals go_meet
        all_goals exact ⟨rfl, rfl, HW.out.1, HW.out.2⟩
      clear c0 c1 c2 c3 c4 f0 f1 f2 f3 f4
      obtain ⟨rfl, rfl, hR⟩ := hcut
      obtain ⟨d0, d1, d2, d3, d4⟩ := cells5 hR.out.2
      go_wp2_with fail
      refine bodyPost_ret (v := .tuple #[itemV nulT none 0, .int .i64 (q : Int), .int .i64 2]) (by simp [results, Try.results21, go_sem, d0, d1, d2, d3, d4]) rfl ?_
      refine ⟨Mod.new (S := [w.heap.size + 1]) hR.out.1 (fun k hk => by rw [List.mem_singleton] at hk; subst hk; exact .inr (by omega)), .inl ?_⟩
      rw [HPE.out]
      exact ⟨(show ¬ ((2 : Int) = 0) by decide), rfl⟩
    · have tl : decide (q < l.length) = false := by simp [hql]
      have tl2 : decide ((q : Int) < (l.length : Int)) = false := by simp; omega
      have HPE := hid HPR.out
      rw [if_neg (fun h => hql h.2)] at HPE
      have HQ := hid hql
      clear hql
      obtain ⟨x0, x1, x2, x3, x4⟩ := cells5 hH.out.2.2.2.1
      obtain ⟨c0, c1, c2, c3, c4⟩ := cells5 hH.out.2.2.1
      have f0 := Blk.frozen hH.out.2.2.1 0
      have f1 := Blk.frozen hH.out.2.2.1 1
      have f2 := Blk.frozen hH.out.2.2.1 2
      have f3 := Blk.frozen hH.out.2.2.1 3
      have f4 := Blk.frozen hH.out.2.2.1 4
      go_wp2_with fail
      obtain ⟨d0, d1, d2, d3, d4⟩ := cells5 (set5_blk (t := t) (A := A) (c := c) hH.out.2.2.1)
      clear c0 c1 c2 c3 c4 f0 f1 f2 f3 f4 x0 x1 x2 x3 x4 p1 p2
      show bodyPost _ _ _ _ _ (set5 wc w.heap.size t A c)
      refine bodyPost_ret (v := .tuple #[itemV t A c, .int .i64 (-1), .int .i64 0]) (by simp [results, Try.results21, go_sem, d0, d1, d2, d3, d4]) rfl ?_
      refine ⟨Mod.new (S := [w.heap.size + 1]) (set5_mod hH.out.1 (Nat.le_refl _)) (fun k hk => by rw [List.mem_singleton] at hk; subst hk; exact .inr (by omega)), .inr ?_⟩
      have h1 := hH.out.2.2.2.2.2 (by first | rfl | trivial)
      rw [HPE.out]
      refine ⟨rfl, t, A, c, rfl, h1.1, ?_, ?_⟩
      · have h2 := h1.2.1
        have hqe : q = l.length := by have := HQ.out; have := HQL.out; omega
        rw [hqe, List.drop_length, List.append_nil] at h2
        exact h2
      · exact IsL.weak (fun k hk hq => trivial) t (IsL.mod set5_modb (fun k hq hk hm => by rw [List.mem_singleton] at hm; have := hq.1; omega) t h1.2.2)
  · have te : (E == 0) = false := by simp [hE]
    have te2 : (E = 0) = False := by simp [hE]
    have tn : (E != 0) = true := by simp [hE]
    have HPE := hid HPR.out
    rw [if_neg (fun h => hE h.1)] at HPE
    have HNE := hid hE
    clear hE
    obtain ⟨c0, c1, c2, c3, c4⟩ := cells5 hH.out.2.2.1
    have f0 := Blk.frozen hH.out.2.2.1 0
    have f1 := Blk.frozen hH.out.2.2.1 1
    have f2 := Blk.frozen hH.out.2.2.1 2
    have f3 := Blk.frozen hH.out.2.2.1 3
    have f4 := Blk.frozen hH.out.2.2.1 4
    go_upto_region 6 with fail
    have HW : Hid (Mod [w.heap.size + 1] w (set5 wc w.heap.size nulT none 0).drew ∧ Blk (set5 wc w.heap.size nulT none 0).drew w.heap.size 48 (itemC nulT none 0)) := ⟨(set5_mod hH.out.1 (Nat.le_refl _)).drew, Blk.drew (set5_blk hH.out.2.2.1)⟩
    go_cut [3, 4] (fun s3 s4 wx => s3 = .int .i64 (q : Int) ∧ s4 = .int .i64 E ∧ Hid (Mod [w.heap.size + 1] w wx ∧ Blk wx w.heap.size 48 (itemC nulT none 0)))
    case first =>
      go_region
      all_goals go_wp2_with fail
      all_goals go_meet
      all_goals exact ⟨rfl, rfl, HW.out.1, HW.out.2⟩
    clear c0 c1 c2 c3 c4 f0 f1 f2 f3 f4
    obtain ⟨rfl, rfl, hR⟩ := hcut
    obtain ⟨d0, d1, d2, d3, d4⟩ := cells5 hR.out.2
    go_wp2_with fail
    refine bodyPost_ret (v := .tuple #[itemV nulT none 0, .int .i64 (q : Int), .int .i64 E]) (by simp [results, Try.results21, go_sem, d0, d1, d2, d3, d4]) rfl ?_
    refine ⟨Mod.new (S := [w.heap.size + 1]) hR.out.1 (fun k hk => by rw [List.mem_singleton] at hk; subst hk; exact .inr (by omega)), .inl ?_⟩
    rw [HPE.out]
    exact ⟨HNE.out, rfl⟩
end Go.Proofs.Ytkeabdfgacicaaa


namespace Go.Proofs.Ytkeabdfgacicaaa
open Go.RowKit
set_option linter.unusedVariables false
set_option linter.unusedSimpArgs false

set_option maxRecDepth 20000 in
set_option maxHeartbeats 3200000 in
theorem same_any (a : T) : ∀ b : T, a.ok → b.ok → ∀ A c B d w, IsL w (fun _ => True) a A → IsL w (fun _ => True) b B →
    Calls Try.prog 93 #[itemV a A c, itemV b B d] w (Ret (.bool (a.same b)) w) := by
  induction a with
  | nil => intro b hok; cases hok
  | mk kind n s op k ch ih =>
    intro b
    rcases b with _ | ⟨kind', n', s', op', k', ch'⟩
    · intro _ hok; cases hok
    intro hok hok' A c B d w h h'
    have H := hid h; have HO := hid hok
    have H' := hid h'; have HO' := hid hok'
    have HI := hid ih
    have hk : Hid (k < 4611686018427387904) := by unfold T.ok at hok; exact hok.2.2.2.1
    have HR : Hid ((T.mk kind n s op k ch).same (T.mk kind' n' s' op' k' ch') = (kind == kind' && n == n' && s == s' && op == op' && k == k' && T.all (fun i => (ch i).same (ch' i)) k)) := rfl
    show Calls Try.prog 93 #[.agg #[.int .i64 kind, .int .u64 (n : Int), str s, .slice A k c, .bool op], .agg #[.int .i64 kind', .int .u64 (n' : Int), str s', .slice B k' d, .bool op']] w (Ret (.bool ((T.mk kind n s op k ch).same (T.mk kind' n' s' op' k' ch'))) w)
    rw [HR.out]
    have HBa : Hid (Blk ((w.alloc (.cells #[.int .i64 kind, .int .u64 (n : Int), str s, .slice A k c, .bool op] 48)).alloc (.cells #[.int .i64 kind', .int .u64 (n' : Int), str s', .slice B k' d, .bool op'] 48)) w.heap.size 48 #[.int .i64 kind, .int .u64 (n : Int), str s, .slice A k c, .bool op]) := (Blk.new _ _ _).alloc _
    have HBb : Hid (Blk ((w.alloc (.cells #[.int .i64 kind, .int .u64 (n : Int), str s, .slice A k c, .bool op] 48)).alloc (.cells #[.int .i64 kind', .int .u64 (n' : Int), str s', .slice B k' d, .bool op'] 48)) (w.heap.size + 1) 48 #[.int .i64 kind', .int .u64 (n' : Int), str s', .slice B k' d, .bool op']) := by
      exact Blk.new' _ _ _ (by simp)
    have HE0 := hid (((Mod.refl [] w).alloc (.cells #[.int .i64 kind, .int .u64 (n : Int), str s, .slice A k c, .bool op] 48)).alloc (.cells #[.int .i64 kind', .int .u64 (n' : Int), str s', .slice B k' d, .bool op'] 48))
    clear h hok h' hok' ih HR
    go_enter Try.func93, Try.ntmps93
    by_cases e1 : kind = kind'
    · subst e1
      by_cases e2 : n = n'
      · subst e2
        by_cases e3 : s = s'
        · subst e3
          by_cases e4 : op = op'
          · subst e4
            by_cases e5 : k = k'
            · subst e5
              have tk : ((k : Int) == (k : Int)) = true := by simp
              have HA := hid (fun (wr : World) (hX : Ext ((w.alloc (.cells #[.int .i64 kind, .int .u64 (n : Int), str s, .slice A k c, .bool op] 48)).alloc (.cells #[.int .i64 kind, .int .u64 (n : Int), str s, .slice B k d, .bool op] 48)) wr) => (show wr.cell? ⟨w.heap.size, 3, none⟩ = some (.slice A k c) ∧ wr.cell? ⟨w.heap.size + 1, 3, none⟩ = some (.slice B k d) from ⟨(HBa.out.ext hX).cell 3, (HBb.out.ext hX).cell 3⟩))
              have HEB := hid (Mod.refl [] ((w.alloc (.cells #[.int .i64 kind, .int .u64 (n : Int), str s, .slice A k c, .bool op] 48)).alloc (.cells #[.int .i64 kind, .int .u64 (n : Int), str s, .slice B k d, .bool op] 48)))
              go_wp2_with fail
              go_loopw [44] (fun s44 wr => ∃ i : Nat, i ≤ k ∧ s44 = .int .i64 (i : Int) ∧ Hid (Ext ((w.alloc (.cells #[.int .i64 kind, .int .u64 (n : Int), str s, .slice A k c, .bool op] 48)).alloc (.cells #[.int .i64 kind, .int .u64 (n : Int), str s, .slice B k d, .bool op] 48)) wr ∧ T.all (fun i => (ch i).same (ch' i)) i = true)) (fun i _ => k - (intOf i).toNat)
              case atStart => exact ⟨0, Nat.zero_le _, rfl, HEB.out, rfl⟩
              case round =>
                obtain ⟨i, hi, rfl, hX⟩ := hrel
                have HEW := hid (HE0.out.trans hX.out.1)
                have i0 : (0 : Int) ≤ (i : Int) := by omega
                by_cases hlt : i < k
                · obtain ⟨y0, y1⟩ := HA.out wr hX.out.1
                  obtain ⟨b, o, Ai, ci, rfl, hb, ⟨k0, k1, k2, k3, k4⟩, hL⟩ := H.out.cells HEW.out hlt
                  obtain ⟨b', o', Ai', ci', rfl, hb', ⟨l0, l1, l2, l3, l4⟩, hL'⟩ := H'.out.cells HEW.out hlt
                  have i1 : (i : Int) < (k : Int) := by omega
                  have ti : decide (i < k) = true := by simp [hlt]
                  have HL := hid hL; have HL' := hid hL'; have HLT := hid hlt
                  have HOi : Hid (ch i).ok := by have := HO.out; unfold T.ok at this; exact this.2.2.2.2 i hlt
                  have HOi' : Hid (ch' i).ok := by have := HO'.out; unfold T.ok at this; exact this.2.2.2.2 i hlt
                  have hb0 : b < wr.heap.size := Nat.lt_of_lt_of_le hb HEW.out.size
                  have hb0' : b' < wr.heap.size := Nat.lt_of_lt_of_le hb' HEW.out.size
                  have HL5 : Hid (∀ W, Ext wr W → W.cell? ⟨b, o + i * 5 + 3, none⟩ = some (.slice Ai (ch i).k ci)) := fun W hW => (hW.cell hb0 (by simp)).trans k3
                  have HL5' : Hid (∀ W, Ext wr W → W.cell? ⟨b', o' + i * 5 + 3, none⟩ = some (.slice Ai' (ch' i).k ci')) := fun W hW => (hW.cell hb0' (by simp)).trans l3
                  clear hb hb' hb0 hb0'
                  have HC := hid (fun W hW => HI.out i (ch' i) HOi.out HOi'.out Ai ci Ai' ci' W (HL.out.ext hW) (HL'.out.ext hW))
                  have HS : Hid (∀ W, Ext wr W → W.cell? ⟨w.heap.size, 3, none⟩ = some (.slice (some ⟨b, o, none⟩) k c) ∧ W.cell? ⟨w.heap.size + 1, 3, none⟩ = some (.slice (some ⟨b', o', none⟩) k d) ∧ W.cell? ⟨b, o + i * 5, none⟩ = some (.int .i64 (ch i).kind) ∧ W.cell? ⟨b, o + i * 5 + 1, none⟩ = some (.int .u64 ((ch i).n : Int)) ∧ W.cell? ⟨b, o + i * 5 + 2, none⟩ = some (str (ch i).s) ∧ W.cell? ⟨b, o + i * 5 + 3, none⟩ = some (.slice Ai (ch i).k ci) ∧ W.cell? ⟨b, o + i * 5 + 4, none⟩ = some (.bool (ch i).op) ∧ W.cell? ⟨b', o' + i * 5, none⟩ = some (.int .i64 (ch' i).kind) ∧ W.cell? ⟨b', o' + i * 5 + 1, none⟩ = some (.int .u64 ((ch' i).n : Int)) ∧ W.cell? ⟨b', o' + i * 5 + 2, none⟩ = some (str (ch' i).s) ∧ W.cell? ⟨b', o' + i * 5 + 3, none⟩ = some (.slice Ai' (ch' i).k ci') ∧ W.cell? ⟨b', o' + i * 5 + 4, none⟩ = some (.bool (ch' i).op)) := fun W hW => by
                    obtain ⟨z0, z1⟩ := HA.out W (hX.out.1.trans hW)
                    obtain ⟨e1, e2, Ai2, ci2, e3, _, ⟨p0, p1, p2, p3, p4⟩, _⟩ := H.out.cells (HEW.out.trans hW) hlt
                    obtain ⟨e1', e2', Ai2', ci2', e3', _, ⟨q0, q1, q2, q3, q4⟩, _⟩ := H'.out.cells (HEW.out.trans hW) hlt
                    simp only [Option.some.injEq, Addr.mk.injEq, and_true] at e3 e3'
                    obtain ⟨rfl, rfl⟩ := e3
                    obtain ⟨rfl, rfl⟩ := e3'
                    have g3 := HL5.out W hW; have g3' := HL5'.out W hW
                    rw [p3] at g3; rw [q3] at g3'
                    exact ⟨z0, z1, p0, p1, p2, p3.trans g3, p4, q0, q1, q2, q3.trans g3', q4⟩
                  clear hL hL' hlt
                  have hk2 : (k : Int) < 4611686018427387904 := by have := hk.out; omega
                  go_upto_region 6 with fail
                  go_region_held3 (fun w' => w'.cell? ⟨w.heap.size, 3, none⟩ = some (.slice (some ⟨b, o, none⟩) k c) ∧ w'.cell? ⟨w.heap.size + 1, 3, none⟩ = some (.slice (some ⟨b', o', none⟩) k d) ∧ w'.cell? ⟨b, o + i * 5, none⟩ = some (.int .i64 (ch i).kind) ∧ w'.cell? ⟨b, o + i * 5 + 1, none⟩ = some (.int .u64 ((ch i).n : Int)) ∧ w'.cell? ⟨b, o + i * 5 + 2, none⟩ = some (str (ch i).s) ∧ w'.cell? ⟨b, o + i * 5 + 3, none⟩ = some (.slice Ai (ch i).k ci) ∧ w'.cell? ⟨b, o + i * 5 + 4, none⟩ = some (.bool (ch i).op) ∧ w'.cell? ⟨b', o' + i * 5, none⟩ = some (.int .i64 (ch' i).kind) ∧ w'.cell? ⟨b', o' + i * 5 + 1, none⟩ = some (.int .u64 ((ch' i).n : Int)) ∧ w'.cell? ⟨b', o' + i * 5 + 2, none⟩ = some (str (ch' i).s) ∧ w'.cell? ⟨b', o' + i * 5 + 3, none⟩ = some (.slice Ai' (ch' i).k ci') ∧ w'.cell? ⟨b', o' + i * 5 + 4, none⟩ = some (.bool (ch' i).op)) (exact HS.out _ (by (repeat (first | with_reducible assumption | with_reducible exact Mod.refl _ _ | with_reducible refine Mod.drew ?_))))
                    ((go_at_call 93; refine (HC.out _ ?_).mono ?_; (repeat (first | with_reducible assumption | with_reducible exact Mod.refl _ _ | with_reducible refine Mod.drew ?_)); rintro e w3 ⟨rfl, hb3⟩; have hx3 : Ext wr w3 := (by with_reducible refine Mod.trans ?_ hb3; (repeat (first | with_reducible assumption | with_reducible exact Mod.refl _ _ | with_reducible refine Mod.drew ?_)))))
                  have HE3 := hid (hX.out.1.trans hx3)
                  have HE4 := hid (HEW.out.trans hx3)
                  have HW1 : Hid (wrap64 ((i : Int) + 1) = (i : Int) + 1) := IntWalk.wrap64_in _ (by omega)
                  clear hb3 hk2
                  cases hpl : (ch i).same (ch' i)
                  · have hno : T.all (fun i => (ch i).same (ch' i)) k = false := by
                      have hlt := HLT.out
                      cases hh : T.all (fun i => (ch i).same (ch' i)) k with
                      | false => rfl
                      | true => have := T.all_iff.1 hh i hlt; rw [hpl] at this; cases this
                    have HNO := hid hno
                    clear hno hpl
                    go_wp2_with fail
                    go_ret
                    exact Ret.mk (by rw [HNO.out]; simp) HE4.out
                  · have HPL := hid hpl
                    clear hpl
                    go_wp2_with fail
                    have hlt := HLT.out
                    have G1 : Value.int .i64 (wrap64 ((i : Int) + 1)) = .int .i64 ((i + 1 : Nat) : Int) := by rw [HW1.out]; simp
                    have G2 : T.all (fun i => (ch i).same (ch' i)) (i + 1) = true := by rw [T.all, hX.out.2, HPL.out]; rfl
                    have G3 : k - (intOf (Value.int .i64 (wrap64 ((i : Int) + 1)))).toNat < k - (intOf (.int .i64 (i : Int))).toNat := by rw [G1]; simp only [intOf]; omega
                    refine ⟨⟨i + 1, by omega, G1, (show Hid _ from ⟨HE3.out, G2⟩)⟩, G3⟩
                · obtain rfl : i = k := by omega
                  have ti : decide (i < i) = false := by simp
                  go_wp2_with fail
                  go_ret
                  exact Ret.mk (by rw [hX.out.2]; simp) HEW.out
            · have f5 : (k = k') = False := by simp [e5]
              have f5' : ((k : Int) == (k' : Int)) = false := by simp; omega
              cases op
              · go_wp2_with fail
                go_ret
                exact Ret.mk (by simp [e5]) HE0.out
              · go_wp2_with fail
                go_ret
                exact Ret.mk (by simp [e5]) HE0.out
          · have f4 : (op == op') = false := by simp [e4]
            have f4' : (op = op') = False := by simp [e4]
            go_wp2_with fail
            go_ret
            exact Ret.mk (by simp) HE0.out
        · have f3 : (s == s') = false := by simp [e3]
          have f3' : (s = s') = False := by simp [e3]
          go_wp2_with fail
          go_ret
          exact Ret.mk (by simp) HE0.out
      · have f2 : ((n : Int) == (n' : Int)) = false := by simp; omega
        have f2' : (n = n') = False := by simp [e2]
        go_wp2_with fail
        go_ret
        exact Ret.mk (by simp [e2]) HE0.out
    · have f1 : (kind == kind') = false := by simp [e1]
      have f1' : (kind = kind') = False := by simp [e1]
      go_wp2_with fail
      go_ret
      exact Ret.mk (by simp) HE0.out
end Go.Proofs.Ytkeabdfgacicaaa


namespace Go.Proofs.Ytkeabdfgacicaaa
open Go.RowKit
set_option linter.unusedVariables false
set_option linter.unusedSimpArgs false

def t82 : T := T.mk 4 0 [] false 2 fun i => if i = 0 then numT 1 else strT [97]
theorem t82_build : buildV t82 = .tuple #[str [130, 1, 65, 97], .int .i64 0] := by
  have h1 : t82.right 8 = true := by decide
  have h2 : t82.bytes = [130, 1, 65, 97] := by decide
  rw [buildV, h1, h2]; rfl
theorem t82_ok : t82.ok := by
  unfold t82 T.ok
  refine ⟨by omega, by omega, by simp, by omega, fun i hi => ?_⟩
  dsimp only
  split
  · unfold numT T.ok; exact ⟨by omega, by omega, by simp, by omega, fun i hi => by omega⟩
  · unfold strT T.ok; exact ⟨by omega, by omega, by simp, by omega, fun i hi => by omega⟩
set_option maxRecDepth 20000 in
set_option maxHeartbeats 1600000 in
/-- The code's Same. -/
theorem Same_any (a b : T) (hoa : a.ok) (hob : b.ok) (A B : Option Addr) (c d : Nat) (w : World) (ha : IsL w (fun _ => True) a A) (hb : IsL w (fun _ => True) b B) :
    Calls Try.prog 52 #[itemV a A c, itemV b B d] w (Ret (.bool (a.right 8 && b.right 8 && a.same b)) w) := by
  have H := hid ha; have H' := hid hb; have HO := hid hoa; have HO' := hid hob
  have HBa : Hid (Blk ((w.alloc (.cells (itemC a A c) 48)).alloc (.cells (itemC b B d) 48)) w.heap.size 48 (itemC a A c)) := (Blk.new _ _ _).alloc _
  have HBb : Hid (Blk ((w.alloc (.cells (itemC a A c) 48)).alloc (.cells (itemC b B d) 48)) (w.heap.size + 1) 48 (itemC b B d)) := Blk.new' _ _ _ (by simp)
  have HE0 := hid (((Mod.refl [] w).alloc (.cells (itemC a A c) 48)).alloc (.cells (itemC b B d) 48))
  clear ha hb hoa hob
  go_enter Try.func52, Try.ntmps52
  go_wp2_with fail
  refine (iRight_any a HO.out A c _ (H.out.ext HE0.out)).mono ?_
  rintro e w2 ⟨rfl, hb2⟩
  have HE2 := hid (HE0.out.trans hb2)
  have hBa2 := HBa.out.ext hb2
  have hBb2 := HBb.out.ext hb2
  have ca0 : w2.cell? ⟨w.heap.size, 0, none⟩ = some (.int .i64 a.kind) := hBa2.cell 0
  have ca1 : w2.cell? ⟨w.heap.size, 1, none⟩ = some (.int .u64 (a.n : Int)) := hBa2.cell 1
  have ca2 : w2.cell? ⟨w.heap.size, 2, none⟩ = some (str a.s) := hBa2.cell 2
  have ca3 : w2.cell? ⟨w.heap.size, 3, none⟩ = some (.slice A a.k c) := hBa2.cell 3
  have ca4 : w2.cell? ⟨w.heap.size, 4, none⟩ = some (.bool a.op) := hBa2.cell 4
  have cb0 : w2.cell? ⟨w.heap.size + 1, 0, none⟩ = some (.int .i64 b.kind) := hBb2.cell 0
  have cb1 : w2.cell? ⟨w.heap.size + 1, 1, none⟩ = some (.int .u64 (b.n : Int)) := hBb2.cell 1
  have cb2 : w2.cell? ⟨w.heap.size + 1, 2, none⟩ = some (str b.s) := hBb2.cell 2
  have cb3 : w2.cell? ⟨w.heap.size + 1, 3, none⟩ = some (.slice B b.k d) := hBb2.cell 3
  have cb4 : w2.cell? ⟨w.heap.size + 1, 4, none⟩ = some (.bool b.op) := hBb2.cell 4
  have HA2 := hid hBa2; have HB2 := hid hBb2
  clear hBa2 hBb2 hb2
  cases hr : a.right 8
  · have HR := hid hr
    clear hr
    go_wp2_with fail
    go_ret
    exact Ret.mk (by simp [show a.right 8 = false from HR.out]) HE2.out
  · have HR := hid hr
    clear hr
    go_wp2_with fail
    refine (iRight_any b HO'.out B d _ (H'.out.ext HE2.out)).mono ?_
    rintro e w3 ⟨rfl, hb3⟩
    have HE3 := hid (HE2.out.trans hb3)
    have hBa2 := HA2.out.ext hb3
    have hBb2 := HB2.out.ext hb3
    clear ca0 ca1 ca2 ca3 ca4 cb0 cb1 cb2 cb3 cb4
    have ca0 : w3.cell? ⟨w.heap.size, 0, none⟩ = some (.int .i64 a.kind) := hBa2.cell 0
    have ca1 : w3.cell? ⟨w.heap.size, 1, none⟩ = some (.int .u64 (a.n : Int)) := hBa2.cell 1
    have ca2 : w3.cell? ⟨w.heap.size, 2, none⟩ = some (str a.s) := hBa2.cell 2
    have ca3 : w3.cell? ⟨w.heap.size, 3, none⟩ = some (.slice A a.k c) := hBa2.cell 3
    have ca4 : w3.cell? ⟨w.heap.size, 4, none⟩ = some (.bool a.op) := hBa2.cell 4
    have cb0 : w3.cell? ⟨w.heap.size + 1, 0, none⟩ = some (.int .i64 b.kind) := hBb2.cell 0
    have cb1 : w3.cell? ⟨w.heap.size + 1, 1, none⟩ = some (.int .u64 (b.n : Int)) := hBb2.cell 1
    have cb2 : w3.cell? ⟨w.heap.size + 1, 2, none⟩ = some (str b.s) := hBb2.cell 2
    have cb3 : w3.cell? ⟨w.heap.size + 1, 3, none⟩ = some (.slice B b.k d) := hBb2.cell 3
    have cb4 : w3.cell? ⟨w.heap.size + 1, 4, none⟩ = some (.bool b.op) := hBb2.cell 4
    clear hBa2 hBb2 hb3
    cases hr : b.right 8
    · have HR2 := hid hr
      clear hr
      go_wp2_with fail
      go_ret
      exact Ret.mk (by simp [show b.right 8 = false from HR2.out]) HE3.out
    · have HR2 := hid hr
      clear hr
      go_wp2_with fail
      refine (same_any a b HO.out HO'.out A c B d _ (H.out.ext HE3.out) (H'.out.ext HE3.out)).mono ?_
      rintro e w4 ⟨rfl, hb4⟩
      go_wp2_with fail
      go_ret
      exact Ret.mk (by simp [show a.right 8 = true from HR.out, show b.right 8 = true from HR2.out]) (HE3.out.trans hb4)

theorem same_law {a b : T} (hoa : a.ok) (hob : b.ok) (hra : a.right 8 = true) (hrb : b.right 8 = true) : a.same b = decide (a.bytes = b.bytes) := by
  have pa : a.plain = true := by rw [T.right_eq] at hra; simp at hra; exact hra.2
  have pb : b.plain = true := by rw [T.right_eq] at hrb; simp at hrb; exact hrb.2
  rw [Bool.eq_iff_iff, decide_eq_true_iff]
  exact ⟨T.same_bytes a b hob, fun h => (T.bytes_inj a b pa pb hoa hob [] [] (by rw [h])).1⟩

/-- The two arguments' blocks in a later world. -/
structure Two (W : World) (g : Nat) (a b : T) (A B : Option Addr) (c d : Nat) : Prop where
  a0 : W.cell? ⟨g, 0, none⟩ = some (.int .i64 a.kind)
  a1 : W.cell? ⟨g, 1, none⟩ = some (.int .u64 (a.n : Int))
  a2 : W.cell? ⟨g, 2, none⟩ = some (str a.s)
  a3 : W.cell? ⟨g, 3, none⟩ = some (.slice A a.k c)
  a4 : W.cell? ⟨g, 4, none⟩ = some (.bool a.op)
  b0 : W.cell? ⟨g + 1, 0, none⟩ = some (.int .i64 b.kind)
  b1 : W.cell? ⟨g + 1, 1, none⟩ = some (.int .u64 (b.n : Int))
  b2 : W.cell? ⟨g + 1, 2, none⟩ = some (str b.s)
  b3 : W.cell? ⟨g + 1, 3, none⟩ = some (.slice B b.k d)
  b4 : W.cell? ⟨g + 1, 4, none⟩ = some (.bool b.op)
theorem Two.new (w : World) (a b : T) (A B : Option Addr) (c d : Nat) : Hid (∀ W, Ext ((w.alloc (.cells (itemC a A c) 48)).alloc (.cells (itemC b B d) 48)) W → Two W w.heap.size a b A B c d) := fun W hW => by
  have h1 : Blk W w.heap.size 48 (itemC a A c) := ((Blk.new _ _ _).alloc _).ext hW
  have h2 : Blk W (w.heap.size + 1) 48 (itemC b B d) := (Blk.new' _ _ _ (by simp)).ext hW
  exact ⟨h1.cell 0, h1.cell 1, h1.cell 2, h1.cell 3, h1.cell 4, h2.cell 0, h2.cell 1, h2.cell 2, h2.cell 3, h2.cell 4⟩

end Go.Proofs.Ytkeabdfgacicaaa


namespace Go.Proofs.Ytkeabdfgacicaaa
open Go.RowKit
set_option linter.unusedVariables false
set_option linter.unusedSimpArgs false

/-- A name's value, its cells. -/
abbrev eidC (sch : Int) (name : List UInt8) (node svc : Nat) : Array Value := #[.int .i64 sch, str name, .int .u64 (node : Int), .int .u64 (svc : Int)]
abbrev eidV (sch : Int) (name : List UInt8) (node svc : Nat) : Value := .agg (eidC sch name node svc)

theorem eidNone_any (w : World) : Calls Try.prog 79 #[] w (Ret (eidV 1 [110, 111, 110, 101] 0 0) w) := by
  go_enter Try.func79, Try.ntmps79
  go_wp2
  refine bodyPost_ret (v := eidV 1 [110, 111, 110, 101] 0 0) ?_ rfl (Ret.mk rfl ((Mod.refl _ _).alloc _))
  simp [results, Try.results79, go_sem]

theorem eidRight_ipn (node svc : Nat) (hn : node ≤ 4294967295) (hs : svc ≤ 4294967295) (w : World) : Calls Try.prog 113 #[eidV 2 [] node svc] w (Ret (.bool true) w) := by
  have t1 : decide ((node : Int) ≤ 4294967295) = true := by simp; omega
  have t2 : decide ((svc : Int) ≤ 4294967295) = true := by simp; omega
  clear hn hs
  go_enter Try.func113, Try.ntmps113
  go_wp2
  go_ret
  exact Ret.mk rfl ((Mod.refl _ _).alloc _)

/-- Such a name's item. -/
def ipnT (node svc : Nat) : T := T.mk 4 0 [] false 2 fun i => if i = 0 then numT 2 else T.mk 4 0 [] false 2 fun j => if j = 0 then numT node else numT svc
set_option maxRecDepth 20000 in
set_option maxHeartbeats 1600000 in
theorem eidItem_ipn (node svc : Nat) (hn : Hid (node ≤ 4294967295)) (hs : Hid (svc ≤ 4294967295)) (w : World) : Calls Try.prog 94 #[eidV 2 [] node svc] w (fun e w' => ∃ A, e = .returned (.tuple #[itemV (ipnT node svc) A 2, .int .i64 0]) ∧ Ext w w' ∧ IsL w' (fun b => w.heap.size ≤ b) (ipnT node svc) A) := by
  have HB := hid ((Blk.new w 24 (eidC 2 [] node svc)).alloc (.cells #[.int .i64 0, .int .u64 0, str [], .slice none 0 0, .bool false] 48))
  have HR : Hid (Blk ((w.alloc (.cells (eidC 2 [] node svc) 24)).alloc (.cells #[.int .i64 0, .int .u64 0, str [], .slice none 0 0, .bool false] 48)) (w.heap.size + 1) 48 #[.int .i64 0, .int .u64 0, str [], .slice none 0 0, .bool false]) := by
    have := Blk.new (w.alloc (.cells (eidC 2 [] node svc) 24)) 48 #[.int .i64 0, .int .u64 0, str [], .slice none 0 0, .bool false]
    unfold Hid
    simpa using this
  have HE := hid (((Mod.refl [] w).alloc (.cells (eidC 2 [] node svc) 24)).alloc (.cells #[.int .i64 0, .int .u64 0, str [], .slice none 0 0, .bool false] 48))
  go_enter Try.func94, Try.ntmps94
  go_wp2_with fail
  refine (eidRight_ipn node svc hn.out hs.out _).mono ?_
  rintro e w1 ⟨rfl, hb1⟩
  have HB1 := hid (HB.out.ext hb1)
  have HR1 := hid (HR.out.ext hb1)
  have HE1 := hid (HE.out.trans hb1)
  have x0 : w1.cell? ⟨w.heap.size, 0, none⟩ = some (.int .i64 2) := HB1.out.cell 0
  clear hb1 HB HR HE
  have HS : Hid (∀ W, Ext w1 W → W.cell? ⟨w.heap.size, 2, none⟩ = some (.int .u64 (node : Int)) ∧ W.cell? ⟨w.heap.size, 3, none⟩ = some (.int .u64 (svc : Int))) := fun W hW => ⟨(HB1.out.ext hW).cell 2, (HB1.out.ext hW).cell 3⟩
  have y2 := (HS.out w1 (Mod.refl _ _)).1
  have y3 := (HS.out w1 (Mod.refl _ _)).2
  go_upto_region 4 with fail
  go_region_held3 (fun w' => w'.cell? ⟨w.heap.size, 2, none⟩ = some (.int .u64 (node : Int)) ∧ w'.cell? ⟨w.heap.size, 3, none⟩ = some (.int .u64 (svc : Int))) (go_keep)
    (first
      | (go_at_call 66; refine (NumI_any _ _).mono ?_; rintro x w3 ⟨rfl, hb3⟩; have hx : Ext w1 w3 := (by (with_reducible refine Mod.trans ?_ hb3); (repeat (first | with_reducible assumption | with_reducible exact Mod.refl _ _ | with_reducible refine Mod.drew ?_ | with_reducible refine Mod.alloc ?_ _))); have z := HS.out w3 hx)
      | (go_at_call 54; have hI := hIn; refine (ListV_any 2 _ 2 _).mono ?_; rintro x w5 ⟨rfl, hb5⟩; have hx : Ext w1 w5 := (by (with_reducible refine Mod.trans ?_ hb5); (repeat (first | with_reducible assumption | with_reducible exact Mod.refl _ _ | with_reducible refine Mod.drew ?_ | with_reducible refine Mod.alloc ?_ _))); have z := HS.out w5 hx; have hOut := (Blk.new _ _ _).ext hb5; have hIn2 := (Blk.alloc hIn _).ext hb5; have r0 : w5.cell? ⟨w.heap.size + 1, 0, none⟩ = some (.int .i64 0) := (HR1.out.ext hx).cell 0; have g0 : w5.frozen? ⟨w.heap.size + 1, 0, none⟩ = false := (HR1.out.ext hx).frozen 0; have r1 : w5.cell? ⟨w.heap.size + 1, 1, none⟩ = some (.int .u64 0) := (HR1.out.ext hx).cell 1; have g1 : w5.frozen? ⟨w.heap.size + 1, 1, none⟩ = false := (HR1.out.ext hx).frozen 1; have r2 : w5.cell? ⟨w.heap.size + 1, 2, none⟩ = some (str []) := (HR1.out.ext hx).cell 2; have g2 : w5.frozen? ⟨w.heap.size + 1, 2, none⟩ = false := (HR1.out.ext hx).frozen 2; have r3 : w5.cell? ⟨w.heap.size + 1, 3, none⟩ = some (.slice none 0 0) := (HR1.out.ext hx).cell 3; have g3 : w5.frozen? ⟨w.heap.size + 1, 3, none⟩ = false := (HR1.out.ext hx).frozen 3; have r4 : w5.cell? ⟨w.heap.size + 1, 4, none⟩ = some (.bool false) := (HR1.out.ext hx).cell 4; have g4 : w5.frozen? ⟨w.heap.size + 1, 4, none⟩ = false := (HR1.out.ext hx).frozen 4)
      | (go_at_call 54; refine (ListV_any 2 _ 2 _).mono ?_; rintro x w4 ⟨rfl, hb4⟩; have hx : Ext w1 w4 := (by (with_reducible refine Mod.trans ?_ hb4); (repeat (first | with_reducible assumption | with_reducible exact Mod.refl _ _ | with_reducible refine Mod.drew ?_ | with_reducible refine Mod.alloc ?_ _))); have z := HS.out w4 hx; have hIn := (Blk.new _ _ _).ext hb4))
  have h3 : Ext w1 w3 := by assumption
  have h4 : Ext w1 w4 := by assumption
  have hl : w.heap.size + 1 < w1.heap.size := HR1.out.lt
  have hs3 := h3.size
  have hs4 := h4.size
  have HR5 := hid (HR1.out.ext hx)
  have HFin : Hid (Ext w (set5 w5 (w.heap.size + 1) (ipnT node svc) (some ⟨w4.heap.size, 0, none⟩) 2) ∧ Blk (set5 w5 (w.heap.size + 1) (ipnT node svc) (some ⟨w4.heap.size, 0, none⟩) 2) (w.heap.size + 1) 48 (itemC (ipnT node svc) (some ⟨w4.heap.size, 0, none⟩) 2) ∧
      IsL (set5 w5 (w.heap.size + 1) (ipnT node svc) (some ⟨w4.heap.size, 0, none⟩) 2) (fun b => w.heap.size ≤ b) (ipnT node svc) (some ⟨w4.heap.size, 0, none⟩)) := by
    have hm : Mod [w.heap.size + 1] w5 (set5 w5 (w.heap.size + 1) (ipnT node svc) (some ⟨w4.heap.size, 0, none⟩) 2) := set5_modb
    have b1 := hOut.mod hm (by simp; omega)
    have b2 := hIn2.mod hm (by simp; omega)
    refine ⟨set5_mod (HE1.out.trans hx) (by omega), set5_blk (t0 := T.mk 0 0 [] false 0 fun _ => T.nil) (A0 := none) (c0 := 0) HR5.out, fun _ => ⟨w4.heap.size, 0, rfl, b1.lt, (show w.heap.size ≤ w4.heap.size by omega), fun i hi => ?_⟩⟩
    have hi2 : i = 0 ∨ i = 1 := by omega
    rcases hi2 with rfl | rfl
    · exact ⟨none, 0, ⟨b1.cell 0, b1.cell 1, b1.cell 2, b1.cell 3, b1.cell 4⟩, fun h => absurd h (by decide)⟩
    · refine ⟨some ⟨w3.heap.size, 0, none⟩, 2, ⟨b1.cell 5, b1.cell 6, b1.cell 7, b1.cell 8, b1.cell 9⟩, fun _ => ⟨w3.heap.size, 0, rfl, b2.lt, (show w.heap.size ≤ w3.heap.size by omega), fun j hj => ?_⟩⟩
      have hj2 : j = 0 ∨ j = 1 := by omega
      rcases hj2 with rfl | rfl
      · exact ⟨none, 0, ⟨b2.cell 0, b2.cell 1, b2.cell 2, b2.cell 3, b2.cell 4⟩, fun h => absurd h (by decide)⟩
      · exact ⟨none, 0, ⟨b2.cell 5, b2.cell 6, b2.cell 7, b2.cell 8, b2.cell 9⟩, fun h => absurd h (by decide)⟩
  obtain ⟨d0, d1, d2, d3, d4⟩ := cells5 HFin.out.2.1
  clear hOut hIn2 hIn h3 h4 hl hs3 hs4
  go_wp2_with fail
  show bodyPost _ _ _ _ _ (set5 w5 (w.heap.size + 1) (ipnT node svc) (some ⟨w4.heap.size, 0, none⟩) 2)
  refine bodyPost_ret (v := .tuple #[itemV (ipnT node svc) (some ⟨w4.heap.size, 0, none⟩) 2, .int .i64 0]) (by simp [results, Try.results94, go_sem, d0, d1, d2, d3, d4]) rfl ?_
  exact ⟨_, rfl, HFin.out.1, HFin.out.2.2⟩
end Go.Proofs.Ytkeabdfgacicaaa


namespace Go.Proofs.Ytkeabdfgacicaaa
open Go.RowKit
set_option linter.unusedVariables false
set_option linter.unusedSimpArgs false

abbrev EV.c (e : EV) : Array Value := #[.int .i64 e.sch, str e.name, .int .u64 (e.node : Int), .int .u64 (e.svc : Int)]
abbrev EV.v (e : EV) : Value := .agg e.c
def lettN (n : Nat) : Bool := decide (97 ≤ n ∧ n ≤ 122) || decide (48 ≤ n ∧ n ≤ 57) || decide (n = 45) || decide (n = 46)
set_option maxHeartbeats 800000 in
theorem nodeByte_any (n : Nat) (h : n ≤ 2147483647) (w : World) : Calls Try.prog 142 #[.int .i32 (n : Int)] w (fun e w' => e = .returned (.bool (lettN n)) ∧ w' = w) := by
  go_enter Try.func142, Try.ntmps142
  go_wp2
  all_goals go_ret
  all_goals refine ⟨?_, rfl⟩
  all_goals (refine congrArg Ending.returned (congrArg Value.bool ?_))
  all_goals unfold lettN
  all_goals rw [Bool.eq_iff_iff]
  all_goals simp
  all_goals omega
theorem ext0 (s : List UInt8) (a b : Nat) : ((⟨s.toArray⟩ : ByteArray).extract a b) = ⟨((s.drop a).take (b - a)).toArray⟩ := by
  rw [Go.Lib.extract_eq]
set_option maxHeartbeats 800000 in
theorem CutPrefix_yes (s : List UInt8) (hs : Hid (s.length < 4611686018427387904)) (h : Hid (s.take 2 = [47, 47])) (w : World) : Calls Try.prog 141 #[str s, .string ⟨#[47, 47]⟩] w (fun e w' => e = .returned (.tuple #[str (s.drop 2), .bool true]) ∧ w' = w) := by
  have hl : 2 ≤ s.length := by
    have := congrArg List.length h.out
    rw [List.length_take] at this
    simp at this
    omega
  have hx : ((⟨s.toArray⟩ : ByteArray).extract 0 2) = ⟨([47, 47] : List UInt8).toArray⟩ := by rw [ext0, List.drop_zero, h.out]
  have hd : ((⟨s.toArray⟩ : ByteArray).extract 2 s.length) = ⟨(s.drop 2).toArray⟩ := by rw [ext0, List.take_of_length_le (by simp)]
  go_enter Try.func141, Try.ntmps141
  go_wp2
  refine bodyPost_ret (v := .tuple #[str (s.drop 2), .bool true]) (by simp [results, Try.results141, go_sem]) rfl ⟨rfl, rfl⟩
set_option maxHeartbeats 800000 in
theorem CutPrefix_no (s : List UInt8) (hs : Hid (s.length < 4611686018427387904)) (h : Hid (s.take 2 ≠ [47, 47])) (w : World) : Calls Try.prog 141 #[str s, .string ⟨#[47, 47]⟩] w (fun e w' => e = .returned (.tuple #[str s, .bool false]) ∧ w' = w) := by
  by_cases hl : 2 ≤ s.length
  · have hx : ((⟨s.toArray⟩ : ByteArray).extract 0 2) = ⟨(s.take 2).toArray⟩ := by rw [ext0, List.drop_zero]
    have h1 : (s.take 2 == [47, 47]) = false := by simpa using h.out
    have h2 : (s.take 2 = [47, 47]) = False := by simpa using h.out
    generalize s.take 2 = t at *
    go_enter Try.func141, Try.ntmps141
    go_wp2
    refine bodyPost_ret (v := .tuple #[str s, .bool false]) (by simp [results, Try.results141, go_sem]) rfl ⟨rfl, rfl⟩
  · have hl2 : decide ((2 : Int) ≤ (s.length : Int)) = false := by simp; omega
    clear hl
    go_enter Try.func141, Try.ntmps141
    go_wp2
    refine bodyPost_ret (v := .tuple #[str s, .bool false]) (by simp [results, Try.results141, go_sem]) rfl ⟨rfl, rfl⟩

set_option maxHeartbeats 1600000 in
theorem node_any (s : List UInt8) (hs : Hid (s.length < 4611686018427387904)) (w : World) : Calls Try.prog 138 #[str s] w (Ret (.int .i64 (nodeN s : Nat)) w) := by
  by_cases ht : s.take 2 = [47, 47]
  · have K := hid (fun W => CutPrefix_yes s hs ht W)
    by_cases hl : 60 < s.length
    · have hN : nodeN s = 0 := by unfold nodeN; rw [if_neg (by omega)]
      rw [hN]
      have t1 : decide (60 < (s.length : Int)) = true := by simp; omega
      go_enter Try.func138, Try.ntmps138
      go_wp2_with fail
      refine (K.out _).mono ?_
      rintro e w1 ⟨rfl, rfl⟩
      go_wp2_with fail
      go_ret
      exact Ret.mk rfl (Mod.refl _ _)
    · have hN : nodeN s = nodeA (s.drop 2) 0 := by unfold nodeN; rw [if_pos ⟨ht, by omega⟩]
      have t1 : decide (60 < (s.length : Int)) = false := by simp; omega
      have hr : Hid ((s.drop 2).length ≤ 60) := by unfold Hid; simp; omega
      rw [hN]
      clear hN
      go_enter Try.func138, Try.ntmps138
      go_wp2_with fail
      refine (K.out _).mono ?_
      rintro e w1 ⟨rfl, hw1⟩
      rw [hw1]
      clear hw1 w1 K ht hl
      generalize s.drop 2 = r at *
      generalize hNN : nodeA r 0 = N at *
      have HN : Hid (nodeA (r.drop 0) 0 = N) := hNN
      clear hNN
      go_wp2_with fail
      go_loopw [5, 6] (fun i c wr => ∃ pos : Nat, pos ≤ r.length ∧ wr = w.iter ⟨r.toArray⟩ pos ∧ Hid (nodeA (r.drop pos) pos = N)) (fun _ _ wr => r.length - wr.iterPos w.heap.size)
      case atStart => exact ⟨0, Nat.zero_le _, rfl, HN⟩
      case round =>
        obtain ⟨pos, hp, rfl, HP⟩ := hrel
        have hr60 := hr.out
        have hE : Ext w (w.iter ⟨r.toArray⟩ pos) := (Mod.refl _ _).alloc _
        by_cases hlt : pos < r.length
        · have hd : r.drop pos = r[pos] :: r.drop (pos + 1) := List.drop_eq_getElem_cons hlt
          rw [hd, nodeA] at HP
          clear hd
          by_cases h128 : (r[pos]).toNat < 128
          · have hnx : ∀ ty, (Instr.next (.pointer (some ⟨w.heap.size, 0, none⟩)) true ty).run Try.prog (w.iter ⟨r.toArray⟩ pos) = .ok (.tuple #[.bool true, .int .i64 pos, .int .i32 (r[pos]).toNat]) (w.iter ⟨r.toArray⟩ (pos + 1)) := fun ty => run_next_ascii w ⟨r.toArray⟩ pos ty hlt h128
            have KB := hid (fun W => nodeByte_any (r[pos]).toNat (by omega) W)
            have hL : lettN (r[pos]).toNat = lett r[pos] := rfl
            rw [hL] at KB
            generalize r[pos] = x at *
            go_wp2_with fail
            refine (KB.out _).mono ?_
            rintro e w1 ⟨rfl, hw1⟩
            rw [hw1]
            clear hw1 w1 KB hL
            by_cases hl : lett x = true
            · rw [hl]
              have HP2 : Hid (nodeA (r.drop (pos + 1)) (pos + 1) = N) := by have := HP.out; rw [if_pos hl] at this; exact this
              clear HP
              go_wp2_with fail
              go_roundw
              case rel => exact ⟨pos + 1, by omega, rfl, HP2⟩
              case measure => simp; omega
            · have hl2 : lett x = false := by simpa using hl
              rw [hl2]
              have HP2 : Hid ((if x.toNat = 47 ∧ 0 < pos then pos + 3 else 0) = N) := by have := HP.out; rw [if_neg (by simp [hl2])] at this; exact this
              clear HP
              by_cases h47 : x.toNat = 47
              · by_cases h0 : 0 < pos
                · have e3 : pos + 3 = N := by have := HP2.out; rw [if_pos ⟨h47, h0⟩] at this; exact this
                  rw [h47]
                  have t2 : decide (0 < (pos : Int)) = true := by simp; omega
                  go_wp2_with fail
                  go_ret
                  exact ⟨by rw [← e3]; go_num, (Mod.refl _ _).alloc _⟩
                · have e3 : 0 = N := by have := HP2.out; rw [if_neg (fun h => h0 h.2)] at this; exact this
                  rw [h47]
                  have t2 : decide (0 < (pos : Int)) = false := by simp; omega
                  go_wp2_with fail
                  go_ret
                  exact ⟨by rw [← e3]; rfl, (Mod.refl _ _).alloc _⟩
              · have e3 : 0 = N := by have := HP2.out; rw [if_neg (fun h => h47 h.1)] at this; exact this
                have t3 : ((x.toNat : Int) == 47) = false := by simp; omega
                have t4 : ((x.toNat : Int) = 47) = False := by simp; omega
                go_wp2_with fail
                go_ret
                exact ⟨by rw [← e3]; rfl, (Mod.refl _ _).alloc _⟩
          · have hdc := decode_high ⟨r.toArray⟩ pos hlt (by show 128 ≤ (r[pos]).toNat; omega)
            have hdl := decode_le ⟨r.toArray⟩ pos
            have hnx : ∀ ty, (Instr.next (.pointer (some ⟨w.heap.size, 0, none⟩)) true ty).run Try.prog (w.iter ⟨r.toArray⟩ pos) = _ := fun ty => run_next_any w ⟨r.toArray⟩ pos ty hlt
            have KB := hid (fun W => nodeByte_any (Utf8.decode ⟨r.toArray⟩ pos).1 hdl W)
            have hL : lettN (Utf8.decode ⟨r.toArray⟩ pos).1 = false := by simp [lettN]; omega
            rw [hL] at KB
            have hl2 : lett r[pos] = false := by
              show lettN (r[pos]).toNat = false
              simp [lettN]; omega
            have e3 : Hid (0 = N) := by have := HP.out; rw [if_neg (by simp [hl2]), if_neg (by omega)] at this; exact this
            clear HP hl2 hL
            have t3 : (((Utf8.decode ⟨r.toArray⟩ pos).1 : Int) == 47) = false := by simp; omega
            have t4 : (((Utf8.decode ⟨r.toArray⟩ pos).1 : Int) = 47) = False := by simp; omega
            have hE2 : Ext w (w.iter ⟨r.toArray⟩ (pos + (Utf8.decode ⟨r.toArray⟩ pos).2)) := (Mod.refl _ _).alloc _
            generalize (Utf8.decode ⟨r.toArray⟩ pos).1 = R at *
            generalize pos + (Utf8.decode ⟨r.toArray⟩ pos).2 = pos2 at *
            go_wp2_with fail
            refine (KB.out _).mono ?_
            rintro e w1 ⟨rfl, hw1⟩
            rw [hw1]
            clear hw1 w1 KB
            go_wp2_with fail
            go_ret
            exact ⟨by rw [← e3.out]; rfl, hE2⟩
        · obtain rfl : pos = r.length := by omega
          have e3 : Hid (0 = N) := by have := HP.out; rw [List.drop_length] at this; exact this
          have hnx : ∀ ty, (Instr.next (.pointer (some ⟨w.heap.size, 0, none⟩)) true ty).run Try.prog (w.iter ⟨r.toArray⟩ r.length) = _ := fun ty => run_next_end w ⟨r.toArray⟩ r.length ty (by show ¬ r.length < r.length; omega)
          go_wp2_with fail
          go_ret
          exact ⟨by rw [← e3.out]; rfl, hE⟩
  · have K := hid (fun W => CutPrefix_no s hs ht W)
    have hN : nodeN s = 0 := by unfold nodeN; rw [if_neg (fun h => ht h.1)]
    rw [hN]
    go_enter Try.func138, Try.ntmps138
    go_wp2_with fail
    refine (K.out _).mono ?_
    rintro e w1 ⟨rfl, rfl⟩
    go_wp2_with fail
    go_ret
    exact Ret.mk rfl (Mod.refl _ _)
end Go.Proofs.Ytkeabdfgacicaaa
