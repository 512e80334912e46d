/-
  The parser of items: a string.
-/
import Derived.Test.YtagjhkknefiieaaPs2
import Derived.Test.YtagjhkknefiieaaSet5
namespace Go.Proofs.Ytagjhkknefiieaa
open Go.RowKit
set_option linter.unusedVariables false

/-- What an item's parse comes to: R: how far, or where, and what is wrong. -/
def IPost (g : Nat) (l : List UInt8) (p : Nat) (R : Nat × Int) (d : Nat) (w : World) (x : Ending) (w' : World) : Prop :=
  ∃ t A c, x = .returned (itemV t A c) ∧ Mod [g] w w' ∧ PAt w' g l (p + R.1) R.2 ∧ (R.2 = 0 → (t.right d = true ∧ t.ok) ∧ t.bytes ++ l.drop (p + R.1) = l.drop p ∧ IsL w' (fun b => w.heap.size ≤ b) t A)

theorem newstr_bad {L : List UInt8} {sz k n : Nat} {o : Bool} (h : readH L = some (sz, k, n, o)) (hb : o = true ∨ L.length - sz < n) : (RS.new L).str k 1073741824 = ((RS.new L).Head.1.fail 2, []) := by
  have e := RS.Head_some (r := RS.new L) rfl h
  unfold RS.str
  rw [e]
  dsimp only
  rw [if_pos rfl, if_pos (.inr (by simpa [RS.new] using hb))]
theorem newstr_good {L : List UInt8} {sz k n : Nat} {o : Bool} (h : readH L = some (sz, k, n, o)) (hL : L.length ≤ 1073741824) (hb : ¬ (o = true ∨ L.length - sz < n)) : (RS.new L).str k 1073741824 = (⟨L, sz + n, -1, 0, 0⟩, (L.drop sz).take n) := by
  have e := RS.Head_some (r := RS.new L) rfl h
  unfold RS.str
  rw [e]
  dsimp only
  rw [if_pos rfl, if_neg (by rintro (h1 | h1); exact h1 rfl; exact hb (by simpa [RS.new] using h1)), if_neg (by simp only [not_or, Nat.not_lt] at hb ⊢; omega)]
  simp [RS.new]
theorem newfail_e (L : List UInt8) {sz k n : Nat} {o : Bool} (h : readH L = some (sz, k, n, o)) : ((RS.new L).Head.1.fail 2).e = 2 ∧ ((RS.new L).Head.1.fail 2).bad = 0 := by
  rw [RS.Head_some (r := RS.new L) rfl h]
  unfold RS.fail
  rw [if_pos rfl]
  exact ⟨rfl, rfl⟩

/-- A string's item. -/
def sT (k : Nat) (s : List UInt8) : T := T.mk k 0 s false 0 fun _ => T.nil
theorem sT_good {l : List UInt8} {p sz k n d : Nat} {o : Bool} (hk : k = 2 ∨ k = 3) (h : readH (l.drop p) = some (sz, k, n, o)) (hL : l.length ≤ 1073741824) (hb : ¬ (o = true ∨ (l.drop p).length - sz < n)) :
    ((sT k (((l.drop p).drop sz).take n)).right (d + 1) = true ∧ (sT k (((l.drop p).drop sz).take n)).ok) ∧ (sT k (((l.drop p).drop sz).take n)).bytes ++ l.drop (p + (sz + n)) = l.drop p := by
  simp only [not_or, Nat.not_lt, Bool.not_eq_true] at hb
  obtain ⟨rfl, hn⟩ := hb
  have hh := readH_some h
  have hlen : (((l.drop p).drop sz).take n).length = n := by rw [List.length_take, List.length_drop]; omega
  have h1 := hh.closed rfl
  have hle := hh.le
  rw [List.length_drop] at hn hle
  refine ⟨⟨?_, ?_⟩, ?_⟩
  · unfold sT T.right T.node
    rcases hk with rfl | rfl <;> simp [T.all]
  · unfold sT T.ok
    rw [hlen]
    exact ⟨by omega, by omega, by omega, by omega, fun i hi => by omega⟩
  · have e : (sT k (((l.drop p).drop sz).take n)).bytes = headL k n ++ ((l.drop p).drop sz).take n := by
      unfold sT T.bytes
      rw [if_neg (by omega), if_pos (by omega), hlen, Int.toNat_natCast]
    rw [e, ← h1.1, ← List.drop_drop, ← List.drop_drop, List.append_assoc, List.take_append_drop, List.take_append_drop]

def strR (o : Bool) (L : List UInt8) (sz n : Nat) : Nat × Int := if o = true ∨ L.length - sz < n then (0, 2) else (sz + n, 0)
set_option maxRecDepth 20000 in
set_option maxHeartbeats 800000 in
theorem pstr_any (k : Nat) (hk : Hid (k = 2 ∨ k = 3)) (g : Nat) (l : List UInt8) (p : Nat) (hp : Hid (p ≤ l.length ∧ l.length ≤ 1073741824)) (d sz n : Nat) (o : Bool) (hr : Hid (readH (l.drop p) = some (sz, k, n, o)))
    (w : World) (h : PAt w g l p 0) :
    Calls Try.prog 80 #[.pointer (some ⟨g, 0, none⟩), .int .i64 (k : Int)] w (IPost g l p (strR o (l.drop p) sz n) (d + 1) w) := by
  have hrk : Hid (RS.ok (RS.new (l.drop p))) := RS.new_ok (by have := hp.out; rw [List.length_drop]; omega)
  have H0 := hid (Blk.alloc h (.cells (itemC nulT none 0) 63))
  have hg : Hid (g < w.heap.size) := Blk.lt h
  clear h
  go_enter Try.func80, Try.ntmps80
  go_wp2_with fail
  refine (preader_any g l p 0 hp _ H0.out).mono ?_
  rintro x w1 ⟨rfl, hb1, hr1⟩
  have P1 := hid (H0.out.ext hb1)
  have B1 := hid ((Blk.new w 63 (itemC nulT none 0)).ext hb1)
  have HE1 := hid (((Mod.refl [] w).alloc (.cells (itemC nulT none 0) 63)).trans hb1)
  have hw1 : Hid (w.heap.size + 1 ≤ w1.heap.size) := by have := hb1.size; simp at this; exact this
  have hR1 : RdAt w1 (w.heap.size + 1) (RS.new (l.drop p)) := by simpa using hr1
  have HR1 := hid hR1
  clear hr1 hR1 hb1
  go_upto_region 2 with fail
  go_cut [5, 6] (fun s5 s6 wx => ∃ R X, s5 = .pointer (some ⟨R, 0, none⟩) ∧ s6 = .pointer (some ⟨X, 0, none⟩) ∧ Hid (Ext w wx ∧ PAt wx g l p 0 ∧ Blk wx w.heap.size 63 (itemC nulT none 0) ∧ RdAt wx R (RS.new (l.drop p)) ∧ Blk wx X 63 (itemC (sT k []) none 0) ∧ w.heap.size < R ∧ R < X))
  case first =>
    go_wp2_with fail
    go_meet
    refine ⟨w.heap.size + 1, w1.heap.size, rfl, rfl, HE1.out.alloc _, P1.out.alloc _, B1.out.alloc _, Blk.alloc HR1.out _, Blk.new _ _ _, by omega, ?_⟩
    have := Blk.lt HR1.out; omega
  obtain ⟨R, X, rfl, rfl, hH⟩ := hcut
  clear P1 B1 HE1 HR1 hw1 H0
  have hgX : Hid (g ≠ X ∧ g ≠ R ∧ X ≠ R ∧ w.heap.size ≠ g ∧ w.heap.size ≠ R ∧ w.heap.size ≠ X) := by have h1 := hg.out; have h2 := hH.out.2.2.2.2.2; unfold Hid; omega
  have BX := hid hH.out.2.2.2.2.1
  have HSX : Hid (∀ W, Mod [R] wc W → W.cell? ⟨X, 2, none⟩ = some (str []) ∧ W.frozen? ⟨X, 2, none⟩ = false) := fun W hW => ⟨(BX.out.mod hW (by simpa using hgX.out.2.2.1)).cell 2, (BX.out.mod hW (by simpa using hgX.out.2.2.1)).frozen 2⟩
  have HXS : Hid (∀ W s, Blk W X 63 (itemC (sT k []) none 0) → Blk (W.setCell ⟨X, 2, none⟩ (str s)) X 63 (itemC (sT k s) none 0)) := fun W s h => by
    have := Blk.set_ h 2 (str s)
    simpa [itemC, sT, T.kind, T.n, T.s, T.k, T.op] using this
  have HJ : Hid (∀ w2 r s, Mod [R] wc w2 → RdAt w2 R r → (Ext w (w2.setCell ⟨X, 2, none⟩ (str s)) ∧ PAt (w2.setCell ⟨X, 2, none⟩ (str s)) g l p 0 ∧ Blk (w2.setCell ⟨X, 2, none⟩ (str s)) w.heap.size 63 (itemC nulT none 0) ∧ RdAt (w2.setCell ⟨X, 2, none⟩ (str s)) R r ∧ Blk (w2.setCell ⟨X, 2, none⟩ (str s)) X 63 (itemC (sT k s) none 0))) := by
    intro w2 r s hm hr
    obtain ⟨k1, k2, k3, k4, k5, k6⟩ := hH.out
    obtain ⟨n1, n2, n3, n4, n5, n6⟩ := hgX.out
    refine ⟨?_, ?_, ?_, ?_, HXS.out _ _ (k5.mod hm (by simpa using n3))⟩
    · exact Mod.new (S := [R, X]) ((k1.of_ext.trans (hm.mono (by simp))).setCell (.inl (by simp)) _) (fun k hk => .inr (by simp at hk; omega))
    · exact Blk.far (k2.mod hm (by simpa using n2)) (by simpa using n1) _
    · exact Blk.far (k3.mod hm (by simpa using n5)) (by simpa using n6) _
    · exact Blk.far hr (by simpa using fun e => n3 e.symm) _
  go_step
  go_step
  go_cut [] (fun wx => Hid (Ext w wx ∧ PAt wx g l p 0 ∧ Blk wx w.heap.size 63 (itemC nulT none 0) ∧ RdAt wx R ((RS.new (l.drop p)).str k 1073741824).1 ∧ Blk wx X 63 (itemC (sT k ((RS.new (l.drop p)).str k 1073741824).2) none 0)))
  case first =>
    rcases hk.out with rfl | rfl
    · go_wp2_with (go_at_call 92; refine (RBytes_any R _ hrk.out 1073741824 (by unfold Hid; omega) _ hH.out.2.2.2.1).mono ?_; rintro x w2 ⟨rfl, hm2, hr2⟩; obtain ⟨x2, f2⟩ := HSX.out w2 hm2)
      go_meet
      exact HJ.out _ _ _ hm2 hr2
    · go_wp2_with (go_at_call 93; refine (RText_any R _ hrk.out 1073741824 (by unfold Hid; omega) _ hH.out.2.2.2.1).mono ?_; rintro x w2 ⟨rfl, hm2, hr2⟩; obtain ⟨x2, f2⟩ := HSX.out w2 hm2)
      go_meet
      exact HJ.out _ _ _ hm2 hr2
  clear HJ HXS HSX BX
  by_cases hb : o = true ∨ (l.drop p).length - sz < n
  · have HS := newstr_bad hr.out hb
    have HF := hid (newfail_e _ hr.out)
    have hR0 : strR o (l.drop p) sz n = (0, 2) := if_pos hb
    have HR0 := hid hR0
    rw [HS] at hcut
    clear hR0 HS hb
    go_wp2_with fail
    refine (Bad_any R _ _ hcut.out.2.2.2.1).mono ?_
    rintro x w3 ⟨rfl, hb3⟩
    rw [HF.out.1]
    have P3 := hid (hcut.out.2.1.ext hb3)
    have B3 := hid (hcut.out.2.2.1.ext hb3)
    have HE3 := hid (hcut.out.1.trans hb3)
    have q1 : w3.cell? ⟨g, 1, none⟩ = some (.int .i64 (p : Int)) := PAt.at_ P3.out
    clear hb3
    go_wp2_with fail
    refine (pfail_any g l p p 2 _ P3.out).mono ?_
    rintro x w4 ⟨rfl, hm4, hp4⟩
    have B4 := B3.out.mod hm4 (by simpa using hgX.out.2.2.2.1)
    have HP4 := hid hp4; have HM4 := hid hm4; have HB4 := hid B4
    obtain ⟨c0, c1, c2, c3, c4⟩ := cells5 B4
    have f0 := B4.frozen 0
    have f1 := B4.frozen 1
    have f2 := B4.frozen 2
    have f3 := B4.frozen 3
    have f4 := B4.frozen 4
    clear hm4 hp4 B4 q1
    go_wp2_with fail
    obtain ⟨d0, d1, d2, d3, d4⟩ := cells5 (set5_blk (t := nulT) (A := none) (c := 0) HB4.out)
    clear c0 c1 c2 c3 c4 f0 f1 f2 f3 f4
    show bodyPost _ _ _ _ _ (set5 w4 w.heap.size nulT none 0)
    refine bodyPost_ret (v := itemV nulT none 0) (by simp [results, Try.results80, go_sem, d0, d1, d2, d3, d4]) rfl ?_
    rw [HR0.out]
    refine ⟨nulT, none, 0, rfl, set5_mod (HE3.out.of_ext.trans HM4.out) (Nat.le_refl _), set5_far HP4.out (by simpa using fun e => hgX.out.2.2.2.1 e.symm), fun h => by cases h⟩
  · have HS := newstr_good hr.out (by rw [List.length_drop]; have := hp.out; omega) hb
    have hR0 : strR o (l.drop p) sz n = (sz + n, 0) := if_neg hb
    have HN : Hid (sz + n ≤ 1073741824) := by
      have h1 := (readH_some hr.out).le
      have h2 := hp.out
      simp only [not_or, Nat.not_lt] at hb
      have h3 := hb.2
      rw [List.length_drop] at h1 h3
      unfold Hid; omega
    have HG := hid (sT_good (d := d) hk.out hr.out hp.out.2 hb)
    have HR0 := hid hR0
    rw [HS] at hcut
    clear hR0 HS hb
    go_wp2_with fail
    refine (Bad_any R _ _ hcut.out.2.2.2.1).mono ?_
    rintro x w3 ⟨rfl, hb3⟩
    have P3 := hid (hcut.out.2.1.ext hb3)
    have B3 := hid (hcut.out.2.2.1.ext hb3)
    have R3 := hid (hcut.out.2.2.2.1.ext hb3)
    have X3 := hid (hcut.out.2.2.2.2.ext hb3)
    have HE3 := hid (hcut.out.1.trans hb3)
    clear hb3
    have q1 : w3.cell? ⟨g, 1, none⟩ = some (.int .i64 (p : Int)) := PAt.at_ P3.out
    have z1 : w3.frozen? ⟨g, 1, none⟩ = false := PAt.froz P3.out 1
    have hp1 : (p : Int) ≤ 1073741824 := by have := hp.out; omega
    have hp0 : (0 : Int) ≤ (p : Int) := by omega
    have hs1 : (sz : Int) + (n : Int) ≤ 1073741824 := by have := HN.out; omega
    have hs0 : (0 : Int) ≤ (sz : Int) + (n : Int) := by omega
    have tw : IntKind.i64.wrap ((p : Int) + ((sz : Int) + (n : Int))) = (p : Int) + ((sz : Int) + (n : Int)) := IntWalk.i64_in _ (by omega)
    have HP9 : Hid (Mod [g] w (w3.setCell ⟨g, 1, none⟩ (.int .i64 ((p : Int) + ((sz : Int) + (n : Int))))) ∧ PAt (w3.setCell ⟨g, 1, none⟩ (.int .i64 ((p : Int) + ((sz : Int) + (n : Int))))) g l (p + (sz + n)) 0 ∧
        Blk (w3.setCell ⟨g, 1, none⟩ (.int .i64 ((p : Int) + ((sz : Int) + (n : Int))))) w.heap.size 63 (itemC nulT none 0) ∧ Blk (w3.setCell ⟨g, 1, none⟩ (.int .i64 ((p : Int) + ((sz : Int) + (n : Int))))) X 63 (itemC (sT k (((l.drop p).drop sz).take n)) none 0)) := by
      refine ⟨HE3.out.of_ext.setCell (.inl (by simp)) _, ?_, Blk.far B3.out (by simpa using hgX.out.2.2.2.1) _, Blk.far X3.out (by simpa using fun e => hgX.out.1 e.symm) _⟩
      have := Blk.set_ P3.out 1 (.int .i64 ((p + (sz + n) : Nat) : Int))
      simpa [PAt] using this
    go_upto_region 9 with fail
    go_cut [] (fun wx => Hid (Mod [g] w wx ∧ PAt wx g l (p + (sz + n)) 0 ∧ Blk wx w.heap.size 63 (itemC nulT none 0) ∧ Blk wx X 63 (itemC (sT k (((l.drop p).drop sz).take n)) none 0)))
    case first =>
      go_region_with ((go_at_call 79; refine (At_any R ⟨l.drop p, sz + n, -1, 0, 0⟩ _ ?_).mono ?_; (first | exact R3.out | exact Blk.drew R3.out | exact Blk.drew (Blk.drew R3.out)); rintro x w' ⟨rfl, rfl⟩))
      all_goals go_wp2_with fail
      all_goals go_meet
      all_goals exact ⟨by first | exact HP9.out.1 | exact HP9.out.1.drew, HP9.out.2⟩
    clear q1 z1 hp1 hp0 hs1 hs0 tw HP9 X3
    have hc2 := hid hcut.out
    have hg2 := hid HG.out
    clear hcut HG
    have HLs : Hid (∀ W Q, IsL W Q (sT k (((l.drop p).drop sz).take n)) none) := fun W Q => IsL.leaf
    generalize sT k (((l.drop p).drop sz).take n) = t at *
    obtain ⟨x0, x1, x2, x3, x4⟩ := cells5 hc2.out.2.2.2
    have B4 := hc2.out.2.2.1
    obtain ⟨c0, c1, c2, c3, c4⟩ := cells5 B4
    have f0 := B4.frozen 0
    have f1 := B4.frozen 1
    have f2 := B4.frozen 2
    have f3 := B4.frozen 3
    have f4 := B4.frozen 4
    have HB4 := hid B4
    clear B4
    go_wp2_with fail
    obtain ⟨d0, d1, d2, d3, d4⟩ := cells5 (set5_blk (t := t) (A := none) (c := 0) HB4.out)
    clear c0 c1 c2 c3 c4 f0 f1 f2 f3 f4 x0 x1 x2 x3 x4
    show bodyPost _ _ _ _ _ (set5 wc w.heap.size t none 0)
    refine bodyPost_ret (v := itemV t none 0) (by simp [results, Try.results80, go_sem, d0, d1, d2, d3, d4]) rfl ?_
    rw [HR0.out]
    refine ⟨_, none, 0, rfl, set5_mod hc2.out.1 (Nat.le_refl _), set5_far hc2.out.2.1 (by simpa using fun e => hgX.out.2.2.2.1 e.symm), fun _ => ⟨hg2.out.1, hg2.out.2, HLs.out _ _⟩⟩
end Go.Proofs.Ytagjhkknefiieaa
