/-
  Package keys: slices.Clone at keys, and New.
-/
import Derived.Test.YtmcehdinkghlfaaKeys4
import Derived.Laws.OwnMore
import Derived.OwnWalk
namespace Go.Proofs.Ytmcehdinkghlfaa
open Go.RowKit Go.Shelf Go.Maps
set_option linter.unusedVariables false

theorem infoKey : (Try.prog.info? 37).map (fun i => (i.zero, i.size, i.bytes)) = some (some (.agg #[.int .i64 0, .string ⟨#[]⟩]), 2, 24) := by kernel_rfl

def flat (zs : List Key) : List Value := zs.flatMap fun k => [.int .i64 k.1, str k.2]
theorem flat_length (zs : List Key) : (flat zs).length = zs.length * 2 := by
  induction zs with
  | nil => rfl
  | cons z zs ih => show (_ :: _ :: flat zs).length = _; simp only [List.length_cons, ih]; omega
theorem flat_get (zs : List Key) (i : Nat) (h : i < zs.length) : (flat zs)[i * 2]? = some (.int .i64 zs[i].1) ∧ (flat zs)[i * 2 + 1]? = some (str zs[i].2) := by
  induction zs generalizing i with
  | nil => exact absurd h (Nat.not_lt_zero _)
  | cons z zs ih =>
    match i with
    | 0 => exact ⟨rfl, rfl⟩
    | i + 1 =>
      have := ih i (by simpa using h)
      show (_ :: _ :: flat zs)[(i + 1) * 2]? = _ ∧ (_ :: _ :: flat zs)[(i + 1) * 2 + 1]? = _
      rw [show (i + 1) * 2 = (i * 2 + 1) + 1 from by omega]
      simpa using this
theorem flat_cell (zs : List Key) : ∀ u ∈ flat zs, u.oneCell' = true := by
  intro u hu
  simp only [flat, List.mem_flatMap] at hu
  obtain ⟨k, _, hk⟩ := hu
  simp at hk
  rcases hk with rfl | rfl <;> rfl

theorem IsKeys.news {w : World} {a : Addr} {zs : List Key} (h : IsKeys w (some a) zs) : ∀ j u, (flat zs)[j]? = some u → w.cell? (a.add j) = some u := by
  intro j u hu
  have hj : j < zs.length * 2 := by
    have := (List.getElem?_eq_some_iff.1 hu).1
    rwa [flat_length] at this
  obtain ⟨b, o, hA, hb, hc⟩ := h (by omega)
  obtain rfl : a = ⟨b, o, none⟩ := by simpa using hA
  rw [addr_add]
  obtain ⟨g1, g2⟩ := flat_get zs (j / 2) (by omega)
  obtain ⟨c1, c2⟩ := hc (j / 2) (by omega)
  rcases Nat.mod_two_eq_zero_or_one j with e | e
  · rw [show j / 2 * 2 = j from by omega] at g1 c1
    rw [hu] at g1
    rw [c1, ← g1]
  · rw [show j / 2 * 2 + 1 = j from by omega] at g2
    rw [show o + j / 2 * 2 + 1 = o + j from by omega] at c2
    rw [hu] at g2
    rw [c2, ← g2]

/-- What Clone hands back. -/
def ClonePost (zs : List Key) (w : World) (e : Ending) (w' : World) : Prop :=
  ∃ A' cap', e = .returned (.slice A' zs.length cap') ∧ IsKeys w' A' zs ∧ (∀ b o, A' = some ⟨b, o, none⟩ → w.heap.size ≤ b ∧ b < w'.heap.size) ∧ Ext w w'

set_option maxHeartbeats 800000 in
theorem Clone_nil (w : World) : Calls Try.prog 29 #[.slice none 0 0] w (ClonePost [] w) := by
  have he := Lib.run_eql_slice_nil (P := Try.prog)
  go_enter Try.func29, Try.ntmps29
  go_wp2
  go_ret
  exact ⟨none, 0, rfl, fun h => absurd h (Nat.not_lt_zero _), fun b o h => (by cases h), Mod.refl _ _⟩

set_option maxHeartbeats 800000 in
theorem Clone_some (a : Addr) (zs : List Key) (cap : Nat) (hn : Hid (zs.length ≤ 1000)) (w : World) (hk : Hid (IsKeys w (some a) zs)) :
    Calls Try.prog 29 #[.slice (some a) zs.length cap] w (ClonePost zs w) := by
  have he := Lib.run_eql_slice_nil (P := Try.prog)
  obtain ⟨i0, hi, hz0, hz1, hz2⟩ := info_parts infoKey
  have hl := World.ownsRow_lit (base := w.heap.size) (e := 37) (size := 2) w #[] 0 (Nat.le_refl _) (Nat.zero_le _) rfl
  have hK2 : IsKeys (w.alloc (.cells #[] 37)) (some a) zs := hk.out.ext ((Mod.refl _ _).alloc _)
  have hnews := hid hK2.news
  have hfl := hid (flat_length zs)
  have hfc := hid (flat_cell zs)
  clear hK2
  go_enter Try.func29, Try.ntmps29
  go_wp2_with (at_builtin; refine wpList_append_own _ rfl _ _ 24 rfl w.heap.size 37 i0 _ 2 24 Try.underlying24 hi hz0 hz1 hz2 rfl (by decide) _ _ _ rfl hl a zs.length cap (flat zs) rfl hfl.out hnews.out hfc.out (by have := hn.out; unfold maxLen; omega) (by have := hn.out; omega) (by simp) ?_; intro v' w1 hown' hgrow hnil)
  have hg2 : (w.alloc (.cells #[] 37)).grownBy w1 (some w.heap.size) := hgrow
  have hm : Ext w w1 := ((Mod.refl [] w).alloc (.cells #[] 37)).grown hg2 (fun k hk => .inr (by cases hk; exact Nat.le_refl _))
  have hown2 : w1.ownsRow w.heap.size 37 2 v' zs.length (flat zs) := by simpa using hown'
  have hres : ∃ A' cap', v' = .slice A' zs.length cap' ∧ IsKeys w1 A' zs ∧ (∀ b o, A' = some ⟨b, o, none⟩ → w.heap.size ≤ b ∧ b < w1.heap.size) := by
    rcases hown2.2 with ⟨rfl, h0⟩ | ⟨g, cp, cur, rfl, hbg, hgb, _⟩
    · exact ⟨none, 0, by rw [h0], fun h => by omega, fun _ _ h => by cases h⟩
    · have hlt : g < w1.heap.size := by
        rcases Nat.lt_or_ge g w1.heap.size with hlt | hge
        · exact hlt
        · rw [Array.getElem?_eq_none hge] at hgb; cases hgb
      refine ⟨some ⟨g, 0, none⟩, cp, rfl, fun h => ⟨g, 0, rfl, hlt, fun i hi => ?_⟩, fun b o e => ?_⟩
      · obtain ⟨g1, g2⟩ := flat_get zs i hi
        have c1 := hown2.cells (g := g) rfl _ _ g1
        have c2 := hown2.cells (g := g) rfl _ _ g2
        rw [addr_add] at c1 c2
        exact ⟨c1, by rw [show 0 + i * 2 + 1 = 0 + (i * 2 + 1) from by omega]; exact c2⟩
      · obtain ⟨rfl, rfl⟩ : g = b ∧ 0 = o := by simpa using e
        exact ⟨hbg, hlt⟩
  obtain ⟨A', cap', rfl, hA1, hA2⟩ := hres
  go_ret
  exact ⟨A', cap', rfl, hA1, hA2, hm⟩

theorem Clone_any (A : Option Addr) (zs : List Key) (cap : Nat) (hn : zs.length ≤ 1000) (hA : A = none → zs = [] ∧ cap = 0) (w : World) (hk : IsKeys w A zs) :
    Calls Try.prog 29 #[.slice A zs.length cap] w (ClonePost zs w) := by
  cases A with
  | none => obtain ⟨rfl, rfl⟩ := hA rfl; exact Clone_nil w
  | some a => exact Clone_some a zs cap hn w hk

theorem blk_new_at {w : World} {n t : Nat} {cs : Array Value} (h : w.heap.size = n) : Blk (w.alloc (.cells cs t)) n t cs := by subst h; exact Blk.new _ _ _

/-- What New answers. -/
def NewPost (node : Nat) (zs : List Key) (w : World) (e : Ending) (w' : World) : Prop :=
  Ext w w' ∧ (¬ May node zs → e = .returned (.tuple #[.pointer none, .int .i64 1])) ∧
    (May node zs → ∃ s m, e = .returned (.tuple #[.pointer (some ⟨s, 0, none⟩), .int .i64 0]) ∧ w.heap.size ≤ s ∧ w.heap.size ≤ m ∧ StL w.heap.size w'.heap.size w' s m 0 node zs (fun _ => 0))

theorem New_bad {node : Nat} {zs : List Key} {w w' : World} {v : Value} (h : ¬ May node zs) (hv : v = .tuple #[.pointer none, .int .i64 1]) (hE : Ext w w') : NewPost node zs w (.returned v) w' :=
  ⟨hE, fun _ => by rw [hv], fun hm => absurd hm h⟩

theorem any_before (zs : List Key) (j : Nat) (y : Key) (hj : j ≤ zs.length) : (zs.take j).any (fun x => x.1 == y.1 || x.2 == y.2) = true ↔ ∃ k, ∃ h : k < zs.length, k < j ∧ (zs[k].1 = y.1 ∨ zs[k].2 = y.2) := by
  rw [List.any_eq_true]
  constructor
  · rintro ⟨x, hx, hp⟩
    obtain ⟨k, hk, rfl⟩ := List.getElem_of_mem hx
    rw [List.length_take] at hk
    refine ⟨k, by omega, by omega, ?_⟩
    simpa using hp
  · rintro ⟨k, hk, hkj, hp⟩
    refine ⟨zs[k], ?_, by simpa using hp⟩
    rw [List.mem_take_iff_getElem]
    exact ⟨k, by omega, rfl⟩

set_option maxRecDepth 20000 in
set_option maxHeartbeats 1600000 in
theorem New_any (node : Nat) (A : Option Addr) (zs : List Key) (cap : Nat) (hA0 : Hid (A = none → zs = [] ∧ cap = 0)) (hcap : Hid (zs.length ≤ cap)) (w : World) (hk : Hid (IsKeys w A zs)) :
    Calls Try.prog 11 #[.int .u64 (node : Int), .slice A zs.length cap] w (NewPost node zs w) := by
  by_cases hm : node ≤ 4294967295 ∧ zs.length ≤ 8
  · obtain ⟨hm1, hm2⟩ := hm
    have t1 : decide (4294967295 < (node : Int)) = false := by simp; omega
    have t2 : decide (8 < (zs.length : Int)) = false := by simp; omega
    have hm3 : (zs.length : Int) ≤ 8 := by omega
    have HM1 := hid hm1; have HM2 := hid hm2; clear hm1 hm2
    have hmm := @run_makeMap Try.prog
    have hAs : Hid (∀ j, 0 < j → j < zs.length → ∃ a, A = some a) := fun j _ hj => by
      obtain ⟨b, o, h, _⟩ := hk.out (by omega)
      exact ⟨_, h⟩
    go_enter Try.func11, Try.ntmps11
    go_wp2
    go_loopw [18] (fun s wr => ∃ j : Nat, j ≤ zs.length ∧ s = .int .i64 j ∧ Ext w wr ∧ Hid (∀ i, i < j → Good zs i)) (fun i _ => zs.length - (intOf i).toNat)
    case atStart => exact ⟨0, Nat.zero_le _, rfl, Mod.refl _ _, fun i h => absurd h (Nat.not_lt_zero _)⟩
    case round =>
      obtain ⟨j, hj, rfl, hE, hgood⟩ := hrel
      by_cases hlt : j < zs.length
      · obtain ⟨b, o, rfl, c0, c1⟩ := hk.out.cells hE hlt
        generalize hy : zs[j] = y at c0 c1
        obtain ⟨y0, y1⟩ := y
        have HY := hid hy; clear hy
        have hj1 : (0 : Int) ≤ (j : Int) := by omega
        have hj2 : (j : Int) < (zs.length : Int) := by omega
        have hj3 : (j : Int) ≤ (zs.length : Int) := by omega
        have tj : decide (j < zs.length) = true := by simp [hlt]
        have bad : Hid (¬ GoodK (y0, y1) → ¬ May node zs) := fun hng hmay => hng (by have := (hmay.2.2 j hlt).1; rw [HY.out] at this; exact this)
        have hj4 : (j : Int) ≤ (cap : Int) := by have := hcap.out; omega
        have hj5 : j ≤ cap := by omega
        have hI : ∀ W, Ext w W → ∀ B, B < W.heap.size → W.cell? ⟨B, 0, none⟩ = some (.int .i64 y0) → W.cell? ⟨B, 1, none⟩ = some (str y1) →
            Calls Try.prog 27 #[.slice (some ⟨b, o, none⟩) j cap, .func (.func 28) #[] #[.pointer (some ⟨B, 0, none⟩)]] W (Ret (.bool ((zs.take j).any (fun x => x.1 == y0 || x.2 == y1))) W) := fun W hW B hBW d0 d1 => by
          have := ContainsFunc_any (some ⟨b, o, none⟩) (zs.take j) cap _ _ _ entersNew1 (by unfold Hid; rw [List.length_take]; omega) W ((hk.out.take j).ext hW) (same_pred (y0, y1) B W hBW d0 d1)
          rwa [List.length_take, Nat.min_eq_left hj] at this
        have bad2 : Hid ((zs.take j).any (fun x => x.1 == y0 || x.2 == y1) = true → ¬ May node zs) := fun h hmay => by
          obtain ⟨k, hk1, hk2, hk3⟩ := (any_before zs j (y0, y1) hj).1 h
          have := (hmay.2.2 j hlt).2 k hk2
          rw [HY.out] at this
          exact this hk3
        have good2 : Hid ((zs.take j).any (fun x => x.1 == y0 || x.2 == y1) = false → GoodK (y0, y1) → Good zs j) := fun h hg _ => by
          rw [HY.out]
          refine ⟨hg, fun k hkj hor => ?_⟩
          have := (any_before zs j (y0, y1) hj).2 ⟨k, by omega, hkj, hor⟩
          rw [h] at this
          cases this
        generalize (zs.take j).any (fun x => x.1 == y0 || x.2 == y1) = q at hI bad2 good2
        have HI := hid hI; clear hI
        cases q
        · go_upto_region 7 with (go_at_call 27; refine (HI.out _ (hE.alloc _) wr.heap.size (by simp) (by simp) (by simp)).mono ?_; rintro e w3 ⟨rfl, hb3⟩; have d0 := hb3.cell (k := wr.heap.size) (o := 0) (by simp) (by simp); have d1 := hb3.cell (k := wr.heap.size) (o := 1) (by simp) (by simp); simp at d0 d1)
          have hE3 := (hE.alloc _).trans hb3
          clear c0 c1 HI bad2
          by_cases q1 : y0 < 1
          · have t3 : decide (y0 < 1) = true := by simp [q1]
            have Q1 := hid q1; clear q1
            go_wp2
            go_ret2
            exact New_bad (bad.out (fun h => by have := h.1; have := Q1.out; simp at *; omega)) rfl hE3
          · have t3 : decide (y0 < 1) = false := by simp; omega
            by_cases q2 : 65535 < y0
            · have t4 : decide (65535 < y0) = true := by simp [q2]
              have Q1 := hid q1; have Q2 := hid q2; clear q1 q2
              go_wp2
              go_ret2
              exact New_bad (bad.out (fun h => by have := h.2.1; have := Q2.out; simp at *; omega)) rfl hE3
            · have t4 : decide (65535 < y0) = false := by simp; omega
              have Q1 := hid q1; have Q2 := hid q2; clear q1 q2
              cases y1 with
              | nil =>
                go_wp2
                go_ret2
                exact New_bad (bad.out (fun h => by have := h.2.2.1; simp at this)) rfl hE3
              | cons x l =>
                by_cases q4 : 64 < (x :: l).length
                · have t6 : decide (64 < (l.length : Int) + 1) = true := by simp at q4; simp; omega
                  have Q4 := hid q4; clear q4
                  go_wp2
                  go_ret2
                  exact New_bad (bad.out (fun h => by have := h.2.2.2; have := Q4.out; simp at *; omega)) rfl hE3
                · have t6 : decide (64 < (l.length : Int) + 1) = false := by simp at q4; simp; omega
                  have gk : Hid (GoodK (y0, x :: l)) := ⟨by have := Q1.out; simp at *; omega, by have := Q2.out; simp at *; omega, by simp, by simp; simp at q4; omega⟩
                  have Q4 := hid q4; clear q4
                  go_wp2
                  go_roundw
                  case rel =>
                    refine ⟨j + 1, by omega, by go_num, hE3, (show Hid _ from fun i hi => ?_)⟩
                    by_cases ei : i = j
                    · subst ei; exact good2.out (by trivial) gk.out
                    · exact hgood.out i (by omega)
                  case measure => simp [intOf]; omega
        · go_wp2_with (go_at_call 27; refine (HI.out _ (hE.alloc _) wr.heap.size (by simp) (by simp) (by simp)).mono ?_; rintro e w3 ⟨rfl, hb3⟩)
          go_ret2
          exact New_bad (bad2.out (by trivial)) rfl ((hE.alloc _).trans hb3)
      · obtain rfl : j = zs.length := by omega
        have tj : decide (zs.length < zs.length) = false := by simp
        have hmay : Hid (May node zs) := ⟨HM1.out, HM2.out, fun i => by
          intro h
          exact hgood.out i h h⟩
        have hcl : ∀ W, Ext w W → Calls Try.prog 29 #[.slice A zs.length cap] W (ClonePost zs W) := fun W hW => Clone_any A zs cap (by omega) hA0.out W (hk.out.ext hW)
        have HCL := hid hcl; clear hcl
        go_wp2_with (go_at_call 29; refine (HCL.out _ hE).mono ?_; rintro e w4 ⟨A', cap', rfl, hK4, hA4, hE4⟩)
        go_ret2
        refine ⟨(((hE.trans hE4).alloc _).alloc _), fun h => absurd hmay.out h, fun _ => ⟨w4.heap.size + 1, w4.heap.size, rfl, ?_, ?_, A', cap', ?_, ?_, ?_, ?_, ?_, ?_, ?_, ?_, ?_, ?_⟩⟩
        · have := (hE.trans hE4).size; omega
        · exact (hE.trans hE4).size
        · exact blk_new_at (by simp)
        · exact (hK4.ext ((Mod.refl _ _).alloc _)).ext ((Mod.refl _ _).alloc _)
        · intro b o e
          have := (hA4 b o e).2
          omega
        · omega
        · have h0 : Counts (w4.alloc (.map #[] 0)) w4.heap.size 0 (fun _ => 0) := ⟨.map [], World.ownsMap_made _ _ _ _, fun id _ => rfl⟩
          exact h0.kept ((Mod.refl _ _).alloc _) (S := []) (by simp)
        · intro b o e
          have h1 := hA4 b o e
          have h2 := hE.size
          simp
          omega
        · have := (hE.trans hE4).size; omega
        · simp
        · exact (hE.trans hE4).size
        · simp; omega
  · by_cases h1 : node ≤ 4294967295
    · have t1 : decide (4294967295 < (node : Int)) = false := by simp; omega
      have t2 : decide (8 < (zs.length : Int)) = true := by simp; omega
      have HM := hid hm; have H1 := hid h1; clear hm h1
      go_enter Try.func11, Try.ntmps11
      go_wp2
      go_ret2
      exact New_bad (fun h => HM.out ⟨h.1, h.2.1⟩) rfl (Mod.refl _ _)
    · have t1 : decide (4294967295 < (node : Int)) = true := by simp; omega
      have HM := hid hm; have H1 := hid h1; clear hm h1
      go_enter Try.func11, Try.ntmps11
      go_wp2
      go_ret2
      exact New_bad (fun h => HM.out ⟨h.1, h.2.1⟩) rfl (Mod.refl _ _)
end Go.Proofs.Ytmcehdinkghlfaa
