/-
  The parser of items: an array's items.
-/
import Derived.Test.YtagjhkknefiieaaPs4
import Derived.Deep.AppendLies
import Derived.Deep.RegionLaw
namespace Go.Proofs.Ytagjhkknefiieaa
open Go.RowKit
set_option linter.unusedVariables false

theorem Blk.newAt (w : World) (t : TypeId) (cs : Array Value) {N : Nat} (h : w.heap.size = N) : Blk (w.alloc (.cells cs t)) N t cs := by subst h; exact Blk.new _ _ _

set_option maxRecDepth 20000 in
set_option maxHeartbeats 1600000 in
theorem plist_any (d : Nat) (hd : Hid (d ≤ 8)) (g : Nat) (l : List UInt8) (hl : Hid (l.length ≤ 1073741824))
    (IH : Hid (∀ (p : Nat), p ≤ l.length → ∀ w, PAt w g l p 0 → Calls Try.prog 64 #[.pointer (some ⟨g, 0, none⟩), .int .i64 (d : Int)] w (IPost g l p (flt d (l.drop p)) d w)))
    (p sz n : Nat) (o : Bool) (nI : Int) (hn : Hid ((o = true → nI = -1) ∧ (o = false → nI = n))) (hr : Hid (readH (l.drop p) = some (sz, 4, n, o))) (hnn : Hid (o = false → n ≤ 1000)) (hpl : Hid (p + sz ≤ l.length))
    (w : World) (h : PAt w g l (p + sz) 0) :
    Calls Try.prog 82 #[.pointer (some ⟨g, 0, none⟩), .int .i64 nI, .int .i64 ((d : Int) + 1)] w (IPost g l p (floop (flt d) (l.drop p) o n 1000 sz) (d + 1) w) := by
  have hg : Hid (g < w.heap.size) := Blk.lt h
  have t1 : decide (nI < 0) = o := by
    have := hn.out
    cases o with
    | true => rw [this.1 rfl]; rfl
    | false => rw [this.2 rfl]; simp
  obtain ⟨F, hF⟩ : ∃ F, F = floop (flt d) (l.drop p) o n 1000 sz := ⟨_, rfl⟩
  rw [← hF]
  have HB0 := hid ((Blk.new w 63 (itemC nulT none 0)).alloc (.cells #[.int .i64 4, .int .u64 0, str [], .slice none 0 0, .bool o] 63))
  have HL0 : Hid (LOk w g (w.heap.size + 1) (w.heap.size + 2) p l o n d sz F ((w.alloc (.cells (itemC nulT none 0) 63)).alloc (.cells #[.int .i64 4, .int .u64 0, str [], .slice none 0 0, .bool o] 63)) 0 sz none 0 (fun _ => T.nil) (fun _ => (none, 0))) := by
    refine ⟨by omega, fun _ => Nat.zero_le _, hF.symm, hpl.out, by simp [T.cat], fun j hj => by omega, ((Mod.refl _ _).alloc _).alloc _, by simp, Blk.newAt _ _ _ (by simp), (Blk.alloc (Blk.alloc h _) _), World.ownsRow_nil _ _ _ _, fun j hj => by omega⟩
  have HF := hid hF
  clear hF h
  go_enter Try.func82, Try.ntmps82
  go_wp2_with fail
  go_loopg [] 1001 (fun gk wr => Hid (Blk wr w.heap.size 63 (itemC nulT none 0)) ∧ ((∃ i e A c ch ac, gk = 1001 - i ∧ Hid (LOk w g (w.heap.size + 1) (w.heap.size + 2) p l o n d sz F wr i e A c ch ac)) ∨ (gk = 0 ∧ Hid (LErr w g (w.heap.size + 1) l p F wr))))
  case atStart => exact ⟨HB0.out, .inl ⟨0, sz, none, 0, _, _, rfl, HL0.out⟩⟩
  case round =>
    clear HB0 HL0
    obtain ⟨hB, ⟨i, e, A, c, ch, ac, rfl, hK⟩ | ⟨rfl, hE⟩⟩ := hrel
    · obtain ⟨q, hq⟩ : ∃ q, q = p + e := ⟨_, rfl⟩
      have hpa : PAt wr g l q 0 := by rw [hq]; exact hK.out.pa
      have HPA := hid hpa
      have p1 : wr.cell? ⟨g, 1, none⟩ = some (.int .i64 (q : Int)) := PAt.at_ hpa
      have p2 : wr.cell? ⟨g, 2, none⟩ = some (.int .i64 0) := PAt.err hpa
      have hql : Hid (q ≤ l.length) := by rw [hq]; exact hK.out.le
      have HQ := hid hq
      clear hq hpa
      by_cases hend : o = false ∧ i = n
      · obtain ⟨ho, hi⟩ := hend
        subst ho
        have hFe := hK.out.F_closed hi
        have HE := hid (hK.out.ends hr.out (fun _ => hi) (e' := e) rfl)
        obtain ⟨t, ht⟩ : ∃ t, t = T.mk 4 0 [] false i ch := ⟨_, rfl⟩
        have hx : Blk wr (w.heap.size + 1) 63 (itemC t A c) := by subst ht; exact hK.out.x
        have hk : t.k = i := by subst ht; rfl
        obtain ⟨x0, x1, x2, x3, x4⟩ := cells5 hx
        have t2 : ((t.k : Int) != nI) = false := by rw [hk, hn.out.2 rfl, hi]; simp
        have t3 : ((t.k : Int) = nI) = True := by rw [hk, hn.out.2 rfl, hi]; simp
        rw [← ht] at HE
        have HFe := hid hFe
        clear hx ht hk hFe hi
        obtain ⟨c0, c1, c2, c3, c4⟩ := cells5 hB.out
        have f0 := hB.out.frozen 0
        have f1 := hB.out.frozen 1
        have f2 := hB.out.frozen 2
        have f3 := hB.out.frozen 3
        have f4 := hB.out.frozen 4
        go_wp2_with fail
        obtain ⟨d0, d1, d2, d3, d4⟩ := cells5 (set5_blk (t := t) (A := A) (c := c) hB.out)
        clear c0 c1 c2 c3 c4 f0 f1 f2 f3 f4 x0 x1 x2 x3 x4 p1 p2
        show bodyPost _ _ _ _ _ (set5 wr w.heap.size t A c)
        refine bodyPost_ret (v := itemV t A c) (by simp [results, Try.results82, go_sem, d0, d1, d2, d3, d4]) rfl ?_
        rw [HFe.out]
        refine ⟨t, A, c, rfl, set5_mod hK.out.mod (Nat.le_refl _), ?_, fun _ => ⟨HE.out.1, HE.out.2.1, ?_⟩⟩
        · have := HPA.out
          rw [HQ.out] at this
          exact set5_far this (by have := hg.out; omega)
        · exact IsL.weak (fun k hk hq => by omega) t (IsL.mod set5_modb (fun k hq hk hm => by rw [List.mem_singleton] at hm; omega) t HE.out.2.2)
      by_cases hbr : o = true ∧ l[p + e]? = some 255
      · obtain ⟨ho, hb⟩ := hbr
        subst ho
        have hFe := hK.out.F_break hb
        have hb2 := get_255.1 hb
        have he : l.drop (p + e) = [255] ++ l.drop (p + (e + 1)) := by
          obtain ⟨v, hv⟩ := hb2
          have h1 : l.drop (p + e + 1) = v := by rw [← List.drop_drop, hv]; rfl
          rw [hv, ← Nat.add_assoc, h1]; rfl
        have HE := hid (hK.out.ends hr.out (fun h => by cases h) (e' := e + 1) he)
        obtain ⟨t, ht⟩ : ∃ t, t = T.mk 4 0 [] true i ch := ⟨_, rfl⟩
        have hx : Blk wr (w.heap.size + 1) 63 (itemC t A c) := by subst ht; exact hK.out.x
        have hk : t.k = i := by subst ht; rfl
        obtain ⟨x0, x1, x2, x3, x4⟩ := cells5 hx
        have t2 : ((t.k : Int) != nI) = true := by rw [hk, hn.out.1 rfl]; simp
        have t3 : ((t.k : Int) = nI) = False := by rw [hk, hn.out.1 rfl]; simp
        have tb : decide (l[q]? = some 255) = true := by rw [HQ.out, hb]; simp
        rw [← ht] at HE
        have HFe := hid hFe; have HX := hid hx
        have hlt : q < l.length := by rw [HQ.out]; exact (List.getElem?_eq_some_iff.1 hb).1
        have hq0 : (0 : Int) ≤ (q : Int) := by omega
        have hq1 : (q : Int) ≤ 1073741824 := by have := hl.out; omega
        have HLT := hid hlt
        clear hx ht hk hFe hb hb2 he hlt x0 x1 x2 x3 x4
        have x3 : wr.cell? ⟨w.heap.size + 1, 3, none⟩ = some (.slice A t.k c) := HX.out.cell 3
        go_wp2_with fail
        refine (broken_any g l q 0 (show Hid _ from ⟨hql.out, hl.out⟩) _ HPA.out).mono ?_
        rintro x w2 ⟨rfl, hb2⟩
        rw [tb]
        have HP2 := hid (HPA.out.ext hb2)
        have HX2 := hid (HX.out.ext hb2)
        have HB2 := hid (hB.out.ext hb2)
        have HM2 := hid (hK.out.mod.trans hb2.of_ext)
        clear p1 p2 x3
        have p1 : w2.cell? ⟨g, 1, none⟩ = some (.int .i64 (q : Int)) := PAt.at_ HP2.out
        have z1 : w2.frozen? ⟨g, 1, none⟩ = false := PAt.froz HP2.out 1
        obtain ⟨x0, x1, x2, x3, x4⟩ := cells5 HX2.out
        obtain ⟨c0, c1, c2, c3, c4⟩ := cells5 HB2.out
        have f0 := HB2.out.frozen 0
        have f1 := HB2.out.frozen 1
        have f2 := HB2.out.frozen 2
        have f3 := HB2.out.frozen 3
        have f4 := HB2.out.frozen 4
        have HEL := hid (IsL.mod hb2 (fun k hq hk => by simp) t HE.out.2.2)
        have hgX : g ≠ w.heap.size := by have := hg.out; omega
        have hgX1 : ¬ w.heap.size = g := by have := hg.out; omega
        have hgX2 : ¬ w.heap.size + 1 = g := by have := hg.out; omega
        have hgX3 : ¬ g = w.heap.size + 1 := by have := hg.out; omega
        clear hb2
        go_wp2_with fail
        have HB5 : Hid (Blk (w2.setCell ⟨g, 1, none⟩ (.int .i64 ((q : Int) + 1))) w.heap.size 63 (itemC nulT none 0)) := Blk.far HB2.out (by simpa using fun e => hgX e.symm) _
        obtain ⟨d0, d1, d2, d3, d4⟩ := cells5 (set5_blk (t := t) (A := A) (c := c) HB5.out)
        clear c0 c1 c2 c3 c4 f0 f1 f2 f3 f4 x0 x1 x2 x3 x4 p1 z1
        show bodyPost _ _ _ _ _ (set5 (w2.setCell ⟨g, 1, none⟩ (.int .i64 ((q : Int) + 1))) w.heap.size t A c)
        refine bodyPost_ret (v := itemV t A c) (by simp [results, Try.results82, go_sem, d0, d1, d2, d3, d4]) rfl ?_
        rw [HFe.out]
        refine ⟨t, A, c, rfl, set5_mod (HM2.out.setCell (.inl (by simp)) _) (Nat.le_refl _), ?_, fun _ => ⟨HE.out.1, HE.out.2.1, ?_⟩⟩
        · have h1 := Blk.set_ HP2.out 1 (.int .i64 ((q + 1 : Nat) : Int))
          have h2 : PAt (w2.setCell ⟨g, 1, none⟩ (.int .i64 ((q : Int) + 1))) g l (p + (e + 1)) 0 := by
            rw [← Nat.add_assoc, ← HQ.out]
            simpa [PAt] using h1
          exact set5_far h2 hgX
        · have hm : Mod [g] w2 (w2.setCell ⟨g, 1, none⟩ (.int .i64 ((q : Int) + 1))) := (Mod.refl _ _).setCell (.inl (by simp)) _
          have e1 := IsL.mod hm (fun k hq hk hm => by rw [List.mem_singleton] at hm; have := hg.out; omega) t HEL.out
          exact IsL.weak (fun k hk hq => by omega) t (IsL.mod set5_modb (fun k hq hk hm => by rw [List.mem_singleton] at hm; omega) t e1)
      have hin : Hid (o = false → i < n) := fun ho => by have h1 := hK.out.iN ho; have h2 : i ≠ n := fun h => hend ⟨ho, h⟩; omega
      have t2 : ((i : Int) != nI) = true := by
        have := hn.out
        cases o with
        | true => rw [this.1 rfl]; simp
        | false => rw [this.2 rfl]; have := hin.out rfl; simp; omega
      have t3 : ((i : Int) = nI) = False := by simpa using t2
      have x3 : wr.cell? ⟨w.heap.size + 1, 3, none⟩ = some (.slice A i c) := hK.out.x.cell 3
      have y3 : wr.frozen? ⟨w.heap.size + 1, 3, none⟩ = false := hK.out.x.frozen 3
      by_cases hlong : o = true ∧ i = 1000
      · obtain ⟨ho, hi⟩ := hlong
        subst ho
        have hb : ¬ l[p + e]? = some 255 := fun h => hbr ⟨rfl, h⟩
        have HFe := hid (hK.out.F_long hi hb)
        have tb : decide (l[q]? = some 255) = false := by rw [HQ.out]; simpa using hb
        have ti : ((i : Int) == 1000) = true := by rw [hi]; rfl
        have ti2 : (i = 1000) = True := by simp [hi]
        have HX := hid hK.out.x
        clear hb hi hbr hend
        go_wp2_with fail
        refine (broken_any g l q 0 (show Hid _ from ⟨hql.out, hl.out⟩) _ HPA.out).mono ?_
        rintro x w2 ⟨rfl, hb2⟩
        rw [tb]
        have HP2 := hid (HPA.out.ext hb2)
        have HB2 := hid (hB.out.ext hb2)
        have HM2 := hid (hK.out.mod.trans hb2.of_ext)
        clear p1 p2 x3 y3
        have p1 : w2.cell? ⟨g, 1, none⟩ = some (.int .i64 (q : Int)) := PAt.at_ HP2.out
        have x3 : w2.cell? ⟨w.heap.size + 1, 3, none⟩ = some (.slice A i c) := (HX.out.ext hb2).cell 3
        have hgX : w.heap.size ≠ g := by have := hg.out; omega
        clear hb2
        go_wp2_with fail
        refine (pfail_any g l q q 4 _ HP2.out).mono ?_
        rintro x w3 ⟨rfl, hm3, hp3⟩
        have HB3 := hid (HB2.out.mod hm3 (by simpa using hgX))
        have HP3 := hid hp3; have HM3 := hid (HM2.out.trans hm3)
        clear hm3 hp3 p1 x3
        obtain ⟨c0, c1, c2, c3, c4⟩ := cells5 HB3.out
        have f0 := HB3.out.frozen 0
        have f1 := HB3.out.frozen 1
        have f2 := HB3.out.frozen 2
        have f3 := HB3.out.frozen 3
        have f4 := HB3.out.frozen 4
        go_wp2_with fail
        obtain ⟨d0, d1, d2, d3, d4⟩ := cells5 (set5_blk (t := nulT) (A := none) (c := 0) HB3.out)
        clear c0 c1 c2 c3 c4 f0 f1 f2 f3 f4 
        show bodyPost _ _ _ _ _ (set5 w3 w.heap.size nulT none 0)
        refine bodyPost_ret (v := itemV nulT none 0) (by simp [results, Try.results82, go_sem, d0, d1, d2, d3, d4]) rfl ?_
        rw [HFe.out]
        refine ⟨nulT, none, 0, rfl, set5_mod HM3.out (Nat.le_refl _), ?_, fun h => by cases h⟩
        have h3 := HP3.out
        rw [HQ.out] at h3
        exact set5_far h3 (fun e => hgX e.symm)
      · have hi : i < 1000 := by
          have h1 := hK.out.i1000
          have h2 := hin.out
          have h3 := hnn.out
          cases o with
          | true => have h4 : i ≠ 1000 := fun h => hlong ⟨rfl, h⟩; omega
          | false => have := h2 rfl; have := h3 rfl; omega
        have HI := hid hi
        have HNB := hid hbr
        have ti : ((i : Int) == 1000) = false := by simp; omega
        have ti2 : (i = 1000) = False := by simp; omega
        have HX := hid hK.out.x
        have hd1 : Hid (d ≤ 8) := hd
        have td : (d : Int) + 1 - 1 = (d : Int) := by omega
        have tw : IntKind.i64.wrap (d : Int) = (d : Int) := IntWalk.i64_in _ (by have := hd.out; omega)
        have tw2 : IntKind.i64.wrap ((d : Int) + 1 - 1) = (d : Int) := by rw [td, tw]
        clear hi hbr hend hlong
        have HIH : Hid (∀ W, PAt W g l q 0 → Calls Try.prog 64 #[.pointer (some ⟨g, 0, none⟩), .int .i64 (d : Int)] W (IPost g l q (flt d (l.drop q)) d W)) := fun W hW => IH.out q hql.out W hW
        cases o
        · have HIN := hid (hin.out rfl)
          obtain ⟨i0, hi0, hz0, hz1, hz2⟩ := info_parts infoItem
          have hgX : w.heap.size + 1 ≠ g := by have := hg.out; omega
          have hgB : w.heap.size ≠ g := by have := hg.out; omega
          have HgX := hid hgX; have HgB := hid hgB
          clear hgX hgB
          go_upto_region 8 with fail
          go_region_law (first
            | (refine step_append_lies _ rfl (.tmp 48) (.tmp 53) 61 rfl (w.heap.size + 2) 63 i0 _ 5 64 Try.underlying61 hi0 hz0 hz1 hz2 rfl (by decide) (.slice A i c) i _ (by simp [Act.eval]) ho2 ⟨w2.heap.size, 0, none⟩ 1 1 [Value.int .i64 tc.kind, .int .u64 (tc.n : Int), str tc.s, .slice Ac tc.k cc, .bool tc.op] (by simp [Act.eval]) rfl (news5 w2 tc Ac cc) (one5 tc Ac cc) (by decide) (by have := HI.out; unfold maxLen; omega) (by have := HI.out; omega) (by have := hK.out.room hm; simp; omega) (w2.heap.size + 1) (by simp) ?_; intro g' c' w4 hown' hgr hbl hgl; have hx4 := hK.out.keep hm hgr hK.out.x HgX.out (by omega); have x4 : w4.cell? ⟨w.heap.size + 1, 3, none⟩ = some (.slice A i c) := hx4.cell 3; have xf : w4.frozen? ⟨w.heap.size + 1, 3, none⟩ = false := hx4.frozen 3)
            | (go_simp; go_at_call 64; (try rw [tw2]); refine (HIH.out _ ?_).mono ?_; (first | exact HPA.out | exact Blk.drew HPA.out); rintro x w2 ⟨tc, Ac, cc, rfl, hm2, hp2, hs2⟩; have hm : Mod [g] wr w2 := (by first | exact hm2 | exact (Mod.refl _ _).drew.trans hm2); have ho2 := hK.out.own2 (by have := hg.out; omega) hm (.cells (itemC tc Ac cc) 63); have z3 : w2.cell? ⟨w.heap.size + 1, 3, none⟩ = some (.slice A i c) := (hK.out.x.mod hm (by simpa using HgX.out)).cell 3; have zf : w2.frozen? ⟨w.heap.size + 1, 3, none⟩ = false := (hK.out.x.mod hm (by simpa using HgX.out)).frozen 3; have z4 : (w2.alloc (.cells #[Value.int .i64 tc.kind, .int .u64 (tc.n : Int), str tc.s, .slice Ac tc.k cc, .bool tc.op] 63)).cell? ⟨w.heap.size + 1, 3, none⟩ = some (.slice A i c) := ((hK.out.x.mod hm (by simpa using HgX.out)).alloc _).cell 3; have hne : ¬ w.heap.size + 1 = w2.heap.size := (by have := hK.out.room hm; omega)))
          all_goals go_wp2_with fail
          all_goals have hq := HQ.out
          all_goals have hblk : (Value.slice (some ⟨g', 0, none⟩) (i + 1) c').ownBlock = (Value.slice A i c).ownBlock ∨ ∀ k, (Value.slice (some ⟨g', 0, none⟩) (i + 1) c').ownBlock = some k → w2.heap.size ≤ k := hbl.elim (fun h => .inl h.symm) (fun h => .inr fun k hk => by simp [Value.ownBlock] at hk; omega)
          all_goals have hB5 : Blk (w4.setCell ⟨w.heap.size + 1, 3, none⟩ (.slice (some ⟨g', 0, none⟩) (i + 1) c')) w.heap.size 63 (itemC nulT none 0) := Blk.far (hK.out.keep hm hgr hB.out HgB.out (by omega)) (by simp) _
          all_goals subst hq
          all_goals
            by_cases her : (flt d (l.drop (p + e))).2 = 0
            · obtain ⟨A', c2, e1, hL⟩ := hK.out.step hg.out (by omega) (by omega) HI.out (fun _ => HIN.out) (fun h => by cases h.1) her hm (by rw [her] at hp2; exact hp2) (hs2 her).1 (hs2 her).2.1 (hs2 her).2.2 hown' hgr hblk
              simp only [Value.slice.injEq, true_and] at e1
              obtain ⟨rfl, rfl⟩ := e1
              go_roundg (1001 - (i + 1))
              case measure => have := HI.out; omega
              case rel => exact ⟨hB5, .inl ⟨_, _, _, _, _, _, rfl, hL⟩⟩
            · have hL := hK.out.stepErr hg.out (by omega) (by omega) HI.out (fun _ => HIN.out) (fun h => by cases h.1) her hm hp2 hown' hgr
              go_roundg 0
              case measure => have := HI.out; omega
              case rel => exact ⟨hB5, .inr ⟨rfl, hL⟩⟩
        · have HNB2 : Hid (¬ l[p + e]? = some 255) := fun h => HNB.out ⟨rfl, h⟩
          have tb : decide (l[q]? = some 255) = false := by rw [HQ.out]; have := HNB2.out; simpa using this
          go_wp2_with fail
          refine (broken_any g l q 0 (show Hid _ from ⟨hql.out, hl.out⟩) _ HPA.out).mono ?_
          rintro x w1 ⟨rfl, hb1⟩
          rw [tb]
          have HK1 := hid (hK.out.ext hb1)
          have HB1 := hid (hB.out.ext hb1)
          have HP1 := hid (HPA.out.ext hb1)
          clear p1 p2 x3 y3 hb1
          have p1 : w1.cell? ⟨g, 1, none⟩ = some (.int .i64 (q : Int)) := PAt.at_ HP1.out
          have p2 : w1.cell? ⟨g, 2, none⟩ = some (.int .i64 0) := PAt.err HP1.out
          have x3 : w1.cell? ⟨w.heap.size + 1, 3, none⟩ = some (.slice A i c) := HK1.out.x.cell 3
          have y3 : w1.frozen? ⟨w.heap.size + 1, 3, none⟩ = false := HK1.out.x.frozen 3
          obtain ⟨i0, hi0, hz0, hz1, hz2⟩ := info_parts infoItem
          have hgX : w.heap.size + 1 ≠ g := by have := hg.out; omega
          have hgB : w.heap.size ≠ g := by have := hg.out; omega
          have HgX := hid hgX; have HgB := hid hgB
          clear hgX hgB
          go_upto_region 8 with fail
          go_region_law (first
            | (refine step_append_lies _ rfl (.tmp 48) (.tmp 53) 61 rfl (w.heap.size + 2) 63 i0 _ 5 64 Try.underlying61 hi0 hz0 hz1 hz2 rfl (by decide) (.slice A i c) i _ (by simp [Act.eval]) ho2 ⟨w2.heap.size, 0, none⟩ 1 1 [Value.int .i64 tc.kind, .int .u64 (tc.n : Int), str tc.s, .slice Ac tc.k cc, .bool tc.op] (by simp [Act.eval]) rfl (news5 w2 tc Ac cc) (one5 tc Ac cc) (by decide) (by have := HI.out; unfold maxLen; omega) (by have := HI.out; omega) (by have := HK1.out.room hm; simp; omega) (w2.heap.size + 1) (by simp) ?_; intro g' c' w4 hown' hgr hbl hgl; have hx4 := HK1.out.keep hm hgr HK1.out.x HgX.out (by omega); have x4 : w4.cell? ⟨w.heap.size + 1, 3, none⟩ = some (.slice A i c) := hx4.cell 3; have xf : w4.frozen? ⟨w.heap.size + 1, 3, none⟩ = false := hx4.frozen 3)
            | (go_simp; go_at_call 64; (try rw [tw2]); refine (HIH.out _ ?_).mono ?_; (first | exact HP1.out | exact Blk.drew HP1.out); rintro x w2 ⟨tc, Ac, cc, rfl, hm2, hp2, hs2⟩; have hm : Mod [g] w1 w2 := (by first | exact hm2 | exact (Mod.refl _ _).drew.trans hm2); have ho2 := HK1.out.own2 (by have := hg.out; omega) hm (.cells (itemC tc Ac cc) 63); have z3 : w2.cell? ⟨w.heap.size + 1, 3, none⟩ = some (.slice A i c) := (HK1.out.x.mod hm (by simpa using HgX.out)).cell 3; have zf : w2.frozen? ⟨w.heap.size + 1, 3, none⟩ = false := (HK1.out.x.mod hm (by simpa using HgX.out)).frozen 3; have z4 : (w2.alloc (.cells #[Value.int .i64 tc.kind, .int .u64 (tc.n : Int), str tc.s, .slice Ac tc.k cc, .bool tc.op] 63)).cell? ⟨w.heap.size + 1, 3, none⟩ = some (.slice A i c) := ((HK1.out.x.mod hm (by simpa using HgX.out)).alloc _).cell 3; have hne : ¬ w.heap.size + 1 = w2.heap.size := (by have := HK1.out.room hm; omega)))
          all_goals go_wp2_with fail
          all_goals have hq := HQ.out
          all_goals have hblk : (Value.slice (some ⟨g', 0, none⟩) (i + 1) c').ownBlock = (Value.slice A i c).ownBlock ∨ ∀ k, (Value.slice (some ⟨g', 0, none⟩) (i + 1) c').ownBlock = some k → w2.heap.size ≤ k := hbl.elim (fun h => .inl h.symm) (fun h => .inr fun k hk => by simp [Value.ownBlock] at hk; omega)
          all_goals have hB5 : Blk (w4.setCell ⟨w.heap.size + 1, 3, none⟩ (.slice (some ⟨g', 0, none⟩) (i + 1) c')) w.heap.size 63 (itemC nulT none 0) := Blk.far (HK1.out.keep hm hgr HB1.out HgB.out (by omega)) (by simp) _
          all_goals subst hq
          all_goals
            by_cases her : (flt d (l.drop (p + e))).2 = 0
            · obtain ⟨A', c2, e1, hL⟩ := HK1.out.step hg.out (by omega) (by omega) HI.out (fun h => by cases h) (fun h => HNB2.out h.2) her hm (by rw [her] at hp2; exact hp2) (hs2 her).1 (hs2 her).2.1 (hs2 her).2.2 hown' hgr hblk
              simp only [Value.slice.injEq, true_and] at e1
              obtain ⟨rfl, rfl⟩ := e1
              go_roundg (1001 - (i + 1))
              case measure => have := HI.out; omega
              case rel => exact ⟨hB5, .inl ⟨_, _, _, _, _, _, rfl, hL⟩⟩
            · have hL := HK1.out.stepErr hg.out (by omega) (by omega) HI.out (fun h => by cases h) (fun h => HNB2.out h.2) her hm hp2 hown' hgr
              go_roundg 0
              case measure => have := HI.out; omega
              case rel => exact ⟨hB5, .inr ⟨rfl, hL⟩⟩
    · obtain ⟨t, A, c, hx⟩ := hE.out.x
      have p2 : wr.cell? ⟨g, 2, none⟩ = some (.int .i64 F.2) := PAt.err hE.out.pa
      have te : (F.2 == 0) = false := by have := hE.out.ne; simp [this]
      have te2 : (F.2 = 0) = False := by have := hE.out.ne; simp [this]
      obtain ⟨x0, x1, x2, x3, x4⟩ := cells5 hx
      obtain ⟨c0, c1, c2, c3, c4⟩ := cells5 hB.out
      have f0 := hB.out.frozen 0
      have f1 := hB.out.frozen 1
      have f2 := hB.out.frozen 2
      have f3 := hB.out.frozen 3
      have f4 := hB.out.frozen 4
      clear hx
      go_wp2_with fail
      obtain ⟨d0, d1, d2, d3, d4⟩ := cells5 (set5_blk (t := t) (A := A) (c := c) hB.out)
      clear c0 c1 c2 c3 c4 f0 f1 f2 f3 f4 x0 x1 x2 x3 x4 p2
      show bodyPost _ _ _ _ _ (set5 wr w.heap.size t A c)
      refine bodyPost_ret (v := itemV t A c) (by simp [results, Try.results82, go_sem, d0, d1, d2, d3, d4]) rfl ?_
      exact ⟨t, A, c, rfl, set5_mod hE.out.mod (Nat.le_refl _), set5_far hE.out.pa (by have := hg.out; omega), fun h => absurd h hE.out.ne⟩
end Go.Proofs.Ytagjhkknefiieaa
