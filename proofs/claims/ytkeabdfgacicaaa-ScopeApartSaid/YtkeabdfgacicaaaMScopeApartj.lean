/-
  The law ScopeApart, walked.
  The arguments [2]api.Bundle and [2]api.Block, opened.
-/
import Derived.Test.YtkeabdfgacicaaaMScopeAparti
import Derived.OpenShut

namespace Go.Proofs.Ytkeabdfgacicaaa
open Go.RowKit
set_option linter.unusedVariables false
set_option linter.unusedSimpArgs false

abbrev bun2C (p : PV) (A : Option Addr) (k c : Nat) (q : PV) (B : Option Addr) (m d : Nat) : Array Value := #[.int .u64 (p.fl : Int), .int .i64 p.crc, .int .i64 p.d.sch, str p.d.name, .int .u64 (p.d.node : Int), .int .u64 (p.d.svc : Int), .int .i64 p.s.sch, str p.s.name, .int .u64 (p.s.node : Int), .int .u64 (p.s.svc : Int), .int .i64 p.r.sch, str p.r.name, .int .u64 (p.r.node : Int), .int .u64 (p.r.svc : Int), .int .u64 (p.t : Int), .int .u64 (p.q : Int), .int .u64 (p.l : Int), .int .u64 (p.o : Int), .int .u64 (p.n : Int), .slice A k c, .int .u64 (q.fl : Int), .int .i64 q.crc, .int .i64 q.d.sch, str q.d.name, .int .u64 (q.d.node : Int), .int .u64 (q.d.svc : Int), .int .i64 q.s.sch, str q.s.name, .int .u64 (q.s.node : Int), .int .u64 (q.s.svc : Int), .int .i64 q.r.sch, str q.r.name, .int .u64 (q.r.node : Int), .int .u64 (q.r.svc : Int), .int .u64 (q.t : Int), .int .u64 (q.q : Int), .int .u64 (q.l : Int), .int .u64 (q.o : Int), .int .u64 (q.n : Int), .slice B m d]
theorem head2_inj {a b : List UInt8} (ha : a.length < 18446744073709551616) (hb : b.length < 18446744073709551616) : headL 2 a.length ++ a = headL 2 b.length ++ b ↔ a = b := by
  constructor
  · intro h
    have h1 := readH_head (m := 2) (by omega) ha a
    rw [h, readH_head (m := 2) (by omega) hb b] at h1
    simp only [Option.some.injEq, Prod.mk.injEq] at h1
    rw [h1.2.2.1] at h
    exact List.append_cancel_left h
  · rintro rfl; rfl
theorem r16Of_ok {p : PV} {sec : BV} {bs : Nat → BV} {k : Nat} {target s : Int} (h : (r16Of p sec bs k target s).2.2 = 0) : (0 ≤ s ∧ s ≤ 7) ∧ p.right = 0 ∧ sec.right = 0 ∧
    ((target = 0 ∧ r16Of p sec bs k target s = (besB p.plain.bytes [] sec.hdr 0 s.toNat, p.plain.bytes, 0)) ∨
     (target ≠ 0 ∧ ∃ i, firstOf (numB bs target) k = some i ∧ (bs i).right = 0 ∧ r16Of p sec bs k target s = (besB p.plain.bytes (bs i).hdr sec.hdr target s.toNat, headL 2 (bs i).data.length ++ (bs i).data, 0))) := by
  unfold r16Of at h ⊢
  by_cases c1 : s < 0 ∨ 7 < s
  · rw [if_pos c1] at h; exact absurd h (by decide)
  · rw [if_neg c1] at h
    rw [if_neg c1]
    refine ⟨by omega, ?_⟩
    by_cases ht : target = 0
    · rw [if_pos ht] at h
      rw [if_pos ht]
      by_cases hb : p.right = 0
      · rw [if_neg (show ¬ p.right ≠ 0 by simpa using hb)] at h
        by_cases hs : sec.right = 0
        · exact ⟨hb, hs, .inl ⟨ht, by rw [if_neg (show ¬ p.right ≠ 0 by simpa using hb), if_neg (show ¬ sec.right ≠ 0 by simpa using hs)]⟩⟩
        · rw [if_pos hs] at h; exact absurd h hs
      · rw [if_pos hb] at h; exact absurd h hb
    · rw [if_neg ht] at h
      rw [if_neg ht]
      cases hfo : firstOf (numB bs target) k with
      | none => rw [hfo] at h; exact absurd (show (15 : Int) = 0 from h) (by decide)
      | some i =>
        rw [hfo] at h
        dsimp only at h ⊢
        by_cases hb : p.right = 0
        · rw [if_neg (show ¬ p.right ≠ 0 by simpa using hb)] at h
          by_cases hx : (bs i).right = 0
          · rw [if_neg (show ¬ (bs i).right ≠ 0 by simpa using hx)] at h
            by_cases hs : sec.right = 0
            · exact ⟨hb, hs, .inr ⟨ht, i, rfl, hx, by rw [if_neg (show ¬ p.right ≠ 0 by simpa using hb), if_neg (show ¬ (bs i).right ≠ 0 by simpa using hx), if_neg (show ¬ sec.right ≠ 0 by simpa using hs)]⟩⟩
            · rw [if_pos hs] at h; exact absurd h hs
          · rw [if_pos hx] at h; exact absurd h hx
        · rw [if_pos hb] at h; exact absurd h hb
set_option maxRecDepth 20000 in
set_option maxHeartbeats 16000000 in
theorem lawApart_any (p q : PV) (bs ds : Nat → BV) (k m c d : Nat) (A B : Option Addr) (s t : BV) (target sc : Int) (hp : p.wf) (hq : q.wf) (hk : k < 4611686018427387904) (hm : m < 4611686018427387904) (w : World) (h1 : BsL w A k bs) (h2 : BsL w B m ds) : Calls Try.prog 3 #[.agg (bun2C p A k c q B m d), .agg (secC s t), .agg #[.int .i64 target, .int .i64 sc]] w (Ret (.bool true) w) := by
  have KA := hid (fun W => awake16_any W)
  have KF1 := hid (fun W (hW : BsL W A k bs) => few13_any p bs k c A hk W hW)
  have KF2 := hid (fun W (hW : BsL W B m ds) => few13_any q ds m d B hm W hW)
  have HE := hid ((((Mod.refl [] w).alloc (.cells (bun2C p A k c q B m d) 30)).alloc (.cells (secC s t) 33)).alloc (.cells #[.int .i64 target, .int .i64 sc] 35))
  have HB0 : Hid (Blk (((w.alloc (.cells (bun2C p A k c q B m d) 30)).alloc (.cells (secC s t) 33)).alloc (.cells #[.int .i64 target, .int .i64 sc] 35)) w.heap.size 30 (bun2C p A k c q B m d)) := hid (((Blk.new w 30 (bun2C p A k c q B m d)).alloc (.cells (secC s t) 33)).alloc (.cells #[.int .i64 target, .int .i64 sc] 35))
  have HB1 : Hid (Blk (((w.alloc (.cells (bun2C p A k c q B m d) 30)).alloc (.cells (secC s t) 33)).alloc (.cells #[.int .i64 target, .int .i64 sc] 35)) (w.heap.size + 1) 33 (secC s t)) := by unfold Hid; have := (Blk.newL (N := (w.heap.size + 1)) (w.alloc (.cells (bun2C p A k c q B m d) 30)) 33 (secC s t) (by simp)); exact (this.alloc (.cells #[.int .i64 target, .int .i64 sc] 35))
  have HB2 : Hid (Blk (((w.alloc (.cells (bun2C p A k c q B m d) 30)).alloc (.cells (secC s t) 33)).alloc (.cells #[.int .i64 target, .int .i64 sc] 35)) (w.heap.size + 1 + 1) 35 #[.int .i64 target, .int .i64 sc]) := by unfold Hid; exact Blk.newL _ _ _ (by simp)
  have HL1 := hid (BsL.ext h1 HE.out)
  have HL2 := hid (BsL.ext h2 HE.out)
  have HK := hid hk
  have HMM := hid hm
  have HP := hid hp
  have HQ := hid hq
  clear hk hm hp hq h1 h2
  go_enter Try.func3, Try.ntmps3
  go_upto_region 1 with fail
  generalize (((w.alloc (.cells (bun2C p A k c q B m d) 30)).alloc (.cells (secC s t) 33)).alloc (.cells #[.int .i64 target, .int .i64 sc] 35)) = V at *
  obtain ⟨e, he⟩ := Later.self V
  rw [he]
  clear he
  go_cut [7, 8] (fun s7 s8 wx => ∃ N M, s7 = .pointer (some ⟨N, 0, none⟩) ∧ s8 = .pointer (some ⟨M, 0, none⟩) ∧ Hid (Ext V wx ∧ Blk wx N 29 (bunC p A k c) ∧ Blk wx M 29 (bunC q B m d)))
  case first =>
    refine wp_region_held_drew (S := fun w' => Ext V w') (by kernel_rfl) (Later.h e).drew (fun hHeld => ?_)
    generalize e.x.drew = u0 at *
    clear e
    refine' wpAnyH_take (i := 0) (v := _) rfl (by kernel_rfl) (by kernel_rfl) (by kernel_rfl) (fun _ _ _ h => h) (Or.inl ⟨by rfl, ?hy1⟩) hHeld ?rest1
    case hy1 => (rintro W hM; go_simp; (try with_reducible rfl))
    case rest1 =>
    (try simp only [Act.put, List.getElem_toArray, List.getElem_cons_zero, List.getElem_cons_succ, List.setIfInBounds_toArray, List.set_cons_zero, List.set_cons_succ])
    refine wpAnyH_take (i := 1) rfl (by kernel_rfl) (by kernel_rfl) (by kernel_rfl) (fun _ _ _ h => h) (yieldsIf_mid (by rfl) 29 _ rfl w.heap.size 0 rfl (bunC p A k c).toList (fun W h => HB0.out.rangeE h 0 20 (by rw [Array.toList_extract]; rfl)) Try.underlying29 rfl (by kernel_rfl)) hHeld ?_
    (try simp only [Act.put, List.getElem_toArray, List.getElem_cons_zero, List.getElem_cons_succ, List.setIfInBounds_toArray, List.set_cons_zero, List.set_cons_succ])
    refine' wpAnyH_take (i := 2) (v := _) rfl (by kernel_rfl) (by kernel_rfl) (by kernel_rfl) (fun _ _ _ h => h) (Or.inl ⟨by rfl, ?hy2⟩) hHeld ?rest2
    case hy2 => (rintro W hM; go_simp; (try with_reducible rfl))
    case rest2 =>
    (try simp only [Act.put, List.getElem_toArray, List.getElem_cons_zero, List.getElem_cons_succ, List.setIfInBounds_toArray, List.set_cons_zero, List.set_cons_succ])
    refine wpAnyH_take (i := 3) rfl (by kernel_rfl) (by kernel_rfl) (by kernel_rfl) (fun _ _ _ h => h) (yieldsIf_mid (by rfl) 29 _ rfl w.heap.size 20 rfl (bunC q B m d).toList (fun W h => HB0.out.rangeE h 20 20 (by rw [Array.toList_extract]; rfl)) Try.underlying29 rfl (by kernel_rfl)) hHeld ?_
    (try simp only [Act.put, List.getElem_toArray, List.getElem_cons_zero, List.getElem_cons_succ, List.setIfInBounds_toArray, List.set_cons_zero, List.set_cons_succ])
    refine wpAnyH_ready (rs := [4, 5]) (by kernel_rfl) (by simp) ?_
    refine AllReadyH.cons rfl (fun K hK => ?_) (AllReadyH.cons rfl (fun K hK => ?_) AllReadyH.nil)
    · go_simp
      generalize hV : World.alloc u0 _ = y1
      have h7 : Blk y1 u0.heap.size 29 #[.int .u64 0, .int .i64 0, .int .i64 0, .string ⟨#[]⟩, .int .u64 0, .int .u64 0, .int .i64 0, .string ⟨#[]⟩, .int .u64 0, .int .u64 0, .int .i64 0, .string ⟨#[]⟩, .int .u64 0, .int .u64 0, .int .u64 0, .int .u64 0, .int .u64 0, .int .u64 0, .int .u64 0, .slice none 0 0] := by rw [← hV]; exact Blk.new _ _ _
      have hXX : Ext u0 y1 := by rw [← hV]; exact (Mod.refl [] _).alloc _
      have h7_n : V.heap.size ≤ u0.heap.size := hHeld.size
      clear hV
      refine hK.out _ _ (hHeld.trans hXX) (fun hHeld => ?_)
      clear hK K
      (try simp only [Act.put, List.getElem_toArray, List.getElem_cons_zero, List.getElem_cons_succ, List.setIfInBounds_toArray, List.set_cons_zero, List.set_cons_succ])
      have hlt : u0.heap.size < y1.heap.size := h7.lt
      refine wpAnyH_ready (rs := [5]) (by kernel_rfl) (by simp) ?_
      refine AllReadyH.cons rfl (fun K hK => ?_) AllReadyH.nil
      go_simp
      generalize hV : World.alloc y1 _ = y2
      have h8 : Blk y2 y1.heap.size 29 #[.int .u64 0, .int .i64 0, .int .i64 0, .string ⟨#[]⟩, .int .u64 0, .int .u64 0, .int .i64 0, .string ⟨#[]⟩, .int .u64 0, .int .u64 0, .int .i64 0, .string ⟨#[]⟩, .int .u64 0, .int .u64 0, .int .u64 0, .int .u64 0, .int .u64 0, .int .u64 0, .int .u64 0, .slice none 0 0] := by rw [← hV]; exact Blk.new _ _ _
      have hXX : Ext y1 y2 := by rw [← hV]; exact (Mod.refl [] _).alloc _
      have h8_n : V.heap.size ≤ y1.heap.size := hHeld.size
      clear hV
      have h7 := h7.ext hXX
      refine hK.out _ _ (hHeld.trans hXX) (fun hHeld => ?_)
      clear hK K
      (try simp only [Act.put, List.getElem_toArray, List.getElem_cons_zero, List.getElem_cons_succ, List.setIfInBounds_toArray, List.set_cons_zero, List.set_cons_succ])
      refine wpAnyH_ready (rs := [6]) (by kernel_rfl) (by simp) ?_
      refine AllReadyH.cons rfl (fun K hK => ?_) AllReadyH.nil
      refine wp_store_mid 29 _ _ rfl u0.heap.size 0 (bunC p A k c) (by rfl) (by rfl) (h7.there (Nat.le_refl 20)) (by kernel_rfl) (by simp [Value.oneCell']) ?_
      have hZB := setCells_all (ds := (bunC p A k c)) h7 rfl
      have hZM := setCells_mod (b := u0.heap.size) ((bunC p A k c) : Array Value).toList 0 hHeld (.inr h7_n)
      have hZO := setCells_mod (w := y2) (W := y2) (S := [u0.heap.size]) (b := u0.heap.size) ((bunC p A k c) : Array Value).toList 0 (Mod.refl _ _) (.inl (by simp))
      generalize hZ : World.setCells _ u0.heap.size 0 _ = y3 at *
      clear hZ
      have h8 := h8.mod hZO (by simpa using Nat.ne_of_gt hlt)
      have h7 := hZB
      refine hK.out _ _ hZM (fun hHeld => ?_)
      clear hK K hZB hZM hZO
      (try simp only [Act.put, List.getElem_toArray, List.getElem_cons_zero, List.getElem_cons_succ, List.setIfInBounds_toArray, List.set_cons_zero, List.set_cons_succ])
      refine wpAnyH_ready (rs := [7]) (by kernel_rfl) (by simp) ?_
      refine AllReadyH.cons rfl (fun K hK => ?_) AllReadyH.nil
      refine wp_store_mid 29 _ _ rfl y1.heap.size 0 (bunC q B m d) (by rfl) (by rfl) (h8.there (Nat.le_refl 20)) (by kernel_rfl) (by simp [Value.oneCell']) ?_
      have hZB := setCells_all (ds := (bunC q B m d)) h8 rfl
      have hZM := setCells_mod (b := y1.heap.size) ((bunC q B m d) : Array Value).toList 0 hHeld (.inr h8_n)
      have hZO := setCells_mod (w := y3) (W := y3) (S := [y1.heap.size]) (b := y1.heap.size) ((bunC q B m d) : Array Value).toList 0 (Mod.refl _ _) (.inl (by simp))
      generalize hZ : World.setCells _ y1.heap.size 0 _ = y4 at *
      clear hZ
      have h7 := h7.mod hZO (by simpa using Nat.ne_of_lt hlt)
      have h8 := hZB
      refine hK.out _ _ hZM (fun hHeld => ?_)
      clear hK K hZB hZM hZO
      (try simp only [Act.put, List.getElem_toArray, List.getElem_cons_zero, List.getElem_cons_succ, List.setIfInBounds_toArray, List.set_cons_zero, List.set_cons_succ])
      refine wpAnyH_done (by kernel_rfl) ?_ _
      go_wp2_with fail
      go_meet
      exact ⟨_, _, rfl, rfl, hHeld, h7, h8⟩
    · go_simp
      generalize hV : World.alloc u0 _ = y1
      have h8 : Blk y1 u0.heap.size 29 #[.int .u64 0, .int .i64 0, .int .i64 0, .string ⟨#[]⟩, .int .u64 0, .int .u64 0, .int .i64 0, .string ⟨#[]⟩, .int .u64 0, .int .u64 0, .int .i64 0, .string ⟨#[]⟩, .int .u64 0, .int .u64 0, .int .u64 0, .int .u64 0, .int .u64 0, .int .u64 0, .int .u64 0, .slice none 0 0] := by rw [← hV]; exact Blk.new _ _ _
      have hXX : Ext u0 y1 := by rw [← hV]; exact (Mod.refl [] _).alloc _
      have h8_n : V.heap.size ≤ u0.heap.size := hHeld.size
      clear hV
      refine hK.out _ _ (hHeld.trans hXX) (fun hHeld => ?_)
      clear hK K
      (try simp only [Act.put, List.getElem_toArray, List.getElem_cons_zero, List.getElem_cons_succ, List.setIfInBounds_toArray, List.set_cons_zero, List.set_cons_succ])
      have hlt : u0.heap.size < y1.heap.size := h8.lt
      refine wpAnyH_ready (rs := [4]) (by kernel_rfl) (by simp) ?_
      refine AllReadyH.cons rfl (fun K hK => ?_) AllReadyH.nil
      go_simp
      generalize hV : World.alloc y1 _ = y2
      have h7 : Blk y2 y1.heap.size 29 #[.int .u64 0, .int .i64 0, .int .i64 0, .string ⟨#[]⟩, .int .u64 0, .int .u64 0, .int .i64 0, .string ⟨#[]⟩, .int .u64 0, .int .u64 0, .int .i64 0, .string ⟨#[]⟩, .int .u64 0, .int .u64 0, .int .u64 0, .int .u64 0, .int .u64 0, .int .u64 0, .int .u64 0, .slice none 0 0] := by rw [← hV]; exact Blk.new _ _ _
      have hXX : Ext y1 y2 := by rw [← hV]; exact (Mod.refl [] _).alloc _
      have h7_n : V.heap.size ≤ y1.heap.size := hHeld.size
      clear hV
      have h8 := h8.ext hXX
      refine hK.out _ _ (hHeld.trans hXX) (fun hHeld => ?_)
      clear hK K
      (try simp only [Act.put, List.getElem_toArray, List.getElem_cons_zero, List.getElem_cons_succ, List.setIfInBounds_toArray, List.set_cons_zero, List.set_cons_succ])
      refine wpAnyH_ready (rs := [6]) (by kernel_rfl) (by simp) ?_
      refine AllReadyH.cons rfl (fun K hK => ?_) AllReadyH.nil
      refine wp_store_mid 29 _ _ rfl y1.heap.size 0 (bunC p A k c) (by rfl) (by rfl) (h7.there (Nat.le_refl 20)) (by kernel_rfl) (by simp [Value.oneCell']) ?_
      have hZB := setCells_all (ds := (bunC p A k c)) h7 rfl
      have hZM := setCells_mod (b := y1.heap.size) ((bunC p A k c) : Array Value).toList 0 hHeld (.inr h7_n)
      have hZO := setCells_mod (w := y2) (W := y2) (S := [y1.heap.size]) (b := y1.heap.size) ((bunC p A k c) : Array Value).toList 0 (Mod.refl _ _) (.inl (by simp))
      generalize hZ : World.setCells _ y1.heap.size 0 _ = y3 at *
      clear hZ
      have h8 := h8.mod hZO (by simpa using Nat.ne_of_lt hlt)
      have h7 := hZB
      refine hK.out _ _ hZM (fun hHeld => ?_)
      clear hK K hZB hZM hZO
      (try simp only [Act.put, List.getElem_toArray, List.getElem_cons_zero, List.getElem_cons_succ, List.setIfInBounds_toArray, List.set_cons_zero, List.set_cons_succ])
      refine wpAnyH_ready (rs := [7]) (by kernel_rfl) (by simp) ?_
      refine AllReadyH.cons rfl (fun K hK => ?_) AllReadyH.nil
      refine wp_store_mid 29 _ _ rfl u0.heap.size 0 (bunC q B m d) (by rfl) (by rfl) (h8.there (Nat.le_refl 20)) (by kernel_rfl) (by simp [Value.oneCell']) ?_
      have hZB := setCells_all (ds := (bunC q B m d)) h8 rfl
      have hZM := setCells_mod (b := u0.heap.size) ((bunC q B m d) : Array Value).toList 0 hHeld (.inr h8_n)
      have hZO := setCells_mod (w := y3) (W := y3) (S := [u0.heap.size]) (b := u0.heap.size) ((bunC q B m d) : Array Value).toList 0 (Mod.refl _ _) (.inl (by simp))
      generalize hZ : World.setCells _ u0.heap.size 0 _ = y4 at *
      clear hZ
      have h7 := h7.mod hZO (by simpa using Nat.ne_of_gt hlt)
      have h8 := hZB
      refine hK.out _ _ hZM (fun hHeld => ?_)
      clear hK K hZB hZM hZO
      (try simp only [Act.put, List.getElem_toArray, List.getElem_cons_zero, List.getElem_cons_succ, List.setIfInBounds_toArray, List.set_cons_zero, List.set_cons_succ])
      refine wpAnyH_done (by kernel_rfl) ?_ _
      go_wp2_with fail
      go_meet
      exact ⟨_, _, rfl, rfl, hHeld, h7, h8⟩
  obtain ⟨N, M, rfl, rfl, hG⟩ := hcut
  have BN := hid hG.out.2.1
  have BM := hid hG.out.2.2
  have B1 := hid (HB1.out.ext hG.out.1)
  have B2 := hid (HB2.out.ext hG.out.1)
  have L1 := hid (HL1.out.ext hG.out.1)
  have L2 := hid (HL2.out.ext hG.out.1)
  have HE := hid (HE.out.trans hG.out.1)
  clear hG HB0 HB1 HB2 HL1 HL2 e
  have t0 : ∀ e : Later wc, e.x.cell? ⟨w.heap.size + 1 + 1, 0, none⟩ = some (.int .i64 target) := B2.out.cellL 0 rfl
  have t1 : ∀ e : Later wc, e.x.cell? ⟨w.heap.size + 1 + 1, 1, none⟩ = some (.int .i64 sc) := B2.out.cellL 1 rfl
  have d4 : ∀ e : Later wc, e.x.cell? ⟨w.heap.size + 1, 4, none⟩ = some (str s.data) := B1.out.cellL 4 rfl
  have d9 : ∀ e : Later wc, e.x.cell? ⟨w.heap.size + 1, 9, none⟩ = some (str t.data) := B1.out.cellL 9 rfl
  have HS1 : Hid (∀ e : Later wc, e.x.rangeAt (w.heap.size + 1) 0 s.c.toList) := B1.out.range 0 5 (by rw [Array.toList_extract]; rfl)
  have HS2 : Hid (∀ e : Later wc, e.x.rangeAt (w.heap.size + 1) 5 t.c.toList) := B1.out.range 5 5 (by rw [Array.toList_extract]; rfl)
  obtain ⟨e, he⟩ := Later.self wc
  rw [he]
  clear he
  go_upto_region 2 with fail
  have RETT : Hid (∀ e : Later wc, Ext w e.x) := hid (fun e => HE.out.trans e.h)
  cases hF1 : bunFew p bs k with
  | false =>
    rw [hF1] at KF1
    clear hF1
    have tk1 : True := trivial
    go_wp2_with (first | (clear tk1; refine wpList_row (by rfl) 29 _ rfl _ rfl (BN.out.later _) Try.underlying29 rfl (by kernel_rfl) ?_) | (go_at_call 8; refine (Ret.later (KA.out _)).mono ?_; rintro x _ ⟨rfl, e, rfl⟩) | (go_at_call 9; (with_reducible refine (Ret.later (KF1.out _ (L1.out.ext (Later.h _)))).mono ?_); rintro x _ ⟨rfl, e, rfl⟩))
    go_ret
    exact Ret.mk rfl (RETT.out _)
  | true =>
  cases hF2 : bunFew q ds m with
  | false =>
    rw [hF1] at KF1
    rw [hF2] at KF2
    clear hF1 hF2
    have tk1 : True := trivial
    have tk2 : True := trivial
    go_wp2_with (first | (clear tk1; refine wpList_row (by rfl) 29 _ rfl _ rfl (BN.out.later _) Try.underlying29 rfl (by kernel_rfl) ?_) | (clear tk2; refine wpList_row (by rfl) 29 _ rfl _ rfl (BM.out.later _) Try.underlying29 rfl (by kernel_rfl) ?_) | (go_at_call 8; refine (Ret.later (KA.out _)).mono ?_; rintro x _ ⟨rfl, e, rfl⟩) | (go_at_call 9; (with_reducible refine (Ret.later (KF1.out _ (L1.out.ext (Later.h _)))).mono ?_); rintro x _ ⟨rfl, e, rfl⟩) | (go_at_call 9; (with_reducible refine (Ret.later (KF2.out _ (L2.out.ext (Later.h _)))).mono ?_); rintro x _ ⟨rfl, e, rfl⟩))
    go_ret
    exact Ret.mk rfl (RETT.out _)
  | true =>
  obtain ⟨k20, pf, hd1⟩ := bunFew_spec hF1
  obtain ⟨m20, qf, hd2⟩ := bunFew_spec hF2
  rw [hF1] at KF1
  rw [hF2] at KF2
  clear hF1 hF2
  have HPN := hid (few_names pf)
  have HQN := hid (few_names qf)
  have HD1 : Hid (∀ i, i < k → (bs i).data.length ≤ 100000) := hid (fun i hi => by have := hd1 i hi; omega)
  have HD2 : Hid (∀ i, i < m → (ds i).data.length ≤ 100000) := hid (fun i hi => by have := hd2 i hi; omega)
  clear pf qf hd1 hd2 k20 m20
  by_cases hs : 4100 < s.data.length
  case pos =>
    have laxa : decide (4100 < s.data.length) = true := decide_eq_true (by omega)
    have laxb : (4100 < s.data.length) = True := eq_true (by omega)
    have laya : decide ((4100 : Int) < (s.data.length : Int)) = true := decide_eq_true (by omega)
    have layb : ((4100 : Int) < (s.data.length : Int)) = True := eq_true (by omega)
    clear hs
    have tk1 : True := trivial
    have tk2 : True := trivial
    go_wp2_with (first | (clear tk1; refine wpList_row (by rfl) 29 _ rfl _ rfl (BN.out.later _) Try.underlying29 rfl (by kernel_rfl) ?_) | (clear tk2; refine wpList_row (by rfl) 29 _ rfl _ rfl (BM.out.later _) Try.underlying29 rfl (by kernel_rfl) ?_) | (go_at_call 8; refine (Ret.later (KA.out _)).mono ?_; rintro x _ ⟨rfl, e, rfl⟩) | (go_at_call 9; (with_reducible refine (Ret.later (KF1.out _ (L1.out.ext (Later.h _)))).mono ?_); rintro x _ ⟨rfl, e, rfl⟩) | (go_at_call 9; (with_reducible refine (Ret.later (KF2.out _ (L2.out.ext (Later.h _)))).mono ?_); rintro x _ ⟨rfl, e, rfl⟩))
    go_ret
    exact Ret.mk rfl (RETT.out _)
  have laxa : decide (4100 < s.data.length) = false := decide_eq_false (by omega)
  have laxb : (4100 < s.data.length) = False := eq_false (by omega)
  have laya : decide ((4100 : Int) < (s.data.length : Int)) = false := decide_eq_false (by omega)
  have layb : ((4100 : Int) < (s.data.length : Int)) = False := eq_false (by omega)
  by_cases ht : 4100 < t.data.length
  case pos =>
    have lbxa : decide (4100 < t.data.length) = true := decide_eq_true (by omega)
    have lbxb : (4100 < t.data.length) = True := eq_true (by omega)
    have lbya : decide ((4100 : Int) < (t.data.length : Int)) = true := decide_eq_true (by omega)
    have lbyb : ((4100 : Int) < (t.data.length : Int)) = True := eq_true (by omega)
    clear hs ht
    have tk1 : True := trivial
    have tk2 : True := trivial
    go_wp2_with (first | (clear tk1; refine wpList_row (by rfl) 29 _ rfl _ rfl (BN.out.later _) Try.underlying29 rfl (by kernel_rfl) ?_) | (clear tk2; refine wpList_row (by rfl) 29 _ rfl _ rfl (BM.out.later _) Try.underlying29 rfl (by kernel_rfl) ?_) | (go_at_call 8; refine (Ret.later (KA.out _)).mono ?_; rintro x _ ⟨rfl, e, rfl⟩) | (go_at_call 9; (with_reducible refine (Ret.later (KF1.out _ (L1.out.ext (Later.h _)))).mono ?_); rintro x _ ⟨rfl, e, rfl⟩) | (go_at_call 9; (with_reducible refine (Ret.later (KF2.out _ (L2.out.ext (Later.h _)))).mono ?_); rintro x _ ⟨rfl, e, rfl⟩))
    go_ret
    exact Ret.mk rfl (RETT.out _)
  have lbxa : decide (4100 < t.data.length) = false := decide_eq_false (by omega)
  have lbxb : (4100 < t.data.length) = False := eq_false (by omega)
  have lbya : decide ((4100 : Int) < (t.data.length : Int)) = false := decide_eq_false (by omega)
  have lbyb : ((4100 : Int) < (t.data.length : Int)) = False := eq_false (by omega)
  clear hs ht
  have tk1 : True := trivial
  have tk2 : True := trivial
  go_upto_region 4 with (first | (clear tk1; refine wpList_row (by rfl) 29 _ rfl _ rfl (BN.out.later _) Try.underlying29 rfl (by kernel_rfl) ?_) | (clear tk2; refine wpList_row (by rfl) 29 _ rfl _ rfl (BM.out.later _) Try.underlying29 rfl (by kernel_rfl) ?_) | (go_at_call 8; refine (Ret.later (KA.out _)).mono ?_; rintro x _ ⟨rfl, e, rfl⟩) | (go_at_call 9; (with_reducible refine (Ret.later (KF1.out _ (L1.out.ext (Later.h _)))).mono ?_); rintro x _ ⟨rfl, e, rfl⟩) | (go_at_call 9; (with_reducible refine (Ret.later (KF2.out _ (L2.out.ext (Later.h _)))).mono ?_); rintro x _ ⟨rfl, e, rfl⟩))
  have K1 : Hid (∀ W, BsL W A k bs → Calls Try.prog 10 #[bunV p A k c, .int .i64 target, s.v, .int .i64 sc] W (Ret (.tuple #[str (sText p s bs k target sc).1, .int .i64 (sText p s bs k target sc).2]) W)) := fun W hW => cText_any p s bs k c A target sc HP.out.1 HK.out HD1.out HPN W hW
  have K2 : Hid (∀ W, BsL W B m ds → Calls Try.prog 10 #[bunV q B m d, .int .i64 target, t.v, .int .i64 sc] W (Ret (.tuple #[str (sText q t ds m target sc).1, .int .i64 (sText q t ds m target sc).2]) W)) := fun W hW => cText_any q t ds m d B target sc HQ.out.1 HMM.out HD2.out HQN W hW
  have K3 : Hid (∀ W, BsL W A k bs → Calls Try.prog 11 #[bunV p A k c, .int .i64 target, s.v, .int .i64 sc] W (Ret (.tuple #[str (sText p s bs k target sc).1, .int .i64 (sText p s bs k target sc).2]) W)) := fun W hW => rSText_any p s bs k c A target sc HP.out.1 HK.out HD1.out W hW
  have K4 : Hid (∀ W, BsL W B m ds → Calls Try.prog 11 #[bunV q B m d, .int .i64 target, t.v, .int .i64 sc] W (Ret (.tuple #[str (sText q t ds m target sc).1, .int .i64 (sText q t ds m target sc).2]) W)) := fun W hW => rSText_any q t ds m d B target sc HQ.out.1 HMM.out HD2.out W hW
  have K5 : Hid (∀ W, BsL W A k bs → Calls Try.prog 15 #[bunV p A k c, .int .i64 target, s.v, .int .i64 sc] W (Ret (.tuple #[str (sBes p s bs k target sc).1, .int .i64 (sBes p s bs k target sc).2]) W)) := fun W hW => cBes_any p s bs k c A target sc HP.out.1 HK.out HD1.out HPN W hW
  have K6 : Hid (∀ W, BsL W B m ds → Calls Try.prog 15 #[bunV q B m d, .int .i64 target, t.v, .int .i64 sc] W (Ret (.tuple #[str (sBes q t ds m target sc).1, .int .i64 (sBes q t ds m target sc).2]) W)) := fun W hW => cBes_any q t ds m d B target sc HQ.out.1 HMM.out HD2.out HQN W hW
  have hr1 := hid (r16Of_ok (p := p) (sec := s) (bs := bs) (k := k) (target := target) (s := sc))
  have hr2 := hid (r16Of_ok (p := q) (sec := t) (bs := ds) (k := m) (target := target) (s := sc))
  unfold sText at K1 K2 K3 K4
  unfold sBes at K5 K6
  dsimp only at K1 K2 K3 K4 K5 K6
  obtain ⟨T1, hT1⟩ : ∃ T, r16Of p s bs k target sc = T := ⟨_, rfl⟩
  obtain ⟨T2, hT2⟩ : ∃ T, r16Of q t ds m target sc = T := ⟨_, rfl⟩
  rw [hT1] at K1 K3 K5 hr1
  rw [hT2] at K2 K4 K6 hr2
  clear hT1 hT2
  obtain ⟨S1, O1, E1⟩ := T1
  obtain ⟨S2, O2, E2⟩ := T2
  dsimp only at K1 K2 K3 K4 K5 K6 hr1 hr2
  have tq1 : True := trivial
  have tq2 : True := trivial
  go_upto_region 5 with (first | (clear tq1; refine wpList_row (by rfl) 29 _ rfl _ rfl (BN.out.later _) Try.underlying29 rfl (by kernel_rfl) ?_) | (clear tq2; refine wpList_mid (by rfl) 32 _ rfl (w.heap.size + 1) 0 rfl s.c.toList _ (HS1.out _) Try.underlying32 rfl (by kernel_rfl) ?_) | (go_at_call 10; (with_reducible refine (Ret.later (K1.out _ (L1.out.ext (Later.h _)))).mono ?_); rintro x _ ⟨rfl, e, rfl⟩))
  have tq3 : True := trivial
  have tq4 : True := trivial
  go_upto_region 6 with (first | (clear tq3; refine wpList_row (by rfl) 29 _ rfl _ rfl (BM.out.later _) Try.underlying29 rfl (by kernel_rfl) ?_) | (clear tq4; refine wpList_mid (by rfl) 32 _ rfl (w.heap.size + 1) 5 rfl t.c.toList _ (HS2.out _) Try.underlying32 rfl (by kernel_rfl) ?_) | (go_at_call 10; (with_reducible refine (Ret.later (K2.out _ (L2.out.ext (Later.h _)))).mono ?_); rintro x _ ⟨rfl, e, rfl⟩))
  by_cases hE : E1 = 0 ∧ E2 = 0
  case neg =>
    clear hr1 hr2
    by_cases e1 : E1 = 0
    · have e2 : E2 ≠ 0 := fun h => hE ⟨e1, h⟩
      have eaa : ((E1) == (0)) = true := by rw [beq_iff_eq]; omega
      have eab : ((E1) = (0)) = True := eq_true (by omega)
      have eac : ((E1) != (0)) = false := by rw [bne_eq_false_iff_eq]; omega
      have eba : ((E2) == (0)) = false := by rw [beq_eq_false_iff_ne]; exact e2
      have ebb : ((E2) = (0)) = False := eq_false (by exact e2)
      have ebc : ((E2) != (0)) = true := by rw [bne_iff_ne]; exact e2
      clear hE e1 e2
      have tq5 : True := trivial
      have tq6 : True := trivial
      go_upto_region 8 with (first | (clear tq5; refine wpList_row (by rfl) 29 _ rfl _ rfl (BN.out.later _) Try.underlying29 rfl (by kernel_rfl) ?_) | (clear tq6; refine wpList_mid (by rfl) 32 _ rfl (w.heap.size + 1) 0 rfl s.c.toList _ (HS1.out _) Try.underlying32 rfl (by kernel_rfl) ?_) | (go_at_call 11; (with_reducible refine (Ret.later (K3.out _ (L1.out.ext (Later.h _)))).mono ?_); rintro x _ ⟨rfl, e, rfl⟩))
      have tq7 : True := trivial
      have tq8 : True := trivial
      go_upto_region 9 with (first | (clear tq7; refine wpList_row (by rfl) 29 _ rfl _ rfl (BM.out.later _) Try.underlying29 rfl (by kernel_rfl) ?_) | (clear tq8; refine wpList_mid (by rfl) 32 _ rfl (w.heap.size + 1) 5 rfl t.c.toList _ (HS2.out _) Try.underlying32 rfl (by kernel_rfl) ?_) | (go_at_call 11; (with_reducible refine (Ret.later (K4.out _ (L2.out.ext (Later.h _)))).mono ?_); rintro x _ ⟨rfl, e, rfl⟩))
      go_wp2_with fail
      go_ret
      exact Ret.mk rfl (RETT.out _)
    · have eaa : ((E1) == (0)) = false := by rw [beq_eq_false_iff_ne]; exact e1
      have eab : ((E1) = (0)) = False := eq_false (by exact e1)
      have eac : ((E1) != (0)) = true := by rw [bne_iff_ne]; exact e1
      clear hE e1
      have tq9 : True := trivial
      have tq10 : True := trivial
      go_upto_region 8 with (first | (clear tq9; refine wpList_row (by rfl) 29 _ rfl _ rfl (BN.out.later _) Try.underlying29 rfl (by kernel_rfl) ?_) | (clear tq10; refine wpList_mid (by rfl) 32 _ rfl (w.heap.size + 1) 0 rfl s.c.toList _ (HS1.out _) Try.underlying32 rfl (by kernel_rfl) ?_) | (go_at_call 11; (with_reducible refine (Ret.later (K3.out _ (L1.out.ext (Later.h _)))).mono ?_); rintro x _ ⟨rfl, e, rfl⟩))
      have tq11 : True := trivial
      have tq12 : True := trivial
      go_upto_region 9 with (first | (clear tq11; refine wpList_row (by rfl) 29 _ rfl _ rfl (BM.out.later _) Try.underlying29 rfl (by kernel_rfl) ?_) | (clear tq12; refine wpList_mid (by rfl) 32 _ rfl (w.heap.size + 1) 5 rfl t.c.toList _ (HS2.out _) Try.underlying32 rfl (by kernel_rfl) ?_) | (go_at_call 11; (with_reducible refine (Ret.later (K4.out _ (L2.out.ext (Later.h _)))).mono ?_); rintro x _ ⟨rfl, e, rfl⟩))
      go_wp2_with fail
      go_ret
      exact Ret.mk rfl (RETT.out _)
  obtain ⟨rfl, rfl⟩ := hE
  obtain ⟨hsc, hp0, hs0, h1⟩ := hr1.out rfl
  obtain ⟨_, hq0, ht0, h2⟩ := hr2.out rfl
  clear K3 K4 KA KF1 KF2 hr1 hr2
  obtain ⟨n, rfl⟩ : ∃ n : Nat, sc = (n : Int) := ⟨sc.toNat, by omega⟩
  have hn8 : n < 8 := by omega
  rw [Int.toNat_natCast] at h1 h2
  have n0 : (0 : Int) ≤ (n : Int) := by omega
  have n7 : (n : Int) ≤ 7 := by omega
  have naa : decide ((n : Int) < 0) = false := decide_eq_false (by omega)
  have nab : ((n : Int) < 0) = False := eq_false (by omega)
  have nba : decide ((7 : Int) < (n : Int)) = false := decide_eq_false (by omega)
  have nbb : ((7 : Int) < (n : Int)) = False := eq_false (by omega)
  by_cases htg : target = 0
  case pos =>
    subst htg
    have e1 : S1 = besB p.plain.bytes [] s.hdr 0 n ∧ O1 = p.plain.bytes := by
      rcases h1 with ⟨_, h⟩ | ⟨h, _⟩
      · simp only [Prod.mk.injEq, and_true] at h; exact h
      · exact absurd rfl h
    have e2 : S2 = besB q.plain.bytes [] t.hdr 0 n ∧ O2 = q.plain.bytes := by
      rcases h2 with ⟨_, h⟩ | ⟨h, _⟩
      · simp only [Prod.mk.injEq, and_true] at h; exact h
      · exact absurd rfl h
    have hcv := apart_0 hn8 hp0 hq0 hs0 ht0 zeroB zeroB
    rw [← e1.1, ← e2.1, ← e1.2, ← e2.2] at hcv
    have KC := hid (fun W (x1 : BsL W A k bs) (x2 : BsL W B m ds) => covered_any p q bs ds k m c d A B s t zeroB zeroB 0 n hn8 HP.out HQ.out HPN.out HQN.out HK.out HMM.out (fun h => absurd rfl h) (fun h => absurd rfl h) W x1 x2)
    have KD1 := hid (fun W => data16_0 p A k c W)
    have KD2 := hid (fun W => data16_0 q B m d W)
    rw [if_pos ⟨by omega, rfl⟩] at K5 K6
    generalize covB p q zeroB zeroB s t 0 n = sm at *
    generalize S1 ++ O1 = X1 at *
    generalize S2 ++ O2 = X2 at *
    clear e1 e2 h1 h2 hn8 hsc hp0 hq0 hs0 ht0 HD1 HD2 HPN HQN HP HQ HK HMM d4 d9
    go_upto_region 12 with fail
    cases sm with
    | true =>
      have hx : X1 = X2 := hcv.2 rfl
      have xaa : ((X1) == (X2)) = true := by rw [beq_iff_eq]; exact hx
      have xab : ((X1) = (X2)) = True := eq_true (by exact hx)
      have xac : ((X1) != (X2)) = false := by rw [bne_eq_false_iff_eq]; exact hx
      clear hx hcv
      have tq13 : True := trivial
      have tq14 : True := trivial
      have tq15 : True := trivial
      have tq16 : True := trivial
      go_upto_region 13 with (first | (clear tq13; refine wpList_row (by rfl) 29 _ rfl _ rfl (BN.out.later _) Try.underlying29 rfl (by kernel_rfl) ?_) | (clear tq14; refine wpList_row (by rfl) 29 _ rfl _ rfl (BM.out.later _) Try.underlying29 rfl (by kernel_rfl) ?_) | (clear tq15; refine wpList_row (by rfl) 33 _ rfl _ rfl (B1.out.later _) Try.underlying33 rfl (by kernel_rfl) ?_) | (clear tq16; refine wpList_row (by rfl) 35 _ rfl _ rfl (B2.out.later _) Try.underlying35 rfl (by kernel_rfl) ?_) | (go_at_call 13; refine (Ret.later (KC.out _ (L1.out.ext (Later.h _)) (L2.out.ext (Later.h _)))).mono ?_; rintro x _ ⟨rfl, e, rfl⟩))
      have tk5 : True := trivial
      have tk6 : True := trivial
      refine wp_region_later (by kernel_rfl) (by kernel_rfl) ?_
      repeat (first | (clear tk5; refine later_row (by rfl) 29 _ rfl _ rfl (BN.out.later) Try.underlying29 rfl (by kernel_rfl) ?_; simp only [Act.put, List.setIfInBounds_toArray, List.set_cons_zero, List.set_cons_succ]) | (clear tk6; refine later_row (by rfl) 29 _ rfl _ rfl (BM.out.later) Try.underlying29 rfl (by kernel_rfl) ?_; simp only [Act.put, List.setIfInBounds_toArray, List.set_cons_zero, List.set_cons_succ]) | go_big_quiet_step ((first | (go_at_call 14; (first | (with_reducible exact Ret.later (KD1.out _)) | (with_reducible exact Ret.later (KD2.out _)))))))
      refine wpQuiet_nil ?_
      rintro _ ⟨e, rfl⟩
      have tq17 : True := trivial
      have tq18 : True := trivial
      go_upto_region 16 with (first | (clear tq17; refine wpList_row (by rfl) 29 _ rfl _ rfl (BN.out.later _) Try.underlying29 rfl (by kernel_rfl) ?_) | (clear tq18; refine wpList_mid (by rfl) 32 _ rfl (w.heap.size + 1) 0 rfl s.c.toList _ (HS1.out _) Try.underlying32 rfl (by kernel_rfl) ?_) | (go_at_call 15; (with_reducible refine (Ret.later (K5.out _ (L1.out.ext (Later.h _)))).mono ?_); rintro x _ ⟨rfl, e, rfl⟩))
      have tq19 : True := trivial
      have tq20 : True := trivial
      go_upto_region 17 with (first | (clear tq19; refine wpList_row (by rfl) 29 _ rfl _ rfl (BM.out.later _) Try.underlying29 rfl (by kernel_rfl) ?_) | (clear tq20; refine wpList_mid (by rfl) 32 _ rfl (w.heap.size + 1) 5 rfl t.c.toList _ (HS2.out _) Try.underlying32 rfl (by kernel_rfl) ?_) | (go_at_call 15; (with_reducible refine (Ret.later (K6.out _ (L2.out.ext (Later.h _)))).mono ?_); rintro x _ ⟨rfl, e, rfl⟩))
      go_wp2_with fail
      go_ret
      exact Ret.mk rfl (RETT.out _)
    | false =>
      have hx : ¬ X1 = X2 := fun h => absurd (hcv.1 h) (by decide)
      have xaa : ((X1) == (X2)) = false := by rw [beq_eq_false_iff_ne]; exact hx
      have xab : ((X1) = (X2)) = False := eq_false (by exact hx)
      have xac : ((X1) != (X2)) = true := by rw [bne_iff_ne]; exact hx
      clear hx hcv
      have tq21 : True := trivial
      have tq22 : True := trivial
      have tq23 : True := trivial
      have tq24 : True := trivial
      go_upto_region 13 with (first | (clear tq21; refine wpList_row (by rfl) 29 _ rfl _ rfl (BN.out.later _) Try.underlying29 rfl (by kernel_rfl) ?_) | (clear tq22; refine wpList_row (by rfl) 29 _ rfl _ rfl (BM.out.later _) Try.underlying29 rfl (by kernel_rfl) ?_) | (clear tq23; refine wpList_row (by rfl) 33 _ rfl _ rfl (B1.out.later _) Try.underlying33 rfl (by kernel_rfl) ?_) | (clear tq24; refine wpList_row (by rfl) 35 _ rfl _ rfl (B2.out.later _) Try.underlying35 rfl (by kernel_rfl) ?_) | (go_at_call 13; refine (Ret.later (KC.out _ (L1.out.ext (Later.h _)) (L2.out.ext (Later.h _)))).mono ?_; rintro x _ ⟨rfl, e, rfl⟩))
      refine wp_region_later (by kernel_rfl) (by kernel_rfl) ?_
      repeat (first | go_big_quiet_step (fail))
      refine wpQuiet_nil ?_
      rintro _ ⟨e, rfl⟩
      have tq25 : True := trivial
      have tq26 : True := trivial
      go_upto_region 16 with (first | (clear tq25; refine wpList_row (by rfl) 29 _ rfl _ rfl (BN.out.later _) Try.underlying29 rfl (by kernel_rfl) ?_) | (clear tq26; refine wpList_mid (by rfl) 32 _ rfl (w.heap.size + 1) 0 rfl s.c.toList _ (HS1.out _) Try.underlying32 rfl (by kernel_rfl) ?_) | (go_at_call 15; (with_reducible refine (Ret.later (K5.out _ (L1.out.ext (Later.h _)))).mono ?_); rintro x _ ⟨rfl, e, rfl⟩))
      have tq27 : True := trivial
      have tq28 : True := trivial
      go_upto_region 17 with (first | (clear tq27; refine wpList_row (by rfl) 29 _ rfl _ rfl (BM.out.later _) Try.underlying29 rfl (by kernel_rfl) ?_) | (clear tq28; refine wpList_mid (by rfl) 32 _ rfl (w.heap.size + 1) 5 rfl t.c.toList _ (HS2.out _) Try.underlying32 rfl (by kernel_rfl) ?_) | (go_at_call 15; (with_reducible refine (Ret.later (K6.out _ (L2.out.ext (Later.h _)))).mono ?_); rintro x _ ⟨rfl, e, rfl⟩))
      go_wp2_with fail
      go_ret
      exact Ret.mk rfl (RETT.out _)
  have e1 : ∃ i, firstOf (numB bs target) k = some i ∧ (bs i).right = 0 ∧ S1 = besB p.plain.bytes (bs i).hdr s.hdr target n ∧ O1 = headL 2 (bs i).data.length ++ (bs i).data := by
    rcases h1 with ⟨h, _⟩ | ⟨_, i, hi, hr, h⟩
    · exact absurd h htg
    · simp only [Prod.mk.injEq, and_true] at h; exact ⟨i, hi, hr, h.1, h.2⟩
  have e2 : ∃ i, firstOf (numB ds target) m = some i ∧ (ds i).right = 0 ∧ S2 = besB q.plain.bytes (ds i).hdr t.hdr target n ∧ O2 = headL 2 (ds i).data.length ++ (ds i).data := by
    rcases h2 with ⟨h, _⟩ | ⟨_, i, hi, hr, h⟩
    · exact absurd h htg
    · simp only [Prod.mk.injEq, and_true] at h; exact ⟨i, hi, hr, h.1, h.2⟩
  obtain ⟨i, hi, hir, hS1, hO1⟩ := e1
  obtain ⟨j, hj, hjr, hS2, hO2⟩ := e2
  have hcv := beside_t htg hn8 hp0 hq0 hs0 ht0 hir hjr O1 O2
  have hcb := beside_t htg hn8 hp0 hq0 hs0 ht0 hir hjr [] []
  rw [List.append_nil, List.append_nil] at hcb
  rw [← hS1, ← hS2] at hcv hcb
  have hO : O1 = O2 ↔ (bs i).data = (ds j).data := by
    rw [hO1, hO2]
    exact head2_inj (by have := HD1.out i (firstOf_spec hi).1; omega) (by have := HD2.out j (firstOf_spec hj).1; omega)
  rw [hO] at hcv
  have KC := hid (fun W (x1 : BsL W A k bs) (x2 : BsL W B m ds) => covered_any p q bs ds k m c d A B s t (bs i) (ds j) target n hn8 HP.out HQ.out HPN.out HQN.out HK.out HMM.out (fun _ => ⟨i, hi, rfl⟩) (fun _ => ⟨j, hj, rfl⟩) W x1 x2)
  have KD1 := hid (fun W (hW : BsL W A k bs) => data16_t p bs k c A target htg i hi HK.out W hW)
  have KD2 := hid (fun W (hW : BsL W B m ds) => data16_t q ds m d B target htg j hj HMM.out W hW)
  have KT1 := hid (fun W (hW : BsL W A k bs) => At13_any p bs k c A target HK.out W hW)
  have KT2 := hid (fun W (hW : BsL W B m ds) => At13_any q ds m d B target HMM.out W hW)
  unfold firstI at KT1 KT2
  rw [hi] at KT1
  rw [hj] at KT2
  rw [if_neg (fun h => htg h.2)] at K5 K6
  dsimp only at K5 K6
  have tga : ((target) == (0)) = false := by rw [beq_eq_false_iff_ne]; exact htg
  have tgb : ((target) = (0)) = False := eq_false (by exact htg)
  have tgc : ((target) != (0)) = true := by rw [bne_iff_ne]; exact htg
  generalize covB p q (bs i) (ds j) s t target n = sm at *
  generalize (bs i).data = D1 at *
  generalize (ds j).data = D2 at *
  generalize S1 ++ O1 = X1 at *
  generalize S2 ++ O2 = X2 at *
  clear hS1 hS2 hO1 hO2 hO hi hj hir hjr h1 h2 hn8 hsc hp0 hq0 hs0 ht0 HD1 HD2 HPN HQN HP HQ HK HMM d4 d9 htg
  have i0 : (0 : Int) ≤ (i : Int) := by omega
  have j0 : (0 : Int) ≤ (j : Int) := by omega
  have iaa : decide ((i : Int) < 0) = false := decide_eq_false (by omega)
  have iab : ((i : Int) < 0) = False := eq_false (by omega)
  have jaa : decide ((j : Int) < 0) = false := decide_eq_false (by omega)
  have jab : ((j : Int) < 0) = False := eq_false (by omega)
  have tk3 : True := trivial
  have tk4 : True := trivial
  go_upto_region 12 with (first | (clear tk3; refine wpList_row (by rfl) 29 _ rfl _ rfl (BN.out.later _) Try.underlying29 rfl (by kernel_rfl) ?_) | (clear tk4; refine wpList_row (by rfl) 29 _ rfl _ rfl (BM.out.later _) Try.underlying29 rfl (by kernel_rfl) ?_) | (go_at_call 12; (with_reducible refine (Ret.later (KT1.out _ (L1.out.ext (Later.h _)))).mono ?_); rintro x _ ⟨rfl, e, rfl⟩) | (go_at_call 12; (with_reducible refine (Ret.later (KT2.out _ (L2.out.ext (Later.h _)))).mono ?_); rintro x _ ⟨rfl, e, rfl⟩))
  clear KT1 KT2
  cases sm with
  | true =>
    have hs : S1 = S2 := hcb.2 (by simp)
    have saa : ((S1) == (S2)) = true := by rw [beq_iff_eq]; exact hs
    have sab : ((S1) = (S2)) = True := eq_true (by exact hs)
    have sac : ((S1) != (S2)) = false := by rw [bne_eq_false_iff_eq]; exact hs
    by_cases hD : D1 = D2
    · have hx : X1 = X2 := hcv.2 ⟨rfl, hD⟩
      have xaa : ((X1) == (X2)) = true := by rw [beq_iff_eq]; exact hx
      have xab : ((X1) = (X2)) = True := eq_true (by exact hx)
      have xac : ((X1) != (X2)) = false := by rw [bne_eq_false_iff_eq]; exact hx
      have daa : ((D1) == (D2)) = true := by rw [beq_iff_eq]; exact hD
      have dab : ((D1) = (D2)) = True := eq_true (by exact hD)
      have dac : ((D1) != (D2)) = false := by rw [bne_eq_false_iff_eq]; exact hD
      clear hx hcv hcb hs hD
      have tq29 : True := trivial
      have tq30 : True := trivial
      have tq31 : True := trivial
      have tq32 : True := trivial
      go_upto_region 13 with (first | (clear tq29; refine wpList_row (by rfl) 29 _ rfl _ rfl (BN.out.later _) Try.underlying29 rfl (by kernel_rfl) ?_) | (clear tq30; refine wpList_row (by rfl) 29 _ rfl _ rfl (BM.out.later _) Try.underlying29 rfl (by kernel_rfl) ?_) | (clear tq31; refine wpList_row (by rfl) 33 _ rfl _ rfl (B1.out.later _) Try.underlying33 rfl (by kernel_rfl) ?_) | (clear tq32; refine wpList_row (by rfl) 35 _ rfl _ rfl (B2.out.later _) Try.underlying35 rfl (by kernel_rfl) ?_) | (go_at_call 13; refine (Ret.later (KC.out _ (L1.out.ext (Later.h _)) (L2.out.ext (Later.h _)))).mono ?_; rintro x _ ⟨rfl, e, rfl⟩))
      have tk5 : True := trivial
      have tk6 : True := trivial
      refine wp_region_later (by kernel_rfl) (by kernel_rfl) ?_
      repeat (first | (clear tk5; refine later_row (by rfl) 29 _ rfl _ rfl (BN.out.later) Try.underlying29 rfl (by kernel_rfl) ?_; simp only [Act.put, List.setIfInBounds_toArray, List.set_cons_zero, List.set_cons_succ]) | (clear tk6; refine later_row (by rfl) 29 _ rfl _ rfl (BM.out.later) Try.underlying29 rfl (by kernel_rfl) ?_; simp only [Act.put, List.setIfInBounds_toArray, List.set_cons_zero, List.set_cons_succ]) | go_big_quiet_step ((first | (go_at_call 14; (with_reducible exact Ret.later (KD1.out _ (L1.out.ext (Later.h _))))) | (go_at_call 14; (with_reducible exact Ret.later (KD2.out _ (L2.out.ext (Later.h _))))))))
      refine wpQuiet_nil ?_
      rintro _ ⟨e, rfl⟩
      have tq33 : True := trivial
      have tq34 : True := trivial
      go_upto_region 16 with (first | (clear tq33; refine wpList_row (by rfl) 29 _ rfl _ rfl (BN.out.later _) Try.underlying29 rfl (by kernel_rfl) ?_) | (clear tq34; refine wpList_mid (by rfl) 32 _ rfl (w.heap.size + 1) 0 rfl s.c.toList _ (HS1.out _) Try.underlying32 rfl (by kernel_rfl) ?_) | (go_at_call 15; (with_reducible refine (Ret.later (K5.out _ (L1.out.ext (Later.h _)))).mono ?_); rintro x _ ⟨rfl, e, rfl⟩))
      have tq35 : True := trivial
      have tq36 : True := trivial
      go_upto_region 17 with (first | (clear tq35; refine wpList_row (by rfl) 29 _ rfl _ rfl (BM.out.later _) Try.underlying29 rfl (by kernel_rfl) ?_) | (clear tq36; refine wpList_mid (by rfl) 32 _ rfl (w.heap.size + 1) 5 rfl t.c.toList _ (HS2.out _) Try.underlying32 rfl (by kernel_rfl) ?_) | (go_at_call 15; (with_reducible refine (Ret.later (K6.out _ (L2.out.ext (Later.h _)))).mono ?_); rintro x _ ⟨rfl, e, rfl⟩))
      go_wp2_with fail
      go_ret
      exact Ret.mk rfl (RETT.out _)
    · have hx : ¬ X1 = X2 := fun h => hD (hcv.1 h).2
      have xaa : ((X1) == (X2)) = false := by rw [beq_eq_false_iff_ne]; exact hx
      have xab : ((X1) = (X2)) = False := eq_false (by exact hx)
      have xac : ((X1) != (X2)) = true := by rw [bne_iff_ne]; exact hx
      have daa : ((D1) == (D2)) = false := by rw [beq_eq_false_iff_ne]; exact hD
      have dab : ((D1) = (D2)) = False := eq_false (by exact hD)
      have dac : ((D1) != (D2)) = true := by rw [bne_iff_ne]; exact hD
      clear hx hcv hcb hs hD
      have tq37 : True := trivial
      have tq38 : True := trivial
      have tq39 : True := trivial
      have tq40 : True := trivial
      go_upto_region 13 with (first | (clear tq37; refine wpList_row (by rfl) 29 _ rfl _ rfl (BN.out.later _) Try.underlying29 rfl (by kernel_rfl) ?_) | (clear tq38; refine wpList_row (by rfl) 29 _ rfl _ rfl (BM.out.later _) Try.underlying29 rfl (by kernel_rfl) ?_) | (clear tq39; refine wpList_row (by rfl) 33 _ rfl _ rfl (B1.out.later _) Try.underlying33 rfl (by kernel_rfl) ?_) | (clear tq40; refine wpList_row (by rfl) 35 _ rfl _ rfl (B2.out.later _) Try.underlying35 rfl (by kernel_rfl) ?_) | (go_at_call 13; refine (Ret.later (KC.out _ (L1.out.ext (Later.h _)) (L2.out.ext (Later.h _)))).mono ?_; rintro x _ ⟨rfl, e, rfl⟩))
      have tk5 : True := trivial
      have tk6 : True := trivial
      refine wp_region_later (by kernel_rfl) (by kernel_rfl) ?_
      repeat (first | (clear tk5; refine later_row (by rfl) 29 _ rfl _ rfl (BN.out.later) Try.underlying29 rfl (by kernel_rfl) ?_; simp only [Act.put, List.setIfInBounds_toArray, List.set_cons_zero, List.set_cons_succ]) | (clear tk6; refine later_row (by rfl) 29 _ rfl _ rfl (BM.out.later) Try.underlying29 rfl (by kernel_rfl) ?_; simp only [Act.put, List.setIfInBounds_toArray, List.set_cons_zero, List.set_cons_succ]) | go_big_quiet_step ((first | (go_at_call 14; (with_reducible exact Ret.later (KD1.out _ (L1.out.ext (Later.h _))))) | (go_at_call 14; (with_reducible exact Ret.later (KD2.out _ (L2.out.ext (Later.h _))))))))
      refine wpQuiet_nil ?_
      rintro _ ⟨e, rfl⟩
      have tq41 : True := trivial
      have tq42 : True := trivial
      go_upto_region 16 with (first | (clear tq41; refine wpList_row (by rfl) 29 _ rfl _ rfl (BN.out.later _) Try.underlying29 rfl (by kernel_rfl) ?_) | (clear tq42; refine wpList_mid (by rfl) 32 _ rfl (w.heap.size + 1) 0 rfl s.c.toList _ (HS1.out _) Try.underlying32 rfl (by kernel_rfl) ?_) | (go_at_call 15; (with_reducible refine (Ret.later (K5.out _ (L1.out.ext (Later.h _)))).mono ?_); rintro x _ ⟨rfl, e, rfl⟩))
      have tq43 : True := trivial
      have tq44 : True := trivial
      go_upto_region 17 with (first | (clear tq43; refine wpList_row (by rfl) 29 _ rfl _ rfl (BM.out.later _) Try.underlying29 rfl (by kernel_rfl) ?_) | (clear tq44; refine wpList_mid (by rfl) 32 _ rfl (w.heap.size + 1) 5 rfl t.c.toList _ (HS2.out _) Try.underlying32 rfl (by kernel_rfl) ?_) | (go_at_call 15; (with_reducible refine (Ret.later (K6.out _ (L2.out.ext (Later.h _)))).mono ?_); rintro x _ ⟨rfl, e, rfl⟩))
      go_wp2_with fail
      go_ret
      exact Ret.mk rfl (RETT.out _)
  | false =>
    have hs : ¬ S1 = S2 := fun h => absurd (hcb.1 h).1 (by decide)
    have hx : ¬ X1 = X2 := fun h => absurd (hcv.1 h).1 (by decide)
    have saa : ((S1) == (S2)) = false := by rw [beq_eq_false_iff_ne]; exact hs
    have sab : ((S1) = (S2)) = False := eq_false (by exact hs)
    have sac : ((S1) != (S2)) = true := by rw [bne_iff_ne]; exact hs
    have xaa : ((X1) == (X2)) = false := by rw [beq_eq_false_iff_ne]; exact hx
    have xab : ((X1) = (X2)) = False := eq_false (by exact hx)
    have xac : ((X1) != (X2)) = true := by rw [bne_iff_ne]; exact hx
    clear hx hcv hcb hs
    have tq45 : True := trivial
    have tq46 : True := trivial
    have tq47 : True := trivial
    have tq48 : True := trivial
    go_upto_region 13 with (first | (clear tq45; refine wpList_row (by rfl) 29 _ rfl _ rfl (BN.out.later _) Try.underlying29 rfl (by kernel_rfl) ?_) | (clear tq46; refine wpList_row (by rfl) 29 _ rfl _ rfl (BM.out.later _) Try.underlying29 rfl (by kernel_rfl) ?_) | (clear tq47; refine wpList_row (by rfl) 33 _ rfl _ rfl (B1.out.later _) Try.underlying33 rfl (by kernel_rfl) ?_) | (clear tq48; refine wpList_row (by rfl) 35 _ rfl _ rfl (B2.out.later _) Try.underlying35 rfl (by kernel_rfl) ?_) | (go_at_call 13; refine (Ret.later (KC.out _ (L1.out.ext (Later.h _)) (L2.out.ext (Later.h _)))).mono ?_; rintro x _ ⟨rfl, e, rfl⟩))
    refine wp_region_later (by kernel_rfl) (by kernel_rfl) ?_
    repeat (first | go_big_quiet_step (fail))
    refine wpQuiet_nil ?_
    rintro _ ⟨e, rfl⟩
    have tq49 : True := trivial
    have tq50 : True := trivial
    go_upto_region 16 with (first | (clear tq49; refine wpList_row (by rfl) 29 _ rfl _ rfl (BN.out.later _) Try.underlying29 rfl (by kernel_rfl) ?_) | (clear tq50; refine wpList_mid (by rfl) 32 _ rfl (w.heap.size + 1) 0 rfl s.c.toList _ (HS1.out _) Try.underlying32 rfl (by kernel_rfl) ?_) | (go_at_call 15; (with_reducible refine (Ret.later (K5.out _ (L1.out.ext (Later.h _)))).mono ?_); rintro x _ ⟨rfl, e, rfl⟩))
    have tq51 : True := trivial
    have tq52 : True := trivial
    go_upto_region 17 with (first | (clear tq51; refine wpList_row (by rfl) 29 _ rfl _ rfl (BM.out.later _) Try.underlying29 rfl (by kernel_rfl) ?_) | (clear tq52; refine wpList_mid (by rfl) 32 _ rfl (w.heap.size + 1) 5 rfl t.c.toList _ (HS2.out _) Try.underlying32 rfl (by kernel_rfl) ?_) | (go_at_call 15; (with_reducible refine (Ret.later (K6.out _ (L2.out.ext (Later.h _)))).mono ?_); rintro x _ ⟨rfl, e, rfl⟩))
    go_wp2_with fail
    go_ret
    exact Ret.mk rfl (RETT.out _)
end Go.Proofs.Ytkeabdfgacicaaa


namespace Go.Proofs.Ytkeabdfgacicaaa
open Go.ChangeShapes Go.WideShapes Go.ChangeAt Go.RowKit Go.Deep
set_option linter.unusedVariables false
set_option linter.unusedSimpArgs false
section
variable {H : Type} {enc : TypeId × Value → H} {w : World} {base b0 : Nat} {spare : Nat → Bool} {held : Bool} {r : Reach}
theorem okWide_arr2 {P : Program} {t e : TypeId} {n : Nat} {v : Value} (ht : P.underlying t = some (.array n e)) (h : Value.okWide P w r base t v) : ∃ cs, v = .agg cs ∧ cs.size = P.cellsOf t := by
  simp only [Value.okWide, ht] at h
  obtain ⟨cs, h1, h2, _⟩ := h
  exact ⟨cs, h1, h2⟩
set_option maxRecDepth 100000 in
theorem trod_bunL {fuel : Nat} {L : List Value} {x : DataW H × List MemPlace} (h : DataW.trod enc Try.prog w base spare held fuel 29 L = some x) (hz : ∀ n ∈ x.1.weights Try.prog 29, n ≤ reachBytes) :
    ∃ (p : PV) (A : Option Addr) (k c : Nat) (bs : Nat → BV), L = (bunC p A k c).toList ∧ p.wf ∧ k < 4611686018427387904 ∧ BsL w A k bs := by
  obtain ⟨ys, n', hn', hy, hlen, hyl, hfl⟩ := DataW.trod_struct Try.underlying29 h
  have hd : x.1 = .agg (ys.map (·.1)) := by simpa using congrArg Prod.fst hy
  have hz' : ∀ n ∈ DataW.weightsEach Try.prog [26, 27] (ys.map (·.1)), n ≤ reachBytes := by
    intro n hn
    apply hz
    rw [hd]
    simp only [DataW.weights, Try.underlying29]
    exact hn
  clear h hz
  have k1 : Try.prog.cellsOf 26 = 19 := by kernel_rfl
  have k2 : Try.prog.cellsOf 27 = 1 := by kernel_rfl
  match L, hlen with
  | [c0, c1, c2, c3, c4, c5, c6, c7, c8, c9, c10, c11, c12, c13, c14, c15, c16, c17, c18, c19], _ =>
    obtain ⟨y0, y1, rfl⟩ : ∃ y0 y1, ys = [y0, y1] := by clear hd hz' hy hfl; match ys, hyl with | [a, b], _ => exact ⟨a, b, rfl⟩
    · have h0 : DataW.trod enc Try.prog w base spare held n' 26 [c0, c1, c2, c3, c4, c5, c6, c7, c8, c9, c10, c11, c12, c13, c14, c15, c16, c17, c18] = some y0 := fldB k1 (hfl 0 _ rfl)
      have h1 : DataW.trod enc Try.prog w base spare held n' 27 [c19] = some y1 := fldB k2 (hfl 1 _ rfl)
      clear hfl
      obtain ⟨p, hp, hw⟩ := trod_priC h0
      obtain ⟨A, k, c, bs, rfl, hk, hL, _⟩ := trod_blksS h1 (fun n hn => hz' n (DataW.weights_mem_each (j := 1) rfl rfl n hn))
      refine ⟨p, A, k, c, bs, ?_, hw, hk, hL⟩
      simp only [PV.c, List.cons.injEq, and_true] at hp
      obtain ⟨rfl, rfl, rfl, rfl, rfl, rfl, rfl, rfl, rfl, rfl, rfl, rfl, rfl, rfl, rfl, rfl, rfl, rfl, rfl⟩ := hp
      rfl
theorem two_parts {L : List Value} {n : Nat} (hn : L.length = 2 * n) : L = L.take n ++ (L.drop n).take n := by
  have : (L.drop n).take n = L.drop n := List.take_of_length_le (by simp; omega)
  rw [this, List.take_append_drop]
set_option maxRecDepth 100000 in
theorem open_bun2 {v : Value} {d : DataW H} {q : List MemPlace} (hval : Value.okWide Try.prog w r b0 30 v) (h : DataW.Trod enc Try.prog w base spare held 30 v d q) (hz : ∀ n ∈ d.weights Try.prog 30, n ≤ reachBytes) :
    ∃ (p : PV) (A : Option Addr) (k c : Nat) (bs : Nat → BV) (p2 : PV) (B : Option Addr) (m e : Nat) (ds : Nat → BV), v = .agg (bun2C p A k c p2 B m e) ∧ (p.wf ∧ k < 4611686018427387904 ∧ BsL w A k bs) ∧ (p2.wf ∧ m < 4611686018427387904 ∧ BsL w B m ds) := by
  obtain ⟨cs, rfl, hsz⟩ := okWide_arr2 Try.underlying30 hval
  have hC : Try.prog.cellsOf 30 = 40 := by kernel_rfl
  have hC1 : Try.prog.cellsOf 29 = 20 := by kernel_rfl
  obtain ⟨fuel, hf⟩ := h
  obtain ⟨xs, m, _, hx, hlen, hxl, hg⟩ := DataW.trod_array Try.underlying30 hf
  have g0 := hg 0 (by omega)
  have g1 := hg 1 (by omega)
  rw [hC1] at g0 g1
  match xs, hxl with
  | [y0, y1], _ =>
    have hd : d = .agg [y0.1, y1.1] := by simpa using congrArg Prod.fst hx
    have hz2 : (∀ n ∈ y0.1.weights Try.prog 29, n ≤ reachBytes) ∧ (∀ n ∈ y1.1.weights Try.prog 29, n ≤ reachBytes) := by
      rw [hd] at hz
      simp only [DataW.weights, Try.underlying30, DataW.weightsAll, List.append_nil, List.mem_append] at hz
      exact ⟨fun n hn => hz n (.inl hn), fun n hn => hz n (.inr hn)⟩
    obtain ⟨p, A, k, c, bs, e0, h0⟩ := trod_bunL (by simpa using g0) hz2.1
    obtain ⟨p2, B, m2, e2, ds, e1, h1⟩ := trod_bunL (by simpa using g1) hz2.2
    refine ⟨p, A, k, c, bs, p2, B, m2, e2, ds, ?_, h0, h1⟩
    have hcs : (Value.agg cs).cells.toList = cs.toList := rfl
    rw [hcs] at e0 e1 hlen
    have hL := two_parts (L := cs.toList) (n := 20) (by rw [hlen, hC])
    have : cs = (bun2C p A k c p2 B m2 e2) := by
      apply Array.toList_inj.1
      rw [hL]
      rw [e0, e1]
      rfl
    rw [this]
set_option maxRecDepth 100000 in
theorem open_blk2 {v : Value} {d : DataW H} {q : List MemPlace} (hval : Value.okWide Try.prog w r b0 33 v) (h : DataW.Trod enc Try.prog w base spare held 33 v d q) :
    ∃ s t : BV, v = .agg (secC s t) := by
  obtain ⟨cs, rfl, hsz⟩ := okWide_arr2 Try.underlying33 hval
  have hC : Try.prog.cellsOf 33 = 10 := by kernel_rfl
  have hC1 : Try.prog.cellsOf 32 = 5 := by kernel_rfl
  obtain ⟨fuel, hf⟩ := h
  obtain ⟨xs, m, _, hx, hlen, hxl, hg⟩ := DataW.trod_array Try.underlying33 hf
  have g0 := hg 0 (by omega)
  have g1 := hg 1 (by omega)
  rw [hC1] at g0 g1
  match xs, hxl with
  | [y0, y1], _ =>
    obtain ⟨s, e0, _⟩ := trod_blkC (x := y0) (by simpa using g0)
    obtain ⟨t, e1, _⟩ := trod_blkC (x := y1) (by simpa using g1)
    refine ⟨s, t, ?_⟩
    have hcs : (Value.agg cs).cells.toList = cs.toList := rfl
    rw [hcs] at hlen
    have hL := two_parts (L := cs.toList) (n := 5) (by rw [hlen, hC])
    have : cs = secC s t := by
      apply Array.toList_inj.1
      rw [hL]
      simp only [Value.cells] at e0 e1
      rw [e0, e1]
      rfl
    rw [this]
end
end Go.Proofs.Ytkeabdfgacicaaa
