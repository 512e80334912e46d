/-
  Tables (int by int): Keys.
-/
import Derived.Test.YtmcehdinkghlfaaTab4ii
namespace Go.Proofs.Ytmcehdinkghlfaa.Tii
open Go.RowKit Go.Shelf
set_option linter.unusedVariables false

theorem infoKeyT : (Try.prog.info? 3).map (fun i => (i.zero, i.size, i.bytes)) = some (some (.int .i64 0), 1, 8) := by kernel_rfl
def keysV (es : List Ent) : List Value := es.map fun e => .int .i64 e.1

/-- What Keys hands back: a slice of the call's own. -/
def Keys_post (es : List Ent) (w : World) (e : Ending) (w' : World) : Prop :=
  ∃ A' cap', e = .returned (.slice A' es.length cap') ∧ Ext w w' ∧ w'.ownsRow w.heap.size 3 1 (.slice A' es.length cap') es.length (keysV es)

theorem keysV_take (es : List Ent) (j : Nat) (h : j < es.length) : keysV (es.take (j + 1)) = keysV (es.take j) ++ [.int .i64 es[j].1] := by
  unfold keysV
  rw [List.take_succ_eq_append_getElem h, List.map_append]
  rfl

theorem one_new (w : World) (v : Value) (t : TypeId) {n : Nat} (h : w.heap.size = n) : ∀ j u, [v][j]? = some u → (w.alloc (.cells #[v] t)).cell? ((⟨n, 0, none⟩ : Addr).add j) = some u := by subst h; exact cell_one_new _ _ _

set_option maxRecDepth 20000 in
set_option maxHeartbeats 1600000 in
theorem Keys_any (t most : Nat) (A : Option Addr) (cap : Nat) (es : List Ent) (hl : Hid (es.length < 100000)) (w : World) (h : Hid (Tab w t most A cap es)) :
    Calls Try.prog 25 #[.pointer (some ⟨t, 0, none⟩)] w (Keys_post es w) := by
  have c1 : w.cell? ⟨t, 1, none⟩ = some (.slice A es.length cap) := h.out.1.cell 1
  obtain ⟨i0, hi, hz0, hz1, hz2⟩ := info_parts infoKeyT
  go_enter Try.func25, Try.ntmps25
  go_wp2_with fail
  go_loopw [3, 11] (fun s3 s11 wr => ∃ (j : Nat) (oA : Option Addr) (oc : Nat), j ≤ es.length ∧ s11 = .int .i64 (j : Int) ∧ s3 = .slice oA j oc ∧ Ext w wr ∧ Hid (wr.ownsRow w.heap.size 3 1 (.slice oA j oc) j (keysV (es.take j)))) (fun _ i _ => es.length - (intOf i).toNat)
  case atStart => exact ⟨0, none, 0, Nat.zero_le _, rfl, rfl, Mod.refl _ _, World.ownsRow_nil _ _ _ _⟩
  case round =>
    obtain ⟨j, oA, oc, hj, rfl, rfl, hE, hO⟩ := hrel
    by_cases hlt : j < es.length
    · obtain ⟨g, hA, hgl, k0, k1, _⟩ := (h.out.ext hE).2.1.cells hlt
      have hkt := hid (keysV_take es j hlt)
      generalize hy : es[j] = y at k0 k1 hkt
      clear hy
      obtain ⟨y0, y1⟩ := y
      subst hA
      have hj1 : (0 : Int) ≤ (j : Int) := by omega
      have hj2 : (j : Int) < (es.length : Int) := by omega
      have tj : decide (j < es.length) = true := by simp [hlt]
      have hj3 : (es.length : Int) < 4611686018427387904 := by have := hl.out; omega
      have HE := hid hE; have HLT := hid hlt
      have hs := hE.size
      have hO2 := (hO.out.alloc (.cells #[.int .i64 y0, .int .i64 y1] 87)).alloc (.cells #[.int .i64 y0] 3)
      clear hE hlt
      go_wp2_with (at_builtin; refine wpList_append_own _ rfl _ _ 41 rfl w.heap.size 3 i0 _ 1 8 Try.underlying41 hi hz0 hz1 hz2 rfl (by decide) _ _ _ rfl hO2 ⟨wr.heap.size + 1, 0, none⟩ 1 1 [.int .i64 y0] rfl rfl (one_new _ _ _ (by simp)) (by simp [Value.oneCell']) (by have := hl.out; have := HLT.out; unfold maxLen; omega) (by have := hl.out; have := HLT.out; omega) (by simp; omega) ?_; intro v2 w4 hown2 hgrow2 hnil2)
      have hm4 : Ext w w4 := ((HE.out.alloc (.cells #[.int .i64 y0, .int .i64 y1] 87)).alloc (.cells #[.int .i64 y0] 3)).grown hgrow2 (fun k hk => .inr (hO2.lt k hk).1)
      obtain ⟨g2, gc, rfl, _, _⟩ := hown2.form (by omega)
      have hlt := HLT.out
      refine ⟨⟨j + 1, some ⟨g2, 0, none⟩, gc, by omega, by simp, rfl, hm4, ?_⟩, ?_⟩
      · unfold Hid; rw [hkt.out]; exact hown2
      · simp only [intOf]; omega
    · obtain rfl : j = es.length := by omega
      have tj : decide (es.length < es.length) = false := by simp
      have hO3 := hO.out
      rw [List.take_length] at hO3
      have HO := hid hO3
      clear hO3
      go_wp2_with fail
      go_ret
      exact ⟨oA, oc, rfl, hE, HO.out⟩
end Go.Proofs.Ytmcehdinkghlfaa.Tii
