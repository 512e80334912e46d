/-
  The law ReportWants: its walk.
-/
import Derived.Test.YtmgndegooeghkaaWants
import Derived.Test.YtmgndegooeghkaaQx
namespace Go.Proofs.Ytmgndegooeghkaa
open Go.RowKit
set_option linter.unusedVariables false

set_option maxRecDepth 20000 in
set_option maxHeartbeats 3200000 in
theorem reportWants_walk (f : Nat) (hf : Hid (f < 18446744073709551616)) (crc : Int) (d s r : EV) (t q l o n : Nat) (w : World) : Calls Try.prog 3 #[.agg (priC f crc d s r t q l o n)] w (Ret (.bool true) w) := by
  have HB := hid (Blk.new w 26 (priC f crc d s r t q l o n))
  have HE0 := hid ((Mod.refl [] w).alloc (.cells (priC f crc d s r t q l o n) 26))
  obtain ⟨B1, k1, k2⟩ : ∃ B : Bool, Hid (∀ W, Calls Try.prog 8 #[.agg (priC f crc d s r t q l o n), .bool true] W (Ret (.bool B) W)) ∧ Hid (∀ W, Calls Try.prog 9 #[.agg (priC f crc d s r t q l o n), .bool true] W (Ret (.bool B) W)) := ⟨_, cWants_true f hf.out crc d s r t q l o n, rWants_true f hf.out crc d s r t q l o n⟩
  obtain ⟨B2, k3, k4⟩ : ∃ B : Bool, Hid (∀ W, Calls Try.prog 8 #[.agg (priC f crc d s r t q l o n), .bool false] W (Ret (.bool B) W)) ∧ Hid (∀ W, Calls Try.prog 9 #[.agg (priC f crc d s r t q l o n), .bool false] W (Ret (.bool B) W)) := ⟨_, cWants_false f hf.out crc d s r t q l o n, rWants_false f hf.out crc d s r t q l o n⟩
  go_enter Try.func3, Try.ntmps3
  go_wp2_with fail
  refine (awake25_any _).mono ?_
  rintro e w1 ⟨rfl, hb1⟩
  have HE1 := hid (HE0.out.trans hb1)
  have HC := hid (HB.out.ext hb1)
  clear hb1
  go_wp2_with (refine wpList_row (by rfl) 26 _ rfl _ rfl HC.out Try.underlying26 rfl (by kernel_rfl) ?_)
  refine (few11_any f crc d s r t q l o n _).mono ?_
  rintro e w2 ⟨rfl, hb2⟩
  have HE2 := hid (HE1.out.trans hb2)
  have HC2 := hid (HC.out.ext hb2)
  clear hb2
  generalize (decide (d.name.length ≤ 100) && decide (s.name.length ≤ 100) && decide (r.name.length ≤ 100)) = b at *
  cases b
  · go_wp2_with fail
    refine (awake25_any _).mono ?_
    rintro e w3 ⟨rfl, hb3⟩
    go_wp2_with fail
    go_ret
    exact Ret.mk rfl (HE2.out.trans hb3)
  have HS : Hid (∀ W, Ext w2 W → Blk W w.heap.size 26 (priC f crc d s r t q l o n)) := fun W hW => HC2.out.ext hW
  go_upto_region 3 with fail
  refine wp_region_ext (by kernel_rfl) (by kernel_rfl) ?_
  repeat (first
    | refine q_skip (by rfl) ?_
    | (refine q_row (by rfl) 26 _ rfl _ rfl HS.out Try.underlying26 rfl (by kernel_rfl) ?_; (try simp only [Act.put, List.setIfInBounds_toArray, List.set_cons_zero, List.set_cons_succ]))
    | (refine wpQuiet_step (fun K hK => ?_); go_simp; refine hK _ ?_; clear hK K)
    | (refine wpQuiet_step (fun K hK => ?_); go_simp; refine ⟨_, fun _ _ => (by with_reducible rfl), hK _ ?_⟩; clear hK K)
    | (refine wpQuiet_step (fun K hK => ?_); go_simp; apply Exists.intro; refine ⟨fun W hW => ?_, hK _ ?_⟩; (first | with_reducible exact Ret.ext (k1.out _) hW | with_reducible exact Ret.ext (k2.out _) hW | with_reducible exact Ret.ext (k3.out _) hW | with_reducible exact Ret.ext (k4.out _) hW); clear hK K))
  refine wpQuiet_nil ?_
  intro w3 hw3
  go_wp2_with fail
  go_ret
  exact Ret.mk (by simp) (HE2.out.trans hw3)
end Go.Proofs.Ytmgndegooeghkaa
