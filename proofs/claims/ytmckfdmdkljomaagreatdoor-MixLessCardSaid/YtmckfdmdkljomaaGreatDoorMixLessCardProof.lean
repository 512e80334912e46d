/-
  The statement MixLess, for every input, its listed variable tied to the program's text: the walk's contract, lifted to the given row; the card.
-/
import Derived.Test.YtmckfdmdkljomaaGreatDoorMMixLessCardba
import Derived.SizedLaws
import Derived.Test.YtmckfdmdkljomaaGreatDoorTie
import Derived.Test.YtmckfdmdkljomaaGreatDoorCards
import Derived.SevenTiedAt
import Derived.Stop.LaidErr
import Derived.LaidMore
import Derived.LaidLaws
import Derived.Stop.Joined
namespace Go.Proofs.YtmckfdmdkljomaaGreatDoor.mixLessCard
open Go.ChangeShapes Go.WideShapes Go.ChangeAt Go.RowKit
open Go.ChangeMaps (open_string shut_string)
set_option linter.unusedVariables false
set_option linter.unusedSimpArgs false

theorem gErr : Tryz.prog.globalNamed "dromond/asb.errForm" = some 0 := by kernel_rfl
theorem tErr : (Tryz.prog.globals[0]?).map (·.type) = some 134 := by kernel_rfl
theorem cErr : Tryz.prog.cellsOf 271 = 1 := by kernel_rfl
theorem cStr : Tryz.prog.cellsOf 9 = 1 := by kernel_rfl
theorem star : "*" ++ "errors.errorString" = "*errors.errorString" := by decide
theorem rowE (u : TypeId) (h : Tryz.prog.typeName? 3 u = some "*errors.errorString") : u = 249 :=
  typeName_ptr_named (nm := "errors.errorString") (by rw [star]; kernel_rfl) (by kernel_rfl) (by decide) u (by rw [star]; exact h)
/-- What the condition gives: the variable holds a pointer to an error of errors.New's. -/
theorem form_of_laid {W : World} (h : laidMetH Tryz.prog Rows.mixLessRow.laid W) : ∃ a, FormAt W a := by
  rw [MakeChecks.laidMetH_plain _ _ _ (by kernel_rfl)] at h
  have h' : laidMet Tryz.prog (("dromond/asb.errForm", .iface "*errors.errorString" (.ptr (.agg [.lit (.string [102, 111, 114, 109])]))) :: []) W := h
  obtain ⟨a0, s0, hv0, _⟩ := laid_sentinel h' gErr tErr Tryz.underlying134 rowE Tryz.underlying249 Tryz.underlying271 rfl rfl Tryz.underlying9 cErr cStr
  have hc : W.cell? ⟨0, 0, none⟩ = some (FormV a0) := by simpa [FormV] using World.var?_cell gErr hv0 0
  refine ⟨a0, hc, ?_⟩
  rcases Nat.lt_or_ge 0 W.heap.size with h | h
  · exact h
  · simp [World.cell?, Array.getElem?_eq_none h] at hc
/-- The door's own heap meets the condition. -/
theorem door_met (os : Os) (args : Array Value) : laidMetH Tryz.prog Rows.mixLessRow.laid ((World.doorLaid Tryz.prog 28 os).forCall (fun _ _ => 0) ⟨#[], args, []⟩).memory :=
  laidMetH_of_parts3 (fuel := 8) (laidMet_of_run' 8 (by kernel_rfl) (by kernel_rfl)) (by kernel_rfl) (by kernel_rfl)

set_option maxRecDepth 100000 in
theorem lifted (os : Os) (started : os.Started) (H : Type) (enc : TypeId × Value → H) :
    ReturnsInHanded {} Tryz.checked os 6 .any (fun w args => (Rows.mixLessSpec.pre enc Tryz.prog Tryz.f6 [] false w args ∧ laidMetH Tryz.prog Rows.mixLessRow.laid w) ∧ sizedMet enc Tryz.prog Tryz.f6 (OpenSpec.ofChange Rows.mixLessSpec) false w args) (Rows.mixLessSpec.post enc Tryz.prog Tryz.f6 false true false false) := by
  refine returnsInHanded_of_change_and (C := Tryz.checked) (X := fun w _ => laidMetH Tryz.prog Rows.mixLessRow.laid w) (fun _ _ _ hh h => h.of_heap hh) own started (by kernel_rfl) Tryz.func6
    (ChangeSpec.witness_shaped (enc := enc) (C := Tryz.checked) (os := os) (X := fun w _ => laidMetH Tryz.prog Rows.mixLessRow.laid w) false (World.doorLaid Tryz.prog 28 os) #[.agg #[.int .u64 0, .int .i64 0, .int .i64 0, .string ByteArray.empty, .int .u64 0, .int .u64 0, .int .i64 0, .string ByteArray.empty, .int .u64 0, .int .u64 0, .int .i64 0, .string ByteArray.empty, .int .u64 0, .int .u64 0, .int .u64 0, .int .u64 0, .int .u64 0, .int .u64 0, .int .u64 0, .slice none 0 0], .int .u8 0] 8 rfl (World.shaped_of_RefB (by kernel_rfl) (by kernel_rfl)) (by kernel_rfl) (by kernel_rfl) (by kernel_rfl) (door_met os _)) ?_
  intro W base args ds gs before hval0 hW hcnd hsz0 hL _
  obtain ⟨eb, hform⟩ := form_of_laid hL
  clear hL
  have hval : ∀ (j : Nat) t v, Tryz.f6.params[j]? = some t → args[j]? = some v → Value.okWide Tryz.prog W .any base t v := hval0
  have hsz : (DataW.weightsEach Tryz.prog (Tryz.f6.params.toList ++ Rows.mixLessSpec.plain.varTypes Tryz.prog) (ds ++ gs)).all (· ≤ reachBytes) = true := hsz0
  have hW' := hW
  obtain ⟨p, q, hA0, hV, rfl, hfz, hnd⟩ := hW
  have hA : DataW.TrodAll enc Tryz.prog W 0 (fun _ => true) true Tryz.f6.params.toList args.toList ds p := hA0
  rw [Tryz.params6] at hA hval hsz
  obtain ⟨v0, vs0, d0, ds0, p0, q0, hargs, rfl, rfl, h0, r0⟩ := trodAll_cons hA
  obtain ⟨v1, vs1, d1, ds1, p1, q1, rfl, rfl, rfl, h1, r1⟩ := trodAll_cons r0
  obtain ⟨rfl, rfl, rfl⟩ := trodAll_nil r1
  obtain rfl : args = #[v0, v1] := by cases args; simp_all
  obtain ⟨rfl, rfl⟩ := trodVars_none hV
  obtain ⟨p0, A0, k0, c0, bs0, rfl, pw0, hk0, hl0, bw0, sl0⟩ := open_bundleS (hval 0 29 v0 rfl rfl) h0 (fun n hn => by have := List.all_eq_true.1 hsz n (DataW.weights_mem_each (j := 0) (t := 29) rfl rfl n hn); simpa using this)
  obtain ⟨a1, rfl, rfl, rfl, wf1⟩ := open_int Tryz.underlying5 (hval 1 5 v1 rfl rfl) h1
  have b1 : 0 ≤ a1 ∧ a1 ≤ 255 := by simpa [Lit.wf, IntKind.min, IntKind.max, IntKind.signed, IntKind.bits] using wf1
  clear hA0 hval0 hsz hsz0
  have hwalk : Calls Tryz.prog 6 #[bunV p0 A0 k0 c0, .int .u8 a1] W (Ret (.bool true) W) := by
    obtain ⟨lm, rfl⟩ := Int.eq_ofNat_of_zero_le b1.1
    exact lawLess_any p0 bs0 k0 c0 A0 lm eb pw0.1 hk0 sl0 (by omega) W hform hl0
  refine hwalk.mono fun e W' ⟨he, hb⟩ => ?_
  subst he
  exact ⟨_, rfl, law_post rfl hW' rfl rfl Tryz.underlying4 (by decide +kernel) hb.below⟩

theorem bare : Rows.MixLessSaid :=
  OpenClaim.holds_of_wide 6 Tryz.f6 rfl rfl rfl rfl rfl rfl rfl ⟨rfl, rfl, rfl, rfl, rfl⟩ rfl rfl rfl rfl rfl (by kernel_rfl) Tryz.func6 (by kernel_rfl)
    (of_decide_eq_true (by kernel_rfl)) (by unfold Func.isWrapper; first | (rw [if_pos (by decide +kernel)]; kernel_rfl) | (rw [if_neg (by decide +kernel)]; exact ⟨rfl, rfl⟩))
    (fun os started H enc _ => lifted os started H enc)
theorem proved : Rows.MixLessCardSaid :=
  Claim7.holds_tied_plain_at .later [] [.sentinel] true Rows.mixLessCard.stood.harness Rows.mixLessCard.stood.looks
    bare (fun _ h => by cases h) (by kernel_rfl) (fun _ h => by cases h) mixLess_row_tie rfl ⟨rfl, rfl⟩ (by kernel_rfl) rfl
    (fun f fn hf hfn => by
      obtain rfl : f = 6 := Option.some.inj ((show Tryz.prog.funcNamed "dromond/dromondlaw17.MixLess" = some 6 by kernel_rfl).symm.trans hf) |>.symm
      obtain rfl : fn = Tryz.f6 := (Option.some.inj (Tryz.func6.symm.trans hfn)).symm
      exact ⟨by kernel_rfl, fun j t ht => by
        rw [Tryz.params6] at ht
        have hm : t ∈ [29, 5] := by simpa using Array.mem_of_getElem? ht
        have hall : ([29, 5].all fun u => !Tryz.prog.wantsStandIn u) = true := by kernel_rfl
        exact (show Tryz.prog.wantsStandIn t = false by simpa using List.all_eq_true.1 hall t hm)⟩)
    (by kernel_rfl)
#print axioms proved
end Go.Proofs.YtmckfdmdkljomaaGreatDoor.mixLessCard
