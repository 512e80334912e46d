/-
  The statement ScopeApart, for every input: the walk's contract, lifted to the given row.
-/
import Derived.Test.YtkeabdfgacicaaaMScopeApartj
import Derived.SizedLaws
namespace Go.Proofs.Ytkeabdfgacicaaa.scopeApart
open Go.ChangeShapes Go.WideShapes Go.ChangeAt Go.RowKit
open Go.ChangeMaps (open_string shut_string)
set_option linter.unusedVariables false
set_option linter.unusedSimpArgs false

set_option maxRecDepth 100000 in
theorem lifted (os : Os) (started : os.Started) (H : Type) (enc : TypeId × Value → H) :
    ReturnsInHanded {} Try.checked os 3 .any (Rows.scopeApartSpec.pre6 enc Try.prog Try.f3 Rows.scopeApartRow.domain false) (Rows.scopeApartSpec.post enc Try.prog Try.f3 false true false false) := by
  refine returnsInHanded_of_change_sized (C := Try.checked) own started (by kernel_rfl) Try.func3
    (ChangeSpec.witness6 (enc := enc) (C := Try.checked) false ⟨#[], #[.agg #[.int .u64 0, .int .i64 0, .int .i64 0, .string ByteArray.empty, .int .u64 0, .int .u64 0, .int .i64 0, .string ByteArray.empty, .int .u64 0, .int .u64 0, .int .i64 0, .string ByteArray.empty, .int .u64 0, .int .u64 0, .int .u64 0, .int .u64 0, .int .u64 0, .int .u64 0, .int .u64 0, .slice none 0 0, .int .u64 0, .int .i64 0, .int .i64 0, .string ByteArray.empty, .int .u64 0, .int .u64 0, .int .i64 0, .string ByteArray.empty, .int .u64 0, .int .u64 0, .int .i64 0, .string ByteArray.empty, .int .u64 0, .int .u64 0, .int .u64 0, .int .u64 0, .int .u64 0, .int .u64 0, .int .u64 0, .slice none 0 0], .agg #[.int .i64 0, .int .i64 0, .int .u64 0, .int .i64 0, .string ByteArray.empty, .int .i64 0, .int .i64 0, .int .u64 0, .int .i64 0, .string ByteArray.empty], .agg #[.int .i64 0, .int .i64 0]], []⟩ 8 (by kernel_rfl) (by kernel_rfl) (by kernel_rfl) (by kernel_rfl)) ?_
  intro W base args ds gs before hval0 hW hcnd hsz0 _
  have hval : ∀ (j : Nat) t v, Try.f3.params[j]? = some t → args[j]? = some v → Value.okWide Try.prog W .any base t v := hval0
  have hsz : (DataW.weightsEach Try.prog (Try.f3.params.toList ++ Rows.scopeApartSpec.plain.varTypes Try.prog) (ds ++ gs)).all (· ≤ reachBytes) = true := hsz0
  have hW' := hW
  obtain ⟨p, q, hA0, hV, rfl, hfz, hnd⟩ := hW
  have hA : DataW.TrodAll enc Try.prog W 0 (fun _ => true) true Try.f3.params.toList args.toList ds p := hA0
  rw [Try.params3] at hA hval hsz
  obtain ⟨v0, vs0, d0, ds0, p0, q0, hargs, rfl, rfl, h0, r0⟩ := trodAll_cons hA
  obtain ⟨v1, vs1, d1, ds1, p1, q1, rfl, rfl, rfl, h1, r1⟩ := trodAll_cons r0
  obtain ⟨v2, vs2, d2, ds2, p2, q2, rfl, rfl, rfl, h2, r2⟩ := trodAll_cons r1
  obtain ⟨rfl, rfl, rfl⟩ := trodAll_nil r2
  obtain rfl : args = #[v0, v1, v2] := by cases args; simp_all
  obtain ⟨rfl, rfl⟩ := trodVars_none hV
  obtain ⟨p0, A0, k0, c0, bs0, pp0, AA0, kk0, cc0, bbs0, rfl, ⟨pw0, hk0, hl0⟩, ⟨ppw0, hkk0, hll0⟩⟩ := open_bun2 (hval 0 30 v0 rfl rfl) h0 (fun n hn => by have := List.all_eq_true.1 hsz n (DataW.weights_mem_each (j := 0) (t := 30) rfl rfl n hn); simpa using this)
  obtain ⟨x1, y1, rfl⟩ := open_blk2 (hval 1 33 v1 rfl rfl) h1
  obtain ⟨x2, y2, rfl⟩ := open_at (hval 2 35 v2 rfl rfl) h2
  clear hA0 hval0 hsz hsz0
  have hwalk : Calls Try.prog 3 #[.agg (bun2C p0 A0 k0 c0 pp0 AA0 kk0 cc0), .agg (secC x1 y1), .agg #[.int .i64 x2, .int .i64 y2]] W (Ret (.bool true) W) := by
    exact lawApart_any p0 pp0 bs0 bbs0 k0 kk0 c0 cc0 A0 AA0 x1 y1 x2 y2 pw0 ppw0 hk0 hkk0 W hl0 hll0
  refine hwalk.mono fun e W' ⟨he, hb⟩ => ?_
  subst he
  exact ⟨_, rfl, law_post rfl hW' rfl rfl Try.underlying4 (by decide +kernel) hb.below⟩

theorem proved : Rows.ScopeApartSaid :=
  OpenClaim.holds_of_wide 3 Try.f3 rfl rfl rfl rfl rfl rfl rfl ⟨rfl, rfl, rfl, rfl, rfl⟩ rfl rfl rfl rfl rfl (by kernel_rfl) Try.func3 (by kernel_rfl)
    (of_decide_eq_true (by kernel_rfl)) (by unfold Func.isWrapper; first | (rw [if_pos (by decide +kernel)]; kernel_rfl) | (rw [if_neg (by decide +kernel)]; exact ⟨rfl, rfl⟩))
    (fun os started H enc _ => lifted os started H enc)
#print axioms proved
end Go.Proofs.Ytkeabdfgacicaaa.scopeApart
