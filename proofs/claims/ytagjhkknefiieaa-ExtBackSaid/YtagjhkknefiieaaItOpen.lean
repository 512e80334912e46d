/-
  An argument item.Item, opened: it is a tree whose items lie in memory.
-/
import Derived.Test.YtagjhkknefiieaaItMem
import Derived.Test.YtagjhkknefiieaaLaw
import Derived.Deep.Slices
import Derived.Deep.Fields
import Derived.ChangeSame
import Derived.SizedLaws
namespace Go.Proofs.Ytagjhkknefiieaa
open Go.ChangeShapes Go.WideShapes Go.ChangeAt Go.RowKit Go.Deep
set_option linter.unusedVariables false

section
variable {H : Type} {enc : TypeId × Value → H} {w : World} {base b0 : Nat} {spare : Nat → Bool} {held : Bool} {r : Reach}
/-- A field of one cell, read alone. -/
theorem field_at {P : Program} {fs : Array Field} {cs : List Value} {ys : List (DataW H × List MemPlace)} {n : Nat} (hone : oneCellFields P fs = true)
    (hfl : ∀ (i : Nat) (f : Field), fs[i]? = some f → DataW.trod enc P w base spare held n f.type ((cs.drop f.offset).take (P.cellsOf f.type)) = ys[i]?)
    {i : Nat} {f : Field} (h : fs[i]? = some f) {c : Value} (hc : cs[i]? = some c) : DataW.trod enc P w base spare held n f.type [c] = ys[i]? := by
  obtain ⟨ho, hk⟩ := hone_of hone i f h
  have := hfl i f h
  rw [ho, hk] at this
  obtain ⟨hlt, hv⟩ := List.getElem?_eq_some_iff.1 hc
  rw [List.drop_eq_getElem_cons hlt, hv] at this
  exact this

theorem weights_mem_all {P : Program} {e : TypeId} {d : DataW H} {n : Nat} (hn : n ∈ d.weights P e) : ∀ {l : List (DataW H)}, d ∈ l → n ∈ DataW.weightsAll P e l
  | x :: r, h => by
    simp only [DataW.weightsAll, List.mem_append]
    rcases List.mem_cons.1 h with rfl | h
    · exact .inl hn
    · exact .inr (weights_mem_all hn h)

set_option maxRecDepth 100000 in
theorem trod_item : ∀ (fuel : Nat) (cs : List Value) (x : DataW H × List MemPlace), DataW.trod enc Try.prog w base spare held fuel 63 cs = some x → (∀ n ∈ x.1.weights Try.prog 63, n ≤ reachBytes) →
    ∃ (t : T) (A : Option Addr) (c : Nat), cs = [.int .i64 t.kind, .int .u64 (t.n : Int), str t.s, .slice A t.k c, .bool t.op] ∧ t.ok ∧ IsL w (fun _ => True) t A := by
  intro fuel
  induction fuel using Nat.strongRecOn with
  | ind fuel ih =>
    intro cs x h hz
    obtain ⟨ys, n', hn', hy, hlen, hyl, hfl⟩ := DataW.trod_struct Try.underlying63 h
    subst hn' hy
    have hz' : ∀ n ∈ DataW.weightsEach Try.prog [3, 22, 9, 61, 4] (ys.map (·.1)), n ≤ reachBytes := by
      intro n hn
      apply hz
      simp only [DataW.weights, Try.underlying63]
      exact hn
    clear hz
    have hR : reachBytes < 140737488355328 := by decide
    match cs, hlen with
    | [c0, c1, c2, c3, c4], _ =>
      have h0 := field_at (by kernel_rfl) hfl (i := 0) rfl rfl
      have h1 := field_at (by kernel_rfl) hfl (i := 1) rfl rfl
      have h2 := field_at (by kernel_rfl) hfl (i := 2) rfl rfl
      have h3 := field_at (by kernel_rfl) hfl (i := 3) rfl rfl
      have h4 := field_at (by kernel_rfl) hfl (i := 4) rfl rfl
      clear hfl h
      match ys, hyl with
      | [y0, y1, y2, y3, y4], _ =>
        obtain ⟨kd, hk, _, hkw⟩ := DataW.trod_int (k := .i64) (by kernel_rfl) h0
        obtain ⟨nn, hnn, _, hnw⟩ := DataW.trod_int (k := .u64) (by kernel_rfl) h1
        obtain ⟨s, hs, hsd, hsw⟩ := DataW.trod_string (by kernel_rfl) h2
        obtain ⟨op, hop, _⟩ := DataW.trod_bool (by kernel_rfl) h4
        have e0 : c0 = .int .i64 kd := by
          have : [c0] = [Value.int .i64 kd] := hk
          simpa using this
        have e1 : c1 = .int .u64 nn := by
          have : [c1] = [Value.int .u64 nn] := hnn
          simpa using this
        have e2 : c2 = .string s := by
          have : [c2] = [Value.string s] := hs
          simpa using this
        have e4 : c4 = .bool op := by
          have : [c4] = [Value.bool op] := hop
          simpa using this
        subst e0 e1 e2 e4
        have bk : -9223372036854775808 ≤ kd ∧ kd ≤ 9223372036854775807 := by simpa [Lit.wf, IntKind.min, IntKind.max, IntKind.signed, IntKind.bits] using hkw
        have bn : 0 ≤ nn ∧ nn ≤ 18446744073709551615 := by simpa [Lit.wf, IntKind.min, IntKind.max, IntKind.signed, IntKind.bits] using hnw
        have bs : s.data.toList.length < 4611686018427387904 := by
          have := hz' s.data.toList.length (DataW.weights_mem_each (j := 2) rfl (show _ = some (DataW.lit (.string s.data.toList)) by simp only [List.map, List.getElem?_cons_succ, List.getElem?_cons_zero]; rw [hsd]) _ (by simp [DataW.weights]))
          omega
        obtain ⟨nm, rfl⟩ := Int.eq_ofNat_of_zero_le bn.1
        rcases DataW.trod_slice (e := 63) (by kernel_rfl) h3 with ⟨hcs, _⟩ | ⟨a, len, cap', elems, rest, f, hf, hcs, hx, hb, hl, hm, hlen, hel, _, _⟩
        · have e3 : c3 = .slice none 0 0 := by simpa using hcs
          subst e3
          refine ⟨T.mk kd nm s.data.toList op 0 (fun _ => T.nil), none, 0, rfl, ?_, fun h => by omega⟩
          unfold T.ok
          exact ⟨bk, by omega, bs, by omega, fun i hi => by omega⟩
        · have e3 : c3 = .slice (some a) len cap' := by simpa using hcs
          subst e3
          have hC : Try.prog.cellsOf 63 = 5 := by kernel_rfl
          have hBy : Try.prog.bytesOf 63 = 64 := by kernel_rfl
          have hzs : ∀ n ∈ (y3.1).weights Try.prog 61, n ≤ reachBytes := fun n hn => hz' n (DataW.weights_mem_each (j := 3) rfl (show _ = some y3.1 by rfl) _ hn)
          rw [hx] at hzs
          simp only [DataW.weights, Try.underlying61] at hzs
          have bl : len < 4611686018427387904 := by
            have h8 := hzs _ List.mem_cons_self
            rw [hBy, List.length_map, hlen] at h8
            have h9 : len * 64 ≤ (len + (List.map (fun x => x.1) rest).length) * 64 := Nat.mul_le_mul_right _ (Nat.le_add_right _ _)
            omega
          have key : ∀ i, i < len → ∃ (t : T) (Ai : Option Addr) (ci : Nat), (w.cell? ((a.add (i * 5)).add 0) = some (.int .i64 t.kind) ∧ w.cell? ((a.add (i * 5)).add 1) = some (.int .u64 (t.n : Int)) ∧ w.cell? ((a.add (i * 5)).add 2) = some (str t.s) ∧ w.cell? ((a.add (i * 5)).add 3) = some (.slice Ai t.k ci) ∧ w.cell? ((a.add (i * 5)).add 4) = some (.bool t.op)) ∧ t.ok ∧ IsL w (fun _ => True) t Ai := by
            intro i hin
            have hi := hel i hin
            rw [List.getElem?_eq_getElem (by omega)] at hi
            obtain ⟨cs', hc, ht⟩ := Option.bind_eq_some_iff.1 hi
            have hz2 : ∀ n ∈ (elems[i]'(by omega)).1.weights Try.prog 63, n ≤ reachBytes := fun n hn => by
              apply hzs
              refine List.mem_cons_of_mem _ (List.mem_append_left _ (weights_mem_all hn ?_))
              exact List.mem_map.2 ⟨_, List.getElem_mem _, rfl⟩
            obtain ⟨t, Ai, ci, rfl, hok, hL⟩ := ih f (by omega) cs' _ ht hz2
            rw [hC] at hc
            obtain ⟨_, hcl, hat⟩ := World.cells?_some hc
            exact ⟨t, Ai, ci, ⟨hat 0 (by omega), hat 1 (by omega), hat 2 (by omega), hat 3 (by omega), hat 4 (by omega)⟩, hok, hL⟩
          have key2 : ∀ i, ∃ z : T × Option Addr × Nat, i < len → (w.cell? ((a.add (i * 5)).add 0) = some (.int .i64 z.1.kind) ∧ w.cell? ((a.add (i * 5)).add 1) = some (.int .u64 (z.1.n : Int)) ∧ w.cell? ((a.add (i * 5)).add 2) = some (str z.1.s) ∧ w.cell? ((a.add (i * 5)).add 3) = some (.slice z.2.1 z.1.k z.2.2) ∧ w.cell? ((a.add (i * 5)).add 4) = some (.bool z.1.op)) ∧ z.1.ok ∧ IsL w (fun _ => True) z.1 z.2.1 := fun i => by
            by_cases hin : i < len
            · obtain ⟨t, Ai, ci, h5⟩ := key i hin
              exact ⟨(t, Ai, ci), fun _ => h5⟩
            · exact ⟨(T.nil, none, 0), fun h => absurd h hin⟩
          obtain ⟨g, hg⟩ : ∃ g : Nat → T × Option Addr × Nat, ∀ i, i < len → (w.cell? ((a.add (i * 5)).add 0) = some (.int .i64 (g i).1.kind) ∧ w.cell? ((a.add (i * 5)).add 1) = some (.int .u64 ((g i).1.n : Int)) ∧ w.cell? ((a.add (i * 5)).add 2) = some (str (g i).1.s) ∧ w.cell? ((a.add (i * 5)).add 3) = some (.slice (g i).2.1 (g i).1.k (g i).2.2) ∧ w.cell? ((a.add (i * 5)).add 4) = some (.bool (g i).1.op)) ∧ (g i).1.ok ∧ IsL w (fun _ => True) (g i).1 (g i).2.1 :=
            ⟨fun i => Classical.choose (key2 i), fun i => Classical.choose_spec (key2 i)⟩
          refine ⟨T.mk kd nm s.data.toList op len (fun i => (g i).1), some a, cap', rfl, ?_, ?_⟩
          · unfold T.ok
            exact ⟨bk, by omega, bs, bl, fun i hi => (hg i hi).2.1⟩
          · intro h0
            obtain ⟨⟨z0, _⟩, _⟩ := hg 0 h0
            have z1 : w.cell? a = some (.int .i64 (g 0).1.kind) := by simpa [Addr.add] using z0
            have hsp := World.cell?_spot z1
            obtain ⟨ab, ao, sp⟩ := a
            simp only at hsp
            subst hsp
            refine ⟨ab, ao, rfl, World.block_lt_of_cell? w _ z1, trivial, fun i hin => ⟨(g i).2.1, (g i).2.2, ?_, (hg i hin).2.2⟩⟩
            obtain ⟨⟨g0, g1, g2, g3, g4⟩, _⟩ := hg i hin
            rw [addr_add, addr_add] at g0 g1 g2 g3 g4
            exact ⟨g0, g1, g2, g3, g4⟩

set_option maxRecDepth 100000 in
/-- An argument item.Item, opened. -/
theorem open_item {v : Value} {d : DataW H} {p : List MemPlace} (hval : Value.okWide Try.prog w r b0 63 v) (h : DataW.Trod enc Try.prog w base spare held 63 v d p) (hz : ∀ n ∈ d.weights Try.prog 63, n ≤ reachBytes) :
    ∃ (t : T) (A : Option Addr) (c : Nat), v = itemV t A c ∧ t.ok ∧ IsL w (fun _ => True) t A := by
  obtain ⟨cs, rfl, hsz⟩ := okWide_struct Try.underlying63 hval
  obtain ⟨fuel, hf⟩ := h
  obtain ⟨t, A, c, e, hok, hL⟩ := trod_item fuel _ _ hf hz
  refine ⟨t, A, c, ?_, hok, hL⟩
  have e2 : cs.toList = [.int .i64 t.kind, .int .u64 (t.n : Int), str t.s, .slice A t.k c, .bool t.op] := e
  rw [itemV, ← e2]
end
end Go.Proofs.Ytagjhkknefiieaa
