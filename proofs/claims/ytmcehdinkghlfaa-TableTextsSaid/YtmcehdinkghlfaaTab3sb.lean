/-
  Tables (string by bool): slices.Delete of one entry, and Drop.
-/
import Derived.Test.YtmcehdinkghlfaaTab2sb
import Derived.Deep.RegionLaw
import Derived.Lib.SliceRun
namespace Go.Proofs.Ytmcehdinkghlfaa.Tsb
open Go.RowKit Go.Shelf
set_option linter.unusedVariables false

def sets : Array Value → Nat → List Value → Array Value
  | cs, _, [] => cs
  | cs, o, v :: r => sets (cs.setIfInBounds o v) (o + 1) r
theorem sets_size : ∀ (xs : List Value) (cs : Array Value) (o : Nat), (sets cs o xs).size = cs.size
  | [], _, _ => rfl
  | v :: r, cs, o => by rw [sets, sets_size r]; simp
theorem take_sets_le : ∀ (xs : List Value) (cs : Array Value) (o k : Nat), k ≤ o → (sets cs o xs).toList.take k = cs.toList.take k
  | [], _, _, _, _ => rfl
  | v :: r, cs, o, k, h => by
    rw [sets, take_sets_le r _ _ _ (by omega), Array.toList_setIfInBounds, List.take_set_of_le h]
theorem take_sets : ∀ (xs : List Value) (cs : Array Value) (o : Nat), o + xs.length ≤ cs.size → (sets cs o xs).toList.take (o + xs.length) = cs.toList.take o ++ xs
  | [], cs, o, _ => by simp [sets]
  | v :: r, cs, o, h => by
    simp only [List.length_cons] at h
    have h1 := take_sets r (cs.setIfInBounds o v) (o + 1) (by simp; omega)
    rw [sets, List.length_cons, show o + (r.length + 1) = o + 1 + r.length from by omega, h1, Array.toList_setIfInBounds]
    rw [List.take_succ_eq_append_getElem (by simp; omega), List.take_set_of_le (Nat.le_refl _)]
    simp
theorem Blk.sets {t g : Nat} : ∀ (xs : List Value) {w : World} {cs : Array Value} (o : Nat), Blk w g t cs → Blk (w.setCells g o xs) g t (Tsb.sets cs o xs)
  | [], _, _, _, h => h
  | v :: r, w, cs, o, h => Blk.sets r (o + 1) (h.set_ o v)
theorem Mod.sets {g : Nat} : ∀ (xs : List Value) {a w : World} (o : Nat), Mod [g] a w → Mod [g] a (w.setCells g o xs)
  | [], _, _, _, h => h
  | v :: r, a, w, o, h => Mod.sets r (o + 1) (h.setCell (.inl (by simp)) v)

theorem flat_take (es : List Ent) (i : Nat) (h : i ≤ es.length) : (flat es).take (i * 2) = flat (es.take i) := by
  conv => lhs; rw [← List.take_append_drop i es, flat_append]
  have : (flat (es.take i)).length = i * 2 := by rw [flat_length, List.length_take]; congr 1; omega
  rw [← this, List.take_left]
theorem flat_drop (es : List Ent) (i : Nat) (h : i ≤ es.length) : (flat es).drop (i * 2) = flat (es.drop i) := by
  conv => lhs; rw [← List.take_append_drop i es, flat_append]
  have : (flat (es.take i)).length = i * 2 := by rw [flat_length, List.length_take]; congr 1; omega
  rw [← this, List.drop_left]

theorem run_clear1 (w : World) (ty : TypeId) (b o c : Nat) (hc : ∀ j, j < 2 → (w.cell? ⟨b, o + j, none⟩).isSome = true) (hf : ∀ j, j < 2 → w.frozen? ⟨b, o + j, none⟩ = false) :
    (Builtin.clear_ #[82] ty #[.slice (some ⟨b, o, none⟩) 1 c]).run Try.prog w = .ok (.tuple #[]) (w.setCells b o [.string ⟨#[]⟩, .bool false]) := by
  have hst := run_storeCells_cells (P := Try.prog) b o [.string ⟨#[]⟩, .bool false] 0 w (by simpa using hc) (by simpa using hf) (by simp [Value.oneCell'])
  simp only [Nat.add_zero] at hst
  have hv : ∀ w, (zeroValue 91).run Try.prog w = .ok (.agg #[.string ⟨#[]⟩, .bool false]) w := fun w => by kernel_rfl
  simp [Builtin.clear_, run_underlying Try.underlying82, hv, Builtin.zeroCells, Value.cells]
  rw [show List.map (fun i => ([.string ⟨#[]⟩, .bool false] : List Value)[i % 2]?.getD default) (List.range 2) = [.string ⟨#[]⟩, .bool false] from rfl, hst]
  rfl

/-- What Delete leaves of a row. -/
theorem Row.delete {w : World} {g cap i m : Nat} {es : List Ent} {cur : Array Value} (hl : es.length = i + m + 1) (hB : Blk w g 91 cur) (h2 : es.length ≤ cap) (h3 : cap ≤ maxLen) (h4 : cur.size = cap * 2) (h5 : cur.toList.take (es.length * 2) = flat es) :
    Row (((w.setCells g (0 + i * 2) (flat (es.drop (i + 1)))).setCells g ((i + m) * 2) [.string ⟨#[]⟩, .bool false])) (some ⟨g, 0, none⟩) cap (es.eraseIdx i) ∧ (es.eraseIdx i).length = i + m := by
  have hlen : (es.eraseIdx i).length = i + m := by rw [List.length_eraseIdx]; split <;> omega
  refine ⟨⟨flat_length _, .inr ⟨g, cap, Tsb.sets (Tsb.sets cur (0 + i * 2) (flat (es.drop (i + 1)))) ((i + m) * 2) [.string ⟨#[]⟩, .bool false], rfl, Nat.zero_le _, Blk.sets _ _ (Blk.sets _ _ hB), by omega, h3, by rw [sets_size, sets_size, h4], ?_⟩⟩, hlen⟩
  have hd : (flat (es.drop (i + 1))).length = m * 2 := by rw [flat_length, List.length_drop]; congr 1; omega
  rw [hlen, take_sets_le _ _ _ _ (Nat.le_refl _), show (i + m) * 2 = 0 + i * 2 + (flat (es.drop (i + 1))).length from by rw [hd]; omega,
    take_sets _ _ _ (by rw [hd, h4]; omega), List.eraseIdx_eq_take_drop_succ, flat_append]
  congr 1
  have := congrArg (List.take (i * 2)) h5
  rw [List.take_take, Nat.min_eq_left (by omega), flat_take _ _ (by omega)] at this
  rw [Nat.zero_add]; exact this

set_option maxHeartbeats 1600000 in
set_option maxRecDepth 1000000 in
theorem Delete_go (g cap i m : Nat) (es : List Ent) (hl : Hid (es.length = i + m + 1)) (hsm : Hid (es.length < 100000)) (w : World) (h : Hid (Row w (some ⟨g, 0, none⟩) cap es)) :
    Calls Try.prog 40 #[.slice (some ⟨g, 0, none⟩) (i + m + 1) cap, .int .i64 (i : Int), .int .i64 ((i : Int) + 1)] w fun e w' =>
      e = .returned (.slice (some ⟨g, 0, none⟩) (i + m) cap) ∧ Mod [g] w w' ∧ Row w' (some ⟨g, 0, none⟩) cap (es.eraseIdx i) := by
  obtain ⟨cur, hB, h2, h3, h4, h5⟩ : ∃ cur, Blk w g 91 cur ∧ es.length ≤ cap ∧ cap ≤ maxLen ∧ cur.size = cap * 2 ∧ cur.toList.take (es.length * 2) = flat es := by
    rcases h.out.form with ⟨h0, _⟩ | ⟨g', cur, hg, h1, h2⟩
    · cases h0
    · obtain rfl : g = g' := by simpa using hg
      exact ⟨cur, h1, h2⟩
  have hle := hl.out
  have hsmo := hsm.out
  unfold maxLen at h3
  obtain ⟨i0, hi0, hz0, hz1, hz2⟩ := info_parts infoEnt
  have hcell : ∀ q, q < es.length * 2 → w.cell? ⟨g, q, none⟩ = (flat es)[q]? := fun q hq => by
    rw [hB.cell, ← h5, List.getElem?_take, if_pos hq]; simp
  have hsome : ∀ W, Mod [g] w W → True := fun _ _ => trivial
  obtain ⟨news, hnw⟩ : ∃ news, news = flat (es.drop (i + 1)) := ⟨_, rfl⟩
  have hnl : news.length = m * 2 := by rw [hnw, flat_length, List.length_drop]; congr 1; omega
  obtain ⟨A, hA, hnews⟩ : ∃ A : Addr, (if cap = i + 1 then some (⟨g, 0, none⟩ : Addr) else some ⟨g, (i + 1) * 2, none⟩) = some A ∧ Hid (∀ j u, news[j]? = some u → w.drew.cell? (A.add j) = some u) := by
    by_cases hc : cap = i + 1
    · refine ⟨⟨g, 0, none⟩, by simp [hc], fun j u hu => ?_⟩
      have := (List.getElem?_eq_some_iff.1 hu).1
      omega
    · refine ⟨⟨g, (i + 1) * 2, none⟩, by simp [hc], fun j u hu => ?_⟩
      have hj := (List.getElem?_eq_some_iff.1 hu).1
      rw [addr_add]
      show w.cell? _ = _
      rw [hcell _ (by omega)]
      rw [hnw, ← flat_drop _ _ (by omega), List.getElem?_drop] at hu
      exact hu
  have s1 : Hid (news.length = m * 2) := hnl
  have s2 : Hid (∀ u ∈ news, u.oneCell' = true) := by rw [hnw]; exact flat_cell _
  have s3 : Hid (∀ j, j < news.length → (w.drew.cell? ⟨g, 0 + i * 2 + j, none⟩).isSome = true ∧ w.drew.frozen? ⟨g, 0 + i * 2 + j, none⟩ = false) := fun j hj => by
    refine ⟨?_, hB.frozen _⟩
    show (w.cell? _).isSome = true
    rw [hB.cell]
    rw [Array.getElem?_eq_getElem (by omega)]
    rfl
  have B2 : Hid (Blk (w.drew.setCells g (0 + i * 2) news) g 91 (Tsb.sets cur (0 + i * 2) news)) := Blk.sets _ _ hB.drew
  have hcl : ∀ (ty : TypeId) (c : Nat), (Builtin.clear_ #[82] ty #[.slice (some ⟨g, (i + m) * 2, none⟩) 1 c]).run Try.prog (w.drew.setCells g (0 + i * 2) news) = .ok (.tuple #[]) ((w.drew.setCells g (0 + i * 2) news).setCells g ((i + m) * 2) [.string ⟨#[]⟩, .bool false]) := fun ty c => by
    refine run_clear1 _ ty g _ c (fun j hj => ?_) (fun j hj => B2.out.frozen _)
    rw [B2.out.cell, Array.getElem?_eq_getElem (by rw [sets_size]; omega)]
    rfl
  have hfin := hid (Row.delete hle hB.drew h2 (by unfold maxLen; omega) h4 h5)
  have hmod : Hid (Mod [g] w ((w.drew.setCells g (0 + i * 2) news).setCells g ((i + m) * 2) [.string ⟨#[]⟩, .bool false])) := Mod.sets _ _ (Mod.sets _ _ (Mod.refl [g] w).drew)
  rw [← hnw] at hfin
  have i1 : (0 : Int) ≤ (i : Int) := by omega
  have i2 : (0 : Int) ≤ (m : Int) := by omega
  have i3 : (i : Int) + 1 ≤ (i : Int) + (m : Int) + 1 := by omega
  have i4 : (i : Int) + (m : Int) + 1 ≤ (cap : Int) := by omega
  have i5 : (i : Int) + (m : Int) + 1 ≤ 100000 := by omega
  have i6 : ((i : Int) == (i : Int) + 1) = false := by simp; omega
  have i7 : i ≤ cap := by omega
  have i8 : ((i : Int) + 1).toNat = i + 1 := by omega
  have i9 : (0 : Int) ≤ (i : Int) + 1 := by omega
  have i10 : (i : Int) + 1 ≤ (cap : Int) := by omega
  have i11 : i + m + 1 - (i + 1) = m := by omega
  clear hcell hsome hnl hnw hB h2 h3 h4 h5 hle hsmo hz0 hz2
  go_enter Try.func40, Try.ntmps40
  go_upto_region 5 with fail
  go_region_law (refine step_append_room rfl (.tmp 22) (.tmp 25) 82 rfl 91 i0 2 Try.underlying82 hi0 hz1 g 0 i cap (by simp [Act.eval, Act.put]) A m (cap - (i + 1)) news (by simp [Act.eval, Act.put]) s1.out hnews.out s2.out (by omega) s3.out ?_)
  simp only [Nat.zero_add] at B2 hcl hfin hmod
  have j1 : (cap = i + m) = False := by simp; omega
  have j2 : (i : Int) + (m : Int) ≤ (cap : Int) := by omega
  have j3 : (0 : Int) ≤ (i : Int) + (m : Int) := by omega
  have j4 : ((i : Int) + (m : Int)).toNat = i + m := by omega
  have j5 : ((i : Int) + (m : Int) + 1).toNat = i + m + 1 := by omega
  go_wp2_with fail
  go_ret
  exact ⟨rfl, hmod.out, hfin.out.1⟩

/-- The table after Drop, and the answer. -/
def dropR (es : List Ent) (k : List UInt8) : List Ent × Bool :=
  if es.findIdx (isK k) < es.length then (es.eraseIdx (es.findIdx (isK k)), true) else (es, false)

set_option maxHeartbeats 800000 in
theorem Drop_no (t most : Nat) (A : Option Addr) (cap : Nat) (es : List Ent) (k : List UInt8) (hx : Hid (¬ es.findIdx (isK k) < es.length)) (hn : Hid (es.length < 4611686018427387904)) (w : World) (h : Hid (Tab w t most A cap es)) :
    Calls Try.prog 22 #[.pointer (some ⟨t, 0, none⟩), str k] w fun e w' => e = .returned (.bool false) ∧ Ext w w' := by
  have hix : Hid (ix (isK k) es = -1) := by unfold ix Hid; rw [if_neg hx.out]
  go_enter Try.func22, Try.ntmps22
  go_wp2_with (go_at_call 39; refine (at_any t most A cap es k hn _ h).mono ?_; rintro e w1 ⟨rfl, hb1⟩; rw [hix.out])
  go_ret
  exact ⟨rfl, hb1⟩

set_option maxRecDepth 20000 in
set_option maxHeartbeats 1600000 in
theorem Drop_yes (t most : Nat) (A : Option Addr) (cap : Nat) (es : List Ent) (k : List UInt8) (hx : Hid (es.findIdx (isK k) < es.length)) (hl : Hid (es.length < 100000)) (w : World) (h : Hid (Tab w t most A cap es)) :
    Calls Try.prog 22 #[.pointer (some ⟨t, 0, none⟩), str k] w fun e w' => e = .returned (.bool true) ∧ Mod (t :: blksT A) w w' ∧ Tab w' t most A cap (es.eraseIdx (es.findIdx (isK k))) := by
  have hn : Hid (es.length < 4611686018427387904) := by have := hl.out; unfold Hid; omega
  obtain ⟨j, hj⟩ : ∃ j, j = es.findIdx (isK k) := ⟨_, rfl⟩
  have hjl : j < es.length := by rw [hj]; exact hx.out
  have hix : Hid (ix (isK k) es = (j : Int)) := by subst hj; unfold ix Hid; rw [if_pos hx.out]
  rw [← hj]
  obtain ⟨m, hm⟩ : ∃ m, es.length = j + m + 1 := ⟨es.length - j - 1, by omega⟩
  have HM := hid hm
  have hel : Hid ((es.eraseIdx j).length = j + m) := by unfold Hid; rw [List.length_eraseIdx, if_pos hjl]; omega
  have j0 : (0 : Int) ≤ (j : Int) := by omega
  have j1 : (j : Int) < (es.length : Int) := by omega
  obtain ⟨g, hA⟩ : ∃ g, A = some ⟨g, 0, none⟩ := by obtain ⟨g, hA, _⟩ := h.out.2.1.cells hjl; exact ⟨g, hA⟩
  subst hA
  clear hj hx hjl hm
  go_enter Try.func22, Try.ntmps22
  go_wp2_with fail
  refine (at_any t most _ cap es k hn _ h).mono ?_; rintro e w1 ⟨rfl, hb1⟩
  rw [hix.out]
  have hT := h.out.ext hb1
  have d1 : w1.cell? ⟨t, 1, none⟩ = some (.slice (some ⟨g, 0, none⟩) (j + m + 1) cap) := by have := hT.1.cell 1; rw [HM.out] at this; exact this
  have htg : t ≠ g := by have := hT.2.2; simpa [blksT] using this
  have HT := hid hT
  clear hT
  go_upto_region 4 with fail
  have j2 : (es.length : Int) < 4611686018427387904 := by have := hn.out; omega
  go_wp2_with fail
  refine (Delete_go g cap j m es HM hl _ HT.out.2.1).mono ?_; rintro e w2 ⟨rfl, hm2, hrow2⟩
  have BT := HT.out.1.mod hm2 (by simpa using htg)
  have q1 : w2.cell? ⟨t, 1, none⟩ = some (.slice (some ⟨g, 0, none⟩) es.length cap) := BT.cell 1
  have z1 : w2.frozen? ⟨t, 1, none⟩ = false := BT.frozen 1
  go_wp2_with fail
  go_ret
  have hmm : Mod (t :: blksT (some ⟨g, 0, none⟩)) w (w2.setCell ⟨t, 1, none⟩ (.slice (some ⟨g, 0, none⟩) (j + m) cap)) := ((Mod.of_ext hb1).trans (hm2.mono (fun k hk => by simp at hk; subst hk; simp [blksT]))).setCell (.inl (by simp)) _
  refine ⟨rfl, hmm, ?_, hrow2.mod (S := [t]) ((Mod.refl _ _).setCell (.inl (by simp)) _) (fun k hk => by simp [blksT] at hk; subst hk; simpa using htg.symm), HT.out.2.2⟩
  have := BT.set_ 1 (.slice (some ⟨g, 0, none⟩) (j + m) cap)
  rw [hel.out]
  simpa using this

theorem Drop_any (t most : Nat) (A : Option Addr) (cap : Nat) (es : List Ent) (k : List UInt8) (hl : es.length < 100000) (w : World) (h : Tab w t most A cap es) :
    Calls Try.prog 22 #[.pointer (some ⟨t, 0, none⟩), str k] w fun e w' => e = .returned (.bool (dropR es k).2) ∧ Mod (t :: blksT A) w w' ∧ Tab w' t most A cap (dropR es k).1 := by
  unfold dropR
  by_cases hx : es.findIdx (isK k) < es.length
  · rw [if_pos hx]
    exact Drop_yes t most A cap es k hx hl w h
  · rw [if_neg hx]
    refine (Drop_no t most A cap es k hx (by unfold Hid; omega) w h).mono ?_
    rintro e w' ⟨rfl, hb⟩
    exact ⟨rfl, Mod.of_ext hb, h.ext hb⟩
end Go.Proofs.Ytmcehdinkghlfaa.Tsb
