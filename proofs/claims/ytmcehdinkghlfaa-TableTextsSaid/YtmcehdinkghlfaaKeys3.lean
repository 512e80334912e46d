/-
  Package keys: Nonce.
-/
import Derived.Test.YtmcehdinkghlfaaKeys2
namespace Go.Proofs.Ytmcehdinkghlfaa
open Go.RowKit Go.Shelf Go.Maps
set_option linter.unusedVariables false

def upd (f : Int → Nat) (id : Int) : Int → Nat := fun x => if x = id then f id + 1 else f x
/-- What Nonce answers, and how many were given then. -/
def nonceR (node : Nat) (zs : List Key) (f : Int → Nat) (id : Int) : List UInt8 × Int :=
  if (getR zs id).2 ≠ 0 then ([], (getR zs id).2) else if 1000 ≤ f id then ([], 13) else (be node 4 ++ be (f id + 1) 8, 0)
def nonceF (zs : List Key) (f : Int → Nat) (id : Int) : Int → Nat :=
  if (getR zs id).2 ≠ 0 then f else if 1000 ≤ f id then f else upd f id

theorem getR_e (zs : List Key) (id : Int) : (getR zs id).2 = 0 ∨ (getR zs id).2 = 6 := by
  unfold getR; split <;> simp

theorem Counts.put {w w' : World} {m c : Nat} {f : Int → Nat} {D : UD} {id : Int} (hi : InI id) (hown : w.ownsMap Try.prog 3 (plainElem (H := Unit) Try.prog 3) m c D)
    (hat : ∀ id, InI id → D.atKey (.int .i64 id) (.lit (.int .i64 0)) = .lit (.int .i64 (f id : Int)))
    (h1 : w'.ownsMap Try.prog 3 (plainElem (H := Unit) Try.prog 3) m (c + 1) (D.put (.int .i64 id) (.lit (.int .i64 ((f id : Int) + 1))))) : Counts w' m (c + 1) (upd f id) := by
  refine ⟨_, h1, fun x hx => ?_⟩
  obtain ⟨es, clock, e1, e2, e3, e4⟩ := hown
  by_cases e : x = id
  · subst e
    rw [atKey_put_same ⟨_, e4⟩ (by simp [WideAt.IsKeyLit])]
    simp [upd]
  · rw [atKey_put_other (by intro h; simp at h; exact e h)]
    rw [hat x hx]
    simp [upd, e]

set_option maxHeartbeats 800000 in
theorem Nonce_none (s m c node : Nat) (zs : List Key) (f : Int → Nat) (id : Int) (he : Hid ((getR zs id).2 ≠ 0)) (hn : Hid (zs.length < 4611686018427387904)) (w : World) (h : Hid (St w s m c node zs f)) :
    Calls Try.prog 12 #[.pointer (some ⟨s, 0, none⟩), .int .i64 id] w (Ret (.tuple #[str [], .int .i64 (getR zs id).2]) w) := by
  have t6 : Hid ((getR zs id).2 = 6) := by have := he.out; have h2 := getR_e zs id; unfold Hid; omega
  go_enter Try.func12, Try.ntmps12
  go_wp2_with (go_at_call 13; refine (Get_any s m c node zs f id hn _ h).mono ?_; rintro e w' ⟨rfl, hb'⟩; rw [t6.out])
  go_ret2
  rw [t6.out]
  exact Ret.mk rfl hb'

set_option maxHeartbeats 800000 in
theorem Nonce_spent (s m c node : Nat) (zs : List Key) (f : Int → Nat) (id : Int) (hi : Hid (InI id)) (he : Hid ((getR zs id).2 = 0)) (hf : Hid (1000 ≤ f id)) (hn : Hid (zs.length < 4611686018427387904)) (w : World) (h : Hid (St w s m c node zs f)) :
    Calls Try.prog 12 #[.pointer (some ⟨s, 0, none⟩), .int .i64 id] w (Ret (.tuple #[str [], .int .i64 13]) w) := by
  have t1 : decide ((1000 : Int) ≤ (f id : Int)) = true := by have := hf.out; simp; omega
  go_enter Try.func12, Try.ntmps12
  go_upto_region 4 with (go_at_call 13; refine (Get_any s m c node zs f id hn _ h).mono ?_; rintro e w' ⟨rfl, hb'⟩; rw [he.out])
  obtain ⟨A, cap, hB, _, _, _, hC⟩ := h.out.kept hb'
  have c2 : w'.cell? ⟨s, 2, none⟩ = some (.map (some m)) := hB.cell 2
  have hl := hC.look hi.out
  clear hB hC
  go_wp2
  go_ret2
  exact Ret.mk rfl hb'

set_option maxRecDepth 20000 in
set_option maxHeartbeats 1600000 in
theorem Nonce_give (s m c node : Nat) (zs : List Key) (f : Int → Nat) (id : Int) (hi : Hid (InI id)) (he : Hid ((getR zs id).2 = 0)) (hf : Hid (¬ 1000 ≤ f id)) (hc : Hid (c < 1000000)) (hnode : Hid (node ≤ 4294967295)) (hn : Hid (zs.length < 4611686018427387904)) (w : World) (h : Hid (St w s m c node zs f)) :
    Calls Try.prog 12 #[.pointer (some ⟨s, 0, none⟩), .int .i64 id] w (RetS [m] (.tuple #[str (be node 4 ++ be (f id + 1) 8), .int .i64 0]) (fun w' => St w' s m (c + 1) node zs (upd f id)) w) := by
  have t1 : decide ((1000 : Int) ≤ (f id : Int)) = false := by have := hf.out; simp; omega
  have u0 : (0 : Int) ≤ (f id : Int) := by omega
  have u1 : (f id : Int) < 1000 := by have := hf.out; omega
  go_enter Try.func12, Try.ntmps12
  go_upto_region 4 with (go_at_call 13; refine (Get_any s m c node zs f id hn _ h).mono ?_; rintro e w' ⟨rfl, hb'⟩; rw [he.out])
  obtain ⟨A, cap, hB, hK, hA, hsm, hC⟩ := h.out.kept hb'
  have c2 : w'.cell? ⟨s, 2, none⟩ = some (.map (some m)) := hB.cell 2
  have hl := hC.look hi.out
  obtain ⟨D, hown, hat⟩ := hC
  have hkey := keyOf3 hi.out
  have hw1 : (Lit.int .i64 ((f id : Int) + 1)).wf = true := InI.wf (by unfold InI; omega)
  have n0 : (0 : Int) ≤ (node : Int) := by omega
  have n1 : (node : Int) ≤ 4294967295 := by have := hnode.out; omega
  go_upto_region 7 with (at_mapUpdate; refine wpList_mapUpdate_own _ rfl _ _ _ 70 rfl 3 3 law3 Try.underlying70 _ m c _ rfl hown (by have := hc.out; unfold maxLen; omega) _ _ _ rfl rfl hkey _ [] (plainElem_int Try.underlying3 hw1) ?_; intro w1 hown1 hgrow1)
  have m1 : Mod [m] w' w1 := (Mod.refl _ _).grown hgrow1 (fun k hk => .inl (by cases hk; simp))
  have hB1 := hB.mod m1 (by simp [hsm])
  have hK1 := hK.mod m1 (fun b o e => by simp [(hA b o e).2])
  have hC1 := Counts.put hi.out hown hat hown1
  have hS1 : Hid (St w1 s m (c + 1) node zs (upd f id)) := ⟨A, cap, hB1, hK1, hA, hsm, hC1⟩
  have hM1 : Hid (Mod [m] w w1) := (Mod.of_ext hb').trans m1
  have hs := Blk.lt hB1
  have d0 : ∀ W, Ext w1 W → W.cell? ⟨s, 0, none⟩ = some (.int .u64 (node : Int)) := fun W hW => (hB1.ext hW).cell 0
  have d2 : ∀ W, Ext w1 W → W.cell? ⟨s, 2, none⟩ = some (.map (some m)) := fun W hW => (hB1.ext hW).cell 2
  have dl : ∀ W, Ext w1 W → (Instr.lookup 70 (.map (some m)) (.int .i64 id) false).run Try.prog W = .ok (.int .i64 ((f id : Int) + 1)) W := fun W hW => by
    have := (hC1.kept hW (by simp)).look hi.out
    simpa [upd] using this
  obtain ⟨B4, hB4⟩ : ∃ x, x = be node 4 := ⟨_, rfl⟩
  obtain ⟨B8, hB8⟩ : ∃ x, x = be (f id + 1) 8 := ⟨_, rfl⟩
  have s4 : ∀ W, Calls Try.prog 30 #[.int .u64 (node : Int), .int .i64 4] W (Ret (str B4) W) := fun W => by rw [hB4]; exact kspread_n node (by omega) 4 (by omega) W
  have s8 : ∀ W, Calls Try.prog 30 #[.int .u64 ((f id : Int) + 1), .int .i64 8] W (Ret (str B8) W) := fun W => by rw [hB8]; exact kspread_n (f id + 1) (by omega) 8 (by omega) W
  have S4 := hid s4; have S8 := hid s8; clear s4 s8
  have hno : (9223372036854775807 < B4.length + B8.length) = False := by rw [hB4, hB8, be_length, be_length]; simp
  have HV : Hid (Value.tuple #[Value.string ((⟨B4.toArray⟩ : ByteArray) ++ ⟨B8.toArray⟩), .int .i64 0] = .tuple #[str (be node 4 ++ be (f id + 1) 8), .int .i64 0]) := by rw [str_app, hB4, hB8]; rfl
  have H4 := hid hB4; have H8 := hid hB8; clear hB4 hB8
  have hx := Mod.refl [] w1
  have tw : IntKind.u64.wrap ((f id : Int) + 1) = (f id : Int) + 1 := IntWalk.u64_in _ (by omega)
  have D0 := hid d0; have D2 := hid d2; have DL := hid dl
  clear d0 d2 dl hB1 hK1 hC1 hown1 hgrow1 hown hat hl c2 hB hK hkey
  clear m1 hA hw1 hb'
  have e0 := D0.out _ hx; have e2 := D2.out _ hx; have el := DL.out _ hx
  go_region_held3 (fun w' => w'.cell? ⟨s, 0, none⟩ = some (.int .u64 (node : Int)) ∧ w'.cell? ⟨s, 2, none⟩ = some (.map (some m)) ∧ (Instr.lookup 70 (.map (some m)) (.int .i64 id) false).run Try.prog w' = .ok (.int .i64 ((f id : Int) + 1)) w')
    (refine ⟨D0.out _ ?_, D2.out _ ?_, DL.out _ ?_⟩ <;> (repeat (first | with_reducible assumption | with_reducible exact Mod.refl _ _ | with_reducible refine Mod.drew ?_)))
    (first | (go_at_call 30; (try rw [tw]); (first | with_reducible refine (S4.out _).mono ?_ | with_reducible refine (S8.out _).mono ?_); rintro e w3 ⟨rfl, hb3⟩; have hx3 : Ext w1 w3 := (by with_reducible refine Mod.trans ?_ hb3; (repeat (first | with_reducible assumption | with_reducible exact Mod.refl _ _ | with_reducible refine Mod.drew ?_)))))
  all_goals go_wp2_with fail
  all_goals go_ret2
  all_goals refine RetS.mk HV.out (hM1.out.trans (Mod.of_ext hx3)) (hS1.out.kept hx3)

theorem Nonce_any (s m c node : Nat) (zs : List Key) (f : Int → Nat) (id : Int) (hi : InI id) (hc : c < 1000000) (hnode : node ≤ 4294967295) (hn : zs.length < 4611686018427387904) (w : World) (h : St w s m c node zs f) :
    Calls Try.prog 12 #[.pointer (some ⟨s, 0, none⟩), .int .i64 id] w (RetS [m] (.tuple #[str (nonceR node zs f id).1, .int .i64 (nonceR node zs f id).2]) (fun w' => St w' s m (c + 1) node zs (nonceF zs f id)) w) := by
  have grow : ∀ W, St W s m c node zs f → St W s m (c + 1) node zs f := by
    rintro W ⟨A, cap, h1, h2, h3, h4, D, h5, h6⟩
    exact ⟨A, cap, h1, h2, h3, h4, D, h5.mono (Nat.le_succ _), h6⟩
  by_cases he : (getR zs id).2 = 0
  · by_cases hf : 1000 ≤ f id
    · have r1 : nonceR node zs f id = ([], 13) := by simp [nonceR, he, hf]
      have r2 : nonceF zs f id = f := by simp [nonceF, he, hf]
      rw [r1, r2]
      refine (Nonce_spent s m c node zs f id hi he hf hn w h).mono ?_
      rintro e w' ⟨rfl, hb⟩
      exact RetS.mk rfl (Mod.of_ext hb) (grow _ (h.kept hb))
    · have r1 : nonceR node zs f id = (be node 4 ++ be (f id + 1) 8, 0) := by simp [nonceR, he]; omega
      have r2 : nonceF zs f id = upd f id := by simp [nonceF, he, hf]
      rw [r1, r2]
      exact Nonce_give s m c node zs f id hi he hf hc hnode hn w h
  · have r1 : nonceR node zs f id = ([], (getR zs id).2) := by simp [nonceR, he]
    have r2 : nonceF zs f id = f := by simp [nonceF, he]
    rw [r1, r2]
    refine (Nonce_none s m c node zs f id he hn w h).mono ?_
    rintro e w' ⟨rfl, hb⟩
    exact RetS.mk rfl (Mod.of_ext hb) (grow _ (h.kept hb))
end Go.Proofs.Ytmcehdinkghlfaa
