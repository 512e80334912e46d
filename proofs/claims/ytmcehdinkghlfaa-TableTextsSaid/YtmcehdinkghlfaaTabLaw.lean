/-
  Two tables side by side; the arguments of the law TableTexts; what a program that does nothing does not answer.
-/
import Derived.Test.YtmcehdinkghlfaaTab6ii
import Derived.Test.YtmcehdinkghlfaaTab6sb
import Derived.Test.YtmcehdinkghlfaaTab2is
namespace Go.Proofs.Ytmcehdinkghlfaa
open Go.RowKit Go.Shelf
set_option linter.unusedVariables false

theorem Tii.Tab.blk_lt {w : World} {t : Nat} {most : Int} {A : Option Addr} {cap : Nat} {es : List Tii.Ent} (h : Tii.Tab w t most A cap es) : ∀ k, k ∈ Tii.blksT A → k < w.heap.size := by
  intro k hk
  rcases h.2.1.form with ⟨rfl, _⟩ | ⟨g, cur, rfl, h1, _⟩
  · simp [Tii.blksT] at hk
  · simp [Tii.blksT] at hk; subst hk; exact h1.lt
theorem Tsb.Tab.blk_lt {w : World} {t : Nat} {most : Int} {A : Option Addr} {cap : Nat} {es : List Tsb.Ent} (h : Tsb.Tab w t most A cap es) : ∀ k, k ∈ Tsb.blksT A → k < w.heap.size := by
  intro k hk
  rcases h.2.1.form with ⟨rfl, _⟩ | ⟨g, cur, rfl, h1, _⟩
  · simp [Tsb.blksT] at hk
  · simp [Tsb.blksT] at hk; subst hk; exact h1.lt

/-- Two tables that share nothing; all their blocks lie from lo on. -/
structure DT (lo : Nat) (w : World) (most tA tB : Nat) (A : Option Addr) (cA : Nat) (ea : List Tii.Ent) (B : Option Addr) (cB : Nat) (eb : List Tsb.Ent) : Prop where
  a : Tii.Tab w tA most A cA ea
  b : Tsb.Tab w tB most B cB eb
  n1 : tA ≠ tB
  n2 : ∀ k, k ∈ Tii.blksT A → k ≠ tB
  n3 : ∀ k, k ∈ Tsb.blksT B → k ≠ tA
  n4 : ∀ k, k ∈ Tii.blksT A → k ∉ Tsb.blksT B
  la : ∀ k, k ∈ tA :: Tii.blksT A → lo ≤ k
  lb : ∀ k, k ∈ tB :: Tsb.blksT B → lo ≤ k
section
variable {lo most tA tB cA cB cA' cB' : Nat} {w w' : World} {A A' B B' : Option Addr} {ea ea' : List Tii.Ent} {eb eb' : List Tsb.Ent}
theorem DT.ext (h : DT lo w most tA tB A cA ea B cB eb) (hm : Ext w w') : DT lo w' most tA tB A cA ea B cB eb :=
  ⟨h.a.ext hm, h.b.ext hm, h.n1, h.n2, h.n3, h.n4, h.la, h.lb⟩
theorem DT.opA (h : DT lo w most tA tB A cA ea B cB eb) (hm : Mod (tA :: Tii.blksT A) w w') (hT : Tii.Tab w' tA most A' cA' ea') (hb : ∀ k, k ∈ Tii.blksT A' → k ∈ Tii.blksT A ∨ w.heap.size ≤ k) (hlo : lo ≤ w.heap.size) : DT lo w' most tA tB A' cA' ea' B cB eb := by
  have hB := h.b.blk_lt
  have htB := Blk.lt h.b.1
  have htA := Blk.lt h.a.1
  refine ⟨hT, h.b.mod hm (fun hm' => ?_) (fun k hk hm' => ?_), h.n1, fun k hk => ?_, h.n3, fun k hk hkB => ?_, fun k hk => ?_, h.lb⟩
  · simp only [List.mem_cons] at hm'
    rcases hm' with e | e
    · exact h.n1 e.symm
    · exact h.n2 _ e rfl
  · simp only [List.mem_cons] at hm'
    rcases hm' with e | e
    · exact h.n3 k hk e
    · exact h.n4 k e hk
  · rcases hb k hk with e | e
    · exact h.n2 k e
    · omega
  · rcases hb k hk with e | e
    · exact h.n4 k e hkB
    · have := hB k hkB; omega
  · simp only [List.mem_cons] at hk
    rcases hk with rfl | hk
    · exact h.la _ (by simp)
    · rcases hb k hk with e | e
      · exact h.la k (by simp [e])
      · omega
theorem DT.opB (h : DT lo w most tA tB A cA ea B cB eb) (hm : Mod (tB :: Tsb.blksT B) w w') (hT : Tsb.Tab w' tB most B' cB' eb') (hb : ∀ k, k ∈ Tsb.blksT B' → k ∈ Tsb.blksT B ∨ w.heap.size ≤ k) (hlo : lo ≤ w.heap.size) : DT lo w' most tA tB A cA ea B' cB' eb' := by
  have hA := h.a.blk_lt
  have htB := Blk.lt h.b.1
  have htA := Blk.lt h.a.1
  refine ⟨h.a.mod hm (fun hm' => ?_) (fun k hk hm' => ?_), hT, h.n1, h.n2, fun k hk => ?_, fun k hk hkB => ?_, h.la, fun k hk => ?_⟩
  · simp only [List.mem_cons] at hm'
    rcases hm' with e | e
    · exact h.n1 e
    · exact h.n3 _ e rfl
  · simp only [List.mem_cons] at hm'
    rcases hm' with e | e
    · exact h.n2 k hk e
    · exact h.n4 k hk e
  · rcases hb k hk with e | e
    · exact h.n3 k e
    · omega
  · rcases hb k hkB with e | e
    · exact h.n4 k hk e
    · have := hA k hk; omega
  · simp only [List.mem_cons] at hk
    rcases hk with rfl | hk
    · exact h.lb _ (by simp)
    · rcases hb k hk with e | e
      · exact h.lb k (by simp [e])
      · omega
end

/-- A slice of strings that lies in memory. -/
def IsStrs (w : World) (A : Option Addr) (xs : List (List UInt8)) : Prop :=
  0 < xs.length → ∃ b o, A = some ⟨b, o, none⟩ ∧ b < w.heap.size ∧ ∀ i (h : i < xs.length), w.cell? ⟨b, o + i, none⟩ = some (str xs[i])
theorem IsStrs.cells {w : World} {A : Option Addr} {xs : List (List UInt8)} (h : IsStrs w A xs) {W : World} (hW : Ext w W) {j : Nat} (hj : j < xs.length) :
    ∃ b o, A = some ⟨b, o, none⟩ ∧ W.cell? ⟨b, o + j, none⟩ = some (str xs[j]) := by
  obtain ⟨b, o, hA, hb, hc⟩ := h (by omega)
  exact ⟨b, o, hA, by rw [hW.cell hb (by simp)]; exact hc j hj⟩
/-- A slice of calls that lies in memory: the kinds and the keys. -/
def IsOps3 (w : World) (A : Option Addr) (xs : List (Nat × Int)) : Prop :=
  0 < xs.length → ∃ b o, A = some ⟨b, o, none⟩ ∧ b < w.heap.size ∧ ∀ i (h : i < xs.length), xs[i].1 < 256 ∧
    w.cell? ⟨b, o + i * 3, none⟩ = some (.int .u8 (xs[i].1 : Int)) ∧ w.cell? ⟨b, o + i * 3 + 1, none⟩ = some (.int .i64 xs[i].2)
theorem IsOps3.cells {w : World} {A : Option Addr} {xs : List (Nat × Int)} (h : IsOps3 w A xs) {W : World} (hW : Ext w W) {j : Nat} (hj : j < xs.length) :
    ∃ b o, A = some ⟨b, o, none⟩ ∧ xs[j].1 < 256 ∧ W.cell? ⟨b, o + j * 3, none⟩ = some (.int .u8 (xs[j].1 : Int)) ∧ W.cell? ⟨b, o + j * 3 + 1, none⟩ = some (.int .i64 xs[j].2) := by
  obtain ⟨b, o, hA, hb, hc⟩ := h (by omega)
  obtain ⟨h1, h2, h3⟩ := hc j hj
  exact ⟨b, o, hA, h1, by rw [hW.cell hb (by simp)]; exact h2, by rw [hW.cell hb (by simp)]; exact h3⟩

def name (ns : List (List UInt8)) (q : Nat) : List UInt8 := ns.getD q []
theorem name_at {ns : List (List UInt8)} {q : Nat} (h : q < ns.length) : name ns q = ns[q] := by simp [name, h]
theorem apart_int (N : Nat) : Apart (fun q : Nat => (q : Int)) N := fun x y _ _ => by
  rw [Bool.eq_iff_iff]; simp; omega
theorem apart_name {ns : List (List UInt8)} (h : ∀ i j (hi : i < ns.length) (hj : j < i), ns[i] ≠ ns[j]) : Apart (name ns) ns.length := fun x y hx hy => by
  rw [Bool.eq_iff_iff]
  simp only [beq_iff_eq]
  rw [name_at hx, name_at hy]
  constructor
  · intro e
    rcases Nat.lt_trichotomy x y with h1 | h1 | h1
    · exact absurd e.symm (h y x hy h1)
    · exact h1
    · exact absurd e (h x y hx h1)
  · rintro rfl; rfl

set_option maxRecDepth 20000 in
set_option maxHeartbeats 800000 in
theorem Len_any (t most : Nat) (A : Option Addr) (cap : Nat) (es : List Tis.Ent) (w : World) (h : Hid (Tis.Tab w t most A cap es)) :
    Calls Try.prog 36 #[.pointer (some ⟨t, 0, none⟩)] w (Ret (.int .i64 (es.length : Int)) w) := by
  have c1 : w.cell? ⟨t, 1, none⟩ = some (.slice A es.length cap) := h.out.1.cell 1
  go_enter Try.func36, Try.ntmps36
  go_wp2
  go_ret
  exact Ret.mk rfl (Mod.refl _ _)

set_option maxRecDepth 20000 in
set_option maxHeartbeats 800000 in
theorem awake03_any (w : World) : Calls Try.prog 18 #[] w (Ret (.bool true) w) := by
  have hr : Hid (Tis.putR 1 [] 3 [120] = ([(3, [120])], 0)) := rfl
  have hnew : Hid (∀ W, Calls Try.prog 34 #[.int .i64 1] W fun e w' => ∃ t, e = .returned (.pointer (some ⟨t, 0, none⟩)) ∧ W.heap.size ≤ t ∧ Ext W w' ∧ Tis.Tab w' t 1 none 0 []) := fun W => Tis.New_any 1 (by unfold Hid; omega) W
  go_enter Try.func18, Try.ntmps18
  go_wp2_with fail
  refine (hnew.out _).mono ?_; rintro e w1 ⟨t, rfl, ht, hb1, hT1⟩
  have HT1 := hid hT1; have HB1 := hid hb1; have HTL := hid ht
  clear hT1 hb1 ht
  go_wp2_with fail
  refine (Tis.Put_any t 1 none 0 [] 3 [120] (by decide) _ HT1.out).mono ?_; rintro e w2 ⟨A2, c2, rfl, hm2, hT2, hb2⟩
  rw [hr.out] at hT2 ⊢
  have HT2 := hid hT2; have HM2 := hid hm2
  clear hT2 hm2 hb2
  go_wp2_with fail
  refine (Len_any t 1 A2 c2 _ _ HT2).mono ?_; rintro e w3 ⟨rfl, hb3⟩
  go_wp2_with fail
  go_ret
  refine Ret.mk rfl (((Mod.of_ext HB1.out).trans (HM2.out.trans (Mod.of_ext hb3))).new (fun k hk => .inr ?_))
  simp [Tis.blksT] at hk
  subst hk
  exact HTL.out
end Go.Proofs.Ytmcehdinkghlfaa
