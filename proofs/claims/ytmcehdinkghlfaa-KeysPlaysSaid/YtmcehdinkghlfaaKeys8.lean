/-
  Two stores side by side; the plain law of KeysOnce: what is new is not among what was given.
-/
import Derived.Test.YtmcehdinkghlfaaKeys7
namespace Go.Proofs.Ytmcehdinkghlfaa
open Go.RowKit Go.Shelf Go.Maps
set_option linter.unusedVariables false

theorem be_inj {k n m : Nat} (hn : n < 2 ^ (8 * k)) (hm : m < 2 ^ (8 * k)) (h : be n k = be m k) : n = m := by
  have := congrArg fromBE h
  rwa [fromBE_be, fromBE_be, Nat.mod_eq_of_lt hn, Nat.mod_eq_of_lt hm] at this

theorem getR_at {node : Nat} {zs : List Key} (hm : May node zs) {q : Nat} (hq : q < zs.length) : getR zs zs[q].1 = (zs[q].2, 0) := by
  refine getR_hit hq rfl (fun k hk e => ?_)
  exact (hm.2.2 q hq).2 k hk (.inl e)
theorem key_inj {node : Nat} {zs : List Key} (hm : May node zs) {p q : Nat} (hp : p < zs.length) (hq : q < zs.length) (h : zs[p].2 = zs[q].2) : p = q := by
  rcases Nat.lt_trichotomy p q with h1 | h1 | h1
  · exact absurd (.inr h) ((hm.2.2 q hq).2 p h1)
  · exact h1
  · exact absurd (.inr h.symm) ((hm.2.2 p hp).2 q h1)

/-- Two stores: a from N0 on, b from N1 on, below N2. -/
def Two (N0 N1 N2 : Nat) (s m node : Bool → Nat) (zs : List Key) (w : World) (c : Nat) (F : Bool → Int → Nat) : Prop :=
  StL N0 N1 w (s false) (m false) c (node false) zs (F false) ∧ StL N1 N2 w (s true) (m true) c (node true) zs (F true)

theorem StL.mono {lo hi : Nat} {w : World} {s m c c' node : Nat} {zs : List Key} {f : Int → Nat} (h : StL lo hi w s m c node zs f) (hc : c ≤ c') : StL lo hi w s m c' node zs f := by
  obtain ⟨A, cap, h1, h2, h3, h4, ⟨D, h5, h6⟩, h7⟩ := h
  exact ⟨A, cap, h1, h2, h3, h4, ⟨D, h5.mono hc, h6⟩, h7⟩
theorem StL.m_in {lo hi : Nat} {w : World} {s m c node : Nat} {zs : List Key} {f : Int → Nat} (h : StL lo hi w s m c node zs f) : lo ≤ m ∧ m < hi := by
  obtain ⟨A, cap, _, _, _, _, _, _, _, _, h9, h10⟩ := h
  exact ⟨h9, h10⟩

theorem Two.kept {N0 N1 N2 : Nat} {s m node : Bool → Nat} {zs : List Key} {w w' : World} {c : Nat} {F : Bool → Int → Nat} {S : List Nat} (hN : N1 ≤ N2) (h : Two N0 N1 N2 s m node zs w c F) (hm : Mod S w w') (hs : ∀ k, k ∈ S → N2 ≤ k) : Two N0 N1 N2 s m node zs w' c F :=
  ⟨h.1.kept hm (fun k hk hh => by have := hs k hk; omega), h.2.kept hm (fun k hk hh => by have := hs k hk; omega)⟩

def updT (F : Bool → Int → Nat) (t : Bool) (f : Int → Nat) : Bool → Int → Nat := fun u => if u = t then f else F u

theorem nonce_two {N0 N1 N2 : Nat} {s m node : Bool → Nat} {zs : List Key} {c : Nat} {F : Bool → Int → Nat} (hN0 : N0 ≤ N1) (hN : N1 ≤ N2) (t : Bool) (id : Int) (hi : InI id) (hc : c < 1000000) (hnode : ∀ t, node t ≤ 4294967295) (hn : zs.length < 4611686018427387904)
    (w : World) (h : Two N0 N1 N2 s m node zs w c F) :
    Calls Try.prog 12 #[.pointer (some ⟨s t, 0, none⟩), .int .i64 id] w fun e w' =>
      e = .returned (.tuple #[str (nonceR (node t) zs (F t) id).1, .int .i64 (nonceR (node t) zs (F t) id).2]) ∧ Mod [m t] w w' ∧ Two N0 N1 N2 s m node zs w' (c + 1) (updT F t (nonceF zs (F t) id)) := by
  cases t
  · refine (Nonce_any (s false) (m false) c (node false) zs (F false) id hi hc (hnode _) hn w h.1.st).mono ?_
    rintro e w' ⟨rfl, hm, hst⟩
    have hin := h.1.m_in
    exact ⟨rfl, hm, by simpa [updT] using h.1.after hm hst, by simpa [updT] using (h.2.kept hm (fun k hk hh => by simp at hk; omega)).mono (Nat.le_succ _)⟩
  · refine (Nonce_any (s true) (m true) c (node true) zs (F true) id hi hc (hnode _) hn w h.2.st).mono ?_
    rintro e w' ⟨rfl, hm, hst⟩
    have hin := h.2.m_in
    exact ⟨rfl, hm, by simpa [updT] using (h.1.kept hm (fun k hk hh => by simp at hk; omega)).mono (Nat.le_succ _), by simpa [updT] using h.2.after hm hst⟩

/-- Whatever was given is a nonce that was counted, with its key's bytes. -/
def Given (node : Bool → Nat) (zs : List Key) (F : Bool → Int → Nat) (gs : List (List UInt8)) : Prop :=
  ∀ g ∈ gs, ∃ t q c, ∃ h : q < zs.length, c < 2 ^ 64 ∧ c ≤ F t zs[q].1 ∧ g = (be (node t) 4 ++ be c 8) ++ zs[q].2

theorem given_new {n0 : Nat} {node : Bool → Nat} {zs : List Key} {F : Bool → Int → Nat} {gs : List (List UInt8)} (hm : May n0 zs) (hne : node false ≠ node true) (hnode : ∀ t, node t ≤ 4294967295) (hg : Given node zs F gs)
    {t : Bool} {q : Nat} (hq : q < zs.length) (hF : F t zs[q].1 + 1 < 2 ^ 64) : ∀ g ∈ gs, g ≠ (be (node t) 4 ++ be (F t zs[q].1 + 1) 8) ++ zs[q].2 := by
  intro g hgm e
  obtain ⟨t', q', c, hq', hc1, hc2, rfl⟩ := hg g hgm
  obtain ⟨e1, e2⟩ := List.append_inj e (by simp [be_length])
  obtain ⟨e3, e4⟩ := List.append_inj e1 (by simp [be_length])
  have e5 := be_inj (k := 4) (by have := hnode t'; omega) (by have := hnode t; omega) e3
  have e6 := be_inj (k := 8) (by omega) (by omega) e4
  have e7 := key_inj hm hq' hq e2
  subst e7
  have : t' = t := by
    cases t <;> cases t' <;> first | rfl | exact absurd e5 hne | exact absurd e5.symm hne
  subst this
  omega

theorem given_add {node : Bool → Nat} {zs : List Key} {F : Bool → Int → Nat} {gs : List (List UInt8)} (hg : Given node zs F gs)
    {t : Bool} {q : Nat} (hq : q < zs.length) (hF : F t zs[q].1 + 1 < 2 ^ 64) : Given node zs (updT F t (upd (F t) zs[q].1)) (gs ++ [(be (node t) 4 ++ be (F t zs[q].1 + 1) 8) ++ zs[q].2]) := by
  intro g hgm
  rw [List.mem_append] at hgm
  rcases hgm with hgm | hgm
  · obtain ⟨t', q', c, hq', hc1, hc2, rfl⟩ := hg g hgm
    refine ⟨t', q', c, hq', hc1, ?_, rfl⟩
    simp only [updT]
    split
    · rename_i e; subst e
      simp only [upd]
      split
      · rename_i e; rw [e] at hc2; omega
      · exact hc2
    · exact hc2
  · simp at hgm
    subst hgm
    exact ⟨t, q, _, hq, hF, by simp [updT, upd], by simp⟩
theorem F_le {F : Bool → Int → Nat} {i : Nat} (hF : ∀ t x, F t x ≤ i) (t : Bool) (x : Int) : ∀ t' y, updT F t (upd (F t) x) t' y ≤ i + 1 := by
  intro t' y
  simp only [updT]
  split
  · simp only [upd]
    split
    · have := hF t x; omega
    · have := hF t y; omega
  · have := hF t' y; omega
end Go.Proofs.Ytmcehdinkghlfaa
