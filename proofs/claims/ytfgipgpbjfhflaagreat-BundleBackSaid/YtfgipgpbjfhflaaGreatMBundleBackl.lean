/-
 A row of items of the call's own that grows; what hangs on its items lies elsewhere.
 Bundles: read, of a right bundle's items.
 Two bundles that are the same, as the reference tells.
 Bundles: Parse of a right bundle's bytes; the law BundleBack.
-/
import Derived.Test.YtfgipgpbjfhflaaGreatMBundleBackk

namespace Go.Proofs.YtfgipgpbjfhflaaGreat
open Go.RowKit
set_option linter.unusedVariables false
set_option linter.unusedSimpArgs false

abbrev offA (A : Option Addr) : Nat → Prop := fun b => ∀ g, A = some g → b ≠ g.block
def obs : Option Addr → List Nat
 | some g => [g.block]
 | none => []
theorem offA_obs {A : Option Addr} {b : Nat} (h : offA A b) : b ∉ obs A := by
 cases A with
 | none => simp [obs]
 | some g => have := h g rfl; simp [obs, this]
structure Rw (W : World) (Q : Nat → Prop) (base : Nat) (A : Option Addr) (c n : Nat) (ch : Nat → T) (ac : Nat → Option Addr × Nat) : Prop where
 own : W.ownsRow base 52 5 (.slice A n c) n (flatC ch ac n)
 kid : ∀ j, j < n → IsL W (fun b => Q b ∧ offA A b) (ch j) (ac j).1
section
variable {W W' : World} {Q : Nat → Prop} {base c n : Nat} {A : Option Addr} {ch : Nat → T} {ac : Nat → Option Addr × Nat}
theorem Rw.nil : Rw W Q base none 0 0 ch ac := ⟨World.ownsRow_nil _ _ _ _, fun j hj => by omega⟩
theorem Rw.mod {S : List Nat} (h : Rw W Q base A c n ch ac) (hm : Mod S W W') (hs : ∀ k, k < W.heap.size → k ∉ S) : Rw W' Q base A c n ch ac :=
 ⟨ownsRow_mod h.own hm (fun k hk => hs k ((h.own.lt k hk).2)), fun j hj => IsL.mod hm (fun k _ hk => hs k hk) _ (h.kid j hj)⟩
theorem Rw.ext (h : Rw W Q base A c n ch ac) (hm : Ext W W') : Rw W' Q base A c n ch ac := h.mod hm (by simp)
/-- Where other blocks turn: its own block, and what hangs on its items, in Q. -/
theorem Rw.isL (h : Rw W Q base A c n ch ac) (hq : ∀ b, base ≤ b → Q b) : IsL W Q (T.mk 4 0 [] false n ch) A := fun h0 => by
 obtain ⟨m, rfl⟩ : ∃ m, n = m + 1 := ⟨n - 1, by omega⟩
 obtain ⟨g, c', hv, hb, hlt⟩ := own_form h.own
 simp only [Value.slice.injEq] at hv
 obtain ⟨rfl, _, rfl⟩ := hv
 exact own_IsL hlt (hq _ hb) h.own (fun i hi => IsL.weak (fun _ _ h => h.1) _ (h.kid i hi)) (by omega)
theorem grown_obs (hgr : W.grownBy W' (Value.slice A n c).ownBlock) : Mod (obs A) W W' := by
 refine (Mod.refl _ _).grown hgr (fun k hk => .inl ?_)
 cases A with
 | none => cases hk
 | some g =>
  have : g.block = k := by simpa [Value.ownBlock] using hk
  simp [obs, this]
theorem Rw.append (h : Rw W Q base A c n ch ac) {t : T} {At : Option Addr} {ct : Nat} (hI : IsL W (fun b => Q b ∧ offA A b) t At) (ht : ch n = t) {g cap : Nat}
  (hown : W'.ownsRow base 52 5 (.slice (some ⟨g, 0, none⟩) (n + 1) cap) (n + 1) (flatC ch ac n ++ [.int .i64 t.kind, .int .u64 (t.n : Int), str t.s, .slice At t.k ct, .bool t.op]))
  (hgr : W.grownBy W' (Value.slice A n c).ownBlock) (hat : (Value.slice A n c).ownBlock = some g ∨ g = W.heap.size) : ∃ ac', Rw W' Q base (some ⟨g, 0, none⟩) cap (n + 1) ch ac' := by
 subst ht
 have hm : Mod (obs A) W W' := grown_obs hgr
 have key : ∀ {x : T} {Ax : Option Addr}, IsL W (fun b => Q b ∧ offA A b) x Ax → IsL W' (fun b => Q b ∧ offA (some ⟨g, 0, none⟩) b) x Ax := by
  intro x Ax hx
  have h1 := IsL.weak (R := fun b => (Q b ∧ offA A b) ∧ b ≠ g) (fun b hb hq => ⟨hq, by
   rcases hat with hat | hat
   ·
    cases A with
    | none => cases hat
    | some a =>
     have : a.block = g := by simpa [Value.ownBlock] using hat
     rw [← this]; exact hq.2 a rfl
   · omega⟩) _ hx
  have h2 := IsL.mod hm (fun k hk _ => offA_obs hk.1.2) _ h1
  exact IsL.weak (fun b _ hq => ⟨hq.1.1, fun g' hg' => by cases hg'; exact hq.2⟩) _ h2
 refine ⟨fun j => if j = n then (At, ct) else ac j, ?_, fun j hj => ?_⟩
 ·
  rw [flatC, flatC_congr (ch' := ch) (ac' := ac) (fun j hj => ⟨rfl, by rw [if_neg (by omega)]⟩)]
  simpa using hown
 ·
  by_cases e : j = n
  ·
   subst e
   simpa using key hI
  · simpa [e] using key (h.kid j (by omega))
theorem Rw.weak {R : Nat → Prop} (h : Rw W Q base A c n ch ac) (hq : ∀ k, k < W.heap.size → Q k → R k) : Rw W R base A c n ch ac :=
 ⟨h.own, fun j hj => IsL.weak (fun b hb hh => ⟨hq b hb hh.1, hh.2⟩) _ (h.kid j hj)⟩
end
end Go.Proofs.YtfgipgpbjfhflaaGreat


namespace Go.Proofs.YtfgipgpbjfhflaaGreat
open Go.RowKit
set_option linter.unusedVariables false
set_option linter.unusedSimpArgs false

/-- The primary that has been read so far. -/
def pAt (p : PV) (i : Nat) : PV := if i = 0 then nilP else p
theorem pAt_s (p : PV) {i : Nat} (h : i ≠ 0) : pAt p i = p := if_neg h
theorem IsC.kid {W : World} {Q : Nat → Prop} {t : T} {b o c : Nat} (h : IsC W Q t (some ⟨b, o, none⟩) c) {i : Nat} (hi : i < t.k) : b < W.heap.size ∧ ∃ Ai ci, At5 W b (o + i * 5) (t.ch i) Ai ci ∧ IsC W Q (t.ch i) Ai ci := by
 cases t with
 | nil => exact absurd h id
 | mk kd n s op k ch =>
  obtain ⟨b', o', hA, hb, _, hc⟩ := h.2 (by have hi : i < k := hi; omega)
  cases hA
  exact ⟨hb, hc i hi⟩
/-- What read hands back of a right bundle. -/
def RdBun (p : PV) (bs : Nat → BV) (k : Nat) (w : World) (e : Ending) (w' : World) : Prop := ∃ A' c', e = .returned (.tuple #[bunV p A' k c', .int .i64 (-1), .int .i64 0]) ∧ Ext w w' ∧ BsL w' A' k bs ∧ ∀ g, A' = some g → w.heap.size ≤ g.block
set_option maxRecDepth 20000 in
set_option maxHeartbeats 16000000 in
theorem bread_ok {p : PV} {bs : Nat → BV} {k : Nat} (h : BunR p bs k) {t : T} (ht : BunTree p bs k t) (b o c : Nat) (w : World) (hl : IsC w (fun _ => True) t (some ⟨b, o, none⟩) c) : Calls Tryz.prog 21 #[.slice (some ⟨b, o, none⟩) t.k c] w (RdBun p bs k w) := by
 have HH := hid h
 have HT := hid ht
 have HL := hid hl
 have hkk : t.k = k + 1 := ht.kk
 rw [hkk]
 have HKK := hid hkk
 have k16 : (k : Int) ≤ 16 := by have := h.kh; omega
 have k0 : (0 : Int) ≤ (k : Int) := by omega
 clear h ht hl hkk
 have HE := hid (((Mod.refl [] w).alloc (.cells #[.int .u64 0, .int .i64 0, .int .i64 0, .string ⟨#[]⟩, .int .u64 0, .int .u64 0, .int .i64 0, .string ⟨#[]⟩, .int .u64 0, .int .u64 0, .int .i64 0, .string ⟨#[]⟩, .int .u64 0, .int .u64 0, .int .u64 0, .int .u64 0, .int .u64 0, .int .u64 0, .int .u64 0, .slice none 0 0] 29)).alloc (.cells #[.int .u64 0, .int .i64 0, .int .i64 0, .string ⟨#[]⟩, .int .u64 0, .int .u64 0, .int .i64 0, .string ⟨#[]⟩, .int .u64 0, .int .u64 0, .int .i64 0, .string ⟨#[]⟩, .int .u64 0, .int .u64 0, .int .u64 0, .int .u64 0, .int .u64 0, .int .u64 0, .int .u64 0, .slice none 0 0] 29))
 have HB0 : Hid (Blk ((w.alloc (.cells #[.int .u64 0, .int .i64 0, .int .i64 0, .string ⟨#[]⟩, .int .u64 0, .int .u64 0, .int .i64 0, .string ⟨#[]⟩, .int .u64 0, .int .u64 0, .int .i64 0, .string ⟨#[]⟩, .int .u64 0, .int .u64 0, .int .u64 0, .int .u64 0, .int .u64 0, .int .u64 0, .int .u64 0, .slice none 0 0] 29)).alloc (.cells #[.int .u64 0, .int .i64 0, .int .i64 0, .string ⟨#[]⟩, .int .u64 0, .int .u64 0, .int .i64 0, .string ⟨#[]⟩, .int .u64 0, .int .u64 0, .int .i64 0, .string ⟨#[]⟩, .int .u64 0, .int .u64 0, .int .u64 0, .int .u64 0, .int .u64 0, .int .u64 0, .int .u64 0, .slice none 0 0] 29)) w.heap.size 29 #[.int .u64 0, .int .i64 0, .int .i64 0, .string ⟨#[]⟩, .int .u64 0, .int .u64 0, .int .i64 0, .string ⟨#[]⟩, .int .u64 0, .int .u64 0, .int .i64 0, .string ⟨#[]⟩, .int .u64 0, .int .u64 0, .int .u64 0, .int .u64 0, .int .u64 0, .int .u64 0, .int .u64 0, .slice none 0 0]) := hid ((Blk.new w 29 #[.int .u64 0, .int .i64 0, .int .i64 0, .string ⟨#[]⟩, .int .u64 0, .int .u64 0, .int .i64 0, .string ⟨#[]⟩, .int .u64 0, .int .u64 0, .int .i64 0, .string ⟨#[]⟩, .int .u64 0, .int .u64 0, .int .u64 0, .int .u64 0, .int .u64 0, .int .u64 0, .int .u64 0, .slice none 0 0]).alloc (.cells #[.int .u64 0, .int .i64 0, .int .i64 0, .string ⟨#[]⟩, .int .u64 0, .int .u64 0, .int .i64 0, .string ⟨#[]⟩, .int .u64 0, .int .u64 0, .int .i64 0, .string ⟨#[]⟩, .int .u64 0, .int .u64 0, .int .u64 0, .int .u64 0, .int .u64 0, .int .u64 0, .int .u64 0, .slice none 0 0] 29))
 have HB1 : Hid (Blk ((w.alloc (.cells #[.int .u64 0, .int .i64 0, .int .i64 0, .string ⟨#[]⟩, .int .u64 0, .int .u64 0, .int .i64 0, .string ⟨#[]⟩, .int .u64 0, .int .u64 0, .int .i64 0, .string ⟨#[]⟩, .int .u64 0, .int .u64 0, .int .u64 0, .int .u64 0, .int .u64 0, .int .u64 0, .int .u64 0, .slice none 0 0] 29)).alloc (.cells #[.int .u64 0, .int .i64 0, .int .i64 0, .string ⟨#[]⟩, .int .u64 0, .int .u64 0, .int .i64 0, .string ⟨#[]⟩, .int .u64 0, .int .u64 0, .int .i64 0, .string ⟨#[]⟩, .int .u64 0, .int .u64 0, .int .u64 0, .int .u64 0, .int .u64 0, .int .u64 0, .int .u64 0, .slice none 0 0] 29)) (w.heap.size + 1) 29 #[.int .u64 0, .int .i64 0, .int .i64 0, .string ⟨#[]⟩, .int .u64 0, .int .u64 0, .int .i64 0, .string ⟨#[]⟩, .int .u64 0, .int .u64 0, .int .i64 0, .string ⟨#[]⟩, .int .u64 0, .int .u64 0, .int .u64 0, .int .u64 0, .int .u64 0, .int .u64 0, .int .u64 0, .slice none 0 0]) := by unfold Hid; exact Blk.newL _ _ _ (by simp)
 go_enter Tryz.func21, Tryz.ntmps21
 go_upto_region 2 with fail
 have HVS : Hid (w.heap.size + 2 = (((w.alloc (.cells #[.int .u64 0, .int .i64 0, .int .i64 0, .string ⟨#[]⟩, .int .u64 0, .int .u64 0, .int .i64 0, .string ⟨#[]⟩, .int .u64 0, .int .u64 0, .int .i64 0, .string ⟨#[]⟩, .int .u64 0, .int .u64 0, .int .u64 0, .int .u64 0, .int .u64 0, .int .u64 0, .int .u64 0, .slice none 0 0] 29)).alloc (.cells #[.int .u64 0, .int .i64 0, .int .i64 0, .string ⟨#[]⟩, .int .u64 0, .int .u64 0, .int .i64 0, .string ⟨#[]⟩, .int .u64 0, .int .u64 0, .int .i64 0, .string ⟨#[]⟩, .int .u64 0, .int .u64 0, .int .u64 0, .int .u64 0, .int .u64 0, .int .u64 0, .int .u64 0, .slice none 0 0] 29))).heap.size) := hid (by simp)
 generalize (((w.alloc (.cells #[.int .u64 0, .int .i64 0, .int .i64 0, .string ⟨#[]⟩, .int .u64 0, .int .u64 0, .int .i64 0, .string ⟨#[]⟩, .int .u64 0, .int .u64 0, .int .i64 0, .string ⟨#[]⟩, .int .u64 0, .int .u64 0, .int .u64 0, .int .u64 0, .int .u64 0, .int .u64 0, .int .u64 0, .slice none 0 0] 29)).alloc (.cells #[.int .u64 0, .int .i64 0, .int .i64 0, .string ⟨#[]⟩, .int .u64 0, .int .u64 0, .int .i64 0, .string ⟨#[]⟩, .int .u64 0, .int .u64 0, .int .i64 0, .string ⟨#[]⟩, .int .u64 0, .int .u64 0, .int .u64 0, .int .u64 0, .int .u64 0, .int .u64 0, .int .u64 0, .slice none 0 0] 29))) = V at *
 go_upto_region 4 with fail
 go_loopw [6, 15] (fun s6 s15 wr => ∃ (i a : Nat) (A' : Option Addr) (c' : Nat), s15 = .int .i64 (i : Int) ∧ s6 = .int .i64 (a : Int) ∧ Hid (i ≤ k + 1 ∧ a ≤ 1 + i * 4000 ∧ Ext w wr ∧ V.heap.size ≤ wr.heap.size ∧ Blk wr w.heap.size 29 #[.int .u64 0, .int .i64 0, .int .i64 0, .string ⟨#[]⟩, .int .u64 0, .int .u64 0, .int .i64 0, .string ⟨#[]⟩, .int .u64 0, .int .u64 0, .int .i64 0, .string ⟨#[]⟩, .int .u64 0, .int .u64 0, .int .u64 0, .int .u64 0, .int .u64 0, .int .u64 0, .int .u64 0, .slice none 0 0] ∧ Blk wr (w.heap.size + 1) 29 (bunC (pAt p i) A' (i - 1) c') ∧ wr.ownsRow V.heap.size 42 5 (.slice A' (i - 1) c') (i - 1) (flatB bs (i - 1)))) (fun _ s15 _ => (k + 1) - (intOf s15).toNat)
 case atStart => exact ⟨0, 1, none, 0, rfl, rfl, (show Hid _ from ⟨Nat.zero_le _, by omega, HE.out, Nat.le_refl _, HB0.out, HB1.out, World.ownsRow_nil _ _ _ _⟩)⟩
 case round =>
  obtain ⟨i, a, A', c', rfl, rfl, hS⟩ := hrel
  rename World => wr
  have HS := hid hS.out
  clear hS
  have i0 : (0 : Int) ≤ (i : Int) := by omega
  have a0' : (0 : Int) ≤ (a : Int) := by omega
  have a1' : (a : Int) ≤ 70000 := by have := HS.out.1; have := HS.out.2.1; omega
  by_cases hlt : i < k + 1
  ·
   have tc : decide (i < k + 1) = true := by simp [hlt]
   have i1 : (i : Int) < (k : Int) + 1 := by omega
   have td : decide ((i : Int) < (k : Int) + 1) = true := by rw [decide_eq_true_eq]; omega
   have te : decide ((i : Int) < ((k + 1 : Nat) : Int)) = true := by rw [decide_eq_true_eq]; omega
   obtain ⟨hbl, Ai, ci, hat, hIi⟩ := HL.out.kid (i := i) (by rw [HKK.out]; exact hlt)
   have HLT := hid hlt
   have hat2 := (hat.mod HS.out.2.2.1 hbl (by simp))
   have q0 : wr.cell? ⟨b, o + i * 5, none⟩ = _ := hat2.1
   have q1 : wr.cell? ⟨b, o + i * 5 + 1, none⟩ = _ := hat2.2.1
   have q2 : wr.cell? ⟨b, o + i * 5 + 2, none⟩ = _ := hat2.2.2.1
   have q3 : wr.cell? ⟨b, o + i * 5 + 3, none⟩ = _ := hat2.2.2.2.1
   have q4 : wr.cell? ⟨b, o + i * 5 + 4, none⟩ = _ := hat2.2.2.2.2
   have HII : Hid (IsL wr (fun b => b < w.heap.size) (t.ch i) Ai) := hid ((IsL.weak (fun b hb _ => hb) _ hIi.isL).ext HS.out.2.2.1)
   have HCAP := hid hIi.cap
   clear hlt hat hat2 hIi hbl
   go_upto_region 6 with fail
   generalize hW1 : World.alloc wr _ = W1
   have HG1 : Hid (Blk W1 wr.heap.size 52 (itemC (t.ch i) Ai ci)) := hid (by rw [← hW1]; exact Blk.new _ _ _)
   have HXW : Hid (Ext wr W1) := hid (by rw [← hW1]; exact (Mod.refl [] _).alloc _)
   have HIW := hid (HII.out.ext HXW.out)
   have HWW := hid (HS.out.2.2.1.trans HXW.out)
   have HB0W := hid (HS.out.2.2.2.2.1.ext HXW.out)
   have HB1W := hid (HS.out.2.2.2.2.2.1.ext HXW.out)
   have HRW := hid (ownsRow_mod HS.out.2.2.2.2.2.2 HXW.out (fun _ _ => by simp))
   have HAG : Hid (∀ g, A' = some g → g.block < wr.heap.size) := hid (fun g hg => (HS.out.2.2.2.2.2.2.lt g.block (by subst hg; rfl)).2)
   have HGN : Hid (V.heap.size ≤ wr.heap.size ∧ w.heap.size + 2 = V.heap.size) := hid ⟨HS.out.2.2.2.1, HVS.out⟩
   have HWS : Hid (wr.heap.size ≤ W1.heap.size) := hid HXW.out.size
   clear hW1 q0 q1 q2 q3 q4 HII HXW
   generalize wr.heap.size = G at *
   have HOK := hid (HT.out.ok i (by rw [HKK.out]; exact HLT.out))
   have HRT := hid (HT.out.r i (by rw [HKK.out]; exact HLT.out))
   have HSZ := hid (HT.out.s i (by rw [HKK.out]; exact HLT.out))
   have HBY : Hid ((t.ch i).bytes.length ≤ 4000) := hid (HT.out.y i (by rw [HKK.out]; exact HLT.out))
   have HBD : Hid (∀ W, IsL W (fun b => b < w.heap.size) (t.ch i) Ai → Calls Tryz.prog 35 #[itemV (t.ch i) Ai ci] W (Ret (.tuple #[str (t.ch i).bytes, .int .i64 0]) W)) := hid (fun W hW => by
    have h := iBuild_any (t.ch i) HOK.out (by have := HSZ.out; omega) Ai ci W (IsL.weak (fun _ _ _ => trivial) _ hW)
    unfold buildV at h
    rw [if_pos HRT.out] at h
    exact h)
   have bl0 : (0 : Int) ≤ ((t.ch i).bytes.length : Int) := by omega
   have bl1 : ((t.ch i).bytes.length : Int) ≤ 4000 := by have := HBY.out; omega
   by_cases hi0 : i = 0
   ·
    have HPO : Hid (∀ W, IsL W (fun b => b < w.heap.size) (t.ch i) Ai → Calls Tryz.prog 33 #[itemV (t.ch i) Ai ci] W (Ret (.tuple #[.agg p.c, .int .i64 0]) W)) := hid (fun W hW => by
     have h := pof_any (t.ch i) HOK.out (by have := HSZ.out; omega) Ai ci HCAP.out W (IsL.weak (fun _ _ _ => trivial) _ hW)
     unfold ofPV at h
     rw [of_back HH.out.pr HRT.out HOK.out (by have := HSZ.out; omega) (by rw [hi0]; exact HT.out.pt)] at h
     exact h)
    have HI0 := hid hi0
    have u1a : (((i : Int)) == (0)) = true := by rw [beq_iff_eq]; omega
    have u1b : (((i : Int)) = (0)) = True := eq_true (by omega)
    have u1c : (((i : Int)) != (0)) = false := by rw [bne_eq_false_iff_eq]; omega
    have u2a : ((i) == (0)) = true := by rw [beq_iff_eq]; exact hi0
    have u2b : ((i) = (0)) = True := eq_true (by exact hi0)
    have u2c : ((i) != (0)) = false := by rw [bne_eq_false_iff_eq]; exact hi0
    obtain ⟨zp, hzp⟩ : ∃ zp, p.c = zp := ⟨_, rfl⟩
    have HZP := hid hzp
    have HZI : Hid ((Tryz.prog.info? 26).map (·.size) = some zp.size) := hid (by rw [← hzp]; kernel_rfl)
    have HZO : Hid (zp.all (·.oneCell') = true) := hid (by rw [← hzp]; simp [Value.oneCell'])
    have HZS : Hid (zp.size = 19) := hid (by rw [← hzp]; rfl)
    rw [hzp] at HPO
    clear hzp hi0
    have tk1 : True := trivial
    have tk2 : True := trivial
    obtain ⟨e, he⟩ := Later.self W1
    rw [he]
    clear he
    go_upto_region 12 with (first | (clear tk1; refine wpList_row (by rfl) 52 _ rfl _ rfl (HG1.out.later e) Tryz.underlying52 rfl (by kernel_rfl) ?_) | (go_at_call 33; refine (Ret.later (HPO.out _ (HIW.out.ext e.h))).mono ?_; rintro x _ ⟨rfl, e, rfl⟩) | (clear tk2; refine wpList_store_mid rfl 26 _ _ rfl (w.heap.size + 1) 0 zp (by rfl) (by rfl) ((HB1W.out.later e).there (by rw [HZS.out]; show 19 ≤ 20; omega)) HZI.out HZO.out ?_))
    generalize hW2 : World.setCells _ _ _ _ = W2
    have HMU : Hid (Mod [w.heap.size + 1] W1 W2) := hid (by rw [← hW2]; exact setCells_mod _ _ (e.h.mono (by simp)) (.inl (by simp)))
    have HB2 : Hid (Blk W2 (w.heap.size + 1) 29 (bunC p A' (i - 1) c')) := hid (by
     have h := setCells_pre (HB1W.out.later e) zp.toList (Value.slice A' (i - 1) c') (by rw [Array.length_toList, HZS.out]; rfl) (by rw [Array.length_toList, HZS.out]; rfl)
     rw [hW2] at h
     rw [show bunC p A' (i - 1) c' = (zp.toList ++ [Value.slice A' (i - 1) c']).toArray by rw [← HZP.out]; rfl]
     exact h)
    have HG2 : Hid (Blk W2 G 52 (itemC (t.ch i) Ai ci)) := hid (HG1.out.mod HMU.out (by have := HGN.out; simp; omega))
    have HI2 : Hid (IsL W2 (fun b => b < w.heap.size) (t.ch i) Ai) := hid (IsL.mod HMU.out (fun k hk _ => by have hk : k < w.heap.size := hk; simp; omega) _ HIW.out)
    have HWW2 : Hid (Ext w W2) := hid (by rw [← hW2]; exact setCells_mod _ _ (HWW.out.trans e.h) (.inr (by omega)))
    have HB02 : Hid (Blk W2 w.heap.size 29 #[.int .u64 0, .int .i64 0, .int .i64 0, .string ⟨#[]⟩, .int .u64 0, .int .u64 0, .int .i64 0, .string ⟨#[]⟩, .int .u64 0, .int .u64 0, .int .i64 0, .string ⟨#[]⟩, .int .u64 0, .int .u64 0, .int .u64 0, .int .u64 0, .int .u64 0, .int .u64 0, .int .u64 0, .slice none 0 0]) := hid (HB0W.out.mod HMU.out (by simp))
    have HRW2 : Hid (W2.ownsRow V.heap.size 42 5 (.slice A' (i - 1) c') (i - 1) (flatB bs (i - 1))) := hid (ownsRow_mod HRW.out HMU.out (fun k hk => by have := (HRW.out.lt k hk).1; have := HGN.out; simp; omega))
    have HS2 : Hid (V.heap.size ≤ W2.heap.size) := hid (by have := HMU.out.size; have := HWS.out; have := HGN.out; omega)
    clear hW2 HMU HG1 HIW HB0W HB1W HRW HPO e
    have tk1 : True := trivial
    obtain ⟨e, he⟩ := Later.self W2
    rw [he]
    clear he
    go_wp2_with (first | (clear tk1; refine wpList_row (by rfl) 52 _ rfl _ rfl (HG2.out.later e) Tryz.underlying52 rfl (by kernel_rfl) ?_) | (go_at_call 35; refine (Ret.later (HBD.out _ (HI2.out.ext e.h))).mono ?_; rintro x _ ⟨rfl, e, rfl⟩))
    go_roundw
    case rel =>
     refine ⟨i + 1, a + (t.ch i).bytes.length, A', c', by first | rfl | go_num, by first | rfl | go_num, (show Hid _ from ⟨HLT.out, ?_, HWW2.out.trans e.h, Nat.le_trans HS2.out e.h.size, HB02.out.ext e.h, ?_, ?_⟩)⟩
     · have := HS.out.2.1; have := HBY.out; omega
     · rw [pAt_s p (by omega), show i + 1 - 1 = i - 1 by have := HI0.out; omega]; exact HB2.out.ext e.h
     · rw [show i + 1 - 1 = i - 1 by have := HI0.out; omega]; exact ownsRow_mod HRW2.out e.h (fun _ _ => by simp)
    case measure => have := HLT.out; simp [intOf]; omega
   ·
    have HBO : Hid (∀ W, IsL W (fun b => b < w.heap.size) (t.ch i) Ai → Calls Tryz.prog 34 #[itemV (t.ch i) Ai ci] W (Ret (.tuple #[(bs (i - 1)).v, .int .i64 0]) W)) := hid (fun W hW => by
     have hb := HT.out.bt (i - 1) (by have := HLT.out; omega)
     rw [show i - 1 + 1 = i by omega] at hb
     exact bOf_fin (HH.out.br (i - 1) (by have := HLT.out; omega)) HOK.out HRT.out hb Ai ci W (IsL.weak (fun _ _ _ => trivial) _ hW))
    have HI0 := hid hi0
    have HPI : Hid (pAt p i = p) := hid (pAt_s p hi0)
    have u1a : (((i : Int)) == (0)) = false := by rw [beq_eq_false_iff_ne]; omega
    have u1b : (((i : Int)) = (0)) = False := eq_false (by omega)
    have u1c : (((i : Int)) != (0)) = true := by rw [bne_iff_ne]; omega
    have u2a : ((i) == (0)) = false := by rw [beq_eq_false_iff_ne]; exact hi0
    have u2b : ((i) = (0)) = False := eq_false (by exact hi0)
    have u2c : ((i) != (0)) = true := by rw [bne_iff_ne]; exact hi0
    clear hi0
    rw [HPI.out] at HB1W
    obtain ⟨j, hj⟩ : ∃ j, i - 1 = j := ⟨_, rfl⟩
    rw [hj] at HBO HB1W HRW
    have HJ := hid hj
    clear hj
    go_upto_region 10 with fail
    generalize hW2 : World.alloc W1 _ = W2
    have HY2 : Hid (Blk W2 W1.heap.size 42 zeroB.c) := hid (by rw [← hW2]; exact Blk.new _ _ _)
    have HX2 : Hid (Ext W1 W2) := hid (by rw [← hW2]; exact (Mod.refl [] _).alloc _)
    have HG2 := hid (HG1.out.ext HX2.out)
    have HI2 := hid (HIW.out.ext HX2.out)
    have HB02 := hid (HB0W.out.ext HX2.out)
    have HB12 := hid (HB1W.out.ext HX2.out)
    have HR2 := hid (ownsRow_mod HRW.out HX2.out (fun _ _ => by simp))
    have HWW2 := hid (HWW.out.trans HX2.out)
    have HYN : Hid (G < W1.heap.size ∧ V.heap.size ≤ W1.heap.size) := hid ⟨HG1.out.lt, by have := HWS.out; have := HGN.out; omega⟩
    have HAN : Hid (∀ g, A' = some g → V.heap.size ≤ g.block ∧ g.block < W1.heap.size) := hid (fun g hg => HRW.out.lt g.block (by subst hg; rfl))
    clear hW2 HX2 HG1 HIW HB0W HB1W HRW HWW
    generalize W1.heap.size = Y at *
    obtain ⟨bb, hbb⟩ : ∃ bb, bs j = bb := ⟨_, rfl⟩
    rw [hbb] at HBO
    have HBBE := hid hbb
    clear hbb
    have tk1 : True := trivial
    have tk2 : True := trivial
    obtain ⟨e, he⟩ := Later.self W2
    rw [he]
    clear he
    go_upto_region 11 with (first | (clear tk1; refine wpList_row (by rfl) 52 _ rfl _ rfl (HG2.out.later e) Tryz.underlying52 rfl (by kernel_rfl) ?_) | (go_at_call 34; refine (Ret.later (HBO.out _ (HI2.out.ext e.h))).mono ?_; rintro x _ ⟨rfl, e, rfl⟩) | (clear tk2; refine wpList_store_mid rfl 42 _ _ rfl Y 0 (BV.c bb) (by rfl) (by rfl) ((HY2.out.later e).there (Nat.le_refl 5)) (by kernel_rfl) (by simp [Value.oneCell']) ?_))
    generalize hW3 : World.setCells _ _ _ _ = W3
    have HMU : Hid (Mod [Y] W2 W3) := hid (by rw [← hW3]; exact setCells_mod _ _ (e.h.mono (by simp)) (.inl (by simp)))
    have HY3 : Hid (Blk W3 Y 42 (BV.c bb)) := hid (by rw [← hW3]; exact setCells_all (ds := BV.c bb) (HY2.out.later e) rfl)
    have HG3 : Hid (Blk W3 G 52 (itemC (t.ch i) Ai ci)) := hid (HG2.out.mod HMU.out (by have := HYN.out; simp; omega))
    have HI3 : Hid (IsL W3 (fun b => b < w.heap.size) (t.ch i) Ai) := hid (IsL.mod HMU.out (fun k hk _ => by have hk : k < w.heap.size := hk; have := HYN.out; have := HGN.out; simp; omega) _ HI2.out)
    have HB03 : Hid (Blk W3 w.heap.size 29 #[.int .u64 0, .int .i64 0, .int .i64 0, .string ⟨#[]⟩, .int .u64 0, .int .u64 0, .int .i64 0, .string ⟨#[]⟩, .int .u64 0, .int .u64 0, .int .i64 0, .string ⟨#[]⟩, .int .u64 0, .int .u64 0, .int .u64 0, .int .u64 0, .int .u64 0, .int .u64 0, .int .u64 0, .slice none 0 0]) := hid (HB02.out.mod HMU.out (by have := HYN.out; have := HGN.out; simp; omega))
    have HB13 : Hid (Blk W3 (w.heap.size + 1) 29 (bunC p A' j c')) := hid (HB12.out.mod HMU.out (by have := HYN.out; have := HGN.out; simp; omega))
    have HR3 : Hid (W3.ownsRow V.heap.size 42 5 (.slice A' j c') j (flatB bs j)) := hid (ownsRow_mod HR2.out HMU.out (fun k hk => by
     cases A' with
     | none => cases hk
     | some g =>
      have h1 : g.block = k := by simpa [Value.ownBlock] using hk
      have := (HAN.out g rfl).2
      simp; omega))
    have HWW3 : Hid (Ext w W3) := hid (by rw [← hW3]; exact setCells_mod _ _ (HWW2.out.trans e.h) (.inr (by have := HYN.out; have := HGN.out; omega)))
    clear hW3 HMU HY2 HG2 HI2 HB02 HB12 HR2 HWW2 HBO e
    obtain ⟨ib, hi, hz0, hz1, hz2⟩ := info_parts infoBlock
    have HRA : Hid (∀ o : Obj, (W3.alloc o).ownsRow V.heap.size 42 5 (.slice A' j c') j (flatB bs j)) := hid (fun o => ownsRow_mod HR3.out ((Mod.refl [] W3).alloc _) (fun _ _ => by simp))
    have x19 : W3.cell? ⟨w.heap.size + 1, 19, none⟩ = some (.slice A' j c') := HB13.out.cell 19
    have y0 : W3.cell? ⟨Y, 0, none⟩ = some (.int .i64 bb.ty) := HY3.out.cell 0
    have y1 : W3.cell? ⟨Y, 1, none⟩ = some (.int .i64 bb.num) := HY3.out.cell 1
    have y2 : W3.cell? ⟨Y, 2, none⟩ = some (.int .u64 (bb.fl : Int)) := HY3.out.cell 2
    have y3 : W3.cell? ⟨Y, 3, none⟩ = some (.int .i64 bb.crc) := HY3.out.cell 3
    have y4 : W3.cell? ⟨Y, 4, none⟩ = some (str bb.data) := HY3.out.cell 4
    have HJ16 : Hid (j ≤ 16) := hid (by have := HJ.out; have := HLT.out; have := HH.out.kh; omega)
    have HVY : Hid (V.heap.size ≤ W3.heap.size) := hid (by have := HYN.out.2; have := HY3.out.lt; omega)
    go_upto_region 12 with (at_builtin; refine wpList_append_lies _ rfl _ _ 27 rfl V.heap.size 42 ib _ 5 48 Tryz.underlying27 hi hz0 hz1 hz2 rfl (by decide) _ j _ rfl (HRA.out _) ⟨W3.heap.size, 0, none⟩ 1 1 [.int .i64 bb.ty, .int .i64 bb.num, .int .u64 (bb.fl : Int), .int .i64 bb.crc, str bb.data] rfl rfl (newsB W3 bb) (oneB bb) (by decide) (by have := HJ16.out; unfold maxLen; omega) (by have := HJ16.out; omega) (by have := HVY.out; simp; omega) _ rfl ?_; intro g4 c4 w4 hown' hgr' hat' hlt'; have HO4 := hid hown'; have HB14 := hid (own_far (HRA.out _) hgr' (HB13.out.alloc _) (by have := HGN.out; omega)); have x20 : w4.cell? ⟨w.heap.size + 1, 19, none⟩ = some (.slice A' j c') := HB14.out.cell 19; have x20f := HB14.out.frozen 19; have HM4 := hid (((Mod.refl (obs A') W3).alloc _).trans (grown_obs hgr')); clear hown' hgr' hat' hlt')
    generalize hW5 : World.setCell w4 ⟨w.heap.size + 1, 19, none⟩ _ = W5
    have HM5 : Hid (Mod [w.heap.size + 1] w4 W5) := hid (by rw [← hW5]; exact (Mod.refl [w.heap.size + 1] w4).setCell (.inl (by simp)) _)
    have HB15 : Hid (Blk W5 (w.heap.size + 1) 29 (bunC p (some ⟨g4, 0, none⟩) (j + 1) c4)) := hid (by rw [← hW5]; exact HB14.out.set_ 19 _)
    have HO5 : Hid (W5.ownsRow V.heap.size 42 5 (.slice (some ⟨g4, 0, none⟩) (j + 1) c4) (j + 1) (flatB bs (j + 1))) := hid (by
     have h : w4.ownsRow V.heap.size 42 5 (.slice (some ⟨g4, 0, none⟩) (j + 1) c4) (j + 1) (flatB bs (j + 1)) := by
      rw [flatB, HBBE.out]; exact HO4.out
     exact ownsRow_mod h HM5.out (fun k hk => by have := (h.lt k hk).1; have := HGN.out; simp; omega))
    have HNA : Hid (∀ k, k < V.heap.size → k ∉ obs A') := hid (fun k hk => offA_obs (fun g hg => by have := (HAN.out g hg).1; omega))
    have HG5 : Hid (Blk W5 G 52 (itemC (t.ch i) Ai ci)) := hid ((HG3.out.mod HM4.out (offA_obs (fun g hg => by have := HAG.out g hg; omega))).mod HM5.out (by have := HGN.out; simp; omega))
    have HI5 : Hid (IsL W5 (fun b => b < w.heap.size) (t.ch i) Ai) := hid (IsL.mod HM5.out (fun k hk _ => by have hk : k < w.heap.size := hk; simp; omega) _ (IsL.mod HM4.out (fun k hk _ => HNA.out k (by have hk : k < w.heap.size := hk; have := HGN.out; omega)) _ HI3.out))
    have HB05 : Hid (Blk W5 w.heap.size 29 #[.int .u64 0, .int .i64 0, .int .i64 0, .string ⟨#[]⟩, .int .u64 0, .int .u64 0, .int .i64 0, .string ⟨#[]⟩, .int .u64 0, .int .u64 0, .int .i64 0, .string ⟨#[]⟩, .int .u64 0, .int .u64 0, .int .u64 0, .int .u64 0, .int .u64 0, .int .u64 0, .int .u64 0, .slice none 0 0]) := hid ((HB03.out.mod HM4.out (HNA.out _ (by have := HGN.out; omega))).mod HM5.out (by simp))
    have HWW5 : Hid (Ext w W5) := hid (by
     have h4 : Ext w w4 := ((Mod.of_ext (S := obs A') HWW3.out).trans HM4.out).new (fun k hk => .inr (by
      rcases Nat.lt_or_ge k V.heap.size with h | h
      · exact absurd hk (HNA.out k h)
      · have := HGN.out; omega))
     exact ((Mod.of_ext (S := [w.heap.size + 1]) h4).trans HM5.out).new (fun k hk => .inr (by rw [List.mem_singleton] at hk; omega)))
    have HS5 : Hid (V.heap.size ≤ W5.heap.size) := hid (by have := HVY.out; have := HM4.out.size; have := HM5.out.size; omega)
    clear hW5 HM4 HM5 HB14 HO4 HG3 HI3 HB03 HB13 HR3 HWW3 HRA x19 x20 x20f y0 y1 y2 y3 y4 HY3
    have tk1 : True := trivial
    obtain ⟨e, he⟩ := Later.self W5
    rw [he]
    clear he
    go_wp2_with (first | (clear tk1; refine wpList_row (by rfl) 52 _ rfl _ rfl (HG5.out.later e) Tryz.underlying52 rfl (by kernel_rfl) ?_) | (go_at_call 35; refine (Ret.later (HBD.out _ (HI5.out.ext e.h))).mono ?_; rintro x _ ⟨rfl, e, rfl⟩))
    go_roundw
    case rel =>
     refine ⟨i + 1, a + (t.ch i).bytes.length, some ⟨g4, 0, none⟩, c4, by first | rfl | go_num, by first | rfl | go_num, (show Hid _ from ⟨HLT.out, ?_, HWW5.out.trans e.h, Nat.le_trans HS5.out e.h.size, HB05.out.ext e.h, ?_, ?_⟩)⟩
     · have := HS.out.2.1; have := HBY.out; omega
     · rw [pAt_s p (by omega), show i + 1 - 1 = j + 1 by have := HJ.out; have := HI0.out; omega]; exact HB15.out.ext e.h
     · rw [show i + 1 - 1 = j + 1 by have := HJ.out; have := HI0.out; omega]; exact ownsRow_mod HO5.out e.h (fun _ _ => by simp)
    case measure => have := HLT.out; simp [intOf]; omega
  ·
   obtain rfl : i = k + 1 := by have := HS.out.1; omega
   have tc : decide (k + 1 < k + 1) = false := by simp
   have td : decide ((k : Int) + 1 < (k : Int) + 1) = false := by simp
   have te : decide (((k + 1 : Nat) : Int) < ((k + 1 : Nat) : Int)) = false := by simp
   have HBF : Hid (Blk wr (w.heap.size + 1) 29 (bunC p A' k c')) := hid (by have h := HS.out.2.2.2.2.2.1; rwa [pAt_s p (by omega), show k + 1 - 1 = k by omega] at h)
   have HRF : Hid (wr.ownsRow V.heap.size 42 5 (.slice A' k c') k (flatB bs k)) := hid (by have h := HS.out.2.2.2.2.2.2; rwa [show k + 1 - 1 = k by omega] at h)
   obtain ⟨zc, hzc⟩ : ∃ zc, bunC p A' k c' = zc := ⟨_, rfl⟩
   have HZE := hid hzc
   have HZI : Hid ((Tryz.prog.info? 29).map (·.size) = some zc.size) := hid (by rw [← hzc]; kernel_rfl)
   have HZO : Hid (zc.all (·.oneCell') = true) := hid (by rw [← hzc]; simp [Value.oneCell'])
   have HZS : Hid (zc.size = 20) := hid (by rw [← hzc]; rfl)
   rw [hzc] at HBF
   clear hzc
   have tk1 : True := trivial
   have tk2 : True := trivial
   go_wp2_with (first | (clear tk1; refine wpList_row (by rfl) 29 _ rfl _ rfl HBF.out Tryz.underlying29 rfl HZI.out ?_) | (clear tk2; refine wpList_store_mid rfl 29 _ _ rfl w.heap.size 0 zc (by rfl) (by rfl) (HS.out.2.2.2.2.1.there (by rw [HZS.out]; exact Nat.le_refl 20)) HZI.out HZO.out ?_))
   generalize hZZ : World.setCells _ _ _ _ = ZZ
   have HZB : Hid (Blk ZZ w.heap.size 29 zc) := hid (by rw [← hZZ]; exact setCells_all (ds := zc) HS.out.2.2.2.2.1 (by rw [Array.length_toList, HZS.out]; rfl))
   have HZX : Hid (Mod [w.heap.size] wr ZZ) := hid (by rw [← hZZ]; exact setCells_mod _ _ (Mod.refl [w.heap.size] wr) (.inl (by simp)))
   have HZM : Hid (Ext w ZZ) := hid (by rw [← hZZ]; exact setCells_mod _ _ HS.out.2.2.1 (.inr (by omega)))
   clear hZZ
   refine bodyPost_ret (results_cell3 rfl _ (by rfl) (by rfl) (by rfl) HZB.out Tryz.underlying29 rfl HZI.out) rfl ⟨A', c', by rw [← HZE.out]; rfl, HZM.out, own_BsL (ownsRow_mod HRF.out HZX.out (fun k hk => by have := (HRF.out.lt k hk).1; have := HVS.out; simp; omega)), fun g hg => by
    have := (HRF.out.lt g.block (by subst hg; rfl)).1
    have := HVS.out
    omega⟩
end Go.Proofs.YtfgipgpbjfhflaaGreat


namespace Go.Proofs.YtfgipgpbjfhflaaGreat
open Go.RowKit
set_option linter.unusedVariables false
set_option linter.unusedSimpArgs false

set_option maxRecDepth 20000 in
set_option maxHeartbeats 4000000 in
theorem Same_eq (p : PV) (bs bs' : Nat → BV) (k c c' : Nat) (A A' : Option Addr) (hk : k < 4611686018427387904) (he : ∀ j, j < k → bs j = bs' j) (w : World) (h : BsL w A k bs) (h' : BsL w A' k bs') : Calls Tryz.prog 9 #[bunV p A k c, bunV p A' k c'] w (Ret (.bool true) w) := by
 have HE := hid (((Mod.refl [] w).alloc (.cells (bunC p A k c) 29)).alloc (.cells (bunC p A' k c') 29))
 have HB0 : Hid (Blk ((w.alloc (.cells (bunC p A k c) 29)).alloc (.cells (bunC p A' k c') 29)) w.heap.size 29 (bunC p A k c)) := hid ((Blk.new w 29 (bunC p A k c)).alloc (.cells (bunC p A' k c') 29))
 have HB1 : Hid (Blk ((w.alloc (.cells (bunC p A k c) 29)).alloc (.cells (bunC p A' k c') 29)) (w.heap.size + 1) 29 (bunC p A' k c')) := by unfold Hid; exact Blk.newL _ _ _ (by simp)
 have HL := hid (BsL.ext h HE.out)
 have HL' := hid (BsL.ext h' HE.out)
 have HQ := hid he
 have k1 : (k : Int) < 4611686018427387904 := by omega
 clear h h' he hk
 go_enter Tryz.func9, Tryz.ntmps9
 go_upto_region 1 with fail
 generalize ((w.alloc (.cells (bunC p A k c) 29)).alloc (.cells (bunC p A' k c') 29)) = V at *
 have HP0 : Hid (∀ e : Later V, e.x.rangeAt w.heap.size 0 p.c.toList) := HB0.out.range 0 19 (by rw [Array.toList_extract]; rfl)
 have HP1 : Hid (∀ e : Later V, e.x.rangeAt (w.heap.size + 1) 0 p.c.toList) := HB1.out.range 0 19 (by rw [Array.toList_extract]; rfl)
 have b19 : ∀ e : Later V, e.x.cell? ⟨w.heap.size, 19, none⟩ = some (.slice A k c) := HB0.out.cellL 19 rfl
 have b20 : ∀ e : Later V, e.x.cell? ⟨w.heap.size + 1, 19, none⟩ = some (.slice A' k c') := HB1.out.cellL 19 rfl
 obtain ⟨e, he⟩ := Later.self V
 rw [he]
 clear he
 go_upto_region 4 with (first | (refine wpList_mid (by rfl) 26 _ rfl _ 0 rfl _ _ (HP0.out _) Tryz.underlying26 rfl (by kernel_rfl) ?_) | (refine wpList_mid (by rfl) 26 _ rfl _ 0 rfl _ _ (HP1.out _) Tryz.underlying26 rfl (by kernel_rfl) ?_))
 go_loopw [5] (fun s5 wr => ∃ i : Nat, s5 = .int .i64 (i : Int) ∧ Hid (i ≤ k) ∧ ∃ e : Later V, wr = e.x) (fun s5 _ => k - (intOf s5).toNat)
 case atStart => exact ⟨0, rfl, (show Hid _ from Nat.zero_le _), e, rfl⟩
 case round =>
  clear e
  obtain ⟨i, rfl, hi, e, rfl⟩ := hrel
  have i0 : (0 : Int) ≤ (i : Int) := by omega
  by_cases hlt : i < k
  ·
   obtain ⟨b, o, rfl, hb, q0, q1, q2, q3, q4⟩ := HL.out.cells hlt
   obtain ⟨b', o', rfl, hb', u0, u1, u2, u3, u4⟩ := HL'.out.cells hlt
   rw [← HQ.out i hlt] at u0 u1 u2 u3 u4
   have tc : decide (i < k) = true := by simp [hlt]
   have i1 : (i : Int) < (k : Int) := by omega
   have HLT := hid hlt
   clear hlt hb hb'
   generalize bs i = X at *
   go_upto_region 6 with fail
   refine wp_region_later (by kernel_rfl) (by kernel_rfl) ?_
   repeat (first | go_big_quiet_step (fail))
   refine wpQuiet_nil ?_
   rintro _ ⟨e, rfl⟩
   go_wp2_with fail
   go_roundw
   case rel => exact ⟨i + 1, by go_num, (show Hid _ from HLT.out), e, rfl⟩
   case measure => have := HLT.out; simp [intOf]; omega
  ·
   obtain rfl : i = k := by have := hi.out; omega
   have tc : decide (i < i) = false := by simp
   go_wp2_with fail
   go_ret
   exact Ret.mk rfl (HE.out.trans e.h)
end Go.Proofs.YtfgipgpbjfhflaaGreat


namespace Go.Proofs.YtfgipgpbjfhflaaGreat
open Go.RowKit
set_option linter.unusedVariables false
set_option linter.unusedSimpArgs false

theorem few_namesB {p : PV} (h : p.few = true) : p.d.name.length < 4611686018427387904 ∧ p.s.name.length < 4611686018427387904 ∧ p.r.name.length < 4611686018427387904 := by
 unfold PV.few at h
 simp only [Bool.and_eq_true, decide_eq_true_eq] at h
 omega
/-- What is handed back of a right bundle's bytes. -/
def BackBun (p : PV) (bs : Nat → BV) (k : Nat) (w : World) (e : Ending) (w' : World) : Prop := ∃ zc A' c', Hid (bunC p A' k c' = zc) ∧ e = .returned (.tuple #[.agg zc, .int .i64 (-1), .int .i64 0]) ∧ Ext w w' ∧ Hid (BsL w' A' k bs)
theorem BsL.modB {w w' : World} {S : List Nat} {A : Option Addr} {k : Nat} {bs : Nat → BV} (h : BsL w A k bs) (hm : Mod S w w') (hs : ∀ g, A = some g → g.block ∉ S) : BsL w' A k bs := fun hk => by
 obtain ⟨b, o, hA, hb, hc⟩ := h hk
 exact ⟨b, o, hA, Nat.lt_of_lt_of_le hb hm.size, fun i hi => (hc i hi).mod hm hb (hs _ hA)⟩
structure ZB (zc : Array Value) : Prop where
 i : (Tryz.prog.info? 29).map (·.size) = some zc.size
 o : zc.all (·.oneCell') = true
 s : zc.size = 20
theorem ZB.mk' (p : PV) (A : Option Addr) (k c : Nat) : ZB (bunC p A k c) := ⟨by kernel_rfl, by simp [Value.oneCell'], rfl⟩
set_option maxRecDepth 20000 in
set_option maxHeartbeats 8000000 in
theorem bparse_ok {p : PV} {bs : Nat → BV} {k : Nat} (hR : bunRight p bs k = 0) (hnl : p.d.name.length < 4611686018427387904 ∧ p.s.name.length < 4611686018427387904 ∧ p.r.name.length < 4611686018427387904) (hf : p.fl < 18446744073709551616) (w : World) : Calls Tryz.prog 8 #[str (bunBytes p bs k)] w (BackBun p bs k w) := by
 have HH := hid (bunR_of hR)
 have HBA := hid (bunT_all HH.out)
 obtain ⟨l, hl⟩ : ∃ l, bunBytes p bs k = l := ⟨_, rfl⟩
 have HLE : Hid (l.length ≤ 4000) := hid (by rw [← hl]; exact HH.out.l)
 have h0 : (parseR l).2 = 0 := by
  have := parse_back HBA.out.2 HBA.out.1
  rw [bunT_bytes (PV.right_ranged HH.out.pr), hl] at this
  rw [this]
 have KP : Hid (∀ W, Calls Tryz.prog 20 #[str l] W (fun e w' => ∃ t A c, e = .returned (.tuple #[itemV t A c, .int .i64 (-1), .int .i64 0]) ∧ Ext W w' ∧ Hid (BunTree p bs k t) ∧ Hid (IsC w' (fun _ => True) t A c))) := hid (fun W => (parse_anyC l (by unfold Hid; have := HLE.out; omega) W).mono fun e w' ⟨hb, hh⟩ => by
  rcases hh with ⟨h1, _⟩ | ⟨_, t, A, c, rfl, ⟨hr, hok⟩, hbt, hli⟩
  · exact absurd h0 h1
  · exact ⟨t, A, c, rfl, hb, bun_tree HH.out hr hok (by rw [hbt, hl]), hli⟩)
 have KRT : Hid (∀ W A c, BsL W A k bs → Calls Tryz.prog 22 #[bunV p A k c] W (Ret (.int .i64 0) W)) := hid (fun W A c hW => by
  have h := cBunRight_any p bs k c A hnl hf (by have := HH.out.kh; omega) W hW
  rw [hR] at h
  exact h)
 rw [hl]
 have hle : l.length ≤ 4000 := HLE.out
 have u1a : decide ((4000 : Int) < (l.length : Int)) = false := decide_eq_false (by omega)
 have u1b : ((4000 : Int) < (l.length : Int)) = False := eq_false (by omega)
 have u2a : decide (4000 < l.length) = false := decide_eq_false (by omega)
 have u2b : (4000 < l.length) = False := eq_false (by omega)
 clear hl h0 hnl hf hR hle
 have HE := hid ((Mod.refl [] w).alloc (.cells #[.int .u64 0, .int .i64 0, .int .i64 0, .string ⟨#[]⟩, .int .u64 0, .int .u64 0, .int .i64 0, .string ⟨#[]⟩, .int .u64 0, .int .u64 0, .int .i64 0, .string ⟨#[]⟩, .int .u64 0, .int .u64 0, .int .u64 0, .int .u64 0, .int .u64 0, .int .u64 0, .int .u64 0, .slice none 0 0] 29))
 have HB0 : Hid (Blk (w.alloc (.cells #[.int .u64 0, .int .i64 0, .int .i64 0, .string ⟨#[]⟩, .int .u64 0, .int .u64 0, .int .i64 0, .string ⟨#[]⟩, .int .u64 0, .int .u64 0, .int .i64 0, .string ⟨#[]⟩, .int .u64 0, .int .u64 0, .int .u64 0, .int .u64 0, .int .u64 0, .int .u64 0, .int .u64 0, .slice none 0 0] 29)) w.heap.size 29 #[.int .u64 0, .int .i64 0, .int .i64 0, .string ⟨#[]⟩, .int .u64 0, .int .u64 0, .int .i64 0, .string ⟨#[]⟩, .int .u64 0, .int .u64 0, .int .i64 0, .string ⟨#[]⟩, .int .u64 0, .int .u64 0, .int .u64 0, .int .u64 0, .int .u64 0, .int .u64 0, .int .u64 0, .slice none 0 0]) := hid (Blk.new w 29 #[.int .u64 0, .int .i64 0, .int .i64 0, .string ⟨#[]⟩, .int .u64 0, .int .u64 0, .int .i64 0, .string ⟨#[]⟩, .int .u64 0, .int .u64 0, .int .i64 0, .string ⟨#[]⟩, .int .u64 0, .int .u64 0, .int .u64 0, .int .u64 0, .int .u64 0, .int .u64 0, .int .u64 0, .slice none 0 0])
 go_enter Tryz.func8, Tryz.ntmps8
 go_upto_region 1 with fail
 generalize (w.alloc (.cells #[.int .u64 0, .int .i64 0, .int .i64 0, .string ⟨#[]⟩, .int .u64 0, .int .u64 0, .int .i64 0, .string ⟨#[]⟩, .int .u64 0, .int .u64 0, .int .i64 0, .string ⟨#[]⟩, .int .u64 0, .int .u64 0, .int .u64 0, .int .u64 0, .int .u64 0, .int .u64 0, .int .u64 0, .slice none 0 0] 29)) = V at *
 obtain ⟨e, he⟩ := Later.self V
 rw [he]
 clear he
 go_upto_region 4 with (go_at_call 20; refine (KP.out _).mono ?_; rintro x w1 ⟨t, A, c, rfl, hb, HT, HL⟩; have HX := hid (e.h.trans hb); clear hb)
 generalize hV1 : World.alloc w1 _ = V1
 have HX1 : Hid (Ext V V1) := hid (by rw [← hV1]; exact HX.out.alloc _)
 have HB1 := hid (HB0.out.ext HX1.out)
 have HT1 : Hid (Blk V1 w1.heap.size 52 (itemC t A c)) := hid (by rw [← hV1]; exact Blk.new _ _ _)
 have HL1 : Hid (∀ W, Ext V1 W → IsC W (fun _ => True) t A c) := hid (fun W hW => by rw [← hV1] at hW; exact (HL.out.ext ((Mod.refl [] _).alloc _)).ext hW)
 have HE1 := hid (HE.out.trans HX1.out)
 clear hV1 HX HX1 HL HB0 HE e KP
 generalize w1.heap.size = n1 at *
 have hk1 : 1 ≤ k := HH.out.k1
 have hk16 : k ≤ 16 := HH.out.kh
 have hA : ∃ b o, A = some ⟨b, o, none⟩ := by
  have h := (HL1.out V1 (Mod.refl _ _)).isL
  have hk : t.k = k + 1 := HT.out.kk
  cases t with
  | nil => exact absurd hk (by simp [T.k])
  | mk kd n s op kk ch =>
   obtain ⟨b, o, hA, _⟩ := h (by have hk : kk = k + 1 := hk; omega)
   exact ⟨b, o, hA⟩
 obtain ⟨b, o, rfl⟩ := hA
 have KRD := hid (fun W (hW : Ext V1 W) => bread_ok HH.out HT.out b o c W (HL1.out W hW))
 have hkk := HT.out.kk
 rw [hkk] at KRD
 have z0 : ∀ e : Later V1, e.x.cell? ⟨n1, 0, none⟩ = some (.int .i64 4) := fun e => by rw [(HT1.out.later e).cell 0]; simp [HT.out.kind]
 have z3 : ∀ e : Later V1, e.x.cell? ⟨n1, 3, none⟩ = some (.slice (some ⟨b, o, none⟩) (k + 1) c) := fun e => by rw [(HT1.out.later e).cell 3]; simp [hkk]
 have z4 : ∀ e : Later V1, e.x.cell? ⟨n1, 4, none⟩ = some (.bool true) := fun e => by rw [(HT1.out.later e).cell 4]; simp [HT.out.op]
 have k0 : (0 : Int) ≤ (k : Int) := by omega
 have u3a : decide ((k : Int) + 1 < 2) = false := decide_eq_false (by omega)
 have u3b : ((k : Int) + 1 < 2) = False := eq_false (by omega)
 have u4a : decide (k + 1 < 2) = false := decide_eq_false (by omega)
 have u4b : (k + 1 < 2) = False := eq_false (by omega)
 have u5a : decide (((k + 1 : Nat) : Int) < 2) = false := decide_eq_false (by omega)
 have u5b : (((k + 1 : Nat) : Int) < 2) = False := eq_false (by omega)
 clear hkk HT1 HL1 hk1 hk16
 obtain ⟨e, he⟩ := Later.self V1
 rw [he]
 clear he
 go_upto_region 8 with fail
 have tk1 : True := trivial
 go_upto_region 9 with (first | (go_at_call 21; refine (KRD.out _ e.h).mono ?_; rintro x w2 ⟨A2, c2, hq, hb, hbs, hgb⟩; have HX := hid (e.h.trans hb); have HBS := hid hbs; have HGB : Hid (∀ g, A2 = some g → w.heap.size < g.block) := hid (fun g hg => by have h1 := hgb g hg; have h2 := HB1.out.lt; have h3 := e.h.size; omega); clear hgb; have HZC := hid (ZB.mk' p A2 k c2); obtain ⟨zc, hzc⟩ : ∃ zc, bunC p A2 k c2 = zc := ⟨_, rfl⟩; have HZE := hid hzc; rw [hzc] at HZC; rw [show bunV p A2 k c2 = .agg zc by rw [← hzc]] at hq; subst hq; clear hzc hbs; clear hb) | (clear tk1; refine wpList_store_mid rfl 29 _ _ rfl w2.heap.size 0 zc (by rfl) (by rfl) ((Blk.new _ _ _).there (by rw [HZC.out.s]; exact Nat.le_refl 20)) HZC.out.i HZC.out.o ?_))
 generalize hV : World.setCells _ _ _ _ = V2
 have HXN : Hid (Ext V1 V2) := hid (by rw [← hV]; exact setCells_mod _ _ (HX.out.alloc _) (.inr HX.out.size))
 have HXW : Hid (Ext w2 V2) := hid (by rw [← hV]; exact setCells_mod _ _ ((Mod.refl [] w2).alloc _) (.inr (Nat.le_refl _)))
 have HBXV2 : Hid (Blk V2 w2.heap.size 29 zc) := hid (by rw [← hV]; exact setCells_all (ds := zc) (Blk.new _ _ _) (by rw [Array.length_toList, HZC.out.s]; rfl))
 have HB2 := hid (HB1.out.ext HXN.out)
 have HE2 := hid (HE1.out.trans HXN.out)
 have HBS2 := hid (HBS.out.ext HXW.out)
 have KR2 : Hid (∀ e : Later V2, Calls Tryz.prog 22 #[.agg zc] e.x (Ret (.int .i64 0) e.x)) := hid (fun e => by rw [← HZE.out]; exact KRT.out e.x A2 c2 (HBS2.out.ext e.h))
 have HRL : Hid (∀ e : Later V2, Blk e.x w2.heap.size 29 zc) := hid (fun e => HBXV2.out.later e)
 clear hV HX HXN HXW HB1 HE1 HBS KRD KRT HBXV2 z0 z3 z4 e
 generalize w2.heap.size = n2 at *
 obtain ⟨e, he⟩ := Later.self V2
 rw [he]
 clear he
 have tk1 : True := trivial
 go_upto_region 14 with (first | (clear tk1; refine wpList_row (by rfl) 29 _ rfl _ rfl (HRL.out _) Tryz.underlying29 rfl HZC.out.i ?_) | (go_at_call 22; refine (Ret.later (KR2.out _)).mono ?_; rintro x _ ⟨rfl, e, rfl⟩))
 have tk1 : True := trivial
 have tk2 : True := trivial
 go_wp2_with (first | (clear tk1; refine wpList_row (by rfl) 29 _ rfl _ rfl (HRL.out _) Tryz.underlying29 rfl HZC.out.i ?_) | (clear tk2; refine wpList_store_mid rfl 29 _ _ rfl w.heap.size 0 zc (by rfl) (by rfl) ((HB2.out.later e).there (by rw [HZC.out.s]; exact Nat.le_refl 20)) HZC.out.i HZC.out.o ?_))
 generalize hZZ : World.setCells _ _ _ _ = ZZ
 have HZB : Hid (Blk ZZ w.heap.size 29 zc) := hid (by rw [← hZZ]; exact setCells_all (ds := zc) (HB2.out.later e) (by rw [Array.length_toList, HZC.out.s]; rfl))
 have HZX : Hid (Mod [w.heap.size] V2 ZZ) := hid (by rw [← hZZ]; exact setCells_mod _ _ (e.h.mono (by simp)) (.inl (by simp)))
 have HZM : Hid (Ext w ZZ) := hid (by rw [← hZZ]; exact setCells_mod _ _ (HE2.out.trans e.h) (.inr (by omega)))
 clear hZZ
 refine bodyPost_ret (results_cell3 rfl _ (by rfl) (by rfl) (by rfl) HZB.out Tryz.underlying29 rfl HZC.out.i) rfl ⟨zc, A2, c2, HZE.out, rfl, HZM.out, ?_⟩
 exact BsL.modB (HBS2.out) HZX.out (fun g hg => by have := HGB.out g hg; simp; omega)
set_option maxRecDepth 20000 in
set_option maxHeartbeats 8000000 in
theorem lawBunBack_any (p : PV) (bs : Nat → BV) (k c : Nat) (A : Option Addr) (hf : p.fl < 18446744073709551616) (hk : k < 4611686018427387904) (w : World) (h : BsL w A k bs) : Calls Tryz.prog 3 #[bunV p A k c] w (Ret (.bool true) w) := by
 have KA := hid (fun W => awake13_any W)
 have KF := hid (fun W (hW : BsL W A k bs) => few13_any p bs k c A hk W hW)
 have HE := hid ((Mod.refl [] w).alloc (.cells (bunC p A k c) 29))
 have HB0 : Hid (Blk (w.alloc (.cells (bunC p A k c) 29)) w.heap.size 29 (bunC p A k c)) := hid (Blk.new w 29 (bunC p A k c))
 have HL := hid (BsL.ext h HE.out)
 have HF := hid hf
 have HK := hid hk
 clear h hf hk
 go_enter Tryz.func3, Tryz.ntmps3
 go_upto_region 1 with fail
 generalize (w.alloc (.cells (bunC p A k c) 29)) = V at *
 obtain ⟨e, he⟩ := Later.self V
 rw [he]
 clear he
 have tk1 : True := trivial
 cases hF : bunFew p bs k with
 | false =>
  rw [hF] at KF
  clear hF
  go_wp2_with (first | (go_at_call 4; refine (Ret.later (KA.out _)).mono ?_; rintro x _ ⟨rfl, e, rfl⟩) | (clear tk1; refine wpList_row (by rfl) 29 _ rfl _ rfl (HB0.out.later _) Tryz.underlying29 rfl (by kernel_rfl) ?_) | (go_at_call 5; refine (Ret.later (KF.out _ (HL.out.ext (Later.h _)))).mono ?_; rintro x _ ⟨rfl, e, rfl⟩))
  go_ret
  exact Ret.mk rfl (HE.out.trans e.h)
 | true =>
 have hnl := few_namesB (bunFew_spec hF).2.1
 have KR := hid (fun W (hW : BsL W A k bs) => r13Right_any p bs k c A HF.out HK.out (fun i hi => by have := (bunFew_spec hF).2.2 i hi; omega) W hW)
 rw [hF] at KF
 clear hF
 have tk2 : True := trivial
 by_cases hR : bunRight p bs k = 0
 case neg =>
  generalize bunRight p bs k = r at *
  have ra : ((r) == (0)) = false := by rw [beq_eq_false_iff_ne]; exact hR
  have rb : ((r) = (0)) = False := eq_false (by exact hR)
  have rc : ((r) != (0)) = true := by rw [bne_iff_ne]; exact hR
  clear hR hnl
  go_wp2_with (first | (go_at_call 4; refine (Ret.later (KA.out _)).mono ?_; rintro x _ ⟨rfl, e, rfl⟩) | (clear tk1; refine wpList_row (by rfl) 29 _ rfl _ rfl (HB0.out.later _) Tryz.underlying29 rfl (by kernel_rfl) ?_) | (go_at_call 5; refine (Ret.later (KF.out _ (HL.out.ext (Later.h _)))).mono ?_; rintro x _ ⟨rfl, e, rfl⟩) | (clear tk2; refine wpList_row (by rfl) 29 _ rfl _ rfl (HB0.out.later _) Tryz.underlying29 rfl (by kernel_rfl) ?_) | (go_at_call 6; refine (Ret.later (KR.out _ (HL.out.ext (Later.h _)))).mono ?_; rintro x _ ⟨rfl, e, rfl⟩))
  go_ret
  exact Ret.mk rfl (HE.out.trans e.h)
 have KB : Hid (∀ W, BsL W A k bs → Calls Tryz.prog 7 #[bunV p A k c] W (Ret (.tuple #[str (bunBytes p bs k), .int .i64 0]) W)) := hid (fun W hW => by
  have h := cBunBuild_any p bs k c A hnl HF.out HK.out W hW
  unfold madeV at h
  rw [if_pos hR, hR] at h
  exact h)
 have KP := hid (fun W => bparse_ok hR hnl HF.out W)
 rw [hR] at KR
 clear hR hnl
 generalize bunBytes p bs k = BB at *
 have tk3 : True := trivial
 have tk4 : True := trivial
 go_upto_region 5 with (first | (go_at_call 4; refine (Ret.later (KA.out _)).mono ?_; rintro x _ ⟨rfl, e, rfl⟩) | (clear tk1; refine wpList_row (by rfl) 29 _ rfl _ rfl (HB0.out.later _) Tryz.underlying29 rfl (by kernel_rfl) ?_) | (go_at_call 5; refine (Ret.later (KF.out _ (HL.out.ext (Later.h _)))).mono ?_; rintro x _ ⟨rfl, e, rfl⟩) | (clear tk2; refine wpList_row (by rfl) 29 _ rfl _ rfl (HB0.out.later _) Tryz.underlying29 rfl (by kernel_rfl) ?_) | (go_at_call 6; refine (Ret.later (KR.out _ (HL.out.ext (Later.h _)))).mono ?_; rintro x _ ⟨rfl, e, rfl⟩) | (clear tk3; refine wpList_row (by rfl) 29 _ rfl _ rfl (HB0.out.later _) Tryz.underlying29 rfl (by kernel_rfl) ?_) | (go_at_call 7; refine (Ret.later (KB.out _ (HL.out.ext (Later.h _)))).mono ?_; rintro x _ ⟨rfl, e, rfl⟩) | (go_at_call 8; refine (KP.out _).mono ?_; rintro x w2 ⟨zc, A2, c2, HZE, rfl, hb, HBS⟩; have HX := hid (e.h.trans hb); have HZC : Hid (ZB zc) := hid (by rw [← HZE.out]; exact ZB.mk' p A2 k c2); clear hb) | (clear tk4; refine wpList_store_mid rfl 29 _ _ rfl w2.heap.size 0 zc (by rfl) (by rfl) ((Blk.new _ _ _).there (by rw [HZC.out.s]; exact Nat.le_refl 20)) HZC.out.i HZC.out.o ?_))
 generalize hV : World.setCells _ _ _ _ = V2
 have HXN : Hid (Ext V V2) := hid (by rw [← hV]; exact setCells_mod _ _ (HX.out.alloc _) (.inr HX.out.size))
 have HXW : Hid (Ext w2 V2) := hid (by rw [← hV]; exact setCells_mod _ _ ((Mod.refl [] w2).alloc _) (.inr (Nat.le_refl _)))
 have HBXV2 : Hid (Blk V2 w2.heap.size 29 zc) := hid (by rw [← hV]; exact setCells_all (ds := zc) (Blk.new _ _ _) (by rw [Array.length_toList, HZC.out.s]; rfl))
 have HE2 := hid (HE.out.trans HXN.out)
 have HBL2 := hid ((HBS.out).ext HXW.out)
 have HL2 := hid (HL.out.ext HXN.out)
 have HR1 : Hid (∀ e : Later V2, Blk e.x w.heap.size 29 (bunC p A k c)) := hid (fun e => (HB0.out.ext HXN.out).later e)
 have HR2 : Hid (∀ e : Later V2, Blk e.x w2.heap.size 29 zc) := hid (fun e => HBXV2.out.later e)
 have KS : Hid (∀ e : Later V2, Calls Tryz.prog 9 #[bunV p A k c, .agg zc] e.x (Ret (.bool true) e.x)) := hid (fun e => by
  rw [← HZE.out]
  exact Same_eq p bs bs k c c2 A A2 HK.out (fun _ _ => rfl) e.x (HL2.out.ext e.h) (HBL2.out.ext e.h))
 clear hV HX HXN HXW HB0 HE HL HBXV2 HBS KA KF KR KB KP e
 generalize w2.heap.size = n2 at *
 obtain ⟨e, he⟩ := Later.self V2
 rw [he]
 clear he
 have tk1 : True := trivial
 have tk2 : True := trivial
 go_wp2_with (first | (clear tk1; refine wpList_row (by rfl) 29 _ rfl _ rfl (HR1.out _) Tryz.underlying29 rfl (by kernel_rfl) ?_) | (clear tk2; refine wpList_row (by rfl) 29 _ rfl _ rfl (HR2.out _) Tryz.underlying29 rfl HZC.out.i ?_) | (go_at_call 9; refine (Ret.later (KS.out _)).mono ?_; rintro x _ ⟨rfl, e, rfl⟩))
 go_ret
 exact Ret.mk rfl (HE2.out.trans e.h)
end Go.Proofs.YtfgipgpbjfhflaaGreat
