/-
 Bundles, plainly: a step: the node's name, the age, the hops; what stays right.
-/
import Derived.Test.YthecmnbkjchjmaaGreatMExtHopsau
import Derived.Test.YthecmnbkjchjmaaGreatMExtHopsaw
import Derived.Deep.RegionLaw
import Derived.DeepKeys
namespace Go.Proofs.YthecmnbkjchjmaaGreat
open Go.RowKit
set_option linter.unusedVariables false
set_option linter.unusedSimpArgs false
def setP (bs : Nat -> BV) (i : Nat) (d : List UInt8) : Nat -> BV := fun j => if j = i then { bs i with data := d } else bs j
theorem setP_i (bs : Nat -> BV) (i : Nat) (d : List UInt8) : setP bs i d i = { bs i with data := d } := if_pos rfl
theorem setP_j (bs : Nat -> BV) {i j : Nat} (d : List UInt8) (h : j ≠ i) : setP bs i d j = bs j := if_neg h
theorem setP_ty (bs : Nat -> BV) (i : Nat) (d : List UInt8) (t : Int) (k : Nat) : firstOf (tyB (setP bs i d) t) k = firstOf (tyB bs t) k := firstOf_congr' fun j hj => by
 unfold tyB
 by_cases e : j = i
 . subst e; rw [setP_i]
 . rw [setP_j _ _ e]
structure St (p : PV) (R bs : Nat -> BV) (k : Nat) : Prop where
 lk : Lk R k bs
 rok : BOK p R k
 rl : (bunBytes p R k).length <= 3400
 ex : ∀ i, i < k -> extB (bs i) = true
 go : firstOf (tyB bs 6) k = none -> (bunBytes p bs k).length <= 3200 /\ k <= 11
theorem St.ok {p : PV} {R bs : Nat -> BV} {k : Nat} (h : St p R bs k) : BOK p bs k := h.lk.bok h.rok h.rl
theorem St.right {p : PV} {R bs : Nat -> BV} {k : Nat} (h : St p R bs k) : bunRight p bs k = 0 := bok_to h.ok
theorem St.set {p : PV} {R bs : Nat -> BV} {k : Nat} (h : St p R bs k) {i : Nat} (hi : i < k) (hs : spec (bs i).ty) {d : List UInt8} (hd : d.length <= 70) (hx : extB { bs i with data := d } = true) (h6 : firstOf (tyB bs 6) k ≠ none \/ (bunBytes p (setP bs i d) k).length <= 3200 /\ k <= 11) : St p R (setP bs i d) k := by
 refine ⟨h.lk.set (by rw [<- (h.lk i hi).ty]; exact hs) hd, h.rok, h.rl, fun j hj => ?_, fun e => ?_⟩
 .
  by_cases e : j = i
  . subst e; rw [setP_i]; exact hx
  . rw [setP_j _ _ e]; exact h.ex j hj
 .
  rw [setP_ty] at e
  rcases h6 with a | a
  . exact absurd e a
  . exact a
theorem headL_255 {m n : Nat} (h : n <= 255) : (headL m n).length <= 2 := by
 unfold headL
 split
 . simp
 . rw [if_pos (by omega)]; simp [be_length]
theorem eidT_le70 {e : EV} (h : e.ok = true) : (eidT e).bytes.length <= 70 := by
 rcases EV.ok_cases h with rfl | ⟨name, rfl, hn, hl⟩ | ⟨node, svc, rfl, ha, hb⟩
 . decide
 .
  have : (eidT ⟨1, name, 0, 0⟩).bytes = [130, 1] ++ (headL 3 name.length ++ name) := by
   have hn' : ¬ name = noneL := hn
   unfold eidT T.bytes
   simp [twoT, hn', T.cat, numT, textT, T.bytes, headL]
   decide
  rw [this]
  have := headL_255 (m := 3) (n := name.length) (by omega)
  simp only [List.length_append, List.length_cons, List.length_nil]
  omega
 .
  have : (eidT ⟨2, [], node, svc⟩).bytes = [130, 2] ++ ([130] ++ (headL 0 node ++ headL 0 svc)) := by
   unfold eidT T.bytes
   simp [twoT, T.cat, numT, T.bytes, headL]
   decide
  rw [this]
  have := headL_le 0 node
  have := headL_le 0 svc
  simp only [List.length_append, List.length_cons, List.length_nil]
  omega
theorem extB_prev {x : BV} (h : x.ty = 6) {e : EV} (ho : e.ok = true) (hd : x.data = (eidT e).bytes) : extB x = true := by
 unfold extB
 rw [if_pos h, hd, show prevO (eidT e).bytes = some e from theO_some isPrev_inj ⟨ho, rfl⟩]; rfl
theorem ageO_headL {n : Nat} (h : n <= 1099511627776) : ageO (headL 0 n) = some n := theO_some isAge_inj ⟨h, rfl⟩
theorem hopsO_pair {l c : Nat} (h : mayB l c = true) : hopsO (130 :: (headL 0 l ++ headL 0 c)) = some (l, c) := theO_some (x := (l, c)) isHops_inj ⟨h, rfl⟩
theorem extB_age {x : BV} (h : x.ty = 7) {n : Nat} (hn : n <= 1099511627776) (hd : x.data = headL 0 n) : extB x = true := by
 unfold extB
 rw [if_neg (by omega), if_pos h, hd, ageO_headL hn]; rfl
theorem extB_hops {x : BV} (h : x.ty = 10) {l c : Nat} (hm : mayB l c = true) (hd : x.data = 130 :: (headL 0 l ++ headL 0 c)) : extB x = true := by
 unfold extB
 rw [if_neg (by omega), if_neg (by omega), if_pos h, hd, hopsO_pair hm]; rfl
theorem bytes_setP {bs : Nat -> BV} {i k : Nat} (hi : i < k) {d : List UInt8} : (blksB (setP bs i d) k).length + (bs i).bytes.length = (blksB bs k).length + ({ bs i with data := d } : BV).bytes.length := by
 have lo : ∀ m, m <= i -> blksB (setP bs i d) m = blksB bs m := by
  intro m
  induction m with
  | zero => intro _; rfl
  | succ m ih => intro h; rw [blksB, blksB, ih (by omega), setP_j _ _ (by omega)]
 have key : ∀ m, i < m -> (blksB (setP bs i d) m).length + (bs i).bytes.length = (blksB bs m).length + ({ bs i with data := d } : BV).bytes.length := by
  intro m
  induction m with
  | zero => intro h; omega
  | succ m ih =>
   intro h
   rw [blksB, blksB, List.length_append, List.length_append]
   by_cases e : i = m
   . subst e; rw [lo _ (Nat.le_refl _), setP_i]; omega
   . rw [setP_j _ _ (by omega)]; have := ih (by omega); omega
 exact key k hi
noncomputable def sentF (bs : Nat -> BV) (k : Nat) (L : List UInt8) : Nat -> BV := match firstOf (tyB bs 6) k with | some i => setP bs i L | none => insP bs (k - 1) ⟨6, (freeN bs k : Int), 0, 0, L⟩
noncomputable def sentK (bs : Nat -> BV) (k : Nat) : Nat := match firstOf (tyB bs 6) k with | some _ => k | none => k + 1
theorem tyB_at {bs : Nat -> BV} {t : Int} {i : Nat} (h : tyB bs t i = true) : (bs i).ty = t := by simpa [tyB] using h
theorem firstOf_succ_skip {f g : Nat -> Bool} {k : Nat} (h1 : ∀ j, j < k -> f j = g j) (hk : f k = false) : firstOf f (k + 1) = firstOf g k := by
 rw [firstOf, firstOf_congr' h1, hk]
 cases firstOf g k <;> rfl
theorem insP_first {bs : Nat -> BV} {k : Nat} (k0 : 0 < k) (la : (bs (k - 1)).ty = 1) {x : BV} (hx : x.ty = 6) {t : Int} (h6 : t ≠ 6) (h1 : t ≠ 1) : firstOf (tyB (insP bs (k - 1) x) t) (k + 1) = firstOf (tyB bs t) k := by
 have e1 : insP bs (k - 1) x k = bs (k - 1) := by unfold insP; rw [if_neg (by omega), if_neg (by omega)]
 have e2 : insP bs (k - 1) x (k - 1) = x := by unfold insP; rw [if_neg (by omega), if_pos rfl]
 refine firstOf_succ_skip (fun j hj => ?_) (tyB_no (by rw [e1, la]; exact fun e => h1 e.symm))
 by_cases e : j = k - 1
 .
  subst e
  rw [tyB_no (by rw [e2, hx]; exact fun e => h6 e.symm), tyB_no (by rw [la]; exact fun e => h1 e.symm)]
 .
  have : insP bs (k - 1) x j = bs j := by unfold insP; rw [if_pos (by omega)]
  unfold tyB; rw [this]
theorem St.sent {p : PV} {R bs : Nat -> BV} {k : Nat} (h : St p R bs k) {e : EV} (ho : e.ok = true) : ∃ R', St p R' (sentF bs k (eidT e).bytes) (sentK bs k) /\ firstOf (tyB (sentF bs k (eidT e).bytes) 6) (sentK bs k) ≠ none /\ sentF bs k (eidT e).bytes (sentK bs k - 1) = bs (k - 1) /\ 0 < sentK bs k /\
  (∀ t i, t = 7 \/ t = 10 -> firstOf (tyB bs t) k = some i -> sentF bs k (eidT e).bytes i = bs i) /\ (∀ t, t = 7 \/ t = 10 -> firstOf (tyB (sentF bs k (eidT e).bytes) t) (sentK bs k) = firstOf (tyB bs t) k) := by
 have hb := h.ok
 have k0 := hb.k0
 have la := hb.la
 have l70 := eidT_le70 ho
 cases hf : firstOf (tyB bs 6) k with
 | some i =>
  obtain ⟨f1, f2, f3⟩ := firstOf_spec hf
  have f2 := tyB_at f2
  have eF : sentF bs k (eidT e).bytes = setP bs i (eidT e).bytes := by unfold sentF; rw [hf]
  have eK : sentK bs k = k := by unfold sentK; rw [hf]
  rw [eF, eK]
  refine ⟨R, h.set f1 (.inl f2) l70 (extB_prev (e := e) (by exact f2) ho rfl) (.inl (by rw [hf]; simp)), by rw [setP_ty, hf]; simp, setP_j _ _ (fun e => by rw [e, f2] at la; omega), k0, fun t j ht hj => setP_j _ _ (fun e => ?_), fun t _ => setP_ty _ _ _ _ _⟩
  have := tyB_at (firstOf_spec hj).2.1
  rw [e, f2] at this; omega
 | none =>
  obtain ⟨g1, g2⟩ := h.go hf
  obtain ⟨n1, n2, n3, _⟩ := freeN_spec bs k
  obtain ⟨x, hx⟩ : ∃ x : BV, x = ⟨6, (freeN bs k : Int), 0, 0, (eidT e).bytes⟩ := ⟨_, rfl⟩
  have eF : sentF bs k (eidT e).bytes = insP bs (k - 1) x := by unfold sentF; rw [hf, hx]
  have eK : sentK bs k = k + 1 := by unfold sentK; rw [hf]
  have xr : x.right = 0 := by
   rw [hx]
   unfold BV.right
   rw [if_neg (by dsimp only; omega), if_neg (by dsimp only; omega), if_neg (by dsimp only; omega)]
  have xt : x.ty = 6 := by rw [hx]
  have xl : x.bytes.length <= 130 := by have := BV.bytes_le xr; rw [hx] at this ⊢; dsimp only at this; omega
  have hc : cntB bs 6 k = 0 := cntB_no (firstOf_no hf)
  obtain ⟨b1, b2⟩ := insP_bok hb xr xt hc (by omega) (fun j hj he => by
   have := firstOf_no n3 j hj
   unfold numB hasNum at this
   rw [hx] at he
   simp at this
   exact this he) (by omega)
  have e1 : insP bs (k - 1) x (k - 1) = x := by unfold insP; rw [if_neg (by omega), if_pos rfl]
  have e2 : insP bs (k - 1) x k = bs (k - 1) := by unfold insP; rw [if_neg (by omega), if_neg (by omega)]
  have hne : firstOf (tyB (insP bs (k - 1) x) 6) (k + 1) ≠ none := fun e => by
   have := firstOf_no e (k - 1) (by omega)
   rw [tyB_yes (by rw [e1]; exact xt)] at this
   cases this
  rw [eF, eK]
  refine ⟨insP bs (k - 1) x, ⟨Lk.refl _ _, b1, by omega, fun j hj => ?_, fun e => absurd e hne⟩, hne, by rw [Nat.add_sub_cancel]; exact e2, by omega, fun t i ht hi => ?_, fun t ht => insP_first k0 la xt (by omega) (by omega)⟩
  .
   by_cases c1 : j = k - 1
   . rw [c1, e1]; exact extB_prev (e := e) xt ho (by rw [hx])
   .
    by_cases c2 : j = k
    . rw [c2, e2]; exact h.ex _ (by omega)
    .
     have : insP bs (k - 1) x j = bs j := by unfold insP; rw [if_pos (by omega)]
     rw [this]; exact h.ex _ (by omega)
  .
   obtain ⟨q1, q2, _⟩ := firstOf_spec hi
   have q2 := tyB_at q2
   have : i ≠ k - 1 := fun e => by rw [e, la] at q2; omega
   unfold insP; rw [if_pos (by omega)]
noncomputable def ageV (bs : Nat -> BV) (k : Nat) : Option Nat := match firstOf (tyB bs 7) k with | some i => ageO (bs i).data | none => none
noncomputable def hopV (bs : Nat -> BV) (k : Nat) : Option (Nat × Nat) := match firstOf (tyB bs 10) k with | some i => hopsO (bs i).data | none => none
theorem St.age {p : PV} {R bs : Nat -> BV} {k : Nat} (h : St p R bs k) {i : Nat} (hf : firstOf (tyB bs 7) k = some i) (h6 : firstOf (tyB bs 6) k ≠ none) {n : Nat} (hn : n <= 1099511627776) : St p R (setP bs i (headL 0 n)) k /\ ageV (setP bs i (headL 0 n)) k = some n /\ hopV (setP bs i (headL 0 n)) k = hopV bs k /\ setP bs i (headL 0 n) (k - 1) = bs (k - 1) /\ firstOf (tyB (setP bs i (headL 0 n)) 6) k ≠ none := by
 obtain ⟨f1, f2, f3⟩ := firstOf_spec hf
 have f2 := tyB_at f2
 have la := h.ok.la
 have := headL_le 0 n
 refine ⟨h.set f1 (.inr (.inl f2)) (by omega) (extB_age (by exact f2) hn rfl) (.inl h6), ?_, ?_, setP_j _ _ (fun e => by rw [e, f2] at la; omega), by rw [setP_ty]; exact h6⟩
 .
  unfold ageV
  rw [setP_ty, hf]
  dsimp only
  rw [setP_i]
  exact ageO_headL hn
 .
  unfold hopV
  rw [setP_ty]
  cases hh : firstOf (tyB bs 10) k with
  | none => rfl
  | some j =>
   dsimp only
   rw [setP_j _ _ (fun e => by have := tyB_at (firstOf_spec hh).2.1; rw [e, f2] at this; omega)]
theorem St.hops {p : PV} {R bs : Nat -> BV} {k : Nat} (h : St p R bs k) {i : Nat} (hf : firstOf (tyB bs 10) k = some i) {l c : Nat} (hm : mayB l c = true) (h6 : firstOf (tyB bs 6) k ≠ none \/ (bunBytes p (setP bs i (130 :: (headL 0 l ++ headL 0 c))) k).length <= 3200 /\ k <= 11) : St p R (setP bs i (130 :: (headL 0 l ++ headL 0 c))) k /\ hopV (setP bs i (130 :: (headL 0 l ++ headL 0 c))) k = some (l, c) /\ ageV (setP bs i (130 :: (headL 0 l ++ headL 0 c))) k = ageV bs k /\ setP bs i (130 :: (headL 0 l ++ headL 0 c)) (k - 1) = bs (k - 1) := by
 obtain ⟨f1, f2, f3⟩ := firstOf_spec hf
 have f2 := tyB_at f2
 have la := h.ok.la
 have b1 := headL_le 0 l
 have b2 := headL_le 0 c
 refine ⟨h.set f1 (.inr (.inr f2)) (by simp; omega) (extB_hops (by exact f2) hm rfl) h6, ?_, ?_, setP_j _ _ (fun e => by rw [e, f2] at la; omega)⟩
 .
  unfold hopV
  rw [setP_ty, hf]
  dsimp only
  rw [setP_i]
  exact hopsO_pair hm
 .
  unfold ageV
  rw [setP_ty]
  cases hh : firstOf (tyB bs 7) k with
  | none => rfl
  | some j =>
   dsimp only
   rw [setP_j _ _ (fun e => by have := tyB_at (firstOf_spec hh).2.1; rw [e, f2] at this; omega)]
theorem theO_is {α : Type} {P : α -> Prop} {x : α} (h : theO P = some x) : P x := by
 unfold theO at h
 split at h
 .
  rename_i g
  simp only [Option.some.injEq] at h
  rw [<- h]
  exact g.choose_spec
 . cases h
def oldN (n ms : Nat) : Nat := n + min ms (1099511627776 - n)
theorem oldN_le {n ms : Nat} (h : n <= 1099511627776) : oldN n ms <= 1099511627776 := by unfold oldN; omega
noncomputable def agedF (bs : Nat -> BV) (k ms : Nat) : Nat -> BV := match firstOf (tyB bs 7) k with | some i => setP bs i (headL 0 (oldN ((ageO (bs i).data).getD 0) ms)) | none => bs
noncomputable def hopF (bs : Nat -> BV) (k : Nat) : Nat -> BV := match firstOf (tyB bs 10) k with | some i => setP bs i (130 :: (headL 0 ((hopsO (bs i).data).getD (0, 0)).1 ++ headL 0 (((hopsO (bs i).data).getD (0, 0)).2 + 1))) | none => bs
theorem St.age_at {p : PV} {R bs : Nat -> BV} {k : Nat} (h : St p R bs k) {i : Nat} (hf : firstOf (tyB bs 7) k = some i) : ∃ n, ageO (bs i).data = some n /\ n <= 1099511627776 /\ ageV bs k = some n := by
 have f2 := tyB_at (firstOf_spec hf).2.1
 have he := h.ex i (firstOf_spec hf).1
 unfold extB at he
 rw [if_neg (by omega), if_pos f2] at he
 cases ha : ageO (bs i).data with
 | none => rw [ha] at he; cases he
 | some n => exact ⟨n, rfl, (theO_is ha).1, by unfold ageV; rw [hf]; exact ha⟩
theorem St.hop_at {p : PV} {R bs : Nat -> BV} {k : Nat} (h : St p R bs k) {i : Nat} (hf : firstOf (tyB bs 10) k = some i) : ∃ l c, hopsO (bs i).data = some (l, c) /\ mayB l c = true /\ hopV bs k = some (l, c) := by
 have f2 := tyB_at (firstOf_spec hf).2.1
 have he := h.ex i (firstOf_spec hf).1
 unfold extB at he
 rw [if_neg (by omega), if_neg (by omega), if_pos f2] at he
 cases ha : hopsO (bs i).data with
 | none => rw [ha] at he; cases he
 | some n => exact ⟨n.1, n.2, rfl, (theO_is ha).1, by unfold hopV; rw [hf]; exact ha⟩
structure Stepped (p : PV) (bs : Nat -> BV) (k : Nat) (L : List UInt8) (ms : Nat) (R' : Nat -> BV) : Prop where
 s1 : St p R' (sentF bs k L) (sentK bs k)
 s2 : St p R' (agedF (sentF bs k L) (sentK bs k) ms) (sentK bs k)
 s3 : St p R' (hopF (agedF (sentF bs k L) (sentK bs k) ms) (sentK bs k)) (sentK bs k)
 age : ageV (hopF (agedF (sentF bs k L) (sentK bs k) ms) (sentK bs k)) (sentK bs k) = (ageV bs k).map (oldN · ms)
 hop : hopV (hopF (agedF (sentF bs k L) (sentK bs k) ms) (sentK bs k)) (sentK bs k) = (hopV bs k).map (fun h => (h.1, h.2 + 1))
 la : hopF (agedF (sentF bs k L) (sentK bs k) ms) (sentK bs k) (sentK bs k - 1) = bs (k - 1)
 k0 : 0 < sentK bs k
 hop2 : hopV (agedF (sentF bs k L) (sentK bs k) ms) (sentK bs k) = hopV bs k
theorem St.step {p : PV} {R bs : Nat -> BV} {k : Nat} (h : St p R bs k) {e : EV} (ho : e.ok = true) (ms : Nat) (hh : ∀ l c, hopV bs k = some (l, c) -> c < l) : ∃ R', Stepped p bs k (eidT e).bytes ms R' := by
 obtain ⟨R', h1, h6, hla, k0, hat, hfi⟩ := h.sent ho
 have v7 : ageV (sentF bs k (eidT e).bytes) (sentK bs k) = ageV bs k := by
  unfold ageV
  rw [hfi 7 (.inl rfl)]
  cases hf : firstOf (tyB bs 7) k with
  | none => rfl
  | some i => dsimp only; rw [hat 7 i (.inl rfl) hf]
 have v10 : hopV (sentF bs k (eidT e).bytes) (sentK bs k) = hopV bs k := by
  unfold hopV
  rw [hfi 10 (.inr rfl)]
  cases hf : firstOf (tyB bs 10) k with
  | none => rfl
  | some i => dsimp only; rw [hat 10 i (.inr rfl) hf]
 have h2 : St p R' (agedF (sentF bs k (eidT e).bytes) (sentK bs k) ms) (sentK bs k) /\ ageV (agedF (sentF bs k (eidT e).bytes) (sentK bs k) ms) (sentK bs k) = (ageV bs k).map (oldN · ms) /\ hopV (agedF (sentF bs k (eidT e).bytes) (sentK bs k) ms) (sentK bs k) = hopV bs k /\ agedF (sentF bs k (eidT e).bytes) (sentK bs k) ms (sentK bs k - 1) = bs (k - 1) /\ firstOf (tyB (agedF (sentF bs k (eidT e).bytes) (sentK bs k) ms) 6) (sentK bs k) ≠ none := by
  cases hf : firstOf (tyB (sentF bs k (eidT e).bytes) 7) (sentK bs k) with
  | none =>
   have e1 : agedF (sentF bs k (eidT e).bytes) (sentK bs k) ms = sentF bs k (eidT e).bytes := by unfold agedF; rw [hf]
   have e2 : ageV bs k = none := by rw [<- v7]; unfold ageV; rw [hf]
   rw [e1]
   exact ⟨h1, by rw [v7, e2]; rfl, v10, hla, h6⟩
  | some i =>
   obtain ⟨n, a1, a2, a3⟩ := h1.age_at hf
   have e1 : agedF (sentF bs k (eidT e).bytes) (sentK bs k) ms = setP (sentF bs k (eidT e).bytes) i (headL 0 (oldN n ms)) := by unfold agedF; rw [hf]; dsimp only; rw [a1]; rfl
   obtain ⟨b1, b2, b3, b4, b5⟩ := h1.age hf h6 (n := oldN n ms) (oldN_le a2)
   rw [e1]
   exact ⟨b1, by rw [b2, <- v7, a3]; rfl, by rw [b3, v10], by rw [b4, hla], b5⟩
 obtain ⟨B2, hB2⟩ : ∃ B2, agedF (sentF bs k (eidT e).bytes) (sentK bs k) ms = B2 := ⟨_, rfl⟩
 rw [hB2] at h2
 obtain ⟨g1, g2, g3, g4, g5⟩ := h2
 have h3 : St p R' (hopF B2 (sentK bs k)) (sentK bs k) /\ hopV (hopF B2 (sentK bs k)) (sentK bs k) = (hopV bs k).map (fun h => (h.1, h.2 + 1)) /\ ageV (hopF B2 (sentK bs k)) (sentK bs k) = (ageV bs k).map (oldN · ms) /\ hopF B2 (sentK bs k) (sentK bs k - 1) = bs (k - 1) := by
  cases hf : firstOf (tyB B2 10) (sentK bs k) with
  | none =>
   have e1 : hopF B2 (sentK bs k) = B2 := by unfold hopF; rw [hf]
   have e2 : hopV bs k = none := by rw [<- g3]; unfold hopV; rw [hf]
   rw [e1]
   exact ⟨g1, by rw [g3, e2]; rfl, g2, g4⟩
  | some i =>
   obtain ⟨l, c, a1, a2, a3⟩ := g1.hop_at hf
   have e1 : hopF B2 (sentK bs k) = setP B2 i (130 :: (headL 0 l ++ headL 0 (c + 1))) := by unfold hopF; rw [hf]; dsimp only; rw [a1]; rfl
   have hl := hh l c (by rw [<- g3]; exact a3)
   have hm : mayB l ((c + 1 : Nat) : Int) = true := by
    simp [mayB] at a2 ⊢
    omega
   obtain ⟨b1, b2, b3, b4⟩ := g1.hops hf hm (.inl g5)
   rw [e1]
   exact ⟨b1, by rw [b2, <- g3, a3]; rfl, by rw [b3, g2], by rw [b4, g4]⟩
 exact ⟨R', ⟨h1, by rw [hB2]; exact g1, by rw [hB2]; exact h3.1, by rw [hB2]; exact h3.2.2.1, by rw [hB2]; exact h3.2.1, by rw [hB2]; exact h3.2.2.2, k0, by rw [hB2]; exact g3⟩⟩
theorem extR_all {bs : Nat -> BV} {k : Nat} (h : extR bs k = 0) : ∀ i, i < k -> extB (bs i) = true := fun i hi => by
 cases he : extB (bs i) with
 | true => rfl
 | false => rw [extR_no hi he] at h; exact absurd h (by decide)
theorem St.start {p : PV} {bs : Nat -> BV} {k : Nat} (h : bunRight p bs k = 0) (hx : extR bs k = 0) (hk : k <= 11) (hl : (bunBytes p bs k).length <= 3200) : St p bs bs k :=
 ⟨Lk.refl _ _, bok_of h, by omega, extR_all hx, fun _ => ⟨hl, hk⟩⟩
theorem St.limit {p : PV} {bs : Nat -> BV} {k : Nat} (h : bunRight p bs k = 0) (hx : extR bs k = 0) (hk : k <= 11) (hl : (bunBytes p bs k).length <= 3000) {i : Nat} (hf : firstOf (tyB bs 10) k = some i) {n : Nat} (hn : 1 <= n) (hn2 : n <= 255) :
  St p bs (setP bs i (130 :: (headL 0 n ++ headL 0 0))) k /\ hopV (setP bs i (130 :: (headL 0 n ++ headL 0 0))) k = some (n, 0) /\ setP bs i (130 :: (headL 0 n ++ headL 0 0)) (k - 1) = bs (k - 1) := by
 have h0 := St.start h hx hk (by omega)
 obtain ⟨f1, f2, f3⟩ := firstOf_spec hf
 have f2 := tyB_at f2
 have hr := (bok_of h).br i f1
 have b1 := headL_le 0 n
 have b2 := headL_le 0 0
 have hr' : ({ bs i with data := 130 :: (headL 0 n ++ headL 0 0) } : BV).right = 0 := by
  unfold BV.right at hr ⊢
  dsimp only
  split at hr
  . exact absurd hr (by decide)
  rename_i n1
  split at hr
  . exact absurd hr (by decide)
  rw [if_neg n1, if_neg (by simp; omega)]
  exact hr
 have hlen : (bunBytes p (setP bs i (130 :: (headL 0 n ++ headL 0 0))) k).length <= 3200 := by
  have e := bytes_setP (bs := bs) f1 (d := 130 :: (headL 0 n ++ headL 0 0))
  have le := BV.bytes_le hr'
  unfold bunBytes at hl ⊢
  simp only [List.cons_append, List.length_cons, List.length_append] at hl le ⊢
  simp only [List.length_cons, List.length_append] at e
  omega
 have hm : mayB (n : Int) ((0 : Nat) : Int) = true := by simp [mayB]; omega
 obtain ⟨a, b, _, d⟩ := h0.hops hf (l := n) (c := 0) hm (.inr ⟨hlen, hk⟩)
 exact ⟨a, b, d⟩
theorem extB_6 {x : BV} (h : x.ty = 6) : extB x = (prevO x.data).isSome := by unfold extB; rw [if_pos h]
theorem extB_7 {x : BV} (h : x.ty = 7) : extB x = (ageO x.data).isSome := by unfold extB; rw [if_neg (by omega), if_pos h]
theorem extB_10 {x : BV} (h : x.ty = 10) : extB x = (hopsO x.data).isSome := by unfold extB; rw [if_neg (by omega), if_neg (by omega), if_pos h]
set_option maxRecDepth 20000 in
theorem cright_any (x : BV) (hd : x.data.length <= 1073741824) (w : World) : Calls Tryz.prog 79 #[x.v] w (Ret (.int .i64 (if extB x then 0 else 2)) w) := by
 obtain ⟨ty, num, fl, crc, data⟩ := x
 have KP := hid (fun W => (ReadPrev_any data hd W).mono fun _ _ h => h.1)
 have KA := hid (fun W => ReadAge_any data hd W)
 have KH := hid (fun W => readHops_any data hd W)
 have HE := hid ((Mod.refl [] w).alloc (.cells (BV.c ⟨ty, num, fl, crc, data⟩) 38))
 clear hd
 by_cases t6 : ty = 6
 .
  rw [extB_6 t6]
  subst t6
  dsimp only at KP ⊢
  generalize (if (prevO data).isSome = true then (0 : Int) else 2) = N at *
  go_enter Tryz.func79, Tryz.ntmps79
  go_wp2_with fail
  refine (KP.out _).mono ?_
  rintro e w1 ⟨rfl, hb1⟩
  have HE1 := hid (HE.out.trans hb1)
  clear hb1
  go_wp2_with fail
  go_ret
  exact Ret.mk rfl HE1.out
 by_cases t7 : ty = 7
 .
  rw [extB_7 t7]
  unfold AgePost at KA
  subst t7
  dsimp only at KA ⊢
  generalize (if (ageO data).isSome = true then (0 : Int) else 2) = N at *
  go_enter Tryz.func79, Tryz.ntmps79
  go_wp2_with fail
  refine (KA.out _).mono ?_
  rintro e w1 ⟨rfl, hb1⟩
  have HE1 := hid (HE.out.trans hb1)
  clear hb1
  go_wp2_with fail
  go_ret
  exact Ret.mk rfl HE1.out
 by_cases t10 : ty = 10
 .
  rw [extB_10 t10]
  unfold HopsPost at KH
  subst t10
  dsimp only at KH ⊢
  generalize (if (hopsO data).isSome = true then (0 : Int) else 2) = N at *
  go_enter Tryz.func79, Tryz.ntmps79
  go_wp2_with fail
  refine (KH.out _).mono ?_
  rintro e w1 ⟨rfl, hb1⟩
  have HE1 := hid (HE.out.trans hb1)
  clear hb1
  go_wp2_with fail
  go_ret
  exact Ret.mk rfl HE1.out
 have HX : extB ⟨ty, num, fl, crc, data⟩ = true := by unfold extB; rw [if_neg t6, if_neg t7, if_neg t10]
 rw [HX]
 have n6 : (ty == 6) = false := by simpa using t6
 have m6 : (ty = 6) = False := by simpa using t6
 have n7 : (ty == 7) = false := by simpa using t7
 have m7 : (ty = 7) = False := by simpa using t7
 have n10 : (ty == 10) = false := by simpa using t10
 have m10 : (ty = 10) = False := by simpa using t10
 clear t6 t7 t10 HX
 go_enter Tryz.func79, Tryz.ntmps79
 go_wp2_with fail
 go_ret
 exact Ret.mk rfl HE.out
set_option maxRecDepth 20000 in
set_option maxHeartbeats 800000 in
theorem cRightX_any (p : PV) (bs : Nat -> BV) (k c : Nat) (A : Option Addr) (hk : k < 4611686018427387904) (hd : ∀ i, i < k -> (bs i).data.length <= 1073741824) (w : World) (h : BsL w A k bs) : Calls Tryz.prog 60 #[bunV p A k c] w (Ret (.int .i64 (extR bs k)) w) := by
 have KR : Hid (∀ i, i < k -> ∀ W, Calls Tryz.prog 79 #[(bs i).v] W (Ret (.int .i64 (if extB (bs i) then 0 else 2)) W)) := fun i hi W => cright_any (bs i) (hd i hi) W
 have HE := hid ((Mod.refl [] w).alloc (.cells (bunC p A k c) 29))
 have HB := hid (Blk.new w 29 (bunC p A k c))
 have HL := hid (BsL.ext h HE.out)
 have k1 : (k : Int) < 4611686018427387904 := by omega
 have HK := hid hk
 clear hd
 clear h hk
 go_enter Tryz.func60, Tryz.ntmps60
 go_upto_region 1 with fail
 generalize w.alloc (.cells (bunC p A k c) 29) = V at *
 have b19v : V.cell? ⟨w.heap.size, 19, none⟩ = some (.slice A k c) := HB.out.cell 19
 go_wp2_with fail
 clear b19v
 obtain ⟨e0, he0⟩ := Later.self V
 go_loopw [9] (fun s9 wr => ∃ i : Nat, s9 = .int .i64 (i : Int) /\ Hid (i <= k /\ ∀ j, j < i -> extB (bs j) = true) /\ ∃ e : Later V, wr = e.x) (fun s9 _ => k - (intOf s9).toNat)
 case atStart => exact ⟨0, rfl, (show Hid _ from ⟨by omega, fun j hj => by omega⟩), e0, he0⟩
 case round =>
  clear he0 e0
  obtain ⟨i, rfl, hi, e, rfl⟩ := hrel
  have i0 : (0 : Int) <= (i : Int) := by omega
  by_cases hlt : i < k
  .
   obtain ⟨b, o, rfl, hb, q0, q1, q2, q3, q4⟩ := HL.out.cells hlt
   have tc : decide (i < k) = true := by simp [hlt]
   have i1 : (i : Int) < (k : Int) := by omega
   have HLT := hid hlt
   have KR1 := hid (KR.out i hlt)
   clear hlt
   cases hX : extB (bs i) with
   | true =>
    have HX := hid hX
    rw [hX] at KR1
    clear hX
    go_upto_region 5 with (go_at_call 79; refine (Ret.laterW ((Later.h e).alloc _) (KR1.out _)).mono ?_; rintro x _ ⟨rfl, e1, rfl⟩)
    go_wp2_with fail
    go_roundw
    case rel => exact ⟨i + 1, by go_num, (show Hid _ from ⟨HLT.out, fun j hj => by
     by_cases hji : j = i
     . subst hji; exact HX.out
     . exact hi.out.2 j (by omega)⟩), e1, rfl⟩
    case measure => have := HLT.out; simp [intOf]; omega
   | false =>
    have HR := hid (extR_no HLT.out hX)
    rw [hX] at KR1
    clear hX
    go_upto_region 5 with (go_at_call 79; refine (Ret.laterW ((Later.h e).alloc _) (KR1.out _)).mono ?_; rintro x _ ⟨rfl, e1, rfl⟩)
    go_wp2_with fail
    go_ret
    exact Ret.mk (by rw [HR.out]; rfl) (HE.out.trans e1.h)
  .
   obtain rfl : i = k := by have := hi.out.1; omega
   have tc : decide (i < i) = false := by simp
   have HR := hid (extR_yes hi.out.2)
   go_wp2_with fail
   go_ret
   exact Ret.mk (by rw [HR.out]; rfl) (HE.out.trans e.h)
def rulesR (p : PV) (bs : Nat -> BV) (k : Nat) : Int := if 16 < k then 4 else if bunRule1 bs k then 8 else if bunRule2 p bs k then 8 else if bunRule3 p bs k then 8 else 0
theorem find_age (bs : Nat -> BV) (k : Nat) : ∃ x : BV, findV bs 7 k = .tuple #[x.v, .bool (decide (cntB bs 7 k ≠ 0))] := by
 have h := cntB_find (bs := bs) (typ := 7) (k := k)
 unfold findV
 cases hf : firstOf (tyB bs 7) k with
 | some i => rw [hf] at h; rw [<- h]; exact ⟨bs i, rfl⟩
 | none => rw [hf] at h; rw [<- h]; exact ⟨zeroB, rfl⟩
theorem rule1_once (bs : Nat -> BV) (k : Nat) : bunRule1 bs k = (decide (k = 0) || !onceB bs k) := by
 unfold bunRule1 onceB
 rw [Bool.eq_iff_iff]
 cases dupB bs k <;> simp <;> omega
theorem right_wf {b : BV} (h : b.right = 0) : InI b.num /\ InI b.ty := by
 have := BV.right_zero h
 unfold InI
 omega
set_option maxRecDepth 20000 in
theorem rules_16 (p : PV) (bs : Nat -> BV) (k c : Nat) (A : Option Addr) (h16 : 16 < k) (w : World) (h : BsL w A k bs) : Calls Tryz.prog 93 #[bunV p A k c] w (Ret (.int .i64 4) w) := by
 have HE := hid ((Mod.refl [] w).alloc (.cells (bunC p A k c) 29))
 have HB0 : Hid (Blk (w.alloc (.cells (bunC p A k c) 29)) w.heap.size 29 (bunC p A k c)) := hid (Blk.new w 29 (bunC p A k c))
 have xa : decide ((16 : Int) < (k : Int)) = true := decide_eq_true (by omega)
 have xb : ((16 : Int) < (k : Int)) = True := eq_true (by omega)
 have xc : decide (16 < k) = true := decide_eq_true h16
 clear h h16
 go_enter Tryz.func93, Tryz.ntmps93
 go_upto_region 1 with fail
 generalize (w.alloc (.cells (bunC p A k c) 29)) = V at *
 have b19 : ∀ e : Later V, e.x.cell? ⟨w.heap.size, 19, none⟩ = some (.slice A k c) := HB0.out.cellL 19 rfl
 have b14 : ∀ e : Later V, e.x.cell? ⟨w.heap.size, 14, none⟩ = some (.int .u64 (p.t : Int)) := HB0.out.cellL 14 rfl
 obtain ⟨e, he⟩ := Later.self V
 rw [he]
 clear he
 go_wp2_with fail
 go_ret
 exact Ret.mk rfl (HE.out.trans e.h)
set_option maxRecDepth 20000 in
set_option maxHeartbeats 3200000 in
theorem rules_let (p : PV) (bs : Nat -> BV) (k c : Nat) (A : Option Addr) (h16 : ¬ 16 < k) (x : BV) (L O G F : Bool) (KF : ∀ W, BsL W A k bs -> Calls Tryz.prog 42 #[bunV p A k c, .int .i64 7] W (Ret (.tuple #[x.v, .bool G]) W)) (KL : ∀ W, BsL W A k bs -> Calls Tryz.prog 110 #[.slice A k c] W (Ret (.bool L) W)) (KO : ∀ W, BsL W A k bs -> Calls Tryz.prog 111 #[.slice A k c] W (Ret (.bool O) W)) (KG : L = true -> ∀ W, BsL W A k bs -> Calls Tryz.prog 112 #[bunV p A k c] W (Ret (.bool F) W)) (w : World) (h : BsL w A k bs) : Calls Tryz.prog 93 #[bunV p A k c] w (Ret (.int .i64 (if !L || !O || (decide (p.t = 0) && !G) || !F then 8 else 0)) w) := by
 generalize hRES : (if !L || !O || (decide (p.t = 0) && !G) || !F then (8 : Int) else 0) = RES
 have HRES := hid hRES.symm
 clear hRES
 have HE := hid ((Mod.refl [] w).alloc (.cells (bunC p A k c) 29))
 have HB0 : Hid (Blk (w.alloc (.cells (bunC p A k c) 29)) w.heap.size 29 (bunC p A k c)) := hid (Blk.new w 29 (bunC p A k c))
 have xa : decide ((16 : Int) < (k : Int)) = false := decide_eq_false (by omega)
 have xb : ((16 : Int) < (k : Int)) = False := eq_false (by omega)
 have xc : decide (16 < k) = false := decide_eq_false h16
 have HL := hid (BsL.ext h HE.out)
 have KF := hid KF
 have KL := hid KL
 have KO := hid KO
 have KG := hid KG
 clear h h16
 go_enter Tryz.func93, Tryz.ntmps93
 go_upto_region 1 with fail
 generalize (w.alloc (.cells (bunC p A k c) 29)) = V at *
 have b19 : ∀ e : Later V, e.x.cell? ⟨w.heap.size, 19, none⟩ = some (.slice A k c) := HB0.out.cellL 19 rfl
 have b14 : ∀ e : Later V, e.x.cell? ⟨w.heap.size, 14, none⟩ = some (.int .u64 (p.t : Int)) := HB0.out.cellL 14 rfl
 obtain ⟨e, he⟩ := Later.self V
 rw [he]
 clear he
 go_upto_region 4 with (first | (go_at_call 42; refine (Ret.later (KF.out _ (HL.out.ext (Later.h _)))).mono ?_; rintro x _ ⟨rfl, e, rfl⟩) | (refine wpList_row (by rfl) 29 _ rfl _ rfl (HB0.out.later _) vqA rfl (by kernel_rfl) ?_))
 generalize hU : World.alloc e.x _ = U
 obtain ⟨e2, rfl⟩ : ∃ e2 : Later V, U = e2.x := ⟨⟨U, by rw [<- hU]; exact (Later.h e).alloc _⟩, rfl⟩
 clear hU
 cases L with
 | false =>
  go_wp2_with (first | (go_at_call 110; refine (Ret.later (KL.out _ (HL.out.ext (Later.h _)))).mono ?_; rintro x _ ⟨rfl, e, rfl⟩))
  go_ret
  exact Ret.mk (by rw [HRES.out]; simp) (HE.out.trans (Later.h _))
 | true =>
  have KH := hid (KG.out rfl)
  clear KG
  cases O with
  | false =>
   go_wp2_with (first | (go_at_call 110; refine (Ret.later (KL.out _ (HL.out.ext (Later.h _)))).mono ?_; rintro x _ ⟨rfl, e, rfl⟩) | (go_at_call 111; refine (Ret.later (KO.out _ (HL.out.ext (Later.h _)))).mono ?_; rintro x _ ⟨rfl, e, rfl⟩))
   go_ret
   exact Ret.mk (by rw [HRES.out]; simp) (HE.out.trans (Later.h _))
  | true =>
   by_cases ht : p.t = 0
   .
    have HT := hid ht
    have ta : (((p.t : Int)) == (0)) = true := by rw [beq_iff_eq]; omega
    have tb : (((p.t : Int)) = (0)) = True := eq_true (by omega)
    have tc : (((p.t : Int)) != (0)) = false := by rw [bne_eq_false_iff_eq]; omega
    have ua : ((p.t) == (0)) = true := by rw [beq_iff_eq]; omega
    have ub : ((p.t) = (0)) = True := eq_true (by omega)
    have uc : ((p.t) != (0)) = false := by rw [bne_eq_false_iff_eq]; omega
    clear ht
    cases G with
    | false =>
     go_wp2_with (first | (go_at_call 110; refine (Ret.later (KL.out _ (HL.out.ext (Later.h _)))).mono ?_; rintro x _ ⟨rfl, e, rfl⟩) | (go_at_call 111; refine (Ret.later (KO.out _ (HL.out.ext (Later.h _)))).mono ?_; rintro x _ ⟨rfl, e, rfl⟩))
     go_ret
     exact Ret.mk (by rw [HRES.out]; simp [HT.out]) (HE.out.trans (Later.h _))
    | true =>
     cases F with
     | false =>
      go_wp2_with (first | (go_at_call 110; refine (Ret.later (KL.out _ (HL.out.ext (Later.h _)))).mono ?_; rintro x _ ⟨rfl, e, rfl⟩) | (go_at_call 111; refine (Ret.later (KO.out _ (HL.out.ext (Later.h _)))).mono ?_; rintro x _ ⟨rfl, e, rfl⟩) | (go_at_call 112; refine (Ret.later (KH.out _ (HL.out.ext (Later.h _)))).mono ?_; rintro x _ ⟨rfl, e, rfl⟩) | (refine wpList_row (by rfl) 29 _ rfl _ rfl (HB0.out.later _) vqA rfl (by kernel_rfl) ?_))
      go_ret
      exact Ret.mk (by rw [HRES.out]; simp) (HE.out.trans (Later.h _))
     | true =>
      go_wp2_with (first | (go_at_call 110; refine (Ret.later (KL.out _ (HL.out.ext (Later.h _)))).mono ?_; rintro x _ ⟨rfl, e, rfl⟩) | (go_at_call 111; refine (Ret.later (KO.out _ (HL.out.ext (Later.h _)))).mono ?_; rintro x _ ⟨rfl, e, rfl⟩) | (go_at_call 112; refine (Ret.later (KH.out _ (HL.out.ext (Later.h _)))).mono ?_; rintro x _ ⟨rfl, e, rfl⟩) | (refine wpList_row (by rfl) 29 _ rfl _ rfl (HB0.out.later _) vqA rfl (by kernel_rfl) ?_))
      go_ret
      exact Ret.mk (by rw [HRES.out]; simp) (HE.out.trans (Later.h _))
   .
    have HT := hid ht
    have ta : (((p.t : Int)) == (0)) = false := by rw [beq_eq_false_iff_ne]; omega
    have tb : (((p.t : Int)) = (0)) = False := eq_false (by omega)
    have tc : (((p.t : Int)) != (0)) = true := by rw [bne_iff_ne]; omega
    have ua : ((p.t) == (0)) = false := by rw [beq_eq_false_iff_ne]; omega
    have ub : ((p.t) = (0)) = False := eq_false (by omega)
    have uc : ((p.t) != (0)) = true := by rw [bne_iff_ne]; omega
    clear ht
    cases F with
    | false =>
     go_wp2_with (first | (go_at_call 110; refine (Ret.later (KL.out _ (HL.out.ext (Later.h _)))).mono ?_; rintro x _ ⟨rfl, e, rfl⟩) | (go_at_call 111; refine (Ret.later (KO.out _ (HL.out.ext (Later.h _)))).mono ?_; rintro x _ ⟨rfl, e, rfl⟩) | (go_at_call 112; refine (Ret.later (KH.out _ (HL.out.ext (Later.h _)))).mono ?_; rintro x _ ⟨rfl, e, rfl⟩) | (refine wpList_row (by rfl) 29 _ rfl _ rfl (HB0.out.later _) vqA rfl (by kernel_rfl) ?_))
     go_ret
     exact Ret.mk (by rw [HRES.out]; simp [HT.out]) (HE.out.trans (Later.h _))
    | true =>
     go_wp2_with (first | (go_at_call 110; refine (Ret.later (KL.out _ (HL.out.ext (Later.h _)))).mono ?_; rintro x _ ⟨rfl, e, rfl⟩) | (go_at_call 111; refine (Ret.later (KO.out _ (HL.out.ext (Later.h _)))).mono ?_; rintro x _ ⟨rfl, e, rfl⟩) | (go_at_call 112; refine (Ret.later (KH.out _ (HL.out.ext (Later.h _)))).mono ?_; rintro x _ ⟨rfl, e, rfl⟩) | (refine wpList_row (by rfl) 29 _ rfl _ rfl (HB0.out.later _) vqA rfl (by kernel_rfl) ?_))
     go_ret
     exact Ret.mk (by rw [HRES.out]; simp [HT.out]) (HE.out.trans (Later.h _))
theorem rules_any (p : PV) (bs : Nat -> BV) (k c : Nat) (A : Option Addr) (hf : p.fl < 18446744073709551616) (hk : k < 4611686018427387904) (hp : p.right = 0) (hbs : ∀ i, i < k -> (bs i).right = 0) (w : World) (h : BsL w A k bs) : Calls Tryz.prog 93 #[bunV p A k c] w (Ret (.int .i64 (rulesR p bs k)) w) := by
 have hrs := PV.ranged_spec (PV.right_ranged hp)
 unfold rulesR
 by_cases h16 : 16 < k
 . rw [if_pos h16]; exact rules_16 p bs k c A h16 w h
 .
  rw [if_neg h16, rule1_once]
  obtain ⟨x, hx⟩ := find_age bs k
  have KF : ∀ W, BsL W A k bs -> Calls Tryz.prog 42 #[bunV p A k c, .int .i64 7] W (Ret (.tuple #[x.v, .bool (decide (cntB bs 7 k ≠ 0))]) W) := fun W hW => by rw [<- hx]; exact Find_any p bs k c A 7 hk W hW
  have KO : ∀ W, BsL W A k bs -> Calls Tryz.prog 111 #[.slice A k c] W (Ret (.bool (onceB bs k)) W) := fun W hW => once_any bs k c A (by omega) (fun i hi => right_wf (hbs i hi)) W hW
  cases k with
  | zero =>
   have := rules_let p bs 0 c A h16 x false (onceB bs 0) _ true KF (fun W hW => lasts_0 bs c A W) KO (fun e => by cases e) w h
   simpa using this
  | succ m =>
   have hm := hbs m (by omega)
   have hz := BV.right_zero hm
   have := rules_let p bs (m + 1) c A h16 x (decide ((bs m).ty = 1)) (onceB bs (m + 1)) _ (!(has p.fl 1 && decide (p.n < p.o + (bs m).data.length))) KF (fun W hW => lasts_S bs m c A (by omega) W hW) KO (fun _ W hW => fits_S p bs m c A (by omega) hf (by omega) (by omega) W hW) w h
   refine this.mono fun r w' hr => ?_
   have e : (if !decide ((bs m).ty = 1) || !onceB bs (m + 1) || (decide (p.t = 0) && !decide (cntB bs 7 (m + 1) ≠ 0)) || !!(has p.fl 1 && decide (p.n < p.o + (bs m).data.length)) then (8 : Int) else 0) =
     if (decide (m + 1 = 0) || !onceB bs (m + 1)) = true then 8 else if bunRule2 p bs (m + 1) = true then 8 else if bunRule3 p bs (m + 1) = true then 8 else 0 := by
    unfold bunRule2 bunRule3
    simp only [Nat.add_sub_cancel]
    cases onceB bs (m + 1) <;> by_cases ht : (bs m).ty = 1 <;> by_cases h0 : p.t = 0 <;> by_cases h7 : cntB bs 7 (m + 1) = 0 <;> cases has p.fl 1 <;> simp [ht, h0, h7]
   rw [<- e]
   exact hr
set_option maxRecDepth 20000 in
set_option maxHeartbeats 1600000 in
theorem made_p (p : PV) (bs : Nat -> BV) (k c : Nat) (A : Option Addr) (r : Int) (hr : r ≠ 0) (KP : Hid (∀ W, BsL W A k bs -> Calls Tryz.prog 92 #[bunV p A k c] W (Ret (.int .i64 r) W))) (w : World) (h : BsL w A k bs) : Calls Tryz.prog 78 #[bunV p A k c] w (Ret (.tuple #[str [], .int .i64 r]) w) := by
 have HE := hid ((Mod.refl [] w).alloc (.cells (bunC p A k c) 29))
 have HB0 : Hid (Blk (w.alloc (.cells (bunC p A k c) 29)) w.heap.size 29 (bunC p A k c)) := hid (Blk.new w 29 (bunC p A k c))
 have HL := hid (BsL.ext h HE.out)
 clear h
 have ra : ((r) == (0)) = false := by rw [beq_eq_false_iff_ne]; exact hr
 have rb : ((r) = (0)) = False := eq_false (by exact hr)
 have rc : ((r) != (0)) = true := by rw [bne_iff_ne]; exact hr
 clear hr
 go_enter Tryz.func78, Tryz.ntmps78
 go_upto_region 1 with fail
 generalize (w.alloc (.cells (bunC p A k c) 29)) = V at *
 obtain ⟨e, he⟩ := Later.self V
 rw [he]
 clear he
 go_wp2_with (first | (refine wpList_row (by rfl) 29 _ rfl _ rfl (HB0.out.later _) vqA rfl (by kernel_rfl) ?_) | (go_at_call 92; refine (Ret.later (KP.out _ (HL.out.ext (Later.h _)))).mono ?_; rintro x _ ⟨rfl, e, rfl⟩))
 go_ret2
 exact Ret.mk rfl (HE.out.trans (Later.h _))
set_option maxRecDepth 20000 in
set_option maxHeartbeats 1600000 in
theorem made_r (p : PV) (bs : Nat -> BV) (k c : Nat) (A : Option Addr) (r : Int) (hr : r ≠ 0) (KP : Hid (∀ W, BsL W A k bs -> Calls Tryz.prog 92 #[bunV p A k c] W (Ret (.int .i64 0) W))) (KR : Hid (∀ W, BsL W A k bs -> Calls Tryz.prog 93 #[bunV p A k c] W (Ret (.int .i64 r) W))) (w : World) (h : BsL w A k bs) : Calls Tryz.prog 78 #[bunV p A k c] w (Ret (.tuple #[str [], .int .i64 r]) w) := by
 have HE := hid ((Mod.refl [] w).alloc (.cells (bunC p A k c) 29))
 have HB0 : Hid (Blk (w.alloc (.cells (bunC p A k c) 29)) w.heap.size 29 (bunC p A k c)) := hid (Blk.new w 29 (bunC p A k c))
 have HL := hid (BsL.ext h HE.out)
 clear h
 have ra : ((r) == (0)) = false := by rw [beq_eq_false_iff_ne]; exact hr
 have rb : ((r) = (0)) = False := eq_false (by exact hr)
 have rc : ((r) != (0)) = true := by rw [bne_iff_ne]; exact hr
 clear hr
 go_enter Tryz.func78, Tryz.ntmps78
 go_upto_region 1 with fail
 generalize (w.alloc (.cells (bunC p A k c) 29)) = V at *
 obtain ⟨e, he⟩ := Later.self V
 rw [he]
 clear he
 go_wp2_with (first | (refine wpList_row (by rfl) 29 _ rfl _ rfl (HB0.out.later _) vqA rfl (by kernel_rfl) ?_) | (go_at_call 92; refine (Ret.later (KP.out _ (HL.out.ext (Later.h _)))).mono ?_; rintro x _ ⟨rfl, e, rfl⟩) | (go_at_call 93; refine (Ret.later (KR.out _ (HL.out.ext (Later.h _)))).mono ?_; rintro x _ ⟨rfl, e, rfl⟩))
 go_ret2
 exact Ret.mk rfl (HE.out.trans (Later.h _))
set_option maxRecDepth 20000 in
set_option maxHeartbeats 1600000 in
theorem made_l (p : PV) (bs : Nat -> BV) (k c : Nat) (A : Option Addr) (BB : List UInt8) (hl : 4000 < BB.length) (KP : Hid (∀ W, BsL W A k bs -> Calls Tryz.prog 92 #[bunV p A k c] W (Ret (.int .i64 0) W))) (KR : Hid (∀ W, BsL W A k bs -> Calls Tryz.prog 93 #[bunV p A k c] W (Ret (.int .i64 0) W))) (KB : Hid (∀ W, BsL W A k bs -> Calls Tryz.prog 94 #[bunV p A k c] W (Ret (str BB) W))) (w : World) (h : BsL w A k bs) : Calls Tryz.prog 78 #[bunV p A k c] w (Ret (.tuple #[str [], .int .i64 4]) w) := by
 have HE := hid ((Mod.refl [] w).alloc (.cells (bunC p A k c) 29))
 have HB0 : Hid (Blk (w.alloc (.cells (bunC p A k c) 29)) w.heap.size 29 (bunC p A k c)) := hid (Blk.new w 29 (bunC p A k c))
 have HL := hid (BsL.ext h HE.out)
 clear h
 have la : decide ((4000 : Int) < (BB.length : Int)) = true := decide_eq_true (by omega)
 have lb : ((4000 : Int) < (BB.length : Int)) = True := eq_true (by omega)
 have lc : decide (4000 < BB.length) = true := decide_eq_true hl
 clear hl
 go_enter Tryz.func78, Tryz.ntmps78
 go_upto_region 1 with fail
 generalize (w.alloc (.cells (bunC p A k c) 29)) = V at *
 obtain ⟨e, he⟩ := Later.self V
 rw [he]
 clear he
 go_wp2_with (first | (refine wpList_row (by rfl) 29 _ rfl _ rfl (HB0.out.later _) vqA rfl (by kernel_rfl) ?_) | (go_at_call 92; refine (Ret.later (KP.out _ (HL.out.ext (Later.h _)))).mono ?_; rintro x _ ⟨rfl, e, rfl⟩) | (go_at_call 93; refine (Ret.later (KR.out _ (HL.out.ext (Later.h _)))).mono ?_; rintro x _ ⟨rfl, e, rfl⟩) | (go_at_call 94; refine (Ret.later (KB.out _ (HL.out.ext (Later.h _)))).mono ?_; rintro x _ ⟨rfl, e, rfl⟩))
 go_ret2
 exact Ret.mk rfl (HE.out.trans (Later.h _))
set_option maxRecDepth 20000 in
set_option maxHeartbeats 1600000 in
theorem made_0 (p : PV) (bs : Nat -> BV) (k c : Nat) (A : Option Addr) (BB : List UInt8) (hl : ¬ 4000 < BB.length) (KP : Hid (∀ W, BsL W A k bs -> Calls Tryz.prog 92 #[bunV p A k c] W (Ret (.int .i64 0) W))) (KR : Hid (∀ W, BsL W A k bs -> Calls Tryz.prog 93 #[bunV p A k c] W (Ret (.int .i64 0) W))) (KB : Hid (∀ W, BsL W A k bs -> Calls Tryz.prog 94 #[bunV p A k c] W (Ret (str BB) W))) (w : World) (h : BsL w A k bs) : Calls Tryz.prog 78 #[bunV p A k c] w (Ret (.tuple #[str BB, .int .i64 0]) w) := by
 have HE := hid ((Mod.refl [] w).alloc (.cells (bunC p A k c) 29))
 have HB0 : Hid (Blk (w.alloc (.cells (bunC p A k c) 29)) w.heap.size 29 (bunC p A k c)) := hid (Blk.new w 29 (bunC p A k c))
 have HL := hid (BsL.ext h HE.out)
 clear h
 have la : decide ((4000 : Int) < (BB.length : Int)) = false := decide_eq_false (by omega)
 have lb : ((4000 : Int) < (BB.length : Int)) = False := eq_false (by omega)
 have lc : decide (4000 < BB.length) = false := decide_eq_false hl
 clear hl
 go_enter Tryz.func78, Tryz.ntmps78
 go_upto_region 1 with fail
 generalize (w.alloc (.cells (bunC p A k c) 29)) = V at *
 obtain ⟨e, he⟩ := Later.self V
 rw [he]
 clear he
 go_wp2_with (first | (refine wpList_row (by rfl) 29 _ rfl _ rfl (HB0.out.later _) vqA rfl (by kernel_rfl) ?_) | (go_at_call 92; refine (Ret.later (KP.out _ (HL.out.ext (Later.h _)))).mono ?_; rintro x _ ⟨rfl, e, rfl⟩) | (go_at_call 93; refine (Ret.later (KR.out _ (HL.out.ext (Later.h _)))).mono ?_; rintro x _ ⟨rfl, e, rfl⟩) | (go_at_call 94; refine (Ret.later (KB.out _ (HL.out.ext (Later.h _)))).mono ?_; rintro x _ ⟨rfl, e, rfl⟩))
 go_ret2
 exact Ret.mk rfl (HE.out.trans (Later.h _))
def madeV (p : PV) (bs : Nat -> BV) (k : Nat) : Value := .tuple #[str (if bunRight p bs k = 0 then bunBytes p bs k else []), .int .i64 (bunRight p bs k)]
theorem made_any (p : PV) (bs : Nat -> BV) (k c : Nat) (A : Option Addr) (hnl : Hid (p.d.name.length < 4611686018427387904 /\ p.s.name.length < 4611686018427387904 /\ p.r.name.length < 4611686018427387904)) (hf : p.fl < 18446744073709551616) (hk : k < 4611686018427387904) (w : World) (h : BsL w A k bs) : Calls Tryz.prog 78 #[bunV p A k c] w (Ret (madeV p bs k) w) := by
 have KP := hid (fun W (hW : BsL W A k bs) => bparts_any p bs k c A hnl hf hk W hW)
 unfold madeV
 by_cases hp : p.right = 0
 .
  cases hfo : firstOf (badAt bs) k with
  | some i =>
   have hb : (bs i).right ≠ 0 := by have := (firstOf_spec hfo).2.1; simpa [badAt] using this
   have e1 : partsR p bs k = (bs i).right := by unfold partsR; rw [if_neg (by simpa using hp), hfo]
   have e2 : bunRight p bs k = (bs i).right := by unfold bunRight; rw [if_neg (by simpa using hp), hfo]
   rw [e1] at KP
   rw [e2, if_neg hb]
   exact made_p p bs k c A _ hb KP w h
  | none =>
   have hbs : ∀ i, i < k -> (bs i).right = 0 := fun i hi => bad_no (firstOf_no hfo i hi)
   have e1 : partsR p bs k = 0 := by unfold partsR; rw [if_neg (by simpa using hp), hfo]
   have e2 : bunRight p bs k = if rulesR p bs k ≠ 0 then rulesR p bs k else if 4000 < (bunBytes p bs k).length then 4 else 0 := by
    unfold bunRight rulesR
    rw [if_neg (show ¬ p.right ≠ 0 by simpa using hp), hfo]
    by_cases h16 : 16 < k
    . simp [h16]
    . cases bunRule1 bs k <;> cases bunRule2 p bs k <;> cases bunRule3 p bs k <;> simp [h16]
   rw [e1] at KP
   have KR := hid (fun W (hW : BsL W A k bs) => rules_any p bs k c A hf hk hp hbs W hW)
   by_cases hr : rulesR p bs k = 0
   .
    rw [hr] at KR
    have h16 : k <= 16 := by
     unfold rulesR at hr
     by_cases h16 : 16 < k
     . rw [if_pos h16] at hr; exact absurd hr (by decide)
     . omega
    have KB := hid (fun W (hW : BsL W A k bs) => bbuild_any p bs k c A hnl hf (by omega) hp hbs W hW)
    have e3 : bunRight p bs k = if 4000 < (bunBytes p bs k).length then 4 else 0 := by rw [e2, if_neg (show ¬ rulesR p bs k ≠ 0 by simpa using hr)]
    by_cases hl : 4000 < (bunBytes p bs k).length
    .
     rw [if_pos hl] at e3
     rw [e3, if_neg (show ¬ (4 : Int) = 0 by decide)]; exact made_l p bs k c A _ hl KP KR KB w h
    .
     rw [if_neg hl] at e3
     rw [e3, if_pos rfl]; exact made_0 p bs k c A _ hl KP KR KB w h
   .
    rw [e2, if_pos hr, if_neg hr]
    exact made_r p bs k c A _ hr KP KR w h
 .
  have e1 : partsR p bs k = p.right := by unfold partsR; rw [if_pos hp]
  have e2 : bunRight p bs k = p.right := by unfold bunRight; rw [if_pos hp]
  rw [e1] at KP
  rw [e2, if_neg hp]
  exact made_p p bs k c A _ hp KP w h
set_option maxRecDepth 20000 in
theorem cBunRight_any (p : PV) (bs : Nat -> BV) (k c : Nat) (A : Option Addr) (hnl : Hid (p.d.name.length < 4611686018427387904 /\ p.s.name.length < 4611686018427387904 /\ p.r.name.length < 4611686018427387904)) (hf : p.fl < 18446744073709551616) (hk : k < 4611686018427387904) (w : World) (h : BsL w A k bs) : Calls Tryz.prog 59 #[bunV p A k c] w (Ret (.int .i64 (bunRight p bs k)) w) := by
 have KM := hid (fun W (hW : BsL W A k bs) => made_any p bs k c A hnl hf hk W hW)
 unfold madeV at KM
 generalize (if bunRight p bs k = 0 then bunBytes p bs k else []) = BB at *
 generalize bunRight p bs k = r at *
 have HE := hid ((Mod.refl [] w).alloc (.cells (bunC p A k c) 29))
 have HB0 : Hid (Blk (w.alloc (.cells (bunC p A k c) 29)) w.heap.size 29 (bunC p A k c)) := hid (Blk.new w 29 (bunC p A k c))
 have HL := hid (BsL.ext h HE.out)
 clear h
 go_enter Tryz.func59, Tryz.ntmps59
 go_upto_region 1 with fail
 generalize (w.alloc (.cells (bunC p A k c) 29)) = V at *
 obtain ⟨e, he⟩ := Later.self V
 rw [he]
 clear he
 go_wp2_with (first | (refine wpList_row (by rfl) 29 _ rfl _ rfl (HB0.out.later _) vqA rfl (by kernel_rfl) ?_) | (go_at_call 78; refine (Ret.later (KM.out _ (HL.out.ext (Later.h _)))).mono ?_; rintro x _ ⟨rfl, e, rfl⟩))
 go_ret
 exact Ret.mk rfl (HE.out.trans (Later.h _))
def zeroBun : Array Value := #[.int .u64 0, .int .i64 0, .int .i64 0, .string ⟨#[]⟩, .int .u64 0, .int .u64 0, .int .i64 0, .string ⟨#[]⟩, .int .u64 0, .int .u64 0, .int .i64 0, .string ⟨#[]⟩, .int .u64 0, .int .u64 0, .int .u64 0, .int .u64 0, .int .u64 0, .int .u64 0, .int .u64 0, .slice none 0 0]
def chkV (p : PV) (A : Option Addr) (k c : Nat) (r : Int) : Value := if r = 0 then .tuple #[bunV p A k c, .int .i64 0] else .tuple #[.agg zeroBun, .int .i64 r]
theorem chkV_0 {p : PV} {A : Option Addr} {k c : Nat} {r : Int} (h : r = 0) : chkV p A k c r = .tuple #[bunV p A k c, .int .i64 0] := if_pos h
theorem chkV_no {p : PV} {A : Option Addr} {k c : Nat} {r : Int} (h : r ≠ 0) : chkV p A k c r = .tuple #[.agg zeroBun, .int .i64 r] := if_neg h
set_option maxRecDepth 20000 in
set_option maxHeartbeats 1600000 in
theorem checked_ok (p : PV) (bs' : Nat -> BV) (k c k' c' : Nat) (A A' : Option Addr) (hnl : Hid (p.d.name.length < 4611686018427387904 /\ p.s.name.length < 4611686018427387904 /\ p.r.name.length < 4611686018427387904)) (hf : p.fl < 18446744073709551616) (hk : k' < 4611686018427387904) (hr : bunRight p bs' k' = 0) (w : World) (h : BsL w A' k' bs') (hlt : ∀ kk o', A' = some ⟨kk, o', none⟩ -> kk < w.heap.size) : Calls Tryz.prog 80 #[bunV p A k c, .slice A' k' c'] w (Ret ((.tuple #[bunV p A' k' c', .int .i64 0] : Value)) w) := by
 have KR := hid (fun W (hW : BsL W A' k' bs') => cBunRight_any p bs' k' c' A' hnl hf hk W hW)
 rw [hr] at KR
 clear hr
 have HLT := hid hlt
 clear hlt hk
 have HE := hid (((Mod.refl [] w).alloc (.cells (bunC p A k c) 29)).alloc (.cells #[.int .u64 0, .int .i64 0, .int .i64 0, .string ⟨#[]⟩, .int .u64 0, .int .u64 0, .int .i64 0, .string ⟨#[]⟩, .int .u64 0, .int .u64 0, .int .i64 0, .string ⟨#[]⟩, .int .u64 0, .int .u64 0, .int .u64 0, .int .u64 0, .int .u64 0, .int .u64 0, .int .u64 0, .slice none 0 0] 29))
 have HB0 : Hid (Blk ((w.alloc (.cells (bunC p A k c) 29)).alloc (.cells #[.int .u64 0, .int .i64 0, .int .i64 0, .string ⟨#[]⟩, .int .u64 0, .int .u64 0, .int .i64 0, .string ⟨#[]⟩, .int .u64 0, .int .u64 0, .int .i64 0, .string ⟨#[]⟩, .int .u64 0, .int .u64 0, .int .u64 0, .int .u64 0, .int .u64 0, .int .u64 0, .int .u64 0, .slice none 0 0] 29)) w.heap.size 29 (bunC p A k c)) := hid ((Blk.new w 29 (bunC p A k c)).alloc (.cells #[.int .u64 0, .int .i64 0, .int .i64 0, .string ⟨#[]⟩, .int .u64 0, .int .u64 0, .int .i64 0, .string ⟨#[]⟩, .int .u64 0, .int .u64 0, .int .i64 0, .string ⟨#[]⟩, .int .u64 0, .int .u64 0, .int .u64 0, .int .u64 0, .int .u64 0, .int .u64 0, .int .u64 0, .slice none 0 0] 29))
 have HB1 : Hid (Blk ((w.alloc (.cells (bunC p A k c) 29)).alloc (.cells #[.int .u64 0, .int .i64 0, .int .i64 0, .string ⟨#[]⟩, .int .u64 0, .int .u64 0, .int .i64 0, .string ⟨#[]⟩, .int .u64 0, .int .u64 0, .int .i64 0, .string ⟨#[]⟩, .int .u64 0, .int .u64 0, .int .u64 0, .int .u64 0, .int .u64 0, .int .u64 0, .int .u64 0, .slice none 0 0] 29)) (w.heap.size + 1) 29 #[.int .u64 0, .int .i64 0, .int .i64 0, .string ⟨#[]⟩, .int .u64 0, .int .u64 0, .int .i64 0, .string ⟨#[]⟩, .int .u64 0, .int .u64 0, .int .i64 0, .string ⟨#[]⟩, .int .u64 0, .int .u64 0, .int .u64 0, .int .u64 0, .int .u64 0, .int .u64 0, .int .u64 0, .slice none 0 0]) := by unfold Hid; exact Blk.newL _ _ _ (by simp)
 have HL := hid (BsL.ext h HE.out)
 clear h
 go_enter Tryz.func80, Tryz.ntmps80
 go_upto_region 1 with fail
 generalize ((w.alloc (.cells (bunC p A k c) 29)).alloc (.cells #[.int .u64 0, .int .i64 0, .int .i64 0, .string ⟨#[]⟩, .int .u64 0, .int .u64 0, .int .i64 0, .string ⟨#[]⟩, .int .u64 0, .int .u64 0, .int .i64 0, .string ⟨#[]⟩, .int .u64 0, .int .u64 0, .int .u64 0, .int .u64 0, .int .u64 0, .int .u64 0, .int .u64 0, .slice none 0 0] 29)) = V at *
 have b19 : V.cell? ⟨w.heap.size, 19, none⟩ = some (.slice A k c) := HB0.out.cell 19
 have b19f : V.frozen? ⟨w.heap.size, 19, none⟩ = false := HB0.out.frozen 19
 go_upto_region 2 with fail
 generalize hU : World.setCell V _ _ = U
 have HX : Hid (Blk U w.heap.size 29 (bunC p A' k' c')) := hid (by rw [<- hU]; exact HB0.out.set_ 19 (.slice A' k' c'))
 have HR : Hid (Blk U (w.heap.size + 1) 29 #[.int .u64 0, .int .i64 0, .int .i64 0, .string ⟨#[]⟩, .int .u64 0, .int .u64 0, .int .i64 0, .string ⟨#[]⟩, .int .u64 0, .int .u64 0, .int .i64 0, .string ⟨#[]⟩, .int .u64 0, .int .u64 0, .int .u64 0, .int .u64 0, .int .u64 0, .int .u64 0, .int .u64 0, .slice none 0 0]) := hid (by rw [<- hU]; exact HB1.out.far (by simp) _)
 have HU : Hid (Ext w U) := hid (by rw [<- hU]; exact HE.out.setCell (.inr (Nat.le_refl _)) _)
 have HLU : Hid (BsL U A' k' bs') := hid (by
  intro hn
  obtain ⟨bb, oo, hA, hbl, hcc⟩ := HL.out hn
  have hlt := HLT.out bb oo hA
  rw [<- hU]
  exact ⟨bb, oo, hA, Nat.lt_of_lt_of_le hbl (by simp [World.setCell]), fun j hj => (hcc j hj).mod (S := [w.heap.size]) (Mod.setCell (Mod.refl _ _) (.inl (by simp)) _) hbl (by simp; omega)⟩)
 clear hU b19 b19f HB0 HB1 HL HE
 obtain ⟨e, he⟩ := Later.self U
 rw [he]
 clear he
 go_wp2_with (first | (go_at_call 59; refine (Ret.later (KR.out _ (HLU.out.ext (Later.h _)))).mono ?_; rintro x _ ⟨rfl, e, rfl⟩) | (refine wpList_row (by rfl) 29 _ rfl _ rfl (HX.out.later _) vqA rfl (by kernel_rfl) ?_) | (refine wpList_store_mid rfl 29 _ _ rfl (w.heap.size + 1) 0 (bunC p A' k' c') (by rfl) (by rfl) ((HR.out.later e).there (Nat.le_refl 20)) (by kernel_rfl) (by simp [Value.oneCell']) ?_))
 generalize hZ : World.setCells _ _ _ _ = Z
 have HZB : Hid (Blk Z (w.heap.size + 1) 29 (bunC p A' k' c')) := hid (by rw [<- hZ]; exact setCells_all (ds := (bunC p A' k' c')) (HR.out.later e) rfl)
 have HZM : Hid (Ext w Z) := hid (by rw [<- hZ]; exact setCells_mod _ _ (HU.out.trans e.h) (.inr (by simp)))
 clear hZ
 refine bodyPost_ret (v := (.tuple #[bunV p A' k' c', .int .i64 0] : Value)) (results_cell2 Tryz.results80 _ rfl rfl HZB.out vqA rfl (by kernel_rfl)) rfl (Ret.mk rfl HZM.out)
set_option maxRecDepth 20000 in
set_option maxHeartbeats 1600000 in
theorem checked_no (p : PV) (bs' : Nat -> BV) (k c k' c' : Nat) (A A' : Option Addr) (hnl : Hid (p.d.name.length < 4611686018427387904 /\ p.s.name.length < 4611686018427387904 /\ p.r.name.length < 4611686018427387904)) (hf : p.fl < 18446744073709551616) (hk : k' < 4611686018427387904) (r : Int) (hr : bunRight p bs' k' = r) (h0 : r ≠ 0) (w : World) (h : BsL w A' k' bs') (hlt : ∀ kk o', A' = some ⟨kk, o', none⟩ -> kk < w.heap.size) : Calls Tryz.prog 80 #[bunV p A k c, .slice A' k' c'] w (Ret ((.tuple #[.agg #[.int .u64 0, .int .i64 0, .int .i64 0, .string ⟨#[]⟩, .int .u64 0, .int .u64 0, .int .i64 0, .string ⟨#[]⟩, .int .u64 0, .int .u64 0, .int .i64 0, .string ⟨#[]⟩, .int .u64 0, .int .u64 0, .int .u64 0, .int .u64 0, .int .u64 0, .int .u64 0, .int .u64 0, .slice none 0 0], .int .i64 r] : Value)) w) := by
 have KR := hid (fun W (hW : BsL W A' k' bs') => cBunRight_any p bs' k' c' A' hnl hf hk W hW)
 rw [hr] at KR
 have ra : ((r) == (0)) = false := by rw [beq_eq_false_iff_ne]; exact h0
 have rb : ((r) = (0)) = False := eq_false (by exact h0)
 have rc : ((r) != (0)) = true := by rw [bne_iff_ne]; exact h0
 clear hr h0
 have HLT := hid hlt
 clear hlt hk
 have HE := hid (((Mod.refl [] w).alloc (.cells (bunC p A k c) 29)).alloc (.cells #[.int .u64 0, .int .i64 0, .int .i64 0, .string ⟨#[]⟩, .int .u64 0, .int .u64 0, .int .i64 0, .string ⟨#[]⟩, .int .u64 0, .int .u64 0, .int .i64 0, .string ⟨#[]⟩, .int .u64 0, .int .u64 0, .int .u64 0, .int .u64 0, .int .u64 0, .int .u64 0, .int .u64 0, .slice none 0 0] 29))
 have HB0 : Hid (Blk ((w.alloc (.cells (bunC p A k c) 29)).alloc (.cells #[.int .u64 0, .int .i64 0, .int .i64 0, .string ⟨#[]⟩, .int .u64 0, .int .u64 0, .int .i64 0, .string ⟨#[]⟩, .int .u64 0, .int .u64 0, .int .i64 0, .string ⟨#[]⟩, .int .u64 0, .int .u64 0, .int .u64 0, .int .u64 0, .int .u64 0, .int .u64 0, .int .u64 0, .slice none 0 0] 29)) w.heap.size 29 (bunC p A k c)) := hid ((Blk.new w 29 (bunC p A k c)).alloc (.cells #[.int .u64 0, .int .i64 0, .int .i64 0, .string ⟨#[]⟩, .int .u64 0, .int .u64 0, .int .i64 0, .string ⟨#[]⟩, .int .u64 0, .int .u64 0, .int .i64 0, .string ⟨#[]⟩, .int .u64 0, .int .u64 0, .int .u64 0, .int .u64 0, .int .u64 0, .int .u64 0, .int .u64 0, .slice none 0 0] 29))
 have HB1 : Hid (Blk ((w.alloc (.cells (bunC p A k c) 29)).alloc (.cells #[.int .u64 0, .int .i64 0, .int .i64 0, .string ⟨#[]⟩, .int .u64 0, .int .u64 0, .int .i64 0, .string ⟨#[]⟩, .int .u64 0, .int .u64 0, .int .i64 0, .string ⟨#[]⟩, .int .u64 0, .int .u64 0, .int .u64 0, .int .u64 0, .int .u64 0, .int .u64 0, .int .u64 0, .slice none 0 0] 29)) (w.heap.size + 1) 29 #[.int .u64 0, .int .i64 0, .int .i64 0, .string ⟨#[]⟩, .int .u64 0, .int .u64 0, .int .i64 0, .string ⟨#[]⟩, .int .u64 0, .int .u64 0, .int .i64 0, .string ⟨#[]⟩, .int .u64 0, .int .u64 0, .int .u64 0, .int .u64 0, .int .u64 0, .int .u64 0, .int .u64 0, .slice none 0 0]) := by unfold Hid; exact Blk.newL _ _ _ (by simp)
 have HL := hid (BsL.ext h HE.out)
 clear h
 go_enter Tryz.func80, Tryz.ntmps80
 go_upto_region 1 with fail
 generalize ((w.alloc (.cells (bunC p A k c) 29)).alloc (.cells #[.int .u64 0, .int .i64 0, .int .i64 0, .string ⟨#[]⟩, .int .u64 0, .int .u64 0, .int .i64 0, .string ⟨#[]⟩, .int .u64 0, .int .u64 0, .int .i64 0, .string ⟨#[]⟩, .int .u64 0, .int .u64 0, .int .u64 0, .int .u64 0, .int .u64 0, .int .u64 0, .int .u64 0, .slice none 0 0] 29)) = V at *
 have b19 : V.cell? ⟨w.heap.size, 19, none⟩ = some (.slice A k c) := HB0.out.cell 19
 have b19f : V.frozen? ⟨w.heap.size, 19, none⟩ = false := HB0.out.frozen 19
 go_upto_region 2 with fail
 generalize hU : World.setCell V _ _ = U
 have HX : Hid (Blk U w.heap.size 29 (bunC p A' k' c')) := hid (by rw [<- hU]; exact HB0.out.set_ 19 (.slice A' k' c'))
 have HR : Hid (Blk U (w.heap.size + 1) 29 #[.int .u64 0, .int .i64 0, .int .i64 0, .string ⟨#[]⟩, .int .u64 0, .int .u64 0, .int .i64 0, .string ⟨#[]⟩, .int .u64 0, .int .u64 0, .int .i64 0, .string ⟨#[]⟩, .int .u64 0, .int .u64 0, .int .u64 0, .int .u64 0, .int .u64 0, .int .u64 0, .int .u64 0, .slice none 0 0]) := hid (by rw [<- hU]; exact HB1.out.far (by simp) _)
 have HU : Hid (Ext w U) := hid (by rw [<- hU]; exact HE.out.setCell (.inr (Nat.le_refl _)) _)
 have HLU : Hid (BsL U A' k' bs') := hid (by
  intro hn
  obtain ⟨bb, oo, hA, hbl, hcc⟩ := HL.out hn
  have hlt := HLT.out bb oo hA
  rw [<- hU]
  exact ⟨bb, oo, hA, Nat.lt_of_lt_of_le hbl (by simp [World.setCell]), fun j hj => (hcc j hj).mod (S := [w.heap.size]) (Mod.setCell (Mod.refl _ _) (.inl (by simp)) _) hbl (by simp; omega)⟩)
 clear hU b19 b19f HB0 HB1 HL HE
 obtain ⟨e, he⟩ := Later.self U
 rw [he]
 clear he
 go_wp2_with (first | (go_at_call 59; refine (Ret.later (KR.out _ (HLU.out.ext (Later.h _)))).mono ?_; rintro x _ ⟨rfl, e, rfl⟩) | (refine wpList_row (by rfl) 29 _ rfl _ rfl (HX.out.later _) vqA rfl (by kernel_rfl) ?_) | (refine wpList_store_mid rfl 29 _ _ rfl (w.heap.size + 1) 0 #[.int .u64 0, .int .i64 0, .int .i64 0, .string ⟨#[]⟩, .int .u64 0, .int .u64 0, .int .i64 0, .string ⟨#[]⟩, .int .u64 0, .int .u64 0, .int .i64 0, .string ⟨#[]⟩, .int .u64 0, .int .u64 0, .int .u64 0, .int .u64 0, .int .u64 0, .int .u64 0, .int .u64 0, .slice none 0 0] (by rfl) (by rfl) ((HR.out.later e).there (Nat.le_refl 20)) (by kernel_rfl) (by simp [Value.oneCell']) ?_))
 generalize hZ : World.setCells _ _ _ _ = Z
 have HZB : Hid (Blk Z (w.heap.size + 1) 29 #[.int .u64 0, .int .i64 0, .int .i64 0, .string ⟨#[]⟩, .int .u64 0, .int .u64 0, .int .i64 0, .string ⟨#[]⟩, .int .u64 0, .int .u64 0, .int .i64 0, .string ⟨#[]⟩, .int .u64 0, .int .u64 0, .int .u64 0, .int .u64 0, .int .u64 0, .int .u64 0, .int .u64 0, .slice none 0 0]) := hid (by rw [<- hZ]; exact setCells_all (ds := #[.int .u64 0, .int .i64 0, .int .i64 0, .string ⟨#[]⟩, .int .u64 0, .int .u64 0, .int .i64 0, .string ⟨#[]⟩, .int .u64 0, .int .u64 0, .int .i64 0, .string ⟨#[]⟩, .int .u64 0, .int .u64 0, .int .u64 0, .int .u64 0, .int .u64 0, .int .u64 0, .int .u64 0, .slice none 0 0]) (HR.out.later e) rfl)
 have HZM : Hid (Ext w Z) := hid (by rw [<- hZ]; exact setCells_mod _ _ (HU.out.trans e.h) (.inr (by simp)))
 clear hZ
 refine bodyPost_ret (v := (.tuple #[.agg #[.int .u64 0, .int .i64 0, .int .i64 0, .string ⟨#[]⟩, .int .u64 0, .int .u64 0, .int .i64 0, .string ⟨#[]⟩, .int .u64 0, .int .u64 0, .int .i64 0, .string ⟨#[]⟩, .int .u64 0, .int .u64 0, .int .u64 0, .int .u64 0, .int .u64 0, .int .u64 0, .int .u64 0, .slice none 0 0], .int .i64 r] : Value)) (results_cell2 Tryz.results80 _ rfl rfl HZB.out vqA rfl (by kernel_rfl)) rfl (Ret.mk rfl HZM.out)
theorem checked_any (p : PV) (bs' : Nat -> BV) (k c k' c' : Nat) (A A' : Option Addr) (hnl : Hid (p.d.name.length < 4611686018427387904 /\ p.s.name.length < 4611686018427387904 /\ p.r.name.length < 4611686018427387904)) (hf : p.fl < 18446744073709551616) (hk : k' < 4611686018427387904) (w : World) (h : BsL w A' k' bs') (hlt : ∀ kk o', A' = some ⟨kk, o', none⟩ -> kk < w.heap.size) : Calls Tryz.prog 80 #[bunV p A k c, .slice A' k' c'] w (Ret (chkV p A' k' c' (bunRight p bs' k')) w) := by
 by_cases hr : bunRight p bs' k' = 0
 . rw [chkV_0 hr]; exact checked_ok p bs' k c k' c' A A' hnl hf hk hr w h hlt
 . rw [chkV_no hr]; exact checked_no p bs' k c k' c' A A' hnl hf hk _ rfl hr w h hlt
theorem chk_cells (p : PV) (A : Option Addr) (k c : Nat) (r : Int) : ∃ (zc : Array Value) (r' : Int), chkV p A k c r = .tuple #[.agg zc, .int .i64 r'] /\ (Tryz.prog.info? 29).map (·.size) = some zc.size /\ zc.all (·.oneCell') = true /\ zc.size = 20 := by
 by_cases h : r = 0
 . rw [chkV_0 h]; exact ⟨bunC p A k c, 0, rfl, by kernel_rfl, by simp [Value.oneCell'], rfl⟩
 . rw [chkV_no h]; exact ⟨zeroBun, r, rfl, by kernel_rfl, by simp [zeroBun, Value.oneCell'], rfl⟩
theorem modg {V w1 w2 : World} {r g : Nat} (h1 : Mod [r] V w1) (h2 : Mod [g] w1 w2) (hg : V.heap.size <= g) : Mod [r] V w2 :=
 Mod.new (S := [r, g]) ((h1.mono (fun k hk => by simp at hk; simp [hk])).trans (h2.mono (fun k hk => by simp at hk; simp [hk]))) (fun k hk => by
  simp at hk
  rcases hk with rfl | rfl
  . exact .inl (by simp)
  . exact .inr hg)
def setAt (bs : Nat -> BV) (i : Nat) (x : BV) (j : Nat) : BV := if j = i then x else bs j
theorem own_set {w : World} {base g k c i : Nat} {bs : Nat -> BV} (x : BV) (hi : i < k) (hown : w.ownsRow base 38 5 (.slice (some ⟨g, 0, none⟩) k c) k (flatB bs k)) : (w.setCells g (i * 5) (rowB x)).ownsRow base 38 5 (.slice (some ⟨g, 0, none⟩) k c) k (flatB (setAt bs i x) k) /\ w.there g (i * 5) 5 := by
 rcases hown.2 with ⟨h, _⟩ | ⟨q, cap, cur, h, hbg, hg, hnc, hcm, hcz, htk⟩
 . cases h
 .
  simp only [Value.slice.injEq, Option.some.injEq, Addr.mk.injEq, and_true, true_and] at h
  obtain ⟨rfl, rfl⟩ := h
  have hB : Blk w g 38 cur := hg
  have h0 : ∀ j, j < k * 5 -> cur[j]? = some (cellB (bs (j / 5)) (j % 5)) := fun j hj => by
   rw [<- take_at cur (k * 5) (by omega) j hj, htk, flatB_at bs k j hj]
  have hr : (rowB x).length = 5 := rfl
  have hB1 := setRow_blk (rowB x) w (i * 5) cur hB
  rw [setRow_eq] at hB1
  refine ⟨⟨by simp [flatB_length], .inr ⟨g, c, _, rfl, hbg, hB1, hnc, hcm, by rw [writeFrom_size]; exact hcz, ?_⟩⟩, fun j hj => ⟨?_, hB.frozen _⟩⟩
  .
   refine flatB_of _ _ (by rw [List.length_take, Array.length_toList, writeFrom_size]; omega) fun j hj => ?_
   rw [take_at _ _ (by rw [writeFrom_size]; omega) j hj, writeFrom_get _ _ _ _ (by rw [hr]; omega)]
   unfold setAt
   by_cases c0 : i * 5 <= j /\ j < i * 5 + 5
   . rw [if_pos (by rw [hr]; omega), rowB_at x (by omega), if_pos (by omega), show j - i * 5 = j % 5 by omega]
   . rw [if_neg (by rw [hr]; omega), h0 j hj, if_neg (by omega)]
  . rw [hB.cell, Array.getElem?_eq_getElem (by omega)]; rfl
set_option maxRecDepth 20000 in
set_option maxHeartbeats 4000000 in
theorem Set_some (p : PV) (bs : Nat -> BV) (k c : Nat) (A : Option Addr) (x : BV) (hnl : Hid (p.d.name.length < 4611686018427387904 /\ p.s.name.length < 4611686018427387904 /\ p.r.name.length < 4611686018427387904)) (hf : p.fl < 18446744073709551616) (hk : k <= 100000) (i : Nat) (hsome : firstOf (numB bs x.num) k = some i) (w : World) (h : BsL w A k bs) : Calls Tryz.prog 64 #[bunV p A k c, x.v] w (fun e w' => ∃ A' c', e = .returned (chkV p A' k c' (bunRight p (setAt bs i x) k)) /\ Ext w w' /\ BsL w' A' k (setAt bs i x) /\ SlA A' k c') := by
 have hi := (firstOf_spec hsome).1
 have KA := hid (fun W (hW : BsL W A k bs) => at_any p bs k c A x.num (by omega) W hW)
 unfold firstI at KA
 rw [hsome] at KA
 have KC := hid (fun W (hW : BsL W A k bs) => CloneB_any bs k (by unfold Hid; omega) A c W hW)
 have KK := hid (fun W A' c' (hW : BsL W A' k (setAt bs i x)) hlt => checked_any p (setAt bs i x) k c k c' A A' hnl hf (by omega) W hW hlt)
 have HSET := hid (fun W base g c' hown => own_set (w := W) (base := base) (g := g) (c := c') (bs := bs) x hi hown)
 have HE := hid ((((Mod.refl [] w).alloc (.cells (bunC p A k c) 29)).alloc (.cells (BV.c x) 38)).alloc (.cells #[.int .u64 0, .int .i64 0, .int .i64 0, .string ⟨#[]⟩, .int .u64 0, .int .u64 0, .int .i64 0, .string ⟨#[]⟩, .int .u64 0, .int .u64 0, .int .i64 0, .string ⟨#[]⟩, .int .u64 0, .int .u64 0, .int .u64 0, .int .u64 0, .int .u64 0, .int .u64 0, .int .u64 0, .slice none 0 0] 29))
 have HB0 : Hid (Blk (((w.alloc (.cells (bunC p A k c) 29)).alloc (.cells (BV.c x) 38)).alloc (.cells #[.int .u64 0, .int .i64 0, .int .i64 0, .string ⟨#[]⟩, .int .u64 0, .int .u64 0, .int .i64 0, .string ⟨#[]⟩, .int .u64 0, .int .u64 0, .int .i64 0, .string ⟨#[]⟩, .int .u64 0, .int .u64 0, .int .u64 0, .int .u64 0, .int .u64 0, .int .u64 0, .int .u64 0, .slice none 0 0] 29)) w.heap.size 29 (bunC p A k c)) := hid (((Blk.new w 29 (bunC p A k c)).alloc (.cells (BV.c x) 38)).alloc (.cells #[.int .u64 0, .int .i64 0, .int .i64 0, .string ⟨#[]⟩, .int .u64 0, .int .u64 0, .int .i64 0, .string ⟨#[]⟩, .int .u64 0, .int .u64 0, .int .i64 0, .string ⟨#[]⟩, .int .u64 0, .int .u64 0, .int .u64 0, .int .u64 0, .int .u64 0, .int .u64 0, .int .u64 0, .slice none 0 0] 29))
 have HB1 : Hid (Blk (((w.alloc (.cells (bunC p A k c) 29)).alloc (.cells (BV.c x) 38)).alloc (.cells #[.int .u64 0, .int .i64 0, .int .i64 0, .string ⟨#[]⟩, .int .u64 0, .int .u64 0, .int .i64 0, .string ⟨#[]⟩, .int .u64 0, .int .u64 0, .int .i64 0, .string ⟨#[]⟩, .int .u64 0, .int .u64 0, .int .u64 0, .int .u64 0, .int .u64 0, .int .u64 0, .int .u64 0, .slice none 0 0] 29)) (w.heap.size + 1) 38 (BV.c x)) := by unfold Hid; have := (Blk.newL (N := (w.heap.size + 1)) (w.alloc (.cells (bunC p A k c) 29)) 38 (BV.c x) (by simp)); exact (this.alloc (.cells #[.int .u64 0, .int .i64 0, .int .i64 0, .string ⟨#[]⟩, .int .u64 0, .int .u64 0, .int .i64 0, .string ⟨#[]⟩, .int .u64 0, .int .u64 0, .int .i64 0, .string ⟨#[]⟩, .int .u64 0, .int .u64 0, .int .u64 0, .int .u64 0, .int .u64 0, .int .u64 0, .int .u64 0, .slice none 0 0] 29))
 have HB2 : Hid (Blk (((w.alloc (.cells (bunC p A k c) 29)).alloc (.cells (BV.c x) 38)).alloc (.cells #[.int .u64 0, .int .i64 0, .int .i64 0, .string ⟨#[]⟩, .int .u64 0, .int .u64 0, .int .i64 0, .string ⟨#[]⟩, .int .u64 0, .int .u64 0, .int .i64 0, .string ⟨#[]⟩, .int .u64 0, .int .u64 0, .int .u64 0, .int .u64 0, .int .u64 0, .int .u64 0, .int .u64 0, .slice none 0 0] 29)) (w.heap.size + 1 + 1) 29 #[.int .u64 0, .int .i64 0, .int .i64 0, .string ⟨#[]⟩, .int .u64 0, .int .u64 0, .int .i64 0, .string ⟨#[]⟩, .int .u64 0, .int .u64 0, .int .i64 0, .string ⟨#[]⟩, .int .u64 0, .int .u64 0, .int .u64 0, .int .u64 0, .int .u64 0, .int .u64 0, .int .u64 0, .slice none 0 0]) := by unfold Hid; exact Blk.newL _ _ _ (by simp)
 have HL := hid (BsL.ext h HE.out)
 have i0 : (0 : Int) <= (i : Int) := by omega
 have i1 : (i : Int) <= 100000 := by omega
 have i2 : (i : Int) < (k : Int) := by omega
 have t1 : decide ((i : Int) < 0) = false := by simp
 have t2 : ((i : Int) < 0) = False := eq_false (by omega)
 have t3 : decide (i < k) = true := decide_eq_true hi
 clear h hsome hk hf hi
 go_enter Tryz.func64, Tryz.ntmps64
 go_upto_region 1 with fail
 generalize (((w.alloc (.cells (bunC p A k c) 29)).alloc (.cells (BV.c x) 38)).alloc (.cells #[.int .u64 0, .int .i64 0, .int .i64 0, .string ⟨#[]⟩, .int .u64 0, .int .u64 0, .int .i64 0, .string ⟨#[]⟩, .int .u64 0, .int .u64 0, .int .i64 0, .string ⟨#[]⟩, .int .u64 0, .int .u64 0, .int .u64 0, .int .u64 0, .int .u64 0, .int .u64 0, .int .u64 0, .slice none 0 0] 29)) = V at *
 have y1 : ∀ e : Later V, e.x.cell? ⟨w.heap.size + 1, 1, none⟩ = some (.int .i64 x.num) := HB1.out.cellL 1 rfl
 have b19 : ∀ e : Later V, e.x.cell? ⟨w.heap.size, 19, none⟩ = some (.slice A k c) := HB0.out.cellL 19 rfl
 obtain ⟨e, he⟩ := Later.self V
 rw [he]
 clear he
 go_upto_region 4 with (first | (go_at_call 83; refine (Ret.later (KA.out _ (HL.out.ext (Later.h _)))).mono ?_; rintro x _ ⟨rfl, e, rfl⟩) | (refine wpList_row (by rfl) 29 _ rfl _ rfl (HB0.out.later _) vqA rfl (by kernel_rfl) ?_))
 go_upto_region 5 with (go_at_call 82; refine (KC.out _ (HL.out.ext (Later.h _))).mono ?_; rintro y w1 ⟨g, c1, rfl, hb1, ho1⟩)
 have HO1 := hid ho1
 have HE1 := hid (e.h.trans hb1)
 have HGN : Hid (V.heap.size <= g) := hid (Nat.le_trans e.h.size (ho1.lt g rfl).1)
 clear hb1 ho1
 have HXR := hid (HB1.out.ext HE1.out)
 go_upto_region 6 with (first | (refine wpList_row (by rfl) 38 _ rfl _ rfl HXR.out vqI rfl (by kernel_rfl) ?_) | (refine wpList_store_mid rfl 38 _ _ rfl g (i * 5) (BV.c x) (by rfl) (by rfl) (HSET.out w1 _ g c1 HO1.out).2 (by kernel_rfl) (by simp [Value.oneCell']) ?_))
 generalize hW2 : World.setCells _ _ _ _ = W2
 have HO2 : Hid (W2.ownsRow e.x.heap.size 38 5 (.slice (some ⟨g, 0, none⟩) k c1) k (flatB (setAt bs i x) k)) := hid (by rw [<- hW2]; exact (HSET.out w1 _ g c1 HO1.out).1)
 have HE2 : Hid (Ext V W2) := hid (by rw [<- hW2]; exact setCells_mod _ _ HE1.out (.inr HGN.out))
 have HB2' := hid (HB0.out.ext HE2.out)
 have HR2 := hid (HB2.out.ext HE2.out)
 clear hW2 HO1 HE1 HXR
 go_wp2_with (first | (refine wpList_row (by rfl) 29 _ rfl _ rfl HB2'.out vqA rfl (by kernel_rfl) ?_) | (go_at_call 80; refine (KK.out _ (some ⟨g, 0, none⟩) c1 (own_BsL HO2.out) (fun kk o' hA => by cases hA; exact (HO2.out.lt _ rfl).2)).mono ?_; rintro y w3 ⟨rfl, hb3⟩; obtain ⟨zc, r0, hz, hz1, hz2, hz3⟩ := chk_cells p (some ⟨g, 0, none⟩) k c1 (bunRight p (setAt bs i x) k); rw [hz]; have HZ := hid hz; have HZ1 := hid hz1; have HZ2 := hid hz2; have HZ3 := hid hz3; have HM3 := hid hb3; have HR3 := hid (HR2.out.ext hb3); clear hz hz1 hz2 hz3 hb3) | (refine wpList_store_mid rfl 29 _ _ rfl (w.heap.size + 1 + 1) 0 zc (by rfl) (by rfl) (HR3.out.there (by rw [HZ3.out]; exact Nat.le_refl 20)) HZ1.out HZ2.out ?_))
 generalize hZ4 : World.setCells _ _ _ _ = Z
 have HZB : Hid (Blk Z (w.heap.size + 1 + 1) 29 zc) := hid (by rw [<- hZ4]; exact setCells_all (ds := zc) HR3.out (by rw [Array.length_toList, HZ3.out]; rfl))
 have HZM3 : Hid (Mod [(w.heap.size + 1 + 1)] w3 Z) := hid (by rw [<- hZ4]; exact setCells_mod _ _ (Mod.refl _ _) (.inl (by simp)))
 have HVS : Hid (w.heap.size + 3 <= V.heap.size) := hid (Nat.succ_le_of_lt HB2.out.lt)
 clear hZ4
 refine bodyPost_ret (v := .tuple #[.agg zc, .int .i64 r0]) (results_cell2 Tryz.results64 _ rfl rfl HZB.out vqA rfl (by rw [HZ1.out])) rfl ?_
 obtain ⟨A9, c9, hA9, hsa⟩ := own_slA HO2.out
 simp only [Value.slice.injEq, true_and] at hA9
 obtain ⟨rfl, rfl⟩ := hA9
 refine ⟨some ⟨g, 0, none⟩, c1, by rw [HZ.out], Mod.new (S := [(w.heap.size + 1 + 1)]) (((HE.out.trans HE2.out).trans HM3.out).of_ext.trans HZM3.out) (fun kk hkk => .inr (by simp at hkk; omega)), ?_, hsa⟩
 intro hn
 obtain ⟨bb, oo, hA, hbl, hcc⟩ := (own_BsL HO2.out).ext HM3.out hn
 have hbb : bb = g := by cases hA; rfl
 exact ⟨bb, oo, hA, Nat.lt_of_lt_of_le hbl HZM3.out.size, fun j hj => (hcc j hj).mod HZM3.out hbl (by have := HGN.out; have := HVS.out; simp; omega)⟩
set_option maxRecDepth 20000 in
set_option maxHeartbeats 8000000 in
theorem Put_some (p : PV) (bs : Nat -> BV) (k c : Nat) (A : Option Addr) (x : BV) (hnl : Hid (p.d.name.length < 4611686018427387904 /\ p.s.name.length < 4611686018427387904 /\ p.r.name.length < 4611686018427387904)) (hf : p.fl < 18446744073709551616) (h0 : 0 < k) (hk : k <= 1000) (w : World) (h : BsL w A k bs) : Calls Tryz.prog 62 #[bunV p A k c, x.v] w (fun e w' => ∃ A' c', e = .returned (chkV p A' (k + 1) c' (bunRight p (insB bs (k - 1) x) (k + 1))) /\ Ext w w' /\ BsL w' A' (k + 1) (insB bs (k - 1) x) /\ SlA A' (k + 1) c') := by
 have KC := hid (fun W (hW : BsL W A k bs) => CloneB_any bs k (by unfold Hid; omega) A c W hW)
 have hw1 : IntKind.i64.wrap ((k : Int) - 1) = ((k - 1 : Nat) : Int) := by rw [IntWalk.i64_in _ (by omega)]; omega
 have KI := hid (fun W base g c' vb hown hv hvb hb => InsB_any bs x base g k c' (k - 1) vb (by omega) (by omega) W hown hv hvb hb)
 rw [<- hw1] at KI
 have KK := hid (fun W A' c' (hW : BsL W A' (k + 1) (insB bs (k - 1) x)) hlt => checked_any p (insB bs (k - 1) x) k c (k + 1) c' A A' hnl hf (by omega) W hW hlt)
 have HE := hid ((((Mod.refl [] w).alloc (.cells (bunC p A k c) 29)).alloc (.cells (BV.c x) 38)).alloc (.cells #[.int .u64 0, .int .i64 0, .int .i64 0, .string ⟨#[]⟩, .int .u64 0, .int .u64 0, .int .i64 0, .string ⟨#[]⟩, .int .u64 0, .int .u64 0, .int .i64 0, .string ⟨#[]⟩, .int .u64 0, .int .u64 0, .int .u64 0, .int .u64 0, .int .u64 0, .int .u64 0, .int .u64 0, .slice none 0 0] 29))
 have HB0 : Hid (Blk (((w.alloc (.cells (bunC p A k c) 29)).alloc (.cells (BV.c x) 38)).alloc (.cells #[.int .u64 0, .int .i64 0, .int .i64 0, .string ⟨#[]⟩, .int .u64 0, .int .u64 0, .int .i64 0, .string ⟨#[]⟩, .int .u64 0, .int .u64 0, .int .i64 0, .string ⟨#[]⟩, .int .u64 0, .int .u64 0, .int .u64 0, .int .u64 0, .int .u64 0, .int .u64 0, .int .u64 0, .slice none 0 0] 29)) w.heap.size 29 (bunC p A k c)) := hid (((Blk.new w 29 (bunC p A k c)).alloc (.cells (BV.c x) 38)).alloc (.cells #[.int .u64 0, .int .i64 0, .int .i64 0, .string ⟨#[]⟩, .int .u64 0, .int .u64 0, .int .i64 0, .string ⟨#[]⟩, .int .u64 0, .int .u64 0, .int .i64 0, .string ⟨#[]⟩, .int .u64 0, .int .u64 0, .int .u64 0, .int .u64 0, .int .u64 0, .int .u64 0, .int .u64 0, .slice none 0 0] 29))
 have HB1 : Hid (Blk (((w.alloc (.cells (bunC p A k c) 29)).alloc (.cells (BV.c x) 38)).alloc (.cells #[.int .u64 0, .int .i64 0, .int .i64 0, .string ⟨#[]⟩, .int .u64 0, .int .u64 0, .int .i64 0, .string ⟨#[]⟩, .int .u64 0, .int .u64 0, .int .i64 0, .string ⟨#[]⟩, .int .u64 0, .int .u64 0, .int .u64 0, .int .u64 0, .int .u64 0, .int .u64 0, .int .u64 0, .slice none 0 0] 29)) (w.heap.size + 1) 38 (BV.c x)) := by unfold Hid; have := (Blk.newL (N := (w.heap.size + 1)) (w.alloc (.cells (bunC p A k c) 29)) 38 (BV.c x) (by simp)); exact (this.alloc (.cells #[.int .u64 0, .int .i64 0, .int .i64 0, .string ⟨#[]⟩, .int .u64 0, .int .u64 0, .int .i64 0, .string ⟨#[]⟩, .int .u64 0, .int .u64 0, .int .i64 0, .string ⟨#[]⟩, .int .u64 0, .int .u64 0, .int .u64 0, .int .u64 0, .int .u64 0, .int .u64 0, .int .u64 0, .slice none 0 0] 29))
 have HB2 : Hid (Blk (((w.alloc (.cells (bunC p A k c) 29)).alloc (.cells (BV.c x) 38)).alloc (.cells #[.int .u64 0, .int .i64 0, .int .i64 0, .string ⟨#[]⟩, .int .u64 0, .int .u64 0, .int .i64 0, .string ⟨#[]⟩, .int .u64 0, .int .u64 0, .int .i64 0, .string ⟨#[]⟩, .int .u64 0, .int .u64 0, .int .u64 0, .int .u64 0, .int .u64 0, .int .u64 0, .int .u64 0, .slice none 0 0] 29)) (w.heap.size + 1 + 1) 29 #[.int .u64 0, .int .i64 0, .int .i64 0, .string ⟨#[]⟩, .int .u64 0, .int .u64 0, .int .i64 0, .string ⟨#[]⟩, .int .u64 0, .int .u64 0, .int .i64 0, .string ⟨#[]⟩, .int .u64 0, .int .u64 0, .int .u64 0, .int .u64 0, .int .u64 0, .int .u64 0, .int .u64 0, .slice none 0 0]) := by unfold Hid; exact Blk.newL _ _ _ (by simp)
 have HL := hid (BsL.ext h HE.out)
 have k0 : (0 : Int) <= (k : Int) := by omega
 have k1 : (k : Int) <= 1000 := by omega
 have t1 : ((k : Int) == 0) = false := by rw [beq_eq_false_iff_ne]; omega
 have t2 : ((k : Int) = 0) = False := eq_false (by omega)
 have t3 : (k = 0) = False := eq_false (by omega)
 have t4 : (k == 0) = false := by rw [beq_eq_false_iff_ne]; omega
 have HLW := hid h
 clear h hk hf h0 hw1
 go_enter Tryz.func62, Tryz.ntmps62
 go_upto_region 1 with fail
 generalize (((w.alloc (.cells (bunC p A k c) 29)).alloc (.cells (BV.c x) 38)).alloc (.cells #[.int .u64 0, .int .i64 0, .int .i64 0, .string ⟨#[]⟩, .int .u64 0, .int .u64 0, .int .i64 0, .string ⟨#[]⟩, .int .u64 0, .int .u64 0, .int .i64 0, .string ⟨#[]⟩, .int .u64 0, .int .u64 0, .int .u64 0, .int .u64 0, .int .u64 0, .int .u64 0, .int .u64 0, .slice none 0 0] 29)) = V at *
 have b19 : ∀ e : Later V, e.x.cell? ⟨w.heap.size, 19, none⟩ = some (.slice A k c) := HB0.out.cellL 19 rfl
 obtain ⟨e, he⟩ := Later.self V
 rw [he]
 clear he
 go_upto_region 4 with fail
 clear b19
 have HVS : Hid (w.heap.size + 3 <= V.heap.size) := hid (Nat.succ_le_of_lt HB2.out.lt)
 have HS : Hid (∀ W, Mod [(w.heap.size + 1 + 1)] V W -> W.cell? ⟨w.heap.size, 19, none⟩ = some (.slice A k c)) := hid (fun W hW => (HB0.out.mod hW (by simp; omega)).cell 19)
 have HRow : Hid (∀ W, Mod [(w.heap.size + 1 + 1)] V W -> Blk W w.heap.size 29 (bunC p A k c)) := hid (fun W hW => HB0.out.mod hW (by simp; omega))
 have HRx : Hid (∀ W, Mod [(w.heap.size + 1 + 1)] V W -> Blk W (w.heap.size + 1) 38 (BV.c x)) := hid (fun W hW => HB1.out.mod hW (by simp))
 have HLL : Hid (∀ W, Mod [(w.heap.size + 1 + 1)] V W -> BsL W A k bs) := hid (fun W hW hn => by
  obtain ⟨bb, oo, hA, hbl, hcc⟩ := HL.out hn
  obtain ⟨b2, o2, hA2, hb2, _⟩ := HLW.out hn
  have e1 : bb = b2 := by rw [hA] at hA2; cases hA2; rfl
  exact ⟨bb, oo, hA, Nat.lt_of_lt_of_le hbl hW.size, fun j hj => (hcc j hj).mod hW hbl (by simp; omega)⟩)
 refine wp_region_held_drew (S := fun w' => Mod [(w.heap.size + 1 + 1)] V w' /\ ∃ cs : Array Value, Blk w' (w.heap.size + 1 + 1) 29 cs /\ cs.size = 20) (by kernel_rfl) ⟨((Later.h e).of_ext).drew, #[.int .u64 0, .int .i64 0, .int .i64 0, .string ⟨#[]⟩, .int .u64 0, .int .u64 0, .int .i64 0, .string ⟨#[]⟩, .int .u64 0, .int .u64 0, .int .i64 0, .string ⟨#[]⟩, .int .u64 0, .int .u64 0, .int .u64 0, .int .u64 0, .int .u64 0, .int .u64 0, .int .u64 0, .slice none 0 0], (HB2.out.later e).drew, rfl⟩ (fun hHeld => ?_)
 refine wpAnyH_take (i := 0) rfl (by kernel_rfl) (by kernel_rfl) (by kernel_rfl) (fun _ _ _ h => h) (yieldsIf_row (by rfl) 29 _ rfl _ rfl (fun W h => HRow.out W h.1) vqA rfl (by kernel_rfl)) hHeld ?_
 (try simp only [Act.put, sTl, s0l, sSl])
 refine' wpAnyH_take (i := 1) (v := _) rfl (by kernel_rfl) (by kernel_rfl) (by kernel_rfl) (fun _ _ _ h => h) (Or.inl ⟨by rfl, ?hy⟩) hHeld ?rest
 case hy => (rintro W ⟨hM, _⟩; go_simp; (try with_reducible rfl))
 case rest =>
 (try simp only [Act.put, sTl, s0l, sSl])
 refine' wpAnyH_take (i := 2) (v := _) rfl (by kernel_rfl) (by kernel_rfl) (by kernel_rfl) (fun _ _ _ h => h) (Or.inl ⟨by rfl, ?hy⟩) hHeld ?rest
 case hy => (rintro W ⟨hM, _⟩; have x1 := HS.out W hM; go_simp; (try with_reducible rfl))
 case rest =>
 (try simp only [Act.put, sTl, s0l, sSl])
 refine' wpAnyH_take (i := 4) (v := _) rfl (by kernel_rfl) (by kernel_rfl) (by kernel_rfl) (fun _ _ _ h => h) (Or.inl ⟨by rfl, ?hy⟩) hHeld ?rest
 case hy => (rintro W ⟨hM, _⟩; go_simp; (try with_reducible rfl))
 case rest =>
 (try simp only [Act.put, sTl, s0l, sSl])
 refine' wpAnyH_take (i := 5) (v := _) rfl (by kernel_rfl) (by kernel_rfl) (by kernel_rfl) (fun _ _ _ h => h) (Or.inl ⟨by rfl, ?hy⟩) hHeld ?rest
 case hy => (rintro W ⟨hM, _⟩; go_simp; (try with_reducible rfl))
 case rest =>
 (try simp only [Act.put, sTl, s0l, sSl])
 refine wpAnyH_take (i := 6) rfl (by kernel_rfl) (by kernel_rfl) (by kernel_rfl) (fun _ _ _ h => h) (yieldsIf_row (by rfl) 38 _ rfl _ rfl (fun W h => HRx.out W h.1) vqI rfl (by kernel_rfl)) hHeld ?_
 (try simp only [Act.put, sTl, s0l, sSl])
 refine wpAnyH_ready (rs := [3, 7]) (by kernel_rfl) (by simp) ?_
 refine AllReadyH.cons rfl (fun K hK => ?_) (AllReadyH.cons rfl (fun K hK => ?_) AllReadyH.nil)
 .
  go_simp
  (go_at_call 82; refine (KC.out _ (HLL.out _ hHeld.1)).mono ?_; rintro y w1 ⟨g, c1, rfl, hb3, ho1⟩; have HO1 := hid ho1; have HN1 := hid hHeld.1.size)
  refine hK.out _ _ ⟨hHeld.1.trans (Mod.of_ext hb3), let ⟨cs, hb, hc⟩ := hHeld.2; ⟨cs, hb.ext hb3, hc⟩⟩ (fun hHeld => ?_)
  clear hK K
  (try simp only [Act.put, sTl, s0l, sSl])
  refine wpAnyH_ready (rs := [7]) (by kernel_rfl) (by simp) ?_
  refine AllReadyH.cons rfl (fun K hK => ?_) AllReadyH.nil
  go_simp
  refine hK.out _ _ ⟨hHeld.1.alloc _, let ⟨cs, hb, hc⟩ := hHeld.2; ⟨cs, hb.alloc _, hc⟩⟩ (fun hHeld => ?_)
  clear hK K
  (try simp only [Act.put, sTl, s0l, sSl])
  have HVB : Hid (Blk (w1.alloc (.cells (BV.c x) 38)) w1.heap.size 38 (BV.c x)) := hid (Blk.new _ _ _)
  have HOA := hid (HO1.out.alloc (.cells (BV.c x) 38))
  have HNE : Hid (w1.heap.size ≠ g) := hid (by have := (HO1.out.lt g rfl).2; omega)
  have HBW := hid (show _ <= (w1.alloc (.cells (BV.c x) 38)).heap.size from Nat.le_trans (HO1.out.lt g rfl).1 (Nat.le_of_lt (Nat.lt_trans (HO1.out.lt g rfl).2 (by simp))))
  have HGV : Hid (V.heap.size <= g) := hid (Nat.le_trans HN1.out (HO1.out.lt g rfl).1)
  have HBV := HN1
  refine wpAnyH_ready (rs := [8]) (by kernel_rfl) (by simp) ?_
  refine AllReadyH.cons rfl (fun K hK => ?_) AllReadyH.nil
  go_simp
  (go_at_call 81; refine (KI.out _ _ g c1 w1.heap.size HOA.out HVB.out HNE.out HBW.out).mono ?_; rintro y w3 ⟨g2, c2, rfl, hm2, ho2⟩; have HO2 := hid ho2)
  refine hK.out _ _ ⟨modg hHeld.1 hm2 HGV.out, let ⟨cs, hb, hc⟩ := hHeld.2; ⟨cs, hb.mod hm2 (by have := HGV.out; have := HVS.out; simp; omega), hc⟩⟩ (fun hHeld => ?_)
  clear hK K
  (try simp only [Act.put, sTl, s0l, sSl])
  refine wpAnyH_ready (rs := [9]) (by kernel_rfl) (by simp) ?_
  refine AllReadyH.cons rfl (fun K hK => ?_) AllReadyH.nil
  go_simp
  (go_at_call 80; refine (KK.out _ (some ⟨g2, 0, none⟩) c2 (own_BsL HO2.out) (fun kk o' hA => by cases hA; exact (HO2.out.lt _ rfl).2)).mono ?_; rintro y w4 ⟨rfl, hb3⟩; obtain ⟨zc, r0, hz, hz1, hz2, hz3⟩ := chk_cells p (some ⟨g2, 0, none⟩) (k + 1) c2 (bunRight p (insB bs (k - 1) x) (k + 1)); rw [hz]; have HZ := hid hz; have HZ1 := hid hz1; have HZ2 := hid hz2; have HZ3 := hid hz3; have HM3 := hid hb3; clear hz hz1 hz2 hz3)
  refine hK.out _ _ ⟨hHeld.1.trans (Mod.of_ext hb3), let ⟨cs, hb, hc⟩ := hHeld.2; ⟨cs, hb.ext hb3, hc⟩⟩ (fun hHeld => ?_)
  clear hK K
  (try simp only [Act.put, sTl, s0l, sSl])
  refine' wpAnyH_take (i := 10) (v := _) rfl (by kernel_rfl) (by kernel_rfl) (by kernel_rfl) (fun _ _ _ h => h) (Or.inl ⟨by rfl, ?hy⟩) hHeld ?rest
  case hy => (rintro W ⟨hM, _⟩; go_simp; (try with_reducible rfl))
  case rest =>
  (try simp only [Act.put, sTl, s0l, sSl])
  refine' wpAnyH_take (i := 11) (v := _) rfl (by kernel_rfl) (by kernel_rfl) (by kernel_rfl) (fun _ _ _ h => h) (Or.inl ⟨by rfl, ?hy⟩) hHeld ?rest
  case hy => (rintro W ⟨hM, _⟩; go_simp; (try with_reducible rfl))
  case rest =>
  (try simp only [Act.put, sTl, s0l, sSl])
  refine wpAnyH_ready (rs := [12]) (by kernel_rfl) (by simp) ?_
  refine AllReadyH.cons rfl (fun K hK => ?_) AllReadyH.nil
  obtain ⟨cs0, hb0, hc0⟩ := hHeld.2
  refine wp_store_mid 29 _ _ rfl (w.heap.size + 1 + 1) 0 zc (by rfl) (by rfl) (hb0.there (by rw [HZ3.out, hc0]; exact Nat.le_refl _)) HZ1.out HZ2.out ?_
  have hZB := setCells_all (ds := zc) hb0 (by rw [Array.length_toList, HZ3.out, hc0])
  have hZM := setCells_mod (b := (w.heap.size + 1 + 1)) zc.toList 0 hHeld.1 (.inl (by simp))
  generalize hZ : World.setCells w4 (w.heap.size + 1 + 1) 0 zc.toList = Z at *
  have HZM3 : Hid (Mod [(w.heap.size + 1 + 1)] w4 Z) := hid (by rw [<- hZ]; exact setCells_mod _ _ (Mod.refl _ _) (.inl (by simp)))
  clear hZ
  refine hK.out _ _ ⟨hZM, zc, hZB, HZ3.out⟩ (fun hHeld => ?_)
  clear hK K
  (try simp only [Act.put, sTl, s0l, sSl])
  refine wpAnyH_ready (rs := [13]) (by kernel_rfl) (by simp) ?_
  refine AllReadyH.cons rfl (fun K hK => ?_) AllReadyH.nil
  go_simp
  refine hK.out _ _ hHeld (fun hHeld => ?_)
  clear hK K
  (try simp only [Act.put, sTl, s0l, sSl])
  refine wpAnyH_done (by kernel_rfl) ?_ _
  go_wp2_with fail
  refine bodyPost_ret (v := .tuple #[.agg zc, .int .i64 r0]) (results_cell2 Tryz.results62 _ rfl rfl hZB vqA rfl (by rw [HZ1.out])) rfl ?_
  obtain ⟨A9, c9, hA9, hsa⟩ := own_slA HO2.out
  simp only [Value.slice.injEq, true_and] at hA9
  obtain ⟨rfl, rfl⟩ := hA9
  refine ⟨some ⟨g2, 0, none⟩, c2, by rw [HZ.out], (HE.out.of_ext.trans hZM).new (fun kk hkk => .inr (by simp at hkk; omega)), ?_, hsa⟩
  intro hn
  obtain ⟨bb, oo, hA, hbl, hcc⟩ := (own_BsL HO2.out).ext HM3.out hn
  have hbb : bb = g2 := by cases hA; rfl
  have hg2 : V.heap.size <= g2 := Nat.le_trans HBV.out (HO2.out.lt g2 rfl).1
  exact ⟨bb, oo, hA, Nat.lt_of_lt_of_le hbl HZM3.out.size, fun j hj => (hcc j hj).mod HZM3.out hbl (by have := HVS.out; simp; omega)⟩
 .
  have hVB0 := hid (Blk.new e.x.drew 38 (BV.c x))
  go_simp
  refine hK.out _ _ ⟨hHeld.1.alloc _, let ⟨cs, hb, hc⟩ := hHeld.2; ⟨cs, hb.alloc _, hc⟩⟩ (fun hHeld => ?_)
  clear hK K
  (try simp only [Act.put, sTl, s0l, sSl])
  refine wpAnyH_ready (rs := [3]) (by kernel_rfl) (by simp) ?_
  refine AllReadyH.cons rfl (fun K hK => ?_) AllReadyH.nil
  go_simp
  (go_at_call 82; refine (KC.out _ (HLL.out _ hHeld.1)).mono ?_; rintro y w1 ⟨g, c1, rfl, hb3, ho1⟩; have HO1 := hid ho1; have HM1 := hid hb3; have HN1 := hid hHeld.1.size)
  refine hK.out _ _ ⟨hHeld.1.trans (Mod.of_ext hb3), let ⟨cs, hb, hc⟩ := hHeld.2; ⟨cs, hb.ext hb3, hc⟩⟩ (fun hHeld => ?_)
  clear hK K
  (try simp only [Act.put, sTl, s0l, sSl])
  have HVB : Hid (Blk w1 e.x.heap.size 38 (BV.c x)) := hid (hVB0.out.ext HM1.out)
  have HOA := HO1
  have HNE : Hid (e.x.heap.size ≠ g) := hid (by have := (HO1.out.lt g rfl).1; simp at this; omega)
  have HBW := hid HM1.out.size
  have HGV : Hid (V.heap.size <= g) := hid (Nat.le_trans HN1.out (HO1.out.lt g rfl).1)
  have HBV := HN1
  refine wpAnyH_ready (rs := [8]) (by kernel_rfl) (by simp) ?_
  refine AllReadyH.cons rfl (fun K hK => ?_) AllReadyH.nil
  go_simp
  (go_at_call 81; refine (KI.out _ _ g c1 e.x.heap.size HOA.out HVB.out HNE.out HBW.out).mono ?_; rintro y w3 ⟨g2, c2, rfl, hm2, ho2⟩; have HO2 := hid ho2)
  refine hK.out _ _ ⟨modg hHeld.1 hm2 HGV.out, let ⟨cs, hb, hc⟩ := hHeld.2; ⟨cs, hb.mod hm2 (by have := HGV.out; have := HVS.out; simp; omega), hc⟩⟩ (fun hHeld => ?_)
  clear hK K
  (try simp only [Act.put, sTl, s0l, sSl])
  refine wpAnyH_ready (rs := [9]) (by kernel_rfl) (by simp) ?_
  refine AllReadyH.cons rfl (fun K hK => ?_) AllReadyH.nil
  go_simp
  (go_at_call 80; refine (KK.out _ (some ⟨g2, 0, none⟩) c2 (own_BsL HO2.out) (fun kk o' hA => by cases hA; exact (HO2.out.lt _ rfl).2)).mono ?_; rintro y w4 ⟨rfl, hb3⟩; obtain ⟨zc, r0, hz, hz1, hz2, hz3⟩ := chk_cells p (some ⟨g2, 0, none⟩) (k + 1) c2 (bunRight p (insB bs (k - 1) x) (k + 1)); rw [hz]; have HZ := hid hz; have HZ1 := hid hz1; have HZ2 := hid hz2; have HZ3 := hid hz3; have HM3 := hid hb3; clear hz hz1 hz2 hz3)
  refine hK.out _ _ ⟨hHeld.1.trans (Mod.of_ext hb3), let ⟨cs, hb, hc⟩ := hHeld.2; ⟨cs, hb.ext hb3, hc⟩⟩ (fun hHeld => ?_)
  clear hK K
  (try simp only [Act.put, sTl, s0l, sSl])
  refine' wpAnyH_take (i := 10) (v := _) rfl (by kernel_rfl) (by kernel_rfl) (by kernel_rfl) (fun _ _ _ h => h) (Or.inl ⟨by rfl, ?hy⟩) hHeld ?rest
  case hy => (rintro W ⟨hM, _⟩; go_simp; (try with_reducible rfl))
  case rest =>
  (try simp only [Act.put, sTl, s0l, sSl])
  refine' wpAnyH_take (i := 11) (v := _) rfl (by kernel_rfl) (by kernel_rfl) (by kernel_rfl) (fun _ _ _ h => h) (Or.inl ⟨by rfl, ?hy⟩) hHeld ?rest
  case hy => (rintro W ⟨hM, _⟩; go_simp; (try with_reducible rfl))
  case rest =>
  (try simp only [Act.put, sTl, s0l, sSl])
  refine wpAnyH_ready (rs := [12]) (by kernel_rfl) (by simp) ?_
  refine AllReadyH.cons rfl (fun K hK => ?_) AllReadyH.nil
  obtain ⟨cs0, hb0, hc0⟩ := hHeld.2
  refine wp_store_mid 29 _ _ rfl (w.heap.size + 1 + 1) 0 zc (by rfl) (by rfl) (hb0.there (by rw [HZ3.out, hc0]; exact Nat.le_refl _)) HZ1.out HZ2.out ?_
  have hZB := setCells_all (ds := zc) hb0 (by rw [Array.length_toList, HZ3.out, hc0])
  have hZM := setCells_mod (b := (w.heap.size + 1 + 1)) zc.toList 0 hHeld.1 (.inl (by simp))
  generalize hZ : World.setCells w4 (w.heap.size + 1 + 1) 0 zc.toList = Z at *
  have HZM3 : Hid (Mod [(w.heap.size + 1 + 1)] w4 Z) := hid (by rw [<- hZ]; exact setCells_mod _ _ (Mod.refl _ _) (.inl (by simp)))
  clear hZ
  refine hK.out _ _ ⟨hZM, zc, hZB, HZ3.out⟩ (fun hHeld => ?_)
  clear hK K
  (try simp only [Act.put, sTl, s0l, sSl])
  refine wpAnyH_ready (rs := [13]) (by kernel_rfl) (by simp) ?_
  refine AllReadyH.cons rfl (fun K hK => ?_) AllReadyH.nil
  go_simp
  refine hK.out _ _ hHeld (fun hHeld => ?_)
  clear hK K
  (try simp only [Act.put, sTl, s0l, sSl])
  refine wpAnyH_done (by kernel_rfl) ?_ _
  go_wp2_with fail
  refine bodyPost_ret (v := .tuple #[.agg zc, .int .i64 r0]) (results_cell2 Tryz.results62 _ rfl rfl hZB vqA rfl (by rw [HZ1.out])) rfl ?_
  obtain ⟨A9, c9, hA9, hsa⟩ := own_slA HO2.out
  simp only [Value.slice.injEq, true_and] at hA9
  obtain ⟨rfl, rfl⟩ := hA9
  refine ⟨some ⟨g2, 0, none⟩, c2, by rw [HZ.out], (HE.out.of_ext.trans hZM).new (fun kk hkk => .inr (by simp at hkk; omega)), ?_, hsa⟩
  intro hn
  obtain ⟨bb, oo, hA, hbl, hcc⟩ := (own_BsL HO2.out).ext HM3.out hn
  have hbb : bb = g2 := by cases hA; rfl
  have hg2 : V.heap.size <= g2 := Nat.le_trans HBV.out (HO2.out.lt g2 rfl).1
  exact ⟨bb, oo, hA, Nat.lt_of_lt_of_le hbl HZM3.out.size, fun j hj => (hcc j hj).mod HZM3.out hbl (by have := HVS.out; simp; omega)⟩
def UsL (w : World) (kd : IntKind) (A : Option Addr) (k : Nat) (f : Nat -> Nat) : Prop := 0 < k -> ∃ b o, A = some ⟨b, o, none⟩ /\ b < w.heap.size /\ ∀ i, i < k -> w.cell? ⟨b, o + i, none⟩ = some (.int kd (f i : Int))
theorem UsL.far {w0 w w' : World} {S : List Nat} {kd : IntKind} {A : Option Addr} {k : Nat} {f : Nat -> Nat} (h : UsL w0 kd A k f) (hE : Ext w0 w) (hm : Mod S w w') (hs : ∀ b ∈ S, w0.heap.size <= b) : UsL w' kd A k f := fun hk => by
 obtain ⟨b, o, hA, hb, hc⟩ := h hk
 have hb' : b < w.heap.size := Nat.lt_of_lt_of_le hb hE.size
 have hn : b ∉ S := fun hm => by have := hs b hm; omega
 exact ⟨b, o, hA, Nat.lt_of_lt_of_le hb' hm.size, fun i hi => (hm.cell hb' hn).trans ((hE.cell hb (by simp)).trans (hc i hi))⟩
theorem UsL.at {w : World} {kd : IntKind} {A : Option Addr} {k : Nat} {f : Nat -> Nat} (h : UsL w kd A k f) {i : Nat} (hi : i < k) : ∃ b o, A = some ⟨b, o, none⟩ /\ b < w.heap.size /\ ∀ e : Later w, e.x.cell? ⟨b, o + i, none⟩ = some (.int kd (f i : Int)) := by
 obtain ⟨b, o, hA, hb, hc⟩ := h (by omega)
 exact ⟨b, o, hA, hb, cellL (hc i hi)⟩
def EAt (w : World) (b o : Nat) (e : EV) : Prop := w.cell? ⟨b, o + 0, none⟩ = some (.int .i64 e.sch) /\ w.cell? ⟨b, o + 1, none⟩ = some (str e.name) /\ w.cell? ⟨b, o + 2, none⟩ = some (.int .u64 (e.node : Int)) /\ w.cell? ⟨b, o + 3, none⟩ = some (.int .u64 (e.svc : Int))
def EsL (w : World) (A : Option Addr) (k : Nat) (f : Nat -> EV) : Prop := 0 < k -> ∃ b o, A = some ⟨b, o, none⟩ /\ b < w.heap.size /\ ∀ i, i < k -> EAt w b (o + i * 4) (f i)
theorem EsL.modX {w w' : World} {S : List Nat} {A : Option Addr} {k : Nat} {f : Nat -> EV} (h : EsL w A k f) (hm : Mod S w w') (hs : ∀ g, A = some g -> g.block ∉ S) : EsL w' A k f := fun hk => by
 obtain ⟨b, o, hA, hb, hc⟩ := h hk
 refine ⟨b, o, hA, Nat.lt_of_lt_of_le hb hm.size, fun i hi => ?_⟩
 obtain ⟨h0, h1, h2, h3⟩ := hc i hi
 exact ⟨(hm.cell hb (hs _ hA)).trans h0, (hm.cell hb (hs _ hA)).trans h1, (hm.cell hb (hs _ hA)).trans h2, (hm.cell hb (hs _ hA)).trans h3⟩
theorem EsL.ext' {w w' : World} {A : Option Addr} {k : Nat} {f : Nat -> EV} (h : EsL w A k f) (hm : Ext w w') : EsL w' A k f := h.modX hm (fun _ _ => by simp)
theorem EsL.far {w0 w w' : World} {S : List Nat} {A : Option Addr} {k : Nat} {f : Nat -> EV} (h : EsL w0 A k f) (hE : Ext w0 w) (hm : Mod S w w') (hs : ∀ b ∈ S, w0.heap.size <= b) : EsL w' A k f := fun hk => by
 obtain ⟨b, o, hA, hb, hc⟩ := h hk
 have hb' : b < w.heap.size := Nat.lt_of_lt_of_le hb hE.size
 have hn : b ∉ S := fun hm => by have := hs b hm; omega
 have hh := (EsL.ext' h hE) hk
 obtain ⟨b2, o2, hA2, _, hc2⟩ := hh
 rw [hA] at hA2
 cases hA2
 refine ⟨b, o, hA, Nat.lt_of_lt_of_le hb' hm.size, fun i hi => ?_⟩
 obtain ⟨h0, h1, h2, h3⟩ := hc2 i hi
 exact ⟨(hm.cell hb' hn).trans h0, (hm.cell hb' hn).trans h1, (hm.cell hb' hn).trans h2, (hm.cell hb' hn).trans h3⟩
theorem EsL.ext {w w' : World} {A : Option Addr} {k : Nat} {f : Nat -> EV} (h : EsL w A k f) (hm : Ext w w') : EsL w' A k f := h.modX hm (fun _ _ => by simp)
theorem nat_int {a b : Nat} : (a : Int) = (b : Int) ↔ a = b := Int.ofNat_inj
theorem PV.eq_iff (p q : PV) : p = q ↔ p.fl = q.fl /\ p.crc = q.crc /\ (p.d.sch = q.d.sch /\ p.d.name = q.d.name /\ p.d.node = q.d.node /\ p.d.svc = q.d.svc) /\ (p.s.sch = q.s.sch /\ p.s.name = q.s.name /\ p.s.node = q.s.node /\ p.s.svc = q.s.svc) /\ (p.r.sch = q.r.sch /\ p.r.name = q.r.name /\ p.r.node = q.r.node /\ p.r.svc = q.r.svc) /\ p.t = q.t /\ p.q = q.q /\ p.l = q.l /\ p.o = q.o /\ p.n = q.n := by
 obtain ⟨a0, a1, ⟨d0, d1, d2, d3⟩, ⟨s0, s1, s2, s3⟩, ⟨r0, r1, r2, r3⟩, a5, a6, a7, a8, a9⟩ := p
 obtain ⟨b0, b1, ⟨e0, e1, e2, e3⟩, ⟨t0, t1, t2, t3⟩, ⟨u0, u1, u2, u3⟩, b5, b6, b7, b8, b9⟩ := q
 simp only [PV.mk.injEq, EV.mk.injEq]
section
theorem kl_u64 (d : Nat) (n : Nat) (h : n < 18446744073709551616) : Tryz.prog.keyLits (d + 1) 22 [.int .u64 (n : Int)] = some [.int .u64 (n : Int)] := by
 unfold Program.keyLits
 simp only [Tryz.underlying22]
 rw [if_pos ⟨trivial, by simp [Lit.wf, IntKind.min, IntKind.max, IntKind.signed, IntKind.bits]; omega⟩]
theorem kl_i64 (d : Nat) (n : Int) (h : -9223372036854775808 <= n /\ n <= 9223372036854775807) : Tryz.prog.keyLits (d + 1) 3 [.int .i64 n] = some [.int .i64 n] := by
 unfold Program.keyLits
 simp only [vqH]
 rw [if_pos ⟨trivial, by simp [Lit.wf, IntKind.min, IntKind.max, IntKind.signed, IntKind.bits]; omega⟩]
theorem kl_str (d : Nat) (s : List UInt8) (h : s.length < 4611686018427387904) : Tryz.prog.keyLits (d + 1) 9 [str s] = some [.string s] := by
 unfold Program.keyLits
 simp only [vqD]
 have : (⟨s.toArray⟩ : ByteArray).size <= maxLen := by show s.toArray.size <= maxLen; simp [maxLen]; omega
 rw [if_pos this]
theorem kl_eid (d : Nat) (e : EV) (hw : e.wf) (hl : e.name.length < 4611686018427387904) : Tryz.prog.keyLits (d + 2) 24 [.int .i64 e.sch, str e.name, .int .u64 (e.node : Int), .int .u64 (e.svc : Int)] = some [.int .i64 e.sch, .string e.name, .int .u64 (e.node : Int), .int .u64 (e.svc : Int)] := by
 have k1 : Tryz.prog.cellsOf 3 = 1 := by kernel_rfl
 have k2 : Tryz.prog.cellsOf 9 = 1 := by kernel_rfl
 have k3 : Tryz.prog.cellsOf 22 = 1 := by kernel_rfl
 have k4 : Tryz.prog.cellsOf 24 = 4 := by kernel_rfl
 unfold Program.keyLits
 simp only [vqJ]
 simp [k1, k2, k3, k4, kl_i64 d _ hw.1, kl_str d _ hl, kl_u64 d _ hw.2.1, kl_u64 d _ hw.2.2]
def PV.lits (p : PV) : List Lit := [.int .u64 p.fl, .int .i64 p.crc, .int .i64 p.d.sch, .string p.d.name, .int .u64 p.d.node, .int .u64 p.d.svc, .int .i64 p.s.sch, .string p.s.name, .int .u64 p.s.node, .int .u64 p.s.svc, .int .i64 p.r.sch, .string p.r.name, .int .u64 p.r.node, .int .u64 p.r.svc, .int .u64 p.t, .int .u64 p.q, .int .u64 p.l, .int .u64 p.o, .int .u64 p.n]
theorem kl_pri (p : PV) (hw : p.wf) (hl : p.d.name.length < 4611686018427387904 /\ p.s.name.length < 4611686018427387904 /\ p.r.name.length < 4611686018427387904) : Tryz.prog.keyLits 10 26 (Value.agg p.c).cells.toList = some p.lits := by
 have k1 : Tryz.prog.cellsOf 3 = 1 := by kernel_rfl
 have k3 : Tryz.prog.cellsOf 22 = 1 := by kernel_rfl
 have k4 : Tryz.prog.cellsOf 24 = 4 := by kernel_rfl
 have k5 : Tryz.prog.cellsOf 26 = 19 := by kernel_rfl
 obtain ⟨w0, w1, w2, w3, w4, w5, w6, w7, w8, w9⟩ := hw
 have e2 := kl_eid 7 p.d w2 hl.1
 have e3 := kl_eid 7 p.s w3 hl.2.1
 have e4 := kl_eid 7 p.r w4 hl.2.2
 unfold Program.keyLits
 simp only [vqC]
 simp [k1, k3, k4, k5, e2, e3, e4, kl_i64 8 _ w1, kl_u64 8 _ w0, kl_u64 8 _ w5, kl_u64 8 _ w6, kl_u64 8 _ w7, kl_u64 8 _ w8, kl_u64 8 _ w9, Value.cells, PV.lits]
end
theorem eq_pri_any (p q : PV) (hp : p.wf) (hq : q.wf) (hpl : p.d.name.length < 4611686018427387904 /\ p.s.name.length < 4611686018427387904 /\ p.r.name.length < 4611686018427387904) (hql : q.d.name.length < 4611686018427387904 /\ q.s.name.length < 4611686018427387904 /\ q.r.name.length < 4611686018427387904) : ∃ r : Bool, (r = true ↔ p = q) /\ ∀ w, (binOp .eql 26 (.agg p.c) (.agg q.c)).run Tryz.prog w = .ok (.bool r) w := by
 have hk : Tryz.prog.keyTypeAt 5 26 = true := by kernel_rfl
 have hf : ∀ p : PV, (Value.agg p.c).formed Tryz.prog 26 = true := fun p => by kernel_rfl
 have key : ∀ w, ∃ r : Bool, (Op.equalIn (9995 + 5) 26 (.agg p.c) (.agg q.c)).run Tryz.prog w = .ok r w /\ (r = true ↔ p = q) := fun w => by
  obtain ⟨r, h1, h2⟩ := run_equalIn_deep 9995 5 26 hk w 10 10 (.agg p.c) (.agg q.c) _ _ (hf p) (hf q) (kl_pri p hp hpl) (kl_pri q hq hql)
  refine ⟨r, h1, h2.trans ?_⟩
  rw [PV.eq_iff]
  simp only [PV.lits, List.cons.injEq, Lit.int.injEq, Lit.string.injEq, nat_int, true_and, and_true]
  constructor
  . rintro ⟨h0, h1, h2, h3, h4, h5, h6, h7, h8, h9, h10, h11, h12, h13, h14, h15, h16, h17, h18⟩; exact ⟨h0, h1, ⟨h2, h3, h4, h5⟩, ⟨h6, h7, h8, h9⟩, ⟨h10, h11, h12, h13⟩, h14, h15, h16, h17, h18⟩
  . rintro ⟨h0, h1, ⟨h2, h3, h4, h5⟩, ⟨h6, h7, h8, h9⟩, ⟨h10, h11, h12, h13⟩, h14, h15, h16, h17, h18⟩; exact ⟨h0, h1, h2, h3, h4, h5, h6, h7, h8, h9, h10, h11, h12, h13, h14, h15, h16, h17, h18⟩
 have run : ∀ (r : Bool) w, (Op.equalIn (9995 + 5) 26 (.agg p.c) (.agg q.c)).run Tryz.prog w = .ok r w -> (binOp .eql 26 (.agg p.c) (.agg q.c)).run Tryz.prog w = .ok (.bool r) w := fun r w h => by
  simp only [binOp]
  simp [Op.equal, Op.maxDepth, h]
 by_cases e : p = q
 .
  refine ⟨true, by simp [e], fun w => ?_⟩
  obtain ⟨r, h1, h2⟩ := key w
  have : r = true := h2.2 e
  subst this
  exact run _ w h1
 .
  refine ⟨false, by simp [e], fun w => ?_⟩
  obtain ⟨r, h1, h2⟩ := key w
  have : r = false := by cases r with | false => rfl | true => exact absurd (h2.1 rfl) e
  subst this
  exact run _ w h1
theorem Blk.rangeE {w W : World} {g : Nat} {t : TypeId} {cs : Array Value} (h : Blk w g t cs) (hW : Ext w W) (o n : Nat) {l : List Value} (hl : (cs.extract o (o + n)).toList = l) : W.rangeAt g o l := hl ▸ World.rangeAt_of_block (h.ext hW) o n
structure PR where
 id : Int
 t : T
structure PL where
 k : Nat
 a : Nat -> PR
structure AV where
 tk : Nat
 tg : Nat -> Int
 ctx : Int
 src : EV
 ps : PL
 rk : Nat
 rs : Nat -> PL
end Go.Proofs.YthecmnbkjchjmaaGreat
