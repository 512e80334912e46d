/-
 The law PrimaryNames, walked.
 The law PrimaryBack, walked.
 Bundles, plainly: what a right bundle's bytes are the item of.
 All cells of a block but the last, stored anew.
 Maps from numbers to numbers that count.
 Whether numbers, and types that may be there once, are there once, as the code tells.
 Bundles: where a number's block is; the block of a number.
 Two strings become one, in a plain region.
 Scopes: which there are; what goes with a target, as the code puts it together.
 Bundles: how often a type occurs, whether a number does twice, the bytes, as the reference tells.
 Bundles: parts, the last block, whether a fragment fits, the bytes, as the code tells.
 Bundles: rules, whether one is right, and its bytes, as the code tells.
 A bundle of one block.
 The least number that is free.
 The layer's own awake.
 Why a bundle is not right, as the reference tells.
 The law BundleLong, walked.
 Rows of elements of a fixed number of cells, plainly.
-/
import Derived.Test.YtfgipgpbjfhflaaGreatMBundleBackj
import Derived.Maps.Own
import Derived.Maps.OwnOps
import Derived.Maps.Views
import Derived.Shelf.Abstract
import Derived.Laws.OwnMore
import Derived.OwnWalk
import Derived.OneCell

namespace Go.Proofs.YtfgipgpbjfhflaaGreat
open Go.RowKit
set_option linter.unusedVariables false
set_option linter.unusedSimpArgs false

end Go.Proofs.YtfgipgpbjfhflaaGreat


namespace Go.Proofs.YtfgipgpbjfhflaaGreat
open Go.RowKit
set_option linter.unusedVariables false
set_option linter.unusedSimpArgs false

end Go.Proofs.YtfgipgpbjfhflaaGreat


namespace Go.Proofs.YtfgipgpbjfhflaaGreat
open Go.RowKit
set_option linter.unusedVariables false
set_option linter.unusedSimpArgs false

theorem kidB_right {t : T} {d : Nat} (h : t.right (d + 1) = true) {i : Nat} (hi : i < t.k) : (t.ch i).right d = true := by
 cases t with
 | nil => simp [T.right] at h
 | mk kd n s op k ch =>
  unfold T.right at h
  rw [if_neg (by omega), Bool.and_eq_true, T.all_iff] at h
  exact h.2 i hi
theorem kidB_ok {t : T} (hok : t.ok) {i : Nat} (hi : i < t.k) : (t.ch i).ok := by
 cases t with
 | nil => exact absurd hi (Nat.not_lt_zero _)
 | mk kd n s op k ch => unfold T.ok at hok; exact hok.2.2.2.2 i hi
theorem right_upB (t : T) : ∀ d, t.right d = true → t.right (d + 1) = true := by
 induction t with
 | nil => intro d h; exact h
 | mk kind n s op k ch ih =>
  intro d h
  unfold T.right at h ⊢
  by_cases h0 : d < 1
  · rw [if_pos h0] at h; cases h
  ·
   rw [if_neg h0, Bool.and_eq_true, T.all_iff] at h
   rw [if_neg (by omega), Bool.and_eq_true, T.all_iff]
   exact ⟨h.1, fun i hi => by have := ih i (d - 1) (h.2 i hi); rw [show d + 1 - 1 = d - 1 + 1 by omega]; exact this⟩
/-- The item of a bundle. -/
def bunT (p : PV) (bs : Nat → BV) (k : Nat) : T := T.mk 4 0 [] true (k + 1) fun i => if i = 0 then p.tree else fin (bs (i - 1))
theorem fin_bytes (b : BV) : (fin b).bytes = b.bytes := blkT_bytes _ _ _ _ _ _
theorem bunT_bytes {p : PV} (hp : p.ranged = true) (bs : Nat → BV) (k : Nat) : (bunT p bs k).bytes = bunBytes p bs k := by
 have : ∀ j, T.cat (fun i => (if i = 0 then p.tree else fin (bs (i - 1))).bytes) (j + 1) = p.bytes ++ blksB bs j := by
  intro j
  induction j with
  | zero =>
   show [] ++ (if 0 = 0 then p.tree else fin (bs (0 - 1))).bytes = _
   rw [if_pos rfl, (PV.tree_all hp).2.2.2]
   simp [blksB]
  | succ j ih =>
   rw [T.cat, ih, if_neg (by omega), show j + 1 - 1 = j by omega, fin_bytes, blksB, List.append_assoc]
 unfold bunT T.bytes
 rw [if_neg (by decide), if_neg (by decide), this]
 unfold bunBytes
 simp
structure BunR (p : PV) (bs : Nat → BV) (k : Nat) : Prop where
 pr : p.right = 0
 br : ∀ i, i < k → (bs i).right = 0
 kh : k ≤ 16
 k1 : 1 ≤ k
 l : (bunBytes p bs k).length ≤ 4000
theorem bunR_of {p : PV} {bs : Nat → BV} {k : Nat} (h : bunRight p bs k = 0) : BunR p bs k := by
 unfold bunRight at h
 by_cases hp : p.right = 0
 case neg => rw [if_pos hp] at h; exact absurd h hp
 rw [if_neg (by simpa using hp)] at h
 cases hf : firstOf (badAt bs) k with
 | some i =>
  rw [hf] at h
  have := (firstOf_spec hf).2.1
  unfold badAt at this
  simp at this
  exact absurd h this
 | none =>
  rw [hf] at h
  dsimp only at h
  have hb : ∀ i, i < k → (bs i).right = 0 := fun i hi => bad_no (firstOf_no hf i hi)
  split at h
  · exact absurd h (by decide)
  rename_i h16
  split at h
  · exact absurd h (by decide)
  rename_i h1
  split at h
  · exact absurd h (by decide)
  split at h
  · exact absurd h (by decide)
  split at h
  · exact absurd h (by decide)
  rename_i hl
  refine ⟨hp, hb, by omega, ?_, by omega⟩
  unfold bunRule1 at h1
  simp only [Bool.or_eq_true, decide_eq_true_eq, not_or] at h1
  omega
theorem fin_all {b : BV} (h : b.right = 0) : (fin b).ok ∧ ∀ d, 2 ≤ d → (fin b).right d = true := by
 obtain ⟨h1, h2, h3, h4, h5, h6, h7, h8, _⟩ := BV.right_zero h
 unfold fin finT
 exact ⟨blkT_ok (by omega) (by omega) (by omega) (by omega) h8 (by rw [sumB_length (by omega)]; omega), fun d hd => blkT_right d hd⟩
theorem bunT_all {p : PV} {bs : Nat → BV} {k : Nat} (h : BunR p bs k) : (bunT p bs k).ok ∧ (bunT p bs k).right 8 = true := by
 have ht := PV.tree_all (PV.right_ranged h.pr)
 have hk := h.kh
 constructor
 ·
  unfold bunT T.ok
  refine ⟨by omega, by omega, by simp, by omega, fun i hi => ?_⟩
  show (if i = 0 then p.tree else fin (bs (i - 1))).ok
  split
  · exact ht.1
  · exact (fin_all (h.br (i - 1) (by omega))).1
 ·
  unfold bunT T.right
  rw [if_neg (by omega), Bool.and_eq_true, T.all_iff]
  refine ⟨by simp [T.node]; omega, fun i hi => ?_⟩
  show (if i = 0 then p.tree else fin (bs (i - 1))).right 7 = true
  split
  · exact ht.2.1 7 (by omega)
  · exact (fin_all (h.br (i - 1) (by omega))).2 7 (by omega)
/-- What is parsed of a right bundle's bytes. -/
structure BunTree (p : PV) (bs : Nat → BV) (k : Nat) (t : T) : Prop where
 kind : t.kind = 4
 op : t.op = true
 kk : t.k = k + 1
 ok : ∀ i, i < t.k → (t.ch i).ok
 r : ∀ i, i < t.k → (t.ch i).right 8 = true
 s : ∀ i, i < t.k → (t.ch i).size ≤ 4000
 pt : p.tree.same (t.ch 0) = true
 bt : ∀ i, i < k → (fin (bs i)).same (t.ch (i + 1)) = true
 y : ∀ i, i < t.k → (t.ch i).bytes.length ≤ 4000
theorem cat_mem {f : Nat → List UInt8} {k i : Nat} (hi : i < k) : (f i).length ≤ (T.cat f k).length := by
 induction k with
 | zero => omega
 | succ j ih =>
  rw [T.cat, List.length_append]
  by_cases h : i = j
  · subst h; omega
  · have := ih (by omega); omega
theorem bun_tree {p : PV} {bs : Nat → BV} {k : Nat} (h : BunR p bs k) {t : T} (hr : t.right 8 = true) (hok : t.ok) (hb : t.bytes = bunBytes p bs k) : BunTree p bs k t := by
 obtain ⟨g1, g2⟩ := bunT_all h
 have hs := bytes_same (T.plain_of g2) (T.plain_of hr) g1 hok (by rw [bunT_bytes (PV.right_ranged h.pr), hb])
 have q := same_mk hs
 obtain ⟨q1, q2, q3, q4, q5, q6⟩ := q
 have r7 : ∀ i, i < t.k → (t.ch i).right 7 = true := fun i hi => kidB_right (d := 7) hr hi
 have hy : ∀ i, i < t.k → (t.ch i).bytes.length ≤ 4000 := fun i hi => by
  have e : (t.ch i).bytes.length ≤ t.bytes.length := by
   cases t with
   | nil => exact absurd hi (Nat.not_lt_zero _)
   | mk kd n s op kk ch =>
    have q1 : kd = 4 := q1
    subst q1
    have := cat_mem (f := fun i => (ch i).bytes) (k := kk) hi
    have eb : (T.mk 4 n s op kk ch).bytes = (if op then [159] else headL 4 kk) ++ (T.cat (fun i => (ch i).bytes) kk ++ (if op then [255] else [])) := by
     conv => lhs; unfold T.bytes
     rw [if_neg (by decide), if_neg (by decide)]
    rw [eb, List.length_append, List.length_append]
    show (ch i).bytes.length ≤ _
    have this : (ch i).bytes.length ≤ (T.cat (fun i => (ch i).bytes) kk).length := this
    omega
  rw [hb] at e
  have := h.l
  omega
 refine ⟨q1, q4, q5, fun i hi => kidB_ok hok hi, fun i hi => right_upB _ 7 (r7 i hi), fun i hi => ?_, ?_, fun i hi => ?_, hy⟩
 · exact Nat.le_trans (T.size_le _ (T.plain_of (r7 i hi))) (hy i hi)
 ·
  have := q6 0 (by omega)
  rwa [if_pos rfl] at this
 ·
  have := q6 (i + 1) (by omega)
  rwa [if_neg (by omega), show i + 1 - 1 = i by omega] at this
end Go.Proofs.YtfgipgpbjfhflaaGreat


namespace Go.Proofs.YtfgipgpbjfhflaaGreat
open Go.RowKit
set_option linter.unusedVariables false
set_option linter.unusedSimpArgs false

theorem writeFrom_pre (cs : Array Value) (l : List Value) (v : Value) (hs : cs.size = l.length + 1) (hv : cs[l.length]? = some v) : writeFrom cs 0 l = (l ++ [v]).toArray := by
 apply Array.ext_getElem?
 intro j
 rw [writeFrom_get l 0 cs j (by omega)]
 by_cases h : j < l.length
 ·
  rw [if_pos ⟨Nat.zero_le _, by omega⟩]
  simp [List.getElem?_append_left h]
 ·
  rw [if_neg (by omega)]
  by_cases e : j = l.length
  · subst e; rw [hv]; simp
  ·
   rw [Array.getElem?_eq_none (by omega)]
   symm
   rw [List.getElem?_toArray, List.getElem?_eq_none (by simp; omega)]
theorem setCells_pre {t : TypeId} {b : Nat} {W : World} {cs : Array Value} (h : Blk W b t cs) (l : List Value) (v : Value) (hs : cs.size = l.length + 1) (hv : cs[l.length]? = some v) : Blk (W.setCells b 0 l) b t (l ++ [v]).toArray := by
 rw [← writeFrom_pre cs l v hs hv]; exact setRow_eq l W 0 ▸ setRow_blk l W 0 cs h
end Go.Proofs.YtfgipgpbjfhflaaGreat


namespace Go.Proofs.YtfgipgpbjfhflaaGreat
open Go.RowKit Go.Maps
set_option linter.unusedVariables false
set_option linter.unusedSimpArgs false

theorem law3 : Keyed Tryz.prog 3 := int_keyed Tryz.underlying3
theorem zero3 (w : World) : (zeroValue 3).run Tryz.prog w = .ok (.int .i64 0) w := by kernel_rfl
abbrev UD := DataW Unit
def InI (x : Int) : Prop := -9223372036854775808 ≤ x ∧ x ≤ 9223372036854775807
theorem InI.wf {x : Int} (h : InI x) : (Lit.int .i64 x).wf = true := by
 have := h
 simpa [InI, Lit.wf, IntKind.min, IntKind.max, IntKind.signed, IntKind.bits] using this
theorem keyOf3 {x : Int} (h : InI x) : keyOf Tryz.prog 3 (.int .i64 x) = some (.int .i64 x) := keyOf_int_mk Tryz.underlying3 h.wf

/-- The map at m counts as f says. -/
def Counts (w : World) (m c : Nat) (f : Int → Nat) : Prop :=
 ∃ D : UD, w.ownsMap Tryz.prog 3 (plainElem (H := Unit) Tryz.prog 3) m c D ∧ ∀ id, InI id → D.atKey (.int .i64 id) (.lit (.int .i64 0)) = .lit (.int .i64 (f id : Int))

theorem Counts.kept {w w' : World} {m c : Nat} {f : Int → Nat} {S : List Nat} (h : Counts w m c f) (hm : Mod S w w') (hs : m ∉ S) : Counts w' m c f := by
 obtain ⟨D, ⟨es, clock, h1, h2, h3, h4⟩, h5⟩ := h
 have hlt : m < w.heap.size := by
  rcases Nat.lt_or_ge m w.heap.size with hlt | hge
  · exact hlt
  · rw [Array.getElem?_eq_none hge] at h1; cases h1
 exact ⟨D, ⟨es, clock, (hm.block m hlt hs).trans h1, h2, h3, h4⟩, h5⟩
theorem Counts.lt {w : World} {m c : Nat} {f : Int → Nat} (h : Counts w m c f) : m < w.heap.size := by
 obtain ⟨D, h1, _⟩ := h
 exact h1.lt
theorem Counts.look {w : World} {m c : Nat} {f : Int → Nat} (h : Counts w m c f) {id : Int} (hi : InI id) :
  (Instr.lookup 118 (.map (some m)) (.int .i64 id) false).run Tryz.prog w = .ok (.int .i64 (f id : Int)) w := by
 obtain ⟨D, hown, hat⟩ := h
 obtain ⟨v, hrun, h1, _⟩ := hown.lookup_int law3 Tryz.underlying118 Tryz.underlying3 (zero3 w) (keyOf3 hi)
 rw [hat id hi] at h1
 have : v = (f id : Int) := by
  have := h1
  simp at this
  exact this.symm
 rw [hrun, this]
def upd (f : Int → Nat) (id : Int) : Int → Nat := fun x => if x = id then f id + 1 else f x
theorem Counts.put {w w' : World} {m c : Nat} {f : Int → Nat} {D : UD} {id : Int} (hi : InI id) (hown : w.ownsMap Tryz.prog 3 (plainElem (H := Unit) Tryz.prog 3) m c D)
  (hat : ∀ id, InI id → D.atKey (.int .i64 id) (.lit (.int .i64 0)) = .lit (.int .i64 (f id : Int)))
  (h1 : w'.ownsMap Tryz.prog 3 (plainElem (H := Unit) Tryz.prog 3) m (c + 1) (D.put (.int .i64 id) (.lit (.int .i64 ((f id : Int) + 1))))) : Counts w' m (c + 1) (upd f id) := by
 refine ⟨_, h1, fun x hx => ?_⟩
 obtain ⟨es, clock, e1, e2, e3, e4⟩ := hown
 by_cases e : x = id
 ·
  subst e
  rw [atKey_put_same ⟨_, e4⟩ (by simp [WideAt.IsKeyLit])]
  simp [upd]
 ·
  rw [atKey_put_other (by intro h; simp at h; exact e h)]
  rw [hat x hx]
  simp [upd, e]

theorem Counts.made (w : World) : Counts (w.alloc (.map #[] 0)) w.heap.size 0 (fun _ => 0) := ⟨.map [], World.ownsMap_made _ _ _ _, fun id _ => rfl⟩
theorem Counts.congr {w : World} {m c : Nat} {f g : Int → Nat} (h : Counts w m c f) (e : ∀ x, f x = g x) : Counts w m c g := by
 obtain rfl : f = g := funext e
 exact h
end Go.Proofs.YtfgipgpbjfhflaaGreat


namespace Go.Proofs.YtfgipgpbjfhflaaGreat
open Go.RowKit Go.Maps
set_option linter.unusedVariables false
set_option linter.unusedSimpArgs false

/-- How many of the first i blocks have a number. -/
def cntNo (bs : Nat → BV) (num : Int) : Nat → Nat
 | 0 => 0
 | i + 1 => cntNo bs num i + (if (bs i).num = num then 1 else 0)
theorem cntNo_le (bs : Nat → BV) (num : Int) : ∀ k, cntNo bs num k ≤ k
 | 0 => Nat.le_refl _
 | k + 1 => by have := cntNo_le bs num k; rw [cntNo]; split <;> omega
theorem cntNo_zero {bs : Nat → BV} {num : Int} : ∀ {k : Nat}, (∀ j, j < k → (bs j).num ≠ num) → cntNo bs num k = 0
 | 0, _ => rfl
 | k + 1, h => by rw [cntNo, cntNo_zero fun j hj => h j (by omega), if_neg (h k (by omega))]
theorem cntNo_pos {bs : Nat → BV} {num : Int} {i : Nat} : ∀ {k : Nat}, i < k → (bs i).num = num → 1 ≤ cntNo bs num k
 | k + 1, h, ht => by
  rw [cntNo]
  by_cases e : i = k
  · subst e; rw [if_pos ht]; omega
  · have := cntNo_pos (k := k) (by omega) ht; omega
theorem cntNo_dup {bs : Nat → BV} {i : Nat} : dupAt bs i = decide (1 ≤ cntNo bs (bs i).num i) := by
 unfold dupAt
 cases h : firstOf (hasNumOf bs i) i with
 | none =>
  have h2 := firstOf_no h
  rw [cntNo_zero fun j hj e => by have := h2 j hj; simp [hasNumOf] at this; exact this e.symm]; rfl
 | some j =>
  obtain ⟨h1, h2, _⟩ := firstOf_spec h
  have := cntNo_pos (num := (bs i).num) h1 (by simp [hasNumOf] at h2; exact h2.symm)
  symm; simpa using this
def onceB (bs : Nat → BV) (k : Nat) : Bool := !dupB bs k && decide (cntB bs 1 k = 1) && decide (cntB bs 6 k < 2) && decide (cntB bs 7 k < 2) && decide (cntB bs 10 k < 2)
theorem cntNo_upd (bs : Nat → BV) (i : Nat) (x : Int) : upd (fun x => cntNo bs x i) (bs i).num x = cntNo bs x (i + 1) := by
 unfold upd
 rw [cntNo]
 by_cases e : x = (bs i).num
 · subst e; rw [if_pos rfl, if_pos rfl]
 · rw [if_neg e, if_neg (fun h => e h.symm)]; rfl
theorem cntB_upd (bs : Nat → BV) (i : Nat) (x : Int) : upd (fun x => cntB bs x i) (bs i).ty x = cntB bs x (i + 1) := by
 unfold upd
 rw [cntB]
 by_cases e : x = (bs i).ty
 · subst e; rw [if_pos rfl, if_pos rfl]
 · rw [if_neg e, if_neg (fun h => e h.symm)]; rfl
set_option maxRecDepth 20000 in
set_option maxHeartbeats 4000000 in
theorem once_any (bs : Nat → BV) (k c : Nat) (A : Option Addr) (hk : k ≤ 16) (hr : ∀ i, i < k → InI (bs i).num ∧ InI (bs i).ty) (w : World) (h : BsL w A k bs) : Calls Tryz.prog 48 #[.slice A k c] w (Ret (.bool (onceB bs k)) w) := by
 have HL := hid h
 have HI := hid hr
 have k1 : (k : Int) ≤ 16 := by omega
 have HK := hid hk
 have hmm := @run_makeMap Tryz.prog
 clear h hr hk
 go_enter Tryz.func48, Tryz.ntmps48
 go_upto_region 2 with fail
 have HE0 : Hid (Ext w ((w.alloc (.map #[] 0)).alloc (.map #[] 0))) := hid (((Mod.refl [] w).alloc _).alloc _)
 have HN0 : Hid (Counts ((w.alloc (.map #[] 0)).alloc (.map #[] 0)) w.heap.size 0 (fun _ => 0)) := hid ((Counts.made w).kept ((Mod.refl [] _).alloc _) (by simp))
 have HT0 : Hid (Counts ((w.alloc (.map #[] 0)).alloc (.map #[] 0)) (w.heap.size + 1) 0 (fun _ => 0)) := hid (by have := Counts.made (w.alloc (.map #[] 0)); simpa using this)
 clear hmm
 generalize (w.alloc (.map #[] 0)).alloc (.map #[] 0) = V at *
 generalize hM : w.heap.size = M at *
 have HM := hid hM
 clear hM
 go_upto_region 3 with fail
 go_loopw [11] (fun s11 wr => ∃ i : Nat, s11 = .int .i64 (i : Int) ∧ Hid (i ≤ k ∧ (∀ j, j < i → dupAt bs j = false) ∧ Ext w wr ∧ Counts wr M i (fun x => cntNo bs x i) ∧ Counts wr (M + 1) i (fun x => cntB bs x i))) (fun s11 _ => k - (intOf s11).toNat)
 case atStart => exact ⟨0, rfl, (show Hid _ from ⟨Nat.zero_le _, fun j hj => by omega, HE0.out, HN0.out, HT0.out⟩)⟩
 case round =>
  clear HE0 HN0 HT0
  obtain ⟨i, rfl, hS⟩ := hrel
  rename World => wr
  have i0 : (0 : Int) ≤ (i : Int) := by omega
  by_cases hlt : i < k
  ·
   obtain ⟨b, o, rfl, hb, q0, q1, q2, q3, q4⟩ := HL.out.cells hlt
   have tc : decide (i < k) = true := by simp [hlt]
   have i1 : (i : Int) < (k : Int) := by omega
   have i2 : i ≤ 16 := by have := HK.out; omega
   have HLT := hid hlt
   have u0 : wr.cell? ⟨b, o + i * 5, none⟩ = _ := q0 ⟨wr, hS.out.2.2.1⟩
   have u1 : wr.cell? ⟨b, o + i * 5 + 1, none⟩ = _ := q1 ⟨wr, hS.out.2.2.1⟩
   have u2 : wr.cell? ⟨b, o + i * 5 + 2, none⟩ = _ := q2 ⟨wr, hS.out.2.2.1⟩
   have u3 : wr.cell? ⟨b, o + i * 5 + 3, none⟩ = _ := q3 ⟨wr, hS.out.2.2.1⟩
   have u4 : wr.cell? ⟨b, o + i * 5 + 4, none⟩ = _ := q4 ⟨wr, hS.out.2.2.1⟩
   clear q0 q1 q2 q3 q4
   obtain ⟨hin, hit⟩ := HI.out i hlt
   clear hlt
   go_upto_region 5 with fail
   generalize hW1 : World.alloc wr _ = W1
   have HG1 : Hid (Blk W1 wr.heap.size 42 (BV.c (bs i))) := hid (by rw [← hW1]; exact Blk.new _ _ _)
   have hS1 : Hid (Ext w W1 ∧ Counts W1 M i (fun x => cntNo bs x i) ∧ Counts W1 (M + 1) i (fun x => cntB bs x i)) := hid (by
    have h := hS.out.2.2
    rw [← hW1]
    exact ⟨h.1.alloc _, h.2.1.kept (Mod.alloc (S := []) (Mod.refl _ _) _) (by simp), h.2.2.kept (Mod.alloc (S := []) (Mod.refl _ _) _) (by simp)⟩)
   have HGM : Hid (wr.heap.size ≠ M ∧ wr.heap.size ≠ M + 1) := hid ⟨by have := hS.out.2.2.2.1.lt; omega, by have := hS.out.2.2.2.2.lt; omega⟩
   have hno := hS.out.2.1
   have HNO := hid hno
   clear hW1 hS u0 u1 u2 u3 u4 hno
   generalize wr.heap.size = G at *
   have HDA := hid (cntNo_dup (bs := bs) (i := i))
   have hUN := cntNo_upd bs i
   have hUT := cntB_upd bs i
   have HUN := hid hUN
   have HUT := hid hUT
   clear hUN hUT
   have hn1 := cntNo_le bs (bs i).num i
   have hn2 := cntB_le bs (bs i).ty i
   have g0 : W1.cell? ⟨G, 0, none⟩ = some (.int .i64 (bs i).ty) := HG1.out.cell 0
   have g1 : W1.cell? ⟨G, 1, none⟩ = some (.int .i64 (bs i).num) := HG1.out.cell 1
   have hl := hS1.out.2.1.look hin
   try dsimp only at hl
   have hN1 : cntNo bs (bs i).num (i + 1) = cntNo bs (bs i).num i + 1 := by rw [cntNo, if_pos rfl]
   have HN1 := hid hN1
   clear hN1
   obtain ⟨D, hown, hat⟩ := hS1.out.2.1
   have hkey := keyOf3 hin
   have u0 : (0 : Int) ≤ (cntNo bs (bs i).num i : Nat) := by omega
   have u1 : ((cntNo bs (bs i).num i : Nat) : Int) ≤ 16 := by omega
   have hw1 : (Lit.int .i64 (((cntNo bs (bs i).num i : Nat) : Int) + 1)).wf = true := InI.wf (by unfold InI; omega)
   generalize hnn : cntNo bs (bs i).num i = n1 at *
   have HNN := hid hnn
   clear hnn hn1
   go_upto_region 6 with (at_mapUpdate; refine wpList_mapUpdate_own _ rfl _ _ _ 118 rfl 3 3 law3 Tryz.underlying118 _ M i _ rfl hown (by unfold maxLen; omega) _ _ _ rfl rfl hkey _ [] (plainElem_int Tryz.underlying3 hw1) ?_; intro w2 hown2 hgrow2)
   have hC2 : Hid (Counts w2 M (i + 1) (fun x => cntNo bs x (i + 1))) := hid ((Counts.put (f := fun x => cntNo bs x i) hin hown hat (by (try dsimp only); rw [HNN.out]; exact hown2)).congr HUN.out)
   have m2 : Mod [M] W1 w2 := (Mod.refl _ _).grown hgrow2 (fun kk hkk => .inl (by cases hkk; simp))
   have HG2 := hid (HG1.out.mod m2 (by simpa using HGM.out.1))
   have HE2 : Hid (Ext w w2) := hid (Mod.new (S := [M]) (hS1.out.1.of_ext.trans m2) (fun kk hkk => .inr (by have := HM.out; simp at hkk; omega)))
   have hT2 := hS1.out.2.2.kept m2 (by simp)
   clear hl hown hat hown2 hgrow2 m2 g0 g1 hkey hw1 HG1 hS1 u0 u1
   have g0 : w2.cell? ⟨G, 0, none⟩ = some (.int .i64 (bs i).ty) := HG2.out.cell 0
   have hl := hT2.look hit
   try dsimp only at hl
   obtain ⟨D2, hown, hat⟩ := hT2
   have hkey := keyOf3 hit
   have u0 : (0 : Int) ≤ (cntB bs (bs i).ty i : Nat) := by omega
   have u1 : ((cntB bs (bs i).ty i : Nat) : Int) ≤ 16 := by omega
   have hw1 : (Lit.int .i64 (((cntB bs (bs i).ty i : Nat) : Int) + 1)).wf = true := InI.wf (by unfold InI; omega)
   generalize hnn2 : cntB bs (bs i).ty i = n2 at *
   have HNN2 := hid hnn2
   clear hnn2 hn2
   go_upto_region 7 with (at_mapUpdate; refine wpList_mapUpdate_own _ rfl _ _ _ 118 rfl 3 3 law3 Tryz.underlying118 _ (M + 1) i _ rfl hown (by unfold maxLen; omega) _ _ _ rfl rfl hkey _ [] (plainElem_int Tryz.underlying3 hw1) ?_; intro w3 hown3 hgrow3)
   have hC3 : Hid (Counts w3 (M + 1) (i + 1) (fun x => cntB bs x (i + 1))) := hid ((Counts.put (f := fun x => cntB bs x i) hit hown hat (by (try dsimp only); rw [HNN2.out]; exact hown3)).congr HUT.out)
   have m3 : Mod [M + 1] w2 w3 := (Mod.refl _ _).grown hgrow3 (fun kk hkk => .inl (by cases hkk; simp))
   have HG3 := hid (HG2.out.mod m3 (by simpa using HGM.out.2))
   have HE3 : Hid (Ext w w3) := hid (Mod.new (S := [M + 1]) (HE2.out.of_ext.trans m3) (fun kk hkk => .inr (by have := HM.out; simp at hkk; omega)))
   have hC4 := hid (hC2.out.kept m3 (by simp))
   clear hl hown hat hown3 hgrow3 m3 g0 hkey hw1 HG2 HE2 hC2 u0 u1
   have g1 : w3.cell? ⟨G, 1, none⟩ = some (.int .i64 (bs i).num) := HG3.out.cell 1
   have hl := hC4.out.look hin
   try dsimp only at hl
   rw [HN1.out, show ((n1 + 1 : Nat) : Int) = (n1 : Int) + 1 by omega] at hl

   by_cases hd : 1 ≤ n1
   ·
    have HF : Hid (onceB bs k = false) := by
     have h1 : dupAt bs i = true := by rw [HDA.out]; simpa using hd
     have h2 : dupB bs k = true := by unfold dupB; rw [firstOf_some HLT.out h1 HNO.out]; rfl
     unfold Hid onceB; rw [h2]; rfl
    have ta : decide ((1 : Int) < (n1 : Int) + 1) = true := decide_eq_true (by omega)
    have tb : ((1 : Int) < (n1 : Int) + 1) = True := eq_true (by omega)
    have td : decide (1 < n1 + 1) = true := decide_eq_true (by omega)
    have te : (1 < n1 + 1) = True := eq_true (by omega)
    have te2 : (0 < n1) = True := eq_true (by omega)
    clear hd
    go_wp2_with fail
    go_ret
    exact Ret.mk (by rw [HF.out]; rfl) HE3.out
   ·
    obtain rfl : n1 = 0 := by omega
    have HN : Hid (dupAt bs i = false) := hid (by rw [HDA.out]; rfl)
    clear hd
    go_wp2_with fail
    go_roundw
    case rel => exact ⟨i + 1, by go_num, (show Hid _ from ⟨HLT.out, fun j hj => by
     by_cases hji : j = i
     · subst hji; exact HN.out
     · exact HNO.out j (by omega), HE3.out, hC4.out, hC3.out⟩)⟩
    case measure => have := HLT.out; simp [intOf]; omega
  ·
   obtain rfl : i = k := by have := hS.out.1; omega
   have tc : decide (i < i) = false := by simp
   have HD : Hid (dupB bs i = false) := by unfold Hid dupB; rw [firstOf_none hS.out.2.1]; rfl
   have HE := hid hS.out.2.2.1
   have hT := hS.out.2.2.2.2
   have l1 := hT.look (id := 1) (by unfold InI; omega)
   have l6 := hT.look (id := 6) (by unfold InI; omega)
   have l7 := hT.look (id := 7) (by unfold InI; omega)
   have l10 := hT.look (id := 10) (by unfold InI; omega)
   try dsimp only at l1 l6 l7 l10
   have HF : Hid (onceB bs i = (decide (cntB bs 1 i = 1) && decide (cntB bs 6 i < 2) && decide (cntB bs 7 i < 2) && decide (cntB bs 10 i < 2))) := by unfold Hid onceB; rw [HD.out]; rfl
   clear hT hS HD hlt HL
   generalize onceB bs i = R at *
   generalize cntB bs 1 i = n1 at *
   generalize cntB bs 6 i = n6 at *
   generalize cntB bs 7 i = n7 at *
   generalize cntB bs 10 i = n10 at *
   by_cases z1 : n1 = 1
   ·
    subst z1
    have z1 : True := trivial
    by_cases z6 : n6 < 2
    ·
     have HZ6 := hid z6
     have t6a : decide ((n6 : Int) < 2) = true := decide_eq_true (by omega)
     have t6b : ((n6 : Int) < 2) = True := eq_true (by omega)
     have t6na : decide (n6 < 2) = true := decide_eq_true (by omega)
     have t6nb : (n6 < 2) = True := eq_true (by omega)
     clear z6
     by_cases z7 : n7 < 2
     ·
      have HZ7 := hid z7
      have t7a : decide ((n7 : Int) < 2) = true := decide_eq_true (by omega)
      have t7b : ((n7 : Int) < 2) = True := eq_true (by omega)
      have t7na : decide (n7 < 2) = true := decide_eq_true (by omega)
      have t7nb : (n7 < 2) = True := eq_true (by omega)
      clear z7
      by_cases z10 : n10 < 2
      ·
       have HZ10 := hid z10
       have t10a : decide ((n10 : Int) < 2) = true := decide_eq_true (by omega)
       have t10b : ((n10 : Int) < 2) = True := eq_true (by omega)
       have t10na : decide (n10 < 2) = true := decide_eq_true (by omega)
       have t10nb : (n10 < 2) = True := eq_true (by omega)
       clear z10
       go_wp2_with fail
       go_ret
       exact Ret.mk (by rw [HF.out]; simp [HZ6.out, HZ7.out, HZ10.out]) HE.out
      ·
       have HZ10 := hid z10
       have t10a : decide ((n10 : Int) < 2) = false := decide_eq_false (by omega)
       have t10b : ((n10 : Int) < 2) = False := eq_false (by omega)
       have t10na : decide (n10 < 2) = false := decide_eq_false (by omega)
       have t10nb : (n10 < 2) = False := eq_false (by omega)
       clear z10
       go_wp2_with fail
       go_ret
       exact Ret.mk (by rw [HF.out]; simp [HZ6.out, HZ7.out, HZ10.out]) HE.out
     ·
      have HZ7 := hid z7
      have t7a : decide ((n7 : Int) < 2) = false := decide_eq_false (by omega)
      have t7b : ((n7 : Int) < 2) = False := eq_false (by omega)
      have t7na : decide (n7 < 2) = false := decide_eq_false (by omega)
      have t7nb : (n7 < 2) = False := eq_false (by omega)
      clear z7
      go_wp2_with fail
      go_ret
      exact Ret.mk (by rw [HF.out]; simp [HZ6.out, HZ7.out]) HE.out
    ·
     have HZ6 := hid z6
     have t6a : decide ((n6 : Int) < 2) = false := decide_eq_false (by omega)
     have t6b : ((n6 : Int) < 2) = False := eq_false (by omega)
     have t6na : decide (n6 < 2) = false := decide_eq_false (by omega)
     have t6nb : (n6 < 2) = False := eq_false (by omega)
     clear z6
     go_wp2_with fail
     go_ret
     exact Ret.mk (by rw [HF.out]; simp [HZ6.out]) HE.out
   ·
    have HZ1 := hid z1
    have t1a : (((n1 : Int)) == (1)) = false := by rw [beq_eq_false_iff_ne]; omega
    have t1b : (((n1 : Int)) = (1)) = False := eq_false (by omega)
    have t1c : (((n1 : Int)) != (1)) = true := by rw [bne_iff_ne]; omega
    have t1na : ((n1) == (1)) = false := by rw [beq_eq_false_iff_ne]; omega
    have t1nb : ((n1) = (1)) = False := eq_false (by omega)
    have t1nc : ((n1) != (1)) = true := by rw [bne_iff_ne]; omega
    clear z1
    go_wp2_with fail
    go_ret
    exact Ret.mk (by rw [HF.out]; simp [HZ1.out]) HE.out
end Go.Proofs.YtfgipgpbjfhflaaGreat


namespace Go.Proofs.YtfgipgpbjfhflaaGreat
open Go.RowKit Go.Shelf
set_option linter.unusedVariables false
set_option linter.unusedSimpArgs false

def hasNum (n : Int) (b : BV) : Bool := decide (b.num = n)
def numB (bs : Nat → BV) (n : Int) (i : Nat) : Bool := hasNum n (bs i)
set_option maxRecDepth 20000 in
theorem IndexFuncB_any (A : Option Addr) (bs : Nat → BV) (k c g : Nat) (lb : Array Value) (P : BV → Bool) (eg : ∀ args w, (callFunc g args).run Tryz.prog w = .ok (.enter g args) w)
  (hk : k < 4611686018427387904) (w : World) (h : BsL w A k bs) (hp : Hid (∀ (W : World) (x : BV), Ext w W → Calls Tryz.prog g (#[x.v] ++ lb) W (Ret (.bool (P x)) W))) :
  Calls Tryz.prog 36 #[.slice A k c, .func (.func g) #[] lb] w (Ret (.int .i64 (firstI (fun i => P (bs i)) k)) w) := by
 have HL := hid h
 have k1 : (k : Int) < 4611686018427387904 := by omega
 have HK := hid hk
 clear h hk
 obtain ⟨e0, he0⟩ := Later.self w
 go_enter Tryz.func36, Tryz.ntmps36
 go_wp2_with fail
 go_loopw [8] (fun s5 wr => ∃ i : Nat, s5 = .int .i64 (i : Int) ∧ Hid (i ≤ k ∧ ∀ j, j < i → (fun i => P (bs i)) j = false) ∧ ∃ e : Later w, wr = e.x) (fun s5 _ => k - (intOf s5).toNat)
 case atStart => exact ⟨0, rfl, (show Hid _ from ⟨by omega, fun j hj => by omega⟩), e0, (by first | exact he0 | rfl)⟩
 case round =>
  clear he0 e0
  obtain ⟨i, rfl, hi, e, rfl⟩ := hrel
  have i0 : (0 : Int) ≤ (i : Int) := by omega
  by_cases hlt : i < k
  ·
   obtain ⟨b, o, rfl, hb, q0, q1, q2, q3, q4⟩ := HL.out.cells hlt
   have tc : decide (i < k) = true := by simp [hlt]
   have i1 : (i : Int) < (k : Int) := by omega
   have HLT := hid hlt
   clear hlt
   by_cases ht : (fun i => P (bs i)) i = true
   ·
    have HF : Hid (firstI ((fun i => P (bs i))) k = (i : Int)) := by unfold Hid firstI; rw [firstOf_some HLT.out ht hi.out.2]
    have hcall : Calls Tryz.prog g (#[(bs i).v] ++ lb) e.x (Ret (.bool true) e.x) := by have := hp.out e.x (bs i) e.h; rw [show P (bs i) = true from ht] at this; exact this
    clear ht
    go_wp2_with (go_at_fn g; refine (Ret.later hcall).mono ?_; rintro x _ ⟨rfl, e3, rfl⟩)
    go_ret
    exact Ret.mk (by rw [HF.out]; rfl) e3.h
   ·
    have HN : Hid ((fun i => P (bs i)) i = false) := by unfold Hid; simpa using ht
    have hcall : Calls Tryz.prog g (#[(bs i).v] ++ lb) e.x (Ret (.bool false) e.x) := by have := hp.out e.x (bs i) e.h; rw [show P (bs i) = false from HN.out] at this; exact this
    clear ht
    go_wp2_with (go_at_fn g; refine (Ret.later hcall).mono ?_; rintro x _ ⟨rfl, e3, rfl⟩)
    go_roundw
    case rel => exact ⟨i + 1, by go_num, (show Hid _ from ⟨HLT.out, fun j hj => by
     by_cases hji : j = i
     · subst hji; exact HN.out
     · exact hi.out.2 j (by omega)⟩), e3, rfl⟩
    case measure => have := HLT.out; simp [intOf]; omega
  ·
   obtain rfl : i = k := by have := hi.out.1; omega
   have tc : decide (i < i) = false := by simp
   have HF : Hid (firstI ((fun i => P (bs i))) i = -1) := by unfold Hid firstI; rw [firstOf_none hi.out.2]
   go_wp2_with fail
   go_ret
   exact Ret.mk (by rw [HF.out]; rfl) (e.h)
set_option maxRecDepth 20000 in
theorem atCl_any (n : Int) (B : Nat) (w : World) (hB : B < w.heap.size) (c0 : w.cell? ⟨B, 0, none⟩ = some (.int .i64 n)) (W : World) (x : BV) (hb : Ext w W) : Calls Tryz.prog 37 (#[x.v] ++ #[.pointer (some ⟨B, 0, none⟩)]) W (Ret (.bool (hasNum n x)) W) := by
 have d0 : W.cell? ⟨B, 0, none⟩ = some (.int .i64 n) := (hb.cell hB (by simp)).trans c0
 have hBW : B < W.heap.size := Nat.lt_of_lt_of_le hB hb.size
 have hne : B ≠ W.heap.size := by omega
 clear c0
 show Calls Tryz.prog 37 #[.agg #[.int .i64 x.ty, .int .i64 x.num, .int .u64 (x.fl : Int), .int .i64 x.crc, str x.data], .pointer (some ⟨B, 0, none⟩)] W _
 go_enter Tryz.func37, Tryz.ntmps37
 go_wp2
 go_ret
 exact Ret.mk (by simp [hasNum]; rfl) ((Mod.refl _ _).alloc _)
theorem entersAC : ∀ args w, (callFunc 37 args).run Tryz.prog w = .ok (.enter 37 args) w := enters_of Tryz.func37 (by kernel_rfl) rfl
set_option maxRecDepth 20000 in
theorem at_any (p : PV) (bs : Nat → BV) (k c : Nat) (A : Option Addr) (n : Int) (hk : k < 4611686018427387904) (w : World) (h : BsL w A k bs) : Calls Tryz.prog 23 #[bunV p A k c, .int .i64 n] w (Ret (.int .i64 (firstI (numB bs n) k)) w) := by
 have HE := hid (((Mod.refl [] w).alloc (.cells (bunC p A k c) 29)).alloc (.cells #[.int .i64 n] 3))
 have HB := hid ((Blk.new w 29 (bunC p A k c)).alloc (.cells #[.int .i64 n] 3))
 have HN : Hid (Blk ((w.alloc (.cells (bunC p A k c) 29)).alloc (.cells #[.int .i64 n] 3)) (w.heap.size + 1) 3 #[.int .i64 n]) := Blk.newL _ _ _ (by simp)
 have HL := hid (BsL.ext h HE.out)
 have HK := hid hk
 clear h hk
 go_enter Tryz.func23, Tryz.ntmps23
 go_upto_region 1 with fail
 generalize (w.alloc (.cells (bunC p A k c) 29)).alloc (.cells #[.int .i64 n] 3) = V at *
 have KI : Hid (Calls Tryz.prog 36 #[.slice A k c, .func (.func 37) #[] #[.pointer (some ⟨w.heap.size + 1, 0, none⟩)]] V (Ret (.int .i64 (firstI (numB bs n) k)) V)) :=
  IndexFuncB_any A bs k c 37 #[.pointer (some ⟨w.heap.size + 1, 0, none⟩)] (hasNum n) entersAC HK.out V HL.out (fun W x hb => atCl_any n (w.heap.size + 1) V HN.out.lt (HN.out.cell 0) W x hb)
 have b19 : V.cell? ⟨w.heap.size, 19, none⟩ = some (.slice A k c) := HB.out.cell 19
 go_wp2_with (go_at_call 36; refine KI.out.mono ?_; rintro x w2 ⟨rfl, hb2⟩)
 go_ret
 exact Ret.mk rfl (HE.out.trans hb2)
end Go.Proofs.YtfgipgpbjfhflaaGreat


namespace Go.Proofs.YtfgipgpbjfhflaaGreat
open Go.RowKit
set_option linter.unusedVariables false
set_option linter.unusedSimpArgs false

section
variable {P : Program} {ops : Array Oper} {rest : List Oper} {o : Oper} {a : Act} {w : World}
/-- Two strings become one, in a plain region. -/
theorem wpList_cat {Q : Exit → Act → World → Prop} (hw : Region.wanted o (yielded ops a.tmps) = true) (ty t2 : TypeId) (x y : Operand) (ho : o.op = .binOp .add ty x y t2) (l1 l2 : List UInt8) (hx : a.eval x = str l1) (hy : a.eval y = str l2)
  (hl : l1.length + l2.length ≤ 9223372036854775807) (h : wpList P ops Q rest (a.put o.dst (str (l1 ++ l2))) w) : wpList P ops Q (o :: rest) a w :=
 wpList_step fun K hK => by
  rw [if_pos hw]
  have hl' : ¬ 9223372036854775807 < l1.length + l2.length := by omega
  have hk := hK _ _ h
  unfold Oper.wp execOp
  simp only [ho, hx, hy]
  simp [go_sem, hl']
  rw [ByteArray.mk_append_mk]
  exact hk
end
end Go.Proofs.YtfgipgpbjfhflaaGreat


namespace Go.Proofs.YtfgipgpbjfhflaaGreat
open Go.RowKit
set_option linter.unusedVariables false
set_option linter.unusedSimpArgs false

end Go.Proofs.YtfgipgpbjfhflaaGreat


namespace Go.Proofs.YtfgipgpbjfhflaaGreat
open Go.RowKit
set_option linter.unusedVariables false
set_option linter.unusedSimpArgs false

set_option maxRecDepth 20000 in
set_option maxHeartbeats 800000 in
theorem r13count_any (bs : Nat → BV) (k c : Nat) (A : Option Addr) (typ : Int) (hk : k < 4611686018427387904) (w : World) (h : BsL w A k bs) : Calls Tryz.prog 15 #[.slice A k c, .int .i64 typ] w (Ret (.int .i64 (cntB bs typ k : Nat)) w) := by
 have HL := hid h
 have k1 : (k : Int) < 4611686018427387904 := by omega
 clear h hk
 obtain ⟨e0, he0⟩ := Later.self w
 go_enter Tryz.func15, Tryz.ntmps15
 go_wp2_with fail
 go_loopw [5, 6] (fun s5 s6 wr => ∃ i : Nat, s6 = .int .i64 (i : Int) ∧ s5 = .int .i64 (cntB bs typ i : Nat) ∧ Hid (i ≤ k) ∧ ∃ e : Later w, wr = e.x) (fun _ s6 _ => k - (intOf s6).toNat)
 case atStart => exact ⟨0, rfl, rfl, (show Hid _ from Nat.zero_le _), e0, (by first | exact he0 | rfl)⟩
 case round =>
  clear he0 e0
  obtain ⟨i, rfl, rfl, hi, e, rfl⟩ := hrel
  have i0 : (0 : Int) ≤ (i : Int) := by omega
  by_cases hlt : i < k
  ·
   obtain ⟨b, o, rfl, hb, q0, q1, q2, q3, q4⟩ := HL.out.cells hlt
   have tc : decide (i < k) = true := by simp [hlt]
   have i1 : (i : Int) < (k : Int) := by omega
   have HLT := hid hlt
   have hc0 : (0 : Int) ≤ (cntB bs typ i : Nat) := by omega
   have hc1 : ((cntB bs typ i : Nat) : Int) < 4611686018427387904 := by have := cntB_le bs typ i; omega
   clear hlt
   by_cases ht : (bs i).ty = typ
   ·
    have HC : Hid (cntB bs typ (i + 1) = cntB bs typ i + 1) := by unfold Hid; rw [cntB, if_pos ht]
    have t1 : ((bs i).ty == typ) = true := by simpa using ht
    have t2 : ((bs i).ty = typ) = True := by simpa using ht
    clear ht
    generalize cntB bs typ i = n at *
    go_wp2_with fail
    go_roundw
    case rel => exact ⟨i + 1, by go_num, by rw [HC.out]; go_num, (show Hid _ from HLT.out), e, rfl⟩
    case measure => have := HLT.out; simp [intOf]; omega
   ·
    have HC : Hid (cntB bs typ (i + 1) = cntB bs typ i) := by unfold Hid; rw [cntB, if_neg ht]; rfl
    have t1 : ((bs i).ty == typ) = false := by simpa using ht
    have t2 : ((bs i).ty = typ) = False := by simpa using ht
    clear ht
    generalize cntB bs typ i = n at *
    go_wp2_with fail
    go_roundw
    case rel => exact ⟨i + 1, by go_num, by rw [HC.out], (show Hid _ from HLT.out), e, rfl⟩
    case measure => have := HLT.out; simp [intOf]; omega
  ·
   obtain rfl : i = k := by have := hi.out; omega
   have tc : decide (i < i) = false := by simp
   go_wp2_with fail
   go_ret
   exact Ret.mk rfl e.h
set_option maxRecDepth 20000 in
set_option maxHeartbeats 1600000 in
theorem r13twice_any (bs : Nat → BV) (k c : Nat) (A : Option Addr) (hk : k < 4611686018427387904) (w : World) (h : BsL w A k bs) : Calls Tryz.prog 16 #[.slice A k c] w (Ret (.bool (dupB bs k)) w) := by
 have HL := hid h
 have k1 : (k : Int) < 4611686018427387904 := by omega
 clear h hk
 obtain ⟨e0, he0⟩ := Later.self w
 go_enter Tryz.func16, Tryz.ntmps16
 go_wp2_with fail
 go_loopw [3] (fun s3 wr => ∃ i : Nat, s3 = .int .i64 (i : Int) ∧ Hid (i ≤ k ∧ ∀ j, j < i → dupAt bs j = false) ∧ ∃ e : Later w, wr = e.x) (fun s3 _ => k - (intOf s3).toNat)
 case atStart => exact ⟨0, rfl, (show Hid _ from ⟨Nat.zero_le _, fun j hj => by omega⟩), e0, (by first | exact he0 | rfl)⟩
 case round =>
  clear he0 e0
  obtain ⟨i, rfl, hi, e, rfl⟩ := hrel
  have i0 : (0 : Int) ≤ (i : Int) := by omega
  by_cases hlt : i < k
  ·
   obtain ⟨b, o, rfl, hb, q0, q1, q2, q3, q4⟩ := HL.out.cells hlt
   have tc : decide (i < k) = true := by simp [hlt]
   have i1 : (i : Int) < (k : Int) := by omega
   have HLT := hid hlt
   clear hlt
   go_wp2_with fail
   go_loopw [4] (fun s4 wr => ∃ j : Nat, s4 = .int .i64 (j : Int) ∧ Hid (j ≤ i ∧ ∀ m, m < j → hasNumOf bs i m = false) ∧ ∃ e : Later w, wr = e.x) (fun s4 _ => i - (intOf s4).toNat)
   case atStart => exact ⟨0, rfl, (show Hid _ from ⟨Nat.zero_le _, fun j hj => by omega⟩), e, rfl⟩
   case round =>
    obtain ⟨j, rfl, hj, e3, rfl⟩ := hrel
    have j0 : (0 : Int) ≤ (j : Int) := by omega
    by_cases hjt : j < i
    ·
     have hjk : j < k := Nat.lt_trans hjt HLT.out
     obtain ⟨b', o', hA', hb', u0, u1, u2, u3, u4⟩ := HL.out.cells hjk
     cases hA'
     have tj : decide (j < i) = true := by simp [hjt]
     have j1 : (j : Int) < (i : Int) := by omega
     have j2 : (j : Int) < (k : Int) := by omega
     have HJT := hid hjt
     clear hjt hjk
     by_cases ht : hasNumOf bs i j = true
     ·
      have HF : Hid (dupB bs k = true) := by
       unfold Hid dupB
       rw [firstOf_some HLT.out (by unfold dupAt; rw [firstOf_some HJT.out ht hj.out.2]; rfl) hi.out.2]; rfl
      have hn : (bs i).num = (bs j).num := by simpa [hasNumOf] using ht
      have t1 : ((bs i).num == (bs j).num) = true := by simpa using hn
      have t2 : ((bs i).num = (bs j).num) = True := by simpa using hn
      clear ht hn
      generalize (bs i).num = ni at *
      generalize (bs j).num = nj at *
      clear hb hb'
      go_upto_region 7 with fail
      refine wp_region_later (by kernel_rfl) (by kernel_rfl) ?_
      repeat (first | go_big_quiet_step (fail))
      refine wpQuiet_nil ?_
      rintro _ ⟨e, rfl⟩
      go_wp2_with fail
      go_ret
      exact Ret.mk (by rw [HF.out]; rfl) e.h
     ·
      have HN : Hid (hasNumOf bs i j = false) := by unfold Hid; simpa using ht
      have hn : ¬ (bs i).num = (bs j).num := by simpa [hasNumOf] using ht
      have t1 : ((bs i).num == (bs j).num) = false := by simpa using hn
      have t2 : ((bs i).num = (bs j).num) = False := by simpa using hn
      clear ht hn
      generalize hni : (bs i).num = ni at *
      generalize hnj : (bs j).num = nj at *
      clear hni hnj hb hb'
      go_upto_region 7 with fail
      refine wp_region_later (by kernel_rfl) (by kernel_rfl) ?_
      repeat (first | go_big_quiet_step (fail))
      refine wpQuiet_nil ?_
      rintro _ ⟨e, rfl⟩
      go_wp2_with fail
      go_roundw
      case rel => exact ⟨j + 1, by go_num, (show Hid _ from ⟨HJT.out, fun m hm => by
       by_cases hmj : m = j
       · subst hmj; exact HN.out
       · exact hj.out.2 m (by omega)⟩), e, rfl⟩
      case measure => have := HJT.out; simp [intOf]; omega
    ·
     obtain rfl : j = i := by have := hj.out.1; omega
     have tj : decide (j < j) = false := by simp
     have HN : Hid (dupAt bs j = false) := by unfold Hid dupAt; rw [firstOf_none hj.out.2]; rfl
     go_wp2_with fail
     go_roundw
     case rel => exact ⟨j + 1, by go_num, (show Hid _ from ⟨HLT.out, fun m hm => by
      by_cases hmj : m = j
      · subst hmj; exact HN.out
      · exact hi.out.2 m (by omega)⟩), e3, rfl⟩
     case measure => have := HLT.out; simp [intOf]; omega
  ·
   obtain rfl : i = k := by have := hi.out.1; omega
   have tc : decide (i < i) = false := by simp
   have HF : Hid (dupB bs i = false) := by unfold Hid dupB; rw [firstOf_none hi.out.2]; rfl
   go_wp2_with fail
   go_ret
   exact Ret.mk (by rw [HF.out]; rfl) e.h
set_option maxRecDepth 20000 in
set_option maxHeartbeats 1600000 in
theorem r13Bytes_any (p : PV) (bs : Nat → BV) (k c : Nat) (A : Option Addr) (hk : k ≤ 100000) (hp : p.right = 0) (hbs : ∀ i, i < k → (bs i).right = 0) (w : World) (h : BsL w A k bs) : Calls Tryz.prog 18 #[bunV p A k c] w (Ret (str (bunBytes p bs k)) w) := by
 have HE := hid ((Mod.refl [] w).alloc (.cells (bunC p A k c) 29))
 have HB0 : Hid (Blk (w.alloc (.cells (bunC p A k c) 29)) w.heap.size 29 (bunC p A k c)) := hid (Blk.new w 29 (bunC p A k c))
 have HL := hid (BsL.ext h HE.out)
 have k1 : (k : Int) ≤ 100000 := by omega
 have HK := hid hk
 have HBS := hid hbs
 have KP := hid (fun W => r11Build_ok p (PV.right_ranged hp) W)
 have lP : p.bytes.length ≤ 40000 := PV.bytes_length (PV.right_ranged hp)
 have HRes : Hid (bunBytes p bs k = (159 :: p.bytes) ++ blksB bs k ++ [255]) := rfl
 clear h hk hbs hp
 generalize p.bytes = PB at *
 generalize bunBytes p bs k = RES at *
 go_enter Tryz.func18, Tryz.ntmps18
 go_upto_region 1 with fail
 generalize (w.alloc (.cells (bunC p A k c) 29)) = V at *
 have HPR : Hid (∀ e : Later V, e.x.rangeAt w.heap.size 0 p.c.toList) := HB0.out.range 0 19 (by rw [Array.toList_extract]; rfl)
 have b19 : ∀ e : Later V, e.x.cell? ⟨w.heap.size, 19, none⟩ = some (.slice A k c) := HB0.out.cellL 19 rfl
 obtain ⟨e0, he0⟩ := Later.self V
 rw [he0]
 go_wp2_with (first | (refine wpList_mid (by rfl) 26 _ rfl _ 0 rfl _ _ (HPR.out _) Tryz.underlying26 rfl (by kernel_rfl) ?_) | (go_at_call 26; refine (Ret.later (KP.out _)).mono ?_; rintro x _ ⟨rfl, e, rfl⟩) | (refine wpList_cat (by rfl) _ _ [159] PB rfl _ _ rfl rfl (by simp only [List.length_cons, List.length_nil]; omega) ?_))
 go_loopw [3, 4] (fun s3 s4 wr => ∃ i : Nat, s4 = .int .i64 (i : Int) ∧ s3 = str ((159 :: PB) ++ blksB bs i) ∧ Hid (i ≤ k) ∧ ∃ e : Later V, wr = e.x) (fun _ s4 _ => k - (intOf s4).toNat)
 case atStart => exact ⟨0, rfl, by simp only [blksB, List.append_nil]; exact str_app [159] PB, (show Hid _ from Nat.zero_le _), e, rfl⟩
 case round =>
  clear he0 e0 e
  obtain ⟨i, rfl, rfl, hi, e, rfl⟩ := hrel
  have i0 : (0 : Int) ≤ (i : Int) := by omega
  have lX : ((159 :: PB) ++ blksB bs i).length ≤ 200000000000 := by
   have := blksB_length (bs := bs) (k := i) (fun j hj => HBS.out j (by have := hi.out; omega))
   have := hi.out
   have := HK.out
   rw [List.length_append, List.length_cons]
   omega
  by_cases hlt : i < k
  ·
   obtain ⟨b, o, rfl, hb, q0, q1, q2, q3, q4⟩ := HL.out.cells hlt
   have tc : decide (i < k) = true := by simp [hlt]
   have i1 : (i : Int) < (k : Int) := by omega
   have HLT := hid hlt
   have KB := hid (fun W => r12Build_any (HBS.out i hlt) W)
   have lB := BV.bytes_length (HBS.out i hlt)
   have HC : Hid ((159 :: PB) ++ blksB bs (i + 1) = ((159 :: PB) ++ blksB bs i) ++ (bs i).bytes) := by unfold Hid; rw [blksB, List.append_assoc]
   clear hlt
   generalize (bs i).bytes = BB at *
   generalize (159 :: PB) ++ blksB bs i = X at *
   go_wp2_with (first | (go_at_call 27; refine (Ret.later (KB.out _)).mono ?_; rintro x _ ⟨rfl, e, rfl⟩) | (refine wpList_cat (by rfl) _ _ _ _ rfl _ _ rfl rfl (by (try simp only [List.length_append, List.length_cons, List.length_nil]); omega) ?_))
   go_roundw
   case rel => exact ⟨i + 1, by go_num, by (rw [HC.out]) <;> exact str_app _ _, (show Hid _ from HLT.out), e, rfl⟩
   case measure => have := HLT.out; simp [intOf]; omega
  ·
   obtain rfl : i = k := by have := hi.out; omega
   have tc : decide (i < i) = false := by simp
   generalize (159 :: PB) ++ blksB bs i = X at *
   go_wp2_with (refine wpList_cat (by rfl) _ _ X [255] rfl _ _ rfl rfl (by simp only [List.length_cons, List.length_nil]; omega) ?_)
   go_ret
   exact Ret.mk (by rw [HRes.out]; rfl) (HE.out.trans e.h)
end Go.Proofs.YtfgipgpbjfhflaaGreat


namespace Go.Proofs.YtfgipgpbjfhflaaGreat
open Go.RowKit
set_option linter.unusedVariables false
set_option linter.unusedSimpArgs false

def partsR (p : PV) (bs : Nat → BV) (k : Nat) : Int := if p.right ≠ 0 then p.right else match firstOf (badAt bs) k with | some i => (bs i).right | none => 0
theorem cBuildB_any {b : BV} (h : b.right = 0) (w : World) : Calls Tryz.prog 52 #[b.v] w (Ret (.tuple #[str b.bytes, .int .i64 0]) w) := by
 have hz := BV.right_zero h
 obtain ⟨ty, num, e⟩ := bv_nat h
 obtain ⟨crc, e2⟩ : ∃ c : Nat, b.crc = (c : Int) := ⟨b.crc.toNat, by omega⟩
 obtain ⟨bty, bnum, bfl, bcrc, bdata⟩ := b
 simp only [BV.mk.injEq] at e e2
 obtain ⟨rfl, rfl, -⟩ := e
 subst e2
 simpa [BV.bytes] using Build_any ty num bfl crc bdata h w
set_option maxRecDepth 20000 in
theorem parts_p (p : PV) (bs : Nat → BV) (k c : Nat) (A : Option Addr) (hnl : Hid (p.d.name.length < 4611686018427387904 ∧ p.s.name.length < 4611686018427387904 ∧ p.r.name.length < 4611686018427387904)) (hf : p.fl < 18446744073709551616) (hb : p.right ≠ 0) (w : World) (h : BsL w A k bs) : Calls Tryz.prog 28 #[bunV p A k c] w (Ret (.int .i64 p.right) w) := by
 have KP := hid (fun W => cPriRight_any p hnl hf W)
 have HE := hid ((Mod.refl [] w).alloc (.cells (bunC p A k c) 29))
 have HB0 : Hid (Blk (w.alloc (.cells (bunC p A k c) 29)) w.heap.size 29 (bunC p A k c)) := hid (Blk.new w 29 (bunC p A k c))
 generalize p.right = r at *
 have ra : ((r) == (0)) = false := by rw [beq_eq_false_iff_ne]; exact hb
 have rb : ((r) = (0)) = False := eq_false (by exact hb)
 have rc : ((r) != (0)) = true := by rw [bne_iff_ne]; exact hb
 clear hb hf h
 go_enter Tryz.func28, Tryz.ntmps28
 go_upto_region 1 with fail
 generalize (w.alloc (.cells (bunC p A k c) 29)) = V at *
 have HPR : Hid (∀ e : Later V, e.x.rangeAt w.heap.size 0 p.c.toList) := HB0.out.range 0 19 (by rw [Array.toList_extract]; rfl)
 obtain ⟨e, he⟩ := Later.self V
 rw [he]
 clear he
 go_wp2_with (first | (refine wpList_mid (by rfl) 26 _ rfl _ 0 rfl _ _ (HPR.out _) Tryz.underlying26 rfl (by kernel_rfl) ?_) | (go_at_call 44; refine (Ret.later (KP.out _)).mono ?_; rintro x _ ⟨rfl, e, rfl⟩))
 go_ret
 exact Ret.mk rfl (HE.out.trans e.h)
set_option maxRecDepth 20000 in
set_option maxHeartbeats 1600000 in
theorem parts_ok (p : PV) (bs : Nat → BV) (k c : Nat) (A : Option Addr) (hnl : Hid (p.d.name.length < 4611686018427387904 ∧ p.s.name.length < 4611686018427387904 ∧ p.r.name.length < 4611686018427387904)) (hf : p.fl < 18446744073709551616) (hk : k < 4611686018427387904) (hb : p.right = 0) (w : World) (h : BsL w A k bs) : Calls Tryz.prog 28 #[bunV p A k c] w (Ret (.int .i64 (match firstOf (badAt bs) k with | some i => (bs i).right | none => 0)) w) := by
 generalize hRES : (match firstOf (badAt bs) k with | some i => (bs i).right | none => 0) = RES
 have HRES := hid hRES
 clear hRES
 have KP := hid (fun W => cPriRight_any p hnl hf W)
 rw [hb] at KP
 have HE := hid ((Mod.refl [] w).alloc (.cells (bunC p A k c) 29))
 have HB0 : Hid (Blk (w.alloc (.cells (bunC p A k c) 29)) w.heap.size 29 (bunC p A k c)) := hid (Blk.new w 29 (bunC p A k c))
 have HL := hid (BsL.ext h HE.out)
 have k1 : (k : Int) < 4611686018427387904 := by omega
 clear hb hf hk h
 go_enter Tryz.func28, Tryz.ntmps28
 go_upto_region 1 with fail
 generalize (w.alloc (.cells (bunC p A k c) 29)) = V at *
 have HPR : Hid (∀ e : Later V, e.x.rangeAt w.heap.size 0 p.c.toList) := HB0.out.range 0 19 (by rw [Array.toList_extract]; rfl)
 have b19 : ∀ e : Later V, e.x.cell? ⟨w.heap.size, 19, none⟩ = some (.slice A k c) := HB0.out.cellL 19 rfl
 obtain ⟨e, he⟩ := Later.self V
 rw [he]
 clear he
 go_upto_region 5 with (first | (refine wpList_mid (by rfl) 26 _ rfl _ 0 rfl _ _ (HPR.out _) Tryz.underlying26 rfl (by kernel_rfl) ?_) | (go_at_call 44; refine (Ret.later (KP.out _)).mono ?_; rintro x _ ⟨rfl, e, rfl⟩))
 go_loopw [16] (fun s5 wr => ∃ i : Nat, s5 = .int .i64 (i : Int) ∧ Hid (i ≤ k ∧ ∀ j, j < i → badAt bs j = false) ∧ ∃ e : Later V, wr = e.x) (fun s5 _ => k - (intOf s5).toNat)
 case atStart => exact ⟨0, rfl, (show Hid _ from ⟨Nat.zero_le _, fun j hj => by omega⟩), e, rfl⟩
 case round =>
  clear e
  obtain ⟨i, rfl, hi, e, rfl⟩ := hrel
  have i0 : (0 : Int) ≤ (i : Int) := by omega
  by_cases hlt : i < k
  ·
   obtain ⟨b, o, rfl, hb, q0, q1, q2, q3, q4⟩ := HL.out.cells hlt
   have tc : decide (i < k) = true := by simp [hlt]
   have i1 : (i : Int) < (k : Int) := by omega
   have HLT := hid hlt
   have KX := hid (fun W => cbRight_any (bs i) W)
   clear hlt
   by_cases ht : badAt bs i = true
   ·
    have HR : Hid (RES = (bs i).right) := by unfold Hid; rw [← HRES.out, firstOf_some HLT.out ht hi.out.2]
    have hx : (bs i).right ≠ 0 := by simpa [badAt] using ht
    clear ht
    generalize (bs i).right = r at *
    have ra : ((r) == (0)) = false := by rw [beq_eq_false_iff_ne]; exact hx
    have rb : ((r) = (0)) = False := eq_false (by exact hx)
    have rc : ((r) != (0)) = true := by rw [bne_iff_ne]; exact hx
    clear hx
    go_wp2_with (go_at_call 45; refine (Ret.laterW ((Later.h e).alloc _) (KX.out _)).mono ?_; rintro x _ ⟨rfl, e1, rfl⟩)
    go_ret
    exact Ret.mk (by rw [HR.out]; rfl) (HE.out.trans e1.h)
   ·
    have HN : Hid (badAt bs i = false) := by unfold Hid; simpa using ht
    rw [bad_no HN.out] at KX
    clear ht
    go_wp2_with (go_at_call 45; refine (Ret.laterW ((Later.h e).alloc _) (KX.out _)).mono ?_; rintro x _ ⟨rfl, e1, rfl⟩)
    go_roundw
    case rel => exact ⟨i + 1, by go_num, (show Hid _ from ⟨HLT.out, fun j hj => by
     by_cases hji : j = i
     · subst hji; exact HN.out
     · exact hi.out.2 j (by omega)⟩), e1, rfl⟩
    case measure => have := HLT.out; simp [intOf]; omega
  ·
   obtain rfl : i = k := by have := hi.out.1; omega
   have tc : decide (i < i) = false := by simp
   have HR1 : Hid (RES = 0) := by unfold Hid; rw [← HRES.out, firstOf_none hi.out.2]
   go_wp2_with fail
   go_ret
   exact Ret.mk (by rw [HR1.out]; rfl) (HE.out.trans e.h)
theorem bparts_any (p : PV) (bs : Nat → BV) (k c : Nat) (A : Option Addr) (hnl : Hid (p.d.name.length < 4611686018427387904 ∧ p.s.name.length < 4611686018427387904 ∧ p.r.name.length < 4611686018427387904)) (hf : p.fl < 18446744073709551616) (hk : k < 4611686018427387904) (w : World) (h : BsL w A k bs) : Calls Tryz.prog 28 #[bunV p A k c] w (Ret (.int .i64 (partsR p bs k)) w) := by
 unfold partsR
 by_cases hb : p.right = 0
 · rw [if_neg (by simpa using hb)]; exact parts_ok p bs k c A hnl hf hk hb w h
 · rw [if_pos hb]; exact parts_p p bs k c A hnl hf hb w h
set_option maxRecDepth 20000 in
theorem lasts_0 (bs : Nat → BV) (c : Nat) (A : Option Addr) (w : World) : Calls Tryz.prog 47 #[.slice A 0 c] w (Ret (.bool false) w) := by
 go_enter Tryz.func47, Tryz.ntmps47
 go_wp2_with fail
 go_ret
 exact Ret.mk rfl (Mod.refl _ _)
set_option maxRecDepth 20000 in
theorem lasts_S (bs : Nat → BV) (m c : Nat) (A : Option Addr) (hm : m < 4611686018427387904) (w : World) (h : BsL w A (m + 1) bs) : Calls Tryz.prog 47 #[.slice A (m + 1 : Nat) c] w (Ret (.bool (decide ((bs m).ty = 1))) w) := by
 obtain ⟨b, o, rfl, hb, q0, q1, q2, q3, q4⟩ := h.cells (Nat.lt_succ_self m)
 have m0 : (0 : Int) ≤ (m : Int) := by omega
 have m1 : (m : Int) < 4611686018427387904 := by omega
 have u0 : w.cell? ⟨b, o + m * 5, none⟩ = some (.int .i64 (bs m).ty) := q0 ⟨w, Mod.refl _ _⟩
 have tp : decide ((0 : Int) < ((m + 1 : Nat) : Int)) = true := decide_eq_true (by omega)
 have tq : ((0 : Int) < ((m + 1 : Nat) : Int)) = True := eq_true (by omega)
 have tr : decide ((0 : Int) < (m : Int) + 1) = true := decide_eq_true (by omega)
 have ts : ((0 : Int) < (m : Int) + 1) = True := eq_true (by omega)
 clear q0 q1 q2 q3 q4 h hb hm
 generalize (bs m).ty = ty at *
 by_cases ht : ty = 1
 ·
  have HT := hid ht
  have ta : ((ty) == (1)) = true := by rw [beq_iff_eq]; exact ht
  have tb : ((ty) = (1)) = True := eq_true (by exact ht)
  have tc : ((ty) != (1)) = false := by rw [bne_eq_false_iff_eq]; exact ht
  clear ht
  go_enter Tryz.func47, Tryz.ntmps47
  go_wp2_with fail
  go_ret
  exact Ret.mk (by simp [HT.out]) (Mod.refl _ _)
 ·
  have HT := hid ht
  have ta : ((ty) == (1)) = false := by rw [beq_eq_false_iff_ne]; exact ht
  have tb : ((ty) = (1)) = False := eq_false (by exact ht)
  have tc : ((ty) != (1)) = true := by rw [bne_iff_ne]; exact ht
  clear ht
  go_enter Tryz.func47, Tryz.ntmps47
  go_wp2_with fail
  go_ret
  exact Ret.mk (by simp [HT.out]) (Mod.refl _ _)
set_option maxRecDepth 20000 in
set_option maxHeartbeats 800000 in
theorem fits_S (p : PV) (bs : Nat → BV) (m c : Nat) (A : Option Addr) (hm : m < 4611686018427387904) (hf : p.fl < 18446744073709551616) (po : p.o ≤ 1099511627776) (hd : (bs m).data.length ≤ 100000) (w : World) (h : BsL w A (m + 1) bs) : Calls Tryz.prog 49 #[bunV p A (m + 1) c] w (Ret (.bool (!(has p.fl 1 && decide (p.n < p.o + (bs m).data.length)))) w) := by
 have HE := hid ((Mod.refl [] w).alloc (.cells (bunC p A (m + 1) c) 29))
 have HB0 := hid (Blk.new w 29 (bunC p A (m + 1) c))
 have HL := hid (BsL.ext h HE.out)
 obtain ⟨b, o, rfl, hb, q0, q1, q2, q3, q4⟩ := HL.out.cells (Nat.lt_succ_self m)
 have m0 : (0 : Int) ≤ (m : Int) := by omega
 have m1 : (m : Int) < 4611686018427387904 := by omega
 have ld : ((bs m).data.length : Int) ≤ 100000 := by omega
 have po2 : (p.o : Int) ≤ 1099511627776 := by omega
 have HA := hid (u64_and_powP p.fl 0 hf (by omega))
 clear q0 q1 q2 q3 h hb hm HL hd po
 have HRES : Hid (has p.fl 1 = decide (p.fl % 2 = 1)) := by unfold Hid has; simp
 go_enter Tryz.func49, Tryz.ntmps49
 go_upto_region 1 with fail
 generalize w.alloc (.cells (bunC p (some ⟨b, o, none⟩) (m + 1) c) 29) = V at *
 have b19 : V.cell? ⟨w.heap.size, 19, none⟩ = some (.slice (some ⟨b, o, none⟩) (m + 1) c) := HB0.out.cell 19
 have b0 : V.cell? ⟨w.heap.size, 0, none⟩ = some (.int .u64 (p.fl : Int)) := HB0.out.cell 0
 have b17 : V.cell? ⟨w.heap.size, 17, none⟩ = some (.int .u64 (p.o : Int)) := HB0.out.cell 17
 have b18 : V.cell? ⟨w.heap.size, 18, none⟩ = some (.int .u64 (p.n : Int)) := HB0.out.cell 18
 have u4 : V.cell? ⟨b, o + m * 5 + 4, none⟩ = some (str (bs m).data) := q4 ⟨V, Mod.refl _ _⟩
 clear q4
 generalize (bs m).data = dat at *
 generalize p.o = po at *
 generalize p.n = pn at *
 go_upto_region 2 with fail
 by_cases hh : p.fl % 2 = 1
 ·
  have ha : bits .and .u64 (p.fl : Int) 1 = 1 := by have := HA.out; simpa [hh] using this
  have HR : Hid (has p.fl 1 = true) := by unfold Hid; rw [HRES.out]; simpa using hh
  clear hh HA HRES
  by_cases hv : pn < po + dat.length
  ·
   have HV := hid hv
   have va : decide ((po : Int) + (dat.length : Int) ≤ (pn : Int)) = false := decide_eq_false (by omega)
   have vb : ((po : Int) + (dat.length : Int) ≤ (pn : Int)) = False := eq_false (by omega)
   have vc : decide (po + dat.length ≤ pn) = false := decide_eq_false (by omega)
   clear hv
   go_wp2_with fail
   go_ret
   exact Ret.mk (by rw [HR.out]; simp [HV.out]) HE.out
  ·
   have HV := hid hv
   have va : decide ((po : Int) + (dat.length : Int) ≤ (pn : Int)) = true := decide_eq_true (by omega)
   have vb : ((po : Int) + (dat.length : Int) ≤ (pn : Int)) = True := eq_true (by omega)
   have vc : decide (po + dat.length ≤ pn) = true := decide_eq_true (by omega)
   clear hv
   go_wp2_with fail
   go_ret
   exact Ret.mk (by rw [HR.out]; simp [HV.out]) HE.out
 ·
  have ha : bits .and .u64 (p.fl : Int) 1 = 0 := by have := HA.out; simpa [hh] using this
  have HR : Hid (has p.fl 1 = false) := by unfold Hid; rw [HRES.out]; simpa using hh
  clear hh HA HRES
  go_wp2_with fail
  go_ret
  exact Ret.mk (by rw [HR.out]; simp) HE.out
set_option maxRecDepth 20000 in
set_option maxHeartbeats 1600000 in
theorem bbuild_any (p : PV) (bs : Nat → BV) (k c : Nat) (A : Option Addr) (hnl : Hid (p.d.name.length < 4611686018427387904 ∧ p.s.name.length < 4611686018427387904 ∧ p.r.name.length < 4611686018427387904)) (hf : p.fl < 18446744073709551616) (hk : k ≤ 100000) (hp : p.right = 0) (hbs : ∀ i, i < k → (bs i).right = 0) (w : World) (h : BsL w A k bs) : Calls Tryz.prog 30 #[bunV p A k c] w (Ret (str (bunBytes p bs k)) w) := by
 have HE := hid ((Mod.refl [] w).alloc (.cells (bunC p A k c) 29))
 have HB0 : Hid (Blk (w.alloc (.cells (bunC p A k c) 29)) w.heap.size 29 (bunC p A k c)) := hid (Blk.new w 29 (bunC p A k c))
 have HL := hid (BsL.ext h HE.out)
 have k1 : (k : Int) ≤ 100000 := by omega
 have HK := hid hk
 have HBS := hid hbs
 have KP := hid (fun W => cPriBuild_ok p hnl hf hp W)
 have KO4 : Hid (∀ W, Calls Tryz.prog 51 #[.int .i64 4] W (Ret (str [159]) W)) := fun W => by have := open_yes 4 (by rfl) W; rw [show openL ((4 : Nat) : Int) = [159] from by decide] at this; exact this
 have KO7 : Hid (∀ W, Calls Tryz.prog 51 #[.int .i64 7] W (Ret (str [255]) W)) := fun W => by have := open_yes 7 (by rfl) W; rw [show openL ((7 : Nat) : Int) = [255] from by decide] at this; exact this
 have lP : p.bytes.length ≤ 40000 := PV.bytes_length (PV.right_ranged hp)
 have HRes : Hid (bunBytes p bs k = (159 :: p.bytes) ++ blksB bs k ++ [255]) := rfl
 clear h hk hbs hp hf
 generalize p.bytes = PB at *
 generalize bunBytes p bs k = RES at *
 go_enter Tryz.func30, Tryz.ntmps30
 go_upto_region 1 with fail
 generalize (w.alloc (.cells (bunC p A k c) 29)) = V at *
 have HPR : Hid (∀ e : Later V, e.x.rangeAt w.heap.size 0 p.c.toList) := HB0.out.range 0 19 (by rw [Array.toList_extract]; rfl)
 have b19 : ∀ e : Later V, e.x.cell? ⟨w.heap.size, 19, none⟩ = some (.slice A k c) := HB0.out.cellL 19 rfl
 obtain ⟨e, he⟩ := Later.self V
 rw [he]
 clear he
 go_upto_region 4 with (first | (refine wpList_mid (by rfl) 26 _ rfl _ 0 rfl _ _ (HPR.out _) Tryz.underlying26 rfl (by kernel_rfl) ?_) | (go_at_call 50; refine (Ret.later (KP.out _)).mono ?_; rintro x _ ⟨rfl, e, rfl⟩) | (go_at_call 51; refine (Ret.later (KO4.out _)).mono ?_; rintro x _ ⟨rfl, e, rfl⟩))
 go_loopw [3, 21] (fun s3 s4 wr => ∃ i : Nat, s4 = .int .i64 (i : Int) ∧ s3 = str ((159 :: PB) ++ blksB bs i) ∧ Hid (i ≤ k) ∧ ∃ e : Later V, wr = e.x) (fun _ s4 _ => k - (intOf s4).toNat)
 case atStart => exact ⟨0, rfl, by simp only [blksB, List.append_nil]; exact str_app [159] PB, (show Hid _ from Nat.zero_le _), e, rfl⟩
 case round =>
  clear e
  obtain ⟨i, rfl, rfl, hi, e, rfl⟩ := hrel
  have i0 : (0 : Int) ≤ (i : Int) := by omega
  have lX : ((159 :: PB) ++ blksB bs i).length ≤ 200000000000 := by
   have := blksB_length (bs := bs) (k := i) (fun j hj => HBS.out j (by have := hi.out; omega))
   have := hi.out
   have := HK.out
   rw [List.length_append, List.length_cons]
   omega
  by_cases hlt : i < k
  ·
   obtain ⟨b, o, rfl, hb, q0, q1, q2, q3, q4⟩ := HL.out.cells hlt
   have tc : decide (i < k) = true := by simp [hlt]
   have i1 : (i : Int) < (k : Int) := by omega
   have HLT := hid hlt
   have KB := hid (fun W => cBuildB_any (HBS.out i hlt) W)
   have lB := BV.bytes_length (HBS.out i hlt)
   have HC : Hid ((159 :: PB) ++ blksB bs (i + 1) = ((159 :: PB) ++ blksB bs i) ++ (bs i).bytes) := by unfold Hid; rw [blksB, List.append_assoc]
   clear hlt
   generalize (bs i).bytes = BB at *
   generalize (159 :: PB) ++ blksB bs i = X at *
   go_wp2_with (first | (go_at_call 52; refine (Ret.laterW ((Later.h e).alloc _) (KB.out _)).mono ?_; rintro x _ ⟨rfl, e1, rfl⟩) | (refine wpList_cat (by rfl) _ _ _ _ rfl _ _ rfl rfl (by (try simp only [List.length_append, List.length_cons, List.length_nil]); omega) ?_))
   go_roundw
   case rel => exact ⟨i + 1, by go_num, by (rw [HC.out]) <;> exact str_app _ _, (show Hid _ from HLT.out), e1, rfl⟩
   case measure => have := HLT.out; simp [intOf]; omega
  ·
   obtain rfl : i = k := by have := hi.out; omega
   have tc : decide (i < i) = false := by simp
   generalize (159 :: PB) ++ blksB bs i = X at *
   go_wp2_with (first | (go_at_call 51; refine (Ret.later (KO7.out _)).mono ?_; rintro x _ ⟨rfl, e, rfl⟩) | (refine wpList_cat (by rfl) _ _ X [255] rfl _ _ rfl rfl (by simp only [List.length_cons, List.length_nil]; omega) ?_))
   go_ret
   exact Ret.mk (by rw [HRes.out]; rfl) (HE.out.trans e.h)
end Go.Proofs.YtfgipgpbjfhflaaGreat


namespace Go.Proofs.YtfgipgpbjfhflaaGreat
open Go.RowKit
set_option linter.unusedVariables false
set_option linter.unusedSimpArgs false

def rulesR (p : PV) (bs : Nat → BV) (k : Nat) : Int := if 16 < k then 4 else if bunRule1 bs k then 8 else if bunRule2 p bs k then 8 else if bunRule3 p bs k then 8 else 0
theorem find_age (bs : Nat → BV) (k : Nat) : ∃ x : BV, findV bs 7 k = .tuple #[x.v, .bool (decide (cntB bs 7 k ≠ 0))] := by
 have h := cntB_find (bs := bs) (typ := 7) (k := k)
 unfold findV
 cases hf : firstOf (tyB bs 7) k with
 | some i => rw [hf] at h; rw [← h]; exact ⟨bs i, rfl⟩
 | none => rw [hf] at h; rw [← h]; exact ⟨zeroB, rfl⟩
theorem rule1_once (bs : Nat → BV) (k : Nat) : bunRule1 bs k = (decide (k = 0) || !onceB bs k) := by
 unfold bunRule1 onceB
 rw [Bool.eq_iff_iff]
 cases dupB bs k <;> simp <;> omega
theorem right_wf {b : BV} (h : b.right = 0) : InI b.num ∧ InI b.ty := by
 have := BV.right_zero h
 unfold InI
 omega
set_option maxRecDepth 20000 in
theorem rules_16 (p : PV) (bs : Nat → BV) (k c : Nat) (A : Option Addr) (h16 : 16 < k) (w : World) (h : BsL w A k bs) : Calls Tryz.prog 29 #[bunV p A k c] w (Ret (.int .i64 4) w) := by
 have HE := hid ((Mod.refl [] w).alloc (.cells (bunC p A k c) 29))
 have HB0 : Hid (Blk (w.alloc (.cells (bunC p A k c) 29)) w.heap.size 29 (bunC p A k c)) := hid (Blk.new w 29 (bunC p A k c))
 have xa : decide ((16 : Int) < (k : Int)) = true := decide_eq_true (by omega)
 have xb : ((16 : Int) < (k : Int)) = True := eq_true (by omega)
 have xc : decide (16 < k) = true := decide_eq_true h16
 clear h h16
 go_enter Tryz.func29, Tryz.ntmps29
 go_upto_region 1 with fail
 generalize (w.alloc (.cells (bunC p A k c) 29)) = V at *
 have b19 : ∀ e : Later V, e.x.cell? ⟨w.heap.size, 19, none⟩ = some (.slice A k c) := HB0.out.cellL 19 rfl
 have b14 : ∀ e : Later V, e.x.cell? ⟨w.heap.size, 14, none⟩ = some (.int .u64 (p.t : Int)) := HB0.out.cellL 14 rfl
 obtain ⟨e, he⟩ := Later.self V
 rw [he]
 clear he
 go_wp2_with fail
 go_ret
 exact Ret.mk rfl (HE.out.trans e.h)
set_option maxRecDepth 20000 in
set_option maxHeartbeats 3200000 in
theorem rules_let (p : PV) (bs : Nat → BV) (k c : Nat) (A : Option Addr) (h16 : ¬ 16 < k) (x : BV) (L O G F : Bool) (KF : ∀ W, BsL W A k bs → Calls Tryz.prog 46 #[bunV p A k c, .int .i64 7] W (Ret (.tuple #[x.v, .bool G]) W)) (KL : ∀ W, BsL W A k bs → Calls Tryz.prog 47 #[.slice A k c] W (Ret (.bool L) W)) (KO : ∀ W, BsL W A k bs → Calls Tryz.prog 48 #[.slice A k c] W (Ret (.bool O) W)) (KG : L = true → ∀ W, BsL W A k bs → Calls Tryz.prog 49 #[bunV p A k c] W (Ret (.bool F) W)) (w : World) (h : BsL w A k bs) : Calls Tryz.prog 29 #[bunV p A k c] w (Ret (.int .i64 (if !L || !O || (decide (p.t = 0) && !G) || !F then 8 else 0)) w) := by
 generalize hRES : (if !L || !O || (decide (p.t = 0) && !G) || !F then (8 : Int) else 0) = RES
 have HRES := hid hRES.symm
 clear hRES
 have HE := hid ((Mod.refl [] w).alloc (.cells (bunC p A k c) 29))
 have HB0 : Hid (Blk (w.alloc (.cells (bunC p A k c) 29)) w.heap.size 29 (bunC p A k c)) := hid (Blk.new w 29 (bunC p A k c))
 have xa : decide ((16 : Int) < (k : Int)) = false := decide_eq_false (by omega)
 have xb : ((16 : Int) < (k : Int)) = False := eq_false (by omega)
 have xc : decide (16 < k) = false := decide_eq_false h16
 have HL := hid (BsL.ext h HE.out)
 have KF := hid KF
 have KL := hid KL
 have KO := hid KO
 have KG := hid KG
 clear h h16
 go_enter Tryz.func29, Tryz.ntmps29
 go_upto_region 1 with fail
 generalize (w.alloc (.cells (bunC p A k c) 29)) = V at *
 have b19 : ∀ e : Later V, e.x.cell? ⟨w.heap.size, 19, none⟩ = some (.slice A k c) := HB0.out.cellL 19 rfl
 have b14 : ∀ e : Later V, e.x.cell? ⟨w.heap.size, 14, none⟩ = some (.int .u64 (p.t : Int)) := HB0.out.cellL 14 rfl
 obtain ⟨e, he⟩ := Later.self V
 rw [he]
 clear he
 go_upto_region 4 with (first | (go_at_call 46; refine (Ret.later (KF.out _ (HL.out.ext (Later.h _)))).mono ?_; rintro x _ ⟨rfl, e, rfl⟩) | (refine wpList_row (by rfl) 29 _ rfl _ rfl (HB0.out.later _) Tryz.underlying29 rfl (by kernel_rfl) ?_))
 generalize hU : World.alloc e.x _ = U
 obtain ⟨e2, rfl⟩ : ∃ e2 : Later V, U = e2.x := ⟨⟨U, by rw [← hU]; exact (Later.h e).alloc _⟩, rfl⟩
 clear hU
 cases L with
 | false =>
  go_wp2_with (first | (go_at_call 47; refine (Ret.later (KL.out _ (HL.out.ext (Later.h _)))).mono ?_; rintro x _ ⟨rfl, e, rfl⟩))
  go_ret
  exact Ret.mk (by rw [HRES.out]; simp) (HE.out.trans (Later.h _))
 | true =>
  have KH := hid (KG.out rfl)
  clear KG
  cases O with
  | false =>
   go_wp2_with (first | (go_at_call 47; refine (Ret.later (KL.out _ (HL.out.ext (Later.h _)))).mono ?_; rintro x _ ⟨rfl, e, rfl⟩) | (go_at_call 48; refine (Ret.later (KO.out _ (HL.out.ext (Later.h _)))).mono ?_; rintro x _ ⟨rfl, e, rfl⟩))
   go_ret
   exact Ret.mk (by rw [HRES.out]; simp) (HE.out.trans (Later.h _))
  | true =>
   by_cases ht : p.t = 0
   ·
    have HT := hid ht
    have ta : (((p.t : Int)) == (0)) = true := by rw [beq_iff_eq]; omega
    have tb : (((p.t : Int)) = (0)) = True := eq_true (by omega)
    have tc : (((p.t : Int)) != (0)) = false := by rw [bne_eq_false_iff_eq]; omega
    have ua : ((p.t) == (0)) = true := by rw [beq_iff_eq]; omega
    have ub : ((p.t) = (0)) = True := eq_true (by omega)
    have uc : ((p.t) != (0)) = false := by rw [bne_eq_false_iff_eq]; omega
    clear ht
    cases G with
    | false =>
     go_wp2_with (first | (go_at_call 47; refine (Ret.later (KL.out _ (HL.out.ext (Later.h _)))).mono ?_; rintro x _ ⟨rfl, e, rfl⟩) | (go_at_call 48; refine (Ret.later (KO.out _ (HL.out.ext (Later.h _)))).mono ?_; rintro x _ ⟨rfl, e, rfl⟩))
     go_ret
     exact Ret.mk (by rw [HRES.out]; simp [HT.out]) (HE.out.trans (Later.h _))
    | true =>
     cases F with
     | false =>
      go_wp2_with (first | (go_at_call 47; refine (Ret.later (KL.out _ (HL.out.ext (Later.h _)))).mono ?_; rintro x _ ⟨rfl, e, rfl⟩) | (go_at_call 48; refine (Ret.later (KO.out _ (HL.out.ext (Later.h _)))).mono ?_; rintro x _ ⟨rfl, e, rfl⟩) | (go_at_call 49; refine (Ret.later (KH.out _ (HL.out.ext (Later.h _)))).mono ?_; rintro x _ ⟨rfl, e, rfl⟩) | (refine wpList_row (by rfl) 29 _ rfl _ rfl (HB0.out.later _) Tryz.underlying29 rfl (by kernel_rfl) ?_))
      go_ret
      exact Ret.mk (by rw [HRES.out]; simp) (HE.out.trans (Later.h _))
     | true =>
      go_wp2_with (first | (go_at_call 47; refine (Ret.later (KL.out _ (HL.out.ext (Later.h _)))).mono ?_; rintro x _ ⟨rfl, e, rfl⟩) | (go_at_call 48; refine (Ret.later (KO.out _ (HL.out.ext (Later.h _)))).mono ?_; rintro x _ ⟨rfl, e, rfl⟩) | (go_at_call 49; refine (Ret.later (KH.out _ (HL.out.ext (Later.h _)))).mono ?_; rintro x _ ⟨rfl, e, rfl⟩) | (refine wpList_row (by rfl) 29 _ rfl _ rfl (HB0.out.later _) Tryz.underlying29 rfl (by kernel_rfl) ?_))
      go_ret
      exact Ret.mk (by rw [HRES.out]; simp) (HE.out.trans (Later.h _))
   ·
    have HT := hid ht
    have ta : (((p.t : Int)) == (0)) = false := by rw [beq_eq_false_iff_ne]; omega
    have tb : (((p.t : Int)) = (0)) = False := eq_false (by omega)
    have tc : (((p.t : Int)) != (0)) = true := by rw [bne_iff_ne]; omega
    have ua : ((p.t) == (0)) = false := by rw [beq_eq_false_iff_ne]; omega
    have ub : ((p.t) = (0)) = False := eq_false (by omega)
    have uc : ((p.t) != (0)) = true := by rw [bne_iff_ne]; omega
    clear ht
    cases F with
    | false =>
     go_wp2_with (first | (go_at_call 47; refine (Ret.later (KL.out _ (HL.out.ext (Later.h _)))).mono ?_; rintro x _ ⟨rfl, e, rfl⟩) | (go_at_call 48; refine (Ret.later (KO.out _ (HL.out.ext (Later.h _)))).mono ?_; rintro x _ ⟨rfl, e, rfl⟩) | (go_at_call 49; refine (Ret.later (KH.out _ (HL.out.ext (Later.h _)))).mono ?_; rintro x _ ⟨rfl, e, rfl⟩) | (refine wpList_row (by rfl) 29 _ rfl _ rfl (HB0.out.later _) Tryz.underlying29 rfl (by kernel_rfl) ?_))
     go_ret
     exact Ret.mk (by rw [HRES.out]; simp [HT.out]) (HE.out.trans (Later.h _))
    | true =>
     go_wp2_with (first | (go_at_call 47; refine (Ret.later (KL.out _ (HL.out.ext (Later.h _)))).mono ?_; rintro x _ ⟨rfl, e, rfl⟩) | (go_at_call 48; refine (Ret.later (KO.out _ (HL.out.ext (Later.h _)))).mono ?_; rintro x _ ⟨rfl, e, rfl⟩) | (go_at_call 49; refine (Ret.later (KH.out _ (HL.out.ext (Later.h _)))).mono ?_; rintro x _ ⟨rfl, e, rfl⟩) | (refine wpList_row (by rfl) 29 _ rfl _ rfl (HB0.out.later _) Tryz.underlying29 rfl (by kernel_rfl) ?_))
     go_ret
     exact Ret.mk (by rw [HRES.out]; simp [HT.out]) (HE.out.trans (Later.h _))
theorem rules_any (p : PV) (bs : Nat → BV) (k c : Nat) (A : Option Addr) (hf : p.fl < 18446744073709551616) (hk : k < 4611686018427387904) (hp : p.right = 0) (hbs : ∀ i, i < k → (bs i).right = 0) (w : World) (h : BsL w A k bs) : Calls Tryz.prog 29 #[bunV p A k c] w (Ret (.int .i64 (rulesR p bs k)) w) := by
 have hrs := PV.ranged_spec (PV.right_ranged hp)
 unfold rulesR
 by_cases h16 : 16 < k
 · rw [if_pos h16]; exact rules_16 p bs k c A h16 w h
 ·
  rw [if_neg h16, rule1_once]
  obtain ⟨x, hx⟩ := find_age bs k
  have KF : ∀ W, BsL W A k bs → Calls Tryz.prog 46 #[bunV p A k c, .int .i64 7] W (Ret (.tuple #[x.v, .bool (decide (cntB bs 7 k ≠ 0))]) W) := fun W hW => by rw [← hx]; exact Find_any p bs k c A 7 hk W hW
  have KO : ∀ W, BsL W A k bs → Calls Tryz.prog 48 #[.slice A k c] W (Ret (.bool (onceB bs k)) W) := fun W hW => once_any bs k c A (by omega) (fun i hi => right_wf (hbs i hi)) W hW
  cases k with
  | zero =>
   have := rules_let p bs 0 c A h16 x false (onceB bs 0) _ true KF (fun W hW => lasts_0 bs c A W) KO (fun e => by cases e) w h
   simpa using this
  | succ m =>
   have hm := hbs m (by omega)
   have hz := BV.right_zero hm
   have := rules_let p bs (m + 1) c A h16 x (decide ((bs m).ty = 1)) (onceB bs (m + 1)) _ (!(has p.fl 1 && decide (p.n < p.o + (bs m).data.length))) KF (fun W hW => lasts_S bs m c A (by omega) W hW) KO (fun _ W hW => fits_S p bs m c A (by omega) hf (by omega) (by omega) W hW) w h
   refine this.mono fun r w' hr => ?_
   have e : (if !decide ((bs m).ty = 1) || !onceB bs (m + 1) || (decide (p.t = 0) && !decide (cntB bs 7 (m + 1) ≠ 0)) || !!(has p.fl 1 && decide (p.n < p.o + (bs m).data.length)) then (8 : Int) else 0) =
     if (decide (m + 1 = 0) || !onceB bs (m + 1)) = true then 8 else if bunRule2 p bs (m + 1) = true then 8 else if bunRule3 p bs (m + 1) = true then 8 else 0 := by
    unfold bunRule2 bunRule3
    simp only [Nat.add_sub_cancel]
    cases onceB bs (m + 1) <;> by_cases ht : (bs m).ty = 1 <;> by_cases h0 : p.t = 0 <;> by_cases h7 : cntB bs 7 (m + 1) = 0 <;> cases has p.fl 1 <;> simp [ht, h0, h7]
   rw [← e]
   exact hr
set_option maxRecDepth 20000 in
set_option maxHeartbeats 1600000 in
theorem made_p (p : PV) (bs : Nat → BV) (k c : Nat) (A : Option Addr) (r : Int) (hr : r ≠ 0) (KP : Hid (∀ W, BsL W A k bs → Calls Tryz.prog 28 #[bunV p A k c] W (Ret (.int .i64 r) W))) (w : World) (h : BsL w A k bs) : Calls Tryz.prog 19 #[bunV p A k c] w (Ret (.tuple #[str [], .int .i64 r]) w) := by
 have HE := hid ((Mod.refl [] w).alloc (.cells (bunC p A k c) 29))
 have HB0 : Hid (Blk (w.alloc (.cells (bunC p A k c) 29)) w.heap.size 29 (bunC p A k c)) := hid (Blk.new w 29 (bunC p A k c))
 have HL := hid (BsL.ext h HE.out)
 clear h
 have ra : ((r) == (0)) = false := by rw [beq_eq_false_iff_ne]; exact hr
 have rb : ((r) = (0)) = False := eq_false (by exact hr)
 have rc : ((r) != (0)) = true := by rw [bne_iff_ne]; exact hr
 clear hr
 go_enter Tryz.func19, Tryz.ntmps19
 go_upto_region 1 with fail
 generalize (w.alloc (.cells (bunC p A k c) 29)) = V at *
 obtain ⟨e, he⟩ := Later.self V
 rw [he]
 clear he
 go_wp2_with (first | (refine wpList_row (by rfl) 29 _ rfl _ rfl (HB0.out.later _) Tryz.underlying29 rfl (by kernel_rfl) ?_) | (go_at_call 28; refine (Ret.later (KP.out _ (HL.out.ext (Later.h _)))).mono ?_; rintro x _ ⟨rfl, e, rfl⟩))
 go_ret2
 exact Ret.mk rfl (HE.out.trans (Later.h _))
set_option maxRecDepth 20000 in
set_option maxHeartbeats 1600000 in
theorem made_r (p : PV) (bs : Nat → BV) (k c : Nat) (A : Option Addr) (r : Int) (hr : r ≠ 0) (KP : Hid (∀ W, BsL W A k bs → Calls Tryz.prog 28 #[bunV p A k c] W (Ret (.int .i64 0) W))) (KR : Hid (∀ W, BsL W A k bs → Calls Tryz.prog 29 #[bunV p A k c] W (Ret (.int .i64 r) W))) (w : World) (h : BsL w A k bs) : Calls Tryz.prog 19 #[bunV p A k c] w (Ret (.tuple #[str [], .int .i64 r]) w) := by
 have HE := hid ((Mod.refl [] w).alloc (.cells (bunC p A k c) 29))
 have HB0 : Hid (Blk (w.alloc (.cells (bunC p A k c) 29)) w.heap.size 29 (bunC p A k c)) := hid (Blk.new w 29 (bunC p A k c))
 have HL := hid (BsL.ext h HE.out)
 clear h
 have ra : ((r) == (0)) = false := by rw [beq_eq_false_iff_ne]; exact hr
 have rb : ((r) = (0)) = False := eq_false (by exact hr)
 have rc : ((r) != (0)) = true := by rw [bne_iff_ne]; exact hr
 clear hr
 go_enter Tryz.func19, Tryz.ntmps19
 go_upto_region 1 with fail
 generalize (w.alloc (.cells (bunC p A k c) 29)) = V at *
 obtain ⟨e, he⟩ := Later.self V
 rw [he]
 clear he
 go_wp2_with (first | (refine wpList_row (by rfl) 29 _ rfl _ rfl (HB0.out.later _) Tryz.underlying29 rfl (by kernel_rfl) ?_) | (go_at_call 28; refine (Ret.later (KP.out _ (HL.out.ext (Later.h _)))).mono ?_; rintro x _ ⟨rfl, e, rfl⟩) | (go_at_call 29; refine (Ret.later (KR.out _ (HL.out.ext (Later.h _)))).mono ?_; rintro x _ ⟨rfl, e, rfl⟩))
 go_ret2
 exact Ret.mk rfl (HE.out.trans (Later.h _))
set_option maxRecDepth 20000 in
set_option maxHeartbeats 1600000 in
theorem made_l (p : PV) (bs : Nat → BV) (k c : Nat) (A : Option Addr) (BB : List UInt8) (hl : 4000 < BB.length) (KP : Hid (∀ W, BsL W A k bs → Calls Tryz.prog 28 #[bunV p A k c] W (Ret (.int .i64 0) W))) (KR : Hid (∀ W, BsL W A k bs → Calls Tryz.prog 29 #[bunV p A k c] W (Ret (.int .i64 0) W))) (KB : Hid (∀ W, BsL W A k bs → Calls Tryz.prog 30 #[bunV p A k c] W (Ret (str BB) W))) (w : World) (h : BsL w A k bs) : Calls Tryz.prog 19 #[bunV p A k c] w (Ret (.tuple #[str [], .int .i64 4]) w) := by
 have HE := hid ((Mod.refl [] w).alloc (.cells (bunC p A k c) 29))
 have HB0 : Hid (Blk (w.alloc (.cells (bunC p A k c) 29)) w.heap.size 29 (bunC p A k c)) := hid (Blk.new w 29 (bunC p A k c))
 have HL := hid (BsL.ext h HE.out)
 clear h
 have la : decide ((4000 : Int) < (BB.length : Int)) = true := decide_eq_true (by omega)
 have lb : ((4000 : Int) < (BB.length : Int)) = True := eq_true (by omega)
 have lc : decide (4000 < BB.length) = true := decide_eq_true hl
 clear hl
 go_enter Tryz.func19, Tryz.ntmps19
 go_upto_region 1 with fail
 generalize (w.alloc (.cells (bunC p A k c) 29)) = V at *
 obtain ⟨e, he⟩ := Later.self V
 rw [he]
 clear he
 go_wp2_with (first | (refine wpList_row (by rfl) 29 _ rfl _ rfl (HB0.out.later _) Tryz.underlying29 rfl (by kernel_rfl) ?_) | (go_at_call 28; refine (Ret.later (KP.out _ (HL.out.ext (Later.h _)))).mono ?_; rintro x _ ⟨rfl, e, rfl⟩) | (go_at_call 29; refine (Ret.later (KR.out _ (HL.out.ext (Later.h _)))).mono ?_; rintro x _ ⟨rfl, e, rfl⟩) | (go_at_call 30; refine (Ret.later (KB.out _ (HL.out.ext (Later.h _)))).mono ?_; rintro x _ ⟨rfl, e, rfl⟩))
 go_ret2
 exact Ret.mk rfl (HE.out.trans (Later.h _))
set_option maxRecDepth 20000 in
set_option maxHeartbeats 1600000 in
theorem made_0 (p : PV) (bs : Nat → BV) (k c : Nat) (A : Option Addr) (BB : List UInt8) (hl : ¬ 4000 < BB.length) (KP : Hid (∀ W, BsL W A k bs → Calls Tryz.prog 28 #[bunV p A k c] W (Ret (.int .i64 0) W))) (KR : Hid (∀ W, BsL W A k bs → Calls Tryz.prog 29 #[bunV p A k c] W (Ret (.int .i64 0) W))) (KB : Hid (∀ W, BsL W A k bs → Calls Tryz.prog 30 #[bunV p A k c] W (Ret (str BB) W))) (w : World) (h : BsL w A k bs) : Calls Tryz.prog 19 #[bunV p A k c] w (Ret (.tuple #[str BB, .int .i64 0]) w) := by
 have HE := hid ((Mod.refl [] w).alloc (.cells (bunC p A k c) 29))
 have HB0 : Hid (Blk (w.alloc (.cells (bunC p A k c) 29)) w.heap.size 29 (bunC p A k c)) := hid (Blk.new w 29 (bunC p A k c))
 have HL := hid (BsL.ext h HE.out)
 clear h
 have la : decide ((4000 : Int) < (BB.length : Int)) = false := decide_eq_false (by omega)
 have lb : ((4000 : Int) < (BB.length : Int)) = False := eq_false (by omega)
 have lc : decide (4000 < BB.length) = false := decide_eq_false hl
 clear hl
 go_enter Tryz.func19, Tryz.ntmps19
 go_upto_region 1 with fail
 generalize (w.alloc (.cells (bunC p A k c) 29)) = V at *
 obtain ⟨e, he⟩ := Later.self V
 rw [he]
 clear he
 go_wp2_with (first | (refine wpList_row (by rfl) 29 _ rfl _ rfl (HB0.out.later _) Tryz.underlying29 rfl (by kernel_rfl) ?_) | (go_at_call 28; refine (Ret.later (KP.out _ (HL.out.ext (Later.h _)))).mono ?_; rintro x _ ⟨rfl, e, rfl⟩) | (go_at_call 29; refine (Ret.later (KR.out _ (HL.out.ext (Later.h _)))).mono ?_; rintro x _ ⟨rfl, e, rfl⟩) | (go_at_call 30; refine (Ret.later (KB.out _ (HL.out.ext (Later.h _)))).mono ?_; rintro x _ ⟨rfl, e, rfl⟩))
 go_ret2
 exact Ret.mk rfl (HE.out.trans (Later.h _))
/-- What made hands back. -/
def madeV (p : PV) (bs : Nat → BV) (k : Nat) : Value := .tuple #[str (if bunRight p bs k = 0 then bunBytes p bs k else []), .int .i64 (bunRight p bs k)]
theorem made_any (p : PV) (bs : Nat → BV) (k c : Nat) (A : Option Addr) (hnl : Hid (p.d.name.length < 4611686018427387904 ∧ p.s.name.length < 4611686018427387904 ∧ p.r.name.length < 4611686018427387904)) (hf : p.fl < 18446744073709551616) (hk : k < 4611686018427387904) (w : World) (h : BsL w A k bs) : Calls Tryz.prog 19 #[bunV p A k c] w (Ret (madeV p bs k) w) := by
 have KP := hid (fun W (hW : BsL W A k bs) => bparts_any p bs k c A hnl hf hk W hW)
 unfold madeV
 by_cases hp : p.right = 0
 ·
  cases hfo : firstOf (badAt bs) k with
  | some i =>
   have hb : (bs i).right ≠ 0 := by have := (firstOf_spec hfo).2.1; simpa [badAt] using this
   have e1 : partsR p bs k = (bs i).right := by unfold partsR; rw [if_neg (by simpa using hp), hfo]
   have e2 : bunRight p bs k = (bs i).right := by unfold bunRight; rw [if_neg (by simpa using hp), hfo]
   rw [e1] at KP
   rw [e2, if_neg hb]
   exact made_p p bs k c A _ hb KP w h
  | none =>
   have hbs : ∀ i, i < k → (bs i).right = 0 := fun i hi => bad_no (firstOf_no hfo i hi)
   have e1 : partsR p bs k = 0 := by unfold partsR; rw [if_neg (by simpa using hp), hfo]
   have e2 : bunRight p bs k = if rulesR p bs k ≠ 0 then rulesR p bs k else if 4000 < (bunBytes p bs k).length then 4 else 0 := by
    unfold bunRight rulesR
    rw [if_neg (show ¬ p.right ≠ 0 by simpa using hp), hfo]
    by_cases h16 : 16 < k
    · simp [h16]
    · cases bunRule1 bs k <;> cases bunRule2 p bs k <;> cases bunRule3 p bs k <;> simp [h16]
   rw [e1] at KP
   have KR := hid (fun W (hW : BsL W A k bs) => rules_any p bs k c A hf hk hp hbs W hW)
   by_cases hr : rulesR p bs k = 0
   ·
    rw [hr] at KR
    have h16 : k ≤ 16 := by
     unfold rulesR at hr
     by_cases h16 : 16 < k
     · rw [if_pos h16] at hr; exact absurd hr (by decide)
     · omega
    have KB := hid (fun W (hW : BsL W A k bs) => bbuild_any p bs k c A hnl hf (by omega) hp hbs W hW)
    have e3 : bunRight p bs k = if 4000 < (bunBytes p bs k).length then 4 else 0 := by rw [e2, if_neg (show ¬ rulesR p bs k ≠ 0 by simpa using hr)]
    by_cases hl : 4000 < (bunBytes p bs k).length
    ·
     rw [if_pos hl] at e3
     rw [e3, if_neg (show ¬ (4 : Int) = 0 by decide)]; exact made_l p bs k c A _ hl KP KR KB w h
    ·
     rw [if_neg hl] at e3
     rw [e3, if_pos rfl]; exact made_0 p bs k c A _ hl KP KR KB w h
   ·
    rw [e2, if_pos hr, if_neg hr]
    exact made_r p bs k c A _ hr KP KR w h
 ·
  have e1 : partsR p bs k = p.right := by unfold partsR; rw [if_pos hp]
  have e2 : bunRight p bs k = p.right := by unfold bunRight; rw [if_pos hp]
  rw [e1] at KP
  rw [e2, if_neg hp]
  exact made_p p bs k c A _ hp KP w h
set_option maxRecDepth 20000 in
theorem cBunRight_any (p : PV) (bs : Nat → BV) (k c : Nat) (A : Option Addr) (hnl : Hid (p.d.name.length < 4611686018427387904 ∧ p.s.name.length < 4611686018427387904 ∧ p.r.name.length < 4611686018427387904)) (hf : p.fl < 18446744073709551616) (hk : k < 4611686018427387904) (w : World) (h : BsL w A k bs) : Calls Tryz.prog 22 #[bunV p A k c] w (Ret (.int .i64 (bunRight p bs k)) w) := by
 have KM := hid (fun W (hW : BsL W A k bs) => made_any p bs k c A hnl hf hk W hW)
 unfold madeV at KM
 generalize (if bunRight p bs k = 0 then bunBytes p bs k else []) = BB at *
 generalize bunRight p bs k = r at *
 have HE := hid ((Mod.refl [] w).alloc (.cells (bunC p A k c) 29))
 have HB0 : Hid (Blk (w.alloc (.cells (bunC p A k c) 29)) w.heap.size 29 (bunC p A k c)) := hid (Blk.new w 29 (bunC p A k c))
 have HL := hid (BsL.ext h HE.out)
 clear h
 go_enter Tryz.func22, Tryz.ntmps22
 go_upto_region 1 with fail
 generalize (w.alloc (.cells (bunC p A k c) 29)) = V at *
 obtain ⟨e, he⟩ := Later.self V
 rw [he]
 clear he
 go_wp2_with (first | (refine wpList_row (by rfl) 29 _ rfl _ rfl (HB0.out.later _) Tryz.underlying29 rfl (by kernel_rfl) ?_) | (go_at_call 19; refine (Ret.later (KM.out _ (HL.out.ext (Later.h _)))).mono ?_; rintro x _ ⟨rfl, e, rfl⟩))
 go_ret
 exact Ret.mk rfl (HE.out.trans (Later.h _))
set_option maxRecDepth 20000 in
theorem cBunBuild_any (p : PV) (bs : Nat → BV) (k c : Nat) (A : Option Addr) (hnl : Hid (p.d.name.length < 4611686018427387904 ∧ p.s.name.length < 4611686018427387904 ∧ p.r.name.length < 4611686018427387904)) (hf : p.fl < 18446744073709551616) (hk : k < 4611686018427387904) (w : World) (h : BsL w A k bs) : Calls Tryz.prog 7 #[bunV p A k c] w (Ret (madeV p bs k) w) := by
 have KM := hid (fun W (hW : BsL W A k bs) => made_any p bs k c A hnl hf hk W hW)
 unfold madeV at KM
 unfold madeV
 generalize (if bunRight p bs k = 0 then bunBytes p bs k else []) = BB at *
 generalize bunRight p bs k = r at *
 have HE := hid ((Mod.refl [] w).alloc (.cells (bunC p A k c) 29))
 have HB0 : Hid (Blk (w.alloc (.cells (bunC p A k c) 29)) w.heap.size 29 (bunC p A k c)) := hid (Blk.new w 29 (bunC p A k c))
 have HL := hid (BsL.ext h HE.out)
 clear h
 go_enter Tryz.func7, Tryz.ntmps7
 go_upto_region 1 with fail
 generalize (w.alloc (.cells (bunC p A k c) 29)) = V at *
 obtain ⟨e, he⟩ := Later.self V
 rw [he]
 clear he
 go_wp2_with (first | (refine wpList_row (by rfl) 29 _ rfl _ rfl (HB0.out.later _) Tryz.underlying29 rfl (by kernel_rfl) ?_) | (go_at_call 19; refine (Ret.later (KM.out _ (HL.out.ext (Later.h _)))).mono ?_; rintro x _ ⟨rfl, e, rfl⟩))
 go_ret2
 exact Ret.mk rfl (HE.out.trans (Later.h _))
end Go.Proofs.YtfgipgpbjfhflaaGreat


namespace Go.Proofs.YtfgipgpbjfhflaaGreat
open Go.RowKit
set_option linter.unusedVariables false
set_option linter.unusedSimpArgs false

def someP : PV := ⟨0, 0, ⟨2, [], 2, 0⟩, ⟨2, [], 1, 0⟩, ⟨1, [110, 111, 110, 101], 0, 0⟩, 5, 0, 100, 0, 0⟩
def someB : Nat → BV := fun _ => ⟨1, 1, 0, 0, [104, 105]⟩
/-- A bundle's value whose one block lies in a new memory block. -/
def SomeR (w : World) (e : Ending) (w' : World) : Prop := ∃ g, e = .returned (bunV someP (some ⟨g, 0, none⟩) 1 1) ∧ Ext w w' ∧ BsL w' (some ⟨g, 0, none⟩) 1 someB
/-- .. and what is known of that block. -/
def SomeN (w : World) (e : Ending) (w' : World) : Prop := ∃ g, e = .returned (bunV someP (some ⟨g, 0, none⟩) 1 1) ∧ Ext w w' ∧ BsL w' (some ⟨g, 0, none⟩) 1 someB ∧ w.heap.size ≤ g ∧ Blk w' g 42 (BV.c (someB 0))
set_option maxRecDepth 20000 in
theorem some_new (w : World) : Calls Tryz.prog 10 #[] w (SomeN w) := by
 have HE := hid ((Mod.refl [] w).alloc (.cells #[.int .u64 0, .int .i64 0, .int .i64 0, .string ⟨#[]⟩, .int .u64 0, .int .u64 0, .int .i64 0, .string ⟨#[]⟩, .int .u64 0, .int .u64 0, .int .i64 0, .string ⟨#[]⟩, .int .u64 0, .int .u64 0, .int .u64 0, .int .u64 0, .int .u64 0, .int .u64 0, .int .u64 0, .slice none 0 0] 29))
 have HR := hid (Blk.new w 29 #[.int .u64 0, .int .i64 0, .int .i64 0, .string ⟨#[]⟩, .int .u64 0, .int .u64 0, .int .i64 0, .string ⟨#[]⟩, .int .u64 0, .int .u64 0, .int .i64 0, .string ⟨#[]⟩, .int .u64 0, .int .u64 0, .int .u64 0, .int .u64 0, .int .u64 0, .int .u64 0, .int .u64 0, .slice none 0 0])
 go_enter Tryz.func10, Tryz.ntmps10
 go_upto_region 1 with fail
 generalize w.alloc (.cells #[.int .u64 0, .int .i64 0, .int .i64 0, .string ⟨#[]⟩, .int .u64 0, .int .u64 0, .int .i64 0, .string ⟨#[]⟩, .int .u64 0, .int .u64 0, .int .i64 0, .string ⟨#[]⟩, .int .u64 0, .int .u64 0, .int .u64 0, .int .u64 0, .int .u64 0, .int .u64 0, .int .u64 0, .slice none 0 0] 29) = V at *
 go_upto_region 2 with (refine wpList_store_mid rfl 26 _ _ rfl V.heap.size 0 #[.int .u64 0, .int .i64 0, .int .i64 2, str [], .int .u64 2, .int .u64 0, .int .i64 2, str [], .int .u64 1, .int .u64 0, .int .i64 1, str [110, 111, 110, 101], .int .u64 0, .int .u64 0, .int .u64 5, .int .u64 0, .int .u64 100, .int .u64 0, .int .u64 0] (by rfl) (by rfl) ((Blk.new _ _ _).there (Nat.le_refl 19)) (by kernel_rfl) (by simp [Value.oneCell']) ?_)
 generalize hU : World.setCells _ _ _ _ = U
 have HX : Hid (Blk U V.heap.size 26 #[.int .u64 0, .int .i64 0, .int .i64 2, str [], .int .u64 2, .int .u64 0, .int .i64 2, str [], .int .u64 1, .int .u64 0, .int .i64 1, str [110, 111, 110, 101], .int .u64 0, .int .u64 0, .int .u64 5, .int .u64 0, .int .u64 100, .int .u64 0, .int .u64 0]) := hid (by rw [← hU]; exact setCells_all (ds := #[.int .u64 0, .int .i64 0, .int .i64 2, str [], .int .u64 2, .int .u64 0, .int .i64 2, str [], .int .u64 1, .int .u64 0, .int .i64 1, str [110, 111, 110, 101], .int .u64 0, .int .u64 0, .int .u64 5, .int .u64 0, .int .u64 100, .int .u64 0, .int .u64 0]) (Blk.new _ _ _) rfl)
 have HM : Hid (Ext V U) := hid (by rw [← hU]; exact setCells_mod _ _ ((Mod.refl [] V).alloc _) (.inr (Nat.le_refl _)))
 have HRU := hid (HR.out.ext HM.out)
 clear hU
 generalize V.heap.size = vs at *
 go_wp2_with (first | (refine wpList_row (by rfl) 26 _ rfl _ rfl HX.out Tryz.underlying26 rfl (by kernel_rfl) ?_) | (refine wpList_store_mid rfl 29 _ _ rfl w.heap.size 0 #[.int .u64 0, .int .i64 0, .int .i64 2, str [], .int .u64 2, .int .u64 0, .int .i64 2, str [], .int .u64 1, .int .u64 0, .int .i64 1, str [110, 111, 110, 101], .int .u64 0, .int .u64 0, .int .u64 5, .int .u64 0, .int .u64 100, .int .u64 0, .int .u64 0, .slice (some ⟨U.heap.size, 0, none⟩) 1 1] (by rfl) (by rfl) ((HRU.out.alloc _).there (Nat.le_refl 20)) (by kernel_rfl) (by simp [Value.oneCell']) ?_))
 generalize hW2 : World.setCells _ _ _ _ = W2
 have HXX : Hid (Blk W2 w.heap.size 29 #[.int .u64 0, .int .i64 0, .int .i64 2, str [], .int .u64 2, .int .u64 0, .int .i64 2, str [], .int .u64 1, .int .u64 0, .int .i64 1, str [110, 111, 110, 101], .int .u64 0, .int .u64 0, .int .u64 5, .int .u64 0, .int .u64 100, .int .u64 0, .int .u64 0, .slice (some ⟨U.heap.size, 0, none⟩) 1 1]) := hid (by rw [← hW2]; exact setCells_all (ds := #[.int .u64 0, .int .i64 0, .int .i64 2, str [], .int .u64 2, .int .u64 0, .int .i64 2, str [], .int .u64 1, .int .u64 0, .int .i64 1, str [110, 111, 110, 101], .int .u64 0, .int .u64 0, .int .u64 5, .int .u64 0, .int .u64 100, .int .u64 0, .int .u64 0, .slice (some ⟨U.heap.size, 0, none⟩) 1 1]) (HRU.out.alloc _) rfl)
 have HM2 : Hid (Ext w W2) := hid (by rw [← hW2]; exact setCells_mod _ _ ((HE.out.trans HM.out).alloc _) (.inr (Nat.le_refl _)))
 have HNB : Hid (Mod [w.heap.size] (U.alloc (.cells #[.int .i64 1, .int .i64 1, .int .u64 0, .int .i64 0, .string ⟨#[104, 105]⟩] 42)) W2) := hid (by rw [← hW2]; exact setCells_mod _ _ (Mod.refl _ _) (.inl (by simp)))
 have HNE : Hid (U.heap.size ≠ w.heap.size) := hid (by have := HRU.out.lt; omega)
 have HBX := hid (Blk.new U 42 #[.int .i64 1, .int .i64 1, .int .u64 0, .int .i64 0, .string ⟨#[104, 105]⟩])
 clear hW2
 refine bodyPost_ret (v := .agg #[.int .u64 0, .int .i64 0, .int .i64 2, str [], .int .u64 2, .int .u64 0, .int .i64 2, str [], .int .u64 1, .int .u64 0, .int .i64 1, str [110, 111, 110, 101], .int .u64 0, .int .u64 0, .int .u64 5, .int .u64 0, .int .u64 100, .int .u64 0, .int .u64 0, .slice (some ⟨U.heap.size, 0, none⟩) 1 1]) (results_cell Tryz.results10 _ rfl HXX.out Tryz.underlying29 rfl (by kernel_rfl)) rfl ?_
 have HB2 := HBX.out.mod HNB.out (by simpa using HNE.out)
 refine ⟨U.heap.size, rfl, HM2.out, fun _ => ⟨U.heap.size, 0, rfl, HB2.lt, fun i hi => ?_⟩, (HE.out.trans HM.out).size, HB2⟩
 obtain rfl : i = 0 := by omega
 exact ⟨HB2.cell 0, HB2.cell 1, HB2.cell 2, HB2.cell 3, HB2.cell 4⟩
theorem some_any (w : World) : Calls Tryz.prog 10 #[] w (SomeR w) := (some_new w).mono fun _ _ ⟨g, h1, h2, h3, _⟩ => ⟨g, h1, h2, h3⟩
end Go.Proofs.YtfgipgpbjfhflaaGreat


namespace Go.Proofs.YtfgipgpbjfhflaaGreat
open Go.RowKit
set_option linter.unusedVariables false
set_option linter.unusedSimpArgs false

/-- How many of the first k blocks have a number of n or more. -/
def cntGe (bs : Nat → BV) (n : Int) : Nat → Nat
 | 0 => 0
 | k + 1 => cntGe bs n k + (if n ≤ (bs k).num then 1 else 0)
theorem cntGe_le (bs : Nat → BV) (n : Int) : ∀ k, cntGe bs n k ≤ k
 | 0 => Nat.le_refl _
 | k + 1 => by have := cntGe_le bs n k; rw [cntGe]; split <;> omega
theorem cntGe_mono (bs : Nat → BV) (n : Int) : ∀ k, cntGe bs (n + 1) k ≤ cntGe bs n k
 | 0 => Nat.le_refl _
 | k + 1 => by
  have := cntGe_mono bs n k
  rw [cntGe, cntGe]
  split <;> split <;> omega
theorem cntGe_less {bs : Nat → BV} {n : Int} {i : Nat} : ∀ {k : Nat}, i < k → (bs i).num = n → cntGe bs (n + 1) k + 1 ≤ cntGe bs n k
 | k + 1, h, hn => by
  rw [cntGe, cntGe]
  by_cases e : i = k
  ·
   subst e
   have := cntGe_mono bs n i
   rw [if_neg (by omega), if_pos (by omega)]
   omega
  ·
   have := cntGe_less (k := k) (by omega) hn
   split <;> split <;> omega
def usedB (bs : Nat → BV) (k : Nat) (n : Nat) : Prop := ∃ i, firstOf (numB bs (n : Int)) k = some i
theorem free_ex (bs : Nat → BV) (k : Nat) : ∀ (m n : Nat), cntGe bs (n : Int) k ≤ m → ∃ N, n ≤ N ∧ N ≤ n + m ∧ firstOf (numB bs (N : Int)) k = none ∧ ∀ j, n ≤ j → j < N → usedB bs k j
 | m, n, h => by
  cases hf : firstOf (numB bs (n : Int)) k with
  | none => exact ⟨n, Nat.le_refl _, by omega, hf, fun j h1 h2 => by omega⟩
  | some i =>
   obtain ⟨h1, h2, _⟩ := firstOf_spec hf
   have hn : (bs i).num = (n : Int) := by simpa [numB, hasNum] using h2
   have hl := cntGe_less h1 hn
   obtain ⟨m', rfl⟩ : ∃ m', m = m' + 1 := ⟨m - 1, by omega⟩
   have h3 : cntGe bs ((n + 1 : Nat) : Int) k ≤ m' := by have : ((n + 1 : Nat) : Int) = (n : Int) + 1 := by omega
                                                         rw [this]; omega
   obtain ⟨N, a1, a2, a3, a4⟩ := free_ex bs k m' (n + 1) h3
   refine ⟨N, by omega, by omega, a3, fun j b1 b2 => ?_⟩
   by_cases e : j = n
   · subst e; exact ⟨i, hf⟩
   · exact a4 j (by omega) b2
/-- The least number that is free. -/
noncomputable def freeN (bs : Nat → BV) (k : Nat) : Nat := (free_ex bs k (cntGe bs ((2 : Nat) : Int) k) 2 (Nat.le_refl _)).choose
theorem freeN_spec (bs : Nat → BV) (k : Nat) : 2 ≤ freeN bs k ∧ freeN bs k ≤ 2 + k ∧ firstOf (numB bs (freeN bs k : Int)) k = none ∧ ∀ j, 2 ≤ j → j < freeN bs k → usedB bs k j := by
 obtain ⟨h1, h2, h3, h4⟩ := (free_ex bs k (cntGe bs ((2 : Nat) : Int) k) 2 (Nat.le_refl _)).choose_spec
 have := cntGe_le bs ((2 : Nat) : Int) k
 exact ⟨h1, Nat.le_trans h2 (by omega), h3, h4⟩
theorem freeN_eq {bs : Nat → BV} {k N : Nat} (h1 : 2 ≤ N) (h2 : firstOf (numB bs (N : Int)) k = none) (h3 : ∀ j, 2 ≤ j → j < N → usedB bs k j) : freeN bs k = N := by
 obtain ⟨g1, g2, g3, g4⟩ := freeN_spec bs k
 rcases Nat.lt_trichotomy (freeN bs k) N with hlt | he | hgt
 · obtain ⟨i, hi⟩ := h3 _ g1 hlt; rw [g3] at hi; cases hi
 · exact he
 · obtain ⟨i, hi⟩ := g4 _ h1 hgt; rw [h2] at hi; cases hi
set_option maxRecDepth 20000 in
set_option maxHeartbeats 800000 in
theorem Free_any (p : PV) (bs : Nat → BV) (k c : Nat) (A : Option Addr) (hk : k < 4611686018427387904) (w : World) (h : BsL w A k bs) : Calls Tryz.prog 11 #[bunV p A k c] w (Ret (.int .i64 (freeN bs k : Nat)) w) := by
 have HS := hid (freeN_spec bs k)
 have KA := hid (fun W n (hW : BsL W A k bs) => at_any p bs k c A n hk W hW)
 have n9 : ((freeN bs k : Nat) : Int) ≤ 4611686018427387910 := by have := HS.out.2.1; omega
 generalize freeN bs k = N at *
 have HE := hid ((Mod.refl [] w).alloc (.cells (bunC p A k c) 29))
 have HB0 : Hid (Blk (w.alloc (.cells (bunC p A k c) 29)) w.heap.size 29 (bunC p A k c)) := hid (Blk.new w 29 (bunC p A k c))
 have HL := hid (BsL.ext h HE.out)
 clear h hk
 go_enter Tryz.func11, Tryz.ntmps11
 go_upto_region 1 with fail
 generalize (w.alloc (.cells (bunC p A k c) 29)) = V at *
 obtain ⟨e, he⟩ := Later.self V
 rw [he]
 clear he
 go_upto_region 2 with fail
 go_loopw [3] (fun s3 wr => ∃ n : Nat, s3 = .int .i64 (n : Int) ∧ Hid (2 ≤ n ∧ n ≤ N) ∧ ∃ e : Later V, wr = e.x) (fun s3 _ => N - (intOf s3).toNat)
 case atStart => exact ⟨2, rfl, (show Hid _ from ⟨by omega, HS.out.1⟩), e, rfl⟩
 case round =>
  clear e
  obtain ⟨n, rfl, hn, e, rfl⟩ := hrel
  have n0 : (0 : Int) ≤ (n : Int) := by omega
  have n1 : (n : Int) ≤ (N : Int) := by have := hn.out; omega
  by_cases hlt : n < N
  ·
   obtain ⟨i, hi⟩ := HS.out.2.2.2 n hn.out.1 hlt
   have KB := hid (fun W hW => KA.out W (n : Int) hW)
   unfold firstI at KB
   rw [hi] at KB
   have HLT := hid hlt
   have i0 : (0 : Int) ≤ (i : Int) := by omega
   have i1 : decide ((i : Int) < 0) = false := by simp
   have i2 : ((i : Int) < 0) = False := eq_false (by omega)
   have i3 : decide ((0 : Int) ≤ (i : Int)) = true := decide_eq_true (by omega)
   have n2 : (n : Int) < (N : Int) := by omega
   clear hi hlt KA
   go_wp2_with (first | (refine wpList_row (by rfl) 29 _ rfl _ rfl (HB0.out.later _) Tryz.underlying29 rfl (by kernel_rfl) ?_) | (go_at_call 23; refine (Ret.later (KB.out _ (HL.out.ext (Later.h _)))).mono ?_; rintro x _ ⟨rfl, e, rfl⟩))
   go_roundw
   case rel => exact ⟨n + 1, by go_num, (show Hid _ from ⟨by have := hn.out.1; omega, HLT.out⟩), e, rfl⟩
   case measure => have := HLT.out; simp [intOf]; omega
  ·
   obtain rfl : n = N := by have := hn.out.2; omega
   have KB := hid (fun W hW => KA.out W (n : Int) hW)
   unfold firstI at KB
   rw [HS.out.2.2.1] at KB
   clear KA hlt
   go_wp2_with (first | (refine wpList_row (by rfl) 29 _ rfl _ rfl (HB0.out.later _) Tryz.underlying29 rfl (by kernel_rfl) ?_) | (go_at_call 23; refine (Ret.later (KB.out _ (HL.out.ext (Later.h _)))).mono ?_; rintro x _ ⟨rfl, e, rfl⟩))
   go_ret
   exact Ret.mk rfl (HE.out.trans e.h)
end Go.Proofs.YtfgipgpbjfhflaaGreat


namespace Go.Proofs.YtfgipgpbjfhflaaGreat
open Go.RowKit
set_option linter.unusedVariables false
set_option linter.unusedSimpArgs false

theorem someBun : bunRight someP someB 1 = 0 ∧ (bunBytes someP someB 1).length = 32 := by decide +kernel
theorem someFree : freeN someB 1 = 2 := freeN_eq (by omega) (by decide +kernel) (fun j h1 h2 => by omega)
set_option maxRecDepth 20000 in
theorem awake13_any (w : World) : Calls Tryz.prog 4 #[] w (Ret (.bool true) w) := by
 have KS := hid (fun W => some_any W)
 have KB : Hid (∀ W g, BsL W (some ⟨g, 0, none⟩) 1 someB → Calls Tryz.prog 7 #[bunV someP (some ⟨g, 0, none⟩) 1 1] W (Ret (.tuple #[str (bunBytes someP someB 1), .int .i64 0]) W)) := fun W g hL => by
  have := cBunBuild_any someP someB 1 1 (some ⟨g, 0, none⟩) (by unfold Hid; decide) (by decide) (by omega) W hL
  unfold madeV at this
  rw [someBun.1, if_pos rfl] at this
  exact this
 have KF : Hid (∀ W g, BsL W (some ⟨g, 0, none⟩) 1 someB → Calls Tryz.prog 11 #[bunV someP (some ⟨g, 0, none⟩) 1 1] W (Ret (.int .i64 2) W)) := fun W g hL => by
  have := Free_any someP someB 1 1 (some ⟨g, 0, none⟩) (by omega) W hL
  rw [someFree] at this
  exact this
 have hl := someBun.2
 generalize bunBytes someP someB 1 = B at *
 have l1 : ((B.length : Int) == 32) = true := by rw [hl]; rfl
 have l2 : ((B.length : Int) = 32) = True := by rw [hl]; simp
 have l3 : (B.length = 32) = True := by rw [hl]; simp
 clear hl
 go_enter Tryz.func4, Tryz.ntmps4
 go_upto_region 2 with (first | (go_at_call 10; refine (KS.out _).mono ?_; rintro x w2 ⟨g, rfl, hx, hL⟩) | (go_at_call 7; refine (KB.out _ _ hL).mono ?_; rintro x w3 ⟨rfl, h3⟩))
 go_wp2_with (first | (go_at_call 10; refine (KS.out _).mono ?_; rintro x w4 ⟨g4, rfl, hx4, hL4⟩) | (go_at_call 11; refine (KF.out _ _ hL4).mono ?_; rintro x w5 ⟨rfl, h5⟩))
 go_ret
 exact Ret.mk rfl (((hx.trans h3).trans hx4).trans h5)
end Go.Proofs.YtfgipgpbjfhflaaGreat


namespace Go.Proofs.YtfgipgpbjfhflaaGreat
open Go.RowKit
set_option linter.unusedVariables false
set_option linter.unusedSimpArgs false

set_option maxRecDepth 20000 in
theorem r13Right_p (p : PV) (bs : Nat → BV) (k c : Nat) (A : Option Addr) (hf : p.fl < 18446744073709551616) (hk : k < 4611686018427387904) (hb : p.right ≠ 0) (w : World) (h : BsL w A k bs) : Calls Tryz.prog 6 #[bunV p A k c] w (Ret (.int .i64 p.right) w) := by
 have KP := hid (fun W => r11Right_any p hf W)
 have HE := hid ((Mod.refl [] w).alloc (.cells (bunC p A k c) 29))
 have HB0 : Hid (Blk (w.alloc (.cells (bunC p A k c) 29)) w.heap.size 29 (bunC p A k c)) := hid (Blk.new w 29 (bunC p A k c))
 generalize p.right = r at *
 have ra : ((r) == (0)) = false := by rw [beq_eq_false_iff_ne]; exact hb
 have rb : ((r) = (0)) = False := eq_false (by exact hb)
 have rc : ((r) != (0)) = true := by rw [bne_iff_ne]; exact hb
 clear hb hf hk h
 go_enter Tryz.func6, Tryz.ntmps6
 go_upto_region 1 with fail
 generalize (w.alloc (.cells (bunC p A k c) 29)) = V at *
 have HPR : Hid (∀ e : Later V, e.x.rangeAt w.heap.size 0 p.c.toList) := HB0.out.range 0 19 (by rw [Array.toList_extract]; rfl)
 have b19 : ∀ e : Later V, e.x.cell? ⟨w.heap.size, 19, none⟩ = some (.slice A k c) := HB0.out.cellL 19 rfl
 obtain ⟨e, he⟩ := Later.self V
 rw [he]
 clear he
 go_wp2_with (first | (refine wpList_mid (by rfl) 26 _ rfl _ 0 rfl _ _ (HPR.out _) Tryz.underlying26 rfl (by kernel_rfl) ?_) | (go_at_call 13; refine (Ret.later (KP.out _)).mono ?_; rintro x _ ⟨rfl, e, rfl⟩))
 go_ret
 exact Ret.mk rfl (HE.out.trans e.h)
set_option maxRecDepth 20000 in
set_option maxHeartbeats 40000000 in
theorem r13Right_ok (p : PV) (bs : Nat → BV) (k c : Nat) (A : Option Addr) (hf : p.fl < 18446744073709551616) (hk : k < 4611686018427387904) (hb : p.right = 0) (hd : ∀ i, i < k → (bs i).data.length ≤ 100000) (w : World) (h : BsL w A k bs) : Calls Tryz.prog 6 #[bunV p A k c] w (Ret (.int .i64 (match firstOf (badAt bs) k with | some i => (bs i).right | none => if 16 < k then 4 else if bunRule1 bs k then 8 else if bunRule2 p bs k then 8 else if bunRule3 p bs k then 8 else if 4000 < (bunBytes p bs k).length then 4 else 0)) w) := by
 generalize hRES : (match firstOf (badAt bs) k with | some i => (bs i).right | none => if 16 < k then 4 else if bunRule1 bs k then 8 else if bunRule2 p bs k then 8 else if bunRule3 p bs k then 8 else if 4000 < (bunBytes p bs k).length then 4 else 0) = RES
 have HRES := hid hRES
 clear hRES
 have KP := hid (fun W => r11Right_any p hf W)
 rw [hb] at KP
 have HE := hid ((Mod.refl [] w).alloc (.cells (bunC p A k c) 29))
 have HB0 : Hid (Blk (w.alloc (.cells (bunC p A k c) 29)) w.heap.size 29 (bunC p A k c)) := hid (Blk.new w 29 (bunC p A k c))
 have HL := hid (BsL.ext h HE.out)
 have k1 : (k : Int) < 4611686018427387904 := by omega
 have HK := hid hk
 have HD := hid hd
 have HF := hid hf
 have HP := hid hb
 have hrs := PV.ranged_spec (PV.right_ranged hb)
 have fl2 : p.fl < 2097152 := by omega
 have po : p.o ≤ 1099511627776 := by omega
 have pn : p.n ≤ 1099511627776 := by omega
 clear hb hf hk hd h hrs
 go_enter Tryz.func6, Tryz.ntmps6
 go_upto_region 1 with fail
 generalize (w.alloc (.cells (bunC p A k c) 29)) = V at *
 have HPR : Hid (∀ e : Later V, e.x.rangeAt w.heap.size 0 p.c.toList) := HB0.out.range 0 19 (by rw [Array.toList_extract]; rfl)
 have b19 : ∀ e : Later V, e.x.cell? ⟨w.heap.size, 19, none⟩ = some (.slice A k c) := HB0.out.cellL 19 rfl
 have b5 : ∀ e : Later V, e.x.cell? ⟨w.heap.size, 14, none⟩ = some (.int .u64 (p.t : Int)) := HB0.out.cellL 14 rfl
 have b0 : ∀ e : Later V, e.x.cell? ⟨w.heap.size, 0, none⟩ = some (.int .u64 (p.fl : Int)) := HB0.out.cellL 0 rfl
 have b17 : ∀ e : Later V, e.x.cell? ⟨w.heap.size, 17, none⟩ = some (.int .u64 (p.o : Int)) := HB0.out.cellL 17 rfl
 have b18 : ∀ e : Later V, e.x.cell? ⟨w.heap.size, 18, none⟩ = some (.int .u64 (p.n : Int)) := HB0.out.cellL 18 rfl
 have KC : Hid (∀ (e : Later V) typ, Calls Tryz.prog 15 #[.slice A k c, .int .i64 typ] e.x (Ret (.int .i64 (cntB bs typ k : Nat)) e.x)) := fun e typ => r13count_any bs k c A typ HK.out e.x (HL.out.ext e.h)
 have KT : Hid (∀ (e : Later V), Calls Tryz.prog 16 #[.slice A k c] e.x (Ret (.bool (dupB bs k)) e.x)) := fun e => r13twice_any bs k c A HK.out e.x (HL.out.ext e.h)
 have KH : Hid (∀ W, Calls Tryz.prog 17 #[.int .u64 (p.fl : Int), .int .i64 1] W (Ret (.bool (has p.fl 1)) W)) := fun W => Has_any p.fl 1 HF.out (by omega) (by omega) W
 obtain ⟨e0, he0⟩ := Later.self V
 rw [he0]
 go_upto_region 6 with (first | (refine wpList_mid (by rfl) 26 _ rfl _ 0 rfl _ _ (HPR.out _) Tryz.underlying26 rfl (by kernel_rfl) ?_) | (go_at_call 13; refine (Ret.later (KP.out _)).mono ?_; rintro x _ ⟨rfl, e, rfl⟩))
 go_loopw [5] (fun s5 wr => ∃ i : Nat, s5 = .int .i64 (i : Int) ∧ Hid (i ≤ k ∧ ∀ j, j < i → badAt bs j = false) ∧ ∃ e : Later V, wr = e.x) (fun s5 _ => k - (intOf s5).toNat)
 case atStart => exact ⟨0, rfl, (show Hid _ from ⟨Nat.zero_le _, fun j hj => by omega⟩), e, rfl⟩
 case round =>
  clear he0 e0 e
  obtain ⟨i, rfl, hi, e, rfl⟩ := hrel
  have i0 : (0 : Int) ≤ (i : Int) := by omega
  by_cases hlt : i < k
  ·
   clear KC KT KH b5 b0 b17 b18 HF fl2 po pn
   obtain ⟨b, o, rfl, hb, q0, q1, q2, q3, q4⟩ := HL.out.cells hlt
   have tc : decide (i < k) = true := by simp [hlt]
   have i1 : (i : Int) < (k : Int) := by omega
   have HLT := hid hlt
   have KX := hid (fun W => rbRight_any (bs i) W)
   clear hlt
   by_cases ht : badAt bs i = true
   ·
    have HR : Hid (RES = (bs i).right) := by unfold Hid; rw [← HRES.out, firstOf_some HLT.out ht hi.out.2]
    have hx : (bs i).right ≠ 0 := by simpa [badAt] using ht
    clear ht
    generalize (bs i).right = r at *
    have ra : ((r) == (0)) = false := by rw [beq_eq_false_iff_ne]; exact hx
    have rb : ((r) = (0)) = False := eq_false (by exact hx)
    have rc : ((r) != (0)) = true := by rw [bne_iff_ne]; exact hx
    clear hx
    go_wp2_with (first | (go_at_call 14; refine (Ret.later (KX.out _)).mono ?_; rintro x _ ⟨rfl, e, rfl⟩))
    go_ret
    exact Ret.mk (by rw [HR.out]; rfl) (HE.out.trans e.h)
   ·
    have HN : Hid (badAt bs i = false) := by unfold Hid; simpa using ht
    rw [bad_no HN.out] at KX
    clear ht
    go_wp2_with (first | (go_at_call 14; refine (Ret.later (KX.out _)).mono ?_; rintro x _ ⟨rfl, e, rfl⟩))
    go_roundw
    case rel => exact ⟨i + 1, by go_num, (show Hid _ from ⟨HLT.out, fun j hj => by
     by_cases hji : j = i
     · subst hji; exact HN.out
     · exact hi.out.2 j (by omega)⟩), e, rfl⟩
    case measure => have := HLT.out; simp [intOf]; omega
  ·
   obtain rfl : i = k := by have := hi.out.1; omega
   have tc : decide (i < i) = false := by simp
   have HR1 : Hid (RES = if 16 < i then 4 else if bunRule1 bs i then 8 else if bunRule2 p bs i then 8 else if bunRule3 p bs i then 8 else if 4000 < (bunBytes p bs i).length then 4 else 0) := by unfold Hid; rw [← HRES.out, firstOf_none hi.out.2]
   have HB' : Hid (∀ j, j < i → (bs j).right = 0) := fun j hj => bad_no (hi.out.2 j hj)
   clear HRES hi hlt KP
   have K1 := hid (fun e => KC.out e 1)
   have K6 := hid (fun e => KC.out e 6)
   have K7 := hid (fun e => KC.out e 7)
   have K10 := hid (fun e => KC.out e 10)
   clear KC
   have HR0 : Hid (bunRule1 bs i = (decide (i = 0) || decide (cntB bs 1 i ≠ 1) || dupB bs i || decide (1 < cntB bs 6 i) || decide (1 < cntB bs 7 i) || decide (1 < cntB bs 10 i))) := rfl
   have HR00 : Hid (bunRule2 p bs i = (decide ((bs (i - 1)).ty ≠ 1) || (decide (p.t = 0) && decide (cntB bs 7 i = 0)))) := rfl
   generalize cntB bs 1 i = n1 at *
   generalize cntB bs 6 i = n6 at *
   generalize cntB bs 7 i = n7 at *
   generalize cntB bs 10 i = n10 at *
   by_cases h16 : 16 < i
   ·
    have HR : Hid (RES = 4) := by unfold Hid; rw [HR1.out, if_pos h16]
    have xa : decide ((16 : Int) < (i : Int)) = true := decide_eq_true (by omega)
    have xb : ((16 : Int) < (i : Int)) = True := eq_true (by omega)
    have xc : decide (16 < i) = true := decide_eq_true h16
    clear h16
    go_wp2_with fail
    go_ret
    exact Ret.mk (by rw [HR.out]; rfl) (HE.out.trans e.h)
   ·
    have HR2 : Hid (RES = if bunRule1 bs i then 8 else if bunRule2 p bs i then 8 else if bunRule3 p bs i then 8 else if 4000 < (bunBytes p bs i).length then 4 else 0) := by unfold Hid; rw [HR1.out, if_neg h16]
    have H16 := hid h16
    clear HR1
    have xa : decide ((16 : Int) < (i : Int)) = false := decide_eq_false (by omega)
    have xb : ((16 : Int) < (i : Int)) = False := eq_false (by omega)
    have xc : decide (16 < i) = false := decide_eq_false h16
    clear h16
    cases hR1 : bunRule1 bs i with
    | true =>
     have HR : Hid (RES = 8) := by unfold Hid; rw [HR2.out, hR1]; rfl
     clear HR2
     rw [HR0.out] at hR1
     by_cases z0 : i = 0
     ·
      subst z0
      have za : ((0 : Int) == 0) = true := rfl
      clear hR1
      go_wp2_with (first | (go_at_call 15; first | ((with_reducible refine (Ret.later (K1.out _)).mono ?_); rintro x _ ⟨rfl, e, rfl⟩) | ((with_reducible refine (Ret.later (K6.out _)).mono ?_); rintro x _ ⟨rfl, e, rfl⟩) | ((with_reducible refine (Ret.later (K7.out _)).mono ?_); rintro x _ ⟨rfl, e, rfl⟩) | ((with_reducible refine (Ret.later (K10.out _)).mono ?_); rintro x _ ⟨rfl, e, rfl⟩)) | (go_at_call 16; refine (Ret.later (KT.out _)).mono ?_; rintro x _ ⟨rfl, e, rfl⟩))
      go_ret
      exact Ret.mk (by rw [HR.out]; rfl) (HE.out.trans e.h)
     have n0 : ((i : Int) == 0) = false := by rw [beq_eq_false_iff_ne]; omega
     have n0a : ((i : Int) = 0) = False := eq_false (by omega)
     have n0b : (i == 0) = false := by rw [beq_eq_false_iff_ne]; omega
     have n0c : (i = 0) = False := eq_false (by omega)
     by_cases z1 : n1 ≠ 1
     ·
      clear hR1
      have c1a : (((n1 : Int)) == (1)) = false := by rw [beq_eq_false_iff_ne]; omega
      have c1b : (((n1 : Int)) = (1)) = False := eq_false (by omega)
      have c1c : (((n1 : Int)) != (1)) = true := by rw [bne_iff_ne]; omega
      have c1na : ((n1) == (1)) = false := by rw [beq_eq_false_iff_ne]; omega
      have c1nb : ((n1) = (1)) = False := eq_false (by omega)
      have c1nc : ((n1) != (1)) = true := by rw [bne_iff_ne]; omega
      go_wp2_with (first | (go_at_call 15; first | ((with_reducible refine (Ret.later (K1.out _)).mono ?_); rintro x _ ⟨rfl, e, rfl⟩) | ((with_reducible refine (Ret.later (K6.out _)).mono ?_); rintro x _ ⟨rfl, e, rfl⟩) | ((with_reducible refine (Ret.later (K7.out _)).mono ?_); rintro x _ ⟨rfl, e, rfl⟩) | ((with_reducible refine (Ret.later (K10.out _)).mono ?_); rintro x _ ⟨rfl, e, rfl⟩)) | (go_at_call 16; refine (Ret.later (KT.out _)).mono ?_; rintro x _ ⟨rfl, e, rfl⟩))
      go_ret
      exact Ret.mk (by rw [HR.out]; rfl) (HE.out.trans e.h)
     obtain rfl : n1 = 1 := by omega
     cases zt : dupB bs i with
     | true =>
      rw [zt] at KT
      clear hR1
      go_wp2_with (first | (go_at_call 15; first | ((with_reducible refine (Ret.later (K1.out _)).mono ?_); rintro x _ ⟨rfl, e, rfl⟩) | ((with_reducible refine (Ret.later (K6.out _)).mono ?_); rintro x _ ⟨rfl, e, rfl⟩) | ((with_reducible refine (Ret.later (K7.out _)).mono ?_); rintro x _ ⟨rfl, e, rfl⟩) | ((with_reducible refine (Ret.later (K10.out _)).mono ?_); rintro x _ ⟨rfl, e, rfl⟩)) | (go_at_call 16; refine (Ret.later (KT.out _)).mono ?_; rintro x _ ⟨rfl, e, rfl⟩))
      go_ret
      exact Ret.mk (by rw [HR.out]; rfl) (HE.out.trans e.h)
     | false =>
     rw [zt] at KT
     by_cases z6 : 1 < n6
     ·
      clear hR1
      have c6a : decide ((1 : Int) < (n6 : Int)) = true := decide_eq_true (by omega)
      have c6b : ((1 : Int) < (n6 : Int)) = True := eq_true (by omega)
      have c6na : decide (1 < n6) = true := decide_eq_true (by omega)
      have c6nb : (1 < n6) = True := eq_true (by omega)
      go_wp2_with (first | (go_at_call 15; first | ((with_reducible refine (Ret.later (K1.out _)).mono ?_); rintro x _ ⟨rfl, e, rfl⟩) | ((with_reducible refine (Ret.later (K6.out _)).mono ?_); rintro x _ ⟨rfl, e, rfl⟩) | ((with_reducible refine (Ret.later (K7.out _)).mono ?_); rintro x _ ⟨rfl, e, rfl⟩) | ((with_reducible refine (Ret.later (K10.out _)).mono ?_); rintro x _ ⟨rfl, e, rfl⟩)) | (go_at_call 16; refine (Ret.later (KT.out _)).mono ?_; rintro x _ ⟨rfl, e, rfl⟩))
      go_ret
      exact Ret.mk (by rw [HR.out]; rfl) (HE.out.trans e.h)
     have c6a : decide ((1 : Int) < (n6 : Int)) = false := decide_eq_false (by omega)
     have c6b : ((1 : Int) < (n6 : Int)) = False := eq_false (by omega)
     have c6na : decide (1 < n6) = false := decide_eq_false (by omega)
     have c6nb : (1 < n6) = False := eq_false (by omega)
     by_cases z7 : 1 < n7
     ·
      clear hR1
      have c7a : decide ((1 : Int) < (n7 : Int)) = true := decide_eq_true (by omega)
      have c7b : ((1 : Int) < (n7 : Int)) = True := eq_true (by omega)
      have c7na : decide (1 < n7) = true := decide_eq_true (by omega)
      have c7nb : (1 < n7) = True := eq_true (by omega)
      go_wp2_with (first | (go_at_call 15; first | ((with_reducible refine (Ret.later (K1.out _)).mono ?_); rintro x _ ⟨rfl, e, rfl⟩) | ((with_reducible refine (Ret.later (K6.out _)).mono ?_); rintro x _ ⟨rfl, e, rfl⟩) | ((with_reducible refine (Ret.later (K7.out _)).mono ?_); rintro x _ ⟨rfl, e, rfl⟩) | ((with_reducible refine (Ret.later (K10.out _)).mono ?_); rintro x _ ⟨rfl, e, rfl⟩)) | (go_at_call 16; refine (Ret.later (KT.out _)).mono ?_; rintro x _ ⟨rfl, e, rfl⟩))
      go_ret
      exact Ret.mk (by rw [HR.out]; rfl) (HE.out.trans e.h)
     have c7a : decide ((1 : Int) < (n7 : Int)) = false := decide_eq_false (by omega)
     have c7b : ((1 : Int) < (n7 : Int)) = False := eq_false (by omega)
     have c7na : decide (1 < n7) = false := decide_eq_false (by omega)
     have c7nb : (1 < n7) = False := eq_false (by omega)
     have z10 : 1 < n10 := by simpa [n0c, zt, z1, z6, z7] using hR1
     have c10a : decide ((1 : Int) < (n10 : Int)) = true := decide_eq_true (by omega)
     have c10b : ((1 : Int) < (n10 : Int)) = True := eq_true (by omega)
     have c10na : decide (1 < n10) = true := decide_eq_true (by omega)
     have c10nb : (1 < n10) = True := eq_true (by omega)
     clear hR1
     go_wp2_with (first | (go_at_call 15; first | ((with_reducible refine (Ret.later (K1.out _)).mono ?_); rintro x _ ⟨rfl, e, rfl⟩) | ((with_reducible refine (Ret.later (K6.out _)).mono ?_); rintro x _ ⟨rfl, e, rfl⟩) | ((with_reducible refine (Ret.later (K7.out _)).mono ?_); rintro x _ ⟨rfl, e, rfl⟩) | ((with_reducible refine (Ret.later (K10.out _)).mono ?_); rintro x _ ⟨rfl, e, rfl⟩)) | (go_at_call 16; refine (Ret.later (KT.out _)).mono ?_; rintro x _ ⟨rfl, e, rfl⟩))
     go_ret
     exact Ret.mk (by rw [HR.out]; rfl) (HE.out.trans e.h)
    | false =>
     have HR3 : Hid (RES = if bunRule2 p bs i then 8 else if bunRule3 p bs i then 8 else if 4000 < (bunBytes p bs i).length then 4 else 0) := by unfold Hid; rw [HR2.out, hR1]; rfl
     clear HR2
     rw [HR0.out] at hR1
     simp only [Bool.or_eq_false_iff, decide_eq_false_iff_not] at hR1
     obtain ⟨⟨⟨⟨⟨z0, z1⟩, zt⟩, z6⟩, z7⟩, z10⟩ := hR1
     have H16' := H16.out
     have n0 : ((i : Int) == 0) = false := by rw [beq_eq_false_iff_ne]; omega
     have n0a : ((i : Int) = 0) = False := eq_false (by omega)
     have n0b : (i == 0) = false := by rw [beq_eq_false_iff_ne]; omega
     have n0c : (i = 0) = False := eq_false (by omega)
     rw [zt] at KT
     obtain rfl : n1 = 1 := by omega
     have c6a : decide ((1 : Int) < (n6 : Int)) = false := decide_eq_false (by omega)
     have c6b : ((1 : Int) < (n6 : Int)) = False := eq_false (by omega)
     have c6na : decide (1 < n6) = false := decide_eq_false (by omega)
     have c6nb : (1 < n6) = False := eq_false (by omega)
     have c7a : decide ((1 : Int) < (n7 : Int)) = false := decide_eq_false (by omega)
     have c7b : ((1 : Int) < (n7 : Int)) = False := eq_false (by omega)
     have c7na : decide (1 < n7) = false := decide_eq_false (by omega)
     have c7nb : (1 < n7) = False := eq_false (by omega)
     have c10a : decide ((1 : Int) < (n10 : Int)) = false := decide_eq_false (by omega)
     have c10b : ((1 : Int) < (n10 : Int)) = False := eq_false (by omega)
     have c10na : decide (1 < n10) = false := decide_eq_false (by omega)
     have c10nb : (1 < n10) = False := eq_false (by omega)
     have i2 := hid ((show (1 : Int) ≤ (i : Int) by omega))
     have i3 := hid (show (i : Int) ≤ 16 by omega)
     have HI0 : Hid (i ≠ 0) := hid z0
     clear z0 z1 zt z6 z7 z10 H16'
     go_upto_region 15 with (first | (go_at_call 15; first | ((with_reducible refine (Ret.later (K1.out _)).mono ?_); rintro x _ ⟨rfl, e, rfl⟩) | ((with_reducible refine (Ret.later (K6.out _)).mono ?_); rintro x _ ⟨rfl, e, rfl⟩) | ((with_reducible refine (Ret.later (K7.out _)).mono ?_); rintro x _ ⟨rfl, e, rfl⟩) | ((with_reducible refine (Ret.later (K10.out _)).mono ?_); rintro x _ ⟨rfl, e, rfl⟩)) | (go_at_call 16; refine (Ret.later (KT.out _)).mono ?_; rintro x _ ⟨rfl, e, rfl⟩))
     clear n0 n0a n0b n0c c6a c6b c6na c6nb c10a c10b c10na c10nb c7a c7b c7na c7nb tc xa xb xc
     obtain ⟨m, rfl⟩ : ∃ m : Nat, i = m + 1 := ⟨i - 1, by have := HI0.out; omega⟩
     clear HI0
     obtain ⟨b, o, rfl, hb, q0, q1, q2, q3, q4⟩ := HL.out.cells (Nat.lt_succ_self m)
     have m0 : (0 : Int) ≤ (m : Int) := by omega
     have m1 : (m : Int) ≤ 15 := by have := i3.out; omega
     clear i2 i3
     go_upto_region 16 with fail
     generalize hU : World.alloc e.x _ = U
     have HX : Hid (Blk U e.x.heap.size 42 (BV.c (bs m))) := hid (by rw [← hU]; exact Blk.new _ _ _)
     have HM : Hid (Ext V U) := hid (by rw [← hU]; exact e.h.alloc _)
     clear hU q0 q1 q2 q3 q4 hb m0 m1 i0 k1 K1 K6 K10 KT
     have L7 : Hid (∀ e : Later U, Calls Tryz.prog 15 #[.slice (some ⟨b, o, none⟩) (m + 1) c, .int .i64 7] e.x (Ret (.int .i64 (n7 : Int)) e.x)) := fun e => K7.out ⟨e.x, HM.out.trans e.h⟩
     clear K7
     have x0 : ∀ e : Later U, e.x.cell? ⟨w.heap.size, 0, none⟩ = some (.int .u64 (p.fl : Int)) := fun e => b0 ⟨e.x, HM.out.trans e.h⟩
     have x5 : ∀ e : Later U, e.x.cell? ⟨w.heap.size, 14, none⟩ = some (.int .u64 (p.t : Int)) := fun e => b5 ⟨e.x, HM.out.trans e.h⟩
     have x17 : ∀ e : Later U, e.x.cell? ⟨w.heap.size, 17, none⟩ = some (.int .u64 (p.o : Int)) := fun e => b17 ⟨e.x, HM.out.trans e.h⟩
     have x18 : ∀ e : Later U, e.x.cell? ⟨w.heap.size, 18, none⟩ = some (.int .u64 (p.n : Int)) := fun e => b18 ⟨e.x, HM.out.trans e.h⟩
     have x19 : ∀ e : Later U, e.x.cell? ⟨w.heap.size, 19, none⟩ = some (.slice (some ⟨b, o, none⟩) (m + 1) c) := fun e => b19 ⟨e.x, HM.out.trans e.h⟩
     have HB1 := hid (HB0.out.ext HM.out)
     have KB : Hid (∀ e : Later U, Calls Tryz.prog 18 #[bunV p (some ⟨b, o, none⟩) (m + 1) c] e.x (Ret (str (bunBytes p bs (m + 1))) e.x)) := fun e => r13Bytes_any p bs (m + 1) c (some ⟨b, o, none⟩) (by have := H16.out; omega) HP.out HB'.out e.x (HL.out.ext (HM.out.trans e.h))
     clear b0 b5 b17 b18 b19 HPR HB0 HP HF H16 HR0 HK
     have HE1 := hid (HE.out.trans HM.out)
     have HR2' : Hid (bunRule2 p bs (m + 1) = (decide ((bs m).ty ≠ 1) || (decide (p.t = 0) && decide (n7 = 0)))) := HR00.out
     have HR3' : Hid (bunRule3 p bs (m + 1) = (has p.fl 1 && decide (p.n < p.o + (bs m).data.length))) := rfl
     clear HR00 HE
     have ld : ((bs m).data.length : Int) ≤ 100000 := by have := HD.out m (by omega); omega
     have po2 : (p.o : Int) ≤ 1099511627776 := by omega
     clear HD HB' po pn fl2 HL
     generalize bunRule2 p bs (m + 1) = R2 at *
     generalize bunRule3 p bs (m + 1) = R3 at *
     generalize bunBytes p bs (m + 1) = BB at *
     have y0 : ∀ e : Later U, e.x.cell? ⟨e.x.heap.size, 0, none⟩ = e.x.cell? ⟨e.x.heap.size, 0, none⟩ := fun _ => rfl
     clear y0
     generalize hpay : e.x.heap.size = pay at *
     clear hpay
     have z0 : ∀ e : Later U, e.x.cell? ⟨pay, 0, none⟩ = some (.int .i64 (bs m).ty) := HX.out.cellL 0 rfl
     have z4 : ∀ e : Later U, e.x.cell? ⟨pay, 4, none⟩ = some (str (bs m).data) := HX.out.cellL 4 rfl
     clear HX HM
     generalize (bs m).ty = ty at *
     generalize (bs m).data = dat at *
     generalize p.o = po at *
     generalize p.n = pn at *
     generalize p.t = pt at *
     clear e
     obtain ⟨e, he⟩ := Later.self U
     rw [he]
     clear he
     by_cases zt : ty = 1
     ·
      have HT1 := hid zt
      have ta : ((ty) == (1)) = true := by rw [beq_iff_eq]; exact zt
      have tb : ((ty) = (1)) = True := eq_true (by exact zt)
      have tc : ((ty) != (1)) = false := by rw [bne_eq_false_iff_eq]; exact zt
      clear zt
      by_cases zp : pt = 0
      ·
       have HP0 := hid zp
       have ua : (((pt : Int)) == (0)) = true := by rw [beq_iff_eq]; omega
       have ub : (((pt : Int)) = (0)) = True := eq_true (by omega)
       have uc : (((pt : Int)) != (0)) = false := by rw [bne_eq_false_iff_eq]; omega
       have una : ((pt) == (0)) = true := by rw [beq_iff_eq]; omega
       have unb : ((pt) = (0)) = True := eq_true (by omega)
       have unc : ((pt) != (0)) = false := by rw [bne_eq_false_iff_eq]; omega
       clear zp
       by_cases z7 : n7 = 0
       ·
        have HR : Hid (RES = 8) := by unfold Hid; rw [HR3.out, HR2'.out]; simp [HT1.out, HP0.out, z7]
        have sa : (((n7 : Int)) == (0)) = true := by rw [beq_iff_eq]; omega
        have sb : (((n7 : Int)) = (0)) = True := eq_true (by omega)
        have sc : (((n7 : Int)) != (0)) = false := by rw [bne_eq_false_iff_eq]; omega
        have sna : ((n7) == (0)) = true := by rw [beq_iff_eq]; omega
        have snb : ((n7) = (0)) = True := eq_true (by omega)
        have snc : ((n7) != (0)) = false := by rw [bne_eq_false_iff_eq]; omega
        clear z7
        go_wp2_with (first | (go_at_call 15; refine (Ret.later (L7.out _)).mono ?_; rintro x _ ⟨rfl, e, rfl⟩) | (go_at_call 17; refine (Ret.later (KH.out _)).mono ?_; rintro x _ ⟨rfl, e, rfl⟩))
        go_ret
        exact Ret.mk (by rw [HR.out]; rfl) (HE1.out.trans e.h)
       ·
        have HF2 : Hid (R2 = false) := by unfold Hid; rw [HR2'.out]; simp [HT1.out, z7]
        have sa : (((n7 : Int)) == (0)) = false := by rw [beq_eq_false_iff_ne]; omega
        have sb : (((n7 : Int)) = (0)) = False := eq_false (by omega)
        have sc : (((n7 : Int)) != (0)) = true := by rw [bne_iff_ne]; omega
        have sna : ((n7) == (0)) = false := by rw [beq_eq_false_iff_ne]; omega
        have snb : ((n7) = (0)) = False := eq_false (by omega)
        have snc : ((n7) != (0)) = true := by rw [bne_iff_ne]; omega
        clear z7
        go_upto_region 18 with (first | (go_at_call 15; refine (Ret.later (L7.out _)).mono ?_; rintro x _ ⟨rfl, e, rfl⟩) | (go_at_call 17; refine (Ret.later (KH.out _)).mono ?_; rintro x _ ⟨rfl, e, rfl⟩))
        clear sa sb sc sna snb snc ta tb tc ua ub uc una unb unc
        have HR4 : Hid (RES = if R3 = true then 8 else if 4000 < BB.length then 4 else 0) := by unfold Hid; rw [HR3.out, HF2.out]; rfl
        cases hh : has p.fl 1 with
        | false =>
         rw [hh] at KH
         have HR5 : Hid (RES = if 4000 < BB.length then 4 else 0) := by unfold Hid; rw [HR4.out, HR3'.out, hh]; rfl
         clear hh
         go_upto_region 20 with (first | (go_at_call 15; refine (Ret.later (L7.out _)).mono ?_; rintro x _ ⟨rfl, e, rfl⟩) | (go_at_call 17; refine (Ret.later (KH.out _)).mono ?_; rintro x _ ⟨rfl, e, rfl⟩))
         by_cases hl : 4000 < BB.length
         ·
          have HR : Hid (RES = 4) := by unfold Hid; rw [HR5.out, if_pos hl]
          have la : decide ((4000 : Int) < (BB.length : Int)) = true := decide_eq_true (by omega)
          have lb : ((4000 : Int) < (BB.length : Int)) = True := eq_true (by omega)
          have lc : decide (4000 < BB.length) = true := decide_eq_true hl
          clear hl
          go_wp2_with (first | (refine wpList_row (by rfl) 29 _ rfl _ rfl (HB1.out.later _) Tryz.underlying29 rfl (by kernel_rfl) ?_) | (go_at_call 18; refine (Ret.later (KB.out _)).mono ?_; rintro x _ ⟨rfl, e, rfl⟩))
          go_ret
          exact Ret.mk (by rw [HR.out]; rfl) (HE1.out.trans e.h)
         ·
          have HR : Hid (RES = 0) := by unfold Hid; rw [HR5.out, if_neg hl]
          have la : decide ((4000 : Int) < (BB.length : Int)) = false := decide_eq_false (by omega)
          have lb : ((4000 : Int) < (BB.length : Int)) = False := eq_false (by omega)
          have lc : decide (4000 < BB.length) = false := decide_eq_false hl
          clear hl
          go_wp2_with (first | (refine wpList_row (by rfl) 29 _ rfl _ rfl (HB1.out.later _) Tryz.underlying29 rfl (by kernel_rfl) ?_) | (go_at_call 18; refine (Ret.later (KB.out _)).mono ?_; rintro x _ ⟨rfl, e, rfl⟩))
          go_ret
          exact Ret.mk (by rw [HR.out]; rfl) (HE1.out.trans e.h)
        | true =>
         rw [hh] at KH
         by_cases hv : pn < po + dat.length
         ·
          have HR : Hid (RES = 8) := by unfold Hid; rw [HR4.out, HR3'.out, hh, decide_eq_true hv]; rfl
          clear hh
          have va : decide ((pn : Int) < (po : Int) + (dat.length : Int)) = true := decide_eq_true (by omega)
          have vb : ((pn : Int) < (po : Int) + (dat.length : Int)) = True := eq_true (by omega)
          have vc : decide (pn < po + dat.length) = true := decide_eq_true hv
          clear hv
          go_wp2_with (first | (go_at_call 15; refine (Ret.later (L7.out _)).mono ?_; rintro x _ ⟨rfl, e, rfl⟩) | (go_at_call 17; refine (Ret.later (KH.out _)).mono ?_; rintro x _ ⟨rfl, e, rfl⟩))
          go_ret
          exact Ret.mk (by rw [HR.out]; rfl) (HE1.out.trans e.h)
         ·
          have HR5 : Hid (RES = if 4000 < BB.length then 4 else 0) := by unfold Hid; rw [HR4.out, HR3'.out, hh, decide_eq_false hv]; rfl
          clear hh
          have va : decide ((pn : Int) < (po : Int) + (dat.length : Int)) = false := decide_eq_false (by omega)
          have vb : ((pn : Int) < (po : Int) + (dat.length : Int)) = False := eq_false (by omega)
          have vc : decide (pn < po + dat.length) = false := decide_eq_false hv
          clear hv
          go_upto_region 20 with (first | (go_at_call 15; refine (Ret.later (L7.out _)).mono ?_; rintro x _ ⟨rfl, e, rfl⟩) | (go_at_call 17; refine (Ret.later (KH.out _)).mono ?_; rintro x _ ⟨rfl, e, rfl⟩))
          by_cases hl : 4000 < BB.length
          ·
           have HR : Hid (RES = 4) := by unfold Hid; rw [HR5.out, if_pos hl]
           have la : decide ((4000 : Int) < (BB.length : Int)) = true := decide_eq_true (by omega)
           have lb : ((4000 : Int) < (BB.length : Int)) = True := eq_true (by omega)
           have lc : decide (4000 < BB.length) = true := decide_eq_true hl
           clear hl
           go_wp2_with (first | (refine wpList_row (by rfl) 29 _ rfl _ rfl (HB1.out.later _) Tryz.underlying29 rfl (by kernel_rfl) ?_) | (go_at_call 18; refine (Ret.later (KB.out _)).mono ?_; rintro x _ ⟨rfl, e, rfl⟩))
           go_ret
           exact Ret.mk (by rw [HR.out]; rfl) (HE1.out.trans e.h)
          ·
           have HR : Hid (RES = 0) := by unfold Hid; rw [HR5.out, if_neg hl]
           have la : decide ((4000 : Int) < (BB.length : Int)) = false := decide_eq_false (by omega)
           have lb : ((4000 : Int) < (BB.length : Int)) = False := eq_false (by omega)
           have lc : decide (4000 < BB.length) = false := decide_eq_false hl
           clear hl
           go_wp2_with (first | (refine wpList_row (by rfl) 29 _ rfl _ rfl (HB1.out.later _) Tryz.underlying29 rfl (by kernel_rfl) ?_) | (go_at_call 18; refine (Ret.later (KB.out _)).mono ?_; rintro x _ ⟨rfl, e, rfl⟩))
           go_ret
           exact Ret.mk (by rw [HR.out]; rfl) (HE1.out.trans e.h)
      ·
       have HF2 : Hid (R2 = false) := by unfold Hid; rw [HR2'.out]; simp [HT1.out, zp]
       have sa : (((pt : Int)) == (0)) = false := by rw [beq_eq_false_iff_ne]; omega
       have sb : (((pt : Int)) = (0)) = False := eq_false (by omega)
       have sc : (((pt : Int)) != (0)) = true := by rw [bne_iff_ne]; omega
       have sna : ((pt) == (0)) = false := by rw [beq_eq_false_iff_ne]; omega
       have snb : ((pt) = (0)) = False := eq_false (by omega)
       have snc : ((pt) != (0)) = true := by rw [bne_iff_ne]; omega
       clear zp
       go_upto_region 18 with (first | (go_at_call 15; refine (Ret.later (L7.out _)).mono ?_; rintro x _ ⟨rfl, e, rfl⟩) | (go_at_call 17; refine (Ret.later (KH.out _)).mono ?_; rintro x _ ⟨rfl, e, rfl⟩))
       clear sa sb sc sna snb snc ta tb tc
       have HR4 : Hid (RES = if R3 = true then 8 else if 4000 < BB.length then 4 else 0) := by unfold Hid; rw [HR3.out, HF2.out]; rfl
       cases hh : has p.fl 1 with
       | false =>
        rw [hh] at KH
        have HR5 : Hid (RES = if 4000 < BB.length then 4 else 0) := by unfold Hid; rw [HR4.out, HR3'.out, hh]; rfl
        clear hh
        go_upto_region 20 with (first | (go_at_call 15; refine (Ret.later (L7.out _)).mono ?_; rintro x _ ⟨rfl, e, rfl⟩) | (go_at_call 17; refine (Ret.later (KH.out _)).mono ?_; rintro x _ ⟨rfl, e, rfl⟩))
        by_cases hl : 4000 < BB.length
        ·
         have HR : Hid (RES = 4) := by unfold Hid; rw [HR5.out, if_pos hl]
         have la : decide ((4000 : Int) < (BB.length : Int)) = true := decide_eq_true (by omega)
         have lb : ((4000 : Int) < (BB.length : Int)) = True := eq_true (by omega)
         have lc : decide (4000 < BB.length) = true := decide_eq_true hl
         clear hl
         go_wp2_with (first | (refine wpList_row (by rfl) 29 _ rfl _ rfl (HB1.out.later _) Tryz.underlying29 rfl (by kernel_rfl) ?_) | (go_at_call 18; refine (Ret.later (KB.out _)).mono ?_; rintro x _ ⟨rfl, e, rfl⟩))
         go_ret
         exact Ret.mk (by rw [HR.out]; rfl) (HE1.out.trans e.h)
        ·
         have HR : Hid (RES = 0) := by unfold Hid; rw [HR5.out, if_neg hl]
         have la : decide ((4000 : Int) < (BB.length : Int)) = false := decide_eq_false (by omega)
         have lb : ((4000 : Int) < (BB.length : Int)) = False := eq_false (by omega)
         have lc : decide (4000 < BB.length) = false := decide_eq_false hl
         clear hl
         go_wp2_with (first | (refine wpList_row (by rfl) 29 _ rfl _ rfl (HB1.out.later _) Tryz.underlying29 rfl (by kernel_rfl) ?_) | (go_at_call 18; refine (Ret.later (KB.out _)).mono ?_; rintro x _ ⟨rfl, e, rfl⟩))
         go_ret
         exact Ret.mk (by rw [HR.out]; rfl) (HE1.out.trans e.h)
       | true =>
        rw [hh] at KH
        by_cases hv : pn < po + dat.length
        ·
         have HR : Hid (RES = 8) := by unfold Hid; rw [HR4.out, HR3'.out, hh, decide_eq_true hv]; rfl
         clear hh
         have va : decide ((pn : Int) < (po : Int) + (dat.length : Int)) = true := decide_eq_true (by omega)
         have vb : ((pn : Int) < (po : Int) + (dat.length : Int)) = True := eq_true (by omega)
         have vc : decide (pn < po + dat.length) = true := decide_eq_true hv
         clear hv
         go_wp2_with (first | (go_at_call 15; refine (Ret.later (L7.out _)).mono ?_; rintro x _ ⟨rfl, e, rfl⟩) | (go_at_call 17; refine (Ret.later (KH.out _)).mono ?_; rintro x _ ⟨rfl, e, rfl⟩))
         go_ret
         exact Ret.mk (by rw [HR.out]; rfl) (HE1.out.trans e.h)
        ·
         have HR5 : Hid (RES = if 4000 < BB.length then 4 else 0) := by unfold Hid; rw [HR4.out, HR3'.out, hh, decide_eq_false hv]; rfl
         clear hh
         have va : decide ((pn : Int) < (po : Int) + (dat.length : Int)) = false := decide_eq_false (by omega)
         have vb : ((pn : Int) < (po : Int) + (dat.length : Int)) = False := eq_false (by omega)
         have vc : decide (pn < po + dat.length) = false := decide_eq_false hv
         clear hv
         go_upto_region 20 with (first | (go_at_call 15; refine (Ret.later (L7.out _)).mono ?_; rintro x _ ⟨rfl, e, rfl⟩) | (go_at_call 17; refine (Ret.later (KH.out _)).mono ?_; rintro x _ ⟨rfl, e, rfl⟩))
         by_cases hl : 4000 < BB.length
         ·
          have HR : Hid (RES = 4) := by unfold Hid; rw [HR5.out, if_pos hl]
          have la : decide ((4000 : Int) < (BB.length : Int)) = true := decide_eq_true (by omega)
          have lb : ((4000 : Int) < (BB.length : Int)) = True := eq_true (by omega)
          have lc : decide (4000 < BB.length) = true := decide_eq_true hl
          clear hl
          go_wp2_with (first | (refine wpList_row (by rfl) 29 _ rfl _ rfl (HB1.out.later _) Tryz.underlying29 rfl (by kernel_rfl) ?_) | (go_at_call 18; refine (Ret.later (KB.out _)).mono ?_; rintro x _ ⟨rfl, e, rfl⟩))
          go_ret
          exact Ret.mk (by rw [HR.out]; rfl) (HE1.out.trans e.h)
         ·
          have HR : Hid (RES = 0) := by unfold Hid; rw [HR5.out, if_neg hl]
          have la : decide ((4000 : Int) < (BB.length : Int)) = false := decide_eq_false (by omega)
          have lb : ((4000 : Int) < (BB.length : Int)) = False := eq_false (by omega)
          have lc : decide (4000 < BB.length) = false := decide_eq_false hl
          clear hl
          go_wp2_with (first | (refine wpList_row (by rfl) 29 _ rfl _ rfl (HB1.out.later _) Tryz.underlying29 rfl (by kernel_rfl) ?_) | (go_at_call 18; refine (Ret.later (KB.out _)).mono ?_; rintro x _ ⟨rfl, e, rfl⟩))
          go_ret
          exact Ret.mk (by rw [HR.out]; rfl) (HE1.out.trans e.h)
     ·
      have HR : Hid (RES = 8) := by unfold Hid; rw [HR3.out, HR2'.out]; simp [zt]
      have sa : ((ty) == (1)) = false := by rw [beq_eq_false_iff_ne]; exact zt
      have sb : ((ty) = (1)) = False := eq_false (by exact zt)
      have sc : ((ty) != (1)) = true := by rw [bne_iff_ne]; exact zt
      clear zt
      go_wp2_with (first | (go_at_call 15; refine (Ret.later (L7.out _)).mono ?_; rintro x _ ⟨rfl, e, rfl⟩) | (go_at_call 17; refine (Ret.later (KH.out _)).mono ?_; rintro x _ ⟨rfl, e, rfl⟩))
      go_ret
      exact Ret.mk (by rw [HR.out]; rfl) (HE1.out.trans e.h)
theorem r13Right_any (p : PV) (bs : Nat → BV) (k c : Nat) (A : Option Addr) (hf : p.fl < 18446744073709551616) (hk : k < 4611686018427387904) (hd : ∀ i, i < k → (bs i).data.length ≤ 100000) (w : World) (h : BsL w A k bs) : Calls Tryz.prog 6 #[bunV p A k c] w (Ret (.int .i64 (bunRight p bs k)) w) := by
 unfold bunRight
 by_cases hb : p.right = 0
 · rw [if_neg (by simpa using hb)]; exact r13Right_ok p bs k c A hf hk hb hd w h
 · rw [if_pos hb]; exact r13Right_p p bs k c A hf hk hb w h
end Go.Proofs.YtfgipgpbjfhflaaGreat


namespace Go.Proofs.YtfgipgpbjfhflaaGreat
open Go.RowKit
set_option linter.unusedVariables false
set_option linter.unusedSimpArgs false

theorem results_cell3 {P : Program} {fn : Func} {t u v : Tmp} {ty : TypeId} (h : fn.results = #[.cell t ty, .tmp u, .tmp v]) (tmps : Array Value) {g : Nat} (ht : tmps.getD t undef = .pointer (some ⟨g, 0, none⟩)) {x y : Value} (hx : tmps.getD u undef = x) (hy : tmps.getD v undef = y) {W : World} {tt : TypeId} {cs : Array Value} {d : TypeDesc} (hb : Blk W g tt cs)
  (hu : P.underlying ty = some d) (hd : (match d with | .struct _ | .array _ _ => true | _ => false) = true) (hi : (P.info? ty).map (·.size) = some cs.size) : (results fn tmps).run P W = .ok (.tuple #[.agg cs, x, y]) W := by
 have hl := run_loadVar_row (P := P) W g tt ty cs (0, 0) d hb hu hd hi
 have ht2 : tmps[t]?.getD undef = .pointer (some ⟨g, 0, none⟩) := by simpa using ht
 have hx2 : tmps[u]?.getD undef = x := by simpa using hx
 have hy2 : tmps[v]?.getD undef = y := by simpa using hy
 simp [results, h, ht2, hx2, hy2, asAddr, hl, Result.andThen_ok]
end Go.Proofs.YtfgipgpbjfhflaaGreat


namespace Go.Proofs.YtfgipgpbjfhflaaGreat
open Go.RowKit
set_option linter.unusedVariables false
set_option linter.unusedSimpArgs false

section
variable {f g : Nat → List Value} {z : Nat}
end
end Go.Proofs.YtfgipgpbjfhflaaGreat
