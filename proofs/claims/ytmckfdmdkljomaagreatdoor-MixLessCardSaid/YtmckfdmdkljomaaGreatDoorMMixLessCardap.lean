/-
 Operations, plainly: which may be, as the code and as the reference tell it.
-/
import Derived.Test.YtmckfdmdkljomaaGreatDoorMMixLessCardam
import Derived.Test.YtmckfdmdkljomaaGreatDoorMMixLessCardan
import Derived.Test.YtmckfdmdkljomaaGreatDoorMMixLessCardao
import Derived.Deep.AppendLies
import Derived.Deep.RegionLaw
import Derived.Lib.SliceRun
import Derived.Shelf.Spec.SlicesInsert
import Derived.Maps.Own
import Derived.Maps.OwnOps
import Derived.Maps.Views
import Derived.Lib.Overlaps
import Derived.Laws.Externs
import Derived.Laws.IdiomCopy
import Derived.Lib.AppendZerosOnto
import Derived.Laws.NewBlocks
import Derived.Laws.AppendOwnNone
namespace Go.Proofs.YtmckfdmdkljomaaGreatDoor
open Go.RowKit
set_option linter.unusedVariables false
set_option linter.unusedSimpArgs false
structure OV where
 kind : Int
 num : Int
 tgt : Int
theorem firstNone_iff {p : Nat -> Bool} {k : Nat} : (firstOf p k).isNone = true ↔ ∀ j, j < k -> p j = false := by
 constructor
 .
  intro h
  cases hf : firstOf p k with
  | none => exact firstOf_no hf
  | some i => rw [hf] at h; cases h
 . intro h; rw [firstOf_none h]; rfl
theorem firstSome_iff {p : Nat -> Bool} {k : Nat} : (firstOf p k).isSome = true ↔ ∃ j, j < k /\ p j = true := by
 constructor
 .
  intro h
  cases hf : firstOf p k with
  | none => rw [hf] at h; cases h
  | some i => exact ⟨i, (firstOf_spec hf).1, (firstOf_spec hf).2.1⟩
 .
  rintro ⟨j, h1, h2⟩
  cases hf : firstOf p k with
  | none => rw [firstOf_no hf j h1] at h2; cases h2
  | some i => rfl
def tyAt (bs : Nat -> BV) (k : Nat) (n : Int) : Int := match firstOf (numB bs n) k with | some i => (bs i).ty | none => 0
def safeT (t : Int) : Bool := decide (t = 11) || decide (t = 12)
def chgT (t : Int) : Bool := decide (t = 6) || decide (t = 7) || decide (t = 10)
def thereAt (bs : Nat -> BV) (k : Nat) (l : Nat -> OV) (i : Nat) : Bool := decide ((l i).tgt ≠ 0) && (firstOf (numB bs (l i).tgt) k).isNone
def thereB (bs : Nat -> BV) (k : Nat) (l : Nat -> OV) (n : Nat) : Bool := (firstOf (thereAt bs k l) n).isNone
def sameKT (a : OV) (l : Nat -> OV) (j : Nat) : Bool := decide ((l j).kind = a.kind) && decide ((l j).tgt = a.tgt)
def sameKN (a : OV) (l : Nat -> OV) (j : Nat) : Bool := decide ((l j).kind = a.kind) && decide ((l j).num = a.num)
def onceAt (l : Nat -> OV) (i : Nat) : Bool := (firstOf (sameKT (l i) l) i).isSome
def onceO (l : Nat -> OV) (n : Nat) : Bool := (firstOf (onceAt l) n).isNone
def sealAt (bs : Nat -> BV) (k : Nat) (l : Nat -> OV) (i : Nat) : Bool := decide ((l i).kind = 2) && ((firstOf (sameKN (l i) l) i).isSome || decide ((l i).tgt = 0) || decide (tyAt bs k (l i).tgt = 12) || chgT (tyAt bs k (l i).tgt))
def sealsB (bs : Nat -> BV) (k : Nat) (l : Nat -> OV) (n : Nat) : Bool := (firstOf (sealAt bs k l) n).isNone
def amongB (l : Nat -> OV) (n : Nat) (kind tgt : Int) : Bool := (firstOf (sameKT ⟨kind, 0, tgt⟩ l) n).isSome
def signAt (bs : Nat -> BV) (k : Nat) (l : Nat -> OV) (n i : Nat) : Bool := decide ((l i).kind = 1) && decide ((l i).tgt ≠ 0) && (safeT (tyAt bs k (l i).tgt) || chgT (tyAt bs k (l i).tgt) || amongB l n 2 (l i).tgt)
def signsB (bs : Nat -> BV) (k : Nat) (l : Nat -> OV) (n : Nat) : Bool := (firstOf (signAt bs k l n) n).isNone
def rulesB (bs : Nat -> BV) (k : Nat) (l : Nat -> OV) (n : Nat) : Bool := thereB bs k l n && onceO l n && sealsB bs k l n && signsB bs k l n
def FormV (eb : Addr) : Value := .iface 249 (.pointer (some eb))
def FormAt (w : World) (eb : Addr) : Prop := w.cell? ⟨0, 0, none⟩ = some (FormV eb) /\ 0 < w.heap.size
theorem FormAt.mod {w w' : World} {eb : Addr} {S : List Nat} (h : FormAt w eb) (hm : Mod S w w') (h1 : 0 ∉ S) : FormAt w' eb :=
 ⟨(hm.cell h.2 h1).trans h.1, Nat.lt_of_lt_of_le h.2 hm.size⟩
theorem FormAt.ext {w w' : World} {eb : Addr} (h : FormAt w eb) (hm : Ext w w') : FormAt w' eb := h.mod hm (by simp)
def errV (eb : Addr) : List (List UInt8) -> Value
 | [] => FormV eb
 | s :: l => .iface 180 (.agg #[str s, errV eb l])
set_option maxRecDepth 20000 in
theorem wrong_any (s : List UInt8) (eb : Addr) (w : World) (h : FormAt w eb) : Calls Tryz.prog 121 #[str s] w (Ret (errV eb [s]) w) := by
 have h0 : w.cell? ⟨0, 0, none⟩ = some (.iface 249 (.pointer (some eb))) := h.1
 clear h
 go_enter Tryz.func121, Tryz.ntmps121
 go_wp2_with fail
 go_ret
 exact Ret.mk rfl (Mod.refl _ _)
def numErr (t : T) (eb : Addr) : Value := if t.kind = 0 then .tuple #[.int .i64 (min (t.n : Int) 65536), .nilIface] else .tuple #[.int .i64 0, errV eb [[110, 117, 109, 98, 101, 114]]]
set_option maxRecDepth 20000 in
theorem anum_any (t : T) (A : Option Addr) (c : Nat) (eb : Addr) (w : World) (h : FormAt w eb) : Calls Tryz.prog 123 #[itemV t A c] w (Ret (numErr t eb) w) := by
 have HE := hid ((Mod.refl [] w).alloc (.cells (itemC t A c) 68))
 have HB := hid (Blk.new w 68 (itemC t A c))
 have KW : Hid (∀ W, FormAt W eb -> Calls Tryz.prog 121 #[str [110, 117, 109, 98, 101, 114]] W (Ret (errV eb [[110, 117, 109, 98, 101, 114]]) W)) := hid (fun W hW => wrong_any _ eb W hW)
 have HF := hid (h.ext HE.out)
 clear h
 have c0 : (w.alloc (.cells (itemC t A c) 68)).cell? ⟨w.heap.size, 0, none⟩ = some (.int .i64 t.kind) := HB.out.cell 0
 have c1 : (w.alloc (.cells (itemC t A c) 68)).cell? ⟨w.heap.size, 1, none⟩ = some (.int .u64 (t.n : Int)) := HB.out.cell 1
 by_cases hk : t.kind = 0
 .
  have HP : Hid (numErr t eb = .tuple #[.int .i64 (min (t.n : Int) 65536), .nilIface]) := hid (if_pos hk)
  have t1a : ((t.kind) == (0)) = true := by rw [beq_iff_eq]; exact hk
  have t1b : ((t.kind) = (0)) = True := eq_true hk
  have t1c : ((t.kind) != (0)) = false := by rw [bne_eq_false_iff_eq]; exact hk
  clear hk
  go_enter Tryz.func123, Tryz.ntmps123
  go_wp2_with fail
  all_goals go_ret2
  all_goals exact Ret.mk (by rw [HP.out]; first | rfl | (rw [show min (t.n : Int) 65536 = 65536 by omega]; rfl) | (rw [show min (t.n : Int) 65536 = (t.n : Int) by omega]; rfl)) HE.out
 .
  have HP : Hid (numErr t eb = .tuple #[.int .i64 0, errV eb [[110, 117, 109, 98, 101, 114]]]) := hid (if_neg hk)
  have t1a : ((t.kind) == (0)) = false := by rw [beq_eq_false_iff_ne]; exact hk
  have t1b : ((t.kind) = (0)) = False := eq_false hk
  have t1c : ((t.kind) != (0)) = true := by rw [bne_iff_ne]; exact hk
  clear hk
  go_enter Tryz.func123, Tryz.ntmps123
  go_wp2_with (go_at_call 121; refine (KW.out _ HF.out).mono ?_; rintro x w1 ⟨rfl, hb⟩; have HX := hid hb; clear hb)
  go_ret2
  exact Ret.mk (by rw [HP.out]; rfl) (HE.out.trans HX.out)
theorem kidsA {W : World} {Q : Nat -> Prop} {t : T} {A : Option Addr} (h : IsL W Q t A) {i : Nat} (hi : i < t.k) : ∃ (b o : Nat) (Ai : Option Addr) (ci : Nat), A = some ⟨b, o, none⟩ /\ b < W.heap.size /\ Q b /\ At5 W b (o + i * 5) (t.ch i) Ai ci /\ IsL W Q (t.ch i) Ai := by
 cases t with
 | nil => exact absurd hi (Nat.not_lt_zero _)
 | mk kd n s op k ch =>
  obtain ⟨b, o, hA, hb, hq, hc⟩ := h (by have hi : i < k := hi; omega)
  obtain ⟨Ai, ci, h1, h2⟩ := hc i hi
  exact ⟨b, o, Ai, ci, hA, hb, hq, h1, h2⟩
def numK (t : T) (i : Nat) : Bool := decide ((t.ch i).kind = 0)
def tgtN (t : T) (i : Nat) : Int := min ((t.ch i).n : Int) 65536
set_option maxRecDepth 20000 in
set_option maxHeartbeats 4000000 in
theorem areadT_any (t : T) (hk : t.k <= 1000) (A : Option Addr) (c : Nat) (eb : Addr) (w : World) (hf : FormAt w eb) (h : IsL w (fun _ => True) t A) : Calls Tryz.prog 122 #[itemV t A c] w (fun e w' => (T.all (numK t) t.k = false /\ e = .returned (.tuple #[.slice none 0 0, errV eb [[116, 97, 114, 103, 101, 116, 115], [110, 117, 109, 98, 101, 114]]]) /\ Ext w w') \/ (T.all (numK t) t.k = true /\ ∃ A' c', e = .returned (.tuple #[.slice A' t.k c', .nilIface]) /\ Ext w w' /\ w'.ownsRow w.heap.size 3 1 (.slice A' t.k c') t.k (flatG (numsF (tgtN t)) t.k))) := by
 have HK := hid hk
 have k0 : (t.k : Int) <= 1000 := by omega
 have HE := hid ((Mod.refl [] w).alloc (.cells (itemC t A c) 68))
 have HB := hid (Blk.new w 68 (itemC t A c))
 have HL := hid h
 have HF := hid hf
 have HSW : Hid (w.heap.size < (w.alloc (.cells (itemC t A c) 68)).heap.size) := hid HB.out.lt
 clear h hf hk
 go_enter Tryz.func122, Tryz.ntmps122
 go_upto_region 1 with fail
 generalize w.alloc (.cells (itemC t A c) 68) = V at *
 have z3 : V.cell? ⟨w.heap.size, 3, none⟩ = some (.slice A t.k c) := HB.out.cell 3
 go_wp2_with fail
 clear z3
 have HW0 := HE
 obtain ⟨k, hkk⟩ : ∃ k, t.k = k := ⟨_, rfl⟩
 have HKK := hid hkk
 rw [hkk] at k0 ⊢
 clear hkk
 go_loopw [4, 12] (fun s4 s12 wr => ∃ (i : Nat) (A' : Option Addr) (c' : Nat), s12 = .int .i64 (i : Int) /\ s4 = .slice A' i c' /\ Hid (i <= k /\ Ext w wr /\ wr.ownsRow w.heap.size 3 1 (.slice A' i c') i (flatG (numsF (tgtN t)) i) /\ T.all (numK t) i = true)) (fun _ s12 _ => k - (intOf s12).toNat)
 case atStart => exact ⟨0, none, 0, rfl, rfl, (show Hid _ from ⟨Nat.zero_le _, HW0.out, World.ownsRow_nil _ _ _ _, rfl⟩)⟩
 case round =>
  clear HW0
  obtain ⟨i, A', c', rfl, rfl, hS⟩ := hrel
  rename World => wr
  have i0 : (0 : Int) <= (i : Int) := by omega
  by_cases hlt : i < k
  .
   obtain ⟨b, o, Ai, ci, rfl, hb, _, hat, hI⟩ := kidsA (HL.out.ext hS.out.2.1) (i := i) (by rw [HKK.out]; exact hlt)
   obtain ⟨q0, q1, q2, q3, q4⟩ := hat
   have tc : decide (i < k) = true := by simp [hlt]
   have i1 : (i : Int) < (k : Int) := by omega
   have HLT := hid hlt
   clear hlt hI hb
   go_upto_region 5 with fail
   generalize hW1 : World.alloc wr _ = W1
   have HG1 : Hid (Blk W1 wr.heap.size 68 (itemC (t.ch i) Ai ci)) := hid (by rw [<- hW1]; exact Blk.new _ _ _)
   have hS1 : Hid (i <= k /\ Ext w W1 /\ W1.ownsRow w.heap.size 3 1 (.slice A' i c') i (flatG (numsF (tgtN t)) i) /\ T.all (numK t) i = true) := hid (by
    have h := hS.out
    rw [<- hW1]; exact ⟨h.1, h.2.1.alloc _, h.2.2.1.alloc _, h.2.2.2⟩)
   clear hW1 hS q0 q1 q2 q3 q4
   generalize wr.heap.size = G at *
   have HGL : Hid (∀ e : Later W1, Blk e.x G 68 (itemC (t.ch i) Ai ci)) := hid (fun e => HG1.out.later e)
   have KN := hid (fun e : Later W1 => anum_any (t.ch i) Ai ci eb e.x (HF.out.ext (hS1.out.2.1.trans e.h)))
   obtain ⟨e, he⟩ := Later.self W1
   rw [he]
   clear he
   have tk1 : True := trivial
   by_cases hkd : (t.ch i).kind = 0
   case neg =>
    have KN : Hid (∀ e : Later W1, Calls Tryz.prog 123 #[itemV (t.ch i) Ai ci] e.x (Ret (.tuple #[.int .i64 0, .iface 180 (.agg #[str [110, 117, 109, 98, 101, 114], FormV eb])]) e.x)) := hid (fun e => by have h := KN.out e; unfold numErr at h; rw [if_neg hkd] at h; exact h)
    have HN : Hid (T.all (numK t) k = false) := hid (all_no HLT.out (show numK t i = false from decide_eq_false hkd))
    clear hkd
    go_wp2_with (first | (clear tk1; refine wpList_row (by rfl) 68 _ rfl _ rfl (HGL.out _) vqC rfl (by kernel_rfl) ?_) | (go_at_call 123; refine (Ret.later (KN.out _)).mono ?_; rintro x _ ⟨rfl, e, rfl⟩))
    go_ret2
    rw [HKK.out]
    exact .inl ⟨HN.out, rfl, hS1.out.2.1.trans e.h⟩
   have KN : Hid (∀ e : Later W1, Calls Tryz.prog 123 #[itemV (t.ch i) Ai ci] e.x (Ret (.tuple #[.int .i64 (tgtN t i), .nilIface]) e.x)) := hid (fun e => by have h := KN.out e; unfold numErr at h; rw [if_pos hkd] at h; exact h)
   have HY : Hid (numK t i = true) := hid (decide_eq_true hkd)
   obtain ⟨ib, hi, hz0, hz1, hz2⟩ := info_parts infoInt
   have HOWN : Hid (∀ e : Later W1, e.x.ownsRow w.heap.size 3 1 (.slice A' i c') i (flatG (numsF (tgtN t)) i)) := hid (fun e => ownsRow_mod hS1.out.2.2.1 e.h (fun _ _ => by simp))
   have HSZ1 : Hid (w.heap.size <= W1.heap.size) := hid hS1.out.2.1.size
   clear hkd
   go_wp2_with (first | (clear tk1; refine wpList_row (by rfl) 68 _ rfl _ rfl (HGL.out _) vqC rfl (by kernel_rfl) ?_) | (go_at_call 123; refine (Ret.later (KN.out _)).mono ?_; rintro x _ ⟨rfl, e, rfl⟩) | (at_builtin; refine wpList_append_own _ rfl _ _ 30 rfl w.heap.size 3 ib _ 1 8 Tryz.underlying30 hi hz0 hz1 hz2 rfl (by decide) _ _ _ rfl ((HOWN.out e).alloc _) ⟨e.x.heap.size, 0, none⟩ 1 1 [.int .i64 (tgtN t i)] rfl rfl (fun j u hu => by (match j, hu with | 0, hu => (simp at hu; subst hu; rw [addr_add]; exact (Blk.new _ _ _).cell 0))) (by simp [Value.oneCell']) (by have := HLT.out; have := HK.out; have := HKK.out; simp [maxLen]; omega) (by have := HLT.out; have := HK.out; have := HKK.out; omega) (by have := HSZ1.out; have := e.h.size; simp; omega) ?_; intro v' w4 hown' hgrow _; obtain ⟨g', c4, rfl, hg', hlt'⟩ := own_form hown'; have hE4 := own_turned ((HOWN.out e).alloc _) ((hS1.out.2.1.trans e.h).alloc _) hgrow (Nat.le_refl _); have HO4 := hid hown'; have HE4 := hid hE4; clear hown' hgrow hE4 hg' hlt'))
   go_roundw
   case rel => exact ⟨i + 1, some ⟨g', 0, none⟩, c4, by go_num, rfl, (show Hid _ from ⟨HLT.out, HE4.out, by simpa [flatG] using HO4.out, by rw [T.all, hS1.out.2.2.2, HY.out]; rfl⟩)⟩
   case measure => have := HLT.out; simp [intOf]; omega
  .
   obtain rfl : i = k := by have := hS.out.1; omega
   have tc : decide (i < i) = false := by simp
   have HFIN := hid hS.out
   clear hS
   go_wp2_with fail
   go_ret2
   rw [HKK.out]
   exact .inr ⟨HFIN.out.2.2.2, A', c', rfl, HFIN.out.2.1, HFIN.out.2.2.1⟩
theorem infoPair : (Tryz.prog.info? 70).map (fun i => (i.zero, i.size, i.bytes)) = some (some (.agg #[.int .i64 0, .int .i64 0, .int .u64 0, .string ⟨#[]⟩, .slice none 0 0, .bool false]), 6, 72) := by kernel_rfl
def pairK (t : T) (i : Nat) : Bool := decide ((t.ch i).k = 2) && decide (((t.ch i).ch 0).kind = 0)
def pairP (t : T) (i : Nat) : PR := ⟨min (((t.ch i).ch 0).n : Int) 65536, ((t.ch i).ch 1)⟩
def PairsPost (Q : Nat -> Prop) (t : T) (eb : Addr) (w : World) (e : Ending) (w' : World) : Prop :=
 (T.all (pairK t) t.k = false /\ ∃ l, e = .returned (.tuple #[.slice none 0 0, errV eb ([112, 97, 105, 114] :: l)]) /\ Ext w w') \/
 (T.all (pairK t) t.k = true /\ ∃ A' c', e = .returned (.tuple #[.slice A' t.k c', .nilIface]) /\ Ext w w' /\ t.k <= c' /\ PsL w' (fun b => (Q b /\ b < w.heap.size) \/ w.heap.size <= b) A' ⟨t.k, pairP t⟩)
set_option maxRecDepth 20000 in
set_option maxHeartbeats 8000000 in
theorem areadP_any {Q : Nat -> Prop} (t : T) (hk : t.k <= 1000) (A : Option Addr) (c : Nat) (eb : Addr) (w : World) (hf : FormAt w eb) (h : IsL w Q t A) : Calls Tryz.prog 125 #[itemV t A c] w (PairsPost Q t eb w) := by
 have HK := hid hk
 have k0 : (t.k : Int) <= 1000 := by omega
 have HE := hid ((Mod.refl [] w).alloc (.cells (itemC t A c) 68))
 have HB := hid (Blk.new w 68 (itemC t A c))
 have HL : Hid (IsL w (fun b => Q b /\ b < w.heap.size) t A) := hid (IsL.weak (fun b hb hq => ⟨hq, hb⟩) _ h)
 have HF := hid hf
 clear h hf hk
 go_enter Tryz.func125, Tryz.ntmps125
 go_upto_region 1 with fail
 generalize w.alloc (.cells (itemC t A c) 68) = V at *
 have z3 : V.cell? ⟨w.heap.size, 3, none⟩ = some (.slice A t.k c) := HB.out.cell 3
 go_wp2_with fail
 clear z3
 have HW0 := HE
 obtain ⟨k, hkk⟩ : ∃ k, t.k = k := ⟨_, rfl⟩
 have HKK := hid hkk
 rw [hkk] at k0
 clear hkk
 go_loopw [4, 12] (fun s4 s12 wr => ∃ (i : Nat) (A' : Option Addr) (c' : Nat) (ac : Nat -> Option Addr × Nat), s12 = .int .i64 (i : Int) /\ s4 = .slice A' i c' /\ Hid (i <= k /\ Ext w wr /\ RwG pairH 70 wr (fun b => Q b /\ b < w.heap.size) w.heap.size A' c' i (pairP t) ac /\ T.all (pairK t) i = true)) (fun _ s12 _ => k - (intOf s12).toNat)
 case atStart => exact ⟨0, none, 0, fun _ => (none, 0), by first | rfl | (rw [HKK.out]), rfl, (show Hid _ from ⟨Nat.zero_le _, HW0.out, RwG.nil, rfl⟩)⟩
 case round =>
  clear HW0
  obtain ⟨i, A', c', ac, rfl, rfl, hS⟩ := hrel
  rename World => wr
  have i0 : (0 : Int) <= (i : Int) := by omega
  by_cases hlt : i < k
  .
   obtain ⟨b, o, Ai, ci, rfl, hb, _, hat, hI⟩ := kidsA (HL.out.ext hS.out.2.1) (i := i) (by rw [HKK.out]; exact hlt)
   obtain ⟨q0, q1, q2, q3, q4⟩ := hat
   have tc : decide (i < k) = true := by simp [hlt]
   have td : decide (i < t.k) = true := by rw [HKK.out]; simp [hlt]
   have i1 : (i : Int) < (k : Int) := by omega
   have i2 : (i : Int) < (t.k : Int) := by rw [HKK.out]; omega
   have HLT := hid hlt
   have HI := hid hI
   clear hlt hI hb
   go_upto_region 5 with fail
   generalize hW1 : World.alloc wr _ = W1
   have HG1 : Hid (Blk W1 wr.heap.size 68 (itemC (t.ch i) Ai ci)) := hid (by rw [<- hW1]; exact Blk.new _ _ _)
   have hS1 : Hid (i <= k /\ Ext w W1 /\ RwG pairH 70 W1 (fun b => Q b /\ b < w.heap.size) w.heap.size A' c' i (pairP t) ac /\ T.all (pairK t) i = true) := hid (by
    have h := hS.out
    rw [<- hW1]; exact ⟨h.1, h.2.1.alloc _, h.2.2.1.ext ((Mod.refl [] _).alloc _), h.2.2.2⟩)
   have HI1 : Hid (IsL W1 (fun b => Q b /\ b < w.heap.size) (t.ch i) Ai) := hid (by rw [<- hW1]; exact HI.out.ext ((Mod.refl [] _).alloc _))
   clear hW1 hS q0 q1 q2 q3 q4 HI
   generalize wr.heap.size = G at *
   have g3 : ∀ e : Later W1, e.x.cell? ⟨G, 3, none⟩ = some (.slice Ai (t.ch i).k ci) := HG1.out.cellL 3 rfl
   have KW : Hid (∀ e : Later W1, Calls Tryz.prog 121 #[str [112, 97, 105, 114]] e.x (Ret (.iface 180 (.agg #[str [112, 97, 105, 114], FormV eb])) e.x)) := hid (fun e => wrong_any [112, 97, 105, 114] eb e.x (HF.out.ext (hS1.out.2.1.trans e.h)))
   by_cases hk2 : (t.ch i).k = 2
   case neg =>
    have HN : Hid (T.all (pairK t) k = false) := hid (all_no HLT.out (show pairK t i = false by unfold pairK; rw [decide_eq_false hk2]; rfl))
    have u1a : ((((t.ch i).k : Int)) == (2)) = false := by rw [beq_eq_false_iff_ne]; omega
    have u1b : ((((t.ch i).k : Int)) = (2)) = False := eq_false (by omega)
    have u1c : ((((t.ch i).k : Int)) != (2)) = true := by rw [bne_iff_ne]; omega
    have u2a : (((t.ch i).k) == (2)) = false := by rw [beq_eq_false_iff_ne]; exact hk2
    have u2b : (((t.ch i).k) = (2)) = False := eq_false (by exact hk2)
    have u2c : (((t.ch i).k) != (2)) = true := by rw [bne_iff_ne]; exact hk2
    clear hk2
    obtain ⟨e, he⟩ := Later.self W1
    rw [he]
    clear he
    go_wp2_with (first | (go_at_call 121; refine (Ret.later (KW.out _)).mono ?_; rintro x _ ⟨rfl, e, rfl⟩))
    go_ret2
    exact .inl ⟨by rw [HKK.out]; exact HN.out, [], rfl, hS1.out.2.1.trans e.h⟩
   obtain ⟨b2, o2, A0, c0, rfl, hb2, hq2, hat0, hI0⟩ := kidsA HI1.out (i := 0) (by omega)
   obtain ⟨b3, o3, A1, c1, h3, hb3, hq3, hat1, hI1⟩ := kidsA HI1.out (i := 1) (by omega)
   simp only [Option.some.injEq, Addr.mk.injEq, and_true] at h3
   obtain ⟨rfl, rfl⟩ := h3
   have HX0 := hid hat0
   have HX1 := hid hat1
   have HIL1 := hid hI1
   have HB2 := hid hb2
   have p0 : ∀ e : Later W1, At5 e.x b2 o2 ((t.ch i).ch 0) A0 c0 := fun e => by have := (HX0.out).mod e.h HB2.out (by simp); rwa [show o2 + 0 * 5 = o2 by omega] at this
   have p1 : ∀ e : Later W1, At5 e.x b2 (o2 + 5) ((t.ch i).ch 1) A1 c1 := fun e => by have := (HX1.out).mod e.h HB2.out (by simp); rwa [show o2 + 1 * 5 = o2 + 5 by omega] at this
   clear hat0 hat1 hI0 hI1 hb2 hb3 hq3
   rw [hk2] at g3
   have a0 : ∀ e : Later W1, e.x.cell? ⟨b2, o2, none⟩ = _ := fun e => (p0 e).1
   have a1 : ∀ e : Later W1, e.x.cell? ⟨b2, o2 + 1, none⟩ = _ := fun e => (p0 e).2.1
   have a2 : ∀ e : Later W1, e.x.cell? ⟨b2, o2 + 2, none⟩ = _ := fun e => (p0 e).2.2.1
   have a3 : ∀ e : Later W1, e.x.cell? ⟨b2, o2 + 3, none⟩ = _ := fun e => (p0 e).2.2.2.1
   have a4 : ∀ e : Later W1, e.x.cell? ⟨b2, o2 + 4, none⟩ = _ := fun e => (p0 e).2.2.2.2
   have KN := hid (fun e : Later W1 => anum_any ((t.ch i).ch 0) A0 c0 eb e.x (HF.out.ext (hS1.out.2.1.trans e.h)))
   obtain ⟨e, he⟩ := Later.self W1
   rw [he]
   clear he
   by_cases hkd : ((t.ch i).ch 0).kind = 0
   case neg =>
    have KN : Hid (∀ e : Later W1, Calls Tryz.prog 123 #[itemV ((t.ch i).ch 0) A0 c0] e.x (Ret (.tuple #[.int .i64 0, .iface 180 (.agg #[str [110, 117, 109, 98, 101, 114], FormV eb])]) e.x)) := hid (fun e => by have h := KN.out e; unfold numErr at h; rw [if_neg hkd] at h; exact h)
    have HN : Hid (T.all (pairK t) k = false) := hid (all_no HLT.out (show pairK t i = false by unfold pairK; rw [decide_eq_false hkd, Bool.and_false]))
    clear hkd
    go_wp2_with (first | (go_at_call 123; refine (Ret.later (KN.out _)).mono ?_; rintro x _ ⟨rfl, e, rfl⟩))
    go_ret2
    exact .inl ⟨by rw [HKK.out]; exact HN.out, [[110, 117, 109, 98, 101, 114]], rfl, hS1.out.2.1.trans e.h⟩
   have KN : Hid (∀ e : Later W1, Calls Tryz.prog 123 #[itemV ((t.ch i).ch 0) A0 c0] e.x (Ret (.tuple #[.int .i64 (pairP t i).id, .nilIface]) e.x)) := hid (fun e => by have h := KN.out e; unfold numErr at h; rw [if_pos hkd] at h; exact h)
   have HY : Hid (pairK t i = true) := hid (by unfold pairK; rw [decide_eq_true hk2, decide_eq_true hkd]; rfl)
   clear hkd
   go_upto_region 10 with (first | (go_at_call 123; refine (Ret.later (KN.out _)).mono ?_; rintro x _ ⟨rfl, e, rfl⟩))
   clear a0 a1 a2 a3 a4
   have a0 : ∀ e : Later W1, e.x.cell? ⟨b2, o2 + 5, none⟩ = _ := fun e => (p1 e).1
   have a1 : ∀ e : Later W1, e.x.cell? ⟨b2, o2 + 5 + 1, none⟩ = _ := fun e => (p1 e).2.1
   have a2 : ∀ e : Later W1, e.x.cell? ⟨b2, o2 + 5 + 2, none⟩ = _ := fun e => (p1 e).2.2.1
   have a3 : ∀ e : Later W1, e.x.cell? ⟨b2, o2 + 5 + 3, none⟩ = _ := fun e => (p1 e).2.2.2.1
   have a4 : ∀ e : Later W1, e.x.cell? ⟨b2, o2 + 5 + 4, none⟩ = _ := fun e => (p1 e).2.2.2.2
   obtain ⟨ib, hi, hz0, hz1, hz2⟩ := info_parts infoPair
   have HSZ1 : Hid (w.heap.size <= W1.heap.size) := hid hS1.out.2.1.size
   have hR1 := hS1.out.2.2.1.ext (e.h.alloc (.cells #[.int .i64 (pairP t i).id, .int .i64 ((t.ch i).ch 1).kind, .int .u64 (((t.ch i).ch 1).n : Int), str ((t.ch i).ch 1).s, .slice A1 ((t.ch i).ch 1).k c1, .bool ((t.ch i).ch 1).op] 70))
   have hI5 : pairH.hang (World.alloc e.x (.cells #[.int .i64 (pairP t i).id, .int .i64 ((t.ch i).ch 1).kind, .int .u64 (((t.ch i).ch 1).n : Int), str ((t.ch i).ch 1).s, .slice A1 ((t.ch i).ch 1).k c1, .bool ((t.ch i).ch 1).op] 70)) (fun b => (Q b /\ b < w.heap.size) /\ offA A' b) (pairP t i) (A1, c1) := IsL.weak (fun b _ hb => ⟨hb, fun g hg => by have hb2 : b < w.heap.size := hb.2; have := (hS1.out.2.2.1.off g hg).1; omega⟩) _ (HIL1.out.ext (e.h.alloc _))
   have HR1 := hid hR1
   have HI5 := hid hI5
   clear hR1 hI5
   go_wp2_with (at_builtin; refine wpList_append_lies _ rfl _ _ 62 rfl w.heap.size 70 ib _ 6 72 Tryz.underlying62 hi hz0 hz1 hz2 rfl (by decide) _ i _ (by rfl) HR1.out.own ⟨e.x.heap.size, 0, none⟩ 1 1 [.int .i64 (pairP t i).id, .int .i64 ((t.ch i).ch 1).kind, .int .u64 (((t.ch i).ch 1).n : Int), str ((t.ch i).ch 1).s, .slice A1 ((t.ch i).ch 1).k c1, .bool ((t.ch i).ch 1).op] (by rfl) (by rfl) (fun j u hu => by rw [addr_add, Nat.zero_add, (Blk.new e.x 70 #[.int .i64 (pairP t i).id, .int .i64 ((t.ch i).ch 1).kind, .int .u64 (((t.ch i).ch 1).n : Int), str ((t.ch i).ch 1).s, .slice A1 ((t.ch i).ch 1).k c1, .bool ((t.ch i).ch 1).op]).cell j]; simpa using hu) (by intro u hu; simp at hu; rcases hu with rfl | rfl | rfl | rfl | rfl | rfl <;> rfl) (by decide) (by have := HLT.out; have := HK.out; have := HKK.out; unfold maxLen; omega) (by have := HLT.out; have := HK.out; have := HKK.out; omega) (by have := HSZ1.out; have := e.h.size; simp; omega) (e.x.heap.size + 1) (by simp) ?_; intro g' cp' w4 hown' hgr' hat' hlt'; obtain ⟨ac', hR5⟩ := HR1.out.append HI5.out rfl hown' hgr' (by simpa using hat'); have HM5 := hid (grown_obs hgr'); have HR5 := hid hR5; clear hown' hgr' hat' hlt' hR5)
   go_roundw
   case rel => exact ⟨i + 1, some ⟨g', 0, none⟩, cp', ac', by go_num, rfl, (show Hid _ from ⟨HLT.out, (((hS1.out.2.1.trans (e.h.alloc _)).of_ext (S := obs A')).trans HM5.out).new (fun k hk => .inr (by
    cases A' with
    | none => cases hk
    | some g => have := (HR1.out.off g rfl).1; simp [obs] at hk; omega)), HR5.out, by rw [T.all, hS1.out.2.2.2, HY.out]; rfl⟩)⟩
   case measure => have := HLT.out; simp [intOf]; omega
  .
   obtain rfl : i = k := by have := hS.out.1; omega
   have tc : decide (i < i) = false := by simp
   have td : decide (i < t.k) = false := by rw [HKK.out]; simp
   have i2 : ¬ (i : Int) < (t.k : Int) := by rw [HKK.out]; omega
   have HFIN := hid hS.out
   clear hS
   go_wp2_with fail
   go_ret2
   unfold PairsPost
   rw [HKK.out]
   exact .inr ⟨HFIN.out.2.2.2, A', c', rfl, HFIN.out.2.1, HFIN.out.2.2.1.cap, (HFIN.out.2.2.1.weak (R := fun b => (Q b /\ b < w.heap.size) \/ w.heap.size <= b) (fun _ _ h => .inl h)).ps (fun _ h => .inr h)⟩
theorem NsL.news {w : World} {b o k : Nat} {f : Nat -> Int} (h : ∀ i, i < k -> w.cell? ⟨b, o + i, none⟩ = some (.int .i64 (f i))) : ∀ j u, (flatG (numsF f) k)[j]? = some u -> w.cell? ((⟨b, o, none⟩ : Addr).add j) = some u :=
 flatG_news (z := 1) (by decide) (numsF_len f) fun i hi r u hu => by
  match r, hu with
  | 0, hu =>
   simp at hu
   subst hu
   rw [Nat.mul_one, Nat.add_zero]; exact h i hi
def delN (f : Nat -> Int) (i j : Nat) : Int := if j < i then f j else f (j + 1)
theorem infoPairs : (Tryz.prog.info? 62).map (fun i => (i.zero, i.size, i.bytes)) = some (some (.slice none 0 0), 1, 24) := by kernel_rfl
def PL.fits (p : PL) : Prop := p.k <= 100000 /\ ∀ i, i < p.k -> (p.a i).t.size <= 100000
def AV.fits (a : AV) : Prop := a.tk <= 100000 /\ a.ps.fits /\ a.rk <= 100000 /\ ∀ i, i < a.rk -> (a.rs i).fits
def cntW (i j : Nat) : Nat := if j <= i then j else j - 1
def woP (f : Nat -> PL) (i j : Nat) : PL := if j < i then f j else f (j + 1)
def AV.wo (a : AV) (i : Nat) : AV := ⟨a.tk - 1, delN a.tg i, a.ctx, a.src, a.ps, cntW i a.rk, woP a.rs i⟩
def zeroA : AV := ⟨0, fun _ => 0, 0, ⟨0, [], 0, 0⟩, ⟨0, fun _ => ⟨0, T.nil⟩⟩, 0, fun _ => ⟨0, fun _ => ⟨0, T.nil⟩⟩⟩
def zeroM : AA := ⟨none, 0, none, 0, none, 0⟩
theorem At5.range {w : World} {b o : Nat} {t : T} {A : Option Addr} {c : Nat} (h : At5 w b o t A c) : w.rangeAt b o [.int .i64 t.kind, .int .u64 (t.n : Int), str t.s, .slice A t.k c, .bool t.op] := fun j v hj => by
 match j, hj with
 | 0, hj => simp at hj; subst hj; exact h.1
 | 1, hj => simp at hj; subst hj; exact h.2.1
 | 2, hj => simp at hj; subst hj; exact h.2.2.1
 | 3, hj => simp at hj; subst hj; exact h.2.2.2.1
 | 4, hj => simp at hj; subst hj; exact h.2.2.2.2
def Crc.tab : List Nat := [28, 27, 26, 25, 23, 22, 20, 19, 18, 14, 13, 11, 10, 9, 8, 6, 0]
theorem blkT_last {ty num fl crc : Nat} {data s t : List UInt8} (hc : ¬ crc = 0) (ch : Nat -> T) (hch : blkT ty num fl crc data s = T.mk 4 0 [] false 6 ch) : lastT ch t = blkT ty num fl crc data t := by
 unfold blkT at hch ⊢
 rw [if_neg hc] at hch ⊢
 have h := (T.mk.inj hch).2.2.2.2.2
 subst h
 unfold lastT
 congr 1
 funext i
 by_cases e : i = 5
 . subst e; simp
 . simp [e]
theorem blkT_right {ty num fl crc : Nat} {data s : List UInt8} (d : Nat) (hd : 2 <= d) : (blkT ty num fl crc data s).right d = true := by
 unfold blkT T.right
 rw [if_neg (by omega)]
 simp only [Bool.and_eq_true]
 constructor
 . split <;> rfl
 .
  rw [T.all_iff]
  intro i hi
  have hi6 : i < 6 := by split at hi <;> omega
  have hd1 : ¬ d - 1 < 1 := by omega
  have h6 : i = 0 \/ i = 1 \/ i = 2 \/ i = 3 \/ i = 4 \/ i = 5 := by omega
  rcases h6 with rfl | rfl | rfl | rfl | rfl | rfl <;> simp [numT, strT, T.right, hd1, T.node, T.all]
theorem sum_le {f : Nat -> Nat} {B : Nat} (h : ∀ i, f i <= B) : ∀ k, T.sum f k <= k * B
 | 0 => by simp [T.sum]
 | k + 1 => by have := sum_le h k; have := h k; rw [T.sum, Nat.succ_mul]; omega
theorem blkT_size {ty num fl crc : Nat} {data s : List UInt8} (h5 : data.length <= 4000) (h6 : s.length <= 4000) : (blkT ty num fl crc data s).size <= 100000 := by
 have hs : ∀ k, k <= 6 -> ∀ f : Nat -> Nat, (∀ i, f i <= 4001) -> 1 + ([] : List UInt8).length + T.sum f k <= 100000 := fun k hk f hf => by
  have := sum_le hf k
  have : k * 4001 <= 6 * 4001 := Nat.mul_le_mul_right _ hk
  simp
  omega
 unfold blkT T.size
 refine hs _ (by split <;> omega) _ (fun i => ?_)
 dsimp only
 split
 . simp [numT, T.size, T.sum]
 .
  split
  . simp [numT, T.size, T.sum]
  .
   split
   . simp [numT, T.size, T.sum]
   .
    split
    . simp [numT, T.size, T.sum]
    .
     split
     . simp [strT, T.size, T.sum]; omega
     .
      split
      . simp [strT, T.size, T.sum]; omega
      . simp [T.size]
def blkB (ty num fl crc : Nat) (data sum : List UInt8) : List UInt8 :=
 headL 4 (if crc = 0 then 5 else 6) ++ headL 0 ty ++ headL 0 num ++ headL 0 fl ++ headL 0 crc ++ (headL 2 data.length ++ data) ++ (if crc = 0 then [] else headL 2 sum.length ++ sum)
theorem blkT_bytes (ty num fl crc : Nat) (data sum : List UInt8) : (blkT ty num fl crc data sum).bytes = blkB ty num fl crc data sum := by
 unfold blkT blkB
 by_cases hc : crc = 0
 .
  subst hc
  simp [T.bytes, T.cat, numT, strT]
 . simp [hc, T.bytes, T.cat, numT, strT]
theorem blkB_length {ty num fl crc : Nat} {data sum : List UInt8} (h5 : data.length <= 4000) (h6 : sum.length <= 4000) : (blkB ty num fl crc data sum).length < 1000000 := by
 have a1 := headL_le 4 5
 have a0 := headL_le 4 6
 have a2 := headL_le 0 ty
 have a3 := headL_le 0 num
 have a4 := headL_le 0 fl
 have a5 := headL_le 0 crc
 have a6 := headL_le 2 data.length
 have a7 := headL_le 2 sum.length
 unfold blkB
 simp only [List.length_append]
 split <;> simp <;> omega
def sumB (ty num fl crc : Nat) (data : List UInt8) : List UInt8 := if crc = 0 then [] else Crc.sumL crc (blkB ty num fl crc data (List.replicate (2 * crc) 0))
def finT (ty num fl crc : Nat) (data : List UInt8) : T := blkT ty num fl crc data (sumB ty num fl crc data)
theorem sumB_length {ty num fl crc : Nat} {data : List UInt8} (hc : crc <= 2) : (sumB ty num fl crc data).length = 2 * crc := by
 unfold sumB
 split
 . subst crc; rfl
 . exact Crc.sumL_length (by omega) hc _
theorem sumOf {ty num fl crc : Nat} {data : List UInt8} (h1 : ty <= 65535) (h2 : num <= 65535) (h3 : fl <= 255) (h4 : crc <= 2) (h5 : data.length <= 4000) :
  Hid (∀ N A c W, N <= W.heap.size -> IsL W (fun b => N <= b) (blkT ty num fl crc data []) A -> Calls Tryz.prog 165 #[.int .i64 (crc : Int), itemV (blkT ty num fl crc data []) A c] W (fun e w' => ∃ A c, e = .returned (itemV (finT ty num fl crc data) A c) /\ Ext W w' /\ IsL w' (fun b => N <= b) (finT ty num fl crc data) A)) := by
 intro N A c W hN hI
 by_cases hc : crc = 0
 .
  subst hc
  exact (summed_0 _ A c W).mono fun e w' ⟨he, hb⟩ => ⟨A, c, he, hb, hI.ext hb⟩
 .
  obtain ⟨ch, hch⟩ : ∃ ch, blkT ty num fl crc data [] = T.mk 4 0 [] false 6 ch := ⟨_, by unfold blkT; rw [if_neg hc]⟩
  have hl : ∀ t, lastT ch t = blkT ty num fl crc data t := fun t => blkT_last hc ch hch
  have hZ : (List.replicate (2 * crc) (0 : UInt8)).length <= 4000 := by simp; omega
  have hB : bldL (lastT ch (List.replicate (2 * crc) 0)) = blkB ty num fl crc data (List.replicate (2 * crc) 0) := by
   rw [hl, bldL, blkT_right 8 (by omega), if_pos rfl, blkT_bytes]
  have h := summed_any ch crc (by unfold Hid; omega) h4 (by rw [hl]; exact ⟨blkT_ok h1 h2 h3 h4 h5 hZ, blkT_size h5 hZ⟩) (by rw [hB]; exact blkB_length h5 hZ) N A c W hN (by rw [hch] at hI; exact hI)
  rw [hB, hl] at h
  have he : finT ty num fl crc data = blkT ty num fl crc data (Crc.sumL crc (blkB ty num fl crc data (List.replicate (2 * crc) 0))) := by unfold finT sumB; rw [if_neg hc]
  rw [<- he] at h
  rw [hch]
  exact h
theorem finV {ty num fl crc : Nat} {data : List UInt8} : buildV (finT ty num fl crc data) = .tuple #[str (blkB ty num fl crc data (sumB ty num fl crc data)), .int .i64 0] := by
 unfold buildV finT
 rw [blkT_right 8 (by omega), if_pos rfl, blkT_bytes]
theorem Build_any (ty num fl crc : Nat) (data : List UInt8) (hb : BV.right ⟨ty, num, fl, crc, data⟩ = 0) (w : World) : Calls Tryz.prog 112 #[BV.v ⟨ty, num, fl, crc, data⟩] w (Ret (.tuple #[str (blkB ty num fl crc data (sumB ty num fl crc data)), .int .i64 0]) w) := by
 have h := BV.right_zero hb
 simp only [] at h
 have hs := sumB_length (ty := ty) (num := num) (fl := fl) (data := data) (show crc <= 2 by omega)
 rw [<- finV]
 exact Build_ok ty num fl crc data hb (finT ty num fl crc data) (blkT_ok (by omega) (by omega) (by omega) (by omega) (by omega) (by omega)) (blkT_size (by omega) (by omega)) (sumOf (by omega) (by omega) (by omega) (by omega) (by omega)) w
theorem rHead_n (m n : Nat) (hm : m <= 7) (hn : n < 18446744073709551616) (w : World) : Calls Tryz.prog 65 #[.int .i64 (m : Int), .int .u64 (n : Int)] w (Ret (str (headL m n)) w) := by
 simpa using rhead_in (m : Int) (n : Int) (by omega) (by omega) (by omega) (by omega) w
theorem parse_back {x : T} (hx : x.right 8 = true) (hox : x.ok) : parseR x.bytes = (x.bytes.length, 0) := by
 have h := flt_bytes x 8 hx hox []
 rw [List.append_nil] at h
 unfold parseR
 rw [h]
 rw [if_neg (by rintro ⟨_, h⟩; exact Nat.lt_irrefl _ h)]
theorem same_mk {t : T} {kind : Int} {n : Nat} {s : List UInt8} {op : Bool} {k : Nat} {ch : Nat -> T} (h : (T.mk kind n s op k ch).same t = true) : t.kind = kind /\ t.n = n /\ t.s = s /\ t.op = op /\ t.k = k /\ ∀ i, i < k -> (ch i).same (t.ch i) = true := by
 unfold T.same at h
 simp only [Bool.and_eq_true, beq_iff_eq] at h
 obtain ⟨⟨⟨⟨⟨h1, h2⟩, h3⟩, h4⟩, h5⟩, h6⟩ := h
 exact ⟨h1.symm, h2.symm, h3.symm, h4.symm, h5.symm, T.all_iff.1 h6⟩
theorem readE_same {e : EV} (ho : e.ok = true) {t : T} (h : (eidT e).same t = true) : readE t = e := by
 rcases EV.ok_cases ho with rfl | ⟨name, rfl, hn, hl⟩ | ⟨node, svc, rfl, ha, hb⟩
 .
  obtain ⟨h1, h2, h3, h4, h5, h6⟩ := same_mk h
  have g0 := same_mk (h6 0 (by omega))
  have g1 : (numT 0).same (t.ch 1) = true := h6 1 (by omega)
  have g1 := same_mk g1
  have z : ¬ (t.kind ≠ 4 \/ t.k ≠ 2 \/ (t.ch 0).kind ≠ 0) := by rw [h1, h5, g0.1]; decide
  have z2 : ¬ ((t.ch 0).n = 2 /\ (t.ch 1).k = 2) := by rintro ⟨h, _⟩; rw [g0.2.1] at h; revert h; decide
  have z3 : ¬ ((t.ch 0).n = 1 /\ (t.ch 1).kind = 3) := by rintro ⟨_, h⟩; rw [g1.1] at h; revert h; decide
  unfold readE
  rw [if_neg z, if_neg z2, if_neg z3]
  rfl
 .
  have h0 : ¬ name = noneL := hn
  have e1 : eidT ⟨1, name, 0, 0⟩ = T.mk 4 0 [] false 2 fun i => if i = 0 then numT 1 else textT name := by simp [eidT, twoT, h0]
  rw [e1] at h
  obtain ⟨h1, h2, h3, h4, h5, h6⟩ := same_mk h
  have g0 := same_mk (h6 0 (by omega))
  have g1 : (textT name).same (t.ch 1) = true := h6 1 (by omega)
  have g1 := same_mk g1
  have z : ¬ (t.kind ≠ 4 \/ t.k ≠ 2 \/ (t.ch 0).kind ≠ 0) := by rw [h1, h5, g0.1]; decide
  have z2 : ¬ ((t.ch 0).n = 2 /\ (t.ch 1).k = 2) := by rintro ⟨h, _⟩; rw [g0.2.1] at h; revert h; decide
  have z3 : (t.ch 0).n = 1 /\ (t.ch 1).kind = 3 := by rw [g0.2.1, g1.1]; decide
  unfold readE
  rw [if_neg z, if_neg z2, if_pos z3, g1.2.2.1]
 .
  obtain ⟨h1, h2, h3, h4, h5, h6⟩ := same_mk h
  have g0 := same_mk (h6 0 (by omega))
  have g1 : (T.mk 4 0 [] false 2 (fun j => if j = 0 then numT node else numT svc)).same (t.ch 1) = true := h6 1 (by omega)
  have g1 := same_mk g1
  have k0 : (numT node).same ((t.ch 1).ch 0) = true := g1.2.2.2.2.2 0 (by omega)
  have k1 : (numT svc).same ((t.ch 1).ch 1) = true := g1.2.2.2.2.2 1 (by omega)
  have k0 := same_mk k0
  have k1 := same_mk k1
  have z : ¬ (t.kind ≠ 4 \/ t.k ≠ 2 \/ (t.ch 0).kind ≠ 0) := by rw [h1, h5, g0.1]; decide
  have z2 : (t.ch 0).n = 2 /\ (t.ch 1).k = 2 := ⟨g0.2.1, g1.2.2.2.2.1⟩
  unfold readE
  rw [if_neg z, if_pos z2, k0.2.1, k1.2.1]
theorem bv_nat {b : BV} (h : b.right = 0) : ∃ ty num : Nat, b = ⟨ty, num, b.fl, b.crc, b.data⟩ := by
 obtain ⟨ty, num, fl, crc, data⟩ := b
 have h := BV.right_zero h
 simp only [] at h
 obtain ⟨ty, rfl⟩ := Int.eq_ofNat_of_zero_le (show 0 <= ty by omega)
 obtain ⟨num, rfl⟩ := Int.eq_ofNat_of_zero_le (show 0 <= num by omega)
 exact ⟨ty, num, rfl⟩
section
open Go.Maps
theorem law3 : Keyed Tryz.prog 3 := int_keyed vqK
theorem zero3 (w : World) : (zeroValue 3).run Tryz.prog w = .ok (.int .i64 0) w := by kernel_rfl
abbrev UD := DataW Unit
def InI (x : Int) : Prop := -9223372036854775808 <= x /\ x <= 9223372036854775807
theorem InI.wf {x : Int} (h : InI x) : (Lit.int .i64 x).wf = true := by
 have := h
 simpa [InI, Lit.wf, IntKind.min, IntKind.max, IntKind.signed, IntKind.bits] using this
theorem keyOf3 {x : Int} (h : InI x) : keyOf Tryz.prog 3 (.int .i64 x) = some (.int .i64 x) := keyOf_int_mk vqK h.wf
def Counts (w : World) (m c : Nat) (f : Int -> Nat) : Prop :=
 ∃ D : UD, w.ownsMap Tryz.prog 3 (plainElem (H := Unit) Tryz.prog 3) m c D /\ ∀ id, InI id -> D.atKey (.int .i64 id) (.lit (.int .i64 0)) = .lit (.int .i64 (f id : Int))
theorem Counts.kept {w w' : World} {m c : Nat} {f : Int -> Nat} {S : List Nat} (h : Counts w m c f) (hm : Mod S w w') (hs : m ∉ S) : Counts w' m c f := by
 obtain ⟨D, ⟨es, clock, h1, h2, h3, h4⟩, h5⟩ := h
 have hlt : m < w.heap.size := by
  rcases Nat.lt_or_ge m w.heap.size with hlt | hge
  . exact hlt
  . rw [Array.getElem?_eq_none hge] at h1; cases h1
 exact ⟨D, ⟨es, clock, (hm.block m hlt hs).trans h1, h2, h3, h4⟩, h5⟩
theorem Counts.lt {w : World} {m c : Nat} {f : Int -> Nat} (h : Counts w m c f) : m < w.heap.size := by
 obtain ⟨D, h1, _⟩ := h
 exact h1.lt
theorem Counts.look {w : World} {m c : Nat} {f : Int -> Nat} (h : Counts w m c f) {id : Int} (hi : InI id) :
  (Instr.lookup 118 (.map (some m)) (.int .i64 id) false).run Tryz.prog w = .ok (.int .i64 (f id : Int)) w := by
 obtain ⟨D, hown, hat⟩ := h
 obtain ⟨v, hrun, h1, _⟩ := hown.lookup_int law3 Tryz.underlying118 vqK (zero3 w) (keyOf3 hi)
 rw [hat id hi] at h1
 have : v = (f id : Int) := by
  have := h1
  simp at this
  exact this.symm
 rw [hrun, this]
def upd (f : Int -> Nat) (id : Int) : Int -> Nat := fun x => if x = id then f id + 1 else f x
theorem Counts.put {w w' : World} {m c : Nat} {f : Int -> Nat} {D : UD} {id : Int} (hi : InI id) (hown : w.ownsMap Tryz.prog 3 (plainElem (H := Unit) Tryz.prog 3) m c D)
  (hat : ∀ id, InI id -> D.atKey (.int .i64 id) (.lit (.int .i64 0)) = .lit (.int .i64 (f id : Int)))
  (h1 : w'.ownsMap Tryz.prog 3 (plainElem (H := Unit) Tryz.prog 3) m (c + 1) (D.put (.int .i64 id) (.lit (.int .i64 ((f id : Int) + 1))))) : Counts w' m (c + 1) (upd f id) := by
 refine ⟨_, h1, fun x hx => ?_⟩
 obtain ⟨es, clock, e1, e2, e3, e4⟩ := hown
 by_cases e : x = id
 .
  subst e
  rw [atKey_put_same ⟨_, e4⟩ (by simp [WideAt.IsKeyLit])]
  simp [upd]
 .
  rw [atKey_put_other (by intro h; simp at h; exact e h)]
  rw [hat x hx]
  simp [upd, e]
theorem Counts.made (w : World) : Counts (w.alloc (.map #[] 0)) w.heap.size 0 (fun _ => 0) := ⟨.map [], World.ownsMap_made _ _ _ _, fun id _ => rfl⟩
theorem Counts.congr {w : World} {m c : Nat} {f g : Int -> Nat} (h : Counts w m c f) (e : ∀ x, f x = g x) : Counts w m c g := by
 obtain rfl : f = g := funext e
 exact h
end
def cellB (b : BV) : Nat -> Value
 | 0 => .int .i64 b.ty
 | 1 => .int .i64 b.num
 | 2 => .int .u64 (b.fl : Int)
 | 3 => .int .i64 b.crc
 | _ => str b.data
theorem flatB_at (bs : Nat -> BV) (k j : Nat) (hj : j < k * 5) : (flatB bs k)[j]? = some (cellB (bs (j / 5)) (j % 5)) := by
 obtain ⟨g0, g1, g2, g3, g4⟩ := flatB_get bs k (j / 5) (by omega)
 have h5 : j % 5 = 0 \/ j % 5 = 1 \/ j % 5 = 2 \/ j % 5 = 3 \/ j % 5 = 4 := by omega
 rcases h5 with h | h | h | h | h
 . rw [h, show j = j / 5 * 5 by omega]; simpa [cellB] using g0
 . rw [h, show j = j / 5 * 5 + 1 by omega]; simpa [cellB, show (j / 5 * 5 + 1) / 5 = j / 5 by omega] using g1
 . rw [h, show j = j / 5 * 5 + 2 by omega]; simpa [cellB, show (j / 5 * 5 + 2) / 5 = j / 5 by omega] using g2
 . rw [h, show j = j / 5 * 5 + 3 by omega]; simpa [cellB, show (j / 5 * 5 + 3) / 5 = j / 5 by omega] using g3
 . rw [h, show j = j / 5 * 5 + 4 by omega]; simpa [cellB, show (j / 5 * 5 + 4) / 5 = j / 5 by omega] using g4
theorem flatB_of (bs : Nat -> BV) (k : Nat) {l : List Value} (hl : l.length = k * 5) (h : ∀ j, j < k * 5 -> l[j]? = some (cellB (bs (j / 5)) (j % 5))) : l = flatB bs k := by
 apply List.ext_getElem?
 intro j
 by_cases hj : j < k * 5
 . rw [h j hj, flatB_at bs k j hj]
 . rw [List.getElem?_eq_none (by omega), List.getElem?_eq_none (by rw [flatB_length]; omega)]
def catB (ch : Nat -> BV) (n : Nat) (bs : Nat -> BV) (j : Nat) : BV := if j < n then ch j else bs (j - n)
theorem flatB_cat (ch bs : Nat -> BV) (n m : Nat) : flatB ch n ++ flatB bs m = flatB (catB ch n bs) (n + m) := by
 refine flatB_of _ _ (by rw [List.length_append, flatB_length, flatB_length]; omega) fun j hj => ?_
 unfold catB
 by_cases c : j < n * 5
 . rw [List.getElem?_append_left (by rw [flatB_length]; omega), flatB_at ch n j c, if_pos (by omega)]
 . rw [List.getElem?_append_right (by rw [flatB_length]; omega), flatB_length, flatB_at bs m _ (by omega), if_neg (by omega), show (j - n * 5) / 5 = j / 5 - n by omega, show (j - n * 5) % 5 = j % 5 by omega]
theorem wpList_append_B {w : World} {ops : Array Oper} {rest : List Oper} {o : Oper} {a : Act} {Q : Exit -> Act -> World -> Prop} (hgd : o.guard = none) (s x : Operand)
  (ho : o.op = .call { callee := .builtin .append, args := #[s, x], argTypes := #[27, 27] })
  (base : Nat) (v : Value) (n : Nat) (ch : Nat -> BV) (hs : a.eval s = v) (hown : w.ownsRow base 45 5 v n (flatB ch n)) (A : Option Addr) (m c : Nat) (bs : Nat -> BV) (hx : a.eval x = .slice A m c) (hnil : A = none -> m = 0 /\ c = 0) (hL : BsL w A m bs) (hnm : n + m <= 1000000) (hb : base <= w.heap.size)
  (h : ∀ v' w', w'.ownsRow base 45 5 v' (n + m) (flatB (catB ch n bs) (n + m)) -> w.grownBy w' v.ownBlock -> wpList Tryz.prog ops Q rest (a.put o.dst v') w') : wpList Tryz.prog ops Q (o :: rest) a w := by
 obtain ⟨i0, hi, hz0, hz1, hz2⟩ := info_parts infoBlock
 cases A with
 | none =>
  obtain ⟨rfl, rfl⟩ := hnil rfl
  refine wpList_append_own_none hgd s x 27 ho base 45 i0 5 Tryz.underlying27 hi v n (flatB ch n) hs hown hx (h v w ?_ ⟨rfl, rfl, rfl, Nat.le_refl _, fun _ _ _ => rfl⟩)
  have e := flatB_cat ch bs n 0
  rw [show flatB bs 0 = [] from rfl, List.append_nil] at e
  rw [Nat.add_zero] at e ⊢
  rw [<- e]
  exact hown
 | some ad =>
  have hnews : ∀ j u, (flatB bs m)[j]? = some u -> w.cell? (ad.add j) = some u := by
   intro j u hj
   have hm : 0 < m := by
    rcases Nat.eq_zero_or_pos m with e | e
    . subst e; simp [flatB] at hj
    . exact e
   obtain ⟨b, o', hA, hb, hc⟩ := hL hm
   cases hA
   exact flatB_news hc j u hj
  exact wpList_append_own _ hgd s x 27 ho base 45 i0 _ 5 48 Tryz.underlying27 hi hz0 hz1 hz2 rfl (by decide) v n (flatB ch n) hs hown ad m c (flatB bs m) hx (flatB_length bs m) hnews (flatB_one bs m) (by unfold maxLen; omega) (by omega) hb fun v' w' h1 h2 _ => h v' w' (by rw [<- flatB_cat]; exact h1) h2
theorem BsL.drop {w : World} {b o k : Nat} {bs : Nat -> BV} (h : BsL w (some ⟨b, o, none⟩) k bs) (i : Nat) : BsL w (some ⟨b, o + i * 5, none⟩) (k - i) (fun j => bs (i + j)) := fun h0 => by
 obtain ⟨b', o', hA, hb, hc⟩ := h (by omega)
 cases hA
 refine ⟨b, o + i * 5, rfl, hb, fun j hj => ?_⟩
 have := hc (i + j) (by omega)
 rw [show o + (i + j) * 5 = o + i * 5 + j * 5 by omega] at this
 exact this
theorem BsL.take {w : World} {A : Option Addr} {k : Nat} {bs : Nat -> BV} (h : BsL w A k bs) {i : Nat} (hi : i <= k) : BsL w A i bs := fun h0 => by
 obtain ⟨b', o', hA, hb, hc⟩ := h (by omega)
 exact ⟨b', o', hA, hb, fun j hj => hc j (by omega)⟩
theorem own_slA {w : World} {base n : Nat} {v : Value} {xs : List Value} (h : w.ownsRow base 45 5 v n xs) : ∃ A c, v = .slice A n c /\ SlA A n c := by
 rcases h.2 with ⟨rfl, rfl⟩ | ⟨g, cap, cur, rfl, _, _, h1, h2, _⟩
 . exact ⟨none, 0, rfl, fun _ => ⟨rfl, rfl⟩, Nat.le_refl _, Nat.zero_le _⟩
 . exact ⟨some ⟨g, 0, none⟩, cap, rfl, fun h => (by cases h), h1, h2⟩
def withB (bs : Nat -> BV) (i gone m : Nat) (ls : Nat -> BV) : Nat -> BV := catB (catB bs i ls) (i + m) (fun j => bs (i + gone + j))
set_option maxRecDepth 20000 in
set_option maxHeartbeats 4000000 in
theorem With_some (p : PV) (bs : Nat -> BV) (k c : Nat) (A : Option Addr) (hS : SlA A k c) (i gone : Nat) (hg : i + gone <= k) (m cl : Nat) (Al : Option Addr) (ls : Nat -> BV) (hSl : SlA Al m cl) (h0 : 0 < k) (hk : k <= 100000) (hm : m <= 1000) (w : World) (h : BsL w A k bs) (hl : BsL w Al m ls) :
  Calls Tryz.prog 9 #[bunV p A k c, .int .i64 i, .int .i64 gone, .slice Al m cl] w (fun e w' => ∃ A' c', e = .returned (bunV p A' (i + m + (k - (i + gone))) c') /\ Ext w w' /\ BsL w' A' (i + m + (k - (i + gone))) (withB bs i gone m ls) /\ SlA A' (i + m + (k - (i + gone))) c') := by
 have HE := hid (((Mod.refl [] w).alloc (.cells (bunC p A k c) 29)).alloc (.cells #[.int .u64 0, .int .i64 0, .int .i64 0, .string ⟨#[]⟩, .int .u64 0, .int .u64 0, .int .i64 0, .string ⟨#[]⟩, .int .u64 0, .int .u64 0, .int .i64 0, .string ⟨#[]⟩, .int .u64 0, .int .u64 0, .int .u64 0, .int .u64 0, .int .u64 0, .int .u64 0, .int .u64 0, .slice none 0 0] 29))
 have HB0 : Hid (Blk ((w.alloc (.cells (bunC p A k c) 29)).alloc (.cells #[.int .u64 0, .int .i64 0, .int .i64 0, .string ⟨#[]⟩, .int .u64 0, .int .u64 0, .int .i64 0, .string ⟨#[]⟩, .int .u64 0, .int .u64 0, .int .i64 0, .string ⟨#[]⟩, .int .u64 0, .int .u64 0, .int .u64 0, .int .u64 0, .int .u64 0, .int .u64 0, .int .u64 0, .slice none 0 0] 29)) w.heap.size 29 (bunC p A k c)) := hid ((Blk.new w 29 (bunC p A k c)).alloc (.cells #[.int .u64 0, .int .i64 0, .int .i64 0, .string ⟨#[]⟩, .int .u64 0, .int .u64 0, .int .i64 0, .string ⟨#[]⟩, .int .u64 0, .int .u64 0, .int .i64 0, .string ⟨#[]⟩, .int .u64 0, .int .u64 0, .int .u64 0, .int .u64 0, .int .u64 0, .int .u64 0, .int .u64 0, .slice none 0 0] 29))
 have HB1 : Hid (Blk ((w.alloc (.cells (bunC p A k c) 29)).alloc (.cells #[.int .u64 0, .int .i64 0, .int .i64 0, .string ⟨#[]⟩, .int .u64 0, .int .u64 0, .int .i64 0, .string ⟨#[]⟩, .int .u64 0, .int .u64 0, .int .i64 0, .string ⟨#[]⟩, .int .u64 0, .int .u64 0, .int .u64 0, .int .u64 0, .int .u64 0, .int .u64 0, .int .u64 0, .slice none 0 0] 29)) (w.heap.size + 1) 29 #[.int .u64 0, .int .i64 0, .int .i64 0, .string ⟨#[]⟩, .int .u64 0, .int .u64 0, .int .i64 0, .string ⟨#[]⟩, .int .u64 0, .int .u64 0, .int .i64 0, .string ⟨#[]⟩, .int .u64 0, .int .u64 0, .int .u64 0, .int .u64 0, .int .u64 0, .int .u64 0, .int .u64 0, .slice none 0 0]) := by unfold Hid; exact Blk.newL _ _ _ (by simp)
 have HL := hid (BsL.ext h HE.out)
 have HLl := hid (BsL.ext hl HE.out)
 obtain ⟨b, o, rfl, hb, _⟩ := h h0
 have hc := hS.2.1
 have hcm := hS.2.2
 obtain ⟨AD, hAD, hLD⟩ : ∃ AD : Addr, (if c = i + gone then (some ⟨b, o, none⟩ : Option Addr) else some ⟨b, o + (i + gone) * 5, none⟩) = some AD /\ ∀ W, BsL W (some ⟨b, o, none⟩) k bs -> BsL W (some AD) (k - (i + gone)) (fun j => bs (i + gone + j)) := by
  by_cases hh : c = i + gone
  .
   refine ⟨⟨b, o, none⟩, by simp [hh], fun W hW => ?_⟩
   intro h1; omega
  . exact ⟨⟨b, o + (i + gone) * 5, none⟩, by simp [hh], fun W hW => hW.drop (i + gone)⟩
 have HLD := hid hLD
 have HSl := hid hSl
 have HSn := hid hSl.1
 clear h hl hb hLD hS hSl
 have hi0 : (0 : Int) <= (i : Int) := by omega
 have hi1 : i <= c := by omega
 have hi2 : (i : Int) <= (c : Int) := by omega
 have hi3 : (i : Int) <= 100000 := by omega
 have hg0 : (0 : Int) <= (gone : Int) := by omega
 have hg1 : (gone : Int) <= 100000 := by omega
 have hw1 : IntKind.i64.wrap ((i : Int) + (gone : Int)) = (i : Int) + (gone : Int) := IntWalk.i64_in _ (by omega)
 have htn : ((i : Int) + (gone : Int)).toNat = i + gone := by omega
 have hg2 : (i : Int) + (gone : Int) <= (k : Int) := by omega
 have hg3 : (0 : Int) <= (i : Int) + (gone : Int) := by omega
 have hg4 : i + gone <= k := hg
 have hg5 : i + gone <= c := by omega
 have HW2 := hid (show w.heap.size + 1 < (((w.alloc (.cells (bunC p (some ⟨b, o, none⟩) k c) 29)).alloc (.cells #[.int .u64 0, .int .i64 0, .int .i64 0, .string ⟨#[]⟩, .int .u64 0, .int .u64 0, .int .i64 0, .string ⟨#[]⟩, .int .u64 0, .int .u64 0, .int .i64 0, .string ⟨#[]⟩, .int .u64 0, .int .u64 0, .int .u64 0, .int .u64 0, .int .u64 0, .int .u64 0, .int .u64 0, .slice none 0 0] 29))).heap.size by simp)
 go_enter Tryz.func9, Tryz.ntmps9
 go_upto_region 1 with fail
 generalize ((w.alloc (.cells (bunC p (some ⟨b, o, none⟩) k c) 29)).alloc (.cells #[.int .u64 0, .int .i64 0, .int .i64 0, .string ⟨#[]⟩, .int .u64 0, .int .u64 0, .int .i64 0, .string ⟨#[]⟩, .int .u64 0, .int .u64 0, .int .i64 0, .string ⟨#[]⟩, .int .u64 0, .int .u64 0, .int .u64 0, .int .u64 0, .int .u64 0, .int .u64 0, .int .u64 0, .slice none 0 0] 29)) = V at *
 have b19 : V.cell? ⟨w.heap.size, 19, none⟩ = some (.slice (some ⟨b, o, none⟩) k c) := HB0.out.cell 19
 go_upto_region 3 with (at_builtin; refine wpList_append_B rfl _ _ rfl V.heap.size (.slice none 0 0) 0 bs rfl (World.ownsRow_nil _ _ _ _) (some ⟨b, o, none⟩) i c bs rfl (fun h => by cases h) (HL.out.take (by omega)) (by omega) (Nat.le_refl _) ?_; intro v1 w1 ho1 hgr1)
 have HE1 : Hid (Ext V w1) := hid ((Mod.refl [] V).grown hgr1 (fun kk hkk => by cases hkk))
 have ho1' : w1.ownsRow V.heap.size 45 5 v1 i (flatB bs i) := by
  rw [Nat.zero_add, flatB_congr (bs' := bs) (fun j hj => show catB bs 0 bs j = bs j by unfold catB; simp)] at ho1
  exact ho1
 have HO1 := hid ho1'
 have HN1 : Hid (V.heap.size <= w1.heap.size) := hid HE1.out.size
 have HLl1 := hid (HLl.out.ext HE1.out)
 clear ho1 ho1' hgr1 b19
 go_upto_region 4 with (at_builtin; refine wpList_append_B rfl _ _ rfl V.heap.size v1 i bs rfl HO1.out Al m cl ls rfl HSn.out HLl1.out (by omega) HN1.out ?_; intro v2 w2 ho2 hgr2)
 have HE2 : Hid (Ext V w2) := hid (own_turned HO1.out HE1.out hgr2 (Nat.le_refl _))
 have HO2 := hid ho2
 have HN2 : Hid (V.heap.size <= w2.heap.size) := hid HE2.out.size
 have HD2 := hid (HLD.out w2 (HL.out.ext HE2.out))
 have b19 : w2.cell? ⟨w.heap.size, 19, none⟩ = some (.slice (some ⟨b, o, none⟩) k c) := (HB0.out.ext HE2.out).cell 19
 clear ho2 hgr2 HO1 HN1 HLl1 HLD
 go_upto_region 5 with (at_builtin; refine wpList_append_B rfl _ _ rfl V.heap.size v2 (i + m) (catB bs i ls) rfl HO2.out (some AD) (k - (i + gone)) (c - (i + gone)) (fun j => bs (i + gone + j)) rfl (fun h => by cases h) HD2.out (by omega) HN2.out ?_; intro v3 w3 ho3 hgr3)
 have HE3 : Hid (Ext V w3) := hid (own_turned HO2.out HE2.out hgr3 (Nat.le_refl _))
 obtain ⟨A', c', rfl, hsa⟩ := own_slA ho3
 have HSA := hid hsa
 have HLR : Hid (BsL w3 A' (i + m + (k - (i + gone))) (withB bs i gone m ls)) := hid (own_BsL ho3)
 have HLT : Hid (∀ kk o', A' = some ⟨kk, o', none⟩ -> w.heap.size + 1 < kk) := hid (fun kk o' hA => by
  subst hA
  have := (ho3.lt kk rfl).1
  have := HW2.out
  omega)
 clear ho3 hgr3 HO2 HN2 HD2 b19 hsa
 have HR3 := hid (HB1.out.ext HE3.out)
 have HPR : w3.rangeAt w.heap.size 0 p.c.toList := (HB0.out.range 0 19 (by rw [Array.toList_extract]; rfl)) ⟨w3, HE3.out⟩
 have HPRh := hid HPR
 clear HPR
 generalize hnn : i + m + (k - (i + gone)) = n3 at *
 have HNN := hid hnn
 clear hnn
 go_wp2_with (first | (refine wpList_mid (by rfl) 26 _ rfl _ 0 rfl _ _ HPRh.out vqJ rfl (by kernel_rfl) ?_) | (refine wpList_store_mid rfl 29 _ _ rfl (w.heap.size + 1) 0 (bunC p A' n3 c') (by rfl) (by rfl) (HR3.out.there (Nat.le_refl 20)) (by kernel_rfl) (by simp [Value.oneCell']) ?_))
 generalize hZ : World.setCells _ _ _ _ = Z
 have HZB : Hid (Blk Z (w.heap.size + 1) 29 (bunC p A' n3 c')) := hid (by rw [<- hZ]; exact setCells_all (ds := bunC p A' n3 c') HR3.out rfl)
 have HZM : Hid (Mod [w.heap.size + 1] w3 Z) := hid (by rw [<- hZ]; exact setCells_mod _ _ (Mod.refl _ _) (.inl (by simp)))
 clear hZ
 refine bodyPost_ret (v := bunV p A' n3 c') (results_cell Tryz.results9 _ rfl HZB.out vqA rfl (by kernel_rfl)) rfl ?_
 rw [HNN.out]
 refine ⟨A', c', rfl, Mod.new (S := [w.heap.size + 1]) ((HE.out.trans HE3.out).of_ext.trans HZM.out) (fun kk hkk => .inr (by simp at hkk; omega)), ?_, HSA.out⟩
 intro hn
 obtain ⟨bb, oo, hA, hbl, hcc⟩ := HLR.out hn
 have := HLT.out bb oo hA
 exact ⟨bb, oo, hA, Nat.lt_of_lt_of_le hbl HZM.out.size, fun j hj => (hcc j hj).mod HZM.out hbl (by simp; omega)⟩
end Go.Proofs.YtmckfdmdkljomaaGreatDoor
