/-
  Security texts: a target's results; what is left without it.
  Security texts, read: results.
  The name that an item may be.
  Items: the code's same.
  An argument item.Item, opened: it is a tree whose items lie in memory.
  The law ItemSame: its walk.
  The name of an item.
  Security texts: the reference's comparing, of texts that agree; where a target is.
  Security texts, read: all of it.
  Which names, primaries and bundles are of a size that is looked at.
  Security texts: of a size that is looked at; a number, and bytes, among pairs.
  Security texts: a number, and bytes, among pairs; the law AsbValues: its walk.
  Security texts: a number, and bytes, among pairs; the law AsbValues: its walk.
  Security texts: what the reference calls right but for its length.
-/
import Derived.Test.YtblfmokklfhklaaDoorMAsbLongCardc
import Derived.Deep.Slices
import Derived.Deep.Fields
import Derived.ChangeSame
import Derived.SizedLaws

namespace Go.Proofs.YtblfmokklfhklaaDoor
open Go.RowKit
set_option linter.unusedVariables false
set_option linter.unusedSimpArgs false

theorem infoPairs : (Tryd.prog.info? 28).map (fun i => (i.zero, i.size, i.bytes)) = some (some (.slice none 0 0), 1, 24) := by kernel_rfl
/-- No list is too long, and no value too great, to be copied. -/
def PL.fits (p : PL) : Prop := p.k ≤ 100000 ∧ ∀ i, i < p.k → (p.a i).t.size ≤ 100000
def AV.fits (a : AV) : Prop := a.tk ≤ 100000 ∧ a.ps.fits ∧ a.rk ≤ 100000 ∧ ∀ i, i < a.rk → (a.rs i).fits
def atT (a : AV) (t : Int) : Option Nat := firstOf (isN a.tg t) a.tk
theorem firstI_some {p : Nat → Bool} {k i : Nat} (h : firstOf p k = some i) : firstI p k = (i : Int) := by unfold firstI; rw [h]
theorem firstI_none {p : Nat → Bool} {k : Nat} (h : firstOf p k = none) : firstI p k = -1 := by unfold firstI; rw [h]
def ResPost (a : AV) (t : Int) (w : World) (e : Ending) (w' : World) : Prop :=
  Ext w w' ∧ match atT a t with
  | none => e = .returned (.tuple #[.slice none 0 0, .bool false])
  | some i => if i < a.rk then ∃ A' c', e = .returned (.tuple #[.slice A' (a.rs i).k c', .bool true]) ∧ PsL w' (fun b => w.heap.size ≤ b) A' (a.rs i) ∧ (a.rs i).k ≤ c' ∧ softA w' (fun b => w.heap.size ≤ b) A' else e = .returned (.tuple #[.slice none 0 0, .bool true])
/-- How many of the first j are left without i. -/
def cntW (i j : Nat) : Nat := if j ≤ i then j else j - 1
def woP (f : Nat → PL) (i j : Nat) : PL := if j < i then f j else f (j + 1)
/-- A text without its target at i. -/
def AV.wo (a : AV) (i : Nat) : AV := ⟨a.tk - 1, delN a.tg i, a.ctx, a.src, a.ps, cntW i a.rk, woP a.rs i⟩
def zeroA : AV := ⟨0, fun _ => 0, 0, ⟨0, [], 0, 0⟩, ⟨0, fun _ => ⟨0, T.nil⟩⟩, 0, fun _ => ⟨0, fun _ => ⟨0, T.nil⟩⟩⟩
def zeroM : AA := ⟨none, 0, none, 0, none, 0⟩
def WoPost (a : AV) (t : Int) (w : World) (e : Ending) (w' : World) : Prop :=
  Ext w w' ∧ match atT a t with
  | none => e = .returned (.tuple #[asbV zeroA zeroM, .bool false])
  | some i => ∃ m', e = .returned (.tuple #[asbV (a.wo i) m', .bool true]) ∧ AsL w' (fun b => w.heap.size ≤ b) (a.wo i) m'
end Go.Proofs.YtblfmokklfhklaaDoor


namespace Go.Proofs.YtblfmokklfhklaaDoor
open Go.RowKit
set_option linter.unusedVariables false
set_option linter.unusedSimpArgs false

def resK (t : T) (i : Nat) : Bool := T.all (pairK (t.ch i)) (t.ch i).k
def resP (t : T) (i : Nat) : PL := ⟨(t.ch i).k, pairP (t.ch i)⟩
def RdResPost (Q : Nat → Prop) (t : T) (eb : Addr) (w : World) (e : Ending) (w' : World) : Prop :=
  (T.all (resK t) t.k = false ∧ ∃ l, e = .returned (.tuple #[.slice none 0 0, errV eb ([114, 101, 115, 117, 108, 116, 115] :: l)]) ∧ Ext w w') ∨
  (T.all (resK t) t.k = true ∧ ∃ A' c', e = .returned (.tuple #[.slice A' t.k c', .nilIface]) ∧ Ext w w' ∧ t.k ≤ c' ∧ RsL w' (fun b => (Q b ∧ b < w.heap.size) ∨ w.heap.size ≤ b) A' t.k (resP t))
set_option maxRecDepth 20000 in
set_option maxHeartbeats 8000000 in
theorem areadR_any {Q : Nat → Prop} (t : T) (hk : t.k ≤ 1000) (hkk : ∀ i, i < t.k → (t.ch i).k ≤ 1000) (A : Option Addr) (c : Nat) (eb : Addr) (w : World) (hf : FormAt w eb) (h : IsL w Q t A) : Calls Tryd.prog 31 #[itemV t A c] w (RdResPost Q t eb w) := by
  have HK := hid hk
  have HKI := hid hkk
  have k0 : (t.k : Int) ≤ 1000 := by omega
  have HE := hid ((Mod.refl [] w).alloc (.cells (itemC t A c) 36))
  have HB := hid (Blk.new w 36 (itemC t A c))
  have HL : Hid (IsL w (fun b => Q b ∧ b < w.heap.size) t A) := hid (IsL.weak (fun b hb hq => ⟨hq, hb⟩) _ h)
  have HF := hid hf
  clear h hf hk hkk
  go_enter Tryd.func31, Tryd.ntmps31
  go_upto_region 1 with fail
  generalize w.alloc (.cells (itemC t A c) 36) = V at *
  have z3 : V.cell? ⟨w.heap.size, 3, none⟩ = some (.slice A t.k c) := HB.out.cell 3
  go_wp2_with fail
  clear z3
  have HW0 := HE
  obtain ⟨k, hkk⟩ : ∃ k, t.k = k := ⟨_, rfl⟩
  have HKK := hid hkk
  rw [hkk] at k0
  clear hkk
  go_loopw [4, 12] (fun s4 s12 wr => ∃ (i : Nat) (A' : Option Addr) (c' : Nat) (ac : Nat → Option Addr × Nat), s12 = .int .i64 (i : Int) ∧ s4 = .slice A' i c' ∧ Hid (i ≤ k ∧ Ext w wr ∧ RwG resH 28 wr (fun b => (Q b ∧ b < w.heap.size) ∨ w.heap.size ≤ b) w.heap.size A' c' i (resP t) ac ∧ T.all (resK t) i = true)) (fun _ s12 _ => k - (intOf s12).toNat)
  case atStart => exact ⟨0, none, 0, fun _ => (none, 0), by first | rfl | (rw [HKK.out]), rfl, (show Hid _ from ⟨Nat.zero_le _, HW0.out, RwG.nil, rfl⟩)⟩
  case round =>
    clear HW0
    obtain ⟨i, A', c', ac, rfl, rfl, hS⟩ := hrel
    rename World => wr
    have i0 : (0 : Int) ≤ (i : Int) := by omega
    by_cases hlt : i < k
    · obtain ⟨b, o, Ai, ci, rfl, hb, _, hat, hI⟩ := kidsA (HL.out.ext hS.out.2.1) (i := i) (by rw [HKK.out]; exact hlt)
      obtain ⟨q0, q1, q2, q3, q4⟩ := hat
      have tc : decide (i < k) = true := by simp [hlt]
      have td : decide (i < t.k) = true := by rw [HKK.out]; simp [hlt]
      have i1 : (i : Int) < (k : Int) := by omega
      have i2 : (i : Int) < (t.k : Int) := by rw [HKK.out]; omega
      have HLT := hid hlt
      have HI := hid hI
      clear hlt hI hb
      go_upto_region 5 with fail
      generalize hW1 : World.alloc wr _ = W1
      have HG1 : Hid (Blk W1 wr.heap.size 36 (itemC (t.ch i) Ai ci)) := hid (by rw [← hW1]; exact Blk.new _ _ _)
      have hS1 : Hid (i ≤ k ∧ Ext w W1 ∧ RwG resH 28 W1 (fun b => (Q b ∧ b < w.heap.size) ∨ w.heap.size ≤ b) w.heap.size A' c' i (resP t) ac ∧ T.all (resK t) i = true) := hid (by
        have h := hS.out
        rw [← hW1]; exact ⟨h.1, h.2.1.alloc _, h.2.2.1.ext ((Mod.refl [] _).alloc _), h.2.2.2⟩)
      have HI1 : Hid (IsL W1 (fun b => Q b ∧ b < w.heap.size) (t.ch i) Ai) := hid (by rw [← hW1]; exact HI.out.ext ((Mod.refl [] _).alloc _))
      clear hW1 hS q0 q1 q2 q3 q4 HI
      generalize wr.heap.size = G at *
      have HGL : Hid (∀ e : Later W1, Blk e.x G 36 (itemC (t.ch i) Ai ci)) := hid (fun e => HG1.out.later e)
      have KP := hid (areadP_any (t.ch i) (HKI.out i (by rw [HKK.out]; exact HLT.out)) Ai ci eb W1 (HF.out.ext hS1.out.2.1) HI1.out)
      have tk1 : True := trivial
      cases hall : resK t i with
      | false =>
        have hall' : T.all (pairK (t.ch i)) (t.ch i).k = false := hall
        have KE : Hid (Calls Tryd.prog 30 #[itemV (t.ch i) Ai ci] W1 (fun e w' => ∃ l, e = .returned (.tuple #[.slice none 0 0, .iface 100 (.agg #[str [112, 97, 105, 114], errV eb l])]) ∧ Ext W1 w')) := hid (KP.out.mono fun e w' h => by
          rcases h with ⟨_, l, h1, h2⟩ | ⟨h1, _⟩
          · exact ⟨l, h1, h2⟩
          · rw [hall'] at h1; exact absurd h1 (by decide))
        have HN : Hid (T.all (resK t) k = false) := hid (all_no HLT.out hall)
        clear hall hall' KP
        have HG2 : Hid (Blk W1 G 36 (itemC (t.ch i) Ai ci)) := HG1
        go_wp2_with (first | (clear tk1; refine wpList_row (by rfl) 36 _ rfl _ rfl HG2.out Tryd.underlying36 rfl (by kernel_rfl) ?_) | (go_at_call 30; refine KE.out.mono ?_; rintro x w3 ⟨l, rfl, hb⟩; have HX := hid hb; clear hb))
        go_ret2
        exact .inl ⟨by rw [HKK.out]; exact HN.out, [112, 97, 105, 114] :: l, rfl, hS1.out.2.1.trans HX.out⟩
      | true =>
        have hall' : T.all (pairK (t.ch i)) (t.ch i).k = true := hall
        have KE : Hid (Calls Tryd.prog 30 #[itemV (t.ch i) Ai ci] W1 (fun e w' => ∃ A2 c2, e = .returned (.tuple #[.slice A2 (t.ch i).k c2, .nilIface]) ∧ Ext W1 w' ∧ (t.ch i).k ≤ c2 ∧ PsL w' (fun b => ((Q b ∧ b < w.heap.size) ∧ b < W1.heap.size) ∨ W1.heap.size ≤ b) A2 (resP t i))) := hid (KP.out.mono fun e w' h => by
          rcases h with ⟨h1, _⟩ | ⟨_, A2, c2, h1, h2, h3, h4⟩
          · rw [hall'] at h1; exact absurd h1 (by decide)
          · exact ⟨A2, c2, h1, h2, h3, h4⟩)
        have HY : Hid (resK t i = true) := hid hall
        clear hall hall' KP
        have HG2 : Hid (Blk W1 G 36 (itemC (t.ch i) Ai ci)) := HG1
        obtain ⟨ib, hi, hz0, hz1, hz2⟩ := info_parts infoPairs
        have HSZ1 : Hid (w.heap.size ≤ W1.heap.size) := hid hS1.out.2.1.size
        go_upto_region 8 with (first | (clear tk1; refine wpList_row (by rfl) 36 _ rfl _ rfl HG2.out Tryd.underlying36 rfl (by kernel_rfl) ?_) | (go_at_call 30; refine KE.out.mono ?_; rintro x w3 ⟨A2, c2, rfl, hb, hc2, hps⟩; have HX := hid hb; have HC2 := hid hc2; have HPS := hid hps; clear hb hc2 hps))
        have hR1 := (hS1.out.2.2.1.ext HX.out).ext ((Mod.refl [] w3).alloc (.cells #[.slice A2 (t.ch i).k c2] 28))
        have hI5 : resH.hang (World.alloc w3 (.cells #[.slice A2 (t.ch i).k c2] 28)) (fun b => ((Q b ∧ b < w.heap.size) ∨ w.heap.size ≤ b) ∧ offA A' b) (resP t i) (A2, c2) := ⟨(HPS.out.ext ((Mod.refl [] _).alloc _)).weak (fun b _ hb => ⟨by
          rcases hb with hb | hb
          · exact .inl hb.1
          · exact .inr (by have := HSZ1.out; omega), fun g hg => by
          have h2 := hS1.out.2.2.1.off g hg
          rcases hb with hb | hb
          · have := hb.1.2; omega
          · omega⟩), HC2.out⟩
        have HR1 := hid hR1
        have HI5 := hid hI5
        have HX3 : Hid (Ext w (World.alloc w3 (.cells #[.slice A2 (t.ch i).k c2] 28))) := hid ((hS1.out.2.1.trans HX.out).alloc _)
        have HS3 : Hid (W1.heap.size ≤ w3.heap.size) := hid HX.out.size
        clear hR1 hI5
        go_wp2_with (at_builtin; refine wpList_append_lies _ rfl _ _ 29 rfl w.heap.size 28 ib _ 1 24 Tryd.underlying29 hi hz0 hz1 hz2 rfl (by decide) _ i _ (by rfl) HR1.out.own ⟨w3.heap.size, 0, none⟩ 1 1 [.slice A2 (t.ch i).k c2] (by rfl) (by rfl) (fun j u hu => by rw [addr_add, Nat.zero_add, (Blk.new w3 28 #[.slice A2 (t.ch i).k c2]).cell j]; simpa using hu) (by intro u hu; simp at hu; rcases hu with rfl; rfl) (by decide) (by have := HLT.out; have := HK.out; have := HKK.out; unfold maxLen; omega) (by have := HLT.out; have := HK.out; have := HKK.out; omega) (by have := HSZ1.out; have := HS3.out; simp; omega) (w3.heap.size + 1) (by simp) ?_; intro g' cp' w4 hown' hgr' hat' hlt'; obtain ⟨ac', hR5⟩ := HR1.out.append HI5.out rfl hown' hgr' (by simpa using hat'); have HM5 := hid (grown_obs hgr'); have HR5 := hid hR5; clear hown' hgr' hat' hlt' hR5)
        go_roundw
        case rel => exact ⟨i + 1, some ⟨g', 0, none⟩, cp', ac', by go_num, rfl, (show Hid _ from ⟨HLT.out, ((HX3.out.of_ext (S := obs A')).trans HM5.out).new (fun k hk => .inr (by
          cases A' with
          | none => cases hk
          | some g => have := (HR1.out.off g rfl).1; simp [obs] at hk; omega)), HR5.out, by rw [T.all, hS1.out.2.2.2, HY.out]; rfl⟩)⟩
        case measure => have := HLT.out; simp [intOf]; omega
    · obtain rfl : i = k := by have := hS.out.1; omega
      have tc : decide (i < i) = false := by simp
      have td : decide (i < t.k) = false := by rw [HKK.out]; simp
      have i2 : ¬ (i : Int) < (t.k : Int) := by rw [HKK.out]; omega
      have HFIN := hid hS.out
      clear hS
      go_wp2_with fail
      go_ret2
      unfold RdResPost
      rw [HKK.out]
      exact .inr ⟨HFIN.out.2.2.2, A', c', rfl, HFIN.out.2.1, HFIN.out.2.2.1.cap, HFIN.out.2.2.1.rs (fun _ h => .inr h)⟩
end Go.Proofs.YtblfmokklfhklaaDoor


namespace Go.Proofs.YtblfmokklfhklaaDoor
open Go.RowKit
set_option linter.unusedVariables false
set_option linter.unusedSimpArgs false

def zeroE : EV := ⟨0, [], 0, 0⟩
def noneE : EV := ⟨1, [110, 111, 110, 101], 0, 0⟩
def readE (t : T) : EV :=
  if t.kind ≠ 4 ∨ t.k ≠ 2 ∨ (t.ch 0).kind ≠ 0 then zeroE
  else if (t.ch 0).n = 2 ∧ (t.ch 1).k = 2 then ⟨2, [], ((t.ch 1).ch 0).n, ((t.ch 1).ch 1).n⟩
  else if (t.ch 0).n = 1 ∧ (t.ch 1).kind = 3 then ⟨1, (t.ch 1).s, 0, 0⟩
  else noneE

set_option maxRecDepth 20000 in
set_option maxHeartbeats 800000 in
theorem eread_1 (t : T) (A : Option Addr) (c : Nat) (h : t.kind ≠ 4) (w : World) : Calls Tryd.prog 52 #[.agg (itemC t A c)] w (Ret zeroE.v w) := by
  have HE := hid (((Mod.refl [] w).alloc (.cells (itemC t A c) 36)).alloc (.cells #[.int .i64 0, .string ⟨#[]⟩, .int .u64 0, .int .u64 0] 27))
  have n1 : (t.kind == 4) = false := by simpa using h
  have n2 : (t.kind = 4) = False := by simpa using h
  have n3 : (t.kind != 4) = true := by simpa using h
  clear h
  go_enter Tryd.func52, Tryd.ntmps52
  go_wp2_with fail
  refine bodyPost_ret (v := .agg #[.int .i64 0, str [], .int .u64 0, .int .u64 0]) (by simp [results, Tryd.results52, go_sem]) rfl (Ret.mk rfl (by first | exact (((Mod.refl _ _).alloc _).alloc _) | exact ((((Mod.refl _ _).alloc _).alloc _).alloc _)))
set_option maxRecDepth 20000 in
set_option maxHeartbeats 800000 in
theorem eread_2 (n : Nat) (s : List UInt8) (op : Bool) (k : Nat) (A : Option Addr) (c : Nat) (h : k ≠ 2) (w : World) : Calls Tryd.prog 52 #[.agg #[.int .i64 4, .int .u64 (n : Int), str s, .slice A k c, .bool op]] w (Ret zeroE.v w) := by
  have HE := hid (((Mod.refl [] w).alloc (.cells #[.int .i64 4, .int .u64 (n : Int), str s, .slice A k c, .bool op] 36)).alloc (.cells #[.int .i64 0, .string ⟨#[]⟩, .int .u64 0, .int .u64 0] 27))
  have n1 : ((k : Int) == 2) = false := by simp; omega
  have n2 : ((k : Int) = 2) = False := by simp; omega
  have n3 : ((k : Int) != 2) = true := by simp; omega
  clear h
  go_enter Tryd.func52, Tryd.ntmps52
  go_wp2_with fail
  refine bodyPost_ret (v := .agg #[.int .i64 0, str [], .int .u64 0, .int .u64 0]) (by simp [results, Tryd.results52, go_sem]) rfl (Ret.mk rfl (by first | exact (((Mod.refl _ _).alloc _).alloc _) | exact ((((Mod.refl _ _).alloc _).alloc _).alloc _)))
set_option maxRecDepth 20000 in
set_option maxHeartbeats 800000 in
theorem eread_3 (n : Nat) (s : List UInt8) (op : Bool) (ch : Nat → T) (b o c : Nat) (A0 A1 : Option Addr) (c0 c1 : Nat) (h : (ch 0).kind ≠ 0) (w : World) (hb : b < w.heap.size) (h0 : At5 w b o (ch 0) A0 c0) (h1 : At5 w b (o + 5) (ch 1) A1 c1) : Calls Tryd.prog 52 #[.agg #[.int .i64 4, .int .u64 (n : Int), str s, .slice (some ⟨b, o, none⟩) 2 c, .bool op]] w (Ret zeroE.v w) := by
  have HE := hid (((Mod.refl [] w).alloc (.cells #[.int .i64 4, .int .u64 (n : Int), str s, .slice (some ⟨b, o, none⟩) 2 c, .bool op] 36)).alloc (.cells #[.int .i64 0, .string ⟨#[]⟩, .int .u64 0, .int .u64 0] 27))
  obtain ⟨x0, x1, x2, x3, x4⟩ := h0.mod HE.out hb (by simp)
  obtain ⟨y0, y1, y2, y3, y4⟩ := h1.mod HE.out hb (by simp)
  have n1 : ((ch 0).kind == 0) = false := by simpa using h
  have n2 : ((ch 0).kind = 0) = False := by simpa using h
  have n3 : ((ch 0).kind != 0) = true := by simpa using h
  clear h h0 h1
  go_enter Tryd.func52, Tryd.ntmps52
  go_wp2_with fail
  refine bodyPost_ret (v := .agg #[.int .i64 0, str [], .int .u64 0, .int .u64 0]) (by simp [results, Tryd.results52, go_sem]) rfl (Ret.mk rfl (by first | exact (((Mod.refl _ _).alloc _).alloc _) | exact ((((Mod.refl _ _).alloc _).alloc _).alloc _)))
set_option maxRecDepth 20000 in
set_option maxHeartbeats 800000 in
theorem eread_4 (n : Nat) (s : List UInt8) (op : Bool) (ch : Nat → T) (b o c : Nat) (A0 A1 : Option Addr) (c0 c1 : Nat) (b1 o1 : Nat) (A2 A3 : Option Addr) (c2 c3 : Nat) (hk0 : (ch 0).kind = 0) (hn0 : (ch 0).n = 2) (hk1 : (ch 1).k = 2) (hA : A1 = some ⟨b1, o1, none⟩) (w : World) (hb : b < w.heap.size) (h0 : At5 w b o (ch 0) A0 c0) (h1 : At5 w b (o + 5) (ch 1) A1 c1) (hb1 : b1 < w.heap.size) (h2 : At5 w b1 o1 ((ch 1).ch 0) A2 c2) (h3 : At5 w b1 (o1 + 5) ((ch 1).ch 1) A3 c3) : Calls Tryd.prog 52 #[.agg #[.int .i64 4, .int .u64 (n : Int), str s, .slice (some ⟨b, o, none⟩) 2 c, .bool op]] w (Ret (EV.v ⟨2, [], ((ch 1).ch 0).n, ((ch 1).ch 1).n⟩) w) := by
  have HE := hid (((Mod.refl [] w).alloc (.cells #[.int .i64 4, .int .u64 (n : Int), str s, .slice (some ⟨b, o, none⟩) 2 c, .bool op] 36)).alloc (.cells #[.int .i64 0, .string ⟨#[]⟩, .int .u64 0, .int .u64 0] 27))
  obtain ⟨x0, x1, x2, x3, x4⟩ := h0.mod HE.out hb (by simp)
  obtain ⟨y0, y1, y2, y3, y4⟩ := h1.mod HE.out hb (by simp)
  obtain ⟨_, z1, _⟩ := h2.mod HE.out hb1 (by simp)
  obtain ⟨_, v1, _⟩ := h3.mod HE.out hb1 (by simp)
  rw [hk0] at x0
  rw [hn0] at x1
  subst hA
  rw [hk1] at y3
  have HE3 := hid (HE.out.alloc (.cells #[.int .i64 (ch 1).kind, .int .u64 ((ch 1).n : Int), str (ch 1).s, .slice (some ⟨b1, o1, none⟩) 2 c1, .bool (ch 1).op] 36))
  have gx1 : (((w.alloc (.cells #[.int .i64 4, .int .u64 (n : Int), str s, .slice (some ⟨b, o, none⟩) 2 c, .bool op] 36)).alloc (.cells #[.int .i64 0, .string ⟨#[]⟩, .int .u64 0, .int .u64 0] 27)).alloc (.cells #[.int .i64 (ch 1).kind, .int .u64 ((ch 1).n : Int), str (ch 1).s, .slice (some ⟨b1, o1, none⟩) 2 c1, .bool (ch 1).op] 36)).cell? ⟨b, o + 1, none⟩ = some (.int .u64 2) := by have := (h0.mod HE3.out hb (by simp)).2.1; rw [hn0] at this; exact this
  have gz : (((w.alloc (.cells #[.int .i64 4, .int .u64 (n : Int), str s, .slice (some ⟨b, o, none⟩) 2 c, .bool op] 36)).alloc (.cells #[.int .i64 0, .string ⟨#[]⟩, .int .u64 0, .int .u64 0] 27)).alloc (.cells #[.int .i64 (ch 1).kind, .int .u64 ((ch 1).n : Int), str (ch 1).s, .slice (some ⟨b1, o1, none⟩) 2 c1, .bool (ch 1).op] 36)).cell? ⟨b1, o1 + 1, none⟩ = some (.int .u64 (((ch 1).ch 0).n : Int)) := (h2.mod HE3.out hb1 (by simp)).2.1
  have gv : (((w.alloc (.cells #[.int .i64 4, .int .u64 (n : Int), str s, .slice (some ⟨b, o, none⟩) 2 c, .bool op] 36)).alloc (.cells #[.int .i64 0, .string ⟨#[]⟩, .int .u64 0, .int .u64 0] 27)).alloc (.cells #[.int .i64 (ch 1).kind, .int .u64 ((ch 1).n : Int), str (ch 1).s, .slice (some ⟨b1, o1, none⟩) 2 c1, .bool (ch 1).op] 36)).cell? ⟨b1, o1 + 5 + 1, none⟩ = some (.int .u64 (((ch 1).ch 1).n : Int)) := (h3.mod HE3.out hb1 (by simp)).2.1
  clear hk0 hn0 hk1 h0 h1 h2 h3
  go_enter Tryd.func52, Tryd.ntmps52
  go_wp2_with fail
  go_region
  all_goals go_wp2_with fail
  all_goals refine bodyPost_ret (v := EV.v ⟨2, [], ((ch 1).ch 0).n, ((ch 1).ch 1).n⟩) (by simp [results, Tryd.results52, go_sem]) rfl (Ret.mk rfl ((((Mod.refl _ _).alloc _).alloc _).alloc _).drew)
set_option maxRecDepth 20000 in
set_option maxHeartbeats 800000 in
theorem eread_5 (n : Nat) (s : List UInt8) (op : Bool) (ch : Nat → T) (b o c : Nat) (A0 A1 : Option Addr) (c0 c1 : Nat) (hk0 : (ch 0).kind = 0) (hn0 : (ch 0).n = 1) (hk1 : (ch 1).kind = 3) (w : World) (hb : b < w.heap.size) (h0 : At5 w b o (ch 0) A0 c0) (h1 : At5 w b (o + 5) (ch 1) A1 c1) : Calls Tryd.prog 52 #[.agg #[.int .i64 4, .int .u64 (n : Int), str s, .slice (some ⟨b, o, none⟩) 2 c, .bool op]] w (Ret (EV.v ⟨1, (ch 1).s, 0, 0⟩) w) := by
  have HE := hid (((Mod.refl [] w).alloc (.cells #[.int .i64 4, .int .u64 (n : Int), str s, .slice (some ⟨b, o, none⟩) 2 c, .bool op] 36)).alloc (.cells #[.int .i64 0, .string ⟨#[]⟩, .int .u64 0, .int .u64 0] 27))
  obtain ⟨x0, x1, x2, x3, x4⟩ := h0.mod HE.out hb (by simp)
  obtain ⟨y0, y1, y2, y3, y4⟩ := h1.mod HE.out hb (by simp)
  rw [hk0] at x0
  rw [hn0] at x1
  rw [hk1] at y0
  have HE3 := hid (HE.out.alloc (.cells #[.int .i64 3, .int .u64 ((ch 1).n : Int), str (ch 1).s, .slice A1 (ch 1).k c1, .bool (ch 1).op] 36))
  have gx1 : (((w.alloc (.cells #[.int .i64 4, .int .u64 (n : Int), str s, .slice (some ⟨b, o, none⟩) 2 c, .bool op] 36)).alloc (.cells #[.int .i64 0, .string ⟨#[]⟩, .int .u64 0, .int .u64 0] 27)).alloc (.cells #[.int .i64 3, .int .u64 ((ch 1).n : Int), str (ch 1).s, .slice A1 (ch 1).k c1, .bool (ch 1).op] 36)).cell? ⟨b, o + 1, none⟩ = some (.int .u64 1) := by have := (h0.mod HE3.out hb (by simp)).2.1; rw [hn0] at this; exact this
  clear hk0 hn0 hk1 h0 h1
  go_enter Tryd.func52, Tryd.ntmps52
  go_wp2_with fail
  refine bodyPost_ret (v := EV.v ⟨1, (ch 1).s, 0, 0⟩) (by simp [results, Tryd.results52, go_sem]) rfl (Ret.mk rfl (by first | exact (((Mod.refl _ _).alloc _).alloc _) | exact ((((Mod.refl _ _).alloc _).alloc _).alloc _)))
set_option maxRecDepth 20000 in
set_option maxHeartbeats 800000 in
theorem eread_6 (n : Nat) (s : List UInt8) (op : Bool) (ch : Nat → T) (b o c : Nat) (A0 A1 : Option Addr) (c0 c1 : Nat) (hk0 : (ch 0).kind = 0) (hn0 : (ch 0).n = 2) (hk1 : (ch 1).k ≠ 2) (w : World) (hb : b < w.heap.size) (h0 : At5 w b o (ch 0) A0 c0) (h1 : At5 w b (o + 5) (ch 1) A1 c1) : Calls Tryd.prog 52 #[.agg #[.int .i64 4, .int .u64 (n : Int), str s, .slice (some ⟨b, o, none⟩) 2 c, .bool op]] w (Ret noneE.v w) := by
  have HE := hid (((Mod.refl [] w).alloc (.cells #[.int .i64 4, .int .u64 (n : Int), str s, .slice (some ⟨b, o, none⟩) 2 c, .bool op] 36)).alloc (.cells #[.int .i64 0, .string ⟨#[]⟩, .int .u64 0, .int .u64 0] 27))
  obtain ⟨x0, x1, x2, x3, x4⟩ := h0.mod HE.out hb (by simp)
  obtain ⟨y0, y1, y2, y3, y4⟩ := h1.mod HE.out hb (by simp)
  rw [hk0] at x0
  rw [hn0] at x1
  have n1 : (((ch 1).k : Int) == 2) = false := by simp; omega
  have n2 : (((ch 1).k : Int) = 2) = False := by simp; omega
  have HE3 := hid (HE.out.alloc (.cells #[.int .i64 (ch 1).kind, .int .u64 ((ch 1).n : Int), str (ch 1).s, .slice A1 (ch 1).k c1, .bool (ch 1).op] 36))
  have gx1 : (((w.alloc (.cells #[.int .i64 4, .int .u64 (n : Int), str s, .slice (some ⟨b, o, none⟩) 2 c, .bool op] 36)).alloc (.cells #[.int .i64 0, .string ⟨#[]⟩, .int .u64 0, .int .u64 0] 27)).alloc (.cells #[.int .i64 (ch 1).kind, .int .u64 ((ch 1).n : Int), str (ch 1).s, .slice A1 (ch 1).k c1, .bool (ch 1).op] 36)).cell? ⟨b, o + 1, none⟩ = some (.int .u64 2) := by have := (h0.mod HE3.out hb (by simp)).2.1; rw [hn0] at this; exact this
  clear hk0 hn0 hk1 h0 h1
  have HQ := hid ((Blk.new' (w.alloc (.cells #[.int .i64 4, .int .u64 (n : Int), str s, .slice (some ⟨b, o, none⟩) 2 c, .bool op] 36)) 27 #[.int .i64 0, .string ⟨#[]⟩, .int .u64 0, .int .u64 0] (N := w.heap.size + 1) (by simp)).alloc (.cells #[.int .i64 (ch 1).kind, .int .u64 ((ch 1).n : Int), str (ch 1).s, .slice A1 (ch 1).k c1, .bool (ch 1).op] 36))
  go_enter Tryd.func52, Tryd.ntmps52
  go_wp2_with fail
  refine (eidNone_any _).mono ?_
  rintro e w1 ⟨rfl, hb1⟩
  have HE1 : Hid (Ext w w1) := HE3.out.trans hb1
  have HQ1 := hid (HQ.out.ext hb1)
  clear hb1
  obtain ⟨r0, r1, r2, r3⟩ : w1.cell? ⟨w.heap.size + 1, 0, none⟩ = some (.int .i64 0) ∧ w1.cell? ⟨w.heap.size + 1, 1, none⟩ = some (str []) ∧ w1.cell? ⟨w.heap.size + 1, 2, none⟩ = some (.int .u64 0) ∧ w1.cell? ⟨w.heap.size + 1, 3, none⟩ = some (.int .u64 0) := ⟨HQ1.out.cell 0, HQ1.out.cell 1, HQ1.out.cell 2, HQ1.out.cell 3⟩
  have f0 := Blk.frozen HQ1.out 0
  have f1 := Blk.frozen HQ1.out 1
  have f2 := Blk.frozen HQ1.out 2
  have f3 := Blk.frozen HQ1.out 3
  go_wp2_with fail
  have B4 := (((HQ1.out.set_ 0 (.int .i64 1)).set_ 1 (str [110, 111, 110, 101])).set_ 2 (.int .u64 0)).set_ 3 (.int .u64 0)
  obtain ⟨d0, d1, d2, d3⟩ := And.intro (B4.cell 0) (And.intro (B4.cell 1) (And.intro (B4.cell 2) (B4.cell 3)))
  simp only [List.setIfInBounds_toArray, List.set_cons_zero, List.set_cons_succ, List.getElem?_toArray, List.getElem?_cons_zero, List.getElem?_cons_succ] at d0 d1 d2 d3
  clear r0 r1 r2 r3 f0 f1 f2 f3
  refine bodyPost_ret (v := .agg #[.int .i64 1, str [110, 111, 110, 101], .int .u64 0, .int .u64 0]) (by simp [results, Tryd.results52, go_sem, d0, d1, d2, d3]) rfl (Ret.mk rfl ((((HE1.out.setCell (.inr (by show w.heap.size ≤ w.heap.size + 1; omega)) _).setCell (.inr (by show w.heap.size ≤ w.heap.size + 1; omega)) _).setCell (.inr (by show w.heap.size ≤ w.heap.size + 1; omega)) _).setCell (.inr (by show w.heap.size ≤ w.heap.size + 1; omega)) _))
set_option maxRecDepth 20000 in
set_option maxHeartbeats 800000 in
theorem eread_7 (n : Nat) (s : List UInt8) (op : Bool) (ch : Nat → T) (b o c : Nat) (A0 A1 : Option Addr) (c0 c1 : Nat) (hk0 : (ch 0).kind = 0) (hn0 : (ch 0).n = 1) (hk1 : (ch 1).kind ≠ 3) (w : World) (hb : b < w.heap.size) (h0 : At5 w b o (ch 0) A0 c0) (h1 : At5 w b (o + 5) (ch 1) A1 c1) : Calls Tryd.prog 52 #[.agg #[.int .i64 4, .int .u64 (n : Int), str s, .slice (some ⟨b, o, none⟩) 2 c, .bool op]] w (Ret noneE.v w) := by
  have HE := hid (((Mod.refl [] w).alloc (.cells #[.int .i64 4, .int .u64 (n : Int), str s, .slice (some ⟨b, o, none⟩) 2 c, .bool op] 36)).alloc (.cells #[.int .i64 0, .string ⟨#[]⟩, .int .u64 0, .int .u64 0] 27))
  obtain ⟨x0, x1, x2, x3, x4⟩ := h0.mod HE.out hb (by simp)
  obtain ⟨y0, y1, y2, y3, y4⟩ := h1.mod HE.out hb (by simp)
  rw [hk0] at x0
  rw [hn0] at x1
  have n1 : ((ch 1).kind == 3) = false := by simpa using hk1
  have n2 : ((ch 1).kind = 3) = False := by simpa using hk1
  have HE3 := hid (HE.out.alloc (.cells #[.int .i64 (ch 1).kind, .int .u64 ((ch 1).n : Int), str (ch 1).s, .slice A1 (ch 1).k c1, .bool (ch 1).op] 36))
  have gx1 : (((w.alloc (.cells #[.int .i64 4, .int .u64 (n : Int), str s, .slice (some ⟨b, o, none⟩) 2 c, .bool op] 36)).alloc (.cells #[.int .i64 0, .string ⟨#[]⟩, .int .u64 0, .int .u64 0] 27)).alloc (.cells #[.int .i64 (ch 1).kind, .int .u64 ((ch 1).n : Int), str (ch 1).s, .slice A1 (ch 1).k c1, .bool (ch 1).op] 36)).cell? ⟨b, o + 1, none⟩ = some (.int .u64 1) := by have := (h0.mod HE3.out hb (by simp)).2.1; rw [hn0] at this; exact this
  clear hk0 hn0 hk1 h0 h1
  have HQ := hid ((Blk.new' (w.alloc (.cells #[.int .i64 4, .int .u64 (n : Int), str s, .slice (some ⟨b, o, none⟩) 2 c, .bool op] 36)) 27 #[.int .i64 0, .string ⟨#[]⟩, .int .u64 0, .int .u64 0] (N := w.heap.size + 1) (by simp)).alloc (.cells #[.int .i64 (ch 1).kind, .int .u64 ((ch 1).n : Int), str (ch 1).s, .slice A1 (ch 1).k c1, .bool (ch 1).op] 36))
  go_enter Tryd.func52, Tryd.ntmps52
  go_wp2_with fail
  refine (eidNone_any _).mono ?_
  rintro e w1 ⟨rfl, hb1⟩
  have HE1 : Hid (Ext w w1) := HE3.out.trans hb1
  have HQ1 := hid (HQ.out.ext hb1)
  clear hb1
  obtain ⟨r0, r1, r2, r3⟩ : w1.cell? ⟨w.heap.size + 1, 0, none⟩ = some (.int .i64 0) ∧ w1.cell? ⟨w.heap.size + 1, 1, none⟩ = some (str []) ∧ w1.cell? ⟨w.heap.size + 1, 2, none⟩ = some (.int .u64 0) ∧ w1.cell? ⟨w.heap.size + 1, 3, none⟩ = some (.int .u64 0) := ⟨HQ1.out.cell 0, HQ1.out.cell 1, HQ1.out.cell 2, HQ1.out.cell 3⟩
  have f0 := Blk.frozen HQ1.out 0
  have f1 := Blk.frozen HQ1.out 1
  have f2 := Blk.frozen HQ1.out 2
  have f3 := Blk.frozen HQ1.out 3
  go_wp2_with fail
  have B4 := (((HQ1.out.set_ 0 (.int .i64 1)).set_ 1 (str [110, 111, 110, 101])).set_ 2 (.int .u64 0)).set_ 3 (.int .u64 0)
  obtain ⟨d0, d1, d2, d3⟩ := And.intro (B4.cell 0) (And.intro (B4.cell 1) (And.intro (B4.cell 2) (B4.cell 3)))
  simp only [List.setIfInBounds_toArray, List.set_cons_zero, List.set_cons_succ, List.getElem?_toArray, List.getElem?_cons_zero, List.getElem?_cons_succ] at d0 d1 d2 d3
  clear r0 r1 r2 r3 f0 f1 f2 f3
  refine bodyPost_ret (v := .agg #[.int .i64 1, str [110, 111, 110, 101], .int .u64 0, .int .u64 0]) (by simp [results, Tryd.results52, go_sem, d0, d1, d2, d3]) rfl (Ret.mk rfl ((((HE1.out.setCell (.inr (by show w.heap.size ≤ w.heap.size + 1; omega)) _).setCell (.inr (by show w.heap.size ≤ w.heap.size + 1; omega)) _).setCell (.inr (by show w.heap.size ≤ w.heap.size + 1; omega)) _).setCell (.inr (by show w.heap.size ≤ w.heap.size + 1; omega)) _))
set_option maxRecDepth 20000 in
set_option maxHeartbeats 800000 in
theorem eread_8 (n : Nat) (s : List UInt8) (op : Bool) (ch : Nat → T) (b o c : Nat) (A0 A1 : Option Addr) (c0 c1 : Nat) (hk0 : (ch 0).kind = 0) (hn0 : (ch 0).n ≠ 1) (hn2 : (ch 0).n ≠ 2) (w : World) (hb : b < w.heap.size) (h0 : At5 w b o (ch 0) A0 c0) (h1 : At5 w b (o + 5) (ch 1) A1 c1) : Calls Tryd.prog 52 #[.agg #[.int .i64 4, .int .u64 (n : Int), str s, .slice (some ⟨b, o, none⟩) 2 c, .bool op]] w (Ret noneE.v w) := by
  have HE := hid (((Mod.refl [] w).alloc (.cells #[.int .i64 4, .int .u64 (n : Int), str s, .slice (some ⟨b, o, none⟩) 2 c, .bool op] 36)).alloc (.cells #[.int .i64 0, .string ⟨#[]⟩, .int .u64 0, .int .u64 0] 27))
  obtain ⟨x0, x1, x2, x3, x4⟩ := h0.mod HE.out hb (by simp)
  obtain ⟨y0, y1, y2, y3, y4⟩ := h1.mod HE.out hb (by simp)
  rw [hk0] at x0
  have n1 : (((ch 0).n : Int) == 1) = false := by simp; omega
  have n2 : (((ch 0).n : Int) = 1) = False := by simp; omega
  have n3 : (((ch 0).n : Int) == 2) = false := by simp; omega
  have n4 : (((ch 0).n : Int) = 2) = False := by simp; omega
  have HE3 := hid (HE.out.alloc (.cells #[.int .i64 (ch 1).kind, .int .u64 ((ch 1).n : Int), str (ch 1).s, .slice A1 (ch 1).k c1, .bool (ch 1).op] 36))
  have gx1 : (((w.alloc (.cells #[.int .i64 4, .int .u64 (n : Int), str s, .slice (some ⟨b, o, none⟩) 2 c, .bool op] 36)).alloc (.cells #[.int .i64 0, .string ⟨#[]⟩, .int .u64 0, .int .u64 0] 27)).alloc (.cells #[.int .i64 (ch 1).kind, .int .u64 ((ch 1).n : Int), str (ch 1).s, .slice A1 (ch 1).k c1, .bool (ch 1).op] 36)).cell? ⟨b, o + 1, none⟩ = some (.int .u64 ((ch 0).n : Int)) := by have := (h0.mod HE3.out hb (by simp)).2.1; exact this
  clear hk0 hn0 hn2 h0 h1
  have HQ := hid ((Blk.new' (w.alloc (.cells #[.int .i64 4, .int .u64 (n : Int), str s, .slice (some ⟨b, o, none⟩) 2 c, .bool op] 36)) 27 #[.int .i64 0, .string ⟨#[]⟩, .int .u64 0, .int .u64 0] (N := w.heap.size + 1) (by simp)).alloc (.cells #[.int .i64 (ch 1).kind, .int .u64 ((ch 1).n : Int), str (ch 1).s, .slice A1 (ch 1).k c1, .bool (ch 1).op] 36))
  go_enter Tryd.func52, Tryd.ntmps52
  go_wp2_with fail
  refine (eidNone_any _).mono ?_
  rintro e w1 ⟨rfl, hb1⟩
  have HE1 : Hid (Ext w w1) := HE3.out.trans hb1
  have HQ1 := hid (HQ.out.ext hb1)
  clear hb1
  obtain ⟨r0, r1, r2, r3⟩ : w1.cell? ⟨w.heap.size + 1, 0, none⟩ = some (.int .i64 0) ∧ w1.cell? ⟨w.heap.size + 1, 1, none⟩ = some (str []) ∧ w1.cell? ⟨w.heap.size + 1, 2, none⟩ = some (.int .u64 0) ∧ w1.cell? ⟨w.heap.size + 1, 3, none⟩ = some (.int .u64 0) := ⟨HQ1.out.cell 0, HQ1.out.cell 1, HQ1.out.cell 2, HQ1.out.cell 3⟩
  have f0 := Blk.frozen HQ1.out 0
  have f1 := Blk.frozen HQ1.out 1
  have f2 := Blk.frozen HQ1.out 2
  have f3 := Blk.frozen HQ1.out 3
  go_wp2_with fail
  have B4 := (((HQ1.out.set_ 0 (.int .i64 1)).set_ 1 (str [110, 111, 110, 101])).set_ 2 (.int .u64 0)).set_ 3 (.int .u64 0)
  obtain ⟨d0, d1, d2, d3⟩ := And.intro (B4.cell 0) (And.intro (B4.cell 1) (And.intro (B4.cell 2) (B4.cell 3)))
  simp only [List.setIfInBounds_toArray, List.set_cons_zero, List.set_cons_succ, List.getElem?_toArray, List.getElem?_cons_zero, List.getElem?_cons_succ] at d0 d1 d2 d3
  clear r0 r1 r2 r3 f0 f1 f2 f3
  refine bodyPost_ret (v := .agg #[.int .i64 1, str [110, 111, 110, 101], .int .u64 0, .int .u64 0]) (by simp [results, Tryd.results52, go_sem, d0, d1, d2, d3]) rfl (Ret.mk rfl ((((HE1.out.setCell (.inr (by show w.heap.size ≤ w.heap.size + 1; omega)) _).setCell (.inr (by show w.heap.size ≤ w.heap.size + 1; omega)) _).setCell (.inr (by show w.heap.size ≤ w.heap.size + 1; omega)) _).setCell (.inr (by show w.heap.size ≤ w.heap.size + 1; omega)) _))
theorem eread_any (t : T) (ht : t ≠ T.nil) (A : Option Addr) (c : Nat) (w : World) (h : IsL w (fun _ => True) t A) : Calls Tryd.prog 52 #[itemV t A c] w (Ret (readE t).v w) := by
  by_cases h4 : t.kind = 4
  case neg =>
    have e : readE t = zeroE := by unfold readE; rw [if_pos (Or.inl h4)]
    rw [e]; exact eread_1 t A c h4 w
  obtain ⟨kind, n, s, op, k, ch, rfl⟩ : ∃ kind n s op k ch, t = T.mk kind n s op k ch := by cases t with | nil => exact absurd rfl ht | mk a b d e f g => exact ⟨a, b, d, e, f, g, rfl⟩
  have h4 : kind = 4 := h4
  subst h4
  by_cases hk : k = 2
  case neg =>
    have e : readE (T.mk 4 n s op k ch) = zeroE := by unfold readE; rw [if_pos (Or.inr (Or.inl (show (T.mk 4 n s op k ch).k ≠ 2 from hk)))]
    rw [e]; exact eread_2 n s op k A c hk w
  subst hk
  obtain ⟨b, o, ac, rfl, hb, _, hc⟩ := h.rows (by omega)
  obtain ⟨a0, i0⟩ := hc 0 (by omega)
  obtain ⟨a1, i1⟩ := hc 1 (by omega)
  have a0 : At5 w b o (ch 0) (ac 0).1 (ac 0).2 := by simpa using a0
  have a1 : At5 w b (o + 5) (ch 1) (ac 1).1 (ac 1).2 := by simpa using a1
  by_cases hk0 : (ch 0).kind = 0
  case neg =>
    have e : readE (T.mk 4 n s op 2 ch) = zeroE := by unfold readE; rw [if_pos (Or.inr (Or.inr (show ((T.mk 4 n s op 2 ch).ch 0).kind ≠ 0 from hk0)))]
    rw [e]; exact eread_3 n s op ch b o c _ _ _ _ hk0 w hb a0 a1
  have hz : ¬ ((T.mk 4 n s op 2 ch).kind ≠ 4 ∨ (T.mk 4 n s op 2 ch).k ≠ 2 ∨ ((T.mk 4 n s op 2 ch).ch 0).kind ≠ 0) := by
    rintro (h | h | h)
    · exact h rfl
    · exact h rfl
    · exact h hk0
  by_cases hn2 : (ch 0).n = 2
  · by_cases hk1 : (ch 1).k = 2
    · have e : readE (T.mk 4 n s op 2 ch) = ⟨2, [], ((ch 1).ch 0).n, ((ch 1).ch 1).n⟩ := by unfold readE; rw [if_neg hz, if_pos ⟨hn2, hk1⟩]; rfl
      rw [e]
      cases hc1 : ch 1 with
      | nil => rw [hc1] at hk1; cases hk1
      | mk k1 n1 s1 op1 kk ch1 =>
        rw [hc1] at i1 hk1
        have hkk : kk = 2 := hk1
        subst hkk
        obtain ⟨b1, o1, ac1, hA, hb1, _, hcc⟩ := i1.rows (by omega)
        obtain ⟨q0, _⟩ := hcc 0 (by omega)
        obtain ⟨q1, _⟩ := hcc 1 (by omega)
        have q0 : At5 w b1 o1 (ch1 0) (ac1 0).1 (ac1 0).2 := by simpa using q0
        have q1 : At5 w b1 (o1 + 5) (ch1 1) (ac1 1).1 (ac1 1).2 := by simpa using q1
        have h := eread_4 n s op ch b o c _ _ _ _ b1 o1 _ _ _ _ hk0 hn2 (by rw [hc1]; rfl) hA w hb a0 a1 hb1 (by rw [hc1]; exact q0) (by rw [hc1]; exact q1)
        rw [hc1] at h
        exact h
    · have e : readE (T.mk 4 n s op 2 ch) = noneE := by unfold readE; rw [if_neg hz, if_neg (fun h => hk1 h.2), if_neg (fun h => by have : (ch 0).n = 1 := h.1; omega)]
      rw [e]; exact eread_6 n s op ch b o c _ _ _ _ hk0 hn2 hk1 w hb a0 a1
  · by_cases hn1 : (ch 0).n = 1
    · by_cases hk1 : (ch 1).kind = 3
      · have e : readE (T.mk 4 n s op 2 ch) = ⟨1, (ch 1).s, 0, 0⟩ := by unfold readE; rw [if_neg hz, if_neg (fun h => hn2 h.1), if_pos ⟨hn1, hk1⟩]; rfl
        rw [e]; exact eread_5 n s op ch b o c _ _ _ _ hk0 hn1 hk1 w hb a0 a1
      · have e : readE (T.mk 4 n s op 2 ch) = noneE := by unfold readE; rw [if_neg hz, if_neg (fun h => hn2 h.1), if_neg (fun h => hk1 h.2)]
        rw [e]; exact eread_7 n s op ch b o c _ _ _ _ hk0 hn1 hk1 w hb a0 a1
    · have e : readE (T.mk 4 n s op 2 ch) = noneE := by unfold readE; rw [if_neg hz, if_neg (fun h => hn2 h.1), if_neg (fun h => hn1 h.1)]
      rw [e]; exact eread_8 n s op ch b o c _ _ _ _ hk0 hn1 hn2 w hb a0 a1
end Go.Proofs.YtblfmokklfhklaaDoor


namespace Go.Proofs.YtblfmokklfhklaaDoor
open Go.RowKit
set_option linter.unusedVariables false
set_option linter.unusedSimpArgs false

set_option maxRecDepth 20000 in
set_option maxHeartbeats 3200000 in
theorem same_any (a : T) : ∀ b : T, a.ok → b.ok → ∀ A c B d w, IsL w (fun _ => True) a A → IsL w (fun _ => True) b B →
    Calls Tryd.prog 70 #[itemV a A c, itemV b B d] w (Ret (.bool (a.same b)) w) := by
  induction a with
  | nil => intro b hok; cases hok
  | mk kind n s op k ch ih =>
    intro b
    rcases b with _ | ⟨kind', n', s', op', k', ch'⟩
    · intro _ hok; cases hok
    intro hok hok' A c B d w h h'
    have H := hid h; have HO := hid hok
    have H' := hid h'; have HO' := hid hok'
    have HI := hid ih
    have hk : Hid (k < 4611686018427387904) := by unfold T.ok at hok; exact hok.2.2.2.1
    have HR : Hid ((T.mk kind n s op k ch).same (T.mk kind' n' s' op' k' ch') = (kind == kind' && n == n' && s == s' && op == op' && k == k' && T.all (fun i => (ch i).same (ch' i)) k)) := rfl
    show Calls Tryd.prog 70 #[.agg #[.int .i64 kind, .int .u64 (n : Int), str s, .slice A k c, .bool op], .agg #[.int .i64 kind', .int .u64 (n' : Int), str s', .slice B k' d, .bool op']] w (Ret (.bool ((T.mk kind n s op k ch).same (T.mk kind' n' s' op' k' ch'))) w)
    rw [HR.out]
    have HBa : Hid (Blk ((w.alloc (.cells #[.int .i64 kind, .int .u64 (n : Int), str s, .slice A k c, .bool op] 36)).alloc (.cells #[.int .i64 kind', .int .u64 (n' : Int), str s', .slice B k' d, .bool op'] 36)) w.heap.size 36 #[.int .i64 kind, .int .u64 (n : Int), str s, .slice A k c, .bool op]) := (Blk.new _ _ _).alloc _
    have HBb : Hid (Blk ((w.alloc (.cells #[.int .i64 kind, .int .u64 (n : Int), str s, .slice A k c, .bool op] 36)).alloc (.cells #[.int .i64 kind', .int .u64 (n' : Int), str s', .slice B k' d, .bool op'] 36)) (w.heap.size + 1) 36 #[.int .i64 kind', .int .u64 (n' : Int), str s', .slice B k' d, .bool op']) := by
      exact Blk.new' _ _ _ (by simp)
    have HE0 := hid (((Mod.refl [] w).alloc (.cells #[.int .i64 kind, .int .u64 (n : Int), str s, .slice A k c, .bool op] 36)).alloc (.cells #[.int .i64 kind', .int .u64 (n' : Int), str s', .slice B k' d, .bool op'] 36))
    clear h hok h' hok' ih HR
    go_enter Tryd.func70, Tryd.ntmps70
    by_cases e1 : kind = kind'
    · subst e1
      by_cases e2 : n = n'
      · subst e2
        by_cases e3 : s = s'
        · subst e3
          by_cases e4 : op = op'
          · subst e4
            by_cases e5 : k = k'
            · subst e5
              have tk : ((k : Int) == (k : Int)) = true := by simp
              have HA := hid (fun (wr : World) (hX : Ext ((w.alloc (.cells #[.int .i64 kind, .int .u64 (n : Int), str s, .slice A k c, .bool op] 36)).alloc (.cells #[.int .i64 kind, .int .u64 (n : Int), str s, .slice B k d, .bool op] 36)) wr) => (show wr.cell? ⟨w.heap.size, 3, none⟩ = some (.slice A k c) ∧ wr.cell? ⟨w.heap.size + 1, 3, none⟩ = some (.slice B k d) from ⟨(HBa.out.ext hX).cell 3, (HBb.out.ext hX).cell 3⟩))
              have HEB := hid (Mod.refl [] ((w.alloc (.cells #[.int .i64 kind, .int .u64 (n : Int), str s, .slice A k c, .bool op] 36)).alloc (.cells #[.int .i64 kind, .int .u64 (n : Int), str s, .slice B k d, .bool op] 36)))
              go_wp2_with fail
              go_loopw [44] (fun s44 wr => ∃ i : Nat, i ≤ k ∧ s44 = .int .i64 (i : Int) ∧ Hid (Ext ((w.alloc (.cells #[.int .i64 kind, .int .u64 (n : Int), str s, .slice A k c, .bool op] 36)).alloc (.cells #[.int .i64 kind, .int .u64 (n : Int), str s, .slice B k d, .bool op] 36)) wr ∧ T.all (fun i => (ch i).same (ch' i)) i = true)) (fun i _ => k - (intOf i).toNat)
              case atStart => exact ⟨0, Nat.zero_le _, rfl, HEB.out, rfl⟩
              case round =>
                obtain ⟨i, hi, rfl, hX⟩ := hrel
                have HEW := hid (HE0.out.trans hX.out.1)
                have i0 : (0 : Int) ≤ (i : Int) := by omega
                by_cases hlt : i < k
                · obtain ⟨y0, y1⟩ := HA.out wr hX.out.1
                  obtain ⟨b, o, Ai, ci, rfl, hb, ⟨k0, k1, k2, k3, k4⟩, hL⟩ := H.out.cells HEW.out hlt
                  obtain ⟨b', o', Ai', ci', rfl, hb', ⟨l0, l1, l2, l3, l4⟩, hL'⟩ := H'.out.cells HEW.out hlt
                  have i1 : (i : Int) < (k : Int) := by omega
                  have ti : decide (i < k) = true := by simp [hlt]
                  have HL := hid hL; have HL' := hid hL'; have HLT := hid hlt
                  have HOi : Hid (ch i).ok := by have := HO.out; unfold T.ok at this; exact this.2.2.2.2 i hlt
                  have HOi' : Hid (ch' i).ok := by have := HO'.out; unfold T.ok at this; exact this.2.2.2.2 i hlt
                  have hb0 : b < wr.heap.size := Nat.lt_of_lt_of_le hb HEW.out.size
                  have hb0' : b' < wr.heap.size := Nat.lt_of_lt_of_le hb' HEW.out.size
                  have HL5 : Hid (∀ W, Ext wr W → W.cell? ⟨b, o + i * 5 + 3, none⟩ = some (.slice Ai (ch i).k ci)) := fun W hW => (hW.cell hb0 (by simp)).trans k3
                  have HL5' : Hid (∀ W, Ext wr W → W.cell? ⟨b', o' + i * 5 + 3, none⟩ = some (.slice Ai' (ch' i).k ci')) := fun W hW => (hW.cell hb0' (by simp)).trans l3
                  clear hb hb' hb0 hb0'
                  have HC := hid (fun W hW => HI.out i (ch' i) HOi.out HOi'.out Ai ci Ai' ci' W (HL.out.ext hW) (HL'.out.ext hW))
                  have HS : Hid (∀ W, Ext wr W → W.cell? ⟨w.heap.size, 3, none⟩ = some (.slice (some ⟨b, o, none⟩) k c) ∧ W.cell? ⟨w.heap.size + 1, 3, none⟩ = some (.slice (some ⟨b', o', none⟩) k d) ∧ W.cell? ⟨b, o + i * 5, none⟩ = some (.int .i64 (ch i).kind) ∧ W.cell? ⟨b, o + i * 5 + 1, none⟩ = some (.int .u64 ((ch i).n : Int)) ∧ W.cell? ⟨b, o + i * 5 + 2, none⟩ = some (str (ch i).s) ∧ W.cell? ⟨b, o + i * 5 + 3, none⟩ = some (.slice Ai (ch i).k ci) ∧ W.cell? ⟨b, o + i * 5 + 4, none⟩ = some (.bool (ch i).op) ∧ W.cell? ⟨b', o' + i * 5, none⟩ = some (.int .i64 (ch' i).kind) ∧ W.cell? ⟨b', o' + i * 5 + 1, none⟩ = some (.int .u64 ((ch' i).n : Int)) ∧ W.cell? ⟨b', o' + i * 5 + 2, none⟩ = some (str (ch' i).s) ∧ W.cell? ⟨b', o' + i * 5 + 3, none⟩ = some (.slice Ai' (ch' i).k ci') ∧ W.cell? ⟨b', o' + i * 5 + 4, none⟩ = some (.bool (ch' i).op)) := fun W hW => by
                    obtain ⟨z0, z1⟩ := HA.out W (hX.out.1.trans hW)
                    obtain ⟨e1, e2, Ai2, ci2, e3, _, ⟨p0, p1, p2, p3, p4⟩, _⟩ := H.out.cells (HEW.out.trans hW) hlt
                    obtain ⟨e1', e2', Ai2', ci2', e3', _, ⟨q0, q1, q2, q3, q4⟩, _⟩ := H'.out.cells (HEW.out.trans hW) hlt
                    simp only [Option.some.injEq, Addr.mk.injEq, and_true] at e3 e3'
                    obtain ⟨rfl, rfl⟩ := e3
                    obtain ⟨rfl, rfl⟩ := e3'
                    have g3 := HL5.out W hW; have g3' := HL5'.out W hW
                    rw [p3] at g3; rw [q3] at g3'
                    exact ⟨z0, z1, p0, p1, p2, p3.trans g3, p4, q0, q1, q2, q3.trans g3', q4⟩
                  clear hL hL' hlt
                  have hk2 : (k : Int) < 4611686018427387904 := by have := hk.out; omega
                  go_upto_region 6 with fail
                  go_region_held3 (fun w' => w'.cell? ⟨w.heap.size, 3, none⟩ = some (.slice (some ⟨b, o, none⟩) k c) ∧ w'.cell? ⟨w.heap.size + 1, 3, none⟩ = some (.slice (some ⟨b', o', none⟩) k d) ∧ w'.cell? ⟨b, o + i * 5, none⟩ = some (.int .i64 (ch i).kind) ∧ w'.cell? ⟨b, o + i * 5 + 1, none⟩ = some (.int .u64 ((ch i).n : Int)) ∧ w'.cell? ⟨b, o + i * 5 + 2, none⟩ = some (str (ch i).s) ∧ w'.cell? ⟨b, o + i * 5 + 3, none⟩ = some (.slice Ai (ch i).k ci) ∧ w'.cell? ⟨b, o + i * 5 + 4, none⟩ = some (.bool (ch i).op) ∧ w'.cell? ⟨b', o' + i * 5, none⟩ = some (.int .i64 (ch' i).kind) ∧ w'.cell? ⟨b', o' + i * 5 + 1, none⟩ = some (.int .u64 ((ch' i).n : Int)) ∧ w'.cell? ⟨b', o' + i * 5 + 2, none⟩ = some (str (ch' i).s) ∧ w'.cell? ⟨b', o' + i * 5 + 3, none⟩ = some (.slice Ai' (ch' i).k ci') ∧ w'.cell? ⟨b', o' + i * 5 + 4, none⟩ = some (.bool (ch' i).op)) (exact HS.out _ (by (repeat (first | with_reducible assumption | with_reducible exact Mod.refl _ _ | with_reducible refine Mod.drew ?_))))
                    ((go_at_call 70; refine (HC.out _ ?_).mono ?_; (repeat (first | with_reducible assumption | with_reducible exact Mod.refl _ _ | with_reducible refine Mod.drew ?_)); rintro e w3 ⟨rfl, hb3⟩; have hx3 : Ext wr w3 := (by with_reducible refine Mod.trans ?_ hb3; (repeat (first | with_reducible assumption | with_reducible exact Mod.refl _ _ | with_reducible refine Mod.drew ?_)))))
                  have HE3 := hid (hX.out.1.trans hx3)
                  have HE4 := hid (HEW.out.trans hx3)
                  have HW1 : Hid (wrap64 ((i : Int) + 1) = (i : Int) + 1) := IntWalk.wrap64_in _ (by omega)
                  clear hb3 hk2
                  cases hpl : (ch i).same (ch' i)
                  · have hno : T.all (fun i => (ch i).same (ch' i)) k = false := by
                      have hlt := HLT.out
                      cases hh : T.all (fun i => (ch i).same (ch' i)) k with
                      | false => rfl
                      | true => have := T.all_iff.1 hh i hlt; rw [hpl] at this; cases this
                    have HNO := hid hno
                    clear hno hpl
                    go_wp2_with fail
                    go_ret
                    exact Ret.mk (by rw [HNO.out]; simp) HE4.out
                  · have HPL := hid hpl
                    clear hpl
                    go_wp2_with fail
                    have hlt := HLT.out
                    have G1 : Value.int .i64 (wrap64 ((i : Int) + 1)) = .int .i64 ((i + 1 : Nat) : Int) := by rw [HW1.out]; simp
                    have G2 : T.all (fun i => (ch i).same (ch' i)) (i + 1) = true := by rw [T.all, hX.out.2, HPL.out]; rfl
                    have G3 : k - (intOf (Value.int .i64 (wrap64 ((i : Int) + 1)))).toNat < k - (intOf (.int .i64 (i : Int))).toNat := by rw [G1]; simp only [intOf]; omega
                    refine ⟨⟨i + 1, by omega, G1, (show Hid _ from ⟨HE3.out, G2⟩)⟩, G3⟩
                · obtain rfl : i = k := by omega
                  have ti : decide (i < i) = false := by simp
                  go_wp2_with fail
                  go_ret
                  exact Ret.mk (by rw [hX.out.2]; simp) HEW.out
            · have f5 : (k = k') = False := by simp [e5]
              have f5' : ((k : Int) == (k' : Int)) = false := by simp; omega
              cases op
              · go_wp2_with fail
                go_ret
                exact Ret.mk (by simp [e5]) HE0.out
              · go_wp2_with fail
                go_ret
                exact Ret.mk (by simp [e5]) HE0.out
          · have f4 : (op == op') = false := by simp [e4]
            have f4' : (op = op') = False := by simp [e4]
            go_wp2_with fail
            go_ret
            exact Ret.mk (by simp) HE0.out
        · have f3 : (s == s') = false := by simp [e3]
          have f3' : (s = s') = False := by simp [e3]
          go_wp2_with fail
          go_ret
          exact Ret.mk (by simp) HE0.out
      · have f2 : ((n : Int) == (n' : Int)) = false := by simp; omega
        have f2' : (n = n') = False := by simp [e2]
        go_wp2_with fail
        go_ret
        exact Ret.mk (by simp [e2]) HE0.out
    · have f1 : (kind == kind') = false := by simp [e1]
      have f1' : (kind = kind') = False := by simp [e1]
      go_wp2_with fail
      go_ret
      exact Ret.mk (by simp) HE0.out
end Go.Proofs.YtblfmokklfhklaaDoor


namespace Go.Proofs.YtblfmokklfhklaaDoor
open Go.ChangeShapes Go.WideShapes Go.ChangeAt Go.RowKit Go.Deep
set_option linter.unusedVariables false
set_option linter.unusedSimpArgs false

section
variable {H : Type} {enc : TypeId × Value → H} {w : World} {base b0 : Nat} {spare : Nat → Bool} {held : Bool} {r : Reach}
/-- A field of one cell, read alone. -/
theorem field_at {P : Program} {fs : Array Field} {cs : List Value} {ys : List (DataW H × List MemPlace)} {n : Nat} (hone : oneCellFields P fs = true)
    (hfl : ∀ (i : Nat) (f : Field), fs[i]? = some f → DataW.trod enc P w base spare held n f.type ((cs.drop f.offset).take (P.cellsOf f.type)) = ys[i]?)
    {i : Nat} {f : Field} (h : fs[i]? = some f) {c : Value} (hc : cs[i]? = some c) : DataW.trod enc P w base spare held n f.type [c] = ys[i]? := by
  obtain ⟨ho, hk⟩ := hone_of hone i f h
  have := hfl i f h
  rw [ho, hk] at this
  obtain ⟨hlt, hv⟩ := List.getElem?_eq_some_iff.1 hc
  rw [List.drop_eq_getElem_cons hlt, hv] at this
  exact this

theorem weights_mem_all {P : Program} {e : TypeId} {d : DataW H} {n : Nat} (hn : n ∈ d.weights P e) : ∀ {l : List (DataW H)}, d ∈ l → n ∈ DataW.weightsAll P e l
  | x :: r, h => by
    simp only [DataW.weightsAll, List.mem_append]
    rcases List.mem_cons.1 h with rfl | h
    · exact .inl hn
    · exact .inr (weights_mem_all hn h)

set_option maxRecDepth 100000 in
theorem trod_item : ∀ (fuel : Nat) (cs : List Value) (x : DataW H × List MemPlace), DataW.trod enc Tryd.prog w base spare held fuel 36 cs = some x → (∀ n ∈ x.1.weights Tryd.prog 36, n ≤ reachBytes) →
    ∃ (t : T) (A : Option Addr) (c : Nat), cs = [.int .i64 t.kind, .int .u64 (t.n : Int), str t.s, .slice A t.k c, .bool t.op] ∧ t.ok ∧ IsL w (fun _ => True) t A := by
  intro fuel
  induction fuel using Nat.strongRecOn with
  | ind fuel ih =>
    intro cs x h hz
    obtain ⟨ys, n', hn', hy, hlen, hyl, hfl⟩ := DataW.trod_struct Tryd.underlying36 h
    subst hn' hy
    have hz' : ∀ n ∈ DataW.weightsEach Tryd.prog [3, 25, 9, 34, 4] (ys.map (·.1)), n ≤ reachBytes := by
      intro n hn
      apply hz
      simp only [DataW.weights, Tryd.underlying36]
      exact hn
    clear hz
    have hR : reachBytes < 140737488355328 := by decide
    match cs, hlen with
    | [c0, c1, c2, c3, c4], _ =>
      have h0 := field_at (by kernel_rfl) hfl (i := 0) rfl rfl
      have h1 := field_at (by kernel_rfl) hfl (i := 1) rfl rfl
      have h2 := field_at (by kernel_rfl) hfl (i := 2) rfl rfl
      have h3 := field_at (by kernel_rfl) hfl (i := 3) rfl rfl
      have h4 := field_at (by kernel_rfl) hfl (i := 4) rfl rfl
      clear hfl h
      match ys, hyl with
      | [y0, y1, y2, y3, y4], _ =>
        obtain ⟨kd, hk, _, hkw⟩ := DataW.trod_int (k := .i64) (by kernel_rfl) h0
        obtain ⟨nn, hnn, _, hnw⟩ := DataW.trod_int (k := .u64) (by kernel_rfl) h1
        obtain ⟨s, hs, hsd, hsw⟩ := DataW.trod_string (by kernel_rfl) h2
        obtain ⟨op, hop, _⟩ := DataW.trod_bool (by kernel_rfl) h4
        have e0 : c0 = .int .i64 kd := by
          have : [c0] = [Value.int .i64 kd] := hk
          simpa using this
        have e1 : c1 = .int .u64 nn := by
          have : [c1] = [Value.int .u64 nn] := hnn
          simpa using this
        have e2 : c2 = .string s := by
          have : [c2] = [Value.string s] := hs
          simpa using this
        have e4 : c4 = .bool op := by
          have : [c4] = [Value.bool op] := hop
          simpa using this
        subst e0 e1 e2 e4
        have bk : -9223372036854775808 ≤ kd ∧ kd ≤ 9223372036854775807 := by simpa [Lit.wf, IntKind.min, IntKind.max, IntKind.signed, IntKind.bits] using hkw
        have bn : 0 ≤ nn ∧ nn ≤ 18446744073709551615 := by simpa [Lit.wf, IntKind.min, IntKind.max, IntKind.signed, IntKind.bits] using hnw
        have bs : s.data.toList.length < 4611686018427387904 := by
          have := hz' s.data.toList.length (DataW.weights_mem_each (j := 2) rfl (show _ = some (DataW.lit (.string s.data.toList)) by simp only [List.map, List.getElem?_cons_succ, List.getElem?_cons_zero]; rw [hsd]) _ (by simp [DataW.weights]))
          omega
        obtain ⟨nm, rfl⟩ := Int.eq_ofNat_of_zero_le bn.1
        rcases DataW.trod_slice (e := 36) (by kernel_rfl) h3 with ⟨hcs, _⟩ | ⟨a, len, cap', elems, rest, f, hf, hcs, hx, hb, hl, hm, hlen, hel, _, _⟩
        · have e3 : c3 = .slice none 0 0 := by simpa using hcs
          subst e3
          refine ⟨T.mk kd nm s.data.toList op 0 (fun _ => T.nil), none, 0, rfl, ?_, fun h => by omega⟩
          unfold T.ok
          exact ⟨bk, by omega, bs, by omega, fun i hi => by omega⟩
        · have e3 : c3 = .slice (some a) len cap' := by simpa using hcs
          subst e3
          have hC : Tryd.prog.cellsOf 36 = 5 := by kernel_rfl
          have hBy : Tryd.prog.bytesOf 36 = 64 := by kernel_rfl
          have hzs : ∀ n ∈ (y3.1).weights Tryd.prog 34, n ≤ reachBytes := fun n hn => hz' n (DataW.weights_mem_each (j := 3) rfl (show _ = some y3.1 by rfl) _ hn)
          rw [hx] at hzs
          simp only [DataW.weights, Tryd.underlying34] at hzs
          have bl : len < 4611686018427387904 := by
            have h8 := hzs _ List.mem_cons_self
            rw [hBy, List.length_map, hlen] at h8
            have h9 : len * 64 ≤ (len + (List.map (fun x => x.1) rest).length) * 64 := Nat.mul_le_mul_right _ (Nat.le_add_right _ _)
            omega
          have key : ∀ i, i < len → ∃ (t : T) (Ai : Option Addr) (ci : Nat), (w.cell? ((a.add (i * 5)).add 0) = some (.int .i64 t.kind) ∧ w.cell? ((a.add (i * 5)).add 1) = some (.int .u64 (t.n : Int)) ∧ w.cell? ((a.add (i * 5)).add 2) = some (str t.s) ∧ w.cell? ((a.add (i * 5)).add 3) = some (.slice Ai t.k ci) ∧ w.cell? ((a.add (i * 5)).add 4) = some (.bool t.op)) ∧ t.ok ∧ IsL w (fun _ => True) t Ai := by
            intro i hin
            have hi := hel i hin
            rw [List.getElem?_eq_getElem (by omega)] at hi
            obtain ⟨cs', hc, ht⟩ := Option.bind_eq_some_iff.1 hi
            have hz2 : ∀ n ∈ (elems[i]'(by omega)).1.weights Tryd.prog 36, n ≤ reachBytes := fun n hn => by
              apply hzs
              refine List.mem_cons_of_mem _ (List.mem_append_left _ (weights_mem_all hn ?_))
              exact List.mem_map.2 ⟨_, List.getElem_mem _, rfl⟩
            obtain ⟨t, Ai, ci, rfl, hok, hL⟩ := ih f (by omega) cs' _ ht hz2
            rw [hC] at hc
            obtain ⟨_, hcl, hat⟩ := World.cells?_some hc
            exact ⟨t, Ai, ci, ⟨hat 0 (by omega), hat 1 (by omega), hat 2 (by omega), hat 3 (by omega), hat 4 (by omega)⟩, hok, hL⟩
          have key2 : ∀ i, ∃ z : T × Option Addr × Nat, i < len → (w.cell? ((a.add (i * 5)).add 0) = some (.int .i64 z.1.kind) ∧ w.cell? ((a.add (i * 5)).add 1) = some (.int .u64 (z.1.n : Int)) ∧ w.cell? ((a.add (i * 5)).add 2) = some (str z.1.s) ∧ w.cell? ((a.add (i * 5)).add 3) = some (.slice z.2.1 z.1.k z.2.2) ∧ w.cell? ((a.add (i * 5)).add 4) = some (.bool z.1.op)) ∧ z.1.ok ∧ IsL w (fun _ => True) z.1 z.2.1 := fun i => by
            by_cases hin : i < len
            · obtain ⟨t, Ai, ci, h5⟩ := key i hin
              exact ⟨(t, Ai, ci), fun _ => h5⟩
            · exact ⟨(T.nil, none, 0), fun h => absurd h hin⟩
          obtain ⟨g, hg⟩ : ∃ g : Nat → T × Option Addr × Nat, ∀ i, i < len → (w.cell? ((a.add (i * 5)).add 0) = some (.int .i64 (g i).1.kind) ∧ w.cell? ((a.add (i * 5)).add 1) = some (.int .u64 ((g i).1.n : Int)) ∧ w.cell? ((a.add (i * 5)).add 2) = some (str (g i).1.s) ∧ w.cell? ((a.add (i * 5)).add 3) = some (.slice (g i).2.1 (g i).1.k (g i).2.2) ∧ w.cell? ((a.add (i * 5)).add 4) = some (.bool (g i).1.op)) ∧ (g i).1.ok ∧ IsL w (fun _ => True) (g i).1 (g i).2.1 :=
            ⟨fun i => Classical.choose (key2 i), fun i => Classical.choose_spec (key2 i)⟩
          refine ⟨T.mk kd nm s.data.toList op len (fun i => (g i).1), some a, cap', rfl, ?_, ?_⟩
          · unfold T.ok
            exact ⟨bk, by omega, bs, bl, fun i hi => (hg i hi).2.1⟩
          · intro h0
            obtain ⟨⟨z0, _⟩, _⟩ := hg 0 h0
            have z1 : w.cell? a = some (.int .i64 (g 0).1.kind) := by simpa [Addr.add] using z0
            have hsp := World.cell?_spot z1
            obtain ⟨ab, ao, sp⟩ := a
            simp only at hsp
            subst hsp
            refine ⟨ab, ao, rfl, World.block_lt_of_cell? w _ z1, trivial, fun i hin => ⟨(g i).2.1, (g i).2.2, ?_, (hg i hin).2.2⟩⟩
            obtain ⟨⟨g0, g1, g2, g3, g4⟩, _⟩ := hg i hin
            rw [addr_add, addr_add] at g0 g1 g2 g3 g4
            exact ⟨g0, g1, g2, g3, g4⟩

set_option maxRecDepth 100000 in
/-- An argument item.Item, opened. -/
theorem open_item {v : Value} {d : DataW H} {p : List MemPlace} (hval : Value.okWide Tryd.prog w r b0 36 v) (h : DataW.Trod enc Tryd.prog w base spare held 36 v d p) (hz : ∀ n ∈ d.weights Tryd.prog 36, n ≤ reachBytes) :
    ∃ (t : T) (A : Option Addr) (c : Nat), v = itemV t A c ∧ t.ok ∧ IsL w (fun _ => True) t A := by
  obtain ⟨cs, rfl, hsz⟩ := okWide_struct Tryd.underlying36 hval
  obtain ⟨fuel, hf⟩ := h
  obtain ⟨t, A, c, e, hok, hL⟩ := trod_item fuel _ _ hf hz
  refine ⟨t, A, c, ?_, hok, hL⟩
  have e2 : cs.toList = [.int .i64 t.kind, .int .u64 (t.n : Int), str t.s, .slice A t.k c, .bool t.op] := e
  rw [itemV, ← e2]
end
end Go.Proofs.YtblfmokklfhklaaDoor


namespace Go.Proofs.YtblfmokklfhklaaDoor
open Go.RowKit
set_option linter.unusedVariables false
set_option linter.unusedSimpArgs false

def t82 : T := T.mk 4 0 [] false 2 fun i => if i = 0 then numT 1 else strT [97]
theorem t82_build : buildV t82 = .tuple #[str [130, 1, 65, 97], .int .i64 0] := by
  have h1 : t82.right 8 = true := by decide
  have h2 : t82.bytes = [130, 1, 65, 97] := by decide
  rw [buildV, h1, h2]; rfl
theorem t82_ok : t82.ok := by
  unfold t82 T.ok
  refine ⟨by omega, by omega, by simp, by omega, fun i hi => ?_⟩
  dsimp only
  split
  · unfold numT T.ok; exact ⟨by omega, by omega, by simp, by omega, fun i hi => by omega⟩
  · unfold strT T.ok; exact ⟨by omega, by omega, by simp, by omega, fun i hi => by omega⟩
set_option maxRecDepth 20000 in
set_option maxHeartbeats 1600000 in
/-- The code's Same. -/
theorem Same_any (a b : T) (hoa : a.ok) (hob : b.ok) (A B : Option Addr) (c d : Nat) (w : World) (ha : IsL w (fun _ => True) a A) (hb : IsL w (fun _ => True) b B) :
    Calls Tryd.prog 53 #[itemV a A c, itemV b B d] w (Ret (.bool (a.right 8 && b.right 8 && a.same b)) w) := by
  have H := hid ha; have H' := hid hb; have HO := hid hoa; have HO' := hid hob
  have HBa : Hid (Blk ((w.alloc (.cells (itemC a A c) 36)).alloc (.cells (itemC b B d) 36)) w.heap.size 36 (itemC a A c)) := (Blk.new _ _ _).alloc _
  have HBb : Hid (Blk ((w.alloc (.cells (itemC a A c) 36)).alloc (.cells (itemC b B d) 36)) (w.heap.size + 1) 36 (itemC b B d)) := Blk.new' _ _ _ (by simp)
  have HE0 := hid (((Mod.refl [] w).alloc (.cells (itemC a A c) 36)).alloc (.cells (itemC b B d) 36))
  clear ha hb hoa hob
  go_enter Tryd.func53, Tryd.ntmps53
  go_wp2_with fail
  refine (iRight_any a HO.out A c _ (H.out.ext HE0.out)).mono ?_
  rintro e w2 ⟨rfl, hb2⟩
  have HE2 := hid (HE0.out.trans hb2)
  have hBa2 := HBa.out.ext hb2
  have hBb2 := HBb.out.ext hb2
  have ca0 : w2.cell? ⟨w.heap.size, 0, none⟩ = some (.int .i64 a.kind) := hBa2.cell 0
  have ca1 : w2.cell? ⟨w.heap.size, 1, none⟩ = some (.int .u64 (a.n : Int)) := hBa2.cell 1
  have ca2 : w2.cell? ⟨w.heap.size, 2, none⟩ = some (str a.s) := hBa2.cell 2
  have ca3 : w2.cell? ⟨w.heap.size, 3, none⟩ = some (.slice A a.k c) := hBa2.cell 3
  have ca4 : w2.cell? ⟨w.heap.size, 4, none⟩ = some (.bool a.op) := hBa2.cell 4
  have cb0 : w2.cell? ⟨w.heap.size + 1, 0, none⟩ = some (.int .i64 b.kind) := hBb2.cell 0
  have cb1 : w2.cell? ⟨w.heap.size + 1, 1, none⟩ = some (.int .u64 (b.n : Int)) := hBb2.cell 1
  have cb2 : w2.cell? ⟨w.heap.size + 1, 2, none⟩ = some (str b.s) := hBb2.cell 2
  have cb3 : w2.cell? ⟨w.heap.size + 1, 3, none⟩ = some (.slice B b.k d) := hBb2.cell 3
  have cb4 : w2.cell? ⟨w.heap.size + 1, 4, none⟩ = some (.bool b.op) := hBb2.cell 4
  have HA2 := hid hBa2; have HB2 := hid hBb2
  clear hBa2 hBb2 hb2
  cases hr : a.right 8
  · have HR := hid hr
    clear hr
    go_wp2_with fail
    go_ret
    exact Ret.mk (by simp [show a.right 8 = false from HR.out]) HE2.out
  · have HR := hid hr
    clear hr
    go_wp2_with fail
    refine (iRight_any b HO'.out B d _ (H'.out.ext HE2.out)).mono ?_
    rintro e w3 ⟨rfl, hb3⟩
    have HE3 := hid (HE2.out.trans hb3)
    have hBa2 := HA2.out.ext hb3
    have hBb2 := HB2.out.ext hb3
    clear ca0 ca1 ca2 ca3 ca4 cb0 cb1 cb2 cb3 cb4
    have ca0 : w3.cell? ⟨w.heap.size, 0, none⟩ = some (.int .i64 a.kind) := hBa2.cell 0
    have ca1 : w3.cell? ⟨w.heap.size, 1, none⟩ = some (.int .u64 (a.n : Int)) := hBa2.cell 1
    have ca2 : w3.cell? ⟨w.heap.size, 2, none⟩ = some (str a.s) := hBa2.cell 2
    have ca3 : w3.cell? ⟨w.heap.size, 3, none⟩ = some (.slice A a.k c) := hBa2.cell 3
    have ca4 : w3.cell? ⟨w.heap.size, 4, none⟩ = some (.bool a.op) := hBa2.cell 4
    have cb0 : w3.cell? ⟨w.heap.size + 1, 0, none⟩ = some (.int .i64 b.kind) := hBb2.cell 0
    have cb1 : w3.cell? ⟨w.heap.size + 1, 1, none⟩ = some (.int .u64 (b.n : Int)) := hBb2.cell 1
    have cb2 : w3.cell? ⟨w.heap.size + 1, 2, none⟩ = some (str b.s) := hBb2.cell 2
    have cb3 : w3.cell? ⟨w.heap.size + 1, 3, none⟩ = some (.slice B b.k d) := hBb2.cell 3
    have cb4 : w3.cell? ⟨w.heap.size + 1, 4, none⟩ = some (.bool b.op) := hBb2.cell 4
    clear hBa2 hBb2 hb3
    cases hr : b.right 8
    · have HR2 := hid hr
      clear hr
      go_wp2_with fail
      go_ret
      exact Ret.mk (by simp [show b.right 8 = false from HR2.out]) HE3.out
    · have HR2 := hid hr
      clear hr
      go_wp2_with fail
      refine (same_any a b HO.out HO'.out A c B d _ (H.out.ext HE3.out) (H'.out.ext HE3.out)).mono ?_
      rintro e w4 ⟨rfl, hb4⟩
      go_wp2_with fail
      go_ret
      exact Ret.mk (by simp [show a.right 8 = true from HR.out, show b.right 8 = true from HR2.out]) (HE3.out.trans hb4)

theorem same_law {a b : T} (hoa : a.ok) (hob : b.ok) (hra : a.right 8 = true) (hrb : b.right 8 = true) : a.same b = decide (a.bytes = b.bytes) := by
  have pa : a.plain = true := by rw [T.right_eq] at hra; simp at hra; exact hra.2
  have pb : b.plain = true := by rw [T.right_eq] at hrb; simp at hrb; exact hrb.2
  rw [Bool.eq_iff_iff, decide_eq_true_iff]
  exact ⟨T.same_bytes a b hob, fun h => (T.bytes_inj a b pa pb hoa hob [] [] (by rw [h])).1⟩

/-- The two arguments' blocks in a later world. -/
structure Two (W : World) (g : Nat) (a b : T) (A B : Option Addr) (c d : Nat) : Prop where
  a0 : W.cell? ⟨g, 0, none⟩ = some (.int .i64 a.kind)
  a1 : W.cell? ⟨g, 1, none⟩ = some (.int .u64 (a.n : Int))
  a2 : W.cell? ⟨g, 2, none⟩ = some (str a.s)
  a3 : W.cell? ⟨g, 3, none⟩ = some (.slice A a.k c)
  a4 : W.cell? ⟨g, 4, none⟩ = some (.bool a.op)
  b0 : W.cell? ⟨g + 1, 0, none⟩ = some (.int .i64 b.kind)
  b1 : W.cell? ⟨g + 1, 1, none⟩ = some (.int .u64 (b.n : Int))
  b2 : W.cell? ⟨g + 1, 2, none⟩ = some (str b.s)
  b3 : W.cell? ⟨g + 1, 3, none⟩ = some (.slice B b.k d)
  b4 : W.cell? ⟨g + 1, 4, none⟩ = some (.bool b.op)
theorem Two.new (w : World) (a b : T) (A B : Option Addr) (c d : Nat) : Hid (∀ W, Ext ((w.alloc (.cells (itemC a A c) 36)).alloc (.cells (itemC b B d) 36)) W → Two W w.heap.size a b A B c d) := fun W hW => by
  have h1 : Blk W w.heap.size 36 (itemC a A c) := ((Blk.new _ _ _).alloc _).ext hW
  have h2 : Blk W (w.heap.size + 1) 36 (itemC b B d) := (Blk.new' _ _ _ (by simp)).ext hW
  exact ⟨h1.cell 0, h1.cell 1, h1.cell 2, h1.cell 3, h1.cell 4, h2.cell 0, h2.cell 1, h2.cell 2, h2.cell 3, h2.cell 4⟩

end Go.Proofs.YtblfmokklfhklaaDoor


namespace Go.Proofs.YtblfmokklfhklaaDoor
open Go.RowKit
set_option linter.unusedVariables false
set_option linter.unusedSimpArgs false

theorem readE_name {t : T} (hok : t.ok) : (readE t).name.length < 4611686018427387904 := by
  unfold readE
  split
  · simp [zeroE]
  · rename_i h
    split
    · simp
    · split
      · cases t with
        | nil => exact absurd hok T.not_nil
        | mk kind n s op k ch =>
          have hk : k = 2 := by
            by_cases hk : k = 2
            · exact hk
            · exact absurd (Or.inr (Or.inl hk)) h
          subst hk
          have h1 := hok.2.2.2.2 1 (by omega)
          show (ch 1).s.length < _
          cases hc : ch 1 with
          | nil => simp [T.s]
          | mk a b d e f g => rw [hc] at h1; exact h1.2.2.1
      · simp [noneE]
def ofB (t : T) : Bool := (readE t).ok && (t.right 8 && t.same (eidT (readE t)))

set_option maxRecDepth 20000 in
set_option maxHeartbeats 1600000 in
theorem eidOf_yes (t : T) (hok : t.ok) (ho : (readE t).ok = true) (hs : (t.right 8 && t.same (eidT (readE t))) = true) (A : Option Addr) (c : Nat) (w : World) (h : IsL w (fun _ => True) t A) : Calls Tryd.prog 29 #[itemV t A c] w (Ret (.tuple #[(readE t).v, .int .i64 0]) w) := by
  have K1 : Hid (∀ W, IsL W (fun _ => True) t A → Calls Tryd.prog 52 #[itemV t A c] W (Ret (readE t).v W)) := fun W hW => eread_any t (by rintro rfl; exact T.not_nil hok) A c W hW
  have H := hid h
  have K2 := hid (fun W => eidItem_ok (readE t) ho W)
  obtain ⟨g1, g2, _, _⟩ := eidT_ok ho
  have K3 : Hid (∀ (B : Option Addr) (W : World), IsL W (fun _ => True) t A → IsL W (fun _ => True) (eidT (readE t)) B → Calls Tryd.prog 53 #[itemV t A c, itemV (eidT (readE t)) B 2] W (Ret (.bool true) W)) := fun B W h1 h2 => by
    have := Same_any t (eidT (readE t)) hok g1 A B c 2 W h1 h2
    rw [g2 8 (by omega), Bool.and_true, hs] at this
    exact this
  clear g1 g2 ho h hok hs
  generalize eidT (readE t) = y at *
  generalize readE t = e at *
  have HE := hid (((Mod.refl [] w).alloc (.cells (itemC t A c) 36)).alloc (.cells #[.int .i64 0, .string ⟨#[]⟩, .int .u64 0, .int .u64 0] 27))
  have HX := hid ((Blk.new w 36 (itemC t A c)).alloc (.cells #[.int .i64 0, .string ⟨#[]⟩, .int .u64 0, .int .u64 0] 27))
  have HQ := hid (Blk.new' (w.alloc (.cells (itemC t A c) 36)) 27 #[.int .i64 0, .string ⟨#[]⟩, .int .u64 0, .int .u64 0] (N := w.heap.size + 1) (by simp))
  go_enter Tryd.func29, Tryd.ntmps29
  go_wp2_with fail
  refine (K1.out _ (H.out.ext HE.out)).mono ?_
  rintro e1 w1 ⟨rfl, hb1⟩
  have HE1 := hid ((HE.out.trans hb1).alloc (.cells e.c 27))
  have HX1 := hid ((HX.out.ext hb1).alloc (.cells e.c 27))
  have HQ1 := hid ((HQ.out.ext hb1).alloc (.cells e.c 27))
  have HV1 := hid (Blk.new w1 27 e.c)
  clear hb1
  go_wp2_with fail
  refine (K2.out _).mono ?_
  rintro e1 w2 ⟨B, rfl, hb2, hl2⟩
  have HE2 := hid ((HE1.out.trans hb2).alloc (.cells (itemC y B 2) 36))
  have HX2 := hid ((HX1.out.ext hb2).alloc (.cells (itemC y B 2) 36))
  have HQ2 := hid ((HQ1.out.ext hb2).alloc (.cells (itemC y B 2) 36))
  have HV2 := hid ((HV1.out.ext hb2).alloc (.cells (itemC y B 2) 36))
  have HY2 := hid (Blk.new w2 36 (itemC y B 2))
  have HL2 : Hid (IsL (w2.alloc (.cells (itemC y B 2) 36)) (fun _ => True) y B) := IsL.ext (IsL.weak (fun _ _ _ => trivial) _ hl2) ((Mod.refl _ _).alloc _)
  have H2 := hid ((H.out.ext HE2.out))
  clear hb2 hl2
  obtain ⟨q0, q1, q2, q3, q4⟩ := cells5 HX2.out
  go_wp2_with fail
  refine (K3.out B _ H2.out HL2.out).mono ?_
  rintro e1 w3 ⟨rfl, hb3⟩
  have HE3 := hid (HE2.out.trans hb3)
  have HQ3 := hid (HQ2.out.ext hb3)
  have HV3 := hid (HV2.out.ext hb3)
  clear hb3 q0 q1 q2 q3 q4
  obtain ⟨r0, r1, r2, r3⟩ : w3.cell? ⟨w.heap.size + 1, 0, none⟩ = some (.int .i64 0) ∧ w3.cell? ⟨w.heap.size + 1, 1, none⟩ = some (str []) ∧ w3.cell? ⟨w.heap.size + 1, 2, none⟩ = some (.int .u64 0) ∧ w3.cell? ⟨w.heap.size + 1, 3, none⟩ = some (.int .u64 0) := ⟨HQ3.out.cell 0, HQ3.out.cell 1, HQ3.out.cell 2, HQ3.out.cell 3⟩
  have f0 := Blk.frozen HQ3.out 0
  have f1 := Blk.frozen HQ3.out 1
  have f2 := Blk.frozen HQ3.out 2
  have f3 := Blk.frozen HQ3.out 3
  obtain ⟨v0, v1, v2, v3⟩ : w3.cell? ⟨w1.heap.size, 0, none⟩ = some (.int .i64 e.sch) ∧ w3.cell? ⟨w1.heap.size, 1, none⟩ = some (str e.name) ∧ w3.cell? ⟨w1.heap.size, 2, none⟩ = some (.int .u64 (e.node : Int)) ∧ w3.cell? ⟨w1.heap.size, 3, none⟩ = some (.int .u64 (e.svc : Int)) := ⟨HV3.out.cell 0, HV3.out.cell 1, HV3.out.cell 2, HV3.out.cell 3⟩
  go_wp2_with fail
  have B4 := (((HQ3.out.set_ 0 (.int .i64 e.sch)).set_ 1 (str e.name)).set_ 2 (.int .u64 (e.node : Int))).set_ 3 (.int .u64 (e.svc : Int))
  obtain ⟨d0, d1, d2, d3⟩ := And.intro (B4.cell 0) (And.intro (B4.cell 1) (And.intro (B4.cell 2) (B4.cell 3)))
  simp only [List.setIfInBounds_toArray, List.set_cons_zero, List.set_cons_succ, List.getElem?_toArray, List.getElem?_cons_zero, List.getElem?_cons_succ] at d0 d1 d2 d3
  clear r0 r1 r2 r3 f0 f1 f2 f3 v0 v1 v2 v3
  refine bodyPost_ret (v := .tuple #[e.v, .int .i64 0]) (by simp [results, Tryd.results29, go_sem, d0, d1, d2, d3]) rfl (Ret.mk rfl ((((HE3.out.setCell (.inr (by show w.heap.size ≤ w.heap.size + 1; omega)) _).setCell (.inr (by show w.heap.size ≤ w.heap.size + 1; omega)) _).setCell (.inr (by show w.heap.size ≤ w.heap.size + 1; omega)) _).setCell (.inr (by show w.heap.size ≤ w.heap.size + 1; omega)) _))
set_option maxRecDepth 20000 in
set_option maxHeartbeats 1600000 in
theorem eidOf_no (t : T) (hok : t.ok) (ho : (readE t).ok = true) (hs : (t.right 8 && t.same (eidT (readE t))) = false) (A : Option Addr) (c : Nat) (w : World) (h : IsL w (fun _ => True) t A) : Calls Tryd.prog 29 #[itemV t A c] w (Ret (.tuple #[zeroE.v, .int .i64 2]) w) := by
  have K1 : Hid (∀ W, IsL W (fun _ => True) t A → Calls Tryd.prog 52 #[itemV t A c] W (Ret (readE t).v W)) := fun W hW => eread_any t (by rintro rfl; exact T.not_nil hok) A c W hW
  have H := hid h
  have K2 := hid (fun W => eidItem_ok (readE t) ho W)
  obtain ⟨g1, g2, _, _⟩ := eidT_ok ho
  have K3 : Hid (∀ (B : Option Addr) (W : World), IsL W (fun _ => True) t A → IsL W (fun _ => True) (eidT (readE t)) B → Calls Tryd.prog 53 #[itemV t A c, itemV (eidT (readE t)) B 2] W (Ret (.bool false) W)) := fun B W h1 h2 => by
    have := Same_any t (eidT (readE t)) hok g1 A B c 2 W h1 h2
    rw [g2 8 (by omega), Bool.and_true, hs] at this
    exact this
  clear g1 g2 ho h hok hs
  generalize eidT (readE t) = y at *
  generalize readE t = e at *
  have HE := hid (((Mod.refl [] w).alloc (.cells (itemC t A c) 36)).alloc (.cells #[.int .i64 0, .string ⟨#[]⟩, .int .u64 0, .int .u64 0] 27))
  have HX := hid ((Blk.new w 36 (itemC t A c)).alloc (.cells #[.int .i64 0, .string ⟨#[]⟩, .int .u64 0, .int .u64 0] 27))
  have HQ := hid (Blk.new' (w.alloc (.cells (itemC t A c) 36)) 27 #[.int .i64 0, .string ⟨#[]⟩, .int .u64 0, .int .u64 0] (N := w.heap.size + 1) (by simp))
  go_enter Tryd.func29, Tryd.ntmps29
  go_wp2_with fail
  refine (K1.out _ (H.out.ext HE.out)).mono ?_
  rintro e1 w1 ⟨rfl, hb1⟩
  have HE1 := hid ((HE.out.trans hb1).alloc (.cells e.c 27))
  have HX1 := hid ((HX.out.ext hb1).alloc (.cells e.c 27))
  have HQ1 := hid ((HQ.out.ext hb1).alloc (.cells e.c 27))
  have HV1 := hid (Blk.new w1 27 e.c)
  clear hb1
  go_wp2_with fail
  refine (K2.out _).mono ?_
  rintro e1 w2 ⟨B, rfl, hb2, hl2⟩
  have HE2 := hid ((HE1.out.trans hb2).alloc (.cells (itemC y B 2) 36))
  have HX2 := hid ((HX1.out.ext hb2).alloc (.cells (itemC y B 2) 36))
  have HQ2 := hid ((HQ1.out.ext hb2).alloc (.cells (itemC y B 2) 36))
  have HV2 := hid ((HV1.out.ext hb2).alloc (.cells (itemC y B 2) 36))
  have HY2 := hid (Blk.new w2 36 (itemC y B 2))
  have HL2 : Hid (IsL (w2.alloc (.cells (itemC y B 2) 36)) (fun _ => True) y B) := IsL.ext (IsL.weak (fun _ _ _ => trivial) _ hl2) ((Mod.refl _ _).alloc _)
  have H2 := hid ((H.out.ext HE2.out))
  clear hb2 hl2
  obtain ⟨q0, q1, q2, q3, q4⟩ := cells5 HX2.out
  go_wp2_with fail
  refine (K3.out B _ H2.out HL2.out).mono ?_
  rintro e1 w3 ⟨rfl, hb3⟩
  have HE3 := hid (HE2.out.trans hb3)
  have HQ3 := hid (HQ2.out.ext hb3)
  have HV3 := hid (HV2.out.ext hb3)
  clear hb3 q0 q1 q2 q3 q4
  obtain ⟨r0, r1, r2, r3⟩ : w3.cell? ⟨w.heap.size + 1, 0, none⟩ = some (.int .i64 0) ∧ w3.cell? ⟨w.heap.size + 1, 1, none⟩ = some (str []) ∧ w3.cell? ⟨w.heap.size + 1, 2, none⟩ = some (.int .u64 0) ∧ w3.cell? ⟨w.heap.size + 1, 3, none⟩ = some (.int .u64 0) := ⟨HQ3.out.cell 0, HQ3.out.cell 1, HQ3.out.cell 2, HQ3.out.cell 3⟩
  have f0 := Blk.frozen HQ3.out 0
  have f1 := Blk.frozen HQ3.out 1
  have f2 := Blk.frozen HQ3.out 2
  have f3 := Blk.frozen HQ3.out 3
  go_wp2_with fail
  have B4 := (((HQ3.out.set_ 0 (.int .i64 0)).set_ 1 (str [])).set_ 2 (.int .u64 0)).set_ 3 (.int .u64 0)
  obtain ⟨d0, d1, d2, d3⟩ := And.intro (B4.cell 0) (And.intro (B4.cell 1) (And.intro (B4.cell 2) (B4.cell 3)))
  simp only [List.setIfInBounds_toArray, List.set_cons_zero, List.set_cons_succ, List.getElem?_toArray, List.getElem?_cons_zero, List.getElem?_cons_succ] at d0 d1 d2 d3
  clear r0 r1 r2 r3 f0 f1 f2 f3
  refine bodyPost_ret (v := .tuple #[.agg #[.int .i64 0, str [], .int .u64 0, .int .u64 0], .int .i64 2]) (by simp [results, Tryd.results29, go_sem, d0, d1, d2, d3]) rfl (Ret.mk rfl ((((HE3.out.setCell (.inr (by show w.heap.size ≤ w.heap.size + 1; omega)) _).setCell (.inr (by show w.heap.size ≤ w.heap.size + 1; omega)) _).setCell (.inr (by show w.heap.size ≤ w.heap.size + 1; omega)) _).setCell (.inr (by show w.heap.size ≤ w.heap.size + 1; omega)) _))
set_option maxRecDepth 20000 in
set_option maxHeartbeats 1600000 in
theorem eidOf_bad (t : T) (hok : t.ok) (ho : (readE t).ok = false) (A : Option Addr) (c : Nat) (w : World) (h : IsL w (fun _ => True) t A) : Calls Tryd.prog 29 #[itemV t A c] w (Ret (.tuple #[zeroE.v, .int .i64 2]) w) := by
  have K1 : Hid (∀ W, IsL W (fun _ => True) t A → Calls Tryd.prog 52 #[itemV t A c] W (Ret (readE t).v W)) := fun W hW => eread_any t (by rintro rfl; exact T.not_nil hok) A c W hW
  have H := hid h
  have hl := readE_name hok
  have K2 : Hid (∀ W, Calls Tryd.prog 41 #[(readE t).v] W (Ret (.tuple #[itemV (numT 0) none 0, .int .i64 1]) W)) := fun W => eidItem_bad _ _ _ _ hl ho W
  clear ho h hok hl
  generalize readE t = e at *
  have HE := hid (((Mod.refl [] w).alloc (.cells (itemC t A c) 36)).alloc (.cells #[.int .i64 0, .string ⟨#[]⟩, .int .u64 0, .int .u64 0] 27))
  have HX := hid ((Blk.new w 36 (itemC t A c)).alloc (.cells #[.int .i64 0, .string ⟨#[]⟩, .int .u64 0, .int .u64 0] 27))
  have HQ := hid (Blk.new' (w.alloc (.cells (itemC t A c) 36)) 27 #[.int .i64 0, .string ⟨#[]⟩, .int .u64 0, .int .u64 0] (N := w.heap.size + 1) (by simp))
  go_enter Tryd.func29, Tryd.ntmps29
  go_wp2_with fail
  refine (K1.out _ (H.out.ext HE.out)).mono ?_
  rintro e1 w1 ⟨rfl, hb1⟩
  have HE1 := hid ((HE.out.trans hb1).alloc (.cells e.c 27))
  have HX1 := hid ((HX.out.ext hb1).alloc (.cells e.c 27))
  have HQ1 := hid ((HQ.out.ext hb1).alloc (.cells e.c 27))
  have HV1 := hid (Blk.new w1 27 e.c)
  clear hb1
  go_wp2_with fail
  refine (K2.out _).mono ?_
  rintro e1 w3 ⟨rfl, hb3⟩
  have HE3 := hid ((HE1.out.trans hb3).alloc (.cells (itemC (numT 0) none 0) 36))
  have HQ3 := hid ((HQ1.out.ext hb3).alloc (.cells (itemC (numT 0) none 0) 36))
  clear hb3
  obtain ⟨r0, r1, r2, r3⟩ : (w3.alloc (.cells (itemC (numT 0) none 0) 36)).cell? ⟨w.heap.size + 1, 0, none⟩ = some (.int .i64 0) ∧ (w3.alloc (.cells (itemC (numT 0) none 0) 36)).cell? ⟨w.heap.size + 1, 1, none⟩ = some (str []) ∧ (w3.alloc (.cells (itemC (numT 0) none 0) 36)).cell? ⟨w.heap.size + 1, 2, none⟩ = some (.int .u64 0) ∧ (w3.alloc (.cells (itemC (numT 0) none 0) 36)).cell? ⟨w.heap.size + 1, 3, none⟩ = some (.int .u64 0) := ⟨HQ3.out.cell 0, HQ3.out.cell 1, HQ3.out.cell 2, HQ3.out.cell 3⟩
  have f0 := Blk.frozen HQ3.out 0
  have f1 := Blk.frozen HQ3.out 1
  have f2 := Blk.frozen HQ3.out 2
  have f3 := Blk.frozen HQ3.out 3
  go_wp2_with fail
  have B4 := (((HQ3.out.set_ 0 (.int .i64 0)).set_ 1 (str [])).set_ 2 (.int .u64 0)).set_ 3 (.int .u64 0)
  obtain ⟨d0, d1, d2, d3⟩ := And.intro (B4.cell 0) (And.intro (B4.cell 1) (And.intro (B4.cell 2) (B4.cell 3)))
  simp only [List.setIfInBounds_toArray, List.set_cons_zero, List.set_cons_succ, List.getElem?_toArray, List.getElem?_cons_zero, List.getElem?_cons_succ] at d0 d1 d2 d3
  clear r0 r1 r2 r3 f0 f1 f2 f3
  refine bodyPost_ret (v := .tuple #[.agg #[.int .i64 0, str [], .int .u64 0, .int .u64 0], .int .i64 2]) (by simp [results, Tryd.results29, go_sem, d0, d1, d2, d3]) rfl (Ret.mk rfl ((((HE3.out.setCell (.inr (by show w.heap.size ≤ w.heap.size + 1; omega)) _).setCell (.inr (by show w.heap.size ≤ w.heap.size + 1; omega)) _).setCell (.inr (by show w.heap.size ≤ w.heap.size + 1; omega)) _).setCell (.inr (by show w.heap.size ≤ w.heap.size + 1; omega)) _))
theorem eidOf_any (t : T) (hok : t.ok) (A : Option Addr) (c : Nat) (w : World) (h : IsL w (fun _ => True) t A) : Calls Tryd.prog 29 #[itemV t A c] w (Ret (.tuple #[(if ofB t then readE t else zeroE).v, .int .i64 (if ofB t then 0 else 2)]) w) := by
  by_cases ho : (readE t).ok = true
  · by_cases hs : (t.right 8 && t.same (eidT (readE t))) = true
    · have hb : ofB t = true := by unfold ofB; rw [ho, hs]; rfl
      rw [hb]; exact eidOf_yes t hok ho hs A c w h
    · have hs2 : (t.right 8 && t.same (eidT (readE t))) = false := by simpa using hs
      have hb : ofB t = false := by unfold ofB; rw [ho, hs2]; rfl
      rw [hb]; exact eidOf_no t hok ho hs2 A c w h
  · have ho2 : (readE t).ok = false := by simpa using ho
    have hb : ofB t = false := by unfold ofB; rw [ho2]; rfl
    rw [hb]; exact eidOf_bad t hok ho2 A c w h
end Go.Proofs.YtblfmokklfhklaaDoor


namespace Go.Proofs.YtblfmokklfhklaaDoor
open Go.RowKit
set_option linter.unusedVariables false
set_option linter.unusedSimpArgs false

theorem At5.range {w : World} {b o : Nat} {t : T} {A : Option Addr} {c : Nat} (h : At5 w b o t A c) : w.rangeAt b o [.int .i64 t.kind, .int .u64 (t.n : Int), str t.s, .slice A t.k c, .bool t.op] := fun j v hj => by
  match j, hj with
  | 0, hj => simp at hj; subst hj; exact h.1
  | 1, hj => simp at hj; subst hj; exact h.2.1
  | 2, hj => simp at hj; subst hj; exact h.2.2.1
  | 3, hj => simp at hj; subst hj; exact h.2.2.2.1
  | 4, hj => simp at hj; subst hj; exact h.2.2.2.2
end Go.Proofs.YtblfmokklfhklaaDoor


namespace Go.Proofs.YtblfmokklfhklaaDoor
open Go.RowKit
set_option linter.unusedVariables false
set_option linter.unusedSimpArgs false

/-- Items that can be a security text's; the text. -/
def rdOK (t : T) : Bool := (decide (t.k = 5) || decide (t.k = 6)) && T.all (numK (t.ch 0)) (t.ch 0).k && decide ((t.ch 1).kind = 0) && ofB (t.ch 3) && (decide (t.k = 5) || T.all (pairK (t.ch 4)) (t.ch 4).k) && T.all (resK (t.ch (t.k - 1))) (t.ch (t.k - 1)).k
def rdA (t : T) : AV := ⟨(t.ch 0).k, tgtN (t.ch 0), min ((t.ch 1).n : Int) 65536, readE (t.ch 3), if t.k = 6 then ⟨(t.ch 4).k, pairP (t.ch 4)⟩ else zeroA.ps, (t.ch (t.k - 1)).k, resP (t.ch (t.k - 1))⟩
/-- A text's cells, whatever they are. -/
structure ZC (zc : Array Value) : Prop where
  i : (Tryd.prog.info? 31).map (·.size) = some zc.size
  o : zc.all (·.oneCell') = true
  s : zc.size = 8
theorem ZC.mk' (a : AV) (m : AA) : ZC (asbC a m) := ⟨by kernel_rfl, by simp [asbC, Value.oneCell'], rfl⟩
/-- What is told. -/
def NewQ (X : Nat → Prop) (n b : Nat) : Prop := (X b ∧ b < n) ∨ n ≤ b
def RdPost (X : Nat → Prop) (t : T) (eb : Addr) (w : World) (e : Ending) (w' : World) : Prop :=
  (rdOK t = false ∧ ∃ zc x l, e = .returned (.tuple #[.agg zc, errV eb (x :: l)]) ∧ Ext w w' ∧ ZC zc) ∨
  (rdOK t = true ∧ ∃ m, e = .returned (.tuple #[asbV (rdA t) m, .nilIface]) ∧ Ext w w' ∧ AsL w' (NewQ X w.heap.size) (rdA t) m ∧ (rdA t).tk ≤ m.tc)
theorem T.okc {t : T} (hok : t.ok) {i : Nat} (hi : i < t.k) : (t.ch i).ok := by
  cases t with
  | nil => exact absurd hi (Nat.not_lt_zero _)
  | mk kd n s op k ch => unfold T.ok at hok; exact hok.2.2.2.2 i hi
set_option maxRecDepth 20000 in
set_option maxHeartbeats 16000000 in
theorem aread5_any {X : Nat → Prop} (t : T) (hk : t.k = 5) (hok : t.ok) (hb : ∀ i, i < t.k → (t.ch i).k ≤ 1000 ∧ ∀ j, j < (t.ch i).k → ((t.ch i).ch j).k ≤ 1000) (b o c : Nat) (eb : Addr) (w : World) (hf : FormAt w eb) (h : IsL w (fun b => X b ∧ b < w.heap.size) t (some ⟨b, o, none⟩)) : Calls Tryd.prog 17 #[.slice (some ⟨b, o, none⟩) 5 c] w (RdPost X t eb w) := by
  have hch : ∀ i, i < 5 → ∃ Ai ci, ∀ W, Ext w W → At5 W b (o + 5 * i) (t.ch i) Ai ci ∧ IsL W (fun b => X b ∧ b < w.heap.size) (t.ch i) Ai := fun i hi => by
    obtain ⟨b', o', Ai, ci, h1, h2, _, h4, h5⟩ := kidsA h (i := i) (by omega)
    cases h1
    exact ⟨Ai, ci, fun W hW => ⟨by have := h4.mod hW h2 (by simp); rwa [Nat.mul_comm i 5] at this, h5.ext hW⟩⟩
  obtain ⟨A0, c0, hp0⟩ := hch 0 (by decide)
  have HP0 : Hid (∀ W, Ext w W → At5 W b (o) (t.ch 0) A0 c0) := hid (fun W hW => (hp0 W hW).1)
  have HI0 : Hid (∀ W, Ext w W → IsL W (fun b => X b ∧ b < w.heap.size) (t.ch 0) A0) := hid (fun W hW => (hp0 W hW).2)
  clear hp0
  obtain ⟨A1, c1, hp1⟩ := hch 1 (by decide)
  have HP1 : Hid (∀ W, Ext w W → At5 W b (o + 5) (t.ch 1) A1 c1) := hid (fun W hW => (hp1 W hW).1)
  have HI1 : Hid (∀ W, Ext w W → IsL W (fun b => X b ∧ b < w.heap.size) (t.ch 1) A1) := hid (fun W hW => (hp1 W hW).2)
  clear hp1
  obtain ⟨A3, c3, hp3⟩ := hch 3 (by decide)
  have HP3 : Hid (∀ W, Ext w W → At5 W b (o + 15) (t.ch 3) A3 c3) := hid (fun W hW => (hp3 W hW).1)
  have HI3 : Hid (∀ W, Ext w W → IsL W (fun b => X b ∧ b < w.heap.size) (t.ch 3) A3) := hid (fun W hW => (hp3 W hW).2)
  clear hp3
  obtain ⟨A4, c4, hp4⟩ := hch 4 (by decide)
  have HP4 : Hid (∀ W, Ext w W → At5 W b (o + 20) (t.ch 4) A4 c4) := hid (fun W hW => (hp4 W hW).1)
  have HI4 : Hid (∀ W, Ext w W → IsL W (fun b => X b ∧ b < w.heap.size) (t.ch 4) A4) := hid (fun W hW => (hp4 W hW).2)
  clear hp4
  have HOK3 := hid (T.okc hok (i := 3) (by omega))
  have HKB := hid (fun i (hi : i < 5) => hb i (by omega))
  have HE := hid ((Mod.refl [] w).alloc (.cells #[.slice none 0 0, .int .i64 0, .int .i64 0, .string ⟨#[]⟩, .int .u64 0, .int .u64 0, .slice none 0 0, .slice none 0 0] 31))
  have HBk : Hid (Blk (w.alloc (.cells #[.slice none 0 0, .int .i64 0, .int .i64 0, .string ⟨#[]⟩, .int .u64 0, .int .u64 0, .slice none 0 0, .slice none 0 0] 31)) w.heap.size 31 (asbC zeroA zeroM)) := hid (Blk.new w 31 #[.slice none 0 0, .int .i64 0, .int .i64 0, .string ⟨#[]⟩, .int .u64 0, .int .u64 0, .slice none 0 0, .slice none 0 0])
  have HS : Hid (w.heap.size + 1 = (w.alloc (.cells #[.slice none 0 0, .int .i64 0, .int .i64 0, .string ⟨#[]⟩, .int .u64 0, .int .u64 0, .slice none 0 0, .slice none 0 0] 31)).heap.size) := hid (by simp)
  have HFM := hid (fun W (hW : Ext w W) => hf.ext hW)
  have HOKR : Hid (rdOK t = (T.all (numK (t.ch 0)) (t.ch 0).k && decide ((t.ch 1).kind = 0) && ofB (t.ch 3) && true && T.all (resK (t.ch 4)) (t.ch 4).k)) := hid (by unfold rdOK; rw [hk]; rfl)
  have HKk := hid hk
  clear h hch hf hok hb hk
  go_enter Tryd.func17, Tryd.ntmps17
  go_upto_region 1 with fail
  generalize w.alloc (.cells #[.slice none 0 0, .int .i64 0, .int .i64 0, .string ⟨#[]⟩, .int .u64 0, .int .u64 0, .slice none 0 0, .slice none 0 0] 31) = V at *
  go_upto_region 3 with fail
  have a0 : V.cell? ⟨b, o, none⟩ = _ := (HP0.out _ HE.out).1
  have a1 : V.cell? ⟨b, o + 1, none⟩ = _ := (HP0.out _ HE.out).2.1
  have a2 : V.cell? ⟨b, o + 2, none⟩ = _ := (HP0.out _ HE.out).2.2.1
  have a3 : V.cell? ⟨b, o + 3, none⟩ = _ := (HP0.out _ HE.out).2.2.2.1
  have a4 : V.cell? ⟨b, o + 4, none⟩ = _ := (HP0.out _ HE.out).2.2.2.2
  have KT := hid (areadT_any (t.ch 0) (HKB.out 0 (by decide)).1 A0 c0 eb V (HFM.out _ HE.out) (IsL.weak (fun _ _ _ => trivial) _ (HI0.out _ HE.out)))
  have HSV := HS
  by_cases hT : T.all (numK (t.ch 0)) (t.ch 0).k = true
  case neg =>
    have hT : T.all (numK (t.ch 0)) (t.ch 0).k = false := by simpa using hT
    have HNO : Hid (rdOK t = false) := hid (by rw [HOKR.out, hT]; simp)
    have KE : Hid (Calls Tryd.prog 27 #[itemV (t.ch 0) A0 c0] V (fun e w' => e = .returned (.tuple #[.slice none 0 0, .iface 100 (.agg #[str [116, 97, 114, 103, 101, 116, 115], errV eb [[110, 117, 109, 98, 101, 114]]])]) ∧ Ext V w')) := hid (KT.out.mono fun e w' h => by
      rcases h with ⟨_, h1, h2⟩ | ⟨h1, _⟩
      · exact ⟨h1, h2⟩
      · rw [hT] at h1; exact absurd h1 (by decide))
    clear hT KT
    go_upto_region 5 with (go_at_call 27; refine KE.out.mono ?_; rintro x w3 ⟨rfl, hb⟩; have HX := hid hb; have q0 := (HBk.out.ext hb).cell 0; have q0f := (HBk.out.ext hb).frozen 0; clear hb)
    generalize hY : World.setCell w3 ⟨w.heap.size, 0, none⟩ _ = U
    have HE2 : Hid (Ext w U) := hid (by rw [← hY]; exact (HE.out.trans HX.out).setCell (.inr (Nat.le_refl _)) _)
    have HB2 : Hid (Blk U w.heap.size 31 (asbC zeroA zeroM)) := hid (by rw [← hY]; exact (HBk.out.ext HX.out).set_ 0 _)
    clear hY q0 q0f a0 a1 a2 a3 a4
    have HZC := hid (ZC.mk' zeroA zeroM)
    obtain ⟨zc, hzc⟩ : ∃ zc, asbC zeroA zeroM = zc := ⟨_, rfl⟩
    have HBZ : Hid (Blk U w.heap.size 31 zc) := hid (by rw [← hzc]; exact HB2.out)
    rw [hzc] at HZC
    clear hzc
    have tk1 : True := trivial
    have tk2 : True := trivial
    go_wp2_with (first | (clear tk1; refine wpList_row (by rfl) 31 _ rfl _ rfl HBZ.out Tryd.underlying31 rfl HZC.out.i ?_) | (clear tk2; refine wpList_store_mid rfl 31 _ _ rfl (w.heap.size) 0 zc (by rfl) (by rfl) (HBZ.out.there (by rw [HZC.out.s]; exact Nat.le_refl 8)) HZC.out.i HZC.out.o ?_))
    have hY := setCells_all (ds := zc) HBZ.out (Array.length_toList ..)
    have hM2 := setCells_mod (b := w.heap.size) (zc : Array Value).toList 0 HE2.out (.inr (by omega))
    generalize hZ2 : World.setCells _ _ 0 _ = Z2 at *
    refine bodyPost_ret (results_cell2 rfl _ (by rfl) (by rfl) hY Tryd.underlying31 rfl HZC.out.i) rfl (.inl ⟨HNO.out, zc, [116, 97, 114, 103, 101, 116, 115], [[110, 117, 109, 98, 101, 114]], ?_, hM2, HZC.out⟩)
    rfl

  have KE : Hid (Calls Tryd.prog 27 #[itemV (t.ch 0) A0 c0] V (fun e w' => ∃ At ct, e = .returned (.tuple #[.slice At (t.ch 0).k ct, .nilIface]) ∧ Ext V w' ∧ NsL w' At (t.ch 0).k (tgtN (t.ch 0)) ∧ (∀ b o, At = some ⟨b, o, none⟩ → V.heap.size ≤ b) ∧ (t.ch 0).k ≤ ct)) := hid (KT.out.mono fun e w' h => by
    rcases h with ⟨h1, _⟩ | ⟨_, At, ct, h1, h2, h3⟩
    · rw [hT] at h1; exact absurd h1 (by decide)
    · exact ⟨At, ct, h1, h2, own_NsL h3, fun b o hA => (h3.lt b (by subst hA; rfl)).1, own_cap h3⟩)
  have HYT := hid hT
  clear hT KT
  go_upto_region 6 with (go_at_call 27; refine KE.out.mono ?_; rintro x w3 ⟨At, ct, rfl, hb, hn1, hn2, hn3⟩; have HX := hid hb; have q0 := (HBk.out.ext hb).cell 0; have q0f := (HBk.out.ext hb).frozen 0; have HN1 := hid hn1; have HN2 := hid hn2; have HN3 := hid hn3; clear hn1 hn2 hn3; clear hb)
  generalize hY : World.setCell w3 ⟨w.heap.size, 0, none⟩ _ = U1
  have HMU : Hid (Mod [w.heap.size] w3 U1) := hid (by rw [← hY]; exact (Mod.refl [w.heap.size] w3).setCell (.inl (by simp)) _)
  have HE2 : Hid (Ext w U1) := hid (by rw [← hY]; exact (HE.out.trans HX.out).setCell (.inr (Nat.le_refl _)) _)
  have HB2 : Hid (Blk U1 w.heap.size 31 (asbC ⟨(t.ch 0).k, tgtN (t.ch 0), 0, zeroE, zeroA.ps, 0, zeroA.rs⟩ ⟨At, ct, none, 0, none, 0⟩)) := hid (by rw [← hY]; exact (HBk.out.ext HX.out).set_ 0 _)
  clear hY q0 q0f a0 a1 a2 a3 a4
  have HNS : Hid (∀ W, Mod [w.heap.size] U1 W → NsL W At (t.ch 0).k (tgtN (t.ch 0))) := hid (fun W hW => HN1.out.mod (HMU.out.trans hW) (fun b o hA _ => by have := HN2.out b o hA; have := HS.out; simp; omega))
  have HE := HE2
  have HBk := HB2
  have HTQ : Hid (∀ b o, At = some ⟨b, o, none⟩ → w.heap.size ≤ b) := hid (fun b o hA => by have := HN2.out b o hA; have := HS.out; omega)
  clear HE2 HB2 HMU HN1 HN2 HX KE w3
  have a0 : U1.cell? ⟨b, o + 5, none⟩ = _ := (HP1.out _ HE.out).1
  have a1 : U1.cell? ⟨b, o + 5 + 1, none⟩ = _ := (HP1.out _ HE.out).2.1
  have a2 : U1.cell? ⟨b, o + 5 + 2, none⟩ = _ := (HP1.out _ HE.out).2.2.1
  have a3 : U1.cell? ⟨b, o + 5 + 3, none⟩ = _ := (HP1.out _ HE.out).2.2.2.1
  have a4 : U1.cell? ⟨b, o + 5 + 4, none⟩ = _ := (HP1.out _ HE.out).2.2.2.2
  have KN := hid (anum_any (t.ch 1) A1 c1 eb U1 (HFM.out _ HE.out))
  by_cases hC : (t.ch 1).kind = 0
  case neg =>
    have KN : Hid (Calls Tryd.prog 28 #[itemV (t.ch 1) A1 c1] U1 (Ret (.tuple #[.int .i64 0, .iface 100 (.agg #[str [110, 117, 109, 98, 101, 114], FormV eb])]) U1)) := hid (by have h := KN.out; unfold numErr at h; rw [if_neg hC] at h; exact h)
    have HNO : Hid (rdOK t = false) := hid (by rw [HOKR.out, decide_eq_false hC]; simp)
    clear hC
    go_upto_region 8 with (go_at_call 28; refine KN.out.mono ?_; rintro x w3 ⟨rfl, hb⟩; have HX := hid hb; have q1 := (HBk.out.ext hb).cell 1; have q1f := (HBk.out.ext hb).frozen 1; clear hb)
    generalize hY : World.setCell w3 ⟨w.heap.size, 1, none⟩ _ = U
    have HMU : Hid (Mod [w.heap.size] w3 U) := hid (by rw [← hY]; exact (Mod.refl [w.heap.size] w3).setCell (.inl (by simp)) _)
    have HE2 : Hid (Ext w U) := hid (by rw [← hY]; exact (HE.out.trans HX.out).setCell (.inr (Nat.le_refl _)) _)
    have HB2 : Hid (Blk U w.heap.size 31 (asbC ⟨(t.ch 0).k, tgtN (t.ch 0), 0, zeroE, zeroA.ps, 0, zeroA.rs⟩ ⟨At, ct, none, 0, none, 0⟩)) := hid (by rw [← hY]; exact (HBk.out.ext HX.out).set_ 1 _)
    clear hY q1 q1f a0 a1 a2 a3 a4
    have HZC := hid (ZC.mk' ⟨(t.ch 0).k, tgtN (t.ch 0), 0, zeroE, zeroA.ps, 0, zeroA.rs⟩ ⟨At, ct, none, 0, none, 0⟩)
    obtain ⟨zc, hzc⟩ : ∃ zc, asbC ⟨(t.ch 0).k, tgtN (t.ch 0), 0, zeroE, zeroA.ps, 0, zeroA.rs⟩ ⟨At, ct, none, 0, none, 0⟩ = zc := ⟨_, rfl⟩
    have HBZ : Hid (Blk U w.heap.size 31 zc) := hid (by rw [← hzc]; exact HB2.out)
    rw [hzc] at HZC
    clear hzc
    have tk1 : True := trivial
    have tk2 : True := trivial
    go_wp2_with (first | (clear tk1; refine wpList_row (by rfl) 31 _ rfl _ rfl HBZ.out Tryd.underlying31 rfl HZC.out.i ?_) | (clear tk2; refine wpList_store_mid rfl 31 _ _ rfl (w.heap.size) 0 zc (by rfl) (by rfl) (HBZ.out.there (by rw [HZC.out.s]; exact Nat.le_refl 8)) HZC.out.i HZC.out.o ?_))
    have hY := setCells_all (ds := zc) HBZ.out (Array.length_toList ..)
    have hM2 := setCells_mod (b := w.heap.size) (zc : Array Value).toList 0 HE2.out (.inr (by omega))
    generalize hZ2 : World.setCells _ _ 0 _ = Z2 at *
    refine bodyPost_ret (results_cell2 rfl _ (by rfl) (by rfl) hY Tryd.underlying31 rfl HZC.out.i) rfl (.inl ⟨HNO.out, zc, [110, 117, 109, 98, 101, 114], [], ?_, hM2, HZC.out⟩)
    rfl
  have KN : Hid (Calls Tryd.prog 28 #[itemV (t.ch 1) A1 c1] U1 (Ret (.tuple #[.int .i64 (min ((t.ch 1).n : Int) 65536), .nilIface]) U1)) := hid (by have h := KN.out; unfold numErr at h; rw [if_pos hC] at h; exact h)
  have HYC := hid hC
  clear hC
  obtain ⟨cx, hcx⟩ : ∃ cx, min ((t.ch 1).n : Int) 65536 = cx := ⟨_, rfl⟩
  rw [hcx] at KN
  have HCX := hid hcx
  clear hcx
  go_upto_region 9 with (go_at_call 28; refine KN.out.mono ?_; rintro x w3 ⟨rfl, hb⟩; have HX := hid hb; have q1 := (HBk.out.ext hb).cell 1; have q1f := (HBk.out.ext hb).frozen 1; clear hb)
  generalize hY : World.setCell w3 ⟨w.heap.size, 1, none⟩ _ = U2
  have HMU : Hid (Mod [w.heap.size] w3 U2) := hid (by rw [← hY]; exact (Mod.refl [w.heap.size] w3).setCell (.inl (by simp)) _)
  have HE2 : Hid (Ext w U2) := hid (by rw [← hY]; exact (HE.out.trans HX.out).setCell (.inr (Nat.le_refl _)) _)
  have HB2 : Hid (Blk U2 w.heap.size 31 (asbC ⟨(t.ch 0).k, tgtN (t.ch 0), cx, zeroE, zeroA.ps, 0, zeroA.rs⟩ ⟨At, ct, none, 0, none, 0⟩)) := hid (by rw [← hY]; exact (HBk.out.ext HX.out).set_ 1 _)
  clear hY q1 q1f a0 a1 a2 a3 a4
  have HNS : Hid (∀ W, Mod [w.heap.size] U2 W → NsL W At (t.ch 0).k (tgtN (t.ch 0))) := hid (fun W hW => HNS.out W ((HX.out.mono (by simp)).trans (HMU.out.trans hW)))
  have HE := HE2
  have HBk := HB2
  clear HE2 HB2 HMU HX KN w3
  have a0 : U2.cell? ⟨b, o + 15, none⟩ = _ := (HP3.out _ HE.out).1
  have a1 : U2.cell? ⟨b, o + 15 + 1, none⟩ = _ := (HP3.out _ HE.out).2.1
  have a2 : U2.cell? ⟨b, o + 15 + 2, none⟩ = _ := (HP3.out _ HE.out).2.2.1
  have a3 : U2.cell? ⟨b, o + 15 + 3, none⟩ = _ := (HP3.out _ HE.out).2.2.2.1
  have a4 : U2.cell? ⟨b, o + 15 + 4, none⟩ = _ := (HP3.out _ HE.out).2.2.2.2
  have KO := hid (eidOf_any (t.ch 3) HOK3.out A3 c3 U2 (IsL.weak (fun _ _ _ => trivial) _ (HI3.out _ HE.out)))
  by_cases hO : ofB (t.ch 3) = true
  case neg =>
    have hO : ofB (t.ch 3) = false := by simpa using hO
    have KO : Hid (Calls Tryd.prog 29 #[itemV (t.ch 3) A3 c3] U2 (Ret (.tuple #[.agg #[.int .i64 0, str [], .int .u64 0, .int .u64 0], .int .i64 2]) U2)) := hid (by have h := KO.out; rw [hO] at h; exact h)
    have HNO : Hid (rdOK t = false) := hid (by rw [HOKR.out, hO]; simp)
    clear hO
    go_upto_region 11 with (go_at_call 29; refine KO.out.mono ?_; rintro x w3 ⟨rfl, hb⟩; have HX := hid hb; clear hb)
    generalize hY : World.alloc w3 _ = U
    have HE2 : Hid (Ext w U) := hid (by rw [← hY]; exact (HE.out.trans HX.out).alloc _)
    have HB2 : Hid (Blk U w.heap.size 31 (asbC ⟨(t.ch 0).k, tgtN (t.ch 0), cx, zeroE, zeroA.ps, 0, zeroA.rs⟩ ⟨At, ct, none, 0, none, 0⟩)) := hid (by rw [← hY]; exact (HBk.out.ext HX.out).alloc _)
    clear hY a0 a1 a2 a3 a4
    have HZC := hid (ZC.mk' ⟨(t.ch 0).k, tgtN (t.ch 0), cx, zeroE, zeroA.ps, 0, zeroA.rs⟩ ⟨At, ct, none, 0, none, 0⟩)
    obtain ⟨zc, hzc⟩ : ∃ zc, asbC ⟨(t.ch 0).k, tgtN (t.ch 0), cx, zeroE, zeroA.ps, 0, zeroA.rs⟩ ⟨At, ct, none, 0, none, 0⟩ = zc := ⟨_, rfl⟩
    have HBZ : Hid (Blk U w.heap.size 31 zc) := hid (by rw [← hzc]; exact HB2.out)
    rw [hzc] at HZC
    clear hzc
    have KW : Hid (∀ W, Ext w W → Calls Tryd.prog 26 #[str [110, 97, 109, 101]] W (Ret (.iface 100 (.agg #[str [110, 97, 109, 101], FormV eb])) W)) := hid (fun W hW => wrong_any [110, 97, 109, 101] eb W (HFM.out _ hW))
    refine wp_region_held_drew (S := fun w' => Ext w w' ∧ Blk w' w.heap.size 31 zc) (by kernel_rfl) ⟨HE2.out.drew, HBZ.out.drew⟩ (fun hHeld => ?_)
    generalize U.drew = y0 at *
    refine wpAnyH_take (i := 0) rfl (by kernel_rfl) (by kernel_rfl) (by kernel_rfl) (fun _ _ _ h => h) (yieldsIf_row (by rfl) 31 _ rfl _ rfl (fun W hM => hM.2) Tryd.underlying31 rfl HZC.out.i) hHeld ?_
    (try simp only [Act.put, List.getElem_toArray, List.getElem_cons_zero, List.getElem_cons_succ, List.setIfInBounds_toArray, List.set_cons_zero, List.set_cons_succ])
    refine wpAnyH_ready (rs := [1]) (by kernel_rfl) (by simp) ?_
    refine AllReadyH.cons rfl (fun K hK => ?_) AllReadyH.nil
    go_simp
    go_at_call 26
    refine (KW.out _ hHeld.1).mono ?_
    rintro x y1 ⟨rfl, hb⟩
    refine hK.out _ _ ⟨hHeld.1.trans hb, hHeld.2.ext hb⟩ (fun hHeld => ?_)
    clear hK K
    (try simp only [Act.put, List.getElem_toArray, List.getElem_cons_zero, List.getElem_cons_succ, List.setIfInBounds_toArray, List.set_cons_zero, List.set_cons_succ])
    refine wpAnyH_ready (rs := [2]) (by kernel_rfl) (by simp) ?_
    refine AllReadyH.cons rfl (fun K hK => ?_) AllReadyH.nil
    refine wp_store_mid 31 _ _ rfl w.heap.size 0 zc (by rfl) (by rfl) (hHeld.2.there (by rw [HZC.out.s]; exact Nat.le_refl 8)) HZC.out.i HZC.out.o ?_
    have hYB := setCells_all (ds := zc) hHeld.2 (Array.length_toList ..)
    have hYM := setCells_mod (b := w.heap.size) (zc : Array Value).toList 0 hHeld.1 (.inr (by omega))
    generalize hZ : World.setCells _ _ 0 _ = y2 at *
    clear hZ
    refine hK.out _ _ ⟨hYM, hYB⟩ (fun hHeld => ?_)
    clear hK K
    (try simp only [Act.put, List.getElem_toArray, List.getElem_cons_zero, List.getElem_cons_succ, List.setIfInBounds_toArray, List.set_cons_zero, List.set_cons_succ])
    refine' wpAnyH_take (i := 3) (v := _) rfl (by kernel_rfl) (by kernel_rfl) (by kernel_rfl) (fun _ _ _ h => h) (Or.inl ⟨by rfl, ?hy1⟩) hHeld ?rest1
    case hy1 => (rintro W hM; go_simp; (try with_reducible rfl))
    case rest1 =>
    (try simp only [Act.put, List.getElem_toArray, List.getElem_cons_zero, List.getElem_cons_succ, List.setIfInBounds_toArray, List.set_cons_zero, List.set_cons_succ])
    refine wpAnyH_done (by kernel_rfl) ?_ _
    clear hYB hYM
    go_wp2_with fail
    refine bodyPost_ret (results_cell2 rfl _ (by rfl) (by rfl) hHeld.2 Tryd.underlying31 rfl HZC.out.i) rfl (.inl ⟨HNO.out, zc, [110, 97, 109, 101], [], ?_, hHeld.1, HZC.out⟩)
    rfl
  have KO : Hid (Calls Tryd.prog 29 #[itemV (t.ch 3) A3 c3] U2 (Ret (.tuple #[.agg #[.int .i64 (readE (t.ch 3)).sch, str (readE (t.ch 3)).name, .int .u64 ((readE (t.ch 3)).node : Int), .int .u64 ((readE (t.ch 3)).svc : Int)], .int .i64 0]) U2)) := hid (by have h := KO.out; rw [hO] at h; exact h)
  have HYO := hid hO
  clear hO
  obtain ⟨E, hE⟩ : ∃ E, readE (t.ch 3) = E := ⟨_, rfl⟩
  rw [hE] at KO
  have HEQ := hid hE
  clear hE
  go_upto_region 12 with (go_at_call 29; refine KO.out.mono ?_; rintro x w3 ⟨rfl, hb⟩; have HX := hid hb; clear hb)
  generalize hY : World.alloc w3 _ = U3
  have HE2 : Hid (Ext w U3) := hid (by rw [← hY]; exact (HE.out.trans HX.out).alloc _)
  have HB2 : Hid (Blk U3 w.heap.size 31 (asbC ⟨(t.ch 0).k, tgtN (t.ch 0), cx, zeroE, zeroA.ps, 0, zeroA.rs⟩ ⟨At, ct, none, 0, none, 0⟩)) := hid (by rw [← hY]; exact (HBk.out.ext HX.out).alloc _)
  have HBE : Hid (Blk U3 w3.heap.size 27 E.c) := hid (by rw [← hY]; exact Blk.new _ _ _)
  have HNS : Hid (∀ W, Mod [w.heap.size] U3 W → NsL W At (t.ch 0).k (tgtN (t.ch 0))) := hid (fun W hW => HNS.out W ((HX.out.mono (by simp)).trans (Mod.trans (by rw [← hY]; exact (Mod.refl _ _).alloc _) hW)))
  have HE := HE2
  have HBk := HB2
  clear hY a0 a1 a2 a3 a4 HE2 HB2 HX KO
  generalize w3.heap.size = n4 at *
  have e0 : U3.cell? ⟨n4, 0, none⟩ = some (.int .i64 E.sch) := HBE.out.cell 0
  have e1 : U3.cell? ⟨n4, 1, none⟩ = some (str E.name) := HBE.out.cell 1
  have e2 : U3.cell? ⟨n4, 2, none⟩ = some (.int .u64 (E.node : Int)) := HBE.out.cell 2
  have e3 : U3.cell? ⟨n4, 3, none⟩ = some (.int .u64 (E.svc : Int)) := HBE.out.cell 3
  have q2 := HBk.out.cell 2
  have q2f := HBk.out.frozen 2
  have q3 := HBk.out.cell 3
  have q3f := HBk.out.frozen 3
  have q4 := HBk.out.cell 4
  have q4f := HBk.out.frozen 4
  have q5 := HBk.out.cell 5
  have q5f := HBk.out.frozen 5
  go_upto_region 13 with fail
  generalize hY : World.setCell _ ⟨w.heap.size, 5, none⟩ _ = U4
  have HMU : Hid (Mod [w.heap.size] U3 U4) := hid (by rw [← hY]; exact ((((Mod.refl [w.heap.size] U3).setCell (.inl (by simp)) _).setCell (.inl (by simp)) _).setCell (.inl (by simp)) _).setCell (.inl (by simp)) _)
  have HE2 : Hid (Ext w U4) := hid (by rw [← hY]; exact (((HE.out.setCell (.inr (Nat.le_refl _)) _).setCell (.inr (Nat.le_refl _)) _).setCell (.inr (Nat.le_refl _)) _).setCell (.inr (Nat.le_refl _)) _)
  have HB2 : Hid (Blk U4 w.heap.size 31 (asbC ⟨(t.ch 0).k, tgtN (t.ch 0), cx, E, zeroA.ps, 0, zeroA.rs⟩ ⟨At, ct, none, 0, none, 0⟩)) := hid (by rw [← hY]; exact (((HBk.out.set_ 2 _).set_ 3 _).set_ 4 _).set_ 5 _)
  have HNS : Hid (∀ W, Mod [w.heap.size] U4 W → NsL W At (t.ch 0).k (tgtN (t.ch 0))) := hid (fun W hW => HNS.out W (HMU.out.trans hW))
  have HE := HE2
  have HBk := HB2
  clear hY HE2 HB2 HMU HBE e0 e1 e2 e3 q2 q2f q3 q3f q4 q4f q5 q5f
  go_upto_region 17 with fail
  have a0 : U4.cell? ⟨b, o + 20, none⟩ = _ := (HP4.out _ HE.out).1
  have a1 : U4.cell? ⟨b, o + 20 + 1, none⟩ = _ := (HP4.out _ HE.out).2.1
  have a2 : U4.cell? ⟨b, o + 20 + 2, none⟩ = _ := (HP4.out _ HE.out).2.2.1
  have a3 : U4.cell? ⟨b, o + 20 + 3, none⟩ = _ := (HP4.out _ HE.out).2.2.2.1
  have a4 : U4.cell? ⟨b, o + 20 + 4, none⟩ = _ := (HP4.out _ HE.out).2.2.2.2
  have KR := hid (areadR_any (t.ch 4) (HKB.out 4 (by decide)).1 (HKB.out 4 (by decide)).2 A4 c4 eb U4 (HFM.out _ HE.out) (HI4.out _ HE.out))
  by_cases hR : T.all (resK (t.ch 4)) (t.ch 4).k = true
  case neg =>
    have hR : T.all (resK (t.ch 4)) (t.ch 4).k = false := by simpa using hR
    have HNO : Hid (rdOK t = false) := hid (by rw [HOKR.out, hR]; simp)
    have KE : Hid (Calls Tryd.prog 31 #[itemV (t.ch 4) A4 c4] U4 (fun e w' => ∃ l, e = .returned (.tuple #[.slice none 0 0, .iface 100 (.agg #[str [114, 101, 115, 117, 108, 116, 115], errV eb l])]) ∧ Ext U4 w')) := hid (KR.out.mono fun e w' h => by
      rcases h with ⟨_, l, h1, h2⟩ | ⟨h1, _⟩
      · exact ⟨l, h1, h2⟩
      · rw [hR] at h1; exact absurd h1 (by decide))
    clear hR KR
    go_upto_region 18 with (go_at_call 31; refine KE.out.mono ?_; rintro x w3 ⟨l, rfl, hb⟩; have HX := hid hb; have q7 := (HBk.out.ext hb).cell 7; have q7f := (HBk.out.ext hb).frozen 7; clear hb)
    generalize hY : World.setCell w3 ⟨w.heap.size, 7, none⟩ _ = U
    have HMU : Hid (Mod [w.heap.size] w3 U) := hid (by rw [← hY]; exact (Mod.refl [w.heap.size] w3).setCell (.inl (by simp)) _)
    have HE2 : Hid (Ext w U) := hid (by rw [← hY]; exact (HE.out.trans HX.out).setCell (.inr (Nat.le_refl _)) _)
    have HB2 : Hid (Blk U w.heap.size 31 (asbC ⟨(t.ch 0).k, tgtN (t.ch 0), cx, E, zeroA.ps, 0, zeroA.rs⟩ ⟨At, ct, none, 0, none, 0⟩)) := hid (by rw [← hY]; exact (HBk.out.ext HX.out).set_ 7 _)
    clear hY q7 q7f a0 a1 a2 a3 a4
    have HZC := hid (ZC.mk' ⟨(t.ch 0).k, tgtN (t.ch 0), cx, E, zeroA.ps, 0, zeroA.rs⟩ ⟨At, ct, none, 0, none, 0⟩)
    obtain ⟨zc, hzc⟩ : ∃ zc, asbC ⟨(t.ch 0).k, tgtN (t.ch 0), cx, E, zeroA.ps, 0, zeroA.rs⟩ ⟨At, ct, none, 0, none, 0⟩ = zc := ⟨_, rfl⟩
    have HBZ : Hid (Blk U w.heap.size 31 zc) := hid (by rw [← hzc]; exact HB2.out)
    rw [hzc] at HZC
    clear hzc
    have tk1 : True := trivial
    have tk2 : True := trivial
    go_wp2_with (first | (clear tk1; refine wpList_row (by rfl) 31 _ rfl _ rfl HBZ.out Tryd.underlying31 rfl HZC.out.i ?_) | (clear tk2; refine wpList_store_mid rfl 31 _ _ rfl (w.heap.size) 0 zc (by rfl) (by rfl) (HBZ.out.there (by rw [HZC.out.s]; exact Nat.le_refl 8)) HZC.out.i HZC.out.o ?_))
    have hY := setCells_all (ds := zc) HBZ.out (Array.length_toList ..)
    have hM2 := setCells_mod (b := w.heap.size) (zc : Array Value).toList 0 HE2.out (.inr (by omega))
    generalize hZ2 : World.setCells _ _ 0 _ = Z2 at *
    refine bodyPost_ret (results_cell2 rfl _ (by rfl) (by rfl) hY Tryd.underlying31 rfl HZC.out.i) rfl (.inl ⟨HNO.out, zc, [114, 101, 115, 117, 108, 116, 115], l, ?_, hM2, HZC.out⟩)
    rfl
  have KE : Hid (Calls Tryd.prog 31 #[itemV (t.ch 4) A4 c4] U4 (fun e w' => ∃ Ar cr, e = .returned (.tuple #[.slice Ar (t.ch 4).k cr, .nilIface]) ∧ Ext U4 w' ∧ RsL w' (fun b => ((X b ∧ b < w.heap.size) ∧ b < U4.heap.size) ∨ U4.heap.size ≤ b) Ar (t.ch 4).k (resP (t.ch 4)))) := hid (KR.out.mono fun e w' h => by
    rcases h with ⟨h1, _⟩ | ⟨_, Ar, cr, h1, h2, _, h4⟩
    · rw [hR] at h1; exact absurd h1 (by decide)
    · exact ⟨Ar, cr, h1, h2, h4⟩)
  have HOK : Hid (rdOK t = true) := hid (by rw [HOKR.out, HYT.out, HYO.out, hR, decide_eq_true HYC.out]; rfl)
  have HRA : Hid (rdA t = ⟨(t.ch 0).k, tgtN (t.ch 0), cx, E, zeroA.ps, (t.ch 4).k, resP (t.ch 4)⟩) := hid (by unfold rdA; rw [HKk.out, HCX.out, HEQ.out]; rfl)
  have HLT : Hid (w.heap.size < U4.heap.size) := hid HBk.out.lt
  clear hR KR
  go_upto_region 18 with (go_at_call 31; refine KE.out.mono ?_; rintro x w3 ⟨Ar, cr, rfl, hb, hn1⟩; have HX := hid hb; have q7 := (HBk.out.ext hb).cell 7; have q7f := (HBk.out.ext hb).frozen 7; have HN1 := hid hn1; clear hn1; clear hb)
  generalize hY : World.setCell w3 ⟨w.heap.size, 7, none⟩ _ = U6
  have HMU : Hid (Mod [w.heap.size] w3 U6) := hid (by rw [← hY]; exact (Mod.refl [w.heap.size] w3).setCell (.inl (by simp)) _)
  have HE2 : Hid (Ext w U6) := hid (by rw [← hY]; exact (HE.out.trans HX.out).setCell (.inr (Nat.le_refl _)) _)
  have HB2 : Hid (Blk U6 w.heap.size 31 (asbC ⟨(t.ch 0).k, tgtN (t.ch 0), cx, E, zeroA.ps, (t.ch 4).k, resP (t.ch 4)⟩ ⟨At, ct, none, 0, Ar, cr⟩)) := hid (by rw [← hY]; exact (HBk.out.ext HX.out).set_ 7 _)
  clear hY q7 q7f a0 a1 a2 a3 a4
  have HRS : Hid (∀ W, Mod [w.heap.size] U6 W → RsL W (NewQ X w.heap.size) Ar (t.ch 4).k (resP (t.ch 4))) := hid (fun W hW => (HN1.out.mod (HMU.out.trans hW) (fun b hb _ => by have := HLT.out; simp; omega)).weak (fun b _ hb => hb.elim (fun h => .inl h.1) (fun h => .inr (by have := HLT.out; omega))))
  have HNS : Hid (∀ W, Mod [w.heap.size] U6 W → NsL W At (t.ch 0).k (tgtN (t.ch 0))) := hid (fun W hW => HNS.out W ((HX.out.mono (by simp)).trans (HMU.out.trans hW)))
  have HZC := hid (ZC.mk' ⟨(t.ch 0).k, tgtN (t.ch 0), cx, E, zeroA.ps, (t.ch 4).k, resP (t.ch 4)⟩ ⟨At, ct, none, 0, Ar, cr⟩)
  obtain ⟨zc, hzc⟩ : ∃ zc, asbC ⟨(t.ch 0).k, tgtN (t.ch 0), cx, E, zeroA.ps, (t.ch 4).k, resP (t.ch 4)⟩ ⟨At, ct, none, 0, Ar, cr⟩ = zc := ⟨_, rfl⟩
  have HBZ : Hid (Blk U6 w.heap.size 31 zc) := hid (by rw [← hzc]; exact HB2.out)
  rw [hzc] at HZC
  have HZQ := hid hzc
  clear hzc
  have tk1 : True := trivial
  have tk2 : True := trivial
  go_wp2_with (first | (clear tk1; refine wpList_row (by rfl) 31 _ rfl _ rfl HBZ.out Tryd.underlying31 rfl HZC.out.i ?_) | (clear tk2; refine wpList_store_mid rfl 31 _ _ rfl (w.heap.size) 0 zc (by rfl) (by rfl) (HBZ.out.there (by rw [HZC.out.s]; exact Nat.le_refl 8)) HZC.out.i HZC.out.o ?_))
  have hY := setCells_all (ds := zc) HBZ.out (Array.length_toList ..)
  have hM2 := setCells_mod (b := w.heap.size) (zc : Array Value).toList 0 HE2.out (.inr (by omega))
  generalize hZ2 : World.setCells _ _ 0 _ = Z2 at *
  have hM3 := setCells_mod (b := w.heap.size) (zc : Array Value).toList 0 (Mod.refl [w.heap.size] U6) (.inl (by simp))
  rw [hZ2] at hM3
  refine bodyPost_ret (results_cell2 rfl _ (by rfl) (by rfl) hY Tryd.underlying31 rfl HZC.out.i) rfl (.inr ⟨HOK.out, ⟨At, ct, none, 0, Ar, cr⟩, ?_, hM2, ?_, ?_⟩)
  · rw [HRA.out, ← HZQ.out]; rfl
  · rw [HRA.out]
    exact ⟨HNS.out _ hM3, fun b o hA _ => .inr (HTQ.out b o hA), fun h => absurd h (Nat.lt_irrefl 0), HRS.out _ hM3⟩
  · rw [HRA.out]; exact HN3.out
set_option maxRecDepth 20000 in
set_option maxHeartbeats 16000000 in
theorem aread6_any {X : Nat → Prop} (t : T) (hk : t.k = 6) (hok : t.ok) (hb : ∀ i, i < t.k → (t.ch i).k ≤ 1000 ∧ ∀ j, j < (t.ch i).k → ((t.ch i).ch j).k ≤ 1000) (b o c : Nat) (eb : Addr) (w : World) (hf : FormAt w eb) (h : IsL w (fun b => X b ∧ b < w.heap.size) t (some ⟨b, o, none⟩)) : Calls Tryd.prog 17 #[.slice (some ⟨b, o, none⟩) 6 c] w (RdPost X t eb w) := by
  have hch : ∀ i, i < 6 → ∃ Ai ci, ∀ W, Ext w W → At5 W b (o + 5 * i) (t.ch i) Ai ci ∧ IsL W (fun b => X b ∧ b < w.heap.size) (t.ch i) Ai := fun i hi => by
    obtain ⟨b', o', Ai, ci, h1, h2, _, h4, h5⟩ := kidsA h (i := i) (by omega)
    cases h1
    exact ⟨Ai, ci, fun W hW => ⟨by have := h4.mod hW h2 (by simp); rwa [Nat.mul_comm i 5] at this, h5.ext hW⟩⟩
  obtain ⟨A0, c0, hp0⟩ := hch 0 (by decide)
  have HP0 : Hid (∀ W, Ext w W → At5 W b (o) (t.ch 0) A0 c0) := hid (fun W hW => (hp0 W hW).1)
  have HI0 : Hid (∀ W, Ext w W → IsL W (fun b => X b ∧ b < w.heap.size) (t.ch 0) A0) := hid (fun W hW => (hp0 W hW).2)
  clear hp0
  obtain ⟨A1, c1, hp1⟩ := hch 1 (by decide)
  have HP1 : Hid (∀ W, Ext w W → At5 W b (o + 5) (t.ch 1) A1 c1) := hid (fun W hW => (hp1 W hW).1)
  have HI1 : Hid (∀ W, Ext w W → IsL W (fun b => X b ∧ b < w.heap.size) (t.ch 1) A1) := hid (fun W hW => (hp1 W hW).2)
  clear hp1
  obtain ⟨A3, c3, hp3⟩ := hch 3 (by decide)
  have HP3 : Hid (∀ W, Ext w W → At5 W b (o + 15) (t.ch 3) A3 c3) := hid (fun W hW => (hp3 W hW).1)
  have HI3 : Hid (∀ W, Ext w W → IsL W (fun b => X b ∧ b < w.heap.size) (t.ch 3) A3) := hid (fun W hW => (hp3 W hW).2)
  clear hp3
  obtain ⟨A4, c4, hp4⟩ := hch 4 (by decide)
  have HP4 : Hid (∀ W, Ext w W → At5 W b (o + 20) (t.ch 4) A4 c4) := hid (fun W hW => (hp4 W hW).1)
  have HI4 : Hid (∀ W, Ext w W → IsL W (fun b => X b ∧ b < w.heap.size) (t.ch 4) A4) := hid (fun W hW => (hp4 W hW).2)
  clear hp4
  obtain ⟨A5, c5, hp5⟩ := hch 5 (by decide)
  have HP5 : Hid (∀ W, Ext w W → At5 W b (o + 25) (t.ch 5) A5 c5) := hid (fun W hW => (hp5 W hW).1)
  have HI5 : Hid (∀ W, Ext w W → IsL W (fun b => X b ∧ b < w.heap.size) (t.ch 5) A5) := hid (fun W hW => (hp5 W hW).2)
  clear hp5
  have HOK3 := hid (T.okc hok (i := 3) (by omega))
  have HKB := hid (fun i (hi : i < 6) => hb i (by omega))
  have HE := hid ((Mod.refl [] w).alloc (.cells #[.slice none 0 0, .int .i64 0, .int .i64 0, .string ⟨#[]⟩, .int .u64 0, .int .u64 0, .slice none 0 0, .slice none 0 0] 31))
  have HBk : Hid (Blk (w.alloc (.cells #[.slice none 0 0, .int .i64 0, .int .i64 0, .string ⟨#[]⟩, .int .u64 0, .int .u64 0, .slice none 0 0, .slice none 0 0] 31)) w.heap.size 31 (asbC zeroA zeroM)) := hid (Blk.new w 31 #[.slice none 0 0, .int .i64 0, .int .i64 0, .string ⟨#[]⟩, .int .u64 0, .int .u64 0, .slice none 0 0, .slice none 0 0])
  have HS : Hid (w.heap.size + 1 = (w.alloc (.cells #[.slice none 0 0, .int .i64 0, .int .i64 0, .string ⟨#[]⟩, .int .u64 0, .int .u64 0, .slice none 0 0, .slice none 0 0] 31)).heap.size) := hid (by simp)
  have HFM := hid (fun W (hW : Ext w W) => hf.ext hW)
  have HOKR : Hid (rdOK t = (T.all (numK (t.ch 0)) (t.ch 0).k && decide ((t.ch 1).kind = 0) && ofB (t.ch 3) && T.all (pairK (t.ch 4)) (t.ch 4).k && T.all (resK (t.ch 5)) (t.ch 5).k)) := hid (by unfold rdOK; rw [hk]; rfl)
  have HKk := hid hk
  clear h hch hf hok hb hk
  go_enter Tryd.func17, Tryd.ntmps17
  go_upto_region 1 with fail
  generalize w.alloc (.cells #[.slice none 0 0, .int .i64 0, .int .i64 0, .string ⟨#[]⟩, .int .u64 0, .int .u64 0, .slice none 0 0, .slice none 0 0] 31) = V at *
  go_upto_region 3 with fail
  have a0 : V.cell? ⟨b, o, none⟩ = _ := (HP0.out _ HE.out).1
  have a1 : V.cell? ⟨b, o + 1, none⟩ = _ := (HP0.out _ HE.out).2.1
  have a2 : V.cell? ⟨b, o + 2, none⟩ = _ := (HP0.out _ HE.out).2.2.1
  have a3 : V.cell? ⟨b, o + 3, none⟩ = _ := (HP0.out _ HE.out).2.2.2.1
  have a4 : V.cell? ⟨b, o + 4, none⟩ = _ := (HP0.out _ HE.out).2.2.2.2
  have KT := hid (areadT_any (t.ch 0) (HKB.out 0 (by decide)).1 A0 c0 eb V (HFM.out _ HE.out) (IsL.weak (fun _ _ _ => trivial) _ (HI0.out _ HE.out)))
  have HSV := HS
  by_cases hT : T.all (numK (t.ch 0)) (t.ch 0).k = true
  case neg =>
    have hT : T.all (numK (t.ch 0)) (t.ch 0).k = false := by simpa using hT
    have HNO : Hid (rdOK t = false) := hid (by rw [HOKR.out, hT]; simp)
    have KE : Hid (Calls Tryd.prog 27 #[itemV (t.ch 0) A0 c0] V (fun e w' => e = .returned (.tuple #[.slice none 0 0, .iface 100 (.agg #[str [116, 97, 114, 103, 101, 116, 115], errV eb [[110, 117, 109, 98, 101, 114]]])]) ∧ Ext V w')) := hid (KT.out.mono fun e w' h => by
      rcases h with ⟨_, h1, h2⟩ | ⟨h1, _⟩
      · exact ⟨h1, h2⟩
      · rw [hT] at h1; exact absurd h1 (by decide))
    clear hT KT
    go_upto_region 5 with (go_at_call 27; refine KE.out.mono ?_; rintro x w3 ⟨rfl, hb⟩; have HX := hid hb; have q0 := (HBk.out.ext hb).cell 0; have q0f := (HBk.out.ext hb).frozen 0; clear hb)
    generalize hY : World.setCell w3 ⟨w.heap.size, 0, none⟩ _ = U
    have HE2 : Hid (Ext w U) := hid (by rw [← hY]; exact (HE.out.trans HX.out).setCell (.inr (Nat.le_refl _)) _)
    have HB2 : Hid (Blk U w.heap.size 31 (asbC zeroA zeroM)) := hid (by rw [← hY]; exact (HBk.out.ext HX.out).set_ 0 _)
    clear hY q0 q0f a0 a1 a2 a3 a4
    have HZC := hid (ZC.mk' zeroA zeroM)
    obtain ⟨zc, hzc⟩ : ∃ zc, asbC zeroA zeroM = zc := ⟨_, rfl⟩
    have HBZ : Hid (Blk U w.heap.size 31 zc) := hid (by rw [← hzc]; exact HB2.out)
    rw [hzc] at HZC
    clear hzc
    have tk1 : True := trivial
    have tk2 : True := trivial
    go_wp2_with (first | (clear tk1; refine wpList_row (by rfl) 31 _ rfl _ rfl HBZ.out Tryd.underlying31 rfl HZC.out.i ?_) | (clear tk2; refine wpList_store_mid rfl 31 _ _ rfl (w.heap.size) 0 zc (by rfl) (by rfl) (HBZ.out.there (by rw [HZC.out.s]; exact Nat.le_refl 8)) HZC.out.i HZC.out.o ?_))
    have hY := setCells_all (ds := zc) HBZ.out (Array.length_toList ..)
    have hM2 := setCells_mod (b := w.heap.size) (zc : Array Value).toList 0 HE2.out (.inr (by omega))
    generalize hZ2 : World.setCells _ _ 0 _ = Z2 at *
    refine bodyPost_ret (results_cell2 rfl _ (by rfl) (by rfl) hY Tryd.underlying31 rfl HZC.out.i) rfl (.inl ⟨HNO.out, zc, [116, 97, 114, 103, 101, 116, 115], [[110, 117, 109, 98, 101, 114]], ?_, hM2, HZC.out⟩)
    rfl

  have KE : Hid (Calls Tryd.prog 27 #[itemV (t.ch 0) A0 c0] V (fun e w' => ∃ At ct, e = .returned (.tuple #[.slice At (t.ch 0).k ct, .nilIface]) ∧ Ext V w' ∧ NsL w' At (t.ch 0).k (tgtN (t.ch 0)) ∧ (∀ b o, At = some ⟨b, o, none⟩ → V.heap.size ≤ b) ∧ (t.ch 0).k ≤ ct)) := hid (KT.out.mono fun e w' h => by
    rcases h with ⟨h1, _⟩ | ⟨_, At, ct, h1, h2, h3⟩
    · rw [hT] at h1; exact absurd h1 (by decide)
    · exact ⟨At, ct, h1, h2, own_NsL h3, fun b o hA => (h3.lt b (by subst hA; rfl)).1, own_cap h3⟩)
  have HYT := hid hT
  clear hT KT
  go_upto_region 6 with (go_at_call 27; refine KE.out.mono ?_; rintro x w3 ⟨At, ct, rfl, hb, hn1, hn2, hn3⟩; have HX := hid hb; have q0 := (HBk.out.ext hb).cell 0; have q0f := (HBk.out.ext hb).frozen 0; have HN1 := hid hn1; have HN2 := hid hn2; have HN3 := hid hn3; clear hn1 hn2 hn3; clear hb)
  generalize hY : World.setCell w3 ⟨w.heap.size, 0, none⟩ _ = U1
  have HMU : Hid (Mod [w.heap.size] w3 U1) := hid (by rw [← hY]; exact (Mod.refl [w.heap.size] w3).setCell (.inl (by simp)) _)
  have HE2 : Hid (Ext w U1) := hid (by rw [← hY]; exact (HE.out.trans HX.out).setCell (.inr (Nat.le_refl _)) _)
  have HB2 : Hid (Blk U1 w.heap.size 31 (asbC ⟨(t.ch 0).k, tgtN (t.ch 0), 0, zeroE, zeroA.ps, 0, zeroA.rs⟩ ⟨At, ct, none, 0, none, 0⟩)) := hid (by rw [← hY]; exact (HBk.out.ext HX.out).set_ 0 _)
  clear hY q0 q0f a0 a1 a2 a3 a4
  have HNS : Hid (∀ W, Mod [w.heap.size] U1 W → NsL W At (t.ch 0).k (tgtN (t.ch 0))) := hid (fun W hW => HN1.out.mod (HMU.out.trans hW) (fun b o hA _ => by have := HN2.out b o hA; have := HS.out; simp; omega))
  have HE := HE2
  have HBk := HB2
  have HTQ : Hid (∀ b o, At = some ⟨b, o, none⟩ → w.heap.size ≤ b) := hid (fun b o hA => by have := HN2.out b o hA; have := HS.out; omega)
  clear HE2 HB2 HMU HN1 HN2 HX KE w3
  have a0 : U1.cell? ⟨b, o + 5, none⟩ = _ := (HP1.out _ HE.out).1
  have a1 : U1.cell? ⟨b, o + 5 + 1, none⟩ = _ := (HP1.out _ HE.out).2.1
  have a2 : U1.cell? ⟨b, o + 5 + 2, none⟩ = _ := (HP1.out _ HE.out).2.2.1
  have a3 : U1.cell? ⟨b, o + 5 + 3, none⟩ = _ := (HP1.out _ HE.out).2.2.2.1
  have a4 : U1.cell? ⟨b, o + 5 + 4, none⟩ = _ := (HP1.out _ HE.out).2.2.2.2
  have KN := hid (anum_any (t.ch 1) A1 c1 eb U1 (HFM.out _ HE.out))
  by_cases hC : (t.ch 1).kind = 0
  case neg =>
    have KN : Hid (Calls Tryd.prog 28 #[itemV (t.ch 1) A1 c1] U1 (Ret (.tuple #[.int .i64 0, .iface 100 (.agg #[str [110, 117, 109, 98, 101, 114], FormV eb])]) U1)) := hid (by have h := KN.out; unfold numErr at h; rw [if_neg hC] at h; exact h)
    have HNO : Hid (rdOK t = false) := hid (by rw [HOKR.out, decide_eq_false hC]; simp)
    clear hC
    go_upto_region 8 with (go_at_call 28; refine KN.out.mono ?_; rintro x w3 ⟨rfl, hb⟩; have HX := hid hb; have q1 := (HBk.out.ext hb).cell 1; have q1f := (HBk.out.ext hb).frozen 1; clear hb)
    generalize hY : World.setCell w3 ⟨w.heap.size, 1, none⟩ _ = U
    have HMU : Hid (Mod [w.heap.size] w3 U) := hid (by rw [← hY]; exact (Mod.refl [w.heap.size] w3).setCell (.inl (by simp)) _)
    have HE2 : Hid (Ext w U) := hid (by rw [← hY]; exact (HE.out.trans HX.out).setCell (.inr (Nat.le_refl _)) _)
    have HB2 : Hid (Blk U w.heap.size 31 (asbC ⟨(t.ch 0).k, tgtN (t.ch 0), 0, zeroE, zeroA.ps, 0, zeroA.rs⟩ ⟨At, ct, none, 0, none, 0⟩)) := hid (by rw [← hY]; exact (HBk.out.ext HX.out).set_ 1 _)
    clear hY q1 q1f a0 a1 a2 a3 a4
    have HZC := hid (ZC.mk' ⟨(t.ch 0).k, tgtN (t.ch 0), 0, zeroE, zeroA.ps, 0, zeroA.rs⟩ ⟨At, ct, none, 0, none, 0⟩)
    obtain ⟨zc, hzc⟩ : ∃ zc, asbC ⟨(t.ch 0).k, tgtN (t.ch 0), 0, zeroE, zeroA.ps, 0, zeroA.rs⟩ ⟨At, ct, none, 0, none, 0⟩ = zc := ⟨_, rfl⟩
    have HBZ : Hid (Blk U w.heap.size 31 zc) := hid (by rw [← hzc]; exact HB2.out)
    rw [hzc] at HZC
    clear hzc
    have tk1 : True := trivial
    have tk2 : True := trivial
    go_wp2_with (first | (clear tk1; refine wpList_row (by rfl) 31 _ rfl _ rfl HBZ.out Tryd.underlying31 rfl HZC.out.i ?_) | (clear tk2; refine wpList_store_mid rfl 31 _ _ rfl (w.heap.size) 0 zc (by rfl) (by rfl) (HBZ.out.there (by rw [HZC.out.s]; exact Nat.le_refl 8)) HZC.out.i HZC.out.o ?_))
    have hY := setCells_all (ds := zc) HBZ.out (Array.length_toList ..)
    have hM2 := setCells_mod (b := w.heap.size) (zc : Array Value).toList 0 HE2.out (.inr (by omega))
    generalize hZ2 : World.setCells _ _ 0 _ = Z2 at *
    refine bodyPost_ret (results_cell2 rfl _ (by rfl) (by rfl) hY Tryd.underlying31 rfl HZC.out.i) rfl (.inl ⟨HNO.out, zc, [110, 117, 109, 98, 101, 114], [], ?_, hM2, HZC.out⟩)
    rfl
  have KN : Hid (Calls Tryd.prog 28 #[itemV (t.ch 1) A1 c1] U1 (Ret (.tuple #[.int .i64 (min ((t.ch 1).n : Int) 65536), .nilIface]) U1)) := hid (by have h := KN.out; unfold numErr at h; rw [if_pos hC] at h; exact h)
  have HYC := hid hC
  clear hC
  obtain ⟨cx, hcx⟩ : ∃ cx, min ((t.ch 1).n : Int) 65536 = cx := ⟨_, rfl⟩
  rw [hcx] at KN
  have HCX := hid hcx
  clear hcx
  go_upto_region 9 with (go_at_call 28; refine KN.out.mono ?_; rintro x w3 ⟨rfl, hb⟩; have HX := hid hb; have q1 := (HBk.out.ext hb).cell 1; have q1f := (HBk.out.ext hb).frozen 1; clear hb)
  generalize hY : World.setCell w3 ⟨w.heap.size, 1, none⟩ _ = U2
  have HMU : Hid (Mod [w.heap.size] w3 U2) := hid (by rw [← hY]; exact (Mod.refl [w.heap.size] w3).setCell (.inl (by simp)) _)
  have HE2 : Hid (Ext w U2) := hid (by rw [← hY]; exact (HE.out.trans HX.out).setCell (.inr (Nat.le_refl _)) _)
  have HB2 : Hid (Blk U2 w.heap.size 31 (asbC ⟨(t.ch 0).k, tgtN (t.ch 0), cx, zeroE, zeroA.ps, 0, zeroA.rs⟩ ⟨At, ct, none, 0, none, 0⟩)) := hid (by rw [← hY]; exact (HBk.out.ext HX.out).set_ 1 _)
  clear hY q1 q1f a0 a1 a2 a3 a4
  have HNS : Hid (∀ W, Mod [w.heap.size] U2 W → NsL W At (t.ch 0).k (tgtN (t.ch 0))) := hid (fun W hW => HNS.out W ((HX.out.mono (by simp)).trans (HMU.out.trans hW)))
  have HE := HE2
  have HBk := HB2
  clear HE2 HB2 HMU HX KN w3
  have a0 : U2.cell? ⟨b, o + 15, none⟩ = _ := (HP3.out _ HE.out).1
  have a1 : U2.cell? ⟨b, o + 15 + 1, none⟩ = _ := (HP3.out _ HE.out).2.1
  have a2 : U2.cell? ⟨b, o + 15 + 2, none⟩ = _ := (HP3.out _ HE.out).2.2.1
  have a3 : U2.cell? ⟨b, o + 15 + 3, none⟩ = _ := (HP3.out _ HE.out).2.2.2.1
  have a4 : U2.cell? ⟨b, o + 15 + 4, none⟩ = _ := (HP3.out _ HE.out).2.2.2.2
  have KO := hid (eidOf_any (t.ch 3) HOK3.out A3 c3 U2 (IsL.weak (fun _ _ _ => trivial) _ (HI3.out _ HE.out)))
  by_cases hO : ofB (t.ch 3) = true
  case neg =>
    have hO : ofB (t.ch 3) = false := by simpa using hO
    have KO : Hid (Calls Tryd.prog 29 #[itemV (t.ch 3) A3 c3] U2 (Ret (.tuple #[.agg #[.int .i64 0, str [], .int .u64 0, .int .u64 0], .int .i64 2]) U2)) := hid (by have h := KO.out; rw [hO] at h; exact h)
    have HNO : Hid (rdOK t = false) := hid (by rw [HOKR.out, hO]; simp)
    clear hO
    go_upto_region 11 with (go_at_call 29; refine KO.out.mono ?_; rintro x w3 ⟨rfl, hb⟩; have HX := hid hb; clear hb)
    generalize hY : World.alloc w3 _ = U
    have HE2 : Hid (Ext w U) := hid (by rw [← hY]; exact (HE.out.trans HX.out).alloc _)
    have HB2 : Hid (Blk U w.heap.size 31 (asbC ⟨(t.ch 0).k, tgtN (t.ch 0), cx, zeroE, zeroA.ps, 0, zeroA.rs⟩ ⟨At, ct, none, 0, none, 0⟩)) := hid (by rw [← hY]; exact (HBk.out.ext HX.out).alloc _)
    clear hY a0 a1 a2 a3 a4
    have HZC := hid (ZC.mk' ⟨(t.ch 0).k, tgtN (t.ch 0), cx, zeroE, zeroA.ps, 0, zeroA.rs⟩ ⟨At, ct, none, 0, none, 0⟩)
    obtain ⟨zc, hzc⟩ : ∃ zc, asbC ⟨(t.ch 0).k, tgtN (t.ch 0), cx, zeroE, zeroA.ps, 0, zeroA.rs⟩ ⟨At, ct, none, 0, none, 0⟩ = zc := ⟨_, rfl⟩
    have HBZ : Hid (Blk U w.heap.size 31 zc) := hid (by rw [← hzc]; exact HB2.out)
    rw [hzc] at HZC
    clear hzc
    have KW : Hid (∀ W, Ext w W → Calls Tryd.prog 26 #[str [110, 97, 109, 101]] W (Ret (.iface 100 (.agg #[str [110, 97, 109, 101], FormV eb])) W)) := hid (fun W hW => wrong_any [110, 97, 109, 101] eb W (HFM.out _ hW))
    refine wp_region_held_drew (S := fun w' => Ext w w' ∧ Blk w' w.heap.size 31 zc) (by kernel_rfl) ⟨HE2.out.drew, HBZ.out.drew⟩ (fun hHeld => ?_)
    generalize U.drew = y0 at *
    refine wpAnyH_take (i := 0) rfl (by kernel_rfl) (by kernel_rfl) (by kernel_rfl) (fun _ _ _ h => h) (yieldsIf_row (by rfl) 31 _ rfl _ rfl (fun W hM => hM.2) Tryd.underlying31 rfl HZC.out.i) hHeld ?_
    (try simp only [Act.put, List.getElem_toArray, List.getElem_cons_zero, List.getElem_cons_succ, List.setIfInBounds_toArray, List.set_cons_zero, List.set_cons_succ])
    refine wpAnyH_ready (rs := [1]) (by kernel_rfl) (by simp) ?_
    refine AllReadyH.cons rfl (fun K hK => ?_) AllReadyH.nil
    go_simp
    go_at_call 26
    refine (KW.out _ hHeld.1).mono ?_
    rintro x y1 ⟨rfl, hb⟩
    refine hK.out _ _ ⟨hHeld.1.trans hb, hHeld.2.ext hb⟩ (fun hHeld => ?_)
    clear hK K
    (try simp only [Act.put, List.getElem_toArray, List.getElem_cons_zero, List.getElem_cons_succ, List.setIfInBounds_toArray, List.set_cons_zero, List.set_cons_succ])
    refine wpAnyH_ready (rs := [2]) (by kernel_rfl) (by simp) ?_
    refine AllReadyH.cons rfl (fun K hK => ?_) AllReadyH.nil
    refine wp_store_mid 31 _ _ rfl w.heap.size 0 zc (by rfl) (by rfl) (hHeld.2.there (by rw [HZC.out.s]; exact Nat.le_refl 8)) HZC.out.i HZC.out.o ?_
    have hYB := setCells_all (ds := zc) hHeld.2 (Array.length_toList ..)
    have hYM := setCells_mod (b := w.heap.size) (zc : Array Value).toList 0 hHeld.1 (.inr (by omega))
    generalize hZ : World.setCells _ _ 0 _ = y2 at *
    clear hZ
    refine hK.out _ _ ⟨hYM, hYB⟩ (fun hHeld => ?_)
    clear hK K
    (try simp only [Act.put, List.getElem_toArray, List.getElem_cons_zero, List.getElem_cons_succ, List.setIfInBounds_toArray, List.set_cons_zero, List.set_cons_succ])
    refine' wpAnyH_take (i := 3) (v := _) rfl (by kernel_rfl) (by kernel_rfl) (by kernel_rfl) (fun _ _ _ h => h) (Or.inl ⟨by rfl, ?hy2⟩) hHeld ?rest2
    case hy2 => (rintro W hM; go_simp; (try with_reducible rfl))
    case rest2 =>
    (try simp only [Act.put, List.getElem_toArray, List.getElem_cons_zero, List.getElem_cons_succ, List.setIfInBounds_toArray, List.set_cons_zero, List.set_cons_succ])
    refine wpAnyH_done (by kernel_rfl) ?_ _
    clear hYB hYM
    go_wp2_with fail
    refine bodyPost_ret (results_cell2 rfl _ (by rfl) (by rfl) hHeld.2 Tryd.underlying31 rfl HZC.out.i) rfl (.inl ⟨HNO.out, zc, [110, 97, 109, 101], [], ?_, hHeld.1, HZC.out⟩)
    rfl
  have KO : Hid (Calls Tryd.prog 29 #[itemV (t.ch 3) A3 c3] U2 (Ret (.tuple #[.agg #[.int .i64 (readE (t.ch 3)).sch, str (readE (t.ch 3)).name, .int .u64 ((readE (t.ch 3)).node : Int), .int .u64 ((readE (t.ch 3)).svc : Int)], .int .i64 0]) U2)) := hid (by have h := KO.out; rw [hO] at h; exact h)
  have HYO := hid hO
  clear hO
  obtain ⟨E, hE⟩ : ∃ E, readE (t.ch 3) = E := ⟨_, rfl⟩
  rw [hE] at KO
  have HEQ := hid hE
  clear hE
  go_upto_region 12 with (go_at_call 29; refine KO.out.mono ?_; rintro x w3 ⟨rfl, hb⟩; have HX := hid hb; clear hb)
  generalize hY : World.alloc w3 _ = U3
  have HE2 : Hid (Ext w U3) := hid (by rw [← hY]; exact (HE.out.trans HX.out).alloc _)
  have HB2 : Hid (Blk U3 w.heap.size 31 (asbC ⟨(t.ch 0).k, tgtN (t.ch 0), cx, zeroE, zeroA.ps, 0, zeroA.rs⟩ ⟨At, ct, none, 0, none, 0⟩)) := hid (by rw [← hY]; exact (HBk.out.ext HX.out).alloc _)
  have HBE : Hid (Blk U3 w3.heap.size 27 E.c) := hid (by rw [← hY]; exact Blk.new _ _ _)
  have HNS : Hid (∀ W, Mod [w.heap.size] U3 W → NsL W At (t.ch 0).k (tgtN (t.ch 0))) := hid (fun W hW => HNS.out W ((HX.out.mono (by simp)).trans (Mod.trans (by rw [← hY]; exact (Mod.refl _ _).alloc _) hW)))
  have HE := HE2
  have HBk := HB2
  clear hY a0 a1 a2 a3 a4 HE2 HB2 HX KO
  generalize w3.heap.size = n4 at *
  have e0 : U3.cell? ⟨n4, 0, none⟩ = some (.int .i64 E.sch) := HBE.out.cell 0
  have e1 : U3.cell? ⟨n4, 1, none⟩ = some (str E.name) := HBE.out.cell 1
  have e2 : U3.cell? ⟨n4, 2, none⟩ = some (.int .u64 (E.node : Int)) := HBE.out.cell 2
  have e3 : U3.cell? ⟨n4, 3, none⟩ = some (.int .u64 (E.svc : Int)) := HBE.out.cell 3
  have q2 := HBk.out.cell 2
  have q2f := HBk.out.frozen 2
  have q3 := HBk.out.cell 3
  have q3f := HBk.out.frozen 3
  have q4 := HBk.out.cell 4
  have q4f := HBk.out.frozen 4
  have q5 := HBk.out.cell 5
  have q5f := HBk.out.frozen 5
  go_upto_region 13 with fail
  generalize hY : World.setCell _ ⟨w.heap.size, 5, none⟩ _ = U4
  have HMU : Hid (Mod [w.heap.size] U3 U4) := hid (by rw [← hY]; exact ((((Mod.refl [w.heap.size] U3).setCell (.inl (by simp)) _).setCell (.inl (by simp)) _).setCell (.inl (by simp)) _).setCell (.inl (by simp)) _)
  have HE2 : Hid (Ext w U4) := hid (by rw [← hY]; exact (((HE.out.setCell (.inr (Nat.le_refl _)) _).setCell (.inr (Nat.le_refl _)) _).setCell (.inr (Nat.le_refl _)) _).setCell (.inr (Nat.le_refl _)) _)
  have HB2 : Hid (Blk U4 w.heap.size 31 (asbC ⟨(t.ch 0).k, tgtN (t.ch 0), cx, E, zeroA.ps, 0, zeroA.rs⟩ ⟨At, ct, none, 0, none, 0⟩)) := hid (by rw [← hY]; exact (((HBk.out.set_ 2 _).set_ 3 _).set_ 4 _).set_ 5 _)
  have HNS : Hid (∀ W, Mod [w.heap.size] U4 W → NsL W At (t.ch 0).k (tgtN (t.ch 0))) := hid (fun W hW => HNS.out W (HMU.out.trans hW))
  have HE := HE2
  have HBk := HB2
  clear hY HE2 HB2 HMU HBE e0 e1 e2 e3 q2 q2f q3 q3f q4 q4f q5 q5f
  go_upto_region 14 with fail
  have a0 : U4.cell? ⟨b, o + 20, none⟩ = _ := (HP4.out _ HE.out).1
  have a1 : U4.cell? ⟨b, o + 20 + 1, none⟩ = _ := (HP4.out _ HE.out).2.1
  have a2 : U4.cell? ⟨b, o + 20 + 2, none⟩ = _ := (HP4.out _ HE.out).2.2.1
  have a3 : U4.cell? ⟨b, o + 20 + 3, none⟩ = _ := (HP4.out _ HE.out).2.2.2.1
  have a4 : U4.cell? ⟨b, o + 20 + 4, none⟩ = _ := (HP4.out _ HE.out).2.2.2.2
  have KP := hid (areadP_any (t.ch 4) (HKB.out 4 (by decide)).1 A4 c4 eb U4 (HFM.out _ HE.out) (HI4.out _ HE.out))
  by_cases hP : T.all (pairK (t.ch 4)) (t.ch 4).k = true
  case neg =>
    have hP : T.all (pairK (t.ch 4)) (t.ch 4).k = false := by simpa using hP
    have HNO : Hid (rdOK t = false) := hid (by rw [HOKR.out, hP]; simp)
    have KE : Hid (Calls Tryd.prog 30 #[itemV (t.ch 4) A4 c4] U4 (fun e w' => ∃ l, e = .returned (.tuple #[.slice none 0 0, .iface 100 (.agg #[str [112, 97, 105, 114], errV eb l])]) ∧ Ext U4 w')) := hid (KP.out.mono fun e w' h => by
      rcases h with ⟨_, l, h1, h2⟩ | ⟨h1, _⟩
      · exact ⟨l, h1, h2⟩
      · rw [hP] at h1; exact absurd h1 (by decide))
    clear hP KP
    go_upto_region 16 with (go_at_call 30; refine KE.out.mono ?_; rintro x w3 ⟨l, rfl, hb⟩; have HX := hid hb; have q6 := (HBk.out.ext hb).cell 6; have q6f := (HBk.out.ext hb).frozen 6; clear hb)
    generalize hY : World.setCell w3 ⟨w.heap.size, 6, none⟩ _ = U
    have HMU : Hid (Mod [w.heap.size] w3 U) := hid (by rw [← hY]; exact (Mod.refl [w.heap.size] w3).setCell (.inl (by simp)) _)
    have HE2 : Hid (Ext w U) := hid (by rw [← hY]; exact (HE.out.trans HX.out).setCell (.inr (Nat.le_refl _)) _)
    have HB2 : Hid (Blk U w.heap.size 31 (asbC ⟨(t.ch 0).k, tgtN (t.ch 0), cx, E, zeroA.ps, 0, zeroA.rs⟩ ⟨At, ct, none, 0, none, 0⟩)) := hid (by rw [← hY]; exact (HBk.out.ext HX.out).set_ 6 _)
    clear hY q6 q6f a0 a1 a2 a3 a4
    have HZC := hid (ZC.mk' ⟨(t.ch 0).k, tgtN (t.ch 0), cx, E, zeroA.ps, 0, zeroA.rs⟩ ⟨At, ct, none, 0, none, 0⟩)
    obtain ⟨zc, hzc⟩ : ∃ zc, asbC ⟨(t.ch 0).k, tgtN (t.ch 0), cx, E, zeroA.ps, 0, zeroA.rs⟩ ⟨At, ct, none, 0, none, 0⟩ = zc := ⟨_, rfl⟩
    have HBZ : Hid (Blk U w.heap.size 31 zc) := hid (by rw [← hzc]; exact HB2.out)
    rw [hzc] at HZC
    clear hzc
    have tk1 : True := trivial
    have tk2 : True := trivial
    go_wp2_with (first | (clear tk1; refine wpList_row (by rfl) 31 _ rfl _ rfl HBZ.out Tryd.underlying31 rfl HZC.out.i ?_) | (clear tk2; refine wpList_store_mid rfl 31 _ _ rfl (w.heap.size) 0 zc (by rfl) (by rfl) (HBZ.out.there (by rw [HZC.out.s]; exact Nat.le_refl 8)) HZC.out.i HZC.out.o ?_))
    have hY := setCells_all (ds := zc) HBZ.out (Array.length_toList ..)
    have hM2 := setCells_mod (b := w.heap.size) (zc : Array Value).toList 0 HE2.out (.inr (by omega))
    generalize hZ2 : World.setCells _ _ 0 _ = Z2 at *
    refine bodyPost_ret (results_cell2 rfl _ (by rfl) (by rfl) hY Tryd.underlying31 rfl HZC.out.i) rfl (.inl ⟨HNO.out, zc, [112, 97, 105, 114], l, ?_, hM2, HZC.out⟩)
    rfl
  have KE : Hid (Calls Tryd.prog 30 #[itemV (t.ch 4) A4 c4] U4 (fun e w' => ∃ Ap cp, e = .returned (.tuple #[.slice Ap (t.ch 4).k cp, .nilIface]) ∧ Ext U4 w' ∧ PsL w' (fun b => ((X b ∧ b < w.heap.size) ∧ b < U4.heap.size) ∨ U4.heap.size ≤ b) Ap ⟨(t.ch 4).k, pairP (t.ch 4)⟩)) := hid (KP.out.mono fun e w' h => by
    rcases h with ⟨h1, _⟩ | ⟨_, Ap, cp, h1, h2, _, h4⟩
    · rw [hP] at h1; exact absurd h1 (by decide)
    · exact ⟨Ap, cp, h1, h2, h4⟩)
  have HYP := hid hP
  have HLT : Hid (w.heap.size < U4.heap.size) := hid HBk.out.lt
  clear hP KP
  go_upto_region 17 with (go_at_call 30; refine KE.out.mono ?_; rintro x w3 ⟨Ap, cp, rfl, hb, hn1⟩; have HX := hid hb; have q6 := (HBk.out.ext hb).cell 6; have q6f := (HBk.out.ext hb).frozen 6; have HN1 := hid hn1; clear hn1; clear hb)
  generalize hY : World.setCell w3 ⟨w.heap.size, 6, none⟩ _ = U5
  have HMU : Hid (Mod [w.heap.size] w3 U5) := hid (by rw [← hY]; exact (Mod.refl [w.heap.size] w3).setCell (.inl (by simp)) _)
  have HE2 : Hid (Ext w U5) := hid (by rw [← hY]; exact (HE.out.trans HX.out).setCell (.inr (Nat.le_refl _)) _)
  have HB2 : Hid (Blk U5 w.heap.size 31 (asbC ⟨(t.ch 0).k, tgtN (t.ch 0), cx, E, ⟨(t.ch 4).k, pairP (t.ch 4)⟩, 0, zeroA.rs⟩ ⟨At, ct, Ap, cp, none, 0⟩)) := hid (by rw [← hY]; exact (HBk.out.ext HX.out).set_ 6 _)
  clear hY q6 q6f a0 a1 a2 a3 a4
  have HPS : Hid (∀ W, Mod [w.heap.size] U5 W → PsL W (NewQ X w.heap.size) Ap ⟨(t.ch 4).k, pairP (t.ch 4)⟩) := hid (fun W hW => (HN1.out.mod (HMU.out.trans hW) (fun b hb _ => by have := HLT.out; simp; omega)).weak (fun b _ hb => hb.elim (fun h => .inl h.1) (fun h => .inr (by have := HLT.out; omega))))
  have HNS : Hid (∀ W, Mod [w.heap.size] U5 W → NsL W At (t.ch 0).k (tgtN (t.ch 0))) := hid (fun W hW => HNS.out W ((HX.out.mono (by simp)).trans (HMU.out.trans hW)))
  have HE := HE2
  have HBk := HB2
  clear HE2 HB2 HMU HN1 HLT HX KE w3
  have a0 : U5.cell? ⟨b, o + 25, none⟩ = _ := (HP5.out _ HE.out).1
  have a1 : U5.cell? ⟨b, o + 25 + 1, none⟩ = _ := (HP5.out _ HE.out).2.1
  have a2 : U5.cell? ⟨b, o + 25 + 2, none⟩ = _ := (HP5.out _ HE.out).2.2.1
  have a3 : U5.cell? ⟨b, o + 25 + 3, none⟩ = _ := (HP5.out _ HE.out).2.2.2.1
  have a4 : U5.cell? ⟨b, o + 25 + 4, none⟩ = _ := (HP5.out _ HE.out).2.2.2.2
  have KR := hid (areadR_any (t.ch 5) (HKB.out 5 (by decide)).1 (HKB.out 5 (by decide)).2 A5 c5 eb U5 (HFM.out _ HE.out) (HI5.out _ HE.out))
  by_cases hR : T.all (resK (t.ch 5)) (t.ch 5).k = true
  case neg =>
    have hR : T.all (resK (t.ch 5)) (t.ch 5).k = false := by simpa using hR
    have HNO : Hid (rdOK t = false) := hid (by rw [HOKR.out, hR]; simp)
    have KE : Hid (Calls Tryd.prog 31 #[itemV (t.ch 5) A5 c5] U5 (fun e w' => ∃ l, e = .returned (.tuple #[.slice none 0 0, .iface 100 (.agg #[str [114, 101, 115, 117, 108, 116, 115], errV eb l])]) ∧ Ext U5 w')) := hid (KR.out.mono fun e w' h => by
      rcases h with ⟨_, l, h1, h2⟩ | ⟨h1, _⟩
      · exact ⟨l, h1, h2⟩
      · rw [hR] at h1; exact absurd h1 (by decide))
    clear hR KR
    go_upto_region 18 with (go_at_call 31; refine KE.out.mono ?_; rintro x w3 ⟨l, rfl, hb⟩; have HX := hid hb; have q7 := (HBk.out.ext hb).cell 7; have q7f := (HBk.out.ext hb).frozen 7; clear hb)
    generalize hY : World.setCell w3 ⟨w.heap.size, 7, none⟩ _ = U
    have HMU : Hid (Mod [w.heap.size] w3 U) := hid (by rw [← hY]; exact (Mod.refl [w.heap.size] w3).setCell (.inl (by simp)) _)
    have HE2 : Hid (Ext w U) := hid (by rw [← hY]; exact (HE.out.trans HX.out).setCell (.inr (Nat.le_refl _)) _)
    have HB2 : Hid (Blk U w.heap.size 31 (asbC ⟨(t.ch 0).k, tgtN (t.ch 0), cx, E, ⟨(t.ch 4).k, pairP (t.ch 4)⟩, 0, zeroA.rs⟩ ⟨At, ct, Ap, cp, none, 0⟩)) := hid (by rw [← hY]; exact (HBk.out.ext HX.out).set_ 7 _)
    clear hY q7 q7f a0 a1 a2 a3 a4
    have HZC := hid (ZC.mk' ⟨(t.ch 0).k, tgtN (t.ch 0), cx, E, ⟨(t.ch 4).k, pairP (t.ch 4)⟩, 0, zeroA.rs⟩ ⟨At, ct, Ap, cp, none, 0⟩)
    obtain ⟨zc, hzc⟩ : ∃ zc, asbC ⟨(t.ch 0).k, tgtN (t.ch 0), cx, E, ⟨(t.ch 4).k, pairP (t.ch 4)⟩, 0, zeroA.rs⟩ ⟨At, ct, Ap, cp, none, 0⟩ = zc := ⟨_, rfl⟩
    have HBZ : Hid (Blk U w.heap.size 31 zc) := hid (by rw [← hzc]; exact HB2.out)
    rw [hzc] at HZC
    clear hzc
    have tk1 : True := trivial
    have tk2 : True := trivial
    go_wp2_with (first | (clear tk1; refine wpList_row (by rfl) 31 _ rfl _ rfl HBZ.out Tryd.underlying31 rfl HZC.out.i ?_) | (clear tk2; refine wpList_store_mid rfl 31 _ _ rfl (w.heap.size) 0 zc (by rfl) (by rfl) (HBZ.out.there (by rw [HZC.out.s]; exact Nat.le_refl 8)) HZC.out.i HZC.out.o ?_))
    have hY := setCells_all (ds := zc) HBZ.out (Array.length_toList ..)
    have hM2 := setCells_mod (b := w.heap.size) (zc : Array Value).toList 0 HE2.out (.inr (by omega))
    generalize hZ2 : World.setCells _ _ 0 _ = Z2 at *
    refine bodyPost_ret (results_cell2 rfl _ (by rfl) (by rfl) hY Tryd.underlying31 rfl HZC.out.i) rfl (.inl ⟨HNO.out, zc, [114, 101, 115, 117, 108, 116, 115], l, ?_, hM2, HZC.out⟩)
    rfl
  have KE : Hid (Calls Tryd.prog 31 #[itemV (t.ch 5) A5 c5] U5 (fun e w' => ∃ Ar cr, e = .returned (.tuple #[.slice Ar (t.ch 5).k cr, .nilIface]) ∧ Ext U5 w' ∧ RsL w' (fun b => ((X b ∧ b < w.heap.size) ∧ b < U5.heap.size) ∨ U5.heap.size ≤ b) Ar (t.ch 5).k (resP (t.ch 5)))) := hid (KR.out.mono fun e w' h => by
    rcases h with ⟨h1, _⟩ | ⟨_, Ar, cr, h1, h2, _, h4⟩
    · rw [hR] at h1; exact absurd h1 (by decide)
    · exact ⟨Ar, cr, h1, h2, h4⟩)
  have HOK : Hid (rdOK t = true) := hid (by rw [HOKR.out, HYT.out, HYO.out, hR, decide_eq_true HYC.out]; rw [HYP.out]; rfl)
  have HRA : Hid (rdA t = ⟨(t.ch 0).k, tgtN (t.ch 0), cx, E, ⟨(t.ch 4).k, pairP (t.ch 4)⟩, (t.ch 5).k, resP (t.ch 5)⟩) := hid (by unfold rdA; rw [HKk.out, HCX.out, HEQ.out]; rfl)
  have HLT : Hid (w.heap.size < U5.heap.size) := hid HBk.out.lt
  clear hR KR
  go_upto_region 18 with (go_at_call 31; refine KE.out.mono ?_; rintro x w3 ⟨Ar, cr, rfl, hb, hn1⟩; have HX := hid hb; have q7 := (HBk.out.ext hb).cell 7; have q7f := (HBk.out.ext hb).frozen 7; have HN1 := hid hn1; clear hn1; clear hb)
  generalize hY : World.setCell w3 ⟨w.heap.size, 7, none⟩ _ = U6
  have HMU : Hid (Mod [w.heap.size] w3 U6) := hid (by rw [← hY]; exact (Mod.refl [w.heap.size] w3).setCell (.inl (by simp)) _)
  have HE2 : Hid (Ext w U6) := hid (by rw [← hY]; exact (HE.out.trans HX.out).setCell (.inr (Nat.le_refl _)) _)
  have HB2 : Hid (Blk U6 w.heap.size 31 (asbC ⟨(t.ch 0).k, tgtN (t.ch 0), cx, E, ⟨(t.ch 4).k, pairP (t.ch 4)⟩, (t.ch 5).k, resP (t.ch 5)⟩ ⟨At, ct, Ap, cp, Ar, cr⟩)) := hid (by rw [← hY]; exact (HBk.out.ext HX.out).set_ 7 _)
  clear hY q7 q7f a0 a1 a2 a3 a4
  have HPS : Hid (∀ W, Mod [w.heap.size] U6 W → PsL W (NewQ X w.heap.size) Ap ⟨(t.ch 4).k, pairP (t.ch 4)⟩) := hid (fun W hW => HPS.out W ((HX.out.mono (by simp)).trans (HMU.out.trans hW)))
  have HRS : Hid (∀ W, Mod [w.heap.size] U6 W → RsL W (NewQ X w.heap.size) Ar (t.ch 5).k (resP (t.ch 5))) := hid (fun W hW => (HN1.out.mod (HMU.out.trans hW) (fun b hb _ => by have := HLT.out; simp; omega)).weak (fun b _ hb => hb.elim (fun h => .inl h.1) (fun h => .inr (by have := HLT.out; omega))))
  have HNS : Hid (∀ W, Mod [w.heap.size] U6 W → NsL W At (t.ch 0).k (tgtN (t.ch 0))) := hid (fun W hW => HNS.out W ((HX.out.mono (by simp)).trans (HMU.out.trans hW)))
  have HZC := hid (ZC.mk' ⟨(t.ch 0).k, tgtN (t.ch 0), cx, E, ⟨(t.ch 4).k, pairP (t.ch 4)⟩, (t.ch 5).k, resP (t.ch 5)⟩ ⟨At, ct, Ap, cp, Ar, cr⟩)
  obtain ⟨zc, hzc⟩ : ∃ zc, asbC ⟨(t.ch 0).k, tgtN (t.ch 0), cx, E, ⟨(t.ch 4).k, pairP (t.ch 4)⟩, (t.ch 5).k, resP (t.ch 5)⟩ ⟨At, ct, Ap, cp, Ar, cr⟩ = zc := ⟨_, rfl⟩
  have HBZ : Hid (Blk U6 w.heap.size 31 zc) := hid (by rw [← hzc]; exact HB2.out)
  rw [hzc] at HZC
  have HZQ := hid hzc
  clear hzc
  have tk1 : True := trivial
  have tk2 : True := trivial
  go_wp2_with (first | (clear tk1; refine wpList_row (by rfl) 31 _ rfl _ rfl HBZ.out Tryd.underlying31 rfl HZC.out.i ?_) | (clear tk2; refine wpList_store_mid rfl 31 _ _ rfl (w.heap.size) 0 zc (by rfl) (by rfl) (HBZ.out.there (by rw [HZC.out.s]; exact Nat.le_refl 8)) HZC.out.i HZC.out.o ?_))
  have hY := setCells_all (ds := zc) HBZ.out (Array.length_toList ..)
  have hM2 := setCells_mod (b := w.heap.size) (zc : Array Value).toList 0 HE2.out (.inr (by omega))
  generalize hZ2 : World.setCells _ _ 0 _ = Z2 at *
  have hM3 := setCells_mod (b := w.heap.size) (zc : Array Value).toList 0 (Mod.refl [w.heap.size] U6) (.inl (by simp))
  rw [hZ2] at hM3
  refine bodyPost_ret (results_cell2 rfl _ (by rfl) (by rfl) hY Tryd.underlying31 rfl HZC.out.i) rfl (.inr ⟨HOK.out, ⟨At, ct, Ap, cp, Ar, cr⟩, ?_, hM2, ?_, ?_⟩)
  · rw [HRA.out, ← HZQ.out]; rfl
  · rw [HRA.out]
    exact ⟨HNS.out _ hM3, fun b o hA _ => .inr (HTQ.out b o hA), HPS.out _ hM3, HRS.out _ hM3⟩
  · rw [HRA.out]; exact HN3.out
end Go.Proofs.YtblfmokklfhklaaDoor


namespace Go.Proofs.YtblfmokklfhklaaDoor
open Go.RowKit
set_option linter.unusedVariables false
set_option linter.unusedSimpArgs false

def PV.few (p : PV) : Bool := decide (p.d.name.length ≤ 100) && decide (p.s.name.length ≤ 100) && decide (p.r.name.length ≤ 100)
def bsFew (bs : Nat → BV) (i : Nat) : Bool := decide (4100 < (bs i).data.length)
def bunFew (p : PV) (bs : Nat → BV) (k : Nat) : Bool := decide (k ≤ 20) && ((firstOf (bsFew bs) k).isNone && p.few)
theorem bunFew_spec {p : PV} {bs : Nat → BV} {k : Nat} (h : bunFew p bs k = true) : k ≤ 20 ∧ p.few = true ∧ ∀ i, i < k → (bs i).data.length ≤ 4100 := by
  unfold bunFew at h
  simp only [Bool.and_eq_true, decide_eq_true_eq] at h
  refine ⟨h.1, h.2.2, fun i hi => ?_⟩
  cases hf : firstOf (bsFew bs) k with
  | some x => rw [hf] at h; simp at h
  | none =>
    have := firstOf_no hf i hi
    unfold bsFew at this
    simp at this
    exact this
theorem bunFew_long {p : PV} {bs : Nat → BV} {k i : Nat} (hi : i < k) (h : 4100 < (bs i).data.length) : bunFew p bs k = false := by
  cases hb : bunFew p bs k with
  | false => rfl
  | true => have := (bunFew_spec hb).2.2 i hi; omega
end Go.Proofs.YtblfmokklfhklaaDoor


namespace Go.Proofs.YtblfmokklfhklaaDoor
open Go.RowKit
set_option linter.unusedVariables false
set_option linter.unusedSimpArgs false

def fewP (p : PL) : Bool := T.all (fun i => few (p.a i).t 1000) (min p.k 20) && decide (p.k ≤ 10)
def fewA (a : AV) : Bool := T.all (fun i => fewP (a.rs i)) (min a.rk 30) && (decide (a.tk ≤ 20) && decide (a.rk ≤ 20) && fewP a.ps && decide (a.src.name.length ≤ 100))
end Go.Proofs.YtblfmokklfhklaaDoor


namespace Go.Proofs.YtblfmokklfhklaaDoor
open Go.RowKit
set_option linter.unusedVariables false
set_option linter.unusedSimpArgs false

def isID (p : PL) (id : Int) (i : Nat) : Bool := (p.a i).id == id
def IdPost (p : PL) (id kind : Int) (w : World) (e : Ending) (w' : World) : Prop :=
  Ext w w' ∧ ((∃ i A c, firstOf (isID p id) p.k = some i ∧ e = .returned (.tuple #[itemV (p.a i).t A c, .bool ((p.a i).t.kind == kind)])) ∨ (firstOf (isID p id) p.k = none ∧ e = .returned (.tuple #[.agg #[.int .i64 0, .int .u64 0, .string ⟨#[]⟩, .slice none 0 0, .bool false], .bool false])))
end Go.Proofs.YtblfmokklfhklaaDoor


namespace Go.Proofs.YtblfmokklfhklaaDoor
open Go.RowKit
set_option linter.unusedVariables false
set_option linter.unusedSimpArgs false

def numV (p : PL) (id : Int) : Value := match firstOf (isID p id) p.k with | some i => if (p.a i).t.kind == 0 then .tuple #[.int .u64 ((p.a i).t.n : Int), .bool true] else .tuple #[.int .u64 0, .bool false] | none => .tuple #[.int .u64 0, .bool false]
def strV (p : PL) (id : Int) : Value := match firstOf (isID p id) p.k with | some i => if (p.a i).t.kind == 2 then .tuple #[str (p.a i).t.s, .bool true] else .tuple #[str [], .bool false] | none => .tuple #[str [], .bool false]
/-- A text of these pairs alone. -/
def parA (p : PL) : AV := ⟨0, fun _ => 0, 0, ⟨0, [], 0, 0⟩, p, 0, fun _ => p⟩
theorem parA_wf {p : PL} (hw : p.wf) : (parA p).wf := ⟨⟨by show (0 : Nat) < 4611686018427387904; omega, fun i hi => absurd hi (Nat.not_lt_zero _)⟩, by show _ ≤ (0 : Int) ∧ (0 : Int) ≤ _; omega, by show (0 : Nat) < 4611686018427387904; omega, hw, by show (0 : Nat) < 4611686018427387904; omega, fun i hi => absurd hi (Nat.not_lt_zero _)⟩
end Go.Proofs.YtblfmokklfhklaaDoor


namespace Go.Proofs.YtblfmokklfhklaaDoor
open Go.RowKit
set_option linter.unusedVariables false
set_option linter.unusedSimpArgs false

def okB (p : PL) (i : Nat) : Bool := codedB (p.a i).id && valB (p.a i).t && T.all (fun j => decide ((p.a j).id ≠ (p.a i).id)) i
theorem all_and (f g : Nat → Bool) (k : Nat) : T.all (fun i => f i && g i) k = (T.all f k && T.all g k) := by
  rw [Bool.eq_iff_iff, Bool.and_eq_true, T.all_iff, T.all_iff, T.all_iff]
  constructor
  · intro h
    exact ⟨fun i hi => by have := h i hi; simp at this; exact this.1, fun i hi => by have := h i hi; simp at this; exact this.2⟩
  · rintro ⟨h1, h2⟩ i hi
    simp [h1 i hi, h2 i hi]
theorem okB_pairs (p : PL) : T.all (okB p) p.k = pairsB p := by
  have e : okB p = fun i => valB (p.a i).t && (codedB (p.a i).id && T.all (fun j => decide ((p.a j).id ≠ (p.a i).id)) i) := by
    funext i
    unfold okB
    cases codedB (p.a i).id <;> cases valB (p.a i).t <;> rfl
  rw [e, all_and]
  rfl
end Go.Proofs.YtblfmokklfhklaaDoor
