/-
  Primaries: the sum put in.
  Primaries: the item and the bytes, as the code makes them.
  Primaries: the bytes, as the reference puts them together.
  Primaries: the whole bytes, with and without a sum, as the reference puts them together.
  Bundles: where a number's block is; the block of a number.
  Scopes: which there are; what goes with a target, as the code puts it together.
-/
import Derived.Test.YtkeabdfgacicaaaMScopeApartf
import Derived.Shelf.Abstract

namespace Go.Proofs.Ytkeabdfgacicaaa
open Go.RowKit
set_option linter.unusedVariables false
set_option linter.unusedSimpArgs false

theorem chL_app {L : List T} {t : T} {i : Nat} (h : i < L.length) : chL (L ++ [t]) i = chL L i := by unfold chL; rw [List.getElem?_append_left h]
theorem chL_last (L : List T) (t : T) : chL (L ++ [t]) L.length = t := by unfold chL; simp
theorem listT_app (L : List T) (t : T) : listT (L ++ [t]) = T.mk 4 0 [] false (L.length + 1) (chL (L ++ [t])) := by
  unfold listT chL
  rw [List.length_append]; rfl
theorem last_ext (L : List T) (s t : T) : listT (L ++ [t]) = T.mk 4 0 [] false (L.length + 1) (fun i => if i = L.length then t else chL (L ++ [s]) i) := by
  rw [listT_app]
  congr 1
  funext i
  by_cases h : i = L.length
  · rw [if_pos h, h, chL_last]
  · rw [if_neg h]
    by_cases h2 : i < L.length
    · rw [chL_app h2, chL_app h2]
    · unfold chL
      rw [List.getElem?_eq_none (by simp; omega), List.getElem?_eq_none (by simp; omega)]
set_option maxRecDepth 20000 in
theorem psummed_0 (t : T) (A : Option Addr) (c : Nat) (w : World) : Calls Try.prog 53 #[.int .i64 0, itemV t A c] w (Ret (itemV t A c) w) := by
  have HB := hid (Blk.new w 48 (itemC t A c))
  go_enter Try.func53, Try.ntmps53
  go_wp2_with fail
  refine bodyPost_ret (v := itemV t A c) (by simp [results, Try.results53, go_sem]) rfl (Ret.mk rfl (((Mod.refl _ _).alloc _).alloc _))
set_option maxRecDepth 20000 in
set_option maxHeartbeats 1600000 in
theorem psummed_any (L : List T) (Z : List UInt8) (kind : Nat) (k1 : 1 ≤ kind) (k2 : kind ≤ 2) (hn : L.length ≤ 20) (hok : (listT (L ++ [strT Z])).ok) (hsz : (listT (L ++ [strT Z])).size ≤ 100000) (hr : (listT (L ++ [strT Z])).right 8 = true) (hbl : (listT (L ++ [strT Z])).bytes.length < 1000000) (N : Nat) (A : Option Addr) (c : Nat) (w : World) (hN : N ≤ w.heap.size) (h : IsL w (fun b => N ≤ b) (listT (L ++ [strT Z])) A) :
    Calls Try.prog 53 #[.int .i64 (kind : Int), itemV (listT (L ++ [strT Z])) A c] w (fun e w' => ∃ A c, e = .returned (itemV (listT (L ++ [strT (Crc.sumL kind (listT (L ++ [strT Z])).bytes)])) A c) ∧ Ext w w' ∧ IsL w' (fun b => N ≤ b) (listT (L ++ [strT (Crc.sumL kind (listT (L ++ [strT Z])).bytes)])) A) := by
  have e1 : ((kind : Int) = 0) = False := by simp; omega
  have e2 : ((kind : Int) == 0) = false := by simp; omega
  have HI : Hid (IsL w (fun b => N ≤ b ∧ b < w.heap.size) (listT (L ++ [strT Z])) A) := IsL.weak (fun k hk hq => ⟨hq, hk⟩) _ h
  have KB : Hid (∀ A c W, IsL W (fun _ => True) (listT (L ++ [strT Z])) A → Calls Try.prog 40 #[itemV (listT (L ++ [strT Z])) A c] W (Ret (.tuple #[str (listT (L ++ [strT Z])).bytes, .int .i64 0]) W)) := fun A c W hW => by
    have := iBuild_any _ hok hsz A c W hW
    unfold buildV at this
    rwa [if_pos hr] at this
  have KS := hid (fun W => Sum_any kind k1 k2 (listT (L ++ [strT Z])).bytes hbl W)
  have HU := hid (last_ext L (strT Z) (strT (Crc.sumL kind (listT (L ++ [strT Z])).bytes)))
  rw [listT_app L (strT Z)] at KB KS HU HI ⊢
  have hK := CloneI_any (Q := fun b => N ≤ b ∧ b < w.heap.size) (kind := 4) (n := 0) (s := []) (op := false) (chL (L ++ [strT Z])) (L.length + 1) (by unfold Hid; omega) A c
  have KC := hid hK
  clear hK h hok hsz hr hbl
  generalize (T.mk 4 0 [] false (L.length + 1) (chL (L ++ [strT Z]))).bytes = B at *
  generalize listT (L ++ [strT (Crc.sumL kind B)]) = U at *
  generalize Crc.sumL kind B = S at *
  generalize chL (L ++ [strT Z]) = ch at *
  obtain ⟨n, hnn⟩ : ∃ n, n = L.length := ⟨_, rfl⟩
  rw [← hnn] at HI KB HU KC hn ⊢
  clear hnn
  have n0 : (0 : Int) ≤ (n : Int) := by omega
  have n1 : (n : Int) ≤ 20 := by omega
  have HN1 := hid hn
  have HNW := hid hN
  clear hn hN k1 k2
  have HE := hid (((Mod.refl [] w).alloc (.cells (itemC (T.mk 4 0 [] false (n + 1) ch) A c) 48)).alloc (.cells #[.int .i64 0, .int .u64 0, .string ⟨#[]⟩, .slice none 0 0, .bool false] 48))
  have HX := hid ((Blk.new w 48 (itemC (T.mk 4 0 [] false (n + 1) ch) A c)).alloc (.cells #[.int .i64 0, .int .u64 0, .string ⟨#[]⟩, .slice none 0 0, .bool false] 48))
  have HR : Hid (Blk ((w.alloc (.cells (itemC (T.mk 4 0 [] false (n + 1) ch) A c) 48)).alloc (.cells #[.int .i64 0, .int .u64 0, .string ⟨#[]⟩, .slice none 0 0, .bool false] 48)) (w.heap.size + 1) 48 (itemC (numT 0) none 0)) := Blk.newL _ _ _ (by simp)
  go_enter Try.func53, Try.ntmps53
  go_upto_region 3 with fail
  generalize hV : World.alloc _ _ = V
  rw [hV] at HE HX HR
  clear hV
  have HIV : Hid (∀ e : Later V, IsL e.x (fun b => N ≤ b ∧ b < w.heap.size) (T.mk 4 0 [] false (n + 1) ch) A) := fun e => HI.out.ext (HE.out.trans e.h)
  have q0 : ∀ e : Later V, e.x.cell? ⟨w.heap.size, 0, none⟩ = some (.int .i64 4) := HX.out.cellL 0 rfl
  have q1 : ∀ e : Later V, e.x.cell? ⟨w.heap.size, 1, none⟩ = some (.int .u64 0) := HX.out.cellL 1 rfl
  have q2 : ∀ e : Later V, e.x.cell? ⟨w.heap.size, 2, none⟩ = some (str []) := HX.out.cellL 2 rfl
  have q3 : ∀ e : Later V, e.x.cell? ⟨w.heap.size, 3, none⟩ = some (.slice A (n + 1) c) := HX.out.cellL 3 rfl
  have q4 : ∀ e : Later V, e.x.cell? ⟨w.heap.size, 4, none⟩ = some (.bool false) := HX.out.cellL 4 rfl
  obtain ⟨e, he⟩ := Later.self V
  rw [he]
  clear he
  have HVS : Hid (w.heap.size + 2 ≤ V.heap.size) := Nat.succ_le_of_lt HR.out.lt
  go_upto_region 5 with (first | (go_at_call 40; refine (Ret.later (KB.out _ _ _ (IsL.weak (fun _ _ _ => trivial) _ (HIV.out _)))).mono ?_; rintro x _ ⟨rfl, e, rfl⟩) | (go_at_call 49; refine (KC.out _ (HIV.out _)).mono ?_; rintro x w1 ⟨g, c', ac, rfl, hb1, hg1, hlt1, hown1, hk1⟩))
  have HO1 := hid hown1
  have HK1 := hid hk1
  have HG : Hid (w.heap.size + 2 ≤ g) := by have := HVS.out; have := e.h.size; unfold Hid; omega
  have HE1 := hid (HE.out.trans (e.h.trans hb1))
  have HR1 := hid (HR.out.ext (e.h.trans hb1))
  have HL1 := hid hlt1
  clear hb1 hg1 hlt1 hown1 hk1 HE HR HI q0 q1 q2 q3 q4 HIV HX HVS
  obtain ⟨x0, x1, x2, x3, x4⟩ := flatC_get ch ac (n + 1) n (by omega)
  have y0 : ∀ e : Later w1, e.x.cell? ⟨g, n * 5, none⟩ = _ := cellL (own_cells HO1.out x0)
  have y1 : ∀ e : Later w1, e.x.cell? ⟨g, n * 5 + 1, none⟩ = _ := cellL (own_cells HO1.out x1)
  have y2 : ∀ e : Later w1, e.x.cell? ⟨g, n * 5 + 2, none⟩ = _ := cellL (own_cells HO1.out x2)
  have y3 : ∀ e : Later w1, e.x.cell? ⟨g, n * 5 + 3, none⟩ = _ := cellL (own_cells HO1.out x3)
  have y4 : ∀ e : Later w1, e.x.cell? ⟨g, n * 5 + 4, none⟩ = _ := cellL (own_cells HO1.out x4)
  have HOE : Hid (∀ e : Later w1, e.x.ownsRow _ 48 5 (.slice (some ⟨g, 0, none⟩) (n + 1) c') (n + 1) (flatC ch ac (n + 1))) := fun e => ownsRow_mod HO1.out e.h (fun _ _ => by simp)
  have z : ∀ (e : Later w1) (j : Nat), e.x.frozen? ⟨g, j, none⟩ = false := fun e j => (HOE.out e).frozenAt j
  clear x0 x1 x2 x3 x4
  obtain ⟨e, he⟩ := Later.self w1
  rw [he]
  clear he
  go_upto_region 6 with (first | (go_at_call 65; refine (Ret.later (KS.out _)).mono ?_; rintro x _ ⟨rfl, e, rfl⟩) | (go_at_call 50; refine (Ret.later (StrV_any _ _)).mono ?_; rintro x _ ⟨rfl, e, rfl⟩))
  generalize hW : World.setCell _ _ _ = W2
  have HO2 : Hid (W2.ownsRow _ 48 5 (.slice (some ⟨g, 0, none⟩) (n + 1) c') (n + 1) (flatC (fun i => if i = n then strT S else ch i) (fun i => if i = n then ((none : Option Addr), 0) else ac i) (n + 1))) := hid (by rw [← hW]; exact own_last (n := n) (strT S) none 0 (HOE.out e))
  have HM : Hid (Mod [g] e.x W2) := hid (by rw [← hW]; exact (((((Mod.refl [g] e.x).setCell (.inl (by simp)) _).setCell (.inl (by simp)) _).setCell (.inl (by simp)) _).setCell (.inl (by simp)) _).setCell (.inl (by simp)) _)
  clear hW y0 y1 y2 y3 y4 z
  have HE2 : Hid (Ext w W2) := (((HE1.out.trans e.h).of_ext).trans HM.out).new (fun b hb => .inr (by rw [List.mem_singleton] at hb; subst hb; have := HG.out; omega))
  have HR2 : Hid (Blk W2 (w.heap.size + 1) 48 (itemC (numT 0) none 0)) := (HR1.out.later e).mod HM.out (by have := HG.out; simp; omega)
  have HK2 : Hid (∀ i, i < n + 1 → IsL W2 (fun b => N ≤ b ∧ b < w.heap.size) ((fun i => if i = n then strT S else ch i) i) ((fun i => if i = n then ((none : Option Addr), 0) else ac i) i).1) := fun i hi => by
    by_cases h : i = n
    · subst h; simp only [if_true]; exact str_IsL
    · simp only [if_neg h]
      exact (IsL.mod HM.out (fun b hb _ hs => by rw [List.mem_singleton] at hs; subst hs; have := hb.2; have := HG.out; omega) _ ((HK1.out i hi).ext e.h))
  have HL2 : Hid (g < W2.heap.size) := by have := HL1.out; have := e.h.size; have := HM.out.size; unfold Hid; omega
  obtain ⟨e, he⟩ := Later.self W2
  rw [he]
  clear he
  go_wp2_with (go_at_call 54; refine (Ret.later (ListV_any _ _ _ _)).mono ?_; rintro x _ ⟨rfl, e, rfl⟩; obtain ⟨c0, c1, c2, c3, c4⟩ := cells5 (HR2.out.later e); have f0 := (HR2.out.later e).frozen 0; have f1 := (HR2.out.later e).frozen 1; have f2 := (HR2.out.later e).frozen 2; have f3 := (HR2.out.later e).frozen 3; have f4 := (HR2.out.later e).frozen 4)
  obtain ⟨d0, d1, d2, d3, d4⟩ := cells5 (set5_blk (t := T.mk 4 0 [] false (n + 1) (fun i => if i = n then strT S else ch i)) (A := some ⟨g, 0, none⟩) (c := c') (HR2.out.later e))
  clear c0 c1 c2 c3 c4 f0 f1 f2 f3 f4
  show bodyPost _ _ _ _ _ (set5 e.x (w.heap.size + 1) (T.mk 4 0 [] false (n + 1) (fun i => if i = n then strT S else ch i)) (some ⟨g, 0, none⟩) c')
  refine bodyPost_ret (v := itemV (T.mk 4 0 [] false (n + 1) (fun i => if i = n then strT S else ch i)) (some ⟨g, 0, none⟩) c') (by simp [results, Try.results53, go_sem, d0, d1, d2, d3, d4]) rfl ⟨some ⟨g, 0, none⟩, c', by rw [HU.out], set5_mod (HE2.out.trans e.h) (by omega), ?_⟩
  rw [HU.out]
  refine IsL.weak (fun _ _ h => h.1) _ (IsL.mod (Q := fun b => N ≤ b ∧ b ≠ w.heap.size + 1) set5_modb (fun b hb _ hs => by rw [List.mem_singleton] at hs; exact hb.2 hs) _ ?_)
  refine own_IsL (by have := HL2.out; have := e.h.size; omega) (by have := HG.out; have := HNW.out; exact ⟨by omega, by omega⟩) (ownsRow_mod HO2.out e.h (fun _ _ => by simp)) (fun i hi => IsL.weak (fun b _ hb => ⟨hb.1, by have := hb.2; omega⟩) _ ((HK2.out i hi).ext e.h))
end Go.Proofs.Ytkeabdfgacicaaa


namespace Go.Proofs.Ytkeabdfgacicaaa
open Go.RowKit
set_option linter.unusedVariables false
set_option linter.unusedSimpArgs false

theorem priL_last (p : PV) {k : Nat} (hk : k ≠ 0) (s : List UInt8) : priL p k s = ([numT 7, numT p.fl, numT k, eidT p.d, eidT p.s, eidT p.r, listT [numT p.t, numT p.q], numT p.l] ++ (if p.fl % 2 = 1 then [numT p.o, numT p.n] else [])) ++ [strT s] := by
  unfold priL; rw [if_neg hk, List.append_assoc]
/-- The sum; the whole bytes. -/
def priSum (p : PV) (k : Nat) : List UInt8 := if k = 0 then [] else Crc.sumL k (priB p k (List.replicate (2 * k) 0))
def PV.bytes (p : PV) : List UInt8 := priB p p.crc.toNat (priSum p p.crc.toNat)
def PV.tree (p : PV) : T := priT p p.crc.toNat (priSum p p.crc.toNat)
theorem priSum_length (p : PV) {k : Nat} (hk : k ≤ 2) : (priSum p k).length = 2 * k := by
  unfold priSum
  by_cases h : k = 0
  · rw [if_pos h, h]; rfl
  · rw [if_neg h]; exact Crc.sumL_length (by omega) hk _
theorem PV.tree_all {p : PV} (h : p.ranged = true) : p.tree.ok ∧ (∀ d, 4 ≤ d → p.tree.right d = true) ∧ p.tree.size ≤ 4000 ∧ p.tree.bytes = p.bytes := by
  have hr := PV.ranged_spec h
  have hk : p.crc.toNat ≤ 2 := by omega
  obtain ⟨a, b, c⟩ := priT_all h hk (sum := priSum p p.crc.toNat) (by rw [priSum_length p hk]; omega)
  exact ⟨a, b, c, priT_bytes _ _ _⟩
theorem PV.bytes_length {p : PV} (h : p.ranged = true) : p.bytes.length ≤ 40000 := by
  obtain ⟨_, _, c, d⟩ := PV.tree_all h
  rw [← d]
  have := T.bytes_le p.tree
  omega
theorem psum_any (p : PV) (h : p.ranged = true) (k : Nat) (hc : p.crc = (k : Int)) (N : Nat) (A : Option Addr) (c : Nat) (w : World) (hN : N ≤ w.heap.size) (hl : IsL w (fun b => N ≤ b) (priT p k (List.replicate (2 * k) 0)) A) :
    Calls Try.prog 53 #[.int .i64 (k : Int), itemV (priT p k (List.replicate (2 * k) 0)) A c] w (fun e w' => ∃ A c, e = .returned (itemV p.tree A c) ∧ Ext w w' ∧ IsL w' (fun b => N ≤ b) p.tree A) := by
  have hr := PV.ranged_spec h
  have hk : k ≤ 2 := by omega
  have ht : p.crc.toNat = k := by omega
  unfold PV.tree
  rw [ht]
  by_cases h0 : k = 0
  · subst h0
    have e : priT p 0 (priSum p 0) = priT p 0 (List.replicate (2 * 0) 0) := rfl
    rw [e]
    exact (psummed_0 _ A c w).mono fun x w' ⟨hx, hm⟩ => ⟨A, c, hx, hm, hl.ext hm⟩
  · obtain ⟨a, b, cc⟩ := priT_all h hk (sum := List.replicate (2 * k) 0) (by simp; omega)
    have hb : (priT p k (List.replicate (2 * k) 0)).bytes.length < 1000000 := by have := T.bytes_le (priT p k (List.replicate (2 * k) 0)); omega
    have hb2 : (priT p k (List.replicate (2 * k) 0)).bytes = priB p k (List.replicate (2 * k) 0) := priT_bytes _ _ _
    have hs : priSum p k = Crc.sumL k (priB p k (List.replicate (2 * k) 0)) := by unfold priSum; rw [if_neg h0]
    rw [hs, ← hb2]
    unfold priT at a b cc hb hl ⊢
    rw [priL_last p h0] at a b cc hb hl ⊢
    rw [priL_last p h0 (Crc.sumL _ _)]
    refine psummed_any _ _ k (by omega) hk ?_ a (by omega) (b 8 (by omega)) hb N A c w hN hl
    split <;> simp
set_option maxRecDepth 20000 in
set_option maxHeartbeats 800000 in
theorem cPriItem_bad (p : PV) (hnl : Hid (p.d.name.length < 4611686018427387904 ∧ p.s.name.length < 4611686018427387904 ∧ p.r.name.length < 4611686018427387904)) (hf : p.fl < 18446744073709551616) (hb : p.right ≠ 0) (w : World) : Calls Try.prog 27 #[.agg p.c] w (Ret (.tuple #[itemV (numT 0) none 0, .int .i64 p.right]) w) := by
  have KR := hid (fun W => cPriRight_any p hnl hf W)
  generalize p.right = r at *
  have r1 : (r == 0) = false := by simpa using hb
  have r2 : (r = 0) = False := by simpa using hb
  have r3 : (r != 0) = true := by simpa using hb
  have HE := hid (((Mod.refl [] w).alloc (.cells p.c 26)).alloc (.cells #[.int .i64 0, .int .u64 0, .string ⟨#[]⟩, .slice none 0 0, .bool false] 48))
  have HB := hid ((Blk.new w 26 p.c).alloc (.cells #[.int .i64 0, .int .u64 0, .string ⟨#[]⟩, .slice none 0 0, .bool false] 48))
  have HR : Hid (Blk ((w.alloc (.cells p.c 26)).alloc (.cells #[.int .i64 0, .int .u64 0, .string ⟨#[]⟩, .slice none 0 0, .bool false] 48)) (w.heap.size + 1) 48 (itemC (numT 0) none 0)) := Blk.newL _ _ _ (by simp)
  clear hb hf
  go_enter Try.func27, Try.ntmps27
  go_upto_region 1 with fail
  generalize (w.alloc (.cells p.c 26)).alloc (.cells #[.int .i64 0, .int .u64 0, .string ⟨#[]⟩, .slice none 0 0, .bool false] 48) = V at *
  have HBL : Hid (∀ e : Later V, Blk e.x w.heap.size 26 p.c) := fun e => HB.out.later e
  obtain ⟨e, he⟩ := Later.self V
  rw [he]
  clear he
  go_wp2_with (first | (refine wpList_row (by rfl) 26 _ rfl _ rfl (HBL.out _) Try.underlying26 rfl (by kernel_rfl) ?_) | (go_at_call 44; refine (Ret.later (KR.out _)).mono ?_; rintro x _ ⟨rfl, e, rfl⟩; obtain ⟨c0, c1, c2, c3, c4⟩ := cells5 (HR.out.later e); have f0 := (HR.out.later e).frozen 0; have f1 := (HR.out.later e).frozen 1; have f2 := (HR.out.later e).frozen 2; have f3 := (HR.out.later e).frozen 3; have f4 := (HR.out.later e).frozen 4))
  obtain ⟨d0, d1, d2, d3, d4⟩ := cells5 (set5_blk (t := numT 0) (A := none) (c := 0) (HR.out.later e))
  clear c0 c1 c2 c3 c4 f0 f1 f2 f3 f4
  show bodyPost _ _ _ _ _ (set5 e.x (w.heap.size + 1) (numT 0) none 0)
  refine bodyPost_ret (v := .tuple #[itemV (numT 0) none 0, .int .i64 r]) (by simp [results, Try.results27, go_sem, d0, d1, d2, d3, d4]) rfl (Ret.mk rfl (set5_mod (HE.out.trans e.h) (by omega)))
set_option maxRecDepth 20000 in
set_option maxHeartbeats 800000 in
theorem cPriItem_ok (p : PV) (hnl : Hid (p.d.name.length < 4611686018427387904 ∧ p.s.name.length < 4611686018427387904 ∧ p.r.name.length < 4611686018427387904)) (hf : p.fl < 18446744073709551616) (hb : p.right = 0) (w : World) : Calls Try.prog 27 #[.agg p.c] w (fun e w' => ∃ A c, e = .returned (.tuple #[itemV p.tree A c, .int .i64 0]) ∧ Ext w w' ∧ IsL w' (fun b => w.heap.size ≤ b) p.tree A) := by
  have KR := hid (fun W => cPriRight_any p hnl hf W)
  have hr := PV.right_ranged hb
  have hrs := PV.ranged_spec hr
  rw [hb] at KR
  obtain ⟨k, hc⟩ := Int.eq_ofNat_of_zero_le hrs.2.2.2.1
  have hk : k ≤ 2 := by omega
  have KP := hid (fun W => parts_any p k hc hk hr (List.replicate (2 * k) 0) W)
  have KZ : Hid (∀ W, Calls Try.prog 56 #[.int .i64 p.crc] W (Ret (.int .i64 (2 * (k : Int))) W)) := fun W => by rw [hc]; have := Size_any k hk W; simpa using this
  have KT : Hid (∀ W, Calls Try.prog 51 #[.string ⟨#[0]⟩, .int .i64 (2 * (k : Int))] W (Ret (str (List.replicate (2 * k) 0)) W)) := fun W => by have := Repeat_zero (2 * k) (by omega) W; simpa using this
  have KS : Hid (∀ N A c W, N ≤ W.heap.size → IsL W (fun b => N ≤ b) (priT p k (List.replicate (2 * k) 0)) A → Calls Try.prog 53 #[.int .i64 p.crc, itemV (priT p k (List.replicate (2 * k) 0)) A c] W (fun e w' => ∃ A c, e = .returned (itemV p.tree A c) ∧ Ext W w' ∧ IsL w' (fun b => N ≤ b) p.tree A)) := fun N A c W h1 h2 => by rw [hc]; exact psum_any p hr k hc N A c W h1 h2
  generalize List.replicate (2 * k) (0 : UInt8) = Z at *
  generalize priT p k Z = Y at *
  have k0 : (0 : Int) ≤ (k : Int) := by omega
  have k1 : (k : Int) ≤ 2 := by omega
  have HC := hid hc
  have HE := hid (((Mod.refl [] w).alloc (.cells p.c 26)).alloc (.cells #[.int .i64 0, .int .u64 0, .string ⟨#[]⟩, .slice none 0 0, .bool false] 48))
  have HB := hid ((Blk.new w 26 p.c).alloc (.cells #[.int .i64 0, .int .u64 0, .string ⟨#[]⟩, .slice none 0 0, .bool false] 48))
  have HR : Hid (Blk ((w.alloc (.cells p.c 26)).alloc (.cells #[.int .i64 0, .int .u64 0, .string ⟨#[]⟩, .slice none 0 0, .bool false] 48)) (w.heap.size + 1) 48 (itemC (numT 0) none 0)) := Blk.newL _ _ _ (by simp)
  clear hf hb hr hrs hc hk
  go_enter Try.func27, Try.ntmps27
  go_upto_region 1 with fail
  generalize (w.alloc (.cells p.c 26)).alloc (.cells #[.int .i64 0, .int .u64 0, .string ⟨#[]⟩, .slice none 0 0, .bool false] 48) = V at *
  have HBL : Hid (∀ e : Later V, Blk e.x w.heap.size 26 p.c) := fun e => HB.out.later e
  have HVS : Hid (w.heap.size + 2 ≤ V.heap.size) := Nat.succ_le_of_lt HR.out.lt
  obtain ⟨e, he⟩ := Later.self V
  rw [he]
  clear he
  go_upto_region 4 with (first | (refine wpList_row (by rfl) 26 _ rfl _ rfl (HBL.out _) Try.underlying26 rfl (by kernel_rfl) ?_) | (go_at_call 44; refine (Ret.later (KR.out _)).mono ?_; rintro x _ ⟨rfl, e, rfl⟩))
  have HS : Hid (∀ W, Mod [w.heap.size + 1] V W → W.cell? ⟨w.heap.size, 1, none⟩ = some (.int .i64 p.crc)) := fun W hW => (HB.out.mod hW (by simp)).cell 1
  have HRow : Hid (∀ W, Mod [w.heap.size + 1] V W → Blk W w.heap.size 26 p.c) := fun W hW => HB.out.mod hW (by simp)
  have g2 : max ((2 : Int) * (k : Int)) 0 = (2 * k : Int) := by omega
  refine wp_region_held_drew (S := fun w' => Mod [w.heap.size + 1] V w' ∧ ∃ t A c, Blk w' (w.heap.size + 1) 48 (itemC t A c)) (by kernel_rfl) ⟨((Later.h e).of_ext).drew, _, _, _, (HR.out.later e).drew⟩ (fun hHeld => ?_)
  refine' wpAnyH_take (i := 0) (v := _) rfl (by kernel_rfl) (by kernel_rfl) (by kernel_rfl) (fun _ _ _ h => h) (Or.inl ⟨by rfl, ?hy⟩) hHeld ?rest
  case hy => (rintro W ⟨hM, _⟩; go_simp; (try with_reducible rfl))
  case rest =>
  (try simp only [Act.put, List.setIfInBounds_toArray, List.set_cons_zero, List.set_cons_succ])
  refine' wpAnyH_take (i := 1) (v := _) rfl (by kernel_rfl) (by kernel_rfl) (by kernel_rfl) (fun _ _ _ h => h) (Or.inl ⟨by rfl, ?hy⟩) hHeld ?rest
  case hy => (rintro W ⟨hM, _⟩; have x1 := HS.out W hM; go_simp; (try with_reducible rfl))
  case rest =>
  (try simp only [Act.put, List.setIfInBounds_toArray, List.set_cons_zero, List.set_cons_succ])
  refine wpAnyH_take (i := 2) rfl (by kernel_rfl) (by kernel_rfl) (by kernel_rfl) (fun _ _ _ h => h) (yieldsIf_row (by rfl) 26 _ rfl _ rfl (fun W h => HRow.out W h.1) Try.underlying26 rfl (by kernel_rfl)) hHeld ?_
  (try simp only [Act.put, List.setIfInBounds_toArray, List.set_cons_zero, List.set_cons_succ])
  refine' wpAnyH_take (i := 3) (v := _) rfl (by kernel_rfl) (by kernel_rfl) (by kernel_rfl) (fun _ _ _ h => h) (Or.inl ⟨by rfl, ?hy⟩) hHeld ?rest
  case hy => (rintro W ⟨hM, _⟩; go_simp; (try with_reducible rfl))
  case rest =>
  (try simp only [Act.put, List.setIfInBounds_toArray, List.set_cons_zero, List.set_cons_succ])
  refine' wpAnyH_take (i := 4) (v := _) rfl (by kernel_rfl) (by kernel_rfl) (by kernel_rfl) (fun _ _ _ h => h) (Or.inl ⟨by rfl, ?hy⟩) hHeld ?rest
  case hy => (rintro W ⟨hM, _⟩; have x1 := HS.out W hM; go_simp; (try with_reducible rfl))
  case rest =>
  (try simp only [Act.put, List.setIfInBounds_toArray, List.set_cons_zero, List.set_cons_succ])
  refine wpAnyH_ready (rs := [5]) (by kernel_rfl) (by simp) ?_
  refine AllReadyH.cons rfl (fun K hK => ?_) AllReadyH.nil
  go_simp
  (go_at_call 56; refine (KZ.out _).mono ?_; rintro x w1 ⟨rfl, hb3⟩)
  refine hK.out _ _ ⟨hHeld.1.trans (Mod.of_ext hb3), let ⟨t, A, c, hb⟩ := hHeld.2; ⟨t, A, c, hb.ext hb3⟩⟩ (fun hHeld => ?_)
  clear hK K
  (try simp only [Act.put, List.setIfInBounds_toArray, List.set_cons_zero, List.set_cons_succ])
  refine' wpAnyH_take (i := 6) (v := _) rfl (by kernel_rfl) (by kernel_rfl) (by kernel_rfl) (fun _ _ _ h => h) (Or.inl ⟨by rfl, ?hy⟩) hHeld ?rest
  case hy => (rintro W ⟨hM, _⟩; go_simp; (try with_reducible rfl))
  case rest =>
  (try simp only [Act.put, List.setIfInBounds_toArray, List.set_cons_zero, List.set_cons_succ])
  refine wpAnyH_ready (rs := [7]) (by kernel_rfl) (by simp) ?_
  refine AllReadyH.cons rfl (fun K hK => ?_) AllReadyH.nil
  go_simp
  (go_at_call 51; refine (KT.out _).mono ?_; rintro x w2 ⟨rfl, hb3⟩)
  refine hK.out _ _ ⟨hHeld.1.trans (Mod.of_ext hb3), let ⟨t, A, c, hb⟩ := hHeld.2; ⟨t, A, c, hb.ext hb3⟩⟩ (fun hHeld => ?_)
  clear hK K
  (try simp only [Act.put, List.setIfInBounds_toArray, List.set_cons_zero, List.set_cons_succ])
  refine wpAnyH_ready (rs := [8]) (by kernel_rfl) (by simp) ?_
  refine AllReadyH.cons rfl (fun K hK => ?_) AllReadyH.nil
  go_simp
  (go_at_call 55; refine (KP.out _).mono ?_; rintro x w3 ⟨A, c, rfl, hb3, hl3⟩; have HL3 := hid hl3; have HN3 : Hid (w.heap.size + 2 ≤ w2.heap.size) := Nat.le_trans HVS.out hHeld.1.size)
  refine hK.out _ _ ⟨hHeld.1.trans (Mod.of_ext hb3), let ⟨t, A, c, hb⟩ := hHeld.2; ⟨t, A, c, hb.ext hb3⟩⟩ (fun hHeld => ?_)
  clear hK K
  (try simp only [Act.put, List.setIfInBounds_toArray, List.set_cons_zero, List.set_cons_succ])
  refine wpAnyH_ready (rs := [9]) (by kernel_rfl) (by simp) ?_
  refine AllReadyH.cons rfl (fun K hK => ?_) AllReadyH.nil
  go_simp
  (go_at_call 53; refine (KS.out (w.heap.size + 2) _ _ _ (Nat.le_trans HN3.out hb3.size) (IsL.weak (fun b _ hb => Nat.le_trans HN3.out hb) _ HL3.out)).mono ?_; rintro x w4 ⟨A2, c2, rfl, hb4, hl4⟩; have HL4 := hid hl4)
  refine hK.out _ _ ⟨hHeld.1.trans (Mod.of_ext hb4), let ⟨t, A, c, hb⟩ := hHeld.2; ⟨t, A, c, hb.ext hb4⟩⟩ (fun hHeld => ?_)
  clear hK K
  (try simp only [Act.put, List.setIfInBounds_toArray, List.set_cons_zero, List.set_cons_succ])
  refine wpAnyH_ready (rs := [10]) (by kernel_rfl) (by simp) ?_
  refine AllReadyH.cons rfl (fun K hK => ?_) AllReadyH.nil
  obtain ⟨t0, A0, c0, hb0⟩ := hHeld.2
  obtain ⟨q0, q1, q2, q3, q4⟩ := cells5 hb0
  have f0 := hb0.frozen 0
  have f1 := hb0.frozen 1
  have f2 := hb0.frozen 2
  have f3 := hb0.frozen 3
  have f4 := hb0.frozen 4
  go_simp
  refine hK.out _ _ ⟨set5_modR hHeld.1, p.tree, A2, c2, set5_blk hb0⟩ (fun hHeld => ?_)
  clear hK K
  (try simp only [Act.put, List.setIfInBounds_toArray, List.set_cons_zero, List.set_cons_succ])
  refine wpAnyH_ready (rs := [11]) (by kernel_rfl) (by simp) ?_
  refine AllReadyH.cons rfl (fun K hK => ?_) AllReadyH.nil
  go_simp
  refine hK.out _ _ hHeld (fun hHeld => ?_)
  clear hK K
  (try simp only [Act.put, List.setIfInBounds_toArray, List.set_cons_zero, List.set_cons_succ])
  refine wpAnyH_done (by kernel_rfl) ?_ _
  go_wp2_with fail
  obtain ⟨d0, d1, d2, d3, d4⟩ := cells5 (set5_blk (t := p.tree) (A := A2) (c := c2) hb0)
  clear q0 q1 q2 q3 q4 f0 f1 f2 f3 f4
  show bodyPost _ _ _ _ _ (set5 w4 (w.heap.size + 1) p.tree A2 c2)
  refine bodyPost_ret (v := .tuple #[itemV p.tree A2 c2, .int .i64 0]) (by simp [results, Try.results27, go_sem, d0, d1, d2, d3, d4]) rfl ⟨A2, c2, rfl, (HE.out.of_ext.trans hHeld.1).new (fun b hb => .inr (by rw [List.mem_singleton] at hb; omega)), ?_⟩
  exact IsL.weak (fun _ _ h => by have : w.heap.size + 2 ≤ _ := h; omega) _ (IsL.mod (Q := fun b => w.heap.size + 2 ≤ b) set5_modb (fun b hb _ hs => by rw [List.mem_singleton] at hs; have : w.heap.size + 2 ≤ b := hb; omega) _ HL4.out)
set_option maxRecDepth 20000 in
theorem cPriBuild_bad (p : PV) (hnl : Hid (p.d.name.length < 4611686018427387904 ∧ p.s.name.length < 4611686018427387904 ∧ p.r.name.length < 4611686018427387904)) (hf : p.fl < 18446744073709551616) (hb : p.right ≠ 0) (w : World) : Calls Try.prog 25 #[.agg p.c] w (Ret (.tuple #[str [], .int .i64 p.right]) w) := by
  have KI := hid (fun W => cPriItem_bad p hnl hf hb W)
  generalize p.right = r at *
  have r1 : (r == 0) = false := by simpa using hb
  have r2 : (r = 0) = False := by simpa using hb
  have r3 : (r != 0) = true := by simpa using hb
  have HE := hid ((Mod.refl [] w).alloc (.cells p.c 26))
  have HB := hid (Blk.new w 26 p.c)
  clear hb hf
  go_enter Try.func25, Try.ntmps25
  go_upto_region 1 with fail
  generalize w.alloc (.cells p.c 26) = V at *
  have HBL : Hid (∀ e : Later V, Blk e.x w.heap.size 26 p.c) := fun e => HB.out.later e
  obtain ⟨e, he⟩ := Later.self V
  rw [he]
  clear he
  go_wp2_with (first | (refine wpList_row (by rfl) 26 _ rfl _ rfl (HBL.out _) Try.underlying26 rfl (by kernel_rfl) ?_) | (go_at_call 27; refine (Ret.later (KI.out _)).mono ?_; rintro x _ ⟨rfl, e, rfl⟩))
  go_ret2
  exact Ret.mk rfl (HE.out.trans ((Later.h e).alloc _))
set_option maxRecDepth 20000 in
theorem cPriBuild_ok (p : PV) (hnl : Hid (p.d.name.length < 4611686018427387904 ∧ p.s.name.length < 4611686018427387904 ∧ p.r.name.length < 4611686018427387904)) (hf : p.fl < 18446744073709551616) (hb : p.right = 0) (w : World) : Calls Try.prog 25 #[.agg p.c] w (Ret (.tuple #[str p.bytes, .int .i64 0]) w) := by
  have KI := hid (fun W => cPriItem_ok p hnl hf hb W)
  obtain ⟨t1, t2, t3, t4⟩ := PV.tree_all (PV.right_ranged hb)
  have KB : Hid (∀ A c W, IsL W (fun _ => True) p.tree A → Calls Try.prog 40 #[itemV p.tree A c] W (Ret (.tuple #[str p.bytes, .int .i64 0]) W)) := fun A c W hW => by
    have := iBuild_any p.tree t1 (by omega) A c W hW
    unfold buildV at this
    rwa [if_pos (t2 8 (by omega)), t4] at this
  generalize p.tree = Y at *
  generalize p.bytes = B at *
  have HE := hid ((Mod.refl [] w).alloc (.cells p.c 26))
  have HB := hid (Blk.new w 26 p.c)
  clear hb hf t1 t2 t3 t4
  go_enter Try.func25, Try.ntmps25
  go_upto_region 1 with fail
  generalize w.alloc (.cells p.c 26) = V at *
  have HBL : Hid (∀ e : Later V, Blk e.x w.heap.size 26 p.c) := fun e => HB.out.later e
  obtain ⟨e, he⟩ := Later.self V
  rw [he]
  clear he
  go_upto_region 2 with (first | (refine wpList_row (by rfl) 26 _ rfl _ rfl (HBL.out _) Try.underlying26 rfl (by kernel_rfl) ?_) | (go_at_call 27; refine (KI.out _).mono ?_; rintro x w1 ⟨A, c, rfl, hb1, hl1⟩))
  have HL1 := hid (IsL.ext (IsL.weak (R := fun _ => True) (fun _ _ _ => trivial) _ hl1) ((Mod.refl [] w1).alloc (.cells (itemC Y A c) 48)))
  have HX1 := hid (Blk.new w1 48 (itemC Y A c))
  have HE1 := hid ((HE.out.trans (e.h.trans hb1)).alloc (.cells (itemC Y A c) 48))
  obtain ⟨q0, q1, q2, q3, q4⟩ := cells5 HX1.out
  clear hb1 hl1
  go_wp2_with (go_at_call 40; refine (KB.out _ _ _ HL1.out).mono ?_; rintro x w2 ⟨rfl, hb2⟩)
  go_ret2
  exact Ret.mk rfl (HE1.out.trans hb2)
def PV.plain (p : PV) : PV := { p with crc := 0 }
theorem PV.plain_right {p : PV} (h : p.right = 0) : p.plain.right = 0 := by
  have hr := PV.right_ranged h
  have hr2 : p.plain.ranged = true := by
    have := PV.ranged_spec hr
    unfold PV.plain PV.ranged
    rw [this.1, this.2.1, this.2.2.1]
    simp; omega
  unfold PV.right at h ⊢
  rw [if_neg (by rw [hr]; decide)] at h
  rw [if_neg (by rw [hr2]; decide)]
  exact h
set_option maxRecDepth 20000 in
theorem cPriPlain_bad (p : PV) (hnl : Hid (p.d.name.length < 4611686018427387904 ∧ p.s.name.length < 4611686018427387904 ∧ p.r.name.length < 4611686018427387904)) (hf : p.fl < 18446744073709551616) (hb : p.right ≠ 0) (w : World) : Calls Try.prog 28 #[.agg p.c] w (Ret (.tuple #[str [], .int .i64 p.right]) w) := by
  have KR := hid (fun W => cPriRight_any p hnl hf W)
  generalize p.right = r at *
  have r1 : (r == 0) = false := by simpa using hb
  have r2 : (r = 0) = False := by simpa using hb
  have r3 : (r != 0) = true := by simpa using hb
  have HE := hid ((Mod.refl [] w).alloc (.cells p.c 26))
  have HB := hid (Blk.new w 26 p.c)
  clear hb hf
  go_enter Try.func28, Try.ntmps28
  go_upto_region 1 with fail
  generalize w.alloc (.cells p.c 26) = V at *
  have HBL : Hid (∀ e : Later V, Blk e.x w.heap.size 26 p.c) := fun e => HB.out.later e
  obtain ⟨e, he⟩ := Later.self V
  rw [he]
  clear he
  go_wp2_with (first | (refine wpList_row (by rfl) 26 _ rfl _ rfl (HBL.out _) Try.underlying26 rfl (by kernel_rfl) ?_) | (go_at_call 44; refine (Ret.later (KR.out _)).mono ?_; rintro x _ ⟨rfl, e, rfl⟩))
  go_ret2
  exact Ret.mk rfl (HE.out.trans e.h)
set_option maxRecDepth 20000 in
theorem cPriPlain_ok (p : PV) (hnl : Hid (p.d.name.length < 4611686018427387904 ∧ p.s.name.length < 4611686018427387904 ∧ p.r.name.length < 4611686018427387904)) (hf : p.fl < 18446744073709551616) (hb : p.right = 0) (w : World) : Calls Try.prog 28 #[.agg p.c] w (Ret (.tuple #[str p.plain.bytes, .int .i64 0]) w) := by
  have KR := hid (fun W => cPriRight_any p hnl hf W)
  have KB := hid (fun W => cPriBuild_ok p.plain hnl hf (PV.plain_right hb) W)
  rw [hb] at KR
  generalize p.plain.bytes = B at *
  have HE := hid ((Mod.refl [] w).alloc (.cells p.c 26))
  have HB := hid (Blk.new w 26 p.c)
  clear hb hf
  go_enter Try.func28, Try.ntmps28
  go_upto_region 1 with fail
  generalize w.alloc (.cells p.c 26) = V at *
  have HBL : Hid (∀ e : Later V, Blk e.x w.heap.size 26 p.c) := fun e => HB.out.later e
  have x1 : ∀ e : Later V, e.x.cell? ⟨w.heap.size, 1, none⟩ = some (.int .i64 p.crc) := HB.out.cellL 1 rfl
  have z1 : ∀ e : Later V, e.x.frozen? ⟨w.heap.size, 1, none⟩ = false := fun e => (HB.out.later e).frozen 1
  obtain ⟨e, he⟩ := Later.self V
  rw [he]
  clear he
  go_upto_region 5 with (first | (refine wpList_row (by rfl) 26 _ rfl _ rfl (HBL.out _) Try.underlying26 rfl (by kernel_rfl) ?_) | (go_at_call 44; refine (Ret.later (KR.out _)).mono ?_; rintro x _ ⟨rfl, e, rfl⟩))
  have HE2 : Hid (Ext w (e.x.setCell ⟨w.heap.size, 1, none⟩ (.int .i64 0))) := (HE.out.trans e.h).setCell (.inr (Nat.le_refl _)) _
  have HX2 : Hid (Blk (e.x.setCell ⟨w.heap.size, 1, none⟩ (.int .i64 0)) w.heap.size 26 p.plain.c) := (HB.out.later e).set_ 1 (.int .i64 0)
  generalize e.x.setCell ⟨w.heap.size, 1, none⟩ (.int .i64 0) = V2 at *
  go_wp2_with (first | (refine wpList_row (by rfl) 26 _ rfl _ rfl HX2.out Try.underlying26 rfl (by kernel_rfl) ?_) | (go_at_call 25; refine (KB.out _).mono ?_; rintro x w2 ⟨rfl, hb2⟩))
  go_ret2
  exact Ret.mk rfl (HE2.out.trans hb2)
end Go.Proofs.Ytkeabdfgacicaaa


namespace Go.Proofs.Ytkeabdfgacicaaa
open Go.RowKit
set_option linter.unusedVariables false
set_option linter.unusedSimpArgs false

set_option maxRecDepth 20000 in
theorem r11Count_any (p : PV) (hf : p.fl < 18446744073709551616) (k : Nat) (hk : k ≤ 2) (w : World) : Calls Try.prog 135 #[.int .u64 (p.fl : Int), .int .u64 (k : Int)] w (Ret (.int .i64 ((priN p k : Nat) : Int)) w) := by
  have h3 : k = 0 ∨ k = 1 ∨ k = 2 := by omega
  cases hh : has p.fl 1 <;> rcases h3 with rfl | rfl | rfl
  · have hx : ¬ p.fl % 2 = 1 := by simpa [has] using hh
    have KH : Hid (∀ W, Calls Try.prog 47 #[.int .u64 (p.fl : Int), .int .i64 1] W (Ret (.bool false) W)) := fun W => by have := Has_any p.fl 1 hf (by omega) (by omega) W; rw [hh] at this; exact this
    have HN : Hid (priN p 0 = 8) := by unfold Hid priN; simp [hx]
    clear hh hx hf
    go_enter Try.func135, Try.ntmps135
    go_wp2_with (go_at_call 47; refine (KH.out _).mono ?_; rintro x w1 ⟨rfl, hb1⟩)
    go_ret
    exact Ret.mk (by rw [HN.out]; rfl) hb1
  · have hx : ¬ p.fl % 2 = 1 := by simpa [has] using hh
    have KH : Hid (∀ W, Calls Try.prog 47 #[.int .u64 (p.fl : Int), .int .i64 1] W (Ret (.bool false) W)) := fun W => by have := Has_any p.fl 1 hf (by omega) (by omega) W; rw [hh] at this; exact this
    have HN : Hid (priN p 1 = 9) := by unfold Hid priN; simp [hx]
    clear hh hx hf
    go_enter Try.func135, Try.ntmps135
    go_wp2_with (go_at_call 47; refine (KH.out _).mono ?_; rintro x w1 ⟨rfl, hb1⟩)
    go_ret
    exact Ret.mk (by rw [HN.out]; rfl) hb1
  · have hx : ¬ p.fl % 2 = 1 := by simpa [has] using hh
    have KH : Hid (∀ W, Calls Try.prog 47 #[.int .u64 (p.fl : Int), .int .i64 1] W (Ret (.bool false) W)) := fun W => by have := Has_any p.fl 1 hf (by omega) (by omega) W; rw [hh] at this; exact this
    have HN : Hid (priN p 2 = 9) := by unfold Hid priN; simp [hx]
    clear hh hx hf
    go_enter Try.func135, Try.ntmps135
    go_wp2_with (go_at_call 47; refine (KH.out _).mono ?_; rintro x w1 ⟨rfl, hb1⟩)
    go_ret
    exact Ret.mk (by rw [HN.out]; rfl) hb1
  · have hx : p.fl % 2 = 1 := by simpa [has] using hh
    have KH : Hid (∀ W, Calls Try.prog 47 #[.int .u64 (p.fl : Int), .int .i64 1] W (Ret (.bool true) W)) := fun W => by have := Has_any p.fl 1 hf (by omega) (by omega) W; rw [hh] at this; exact this
    have HN : Hid (priN p 0 = 10) := by unfold Hid priN; simp [hx]
    clear hh hx hf
    go_enter Try.func135, Try.ntmps135
    go_wp2_with (go_at_call 47; refine (KH.out _).mono ?_; rintro x w1 ⟨rfl, hb1⟩)
    go_ret
    exact Ret.mk (by rw [HN.out]; rfl) hb1
  · have hx : p.fl % 2 = 1 := by simpa [has] using hh
    have KH : Hid (∀ W, Calls Try.prog 47 #[.int .u64 (p.fl : Int), .int .i64 1] W (Ret (.bool true) W)) := fun W => by have := Has_any p.fl 1 hf (by omega) (by omega) W; rw [hh] at this; exact this
    have HN : Hid (priN p 1 = 11) := by unfold Hid priN; simp [hx]
    clear hh hx hf
    go_enter Try.func135, Try.ntmps135
    go_wp2_with (go_at_call 47; refine (KH.out _).mono ?_; rintro x w1 ⟨rfl, hb1⟩)
    go_ret
    exact Ret.mk (by rw [HN.out]; rfl) hb1
  · have hx : p.fl % 2 = 1 := by simpa [has] using hh
    have KH : Hid (∀ W, Calls Try.prog 47 #[.int .u64 (p.fl : Int), .int .i64 1] W (Ret (.bool true) W)) := fun W => by have := Has_any p.fl 1 hf (by omega) (by omega) W; rw [hh] at this; exact this
    have HN : Hid (priN p 2 = 11) := by unfold Hid priN; simp [hx]
    clear hh hx hf
    go_enter Try.func135, Try.ntmps135
    go_wp2_with (go_at_call 47; refine (KH.out _).mono ?_; rintro x w1 ⟨rfl, hb1⟩)
    go_ret
    exact Ret.mk (by rw [HN.out]; rfl) hb1
theorem rBytesE (E : EV) (hE : E.ok = true) (B : Option Addr) (W : World) (hW : IsL W (fun _ => True) (eidT E) B) : Calls Try.prog 136 #[itemV (eidT E) B 2] W (Ret (str (eidT E).bytes) W) := rBytesI_any _ (eidT_ok hE).1 (eidT_ok hE).2.2.1 (eidT_ok hE).2.2.2 B 2 W hW
theorem eidT_len {e : EV} (ho : e.ok = true) : (eidT e).bytes.length ≤ 10000 := by
  have a := T.bytes_le (eidT e)
  have b := eidT_small ho
  omega
set_option maxRecDepth 20000 in
set_option maxHeartbeats 2000000 in
theorem r11bytes_any (p : PV) (h : p.ranged = true) (k : Nat) (hk : k ≤ 2) (sum : List UInt8) (hs : sum.length ≤ 90) (w : World) : Calls Try.prog 123 #[.agg p.c, .int .u64 (k : Int), str sum] w (Ret (str (priB p k sum)) w) := by
  obtain ⟨e1, e2, e3, c0, c1, f0, t0, q0, l0, o0, n0⟩ := PV.ranged_spec h
  have KC := hid (fun W => r11Count_any p (by omega) k hk W)
  have HX : Hid (priB p k sum = headL 4 (priN p k) ++ (headL 0 7 ++ (headL 0 p.fl ++ (headL 0 k ++ ((eidT p.d).bytes ++ ((eidT p.s).bytes ++ ((eidT p.r).bytes ++ (headL 4 2 ++ (headL 0 p.t ++ (headL 0 p.q ++ (headL 0 p.l ++ ((if p.fl % 2 = 1 then headL 0 p.o ++ headL 0 p.n else []) ++ (if k = 0 then [] else headL 2 sum.length ++ sum))))))))))))) := rfl
  have ID := hid (fun W => r10Item_ok p.d e1 W)
  have IS := hid (fun W => r10Item_ok p.s e2 W)
  have IR := hid (fun W => r10Item_ok p.r e3 W)
  have YD := hid (fun B W hW => rBytesE p.d e1 B W hW)
  have YS := hid (fun B W hW => rBytesE p.s e2 B W hW)
  have YR := hid (fun B W hW => rBytesE p.r e3 B W hW)
  have lD := eidT_len e1
  have lS := eidT_len e2
  have lR := eidT_len e3
  have hN : priN p k ≤ 11 := by unfold priN; split <;> split <;> omega
  have KSUM := hid (fun W => rBytes_any sum (by unfold Hid; omega) W)
  have lU := headL_le 2 sum.length
  have lU2 : (headL 2 sum.length ++ sum).length ≤ 200 := by rw [List.length_append]; omega
  have KHas : Hid (∀ W, Calls Try.prog 47 #[.int .u64 (p.fl : Int), .int .i64 1] W (Ret (.bool (has p.fl 1)) W)) := fun W => Has_any p.fl 1 (by omega) (by omega) (by omega) W
  generalize hgN : priN p k = N at *
  clear hgN
  have tN : IntKind.u64.wrap (N : Int) = (N : Int) := IntWalk.u64_in _ (by omega)
  have KN : Hid (∀ W, Calls Try.prog 101 #[.int .i64 4, .int .u64 (N : Int)] W (Ret (str (headL 4 N)) W)) := fun W => rHead_n 4 N (by omega) (by omega) W
  have KV : Hid (∀ W, Calls Try.prog 101 #[.int .i64 0, .int .u64 7] W (Ret (str (headL 0 7)) W)) := fun W => rHead_n 0 7 (by omega) (by omega) W
  have KF : Hid (∀ W, Calls Try.prog 101 #[.int .i64 0, .int .u64 (p.fl : Int)] W (Ret (str (headL 0 p.fl)) W)) := fun W => rHead_n 0 p.fl (by omega) (by omega) W
  have KK : Hid (∀ W, Calls Try.prog 101 #[.int .i64 0, .int .u64 (k : Int)] W (Ret (str (headL 0 k)) W)) := fun W => rHead_n 0 k (by omega) (by omega) W
  have K2 : Hid (∀ W, Calls Try.prog 101 #[.int .i64 4, .int .u64 2] W (Ret (str (headL 4 2)) W)) := fun W => rHead_n 4 2 (by omega) (by omega) W
  have KT : Hid (∀ W, Calls Try.prog 101 #[.int .i64 0, .int .u64 (p.t : Int)] W (Ret (str (headL 0 p.t)) W)) := fun W => rHead_n 0 p.t (by omega) (by omega) W
  have KQ : Hid (∀ W, Calls Try.prog 101 #[.int .i64 0, .int .u64 (p.q : Int)] W (Ret (str (headL 0 p.q)) W)) := fun W => rHead_n 0 p.q (by omega) (by omega) W
  have KL : Hid (∀ W, Calls Try.prog 101 #[.int .i64 0, .int .u64 (p.l : Int)] W (Ret (str (headL 0 p.l)) W)) := fun W => rHead_n 0 p.l (by omega) (by omega) W
  have KO : Hid (∀ W, Calls Try.prog 101 #[.int .i64 0, .int .u64 (p.o : Int)] W (Ret (str (headL 0 p.o)) W)) := fun W => rHead_n 0 p.o (by omega) (by omega) W
  have KM : Hid (∀ W, Calls Try.prog 101 #[.int .i64 0, .int .u64 (p.n : Int)] W (Ret (str (headL 0 p.n)) W)) := fun W => rHead_n 0 p.n (by omega) (by omega) W
  have lN := headL_le 4 N
  generalize headL 4 N = BN at *
  have lV := headL_le 0 7
  generalize headL 0 7 = BV at *
  have lF := headL_le 0 p.fl
  generalize headL 0 p.fl = BF at *
  have lK := headL_le 0 k
  generalize headL 0 k = BK at *
  have l2 := headL_le 4 2
  generalize headL 4 2 = B2 at *
  have lT := headL_le 0 p.t
  generalize headL 0 p.t = BT at *
  have lQ := headL_le 0 p.q
  generalize headL 0 p.q = BQ at *
  have lL := headL_le 0 p.l
  generalize headL 0 p.l = BL at *
  have lO := headL_le 0 p.o
  generalize headL 0 p.o = BO at *
  have lM := headL_le 0 p.n
  generalize headL 0 p.n = BM at *
  generalize headL 2 sum.length ++ sum = BU at *
  generalize eidT p.d = TD at *
  generalize eidT p.s = TS at *
  generalize eidT p.r = TR at *
  generalize TD.bytes = BD at *
  generalize TS.bytes = BS at *
  generalize TR.bytes = BR at *
  have HE := hid ((Mod.refl [] w).alloc (.cells p.c 26))
  have HB := hid (Blk.new w 26 p.c)
  have HF0 := hid f0
  clear h e1 e2 e3 c0 c1 f0 t0 q0 l0 o0 n0 hN hs
  have hk2 := hid hk
  clear hk
  go_enter Try.func123, Try.ntmps123
  go_upto_region 1 with fail
  generalize w.alloc (.cells p.c 26) = V at *
  have x0 : ∀ e : Later V, e.x.cell? ⟨w.heap.size, 0, none⟩ = some (.int .u64 (p.fl : Int)) := HB.out.cellL 0 rfl
  have x2 : ∀ e : Later V, e.x.cell? ⟨w.heap.size, 2, none⟩ = some (.int .i64 p.d.sch) := HB.out.cellL 2 rfl
  have x3 : ∀ e : Later V, e.x.cell? ⟨w.heap.size, 3, none⟩ = some (str p.d.name) := HB.out.cellL 3 rfl
  have x4 : ∀ e : Later V, e.x.cell? ⟨w.heap.size, 4, none⟩ = some (.int .u64 (p.d.node : Int)) := HB.out.cellL 4 rfl
  have x5 : ∀ e : Later V, e.x.cell? ⟨w.heap.size, 5, none⟩ = some (.int .u64 (p.d.svc : Int)) := HB.out.cellL 5 rfl
  have x6 : ∀ e : Later V, e.x.cell? ⟨w.heap.size, 6, none⟩ = some (.int .i64 p.s.sch) := HB.out.cellL 6 rfl
  have x7 : ∀ e : Later V, e.x.cell? ⟨w.heap.size, 7, none⟩ = some (str p.s.name) := HB.out.cellL 7 rfl
  have x8 : ∀ e : Later V, e.x.cell? ⟨w.heap.size, 8, none⟩ = some (.int .u64 (p.s.node : Int)) := HB.out.cellL 8 rfl
  have x9 : ∀ e : Later V, e.x.cell? ⟨w.heap.size, 9, none⟩ = some (.int .u64 (p.s.svc : Int)) := HB.out.cellL 9 rfl
  have x10 : ∀ e : Later V, e.x.cell? ⟨w.heap.size, 10, none⟩ = some (.int .i64 p.r.sch) := HB.out.cellL 10 rfl
  have x11 : ∀ e : Later V, e.x.cell? ⟨w.heap.size, 11, none⟩ = some (str p.r.name) := HB.out.cellL 11 rfl
  have x12 : ∀ e : Later V, e.x.cell? ⟨w.heap.size, 12, none⟩ = some (.int .u64 (p.r.node : Int)) := HB.out.cellL 12 rfl
  have x13 : ∀ e : Later V, e.x.cell? ⟨w.heap.size, 13, none⟩ = some (.int .u64 (p.r.svc : Int)) := HB.out.cellL 13 rfl
  have x14 : ∀ e : Later V, e.x.cell? ⟨w.heap.size, 14, none⟩ = some (.int .u64 (p.t : Int)) := HB.out.cellL 14 rfl
  have x15 : ∀ e : Later V, e.x.cell? ⟨w.heap.size, 15, none⟩ = some (.int .u64 (p.q : Int)) := HB.out.cellL 15 rfl
  have x16 : ∀ e : Later V, e.x.cell? ⟨w.heap.size, 16, none⟩ = some (.int .u64 (p.l : Int)) := HB.out.cellL 16 rfl
  have x17 : ∀ e : Later V, e.x.cell? ⟨w.heap.size, 17, none⟩ = some (.int .u64 (p.o : Int)) := HB.out.cellL 17 rfl
  have x18 : ∀ e : Later V, e.x.cell? ⟨w.heap.size, 18, none⟩ = some (.int .u64 (p.n : Int)) := HB.out.cellL 18 rfl
  obtain ⟨e, he⟩ := Later.self V
  rw [he]
  clear he
  refine wp_region_later (by kernel_rfl) (by kernel_rfl) ?_
  repeat (first | (refine q_cat (by rfl) _ _ _ _ rfl _ _ rfl rfl (by (try simp only [List.length_append]); omega) ?_; (try simp only [Act.put, List.setIfInBounds_toArray, List.set_cons_zero, List.set_cons_succ])) | go_big_quiet_step ((first | (go_at_call 135; with_reducible exact Ret.later (KC.out _)) | (go_at_call 101; first | (with_reducible exact Ret.later (KN.out _)) | (with_reducible exact Ret.later (KV.out _)) | (with_reducible exact Ret.later (KF.out _)) | (with_reducible exact Ret.later (KK.out _)) | (with_reducible exact Ret.later (K2.out _)) | (with_reducible exact Ret.later (KT.out _)) | (with_reducible exact Ret.later (KQ.out _)) | (with_reducible exact Ret.later (KL.out _)) | (with_reducible exact Ret.later (KO.out _)) | (with_reducible exact Ret.later (KM.out _))))))
  refine wpQuiet_nil ?_
  rintro _ ⟨e, rfl⟩
  try simp only [List.append_assoc]
  have lg1 : (BN ++ (BV ++ (BF ++ BK))).length ≤ 100 := by simp only [List.length_append]; omega
  generalize hq1 : BN ++ (BV ++ (BF ++ BK)) = q1 at *
  have HQ1 := hid hq1
  clear hq1
  go_upto_region 2 with fail
  have HS2 : Hid (∀ W, Ext V W → W.cell? ⟨w.heap.size, 2, none⟩ = some (.int .i64 p.d.sch)) := fun W hW => (HB.out.ext hW).cell 2
  have HS3 : Hid (∀ W, Ext V W → W.cell? ⟨w.heap.size, 3, none⟩ = some (str p.d.name)) := fun W hW => (HB.out.ext hW).cell 3
  have HS4 : Hid (∀ W, Ext V W → W.cell? ⟨w.heap.size, 4, none⟩ = some (.int .u64 (p.d.node : Int))) := fun W hW => (HB.out.ext hW).cell 4
  have HS5 : Hid (∀ W, Ext V W → W.cell? ⟨w.heap.size, 5, none⟩ = some (.int .u64 (p.d.svc : Int))) := fun W hW => (HB.out.ext hW).cell 5
  have HS6 : Hid (∀ W, Ext V W → W.cell? ⟨w.heap.size, 6, none⟩ = some (.int .i64 p.s.sch)) := fun W hW => (HB.out.ext hW).cell 6
  have HS7 : Hid (∀ W, Ext V W → W.cell? ⟨w.heap.size, 7, none⟩ = some (str p.s.name)) := fun W hW => (HB.out.ext hW).cell 7
  have HS8 : Hid (∀ W, Ext V W → W.cell? ⟨w.heap.size, 8, none⟩ = some (.int .u64 (p.s.node : Int))) := fun W hW => (HB.out.ext hW).cell 8
  have HS9 : Hid (∀ W, Ext V W → W.cell? ⟨w.heap.size, 9, none⟩ = some (.int .u64 (p.s.svc : Int))) := fun W hW => (HB.out.ext hW).cell 9
  have HS10 : Hid (∀ W, Ext V W → W.cell? ⟨w.heap.size, 10, none⟩ = some (.int .i64 p.r.sch)) := fun W hW => (HB.out.ext hW).cell 10
  have HS11 : Hid (∀ W, Ext V W → W.cell? ⟨w.heap.size, 11, none⟩ = some (str p.r.name)) := fun W hW => (HB.out.ext hW).cell 11
  have HS12 : Hid (∀ W, Ext V W → W.cell? ⟨w.heap.size, 12, none⟩ = some (.int .u64 (p.r.node : Int))) := fun W hW => (HB.out.ext hW).cell 12
  have HS13 : Hid (∀ W, Ext V W → W.cell? ⟨w.heap.size, 13, none⟩ = some (.int .u64 (p.r.svc : Int))) := fun W hW => (HB.out.ext hW).cell 13
  refine wp_region_held_drew (S := fun w' => Ext V w' ∧ True) (by kernel_rfl) ⟨(Later.h e).drew, trivial⟩ (fun hHeld => ?_)
  refine' wpAnyH_take (i := 0) (v := _) rfl (by kernel_rfl) (by kernel_rfl) (by kernel_rfl) (fun _ _ _ h => h) (Or.inl ⟨by rfl, ?hy⟩) hHeld ?rest
  case hy => (rintro W ⟨hM, _⟩; go_simp; (try with_reducible rfl))
  case rest =>
  (try simp only [Act.put, List.setIfInBounds_toArray, List.set_cons_zero, List.set_cons_succ])
  refine' wpAnyH_take (i := 1) (v := _) rfl (by kernel_rfl) (by kernel_rfl) (by kernel_rfl) (fun _ _ _ h => h) (Or.inl ⟨by rfl, ?hy⟩) hHeld ?rest
  case hy => (rintro W ⟨hM, _⟩; go_simp; (try with_reducible rfl))
  case rest =>
  (try simp only [Act.put, List.setIfInBounds_toArray, List.set_cons_zero, List.set_cons_succ])
  refine' wpAnyH_take (i := 2) (v := _) rfl (by kernel_rfl) (by kernel_rfl) (by kernel_rfl) (fun _ _ _ h => h) (Or.inl ⟨by rfl, ?hy⟩) hHeld ?rest
  case hy => (rintro W ⟨hM, _⟩; have x2 := HS2.out W hM; have x3 := HS3.out W hM; have x4 := HS4.out W hM; have x5 := HS5.out W hM; go_simp; (try with_reducible rfl))
  case rest =>
  (try simp only [Act.put, List.setIfInBounds_toArray, List.set_cons_zero, List.set_cons_succ])
  refine' wpAnyH_take (i := 5) (v := _) rfl (by kernel_rfl) (by kernel_rfl) (by kernel_rfl) (fun _ _ _ h => h) (Or.inl ⟨by rfl, ?hy⟩) hHeld ?rest
  case hy => (rintro W ⟨hM, _⟩; go_simp; (try with_reducible rfl))
  case rest =>
  (try simp only [Act.put, List.setIfInBounds_toArray, List.set_cons_zero, List.set_cons_succ])
  refine' wpAnyH_take (i := 6) (v := _) rfl (by kernel_rfl) (by kernel_rfl) (by kernel_rfl) (fun _ _ _ h => h) (Or.inl ⟨by rfl, ?hy⟩) hHeld ?rest
  case hy => (rintro W ⟨hM, _⟩; have x6 := HS6.out W hM; have x7 := HS7.out W hM; have x8 := HS8.out W hM; have x9 := HS9.out W hM; go_simp; (try with_reducible rfl))
  case rest =>
  (try simp only [Act.put, List.setIfInBounds_toArray, List.set_cons_zero, List.set_cons_succ])
  refine' wpAnyH_take (i := 10) (v := _) rfl (by kernel_rfl) (by kernel_rfl) (by kernel_rfl) (fun _ _ _ h => h) (Or.inl ⟨by rfl, ?hy⟩) hHeld ?rest
  case hy => (rintro W ⟨hM, _⟩; go_simp; (try with_reducible rfl))
  case rest =>
  (try simp only [Act.put, List.setIfInBounds_toArray, List.set_cons_zero, List.set_cons_succ])
  refine' wpAnyH_take (i := 11) (v := _) rfl (by kernel_rfl) (by kernel_rfl) (by kernel_rfl) (fun _ _ _ h => h) (Or.inl ⟨by rfl, ?hy⟩) hHeld ?rest
  case hy => (rintro W ⟨hM, _⟩; have x10 := HS10.out W hM; have x11 := HS11.out W hM; have x12 := HS12.out W hM; have x13 := HS13.out W hM; go_simp; (try with_reducible rfl))
  case rest =>
  (try simp only [Act.put, List.setIfInBounds_toArray, List.set_cons_zero, List.set_cons_succ])
  refine wpAnyH_ready (rs := [3]) (by kernel_rfl) (by simp) ?_
  refine AllReadyH.cons rfl (fun K hK => ?_) AllReadyH.nil
  go_simp
  (go_at_call 137; refine (ID.out _).mono ?_; rintro x w1 ⟨A1, rfl, hb1, hi1⟩; have HI1 := hid (IsL.weak (R := fun _ => True) (fun _ _ _ => trivial) _ hi1))
  refine hK.out _ _ ⟨hHeld.1.trans hb1, trivial⟩ (fun hHeld => ?_)
  clear hK K
  (try simp only [Act.put, List.setIfInBounds_toArray, List.set_cons_zero, List.set_cons_succ])
  refine wpAnyH_ready (rs := [4]) (by kernel_rfl) (by simp) ?_
  refine AllReadyH.cons rfl (fun K hK => ?_) AllReadyH.nil
  go_simp
  (go_at_call 136; refine (YD.out _ _ HI1.out).mono ?_; rintro x w2 ⟨rfl, hb2⟩)
  refine hK.out _ _ ⟨hHeld.1.trans hb2, trivial⟩ (fun hHeld => ?_)
  clear hK K
  (try simp only [Act.put, List.setIfInBounds_toArray, List.set_cons_zero, List.set_cons_succ])
  refine wpAnyH_ready (rs := [7]) (by kernel_rfl) (by simp) ?_
  refine AllReadyH.cons rfl (fun K hK => ?_) AllReadyH.nil
  go_simp
  (go_at_call 137; refine (IS.out _).mono ?_; rintro x w3 ⟨A2, rfl, hb3, hi3⟩; have HI3 := hid (IsL.weak (R := fun _ => True) (fun _ _ _ => trivial) _ hi3))
  refine hK.out _ _ ⟨hHeld.1.trans hb3, trivial⟩ (fun hHeld => ?_)
  clear hK K
  (try simp only [Act.put, List.setIfInBounds_toArray, List.set_cons_zero, List.set_cons_succ])
  refine wpAnyH_ready (rs := [8]) (by kernel_rfl) (by simp) ?_
  refine AllReadyH.cons rfl (fun K hK => ?_) AllReadyH.nil
  go_simp
  (go_at_call 136; refine (YS.out _ _ HI3.out).mono ?_; rintro x w4 ⟨rfl, hb4⟩)
  refine hK.out _ _ ⟨hHeld.1.trans hb4, trivial⟩ (fun hHeld => ?_)
  clear hK K
  (try simp only [Act.put, List.setIfInBounds_toArray, List.set_cons_zero, List.set_cons_succ])
  refine wpAnyH_take (i := 9) rfl (by kernel_rfl) (by kernel_rfl) (by kernel_rfl) (fun _ _ _ h => h) (yieldsIf_cat (by rfl) _ _ _ _ rfl _ _ rfl rfl (by (try simp only [List.length_append]); omega)) hHeld ?_
  (try simp only [Act.put, List.setIfInBounds_toArray, List.set_cons_zero, List.set_cons_succ])
  refine wpAnyH_ready (rs := [12]) (by kernel_rfl) (by simp) ?_
  refine AllReadyH.cons rfl (fun K hK => ?_) AllReadyH.nil
  go_simp
  (go_at_call 137; refine (IR.out _).mono ?_; rintro x w5 ⟨A3, rfl, hb5, hi5⟩; have HI5 := hid (IsL.weak (R := fun _ => True) (fun _ _ _ => trivial) _ hi5))
  refine hK.out _ _ ⟨hHeld.1.trans hb5, trivial⟩ (fun hHeld => ?_)
  clear hK K
  (try simp only [Act.put, List.setIfInBounds_toArray, List.set_cons_zero, List.set_cons_succ])
  refine wpAnyH_ready (rs := [13]) (by kernel_rfl) (by simp) ?_
  refine AllReadyH.cons rfl (fun K hK => ?_) AllReadyH.nil
  go_simp
  (go_at_call 136; refine (YR.out _ _ HI5.out).mono ?_; rintro x w6 ⟨rfl, hb6⟩)
  refine hK.out _ _ ⟨hHeld.1.trans hb6, trivial⟩ (fun hHeld => ?_)
  clear hK K
  (try simp only [Act.put, List.setIfInBounds_toArray, List.set_cons_zero, List.set_cons_succ])
  refine wpAnyH_take (i := 14) rfl (by kernel_rfl) (by kernel_rfl) (by kernel_rfl) (fun _ _ _ h => h) (yieldsIf_cat (by rfl) _ _ _ _ rfl _ _ rfl rfl (by (try simp only [List.length_append]); omega)) hHeld ?_
  (try simp only [Act.put, List.setIfInBounds_toArray, List.set_cons_zero, List.set_cons_succ])
  refine wpAnyH_take (i := 15) rfl (by kernel_rfl) (by kernel_rfl) (by kernel_rfl) (fun _ _ _ h => h) (yieldsIf_cat (by rfl) _ _ _ _ rfl _ _ rfl rfl (by (try simp only [List.length_append]); omega)) hHeld ?_
  (try simp only [Act.put, List.setIfInBounds_toArray, List.set_cons_zero, List.set_cons_succ])
  refine wpAnyH_ready (rs := [16]) (by kernel_rfl) (by simp) ?_
  refine AllReadyH.cons rfl (fun K hK => ?_) AllReadyH.nil
  go_simp
  refine hK.out _ _ hHeld (fun hHeld => ?_)
  clear hK K
  (try simp only [Act.put, List.setIfInBounds_toArray, List.set_cons_zero, List.set_cons_succ])
  refine wpAnyH_done (by kernel_rfl) ?_ _
  obtain ⟨e, rfl⟩ : ∃ e : Later V, w6 = e.x := ⟨⟨_, hHeld.1⟩, rfl⟩
  try simp only [List.append_assoc]
  have lg2 : (q1 ++ (BD ++ (BS ++ BR))).length ≤ 40000 := by simp only [List.length_append]; omega
  generalize hq2 : q1 ++ (BD ++ (BS ++ BR)) = q2 at *
  have HQ2 := hid hq2
  clear hq2
  go_upto_region 3 with fail
  refine wp_region_later (by kernel_rfl) (by kernel_rfl) ?_
  repeat (first | (refine q_cat (by rfl) _ _ _ _ rfl _ _ rfl rfl (by (try simp only [List.length_append]); omega) ?_; (try simp only [Act.put, List.setIfInBounds_toArray, List.set_cons_zero, List.set_cons_succ])) | go_big_quiet_step ((go_at_call 101; first | (with_reducible exact Ret.later (KN.out _)) | (with_reducible exact Ret.later (KV.out _)) | (with_reducible exact Ret.later (KF.out _)) | (with_reducible exact Ret.later (KK.out _)) | (with_reducible exact Ret.later (K2.out _)) | (with_reducible exact Ret.later (KT.out _)) | (with_reducible exact Ret.later (KQ.out _)) | (with_reducible exact Ret.later (KL.out _)) | (with_reducible exact Ret.later (KO.out _)) | (with_reducible exact Ret.later (KM.out _)))))
  refine wpQuiet_nil ?_
  rintro _ ⟨e, rfl⟩
  try simp only [List.append_assoc]
  have lg3 : (q2 ++ (B2 ++ (BT ++ (BQ ++ BL)))).length ≤ 41000 := by simp only [List.length_append]; omega
  generalize hq3 : q2 ++ (B2 ++ (BT ++ (BQ ++ BL))) = q3 at *
  have HQ3 := hid hq3
  clear hq3
  cases hh : has p.fl 1
  all_goals rw [hh] at KHas
  · have HX2 : Hid (priB p k sum = q3 ++ (if k = 0 then [] else BU)) := by
      have hx : ¬ p.fl % 2 = 1 := by simpa [has] using hh
      unfold Hid
      rw [HX.out, if_neg hx, ← HQ3.out, ← HQ2.out, ← HQ1.out]
      simp only [List.append_assoc, List.nil_append]
    clear hh
    go_upto_region 6 with (go_at_call 47; refine (Ret.later (KHas.out _)).mono ?_; rintro x _ ⟨rfl, e, rfl⟩)
    have lg4 : ¬ 9223372036854775807 < q3.length + BU.length := by omega
    have hk := hk2.out
    have h3 : k = 0 ∨ k = 1 ∨ k = 2 := by omega
    rcases h3 with rfl | rfl | rfl
    · have HX3 : Hid (priB p 0 sum = q3) := by unfold Hid; rw [HX2.out]; exact List.append_nil _
      clear hk hk2 HX HQ1 HQ2 HQ3 HX2
      go_wp2_with (go_at_call 62; refine (Ret.later (KSUM.out _)).mono ?_; rintro x _ ⟨rfl, e, rfl⟩)
      go_ret
      refine Ret.mk ?_ (HE.out.trans e.h)
      rw [HX3.out]
      rfl
    · have HX3 : Hid (priB p 1 sum = q3 ++ BU) := by unfold Hid; rw [HX2.out]; rfl
      clear hk hk2 HX HQ1 HQ2 HQ3 HX2
      go_wp2_with (go_at_call 62; refine (Ret.later (KSUM.out _)).mono ?_; rintro x _ ⟨rfl, e, rfl⟩)
      go_ret
      refine Ret.mk ?_ (HE.out.trans e.h)
      rw [HX3.out]
      exact str_app _ _
    · have HX3 : Hid (priB p 2 sum = q3 ++ BU) := by unfold Hid; rw [HX2.out]; rfl
      clear hk hk2 HX HQ1 HQ2 HQ3 HX2
      go_wp2_with (go_at_call 62; refine (Ret.later (KSUM.out _)).mono ?_; rintro x _ ⟨rfl, e, rfl⟩)
      go_ret
      refine Ret.mk ?_ (HE.out.trans e.h)
      rw [HX3.out]
      exact str_app _ _
  · have HX2 : Hid (priB p k sum = (q3 ++ (BO ++ BM)) ++ (if k = 0 then [] else BU)) := by
      have hx : p.fl % 2 = 1 := by simpa [has] using hh
      unfold Hid
      rw [HX.out, if_pos hx, ← HQ3.out, ← HQ2.out, ← HQ1.out]
      simp only [List.append_assoc]
    clear hh
    go_upto_region 5 with (go_at_call 47; refine (Ret.later (KHas.out _)).mono ?_; rintro x _ ⟨rfl, e, rfl⟩)
    refine wp_region_later (by kernel_rfl) (by kernel_rfl) ?_
    repeat (first | (refine q_cat (by rfl) _ _ _ _ rfl _ _ rfl rfl (by (try simp only [List.length_append]); omega) ?_; (try simp only [Act.put, List.setIfInBounds_toArray, List.set_cons_zero, List.set_cons_succ])) | go_big_quiet_step ((go_at_call 101; first | (with_reducible exact Ret.later (KN.out _)) | (with_reducible exact Ret.later (KV.out _)) | (with_reducible exact Ret.later (KF.out _)) | (with_reducible exact Ret.later (KK.out _)) | (with_reducible exact Ret.later (K2.out _)) | (with_reducible exact Ret.later (KT.out _)) | (with_reducible exact Ret.later (KQ.out _)) | (with_reducible exact Ret.later (KL.out _)) | (with_reducible exact Ret.later (KO.out _)) | (with_reducible exact Ret.later (KM.out _)))))
    refine wpQuiet_nil ?_
    rintro _ ⟨e, rfl⟩
    try simp only [List.append_assoc]
    have lg4 : (q3 ++ (BO ++ BM)).length ≤ 42000 := by simp only [List.length_append]; omega
    generalize hq4 : q3 ++ (BO ++ BM) = q4 at *
    clear hq4
    go_upto_region 6 with fail
    have lg5 : ¬ 9223372036854775807 < q4.length + BU.length := by omega
    have hk := hk2.out
    have h3 : k = 0 ∨ k = 1 ∨ k = 2 := by omega
    rcases h3 with rfl | rfl | rfl
    · have HX3 : Hid (priB p 0 sum = q4) := by unfold Hid; rw [HX2.out]; exact List.append_nil _
      clear hk hk2 HX HQ1 HQ2 HQ3 HX2
      go_wp2_with (go_at_call 62; refine (Ret.later (KSUM.out _)).mono ?_; rintro x _ ⟨rfl, e, rfl⟩)
      go_ret
      refine Ret.mk ?_ (HE.out.trans e.h)
      rw [HX3.out]
      rfl
    · have HX3 : Hid (priB p 1 sum = q4 ++ BU) := by unfold Hid; rw [HX2.out]; rfl
      clear hk hk2 HX HQ1 HQ2 HQ3 HX2
      go_wp2_with (go_at_call 62; refine (Ret.later (KSUM.out _)).mono ?_; rintro x _ ⟨rfl, e, rfl⟩)
      go_ret
      refine Ret.mk ?_ (HE.out.trans e.h)
      rw [HX3.out]
      exact str_app _ _
    · have HX3 : Hid (priB p 2 sum = q4 ++ BU) := by unfold Hid; rw [HX2.out]; rfl
      clear hk hk2 HX HQ1 HQ2 HQ3 HX2
      go_wp2_with (go_at_call 62; refine (Ret.later (KSUM.out _)).mono ?_; rintro x _ ⟨rfl, e, rfl⟩)
      go_ret
      refine Ret.mk ?_ (HE.out.trans e.h)
      rw [HX3.out]
      exact str_app _ _
end Go.Proofs.Ytkeabdfgacicaaa


namespace Go.Proofs.Ytkeabdfgacicaaa
open Go.RowKit
set_option linter.unusedVariables false
set_option linter.unusedSimpArgs false

theorem priB_length {p : PV} (h : p.ranged = true) {k : Nat} (hk : k ≤ 2) {s : List UInt8} (hs : s.length ≤ 90) : (priB p k s).length < 1000000 := by
  obtain ⟨a, b, c⟩ := priT_all h hk (sum := s) hs
  rw [← priT_bytes]
  have := T.bytes_le (priT p k s)
  omega
set_option maxRecDepth 20000 in
set_option maxHeartbeats 800000 in
theorem r11Build_ok (p : PV) (h : p.ranged = true) (w : World) : Calls Try.prog 100 #[.agg p.c] w (Ret (str p.bytes) w) := by
  have hrs := PV.ranged_spec h
  obtain ⟨k, hc⟩ := Int.eq_ofNat_of_zero_le hrs.2.2.2.1
  have hk : k ≤ 2 := by omega
  have KB := hid (fun W => r11bytes_any p h k hk (List.replicate (2 * k) 0) (by simp; omega) W)
  have KC : Hid (∀ W, Calls Try.prog 122 #[.int .i64 (k : Int), str (priB p k (List.replicate (2 * k) 0))] W (Ret (str (priSum p k)) W)) := fun W => R4B_any k hk (priB p k (List.replicate (2 * k) 0)) (priB_length h hk (by simp; omega)) W
  have KE := hid (fun W => r11bytes_any p h k hk (priSum p k) (by rw [priSum_length p hk]; omega) W)
  have HV : Hid (p.bytes = priB p k (priSum p k)) := by unfold Hid PV.bytes; rw [hc]; rfl
  have hmk : ∀ W : World, (Instr.makeSlice 58 (.int .i64 (2 * (k : Int))) (.int .i64 (2 * (k : Int)))).run Try.prog W = .ok (.slice (some ⟨W.heap.size, 0, none⟩) (2 * k) (2 * k)) (W.alloc (.cells (madeCells #[.int .u8 0] (2 * k)) 5)) := by
    intro W
    have := run_make_row' (P := Try.prog) 58 5 (.int .u8 0) 1 Try.underlying58 infoByte8 rfl .i64 .i64 (2 * k) (by omega) (by omega) W
    simpa using this
  have hcv := conv_made (2 * k) (2 * k)
  have t2 : IntKind.i64.wrap (2 * (k : Int)) = 2 * (k : Int) := IntWalk.i64_in _ (by omega)
  have t1 : IntKind.u64.wrap (k : Int) = (k : Int) := IntWalk.u64_in _ (by omega)
  generalize List.replicate (2 * k) (0 : UInt8) = Z at *
  generalize priB p k Z = X at *
  generalize priSum p k = Y at *
  generalize priB p k Y = R at *
  have HE := hid ((Mod.refl [] w).alloc (.cells p.c 26))
  have HB := hid (Blk.new w 26 p.c)
  have HC := hid hc
  clear h hrs hc hk
  go_enter Try.func100, Try.ntmps100
  go_upto_region 1 with fail
  generalize w.alloc (.cells p.c 26) = V at *
  have HBL : Hid (∀ e : Later V, Blk e.x w.heap.size 26 p.c) := fun e => HB.out.later e
  have HBM : Hid (∀ W, Ext V W → Blk W w.heap.size 26 p.c) := fun W hW => HB.out.ext hW
  have HS1 : Hid (∀ W, Ext V W → W.cell? ⟨w.heap.size, 1, none⟩ = some (.int .i64 (k : Int))) := fun W hW => by rw [← HC.out]; exact (HB.out.ext hW).cell 1
  have x1 : ∀ e : Later V, e.x.cell? ⟨w.heap.size, 1, none⟩ = some (.int .i64 (k : Int)) := fun e => HS1.out _ e.h
  obtain ⟨e, he⟩ := Later.self V
  rw [he]
  clear he
  have hcv2 : (convert 58 9 (.slice (some ⟨e.x.heap.size, 0, none⟩) (2 * k) (2 * k))).run Try.prog (e.x.alloc (.cells (madeCells #[.int .u8 0] (2 * k)) 5)).drew = .ok (str Z) (e.x.alloc (.cells (madeCells #[.int .u8 0] (2 * k)) 5)).drew := hcv e.x.drew
  refine wp_region_held_drew (S := fun w' => Ext V w' ∧ True) (by kernel_rfl) ⟨(Later.h e).drew, trivial⟩ (fun hHeld => ?_)
  refine' wpAnyH_take (i := 0) (v := _) rfl (by kernel_rfl) (by kernel_rfl) (by kernel_rfl) (fun _ _ _ h => h) (Or.inl ⟨by rfl, ?hy⟩) hHeld ?rest
  case hy => (rintro W ⟨hM, _⟩; go_simp; (try with_reducible rfl))
  case rest =>
  (try simp only [Act.put, List.setIfInBounds_toArray, List.set_cons_zero, List.set_cons_succ])
  refine' wpAnyH_take (i := 1) (v := _) rfl (by kernel_rfl) (by kernel_rfl) (by kernel_rfl) (fun _ _ _ h => h) (Or.inl ⟨by rfl, ?hy⟩) hHeld ?rest
  case hy => (rintro W ⟨hM, _⟩; have x1 := HS1.out W hM; go_simp; (try with_reducible rfl))
  case rest =>
  (try simp only [Act.put, List.setIfInBounds_toArray, List.set_cons_zero, List.set_cons_succ])
  refine wpAnyH_take (i := 2) rfl (by kernel_rfl) (by kernel_rfl) (by kernel_rfl) (fun _ _ _ h => h) (yieldsIf_row (by rfl) 26 _ rfl _ rfl (fun W h => HBM.out W h.1) Try.underlying26 rfl (by kernel_rfl)) hHeld ?_
  (try simp only [Act.put, List.setIfInBounds_toArray, List.set_cons_zero, List.set_cons_succ])
  refine' wpAnyH_take (i := 3) (v := _) rfl (by kernel_rfl) (by kernel_rfl) (by kernel_rfl) (fun _ _ _ h => h) (Or.inl ⟨by rfl, ?hy⟩) hHeld ?rest
  case hy => (rintro W ⟨hM, _⟩; go_simp; (try with_reducible rfl))
  case rest =>
  (try simp only [Act.put, List.setIfInBounds_toArray, List.set_cons_zero, List.set_cons_succ])
  refine' wpAnyH_take (i := 4) (v := _) rfl (by kernel_rfl) (by kernel_rfl) (by kernel_rfl) (fun _ _ _ h => h) (Or.inl ⟨by rfl, ?hy⟩) hHeld ?rest
  case hy => (rintro W ⟨hM, _⟩; have x1 := HS1.out W hM; go_simp; (try with_reducible rfl))
  case rest =>
  (try simp only [Act.put, List.setIfInBounds_toArray, List.set_cons_zero, List.set_cons_succ])
  refine' wpAnyH_take (i := 5) (v := _) rfl (by kernel_rfl) (by kernel_rfl) (by kernel_rfl) (fun _ _ _ h => h) (Or.inl ⟨by rfl, ?hy⟩) hHeld ?rest
  case hy => (rintro W ⟨hM, _⟩; go_simp; (try with_reducible rfl))
  case rest =>
  (try simp only [Act.put, List.setIfInBounds_toArray, List.set_cons_zero, List.set_cons_succ])
  refine' wpAnyH_take (i := 6) (v := _) rfl (by kernel_rfl) (by kernel_rfl) (by kernel_rfl) (fun _ _ _ h => h) (Or.inl ⟨by rfl, ?hy⟩) hHeld ?rest
  case hy => (rintro W ⟨hM, _⟩; go_simp; (try with_reducible rfl))
  case rest =>
  (try simp only [Act.put, List.setIfInBounds_toArray, List.set_cons_zero, List.set_cons_succ])
  refine' wpAnyH_take (i := 7) (v := _) rfl (by kernel_rfl) (by kernel_rfl) (by kernel_rfl) (fun _ _ _ h => h) (Or.inl ⟨by rfl, ?hy⟩) hHeld ?rest
  case hy => (rintro W ⟨hM, _⟩; have x1 := HS1.out W hM; go_simp; (try with_reducible rfl))
  case rest =>
  (try simp only [Act.put, List.setIfInBounds_toArray, List.set_cons_zero, List.set_cons_succ])
  refine' wpAnyH_take (i := 8) (v := _) rfl (by kernel_rfl) (by kernel_rfl) (by kernel_rfl) (fun _ _ _ h => h) (Or.inl ⟨by rfl, ?hy⟩) hHeld ?rest
  case hy => (rintro W ⟨hM, _⟩; go_simp; (try with_reducible rfl))
  case rest =>
  (try simp only [Act.put, List.setIfInBounds_toArray, List.set_cons_zero, List.set_cons_succ])
  refine wpAnyH_ready (rs := [9]) (by kernel_rfl) (by simp) ?_
  refine AllReadyH.cons rfl (fun K hK => ?_) AllReadyH.nil
  go_simp
  refine hK.out _ _ ⟨hHeld.1.alloc _, trivial⟩ (fun hHeld => ?_)
  clear hK K
  (try simp only [Act.put, List.setIfInBounds_toArray, List.set_cons_zero, List.set_cons_succ])
  refine wpAnyH_ready (rs := [10]) (by kernel_rfl) (by simp) ?_
  refine AllReadyH.cons rfl (fun K hK => ?_) AllReadyH.nil
  go_simp
  refine hK.out _ _ hHeld (fun hHeld => ?_)
  clear hK K
  (try simp only [Act.put, List.setIfInBounds_toArray, List.set_cons_zero, List.set_cons_succ])
  refine wpAnyH_ready (rs := [11]) (by kernel_rfl) (by simp) ?_
  refine AllReadyH.cons rfl (fun K hK => ?_) AllReadyH.nil
  go_simp
  (go_at_call 123; refine (KB.out _).mono ?_; rintro x w1 ⟨rfl, hb1⟩)
  refine hK.out _ _ ⟨hHeld.1.trans hb1, trivial⟩ (fun hHeld => ?_)
  clear hK K
  (try simp only [Act.put, List.setIfInBounds_toArray, List.set_cons_zero, List.set_cons_succ])
  refine wpAnyH_ready (rs := [12]) (by kernel_rfl) (by simp) ?_
  refine AllReadyH.cons rfl (fun K hK => ?_) AllReadyH.nil
  go_simp
  (go_at_call 122; refine (KC.out _).mono ?_; rintro x w2 ⟨rfl, hb2⟩)
  refine hK.out _ _ ⟨hHeld.1.trans hb2, trivial⟩ (fun hHeld => ?_)
  clear hK K
  (try simp only [Act.put, List.setIfInBounds_toArray, List.set_cons_zero, List.set_cons_succ])
  refine wpAnyH_ready (rs := [13]) (by kernel_rfl) (by simp) ?_
  refine AllReadyH.cons rfl (fun K hK => ?_) AllReadyH.nil
  go_simp
  refine hK.out _ _ hHeld (fun hHeld => ?_)
  clear hK K
  (try simp only [Act.put, List.setIfInBounds_toArray, List.set_cons_zero, List.set_cons_succ])
  refine wpAnyH_done (by kernel_rfl) ?_ _
  obtain ⟨e2, rfl⟩ : ∃ e2 : Later V, w2 = e2.x := ⟨⟨_, hHeld.1⟩, rfl⟩
  clear hb1 hb2 hHeld hcv2 hcv hmk
  go_wp2_with (first | (refine wpList_row (by rfl) 26 _ rfl _ rfl (HBL.out _) Try.underlying26 rfl (by kernel_rfl) ?_) | (go_at_call 123; refine (Ret.later (KE.out _)).mono ?_; rintro x _ ⟨rfl, e3, rfl⟩))
  go_ret
  exact Ret.mk (by rw [HV.out]; rfl) (HE.out.trans e3.h)
set_option maxRecDepth 20000 in
theorem r11Plain_ok (p : PV) (hb : p.right = 0) (w : World) : Calls Try.prog 61 #[.agg p.c] w (Ret (str p.plain.bytes) w) := by
  have KB := hid (fun W => r11Build_ok p.plain (PV.right_ranged (PV.plain_right hb)) W)
  generalize p.plain.bytes = B at *
  have HE := hid ((Mod.refl [] w).alloc (.cells p.c 26))
  have HB := hid (Blk.new w 26 p.c)
  clear hb
  go_enter Try.func61, Try.ntmps61
  go_upto_region 1 with fail
  generalize w.alloc (.cells p.c 26) = V at *
  have z1 := HB.out.frozen 1
  have x1 := HB.out.cell 1
  go_upto_region 2 with fail
  have HE2 : Hid (Ext w (V.setCell ⟨w.heap.size, 1, none⟩ (.int .i64 0))) := HE.out.setCell (.inr (Nat.le_refl _)) _
  have HX2 : Hid (Blk (V.setCell ⟨w.heap.size, 1, none⟩ (.int .i64 0)) w.heap.size 26 p.plain.c) := HB.out.set_ 1 (.int .i64 0)
  generalize V.setCell ⟨w.heap.size, 1, none⟩ (.int .i64 0) = V2 at *
  go_wp2_with (first | (refine wpList_row (by rfl) 26 _ rfl _ rfl HX2.out Try.underlying26 rfl (by kernel_rfl) ?_) | (go_at_call 100; refine (KB.out _).mono ?_; rintro x w2 ⟨rfl, hb2⟩))
  go_ret
  exact Ret.mk rfl (HE2.out.trans hb2)
end Go.Proofs.Ytkeabdfgacicaaa


namespace Go.Proofs.Ytkeabdfgacicaaa
open Go.RowKit Go.Shelf
set_option linter.unusedVariables false
set_option linter.unusedSimpArgs false

def hasNum (n : Int) (b : BV) : Bool := decide (b.num = n)
def numB (bs : Nat → BV) (n : Int) (i : Nat) : Bool := hasNum n (bs i)
set_option maxRecDepth 20000 in
theorem At13_any (p : PV) (bs : Nat → BV) (k c : Nat) (A : Option Addr) (n : Int) (hk : k < 4611686018427387904) (w : World) (h : BsL w A k bs) : Calls Try.prog 12 #[bunV p A k c, .int .i64 n] w (Ret (.int .i64 (firstI (numB bs n) k)) w) := by
  have HE := hid ((Mod.refl [] w).alloc (.cells (bunC p A k c) 29))
  have HB := hid (Blk.new w 29 (bunC p A k c))
  have HL := hid (BsL.ext h HE.out)
  have k1 : (k : Int) < 4611686018427387904 := by omega
  have HK := hid hk
  clear h hk
  go_enter Try.func12, Try.ntmps12
  go_wp2_with fail
  generalize w.alloc (.cells (bunC p A k c) 29) = V at *
  have b19 : ∀ e : Later V, e.x.cell? ⟨w.heap.size, 19, none⟩ = some (.slice A k c) := HB.out.cellL 19 rfl
  obtain ⟨e0, he0⟩ := Later.self V
  go_loopw [5] (fun s5 wr => ∃ i : Nat, s5 = .int .i64 (i : Int) ∧ Hid (i ≤ k ∧ ∀ j, j < i → numB bs n j = false) ∧ ∃ e : Later V, wr = e.x) (fun s5 _ => k - (intOf s5).toNat)
  case atStart => exact ⟨0, rfl, (show Hid _ from ⟨by omega, fun j hj => by omega⟩), e0, (by first | exact he0 | rfl)⟩
  case round =>
    clear he0 e0
    obtain ⟨i, rfl, hi, e, rfl⟩ := hrel
    have i0 : (0 : Int) ≤ (i : Int) := by omega
    by_cases hlt : i < k
    · obtain ⟨b, o, rfl, hb, q0, q1, q2, q3, q4⟩ := HL.out.cells hlt
      have tc : decide (i < k) = true := by simp [hlt]
      have i1 : (i : Int) < (k : Int) := by omega
      have HLT := hid hlt
      clear hlt
      by_cases ht : numB bs n i = true
      · have HF : Hid (firstI (numB bs n) k = (i : Int)) := by unfold Hid firstI; rw [firstOf_some HLT.out ht hi.out.2]
        have hq : (bs i).num = n := by simpa [numB, hasNum] using ht
        rw [hq] at q1
        clear ht hq
        go_wp2_with fail
        go_ret
        exact Ret.mk (by rw [HF.out]; rfl) (HE.out.trans e.h)
      · have HN : Hid (numB bs n i = false) := by unfold Hid; simpa using ht
        have hq : (bs i).num ≠ n := by simpa [numB, hasNum] using ht
        have t1 : ((bs i).num == n) = false := by simpa using hq
        have t2 : ((bs i).num = n) = False := by simpa using hq
        clear ht hq
        go_wp2_with fail
        go_roundw
        case rel => exact ⟨i + 1, by go_num, (show Hid _ from ⟨HLT.out, fun j hj => by
          by_cases hji : j = i
          · subst hji; exact HN.out
          · exact hi.out.2 j (by omega)⟩), e, rfl⟩
        case measure => have := HLT.out; simp [intOf]; omega
    · obtain rfl : i = k := by have := hi.out.1; omega
      have tc : decide (i < i) = false := by simp
      have HF : Hid (firstI (numB bs n) i = -1) := by unfold Hid firstI; rw [firstOf_none hi.out.2]
      go_wp2_with fail
      go_ret
      exact Ret.mk (by rw [HF.out]; rfl) (HE.out.trans e.h)
set_option maxRecDepth 20000 in
theorem IndexFuncB_any (A : Option Addr) (bs : Nat → BV) (k c g : Nat) (lb : Array Value) (P : BV → Bool) (eg : ∀ args w, (callFunc g args).run Try.prog w = .ok (.enter g args) w)
    (hk : k < 4611686018427387904) (w : World) (h : BsL w A k bs) (hp : Hid (∀ (W : World) (x : BV), Ext w W → Calls Try.prog g (#[x.v] ++ lb) W (Ret (.bool (P x)) W))) :
    Calls Try.prog 120 #[.slice A k c, .func (.func g) #[] lb] w (Ret (.int .i64 (firstI (fun i => P (bs i)) k)) w) := by
  have HL := hid h
  have k1 : (k : Int) < 4611686018427387904 := by omega
  have HK := hid hk
  clear h hk
  obtain ⟨e0, he0⟩ := Later.self w
  go_enter Try.func120, Try.ntmps120
  go_wp2_with fail
  go_loopw [8] (fun s5 wr => ∃ i : Nat, s5 = .int .i64 (i : Int) ∧ Hid (i ≤ k ∧ ∀ j, j < i → (fun i => P (bs i)) j = false) ∧ ∃ e : Later w, wr = e.x) (fun s5 _ => k - (intOf s5).toNat)
  case atStart => exact ⟨0, rfl, (show Hid _ from ⟨by omega, fun j hj => by omega⟩), e0, (by first | exact he0 | rfl)⟩
  case round =>
    clear he0 e0
    obtain ⟨i, rfl, hi, e, rfl⟩ := hrel
    have i0 : (0 : Int) ≤ (i : Int) := by omega
    by_cases hlt : i < k
    · obtain ⟨b, o, rfl, hb, q0, q1, q2, q3, q4⟩ := HL.out.cells hlt
      have tc : decide (i < k) = true := by simp [hlt]
      have i1 : (i : Int) < (k : Int) := by omega
      have HLT := hid hlt
      clear hlt
      by_cases ht : (fun i => P (bs i)) i = true
      · have HF : Hid (firstI ((fun i => P (bs i))) k = (i : Int)) := by unfold Hid firstI; rw [firstOf_some HLT.out ht hi.out.2]
        have hcall : Calls Try.prog g (#[(bs i).v] ++ lb) e.x (Ret (.bool true) e.x) := by have := hp.out e.x (bs i) e.h; rw [show P (bs i) = true from ht] at this; exact this
        clear ht
        go_wp2_with (go_at_fn g; refine (Ret.later hcall).mono ?_; rintro x _ ⟨rfl, e3, rfl⟩)
        go_ret
        exact Ret.mk (by rw [HF.out]; rfl) e3.h
      · have HN : Hid ((fun i => P (bs i)) i = false) := by unfold Hid; simpa using ht
        have hcall : Calls Try.prog g (#[(bs i).v] ++ lb) e.x (Ret (.bool false) e.x) := by have := hp.out e.x (bs i) e.h; rw [show P (bs i) = false from HN.out] at this; exact this
        clear ht
        go_wp2_with (go_at_fn g; refine (Ret.later hcall).mono ?_; rintro x _ ⟨rfl, e3, rfl⟩)
        go_roundw
        case rel => exact ⟨i + 1, by go_num, (show Hid _ from ⟨HLT.out, fun j hj => by
          by_cases hji : j = i
          · subst hji; exact HN.out
          · exact hi.out.2 j (by omega)⟩), e3, rfl⟩
        case measure => have := HLT.out; simp [intOf]; omega
    · obtain rfl : i = k := by have := hi.out.1; omega
      have tc : decide (i < i) = false := by simp
      have HF : Hid (firstI ((fun i => P (bs i))) i = -1) := by unfold Hid firstI; rw [firstOf_none hi.out.2]
      go_wp2_with fail
      go_ret
      exact Ret.mk (by rw [HF.out]; rfl) (e.h)
set_option maxRecDepth 20000 in
theorem atCl_any (n : Int) (B : Nat) (w : World) (hB : B < w.heap.size) (c0 : w.cell? ⟨B, 0, none⟩ = some (.int .i64 n)) (W : World) (x : BV) (hb : Ext w W) : Calls Try.prog 121 (#[x.v] ++ #[.pointer (some ⟨B, 0, none⟩)]) W (Ret (.bool (hasNum n x)) W) := by
  have d0 : W.cell? ⟨B, 0, none⟩ = some (.int .i64 n) := (hb.cell hB (by simp)).trans c0
  have hBW : B < W.heap.size := Nat.lt_of_lt_of_le hB hb.size
  have hne : B ≠ W.heap.size := by omega
  clear c0
  show Calls Try.prog 121 #[.agg #[.int .i64 x.ty, .int .i64 x.num, .int .u64 (x.fl : Int), .int .i64 x.crc, str x.data], .pointer (some ⟨B, 0, none⟩)] W _
  go_enter Try.func121, Try.ntmps121
  go_wp2
  go_ret
  exact Ret.mk (by simp [hasNum]; rfl) ((Mod.refl _ _).alloc _)
theorem entersAC : ∀ args w, (callFunc 121 args).run Try.prog w = .ok (.enter 121 args) w := enters_of Try.func121 (by kernel_rfl) rfl
set_option maxRecDepth 20000 in
theorem at_any (p : PV) (bs : Nat → BV) (k c : Nat) (A : Option Addr) (n : Int) (hk : k < 4611686018427387904) (w : World) (h : BsL w A k bs) : Calls Try.prog 95 #[bunV p A k c, .int .i64 n] w (Ret (.int .i64 (firstI (numB bs n) k)) w) := by
  have HE := hid (((Mod.refl [] w).alloc (.cells (bunC p A k c) 29)).alloc (.cells #[.int .i64 n] 3))
  have HB := hid ((Blk.new w 29 (bunC p A k c)).alloc (.cells #[.int .i64 n] 3))
  have HN : Hid (Blk ((w.alloc (.cells (bunC p A k c) 29)).alloc (.cells #[.int .i64 n] 3)) (w.heap.size + 1) 3 #[.int .i64 n]) := Blk.newL _ _ _ (by simp)
  have HL := hid (BsL.ext h HE.out)
  have HK := hid hk
  clear h hk
  go_enter Try.func95, Try.ntmps95
  go_upto_region 1 with fail
  generalize (w.alloc (.cells (bunC p A k c) 29)).alloc (.cells #[.int .i64 n] 3) = V at *
  have KI : Hid (Calls Try.prog 120 #[.slice A k c, .func (.func 121) #[] #[.pointer (some ⟨w.heap.size + 1, 0, none⟩)]] V (Ret (.int .i64 (firstI (numB bs n) k)) V)) :=
    IndexFuncB_any A bs k c 121 #[.pointer (some ⟨w.heap.size + 1, 0, none⟩)] (hasNum n) entersAC HK.out V HL.out (fun W x hb => atCl_any n (w.heap.size + 1) V HN.out.lt (HN.out.cell 0) W x hb)
  have b19 : V.cell? ⟨w.heap.size, 19, none⟩ = some (.slice A k c) := HB.out.cell 19
  go_wp2_with (go_at_call 120; refine KI.out.mono ?_; rintro x w2 ⟨rfl, hb2⟩)
  go_ret
  exact Ret.mk rfl (HE.out.trans hb2)
/-- What Get hands back. -/
def getV (bs : Nat → BV) (n : Int) (k : Nat) : Value := match firstOf (numB bs n) k with | some i => .tuple #[(bs i).v, .bool true] | none => .tuple #[zeroB.v, .bool false]
set_option maxRecDepth 20000 in
set_option maxHeartbeats 800000 in
theorem Get_any (p : PV) (bs : Nat → BV) (k c : Nat) (A : Option Addr) (n : Int) (hk : k < 4611686018427387904) (w : World) (h : BsL w A k bs) : Calls Try.prog 57 #[bunV p A k c, .int .i64 n] w (Ret (getV bs n k) w) := by
  have HE := hid (((Mod.refl [] w).alloc (.cells (bunC p A k c) 29)).alloc (.cells #[.int .i64 0, .int .i64 0, .int .u64 0, .int .i64 0, .string ⟨#[]⟩] 32))
  have HB := hid ((Blk.new w 29 (bunC p A k c)).alloc (.cells #[.int .i64 0, .int .i64 0, .int .u64 0, .int .i64 0, .string ⟨#[]⟩] 32))
  have HR : Hid (Blk ((w.alloc (.cells (bunC p A k c) 29)).alloc (.cells #[.int .i64 0, .int .i64 0, .int .u64 0, .int .i64 0, .string ⟨#[]⟩] 32)) (w.heap.size + 1) 32 zeroB.c) := Blk.newL _ _ _ (by simp)
  have HL := hid (BsL.ext h HE.out)
  have k1 : (k : Int) < 4611686018427387904 := by omega
  have HK := hid hk
  have KA : Hid (∀ W, BsL W A k bs → Calls Try.prog 95 #[bunV p A k c, .int .i64 n] W (Ret (.int .i64 (firstI (numB bs n) k)) W)) := fun W hW => at_any p bs k c A n HK.out W hW
  clear h hk
  have HS : Hid (getV bs n k = match firstOf (numB bs n) k with | some i => .tuple #[(bs i).v, .bool true] | none => .tuple #[zeroB.v, .bool false]) := rfl
  unfold firstI at KA
  cases hf : firstOf (numB bs n) k with
  | none =>
    rw [hf] at KA HS
    clear hf
    go_enter Try.func57, Try.ntmps57
    go_upto_region 1 with fail
    generalize ((w.alloc (.cells (bunC p A k c) 29)).alloc (.cells #[.int .i64 0, .int .i64 0, .int .u64 0, .int .i64 0, .string ⟨#[]⟩] 32)) = V at *
    have HBL : Hid (∀ e : Later V, Blk e.x w.heap.size 29 (bunC p A k c)) := fun e => HB.out.later e
    obtain ⟨e, he⟩ := Later.self V
    rw [he]
    clear he
    go_upto_region 2 with (first | (refine wpList_row (by rfl) 29 _ rfl _ rfl (HBL.out _) Try.underlying29 rfl (by kernel_rfl) ?_) | (go_at_call 95; refine (Ret.later (KA.out _ (HL.out.ext (Later.h _)))).mono ?_; rintro x _ ⟨rfl, e, rfl⟩))
    have HRA := hid (HR.out.later e)
    obtain ⟨c0, c1, c2, c3, c4⟩ := cellsB (b := zeroB) HRA.out
    have f0 := HRA.out.frozen 0
    have f1 := HRA.out.frozen 1
    have f2 := HRA.out.frozen 2
    have f3 := HRA.out.frozen 3
    have f4 := HRA.out.frozen 4
    go_wp2_with fail
    obtain ⟨d0, d1, d2, d3, d4⟩ := cellsB (setB_blk (b := zeroB) HRA.out)
    clear c0 c1 c2 c3 c4 f0 f1 f2 f3 f4
    show bodyPost _ _ _ _ _ (setB e.x (w.heap.size + 1) zeroB)
    refine bodyPost_ret (v := .tuple #[zeroB.v, .bool false]) (by simp [results, Try.results57, go_sem, d0, d1, d2, d3, d4]) rfl (Ret.mk HS.out.symm (setB_mod (HE.out.trans e.h) (by omega)))
  | some i =>
    rw [hf] at KA HS
    have hlt := (firstOf_spec hf).1
    clear hf
    obtain ⟨b, o, rfl, hb, q0, q1, q2, q3, q4⟩ := HL.out.cells hlt
    have i0 : (0 : Int) ≤ (i : Int) := by omega
    have i1 : (i : Int) < (k : Int) := by omega
    have tn : decide ((i : Int) < 0) = false := by simp
    have tm : ((i : Int) < 0) = False := eq_false (by omega)
    clear hlt
    go_enter Try.func57, Try.ntmps57
    go_upto_region 1 with fail
    generalize ((w.alloc (.cells (bunC p (some ⟨b, o, none⟩) k c) 29)).alloc (.cells #[.int .i64 0, .int .i64 0, .int .u64 0, .int .i64 0, .string ⟨#[]⟩] 32)) = V at *
    have HBL : Hid (∀ e : Later V, Blk e.x w.heap.size 29 (bunC p (some ⟨b, o, none⟩) k c)) := fun e => HB.out.later e
    have b19 : ∀ e : Later V, e.x.cell? ⟨w.heap.size, 19, none⟩ = some (.slice (some ⟨b, o, none⟩) k c) := HB.out.cellL 19 rfl
    obtain ⟨e, he⟩ := Later.self V
    rw [he]
    clear he
    go_upto_region 2 with (first | (refine wpList_row (by rfl) 29 _ rfl _ rfl (HBL.out _) Try.underlying29 rfl (by kernel_rfl) ?_) | (go_at_call 95; refine (Ret.later (KA.out _ (HL.out.ext (Later.h _)))).mono ?_; rintro x _ ⟨rfl, e, rfl⟩))
    have HRA := hid (HR.out.later e)
    obtain ⟨c0, c1, c2, c3, c4⟩ := cellsB (b := zeroB) HRA.out
    have f0 := HRA.out.frozen 0
    have f1 := HRA.out.frozen 1
    have f2 := HRA.out.frozen 2
    have f3 := HRA.out.frozen 3
    have f4 := HRA.out.frozen 4
    go_wp2_with fail
    obtain ⟨d0, d1, d2, d3, d4⟩ := cellsB (setB_blk (b := bs i) HRA.out)
    clear c0 c1 c2 c3 c4 f0 f1 f2 f3 f4
    show bodyPost _ _ _ _ _ (setB e.x (w.heap.size + 1) (bs i))
    refine bodyPost_ret (v := .tuple #[(bs i).v, .bool true]) (by simp [results, Try.results57, go_sem, d0, d1, d2, d3, d4]) rfl (Ret.mk HS.out.symm (setB_mod (HE.out.trans e.h) (by omega)))
end Go.Proofs.Ytkeabdfgacicaaa


namespace Go.Proofs.Ytkeabdfgacicaaa
open Go.RowKit
set_option linter.unusedVariables false
set_option linter.unusedSimpArgs false

section
variable {P : Program} {ops : Array Oper} {rest : List Oper} {o : Oper} {a : Act} {w : World}
/-- Two strings become one, in a plain region. -/
theorem wpList_cat {Q : Exit → Act → World → Prop} (hw : Region.wanted o (yielded ops a.tmps) = true) (ty t2 : TypeId) (x y : Operand) (ho : o.op = .binOp .add ty x y t2) (l1 l2 : List UInt8) (hx : a.eval x = str l1) (hy : a.eval y = str l2)
    (hl : l1.length + l2.length ≤ 9223372036854775807) (h : wpList P ops Q rest (a.put o.dst (str (l1 ++ l2))) w) : wpList P ops Q (o :: rest) a w :=
  wpList_step fun K hK => by
    rw [if_pos hw]
    have hl' : ¬ 9223372036854775807 < l1.length + l2.length := by omega
    have hk := hK _ _ h
    unfold Oper.wp execOp
    simp only [ho, hx, hy]
    simp [go_sem, hl']
    rw [ByteArray.mk_append_mk]
    exact hk
end
theorem smay_any (s : Int) (w : World) : Calls Try.prog 30 #[.int .i64 s] w (Ret (.bool (decide (0 ≤ s) && decide (s < 8))) w) := by
  cases h1 : decide (0 ≤ s)
  · have h2 : ¬ 0 ≤ s := by simpa using h1
    have h3a : decide (0 ≤ s) = false := decide_eq_false (by omega)
    have h3b : (0 ≤ s) = False := eq_false (by omega)
    clear h1 h2
    go_enter Try.func30, Try.ntmps30
    go_wp2
    go_ret
    exact Ret.mk rfl (Mod.refl _ _)
  · have h2 : 0 ≤ s := by simpa using h1
    have h3a : decide (0 ≤ s) = true := decide_eq_true (by omega)
    have h3b : (0 ≤ s) = True := eq_true (by omega)
    clear h1
    go_enter Try.func30, Try.ntmps30
    go_wp2
    go_ret
    exact Ret.mk (by simp) (Mod.refl _ _)
/-- What goes with a target, of a scope: the parts put together. -/
def besB (pr tg sc : List UInt8) (target : Int) (n : Nat) : List UInt8 :=
  ((headL 0 n ++ (if n % 2 = 1 ∧ target ≠ 0 then pr else [])) ++ (if n / 2 % 2 = 1 then tg else [])) ++ (if n / 4 = 1 then sc else [])
set_option maxRecDepth 20000 in
set_option maxHeartbeats 2000000 in
theorem pBeside_any (pr tg sc ow : List UInt8) (target : Int) (n : Nat) (hn : n < 8) (l1 : pr.length ≤ 100000) (l2 : tg.length ≤ 100000) (l3 : sc.length ≤ 100000) (w : World) :
    Calls Try.prog 32 #[.agg #[str pr, str tg, str sc, str ow], .int .i64 target, .int .i64 (n : Int)] w (Ret (str (besB pr tg sc target n)) w) := by
  have KH : Hid (∀ W, Calls Try.prog 60 #[.int .i64 0, .int .u64 (n : Int)] W (Ret (str (headL 0 n)) W)) := fun W => by simpa using head_in 0 (n : Int) (by omega) (by omega) (by omega) (by omega) W
  have lh := headL_le 0 n
  have HB := hid (Blk.new w 71 #[str pr, str tg, str sc, str ow])
  have HE := hid ((Mod.refl [] w).alloc (.cells #[str pr, str tg, str sc, str ow] 71))
  have h8 : n = 0 ∨ n = 1 ∨ n = 2 ∨ n = 3 ∨ n = 4 ∨ n = 5 ∨ n = 6 ∨ n = 7 := by omega
  have HV : Hid (besB pr tg sc target n = ((headL 0 n ++ (if n % 2 = 1 ∧ target ≠ 0 then pr else [])) ++ (if n / 2 % 2 = 1 then tg else [])) ++ (if n / 4 = 1 then sc else [])) := rfl
  generalize headL 0 n = H at *
  by_cases ht : target = 0
  · subst ht
    clear hn
    rcases h8 with rfl | rfl | rfl | rfl | rfl | rfl | rfl | rfl
    all_goals go_enter Try.func32, Try.ntmps32
    all_goals go_upto_region 1 with fail
    all_goals generalize w.alloc (.cells #[str pr, str tg, str sc, str ow] 71) = V at *
    all_goals have x0 : ∀ e : Later V, e.x.cell? ⟨w.heap.size, 0, none⟩ = some (str pr) := HB.out.cellL 0 rfl
    all_goals have x1 : ∀ e : Later V, e.x.cell? ⟨w.heap.size, 1, none⟩ = some (str tg) := HB.out.cellL 1 rfl
    all_goals have x2 : ∀ e : Later V, e.x.cell? ⟨w.heap.size, 2, none⟩ = some (str sc) := HB.out.cellL 2 rfl
    all_goals obtain ⟨e, he⟩ := Later.self V
    all_goals rw [he]
    all_goals clear he
    all_goals go_wp2_with (first | (refine wpList_cat (by rfl) _ _ _ _ rfl _ _ rfl rfl (by (try simp only [List.length_append]); omega) ?_) | (go_at_call 60; refine (Ret.later (KH.out _)).mono ?_; rintro x _ ⟨rfl, e, rfl⟩))
    all_goals go_ret
    all_goals refine Ret.mk ?_ (HE.out.trans e.h)
    all_goals rw [HV.out]
    all_goals simp
  · have ta : ((target) == (0)) = false := by rw [beq_eq_false_iff_ne]; exact ht
    have tb : ((target) = (0)) = False := eq_false (by exact ht)
    have tc : ((target) != (0)) = true := by rw [bne_iff_ne]; exact ht
    clear hn
    have HT := hid ht
    clear ht
    rcases h8 with rfl | rfl | rfl | rfl | rfl | rfl | rfl | rfl
    all_goals go_enter Try.func32, Try.ntmps32
    all_goals go_upto_region 1 with fail
    all_goals generalize w.alloc (.cells #[str pr, str tg, str sc, str ow] 71) = V at *
    all_goals have x0 : ∀ e : Later V, e.x.cell? ⟨w.heap.size, 0, none⟩ = some (str pr) := HB.out.cellL 0 rfl
    all_goals have x1 : ∀ e : Later V, e.x.cell? ⟨w.heap.size, 1, none⟩ = some (str tg) := HB.out.cellL 1 rfl
    all_goals have x2 : ∀ e : Later V, e.x.cell? ⟨w.heap.size, 2, none⟩ = some (str sc) := HB.out.cellL 2 rfl
    all_goals obtain ⟨e, he⟩ := Later.self V
    all_goals rw [he]
    all_goals clear he
    all_goals go_wp2_with (first | (refine wpList_cat (by rfl) _ _ _ _ rfl _ _ rfl rfl (by (try simp only [List.length_append]); omega) ?_) | (go_at_call 60; refine (Ret.later (KH.out _)).mono ?_; rintro x _ ⟨rfl, e, rfl⟩))
    all_goals go_ret
    all_goals refine Ret.mk ?_ (HE.out.trans e.h)
    all_goals rw [HV.out]
    all_goals simp [HT.out]
end Go.Proofs.Ytkeabdfgacicaaa
