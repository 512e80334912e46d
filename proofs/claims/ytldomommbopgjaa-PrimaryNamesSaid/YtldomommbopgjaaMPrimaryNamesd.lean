/-
  Primaries: the sum put in.
  Primaries: the item and the bytes, as the code makes them.
  Primaries: their names; the whole's primary; the primary that the laws wake the program by.
  The law PrimaryNames, walked.
  The law PrimaryNames: the branches in which the names differ (or not).
  The law PrimaryNames: the branches in which the names differ (or not).
-/
import Derived.Test.YtldomommbopgjaaMPrimaryNamesc

namespace Go.Proofs.Ytldomommbopgjaa
open Go.RowKit
set_option linter.unusedVariables false

theorem chL_app {L : List T} {t : T} {i : Nat} (h : i < L.length) : chL (L ++ [t]) i = chL L i := by unfold chL; rw [List.getElem?_append_left h]
theorem chL_last (L : List T) (t : T) : chL (L ++ [t]) L.length = t := by unfold chL; simp
theorem listT_app (L : List T) (t : T) : listT (L ++ [t]) = T.mk 4 0 [] false (L.length + 1) (chL (L ++ [t])) := by
  unfold listT chL
  rw [List.length_append]; rfl
theorem last_ext (L : List T) (s t : T) : listT (L ++ [t]) = T.mk 4 0 [] false (L.length + 1) (fun i => if i = L.length then t else chL (L ++ [s]) i) := by
  rw [listT_app]
  congr 1
  funext i
  by_cases h : i = L.length
  · rw [if_pos h, h, chL_last]
  · rw [if_neg h]
    by_cases h2 : i < L.length
    · rw [chL_app h2, chL_app h2]
    · unfold chL
      rw [List.getElem?_eq_none (by simp; omega), List.getElem?_eq_none (by simp; omega)]
set_option maxRecDepth 20000 in
theorem psummed_0 (t : T) (A : Option Addr) (c : Nat) (w : World) : Calls Try.prog 29 #[.int .i64 0, itemV t A c] w (Ret (itemV t A c) w) := by
  have HB := hid (Blk.new w 43 (itemC t A c))
  go_enter Try.func29, Try.ntmps29
  go_wp2_with fail
  refine bodyPost_ret (v := itemV t A c) (by simp [results, Try.results29, go_sem]) rfl (Ret.mk rfl (((Mod.refl _ _).alloc _).alloc _))
set_option maxRecDepth 20000 in
set_option maxHeartbeats 1600000 in
theorem psummed_any (L : List T) (Z : List UInt8) (kind : Nat) (k1 : 1 ≤ kind) (k2 : kind ≤ 2) (hn : L.length ≤ 20) (hok : (listT (L ++ [strT Z])).ok) (hsz : (listT (L ++ [strT Z])).size ≤ 100000) (hr : (listT (L ++ [strT Z])).right 8 = true) (hbl : (listT (L ++ [strT Z])).bytes.length < 1000000) (N : Nat) (A : Option Addr) (c : Nat) (w : World) (hN : N ≤ w.heap.size) (h : IsL w (fun b => N ≤ b) (listT (L ++ [strT Z])) A) :
    Calls Try.prog 29 #[.int .i64 (kind : Int), itemV (listT (L ++ [strT Z])) A c] w (fun e w' => ∃ A c, e = .returned (itemV (listT (L ++ [strT (Crc.sumL kind (listT (L ++ [strT Z])).bytes)])) A c) ∧ Ext w w' ∧ IsL w' (fun b => N ≤ b) (listT (L ++ [strT (Crc.sumL kind (listT (L ++ [strT Z])).bytes)])) A) := by
  have e1 : ((kind : Int) = 0) = False := by simp; omega
  have e2 : ((kind : Int) == 0) = false := by simp; omega
  have HI : Hid (IsL w (fun b => N ≤ b ∧ b < w.heap.size) (listT (L ++ [strT Z])) A) := IsL.weak (fun k hk hq => ⟨hq, hk⟩) _ h
  have KB : Hid (∀ A c W, IsL W (fun _ => True) (listT (L ++ [strT Z])) A → Calls Try.prog 21 #[itemV (listT (L ++ [strT Z])) A c] W (Ret (.tuple #[str (listT (L ++ [strT Z])).bytes, .int .i64 0]) W)) := fun A c W hW => by
    have := iBuild_any _ hok hsz A c W hW
    unfold buildV at this
    rwa [if_pos hr] at this
  have KS := hid (fun W => Sum_any kind k1 k2 (listT (L ++ [strT Z])).bytes hbl W)
  have HU := hid (last_ext L (strT Z) (strT (Crc.sumL kind (listT (L ++ [strT Z])).bytes)))
  rw [listT_app L (strT Z)] at KB KS HU HI ⊢
  have hK := CloneI_any (Q := fun b => N ≤ b ∧ b < w.heap.size) (kind := 4) (n := 0) (s := []) (op := false) (chL (L ++ [strT Z])) (L.length + 1) (by unfold Hid; omega) A c
  have KC := hid hK
  clear hK h hok hsz hr hbl
  generalize (T.mk 4 0 [] false (L.length + 1) (chL (L ++ [strT Z]))).bytes = B at *
  generalize listT (L ++ [strT (Crc.sumL kind B)]) = U at *
  generalize Crc.sumL kind B = S at *
  generalize chL (L ++ [strT Z]) = ch at *
  obtain ⟨n, hnn⟩ : ∃ n, n = L.length := ⟨_, rfl⟩
  rw [← hnn] at HI KB HU KC hn ⊢
  clear hnn
  have n0 : (0 : Int) ≤ (n : Int) := by omega
  have n1 : (n : Int) ≤ 20 := by omega
  have HN1 := hid hn
  have HNW := hid hN
  clear hn hN k1 k2
  have HE := hid (((Mod.refl [] w).alloc (.cells (itemC (T.mk 4 0 [] false (n + 1) ch) A c) 43)).alloc (.cells #[.int .i64 0, .int .u64 0, .string ⟨#[]⟩, .slice none 0 0, .bool false] 43))
  have HX := hid ((Blk.new w 43 (itemC (T.mk 4 0 [] false (n + 1) ch) A c)).alloc (.cells #[.int .i64 0, .int .u64 0, .string ⟨#[]⟩, .slice none 0 0, .bool false] 43))
  have HR : Hid (Blk ((w.alloc (.cells (itemC (T.mk 4 0 [] false (n + 1) ch) A c) 43)).alloc (.cells #[.int .i64 0, .int .u64 0, .string ⟨#[]⟩, .slice none 0 0, .bool false] 43)) (w.heap.size + 1) 43 (itemC (numT 0) none 0)) := Blk.newL _ _ _ (by simp)
  go_enter Try.func29, Try.ntmps29
  go_upto_region 3 with fail
  generalize hV : World.alloc _ _ = V
  rw [hV] at HE HX HR
  clear hV
  have HIV : Hid (∀ e : Later V, IsL e.x (fun b => N ≤ b ∧ b < w.heap.size) (T.mk 4 0 [] false (n + 1) ch) A) := fun e => HI.out.ext (HE.out.trans e.h)
  have q0 : ∀ e : Later V, e.x.cell? ⟨w.heap.size, 0, none⟩ = some (.int .i64 4) := HX.out.cellL 0 rfl
  have q1 : ∀ e : Later V, e.x.cell? ⟨w.heap.size, 1, none⟩ = some (.int .u64 0) := HX.out.cellL 1 rfl
  have q2 : ∀ e : Later V, e.x.cell? ⟨w.heap.size, 2, none⟩ = some (str []) := HX.out.cellL 2 rfl
  have q3 : ∀ e : Later V, e.x.cell? ⟨w.heap.size, 3, none⟩ = some (.slice A (n + 1) c) := HX.out.cellL 3 rfl
  have q4 : ∀ e : Later V, e.x.cell? ⟨w.heap.size, 4, none⟩ = some (.bool false) := HX.out.cellL 4 rfl
  obtain ⟨e, he⟩ := Later.self V
  rw [he]
  clear he
  have HVS : Hid (w.heap.size + 2 ≤ V.heap.size) := Nat.succ_le_of_lt HR.out.lt
  go_upto_region 5 with (first | (go_at_call 21; refine (Ret.later (KB.out _ _ _ (IsL.weak (fun _ _ _ => trivial) _ (HIV.out _)))).mono ?_; rintro x _ ⟨rfl, e, rfl⟩) | (go_at_call 25; refine (KC.out _ (HIV.out _)).mono ?_; rintro x w1 ⟨g, c', ac, rfl, hb1, hg1, hlt1, hown1, hk1⟩))
  have HO1 := hid hown1
  have HK1 := hid hk1
  have HG : Hid (w.heap.size + 2 ≤ g) := by have := HVS.out; have := e.h.size; unfold Hid; omega
  have HE1 := hid (HE.out.trans (e.h.trans hb1))
  have HR1 := hid (HR.out.ext (e.h.trans hb1))
  have HL1 := hid hlt1
  clear hb1 hg1 hlt1 hown1 hk1 HE HR HI q0 q1 q2 q3 q4 HIV HX HVS
  obtain ⟨x0, x1, x2, x3, x4⟩ := flatC_get ch ac (n + 1) n (by omega)
  have y0 : ∀ e : Later w1, e.x.cell? ⟨g, n * 5, none⟩ = _ := cellL (own_cells HO1.out x0)
  have y1 : ∀ e : Later w1, e.x.cell? ⟨g, n * 5 + 1, none⟩ = _ := cellL (own_cells HO1.out x1)
  have y2 : ∀ e : Later w1, e.x.cell? ⟨g, n * 5 + 2, none⟩ = _ := cellL (own_cells HO1.out x2)
  have y3 : ∀ e : Later w1, e.x.cell? ⟨g, n * 5 + 3, none⟩ = _ := cellL (own_cells HO1.out x3)
  have y4 : ∀ e : Later w1, e.x.cell? ⟨g, n * 5 + 4, none⟩ = _ := cellL (own_cells HO1.out x4)
  have HOE : Hid (∀ e : Later w1, e.x.ownsRow _ 43 5 (.slice (some ⟨g, 0, none⟩) (n + 1) c') (n + 1) (flatC ch ac (n + 1))) := fun e => ownsRow_mod HO1.out e.h (fun _ _ => by simp)
  have z : ∀ (e : Later w1) (j : Nat), e.x.frozen? ⟨g, j, none⟩ = false := fun e j => (HOE.out e).frozenAt j
  clear x0 x1 x2 x3 x4
  obtain ⟨e, he⟩ := Later.self w1
  rw [he]
  clear he
  go_upto_region 6 with (first | (go_at_call 59; refine (Ret.later (KS.out _)).mono ?_; rintro x _ ⟨rfl, e, rfl⟩) | (go_at_call 26; refine (Ret.later (StrV_any _ _)).mono ?_; rintro x _ ⟨rfl, e, rfl⟩))
  generalize hW : World.setCell _ _ _ = W2
  have HO2 : Hid (W2.ownsRow _ 43 5 (.slice (some ⟨g, 0, none⟩) (n + 1) c') (n + 1) (flatC (fun i => if i = n then strT S else ch i) (fun i => if i = n then ((none : Option Addr), 0) else ac i) (n + 1))) := hid (by rw [← hW]; exact own_last (n := n) (strT S) none 0 (HOE.out e))
  have HM : Hid (Mod [g] e.x W2) := hid (by rw [← hW]; exact (((((Mod.refl [g] e.x).setCell (.inl (by simp)) _).setCell (.inl (by simp)) _).setCell (.inl (by simp)) _).setCell (.inl (by simp)) _).setCell (.inl (by simp)) _)
  clear hW y0 y1 y2 y3 y4 z
  have HE2 : Hid (Ext w W2) := (((HE1.out.trans e.h).of_ext).trans HM.out).new (fun b hb => .inr (by rw [List.mem_singleton] at hb; subst hb; have := HG.out; omega))
  have HR2 : Hid (Blk W2 (w.heap.size + 1) 43 (itemC (numT 0) none 0)) := (HR1.out.later e).mod HM.out (by have := HG.out; simp; omega)
  have HK2 : Hid (∀ i, i < n + 1 → IsL W2 (fun b => N ≤ b ∧ b < w.heap.size) ((fun i => if i = n then strT S else ch i) i) ((fun i => if i = n then ((none : Option Addr), 0) else ac i) i).1) := fun i hi => by
    by_cases h : i = n
    · subst h; simp only [if_true]; exact str_IsL
    · simp only [if_neg h]
      exact (IsL.mod HM.out (fun b hb _ hs => by rw [List.mem_singleton] at hs; subst hs; have := hb.2; have := HG.out; omega) _ ((HK1.out i hi).ext e.h))
  have HL2 : Hid (g < W2.heap.size) := by have := HL1.out; have := e.h.size; have := HM.out.size; unfold Hid; omega
  obtain ⟨e, he⟩ := Later.self W2
  rw [he]
  clear he
  go_wp2_with (go_at_call 30; refine (Ret.later (ListV_any _ _ _ _)).mono ?_; rintro x _ ⟨rfl, e, rfl⟩; obtain ⟨c0, c1, c2, c3, c4⟩ := cells5 (HR2.out.later e); have f0 := (HR2.out.later e).frozen 0; have f1 := (HR2.out.later e).frozen 1; have f2 := (HR2.out.later e).frozen 2; have f3 := (HR2.out.later e).frozen 3; have f4 := (HR2.out.later e).frozen 4)
  obtain ⟨d0, d1, d2, d3, d4⟩ := cells5 (set5_blk (t := T.mk 4 0 [] false (n + 1) (fun i => if i = n then strT S else ch i)) (A := some ⟨g, 0, none⟩) (c := c') (HR2.out.later e))
  clear c0 c1 c2 c3 c4 f0 f1 f2 f3 f4
  show bodyPost _ _ _ _ _ (set5 e.x (w.heap.size + 1) (T.mk 4 0 [] false (n + 1) (fun i => if i = n then strT S else ch i)) (some ⟨g, 0, none⟩) c')
  refine bodyPost_ret (v := itemV (T.mk 4 0 [] false (n + 1) (fun i => if i = n then strT S else ch i)) (some ⟨g, 0, none⟩) c') (by simp [results, Try.results29, go_sem, d0, d1, d2, d3, d4]) rfl ⟨some ⟨g, 0, none⟩, c', by rw [HU.out], set5_mod (HE2.out.trans e.h) (by omega), ?_⟩
  rw [HU.out]
  refine IsL.weak (fun _ _ h => h.1) _ (IsL.mod (Q := fun b => N ≤ b ∧ b ≠ w.heap.size + 1) set5_modb (fun b hb _ hs => by rw [List.mem_singleton] at hs; exact hb.2 hs) _ ?_)
  refine own_IsL (by have := HL2.out; have := e.h.size; omega) (by have := HG.out; have := HNW.out; exact ⟨by omega, by omega⟩) (ownsRow_mod HO2.out e.h (fun _ _ => by simp)) (fun i hi => IsL.weak (fun b _ hb => ⟨hb.1, by have := hb.2; omega⟩) _ ((HK2.out i hi).ext e.h))
end Go.Proofs.Ytldomommbopgjaa


namespace Go.Proofs.Ytldomommbopgjaa
open Go.RowKit
set_option linter.unusedVariables false

theorem priL_last (p : PV) {k : Nat} (hk : k ≠ 0) (s : List UInt8) : priL p k s = ([numT 7, numT p.fl, numT k, eidT p.d, eidT p.s, eidT p.r, listT [numT p.t, numT p.q], numT p.l] ++ (if p.fl % 2 = 1 then [numT p.o, numT p.n] else [])) ++ [strT s] := by
  unfold priL; rw [if_neg hk, List.append_assoc]
/-- The sum; the whole bytes. -/
def priSum (p : PV) (k : Nat) : List UInt8 := if k = 0 then [] else Crc.sumL k (priB p k (List.replicate (2 * k) 0))
def PV.bytes (p : PV) : List UInt8 := priB p p.crc.toNat (priSum p p.crc.toNat)
def PV.tree (p : PV) : T := priT p p.crc.toNat (priSum p p.crc.toNat)
theorem priSum_length (p : PV) {k : Nat} (hk : k ≤ 2) : (priSum p k).length = 2 * k := by
  unfold priSum
  by_cases h : k = 0
  · rw [if_pos h, h]; rfl
  · rw [if_neg h]; exact Crc.sumL_length (by omega) hk _
theorem PV.tree_all {p : PV} (h : p.ranged = true) : p.tree.ok ∧ (∀ d, 4 ≤ d → p.tree.right d = true) ∧ p.tree.size ≤ 4000 ∧ p.tree.bytes = p.bytes := by
  have hr := PV.ranged_spec h
  have hk : p.crc.toNat ≤ 2 := by omega
  obtain ⟨a, b, c⟩ := priT_all h hk (sum := priSum p p.crc.toNat) (by rw [priSum_length p hk]; omega)
  exact ⟨a, b, c, priT_bytes _ _ _⟩
theorem PV.bytes_length {p : PV} (h : p.ranged = true) : p.bytes.length ≤ 40000 := by
  obtain ⟨_, _, c, d⟩ := PV.tree_all h
  rw [← d]
  have := T.bytes_le p.tree
  omega
theorem psum_any (p : PV) (h : p.ranged = true) (k : Nat) (hc : p.crc = (k : Int)) (N : Nat) (A : Option Addr) (c : Nat) (w : World) (hN : N ≤ w.heap.size) (hl : IsL w (fun b => N ≤ b) (priT p k (List.replicate (2 * k) 0)) A) :
    Calls Try.prog 29 #[.int .i64 (k : Int), itemV (priT p k (List.replicate (2 * k) 0)) A c] w (fun e w' => ∃ A c, e = .returned (itemV p.tree A c) ∧ Ext w w' ∧ IsL w' (fun b => N ≤ b) p.tree A) := by
  have hr := PV.ranged_spec h
  have hk : k ≤ 2 := by omega
  have ht : p.crc.toNat = k := by omega
  unfold PV.tree
  rw [ht]
  by_cases h0 : k = 0
  · subst h0
    have e : priT p 0 (priSum p 0) = priT p 0 (List.replicate (2 * 0) 0) := rfl
    rw [e]
    exact (psummed_0 _ A c w).mono fun x w' ⟨hx, hm⟩ => ⟨A, c, hx, hm, hl.ext hm⟩
  · obtain ⟨a, b, cc⟩ := priT_all h hk (sum := List.replicate (2 * k) 0) (by simp; omega)
    have hb : (priT p k (List.replicate (2 * k) 0)).bytes.length < 1000000 := by have := T.bytes_le (priT p k (List.replicate (2 * k) 0)); omega
    have hb2 : (priT p k (List.replicate (2 * k) 0)).bytes = priB p k (List.replicate (2 * k) 0) := priT_bytes _ _ _
    have hs : priSum p k = Crc.sumL k (priB p k (List.replicate (2 * k) 0)) := by unfold priSum; rw [if_neg h0]
    rw [hs, ← hb2]
    unfold priT at a b cc hb hl ⊢
    rw [priL_last p h0] at a b cc hb hl ⊢
    rw [priL_last p h0 (Crc.sumL _ _)]
    refine psummed_any _ _ k (by omega) hk ?_ a (by omega) (b 8 (by omega)) hb N A c w hN hl
    split <;> simp
set_option maxRecDepth 20000 in
set_option maxHeartbeats 800000 in
theorem cPriItem_bad (p : PV) (hnl : Hid (p.d.name.length < 4611686018427387904 ∧ p.s.name.length < 4611686018427387904 ∧ p.r.name.length < 4611686018427387904)) (hf : p.fl < 18446744073709551616) (hb : p.right ≠ 0) (w : World) : Calls Try.prog 15 #[.agg p.c] w (Ret (.tuple #[itemV (numT 0) none 0, .int .i64 p.right]) w) := by
  have KR := hid (fun W => cPriRight_any p hnl hf W)
  generalize p.right = r at *
  have r1 : (r == 0) = false := by simpa using hb
  have r2 : (r = 0) = False := by simpa using hb
  have r3 : (r != 0) = true := by simpa using hb
  have HE := hid (((Mod.refl [] w).alloc (.cells p.c 26)).alloc (.cells #[.int .i64 0, .int .u64 0, .string ⟨#[]⟩, .slice none 0 0, .bool false] 43))
  have HB := hid ((Blk.new w 26 p.c).alloc (.cells #[.int .i64 0, .int .u64 0, .string ⟨#[]⟩, .slice none 0 0, .bool false] 43))
  have HR : Hid (Blk ((w.alloc (.cells p.c 26)).alloc (.cells #[.int .i64 0, .int .u64 0, .string ⟨#[]⟩, .slice none 0 0, .bool false] 43)) (w.heap.size + 1) 43 (itemC (numT 0) none 0)) := Blk.newL _ _ _ (by simp)
  clear hb hf
  go_enter Try.func15, Try.ntmps15
  go_upto_region 1 with fail
  generalize (w.alloc (.cells p.c 26)).alloc (.cells #[.int .i64 0, .int .u64 0, .string ⟨#[]⟩, .slice none 0 0, .bool false] 43) = V at *
  have HBL : Hid (∀ e : Later V, Blk e.x w.heap.size 26 p.c) := fun e => HB.out.later e
  obtain ⟨e, he⟩ := Later.self V
  rw [he]
  clear he
  go_wp2_with (first | (refine wpList_row (by rfl) 26 _ rfl _ rfl (HBL.out _) Try.underlying26 rfl (by kernel_rfl) ?_) | (go_at_call 18; refine (Ret.later (KR.out _)).mono ?_; rintro x _ ⟨rfl, e, rfl⟩; obtain ⟨c0, c1, c2, c3, c4⟩ := cells5 (HR.out.later e); have f0 := (HR.out.later e).frozen 0; have f1 := (HR.out.later e).frozen 1; have f2 := (HR.out.later e).frozen 2; have f3 := (HR.out.later e).frozen 3; have f4 := (HR.out.later e).frozen 4))
  obtain ⟨d0, d1, d2, d3, d4⟩ := cells5 (set5_blk (t := numT 0) (A := none) (c := 0) (HR.out.later e))
  clear c0 c1 c2 c3 c4 f0 f1 f2 f3 f4
  show bodyPost _ _ _ _ _ (set5 e.x (w.heap.size + 1) (numT 0) none 0)
  refine bodyPost_ret (v := .tuple #[itemV (numT 0) none 0, .int .i64 r]) (by simp [results, Try.results15, go_sem, d0, d1, d2, d3, d4]) rfl (Ret.mk rfl (set5_mod (HE.out.trans e.h) (by omega)))
set_option maxRecDepth 20000 in
set_option maxHeartbeats 800000 in
theorem cPriItem_ok (p : PV) (hnl : Hid (p.d.name.length < 4611686018427387904 ∧ p.s.name.length < 4611686018427387904 ∧ p.r.name.length < 4611686018427387904)) (hf : p.fl < 18446744073709551616) (hb : p.right = 0) (w : World) : Calls Try.prog 15 #[.agg p.c] w (fun e w' => ∃ A c, e = .returned (.tuple #[itemV p.tree A c, .int .i64 0]) ∧ Ext w w' ∧ IsL w' (fun b => w.heap.size ≤ b) p.tree A) := by
  have KR := hid (fun W => cPriRight_any p hnl hf W)
  have hr := PV.right_ranged hb
  have hrs := PV.ranged_spec hr
  rw [hb] at KR
  obtain ⟨k, hc⟩ := Int.eq_ofNat_of_zero_le hrs.2.2.2.1
  have hk : k ≤ 2 := by omega
  have KP := hid (fun W => parts_any p k hc hk hr (List.replicate (2 * k) 0) W)
  have KZ : Hid (∀ W, Calls Try.prog 32 #[.int .i64 p.crc] W (Ret (.int .i64 (2 * (k : Int))) W)) := fun W => by rw [hc]; have := Size_any k hk W; simpa using this
  have KT : Hid (∀ W, Calls Try.prog 27 #[.string ⟨#[0]⟩, .int .i64 (2 * (k : Int))] W (Ret (str (List.replicate (2 * k) 0)) W)) := fun W => by have := Repeat_zero (2 * k) (by omega) W; simpa using this
  have KS : Hid (∀ N A c W, N ≤ W.heap.size → IsL W (fun b => N ≤ b) (priT p k (List.replicate (2 * k) 0)) A → Calls Try.prog 29 #[.int .i64 p.crc, itemV (priT p k (List.replicate (2 * k) 0)) A c] W (fun e w' => ∃ A c, e = .returned (itemV p.tree A c) ∧ Ext W w' ∧ IsL w' (fun b => N ≤ b) p.tree A)) := fun N A c W h1 h2 => by rw [hc]; exact psum_any p hr k hc N A c W h1 h2
  generalize List.replicate (2 * k) (0 : UInt8) = Z at *
  generalize priT p k Z = Y at *
  have k0 : (0 : Int) ≤ (k : Int) := by omega
  have k1 : (k : Int) ≤ 2 := by omega
  have HC := hid hc
  have HE := hid (((Mod.refl [] w).alloc (.cells p.c 26)).alloc (.cells #[.int .i64 0, .int .u64 0, .string ⟨#[]⟩, .slice none 0 0, .bool false] 43))
  have HB := hid ((Blk.new w 26 p.c).alloc (.cells #[.int .i64 0, .int .u64 0, .string ⟨#[]⟩, .slice none 0 0, .bool false] 43))
  have HR : Hid (Blk ((w.alloc (.cells p.c 26)).alloc (.cells #[.int .i64 0, .int .u64 0, .string ⟨#[]⟩, .slice none 0 0, .bool false] 43)) (w.heap.size + 1) 43 (itemC (numT 0) none 0)) := Blk.newL _ _ _ (by simp)
  clear hf hb hr hrs hc hk
  go_enter Try.func15, Try.ntmps15
  go_upto_region 1 with fail
  generalize (w.alloc (.cells p.c 26)).alloc (.cells #[.int .i64 0, .int .u64 0, .string ⟨#[]⟩, .slice none 0 0, .bool false] 43) = V at *
  have HBL : Hid (∀ e : Later V, Blk e.x w.heap.size 26 p.c) := fun e => HB.out.later e
  have HVS : Hid (w.heap.size + 2 ≤ V.heap.size) := Nat.succ_le_of_lt HR.out.lt
  obtain ⟨e, he⟩ := Later.self V
  rw [he]
  clear he
  go_upto_region 4 with (first | (refine wpList_row (by rfl) 26 _ rfl _ rfl (HBL.out _) Try.underlying26 rfl (by kernel_rfl) ?_) | (go_at_call 18; refine (Ret.later (KR.out _)).mono ?_; rintro x _ ⟨rfl, e, rfl⟩))
  have HS : Hid (∀ W, Mod [w.heap.size + 1] V W → W.cell? ⟨w.heap.size, 1, none⟩ = some (.int .i64 p.crc)) := fun W hW => (HB.out.mod hW (by simp)).cell 1
  have HRow : Hid (∀ W, Mod [w.heap.size + 1] V W → Blk W w.heap.size 26 p.c) := fun W hW => HB.out.mod hW (by simp)
  have g2 : max ((2 : Int) * (k : Int)) 0 = (2 * k : Int) := by omega
  refine wp_region_held_drew (S := fun w' => Mod [w.heap.size + 1] V w' ∧ ∃ t A c, Blk w' (w.heap.size + 1) 43 (itemC t A c)) (by kernel_rfl) ⟨((Later.h e).of_ext).drew, _, _, _, (HR.out.later e).drew⟩ (fun hHeld => ?_)
  refine' wpAnyH_take (i := 0) (v := _) rfl (by kernel_rfl) (by kernel_rfl) (by kernel_rfl) (fun _ _ _ h => h) (Or.inl ⟨by rfl, ?hy⟩) hHeld ?rest
  case hy => (rintro W ⟨hM, _⟩; go_simp; (try with_reducible rfl))
  case rest =>
  (try simp only [Act.put, List.setIfInBounds_toArray, List.set_cons_zero, List.set_cons_succ])
  refine' wpAnyH_take (i := 1) (v := _) rfl (by kernel_rfl) (by kernel_rfl) (by kernel_rfl) (fun _ _ _ h => h) (Or.inl ⟨by rfl, ?hy⟩) hHeld ?rest
  case hy => (rintro W ⟨hM, _⟩; have x1 := HS.out W hM; go_simp; (try with_reducible rfl))
  case rest =>
  (try simp only [Act.put, List.setIfInBounds_toArray, List.set_cons_zero, List.set_cons_succ])
  refine wpAnyH_take (i := 2) rfl (by kernel_rfl) (by kernel_rfl) (by kernel_rfl) (fun _ _ _ h => h) (yieldsIf_row (by rfl) 26 _ rfl _ rfl (fun W h => HRow.out W h.1) Try.underlying26 rfl (by kernel_rfl)) hHeld ?_
  (try simp only [Act.put, List.setIfInBounds_toArray, List.set_cons_zero, List.set_cons_succ])
  refine' wpAnyH_take (i := 3) (v := _) rfl (by kernel_rfl) (by kernel_rfl) (by kernel_rfl) (fun _ _ _ h => h) (Or.inl ⟨by rfl, ?hy⟩) hHeld ?rest
  case hy => (rintro W ⟨hM, _⟩; go_simp; (try with_reducible rfl))
  case rest =>
  (try simp only [Act.put, List.setIfInBounds_toArray, List.set_cons_zero, List.set_cons_succ])
  refine' wpAnyH_take (i := 4) (v := _) rfl (by kernel_rfl) (by kernel_rfl) (by kernel_rfl) (fun _ _ _ h => h) (Or.inl ⟨by rfl, ?hy⟩) hHeld ?rest
  case hy => (rintro W ⟨hM, _⟩; have x1 := HS.out W hM; go_simp; (try with_reducible rfl))
  case rest =>
  (try simp only [Act.put, List.setIfInBounds_toArray, List.set_cons_zero, List.set_cons_succ])
  refine wpAnyH_ready (rs := [5]) (by kernel_rfl) (by simp) ?_
  refine AllReadyH.cons rfl (fun K hK => ?_) AllReadyH.nil
  go_simp
  (go_at_call 32; refine (KZ.out _).mono ?_; rintro x w1 ⟨rfl, hb3⟩)
  refine hK.out _ _ ⟨hHeld.1.trans (Mod.of_ext hb3), let ⟨t, A, c, hb⟩ := hHeld.2; ⟨t, A, c, hb.ext hb3⟩⟩ (fun hHeld => ?_)
  clear hK K
  (try simp only [Act.put, List.setIfInBounds_toArray, List.set_cons_zero, List.set_cons_succ])
  refine' wpAnyH_take (i := 6) (v := _) rfl (by kernel_rfl) (by kernel_rfl) (by kernel_rfl) (fun _ _ _ h => h) (Or.inl ⟨by rfl, ?hy⟩) hHeld ?rest
  case hy => (rintro W ⟨hM, _⟩; go_simp; (try with_reducible rfl))
  case rest =>
  (try simp only [Act.put, List.setIfInBounds_toArray, List.set_cons_zero, List.set_cons_succ])
  refine wpAnyH_ready (rs := [7]) (by kernel_rfl) (by simp) ?_
  refine AllReadyH.cons rfl (fun K hK => ?_) AllReadyH.nil
  go_simp
  (go_at_call 27; refine (KT.out _).mono ?_; rintro x w2 ⟨rfl, hb3⟩)
  refine hK.out _ _ ⟨hHeld.1.trans (Mod.of_ext hb3), let ⟨t, A, c, hb⟩ := hHeld.2; ⟨t, A, c, hb.ext hb3⟩⟩ (fun hHeld => ?_)
  clear hK K
  (try simp only [Act.put, List.setIfInBounds_toArray, List.set_cons_zero, List.set_cons_succ])
  refine wpAnyH_ready (rs := [8]) (by kernel_rfl) (by simp) ?_
  refine AllReadyH.cons rfl (fun K hK => ?_) AllReadyH.nil
  go_simp
  (go_at_call 31; refine (KP.out _).mono ?_; rintro x w3 ⟨A, c, rfl, hb3, hl3⟩; have HL3 := hid hl3; have HN3 : Hid (w.heap.size + 2 ≤ w2.heap.size) := Nat.le_trans HVS.out hHeld.1.size)
  refine hK.out _ _ ⟨hHeld.1.trans (Mod.of_ext hb3), let ⟨t, A, c, hb⟩ := hHeld.2; ⟨t, A, c, hb.ext hb3⟩⟩ (fun hHeld => ?_)
  clear hK K
  (try simp only [Act.put, List.setIfInBounds_toArray, List.set_cons_zero, List.set_cons_succ])
  refine wpAnyH_ready (rs := [9]) (by kernel_rfl) (by simp) ?_
  refine AllReadyH.cons rfl (fun K hK => ?_) AllReadyH.nil
  go_simp
  (go_at_call 29; refine (KS.out (w.heap.size + 2) _ _ _ (Nat.le_trans HN3.out hb3.size) (IsL.weak (fun b _ hb => Nat.le_trans HN3.out hb) _ HL3.out)).mono ?_; rintro x w4 ⟨A2, c2, rfl, hb4, hl4⟩; have HL4 := hid hl4)
  refine hK.out _ _ ⟨hHeld.1.trans (Mod.of_ext hb4), let ⟨t, A, c, hb⟩ := hHeld.2; ⟨t, A, c, hb.ext hb4⟩⟩ (fun hHeld => ?_)
  clear hK K
  (try simp only [Act.put, List.setIfInBounds_toArray, List.set_cons_zero, List.set_cons_succ])
  refine wpAnyH_ready (rs := [10]) (by kernel_rfl) (by simp) ?_
  refine AllReadyH.cons rfl (fun K hK => ?_) AllReadyH.nil
  obtain ⟨t0, A0, c0, hb0⟩ := hHeld.2
  obtain ⟨q0, q1, q2, q3, q4⟩ := cells5 hb0
  have f0 := hb0.frozen 0
  have f1 := hb0.frozen 1
  have f2 := hb0.frozen 2
  have f3 := hb0.frozen 3
  have f4 := hb0.frozen 4
  go_simp
  refine hK.out _ _ ⟨set5_modR hHeld.1, p.tree, A2, c2, set5_blk hb0⟩ (fun hHeld => ?_)
  clear hK K
  (try simp only [Act.put, List.setIfInBounds_toArray, List.set_cons_zero, List.set_cons_succ])
  refine wpAnyH_ready (rs := [11]) (by kernel_rfl) (by simp) ?_
  refine AllReadyH.cons rfl (fun K hK => ?_) AllReadyH.nil
  go_simp
  refine hK.out _ _ hHeld (fun hHeld => ?_)
  clear hK K
  (try simp only [Act.put, List.setIfInBounds_toArray, List.set_cons_zero, List.set_cons_succ])
  refine wpAnyH_done (by kernel_rfl) ?_ _
  go_wp2_with fail
  obtain ⟨d0, d1, d2, d3, d4⟩ := cells5 (set5_blk (t := p.tree) (A := A2) (c := c2) hb0)
  clear q0 q1 q2 q3 q4 f0 f1 f2 f3 f4
  show bodyPost _ _ _ _ _ (set5 w4 (w.heap.size + 1) p.tree A2 c2)
  refine bodyPost_ret (v := .tuple #[itemV p.tree A2 c2, .int .i64 0]) (by simp [results, Try.results15, go_sem, d0, d1, d2, d3, d4]) rfl ⟨A2, c2, rfl, (HE.out.of_ext.trans hHeld.1).new (fun b hb => .inr (by rw [List.mem_singleton] at hb; omega)), ?_⟩
  exact IsL.weak (fun _ _ h => by have : w.heap.size + 2 ≤ _ := h; omega) _ (IsL.mod (Q := fun b => w.heap.size + 2 ≤ b) set5_modb (fun b hb _ hs => by rw [List.mem_singleton] at hs; have : w.heap.size + 2 ≤ b := hb; omega) _ HL4.out)
set_option maxRecDepth 20000 in
theorem cPriBuild_bad (p : PV) (hnl : Hid (p.d.name.length < 4611686018427387904 ∧ p.s.name.length < 4611686018427387904 ∧ p.r.name.length < 4611686018427387904)) (hf : p.fl < 18446744073709551616) (hb : p.right ≠ 0) (w : World) : Calls Try.prog 12 #[.agg p.c] w (Ret (.tuple #[str [], .int .i64 p.right]) w) := by
  have KI := hid (fun W => cPriItem_bad p hnl hf hb W)
  generalize p.right = r at *
  have r1 : (r == 0) = false := by simpa using hb
  have r2 : (r = 0) = False := by simpa using hb
  have r3 : (r != 0) = true := by simpa using hb
  have HE := hid ((Mod.refl [] w).alloc (.cells p.c 26))
  have HB := hid (Blk.new w 26 p.c)
  clear hb hf
  go_enter Try.func12, Try.ntmps12
  go_upto_region 1 with fail
  generalize w.alloc (.cells p.c 26) = V at *
  have HBL : Hid (∀ e : Later V, Blk e.x w.heap.size 26 p.c) := fun e => HB.out.later e
  obtain ⟨e, he⟩ := Later.self V
  rw [he]
  clear he
  go_wp2_with (first | (refine wpList_row (by rfl) 26 _ rfl _ rfl (HBL.out _) Try.underlying26 rfl (by kernel_rfl) ?_) | (go_at_call 15; refine (Ret.later (KI.out _)).mono ?_; rintro x _ ⟨rfl, e, rfl⟩))
  go_ret2
  exact Ret.mk rfl (HE.out.trans ((Later.h e).alloc _))
set_option maxRecDepth 20000 in
theorem cPriBuild_ok (p : PV) (hnl : Hid (p.d.name.length < 4611686018427387904 ∧ p.s.name.length < 4611686018427387904 ∧ p.r.name.length < 4611686018427387904)) (hf : p.fl < 18446744073709551616) (hb : p.right = 0) (w : World) : Calls Try.prog 12 #[.agg p.c] w (Ret (.tuple #[str p.bytes, .int .i64 0]) w) := by
  have KI := hid (fun W => cPriItem_ok p hnl hf hb W)
  obtain ⟨t1, t2, t3, t4⟩ := PV.tree_all (PV.right_ranged hb)
  have KB : Hid (∀ A c W, IsL W (fun _ => True) p.tree A → Calls Try.prog 21 #[itemV p.tree A c] W (Ret (.tuple #[str p.bytes, .int .i64 0]) W)) := fun A c W hW => by
    have := iBuild_any p.tree t1 (by omega) A c W hW
    unfold buildV at this
    rwa [if_pos (t2 8 (by omega)), t4] at this
  generalize p.tree = Y at *
  generalize p.bytes = B at *
  have HE := hid ((Mod.refl [] w).alloc (.cells p.c 26))
  have HB := hid (Blk.new w 26 p.c)
  clear hb hf t1 t2 t3 t4
  go_enter Try.func12, Try.ntmps12
  go_upto_region 1 with fail
  generalize w.alloc (.cells p.c 26) = V at *
  have HBL : Hid (∀ e : Later V, Blk e.x w.heap.size 26 p.c) := fun e => HB.out.later e
  obtain ⟨e, he⟩ := Later.self V
  rw [he]
  clear he
  go_upto_region 2 with (first | (refine wpList_row (by rfl) 26 _ rfl _ rfl (HBL.out _) Try.underlying26 rfl (by kernel_rfl) ?_) | (go_at_call 15; refine (KI.out _).mono ?_; rintro x w1 ⟨A, c, rfl, hb1, hl1⟩))
  have HL1 := hid (IsL.ext (IsL.weak (R := fun _ => True) (fun _ _ _ => trivial) _ hl1) ((Mod.refl [] w1).alloc (.cells (itemC Y A c) 43)))
  have HX1 := hid (Blk.new w1 43 (itemC Y A c))
  have HE1 := hid ((HE.out.trans (e.h.trans hb1)).alloc (.cells (itemC Y A c) 43))
  obtain ⟨q0, q1, q2, q3, q4⟩ := cells5 HX1.out
  clear hb1 hl1
  go_wp2_with (go_at_call 21; refine (KB.out _ _ _ HL1.out).mono ?_; rintro x w2 ⟨rfl, hb2⟩)
  go_ret2
  exact Ret.mk rfl (HE1.out.trans hb2)
def PV.plain (p : PV) : PV := { p with crc := 0 }
theorem PV.plain_right {p : PV} (h : p.right = 0) : p.plain.right = 0 := by
  have hr := PV.right_ranged h
  have hr2 : p.plain.ranged = true := by
    have := PV.ranged_spec hr
    unfold PV.plain PV.ranged
    rw [this.1, this.2.1, this.2.2.1]
    simp; omega
  unfold PV.right at h ⊢
  rw [if_neg (by rw [hr]; decide)] at h
  rw [if_neg (by rw [hr2]; decide)]
  exact h
set_option maxRecDepth 20000 in
theorem cPriPlain_bad (p : PV) (hnl : Hid (p.d.name.length < 4611686018427387904 ∧ p.s.name.length < 4611686018427387904 ∧ p.r.name.length < 4611686018427387904)) (hf : p.fl < 18446744073709551616) (hb : p.right ≠ 0) (w : World) : Calls Try.prog 16 #[.agg p.c] w (Ret (.tuple #[str [], .int .i64 p.right]) w) := by
  have KR := hid (fun W => cPriRight_any p hnl hf W)
  generalize p.right = r at *
  have r1 : (r == 0) = false := by simpa using hb
  have r2 : (r = 0) = False := by simpa using hb
  have r3 : (r != 0) = true := by simpa using hb
  have HE := hid ((Mod.refl [] w).alloc (.cells p.c 26))
  have HB := hid (Blk.new w 26 p.c)
  clear hb hf
  go_enter Try.func16, Try.ntmps16
  go_upto_region 1 with fail
  generalize w.alloc (.cells p.c 26) = V at *
  have HBL : Hid (∀ e : Later V, Blk e.x w.heap.size 26 p.c) := fun e => HB.out.later e
  obtain ⟨e, he⟩ := Later.self V
  rw [he]
  clear he
  go_wp2_with (first | (refine wpList_row (by rfl) 26 _ rfl _ rfl (HBL.out _) Try.underlying26 rfl (by kernel_rfl) ?_) | (go_at_call 18; refine (Ret.later (KR.out _)).mono ?_; rintro x _ ⟨rfl, e, rfl⟩))
  go_ret2
  exact Ret.mk rfl (HE.out.trans e.h)
set_option maxRecDepth 20000 in
theorem cPriPlain_ok (p : PV) (hnl : Hid (p.d.name.length < 4611686018427387904 ∧ p.s.name.length < 4611686018427387904 ∧ p.r.name.length < 4611686018427387904)) (hf : p.fl < 18446744073709551616) (hb : p.right = 0) (w : World) : Calls Try.prog 16 #[.agg p.c] w (Ret (.tuple #[str p.plain.bytes, .int .i64 0]) w) := by
  have KR := hid (fun W => cPriRight_any p hnl hf W)
  have KB := hid (fun W => cPriBuild_ok p.plain hnl hf (PV.plain_right hb) W)
  rw [hb] at KR
  generalize p.plain.bytes = B at *
  have HE := hid ((Mod.refl [] w).alloc (.cells p.c 26))
  have HB := hid (Blk.new w 26 p.c)
  clear hb hf
  go_enter Try.func16, Try.ntmps16
  go_upto_region 1 with fail
  generalize w.alloc (.cells p.c 26) = V at *
  have HBL : Hid (∀ e : Later V, Blk e.x w.heap.size 26 p.c) := fun e => HB.out.later e
  have x1 : ∀ e : Later V, e.x.cell? ⟨w.heap.size, 1, none⟩ = some (.int .i64 p.crc) := HB.out.cellL 1 rfl
  have z1 : ∀ e : Later V, e.x.frozen? ⟨w.heap.size, 1, none⟩ = false := fun e => (HB.out.later e).frozen 1
  obtain ⟨e, he⟩ := Later.self V
  rw [he]
  clear he
  go_upto_region 5 with (first | (refine wpList_row (by rfl) 26 _ rfl _ rfl (HBL.out _) Try.underlying26 rfl (by kernel_rfl) ?_) | (go_at_call 18; refine (Ret.later (KR.out _)).mono ?_; rintro x _ ⟨rfl, e, rfl⟩))
  have HE2 : Hid (Ext w (e.x.setCell ⟨w.heap.size, 1, none⟩ (.int .i64 0))) := (HE.out.trans e.h).setCell (.inr (Nat.le_refl _)) _
  have HX2 : Hid (Blk (e.x.setCell ⟨w.heap.size, 1, none⟩ (.int .i64 0)) w.heap.size 26 p.plain.c) := (HB.out.later e).set_ 1 (.int .i64 0)
  generalize e.x.setCell ⟨w.heap.size, 1, none⟩ (.int .i64 0) = V2 at *
  go_wp2_with (first | (refine wpList_row (by rfl) 26 _ rfl _ rfl HX2.out Try.underlying26 rfl (by kernel_rfl) ?_) | (go_at_call 12; refine (KB.out _).mono ?_; rintro x w2 ⟨rfl, hb2⟩))
  go_ret2
  exact Ret.mk rfl (HE2.out.trans hb2)
end Go.Proofs.Ytldomommbopgjaa


namespace Go.Proofs.Ytldomommbopgjaa
open Go.RowKit
set_option linter.unusedVariables false

theorem andNot_one {f : Nat} (hf : f < 18446744073709551616) : bits .andNot .u64 (f : Int) 1 = (f : Int) / 2 * 2 := by
  have h := u64_andNot_nat f 1 hf (by omega)
  have e : f &&& 18446744073709551614 = f / 2 * 2 := by
    have h1 : f &&& 18446744073709551615 = f := by
      have := Nat.and_two_pow_sub_one_eq_mod f 64
      rw [show (2 : Nat) ^ 64 - 1 = 18446744073709551615 from rfl] at this
      rw [this, Nat.mod_eq_of_lt hf]
    have h2 : (18446744073709551615 : Nat) = 18446744073709551614 ||| 1 := by decide
    rw [h2, Nat.and_or_distrib_left, Nat.and_one_is_mod] at h1
    have h3 : (f &&& 18446744073709551614) % 2 = 0 := by
      have := Nat.and_mod_two_pow (a := f) (b := 18446744073709551614) (n := 1)
      simpa using this
    have h4 : (f &&& 18446744073709551614) ||| (f % 2) = (f &&& 18446744073709551614) + f % 2 := by
      obtain ⟨y, hy⟩ : ∃ y, f &&& 18446744073709551614 = 2 * y := ⟨(f &&& 18446744073709551614) / 2, by omega⟩
      rw [hy]
      have hx : f % 2 < 2 := Nat.mod_lt _ (by omega)
      rw [show 2 * y = 2 ^ 1 * y by simp]
      rw [← Nat.two_pow_add_eq_or_of_lt (by simpa using hx)]
    omega
  have h2 : bits .andNot .u64 (f : Int) 1 = bits .andNot .u64 (f : Int) ((1 : Nat) : Int) := rfl
  rw [h2, h, show 18446744073709551615 - 1 = 18446744073709551614 from rfl, e]
  simp
/-- Its name. -/
abbrev idC (s : EV) (t q : Nat) (b : Bool) (o n : Nat) : Array Value := #[.int .i64 s.sch, str s.name, .int .u64 (s.node : Int), .int .u64 (s.svc : Int), .int .u64 (t : Int), .int .u64 (q : Int), .bool b, .int .u64 (o : Int), .int .u64 (n : Int)]
def PV.idV (p : PV) : Value := .agg (idC p.s p.t p.q (has p.fl 1) (if has p.fl 1 then p.o else 0) (if has p.fl 1 then p.n else 0))
theorem PV.one (p : PV) : p.c.all (·.oneCell') = true := by simp [PV.c, Value.oneCell']
def PV.whole (p : PV) : PV := { p with fl := p.fl / 2 * 2, o := 0, n := 0 }
set_option maxRecDepth 20000 in
set_option maxHeartbeats 800000 in
theorem Name_any (p : PV) (hf : p.fl < 18446744073709551616) (w : World) : Calls Try.prog 9 #[.agg p.c] w (Ret p.idV w) := by
  have hfl := hid hf
  have HE := hid (((Mod.refl [] w).alloc (.cells p.c 26)).alloc (.cells #[.int .i64 0, .string ⟨#[]⟩, .int .u64 0, .int .u64 0, .int .u64 0, .int .u64 0, .bool false, .int .u64 0, .int .u64 0] 31))
  have HB := hid ((Blk.new w 26 p.c).alloc (.cells #[.int .i64 0, .string ⟨#[]⟩, .int .u64 0, .int .u64 0, .int .u64 0, .int .u64 0, .bool false, .int .u64 0, .int .u64 0] 31))
  have HR : Hid (Blk ((w.alloc (.cells p.c 26)).alloc (.cells #[.int .i64 0, .string ⟨#[]⟩, .int .u64 0, .int .u64 0, .int .u64 0, .int .u64 0, .bool false, .int .u64 0, .int .u64 0] 31)) (w.heap.size + 1) 31 #[.int .i64 0, .string ⟨#[]⟩, .int .u64 0, .int .u64 0, .int .u64 0, .int .u64 0, .bool false, .int .u64 0, .int .u64 0]) := Blk.newL _ _ _ (by simp)
  clear hf
  go_enter Try.func9, Try.ntmps9
  go_upto_region 1 with fail
  generalize (w.alloc (.cells p.c 26)).alloc (.cells #[.int .i64 0, .string ⟨#[]⟩, .int .u64 0, .int .u64 0, .int .u64 0, .int .u64 0, .bool false, .int .u64 0, .int .u64 0] 31) = V at *
  have c0 : V.cell? ⟨w.heap.size, 6, none⟩ = some (.int .i64 p.s.sch) := HB.out.cell 6
  have c1 : V.cell? ⟨w.heap.size, 7, none⟩ = some (str p.s.name) := HB.out.cell 7
  have c2 : V.cell? ⟨w.heap.size, 8, none⟩ = some (.int .u64 (p.s.node : Int)) := HB.out.cell 8
  have c3 : V.cell? ⟨w.heap.size, 9, none⟩ = some (.int .u64 (p.s.svc : Int)) := HB.out.cell 9
  have c4 : V.cell? ⟨w.heap.size, 14, none⟩ = some (.int .u64 (p.t : Int)) := HB.out.cell 14
  have c5 : V.cell? ⟨w.heap.size, 15, none⟩ = some (.int .u64 (p.q : Int)) := HB.out.cell 15
  go_upto_region 2 with fail
  clear c0 c1 c2 c3 c4 c5
  have HNE : Hid (w.heap.size + 2 ≤ V.heap.size) := Nat.succ_le_of_lt HR.out.lt
  generalize hV : World.alloc V _ = V1
  have HI : Hid (Blk V1 V.heap.size 31 (idC p.s p.t p.q false 0 0)) := hid (by rw [← hV]; exact Blk.new _ _ _)
  have HB1 : Hid (Blk V1 w.heap.size 26 p.c) := hid (by rw [← hV]; exact HB.out.alloc _)
  have HR1 : Hid (Blk V1 (w.heap.size + 1) 31 #[.int .i64 0, .string ⟨#[]⟩, .int .u64 0, .int .u64 0, .int .u64 0, .int .u64 0, .bool false, .int .u64 0, .int .u64 0]) := hid (by rw [← hV]; exact HR.out.alloc _)
  have HE1 : Hid (Ext w V1) := hid (by rw [← hV]; exact HE.out.alloc _)
  clear hV HB HR HE
  generalize V.heap.size = g at *
  clear V
  have b0 : V1.cell? ⟨w.heap.size, 0, none⟩ = some (.int .u64 (p.fl : Int)) := HB1.out.cell 0
  cases hx : has p.fl 1 with
  | true =>
    have hx2 : p.fl % 2 = 1 := by unfold has at hx; simpa using hx
    have a1 : bits .and .u64 (p.fl : Int) 1 = 1 := by have h := andP_yes (k := 0) hfl.out (by omega) (by simpa using hx2); simpa using h
    have HV : Hid (p.idV = .agg (idC p.s p.t p.q true p.o p.n)) := by unfold Hid PV.idV; rw [hx]; rfl
    clear hx hx2
    have b17 : V1.cell? ⟨w.heap.size, 17, none⟩ = some (.int .u64 (p.o : Int)) := HB1.out.cell 17
    have b18 : V1.cell? ⟨w.heap.size, 18, none⟩ = some (.int .u64 (p.n : Int)) := HB1.out.cell 18
    have d6 : V1.cell? ⟨g, 6, none⟩ = some (.bool false) := HI.out.cell 6
    have d7 : V1.cell? ⟨g, 7, none⟩ = some (.int .u64 0) := HI.out.cell 7
    have d8 : V1.cell? ⟨g, 8, none⟩ = some (.int .u64 0) := HI.out.cell 8
    have f6 := HI.out.frozen 6
    have f7 := HI.out.frozen 7
    have f8 := HI.out.frozen 8
    go_upto_region 3 with fail
    go_region
    generalize hW : World.drew _ = W2
    have HI2 : Hid (Blk W2 g 31 (idC p.s p.t p.q true p.o p.n)) := hid (by rw [← hW]; exact (((HI.out.set_ 6 (.bool true)).set_ 7 (.int .u64 (p.o : Int))).set_ 8 (.int .u64 (p.n : Int))).drew)
    have HR2 : Hid (Blk W2 (w.heap.size + 1) 31 #[.int .i64 0, .string ⟨#[]⟩, .int .u64 0, .int .u64 0, .int .u64 0, .int .u64 0, .bool false, .int .u64 0, .int .u64 0]) := hid (by rw [← hW]; exact (((HR1.out.far (p := ⟨g, 6, none⟩) (by have := HNE.out; simp; omega) _).far (p := ⟨g, 7, none⟩) (by have := HNE.out; simp; omega) _).far (p := ⟨g, 8, none⟩) (by have := HNE.out; simp; omega) _).drew)
    have HE2 : Hid (Ext w W2) := hid (by rw [← hW]; exact (((HE1.out.setCell (p := ⟨g, 6, none⟩) (.inr (by have := HNE.out; show w.heap.size ≤ g; omega)) _).setCell (p := ⟨g, 7, none⟩) (.inr (by have := HNE.out; show w.heap.size ≤ g; omega)) _).setCell (p := ⟨g, 8, none⟩) (.inr (by have := HNE.out; show w.heap.size ≤ g; omega)) _).drew)
    clear hW b0 b17 b18 d6 d7 d8 f6 f7 f8
    have c0 : W2.cell? ⟨w.heap.size + 1, 0, none⟩ = some (.int .i64 0) := HR2.out.cell 0
    have f0 := HR2.out.frozen 0
    have c1 : W2.cell? ⟨w.heap.size + 1, 1, none⟩ = some (str []) := HR2.out.cell 1
    have f1 := HR2.out.frozen 1
    have c2 : W2.cell? ⟨w.heap.size + 1, 2, none⟩ = some (.int .u64 0) := HR2.out.cell 2
    have f2 := HR2.out.frozen 2
    have c3 : W2.cell? ⟨w.heap.size + 1, 3, none⟩ = some (.int .u64 0) := HR2.out.cell 3
    have f3 := HR2.out.frozen 3
    have c4 : W2.cell? ⟨w.heap.size + 1, 4, none⟩ = some (.int .u64 0) := HR2.out.cell 4
    have f4 := HR2.out.frozen 4
    have c5 : W2.cell? ⟨w.heap.size + 1, 5, none⟩ = some (.int .u64 0) := HR2.out.cell 5
    have f5 := HR2.out.frozen 5
    have c6 : W2.cell? ⟨w.heap.size + 1, 6, none⟩ = some (.bool false) := HR2.out.cell 6
    have f6 := HR2.out.frozen 6
    have c7 : W2.cell? ⟨w.heap.size + 1, 7, none⟩ = some (.int .u64 0) := HR2.out.cell 7
    have f7 := HR2.out.frozen 7
    have c8 : W2.cell? ⟨w.heap.size + 1, 8, none⟩ = some (.int .u64 0) := HR2.out.cell 8
    have f8 := HR2.out.frozen 8
    go_wp2_with (refine wpList_row (by rfl) 31 _ rfl _ rfl HI2.out Try.underlying31 rfl (by kernel_rfl) ?_)
    have HX := setRow_all (ds := idC p.s p.t p.q true p.o p.n) HR2.out rfl
    have d0 := HX.cell 0
    have d1 := HX.cell 1
    have d2 := HX.cell 2
    have d3 := HX.cell 3
    have d4 := HX.cell 4
    have d5 := HX.cell 5
    have d6 := HX.cell 6
    have d7 := HX.cell 7
    have d8 := HX.cell 8
    clear c0 c1 c2 c3 c4 c5 c6 c7 c8 f0 f1 f2 f3 f4 f5 f6 f7 f8
    show bodyPost _ _ _ _ _ (setRow W2 (w.heap.size + 1) 0 (idC p.s p.t p.q true p.o p.n).toList)
    have HM : Ext w (setRow W2 (w.heap.size + 1) 0 (idC p.s p.t p.q true p.o p.n).toList) := setRow_mod _ _ _ HE2.out (.inr (by omega))
    generalize setRow W2 (w.heap.size + 1) 0 (idC p.s p.t p.q true p.o p.n).toList = WF at *
    refine bodyPost_ret (v := .agg (idC p.s p.t p.q true p.o p.n)) (by simp [results, Try.results9, go_sem, d0, d1, d2, d3, d4, d5, d6, d7, d8]) rfl (Ret.mk HV.out.symm HM)
  | false =>
    have hx2 : ¬ p.fl % 2 = 1 := by unfold has at hx; simpa using hx
    have a1 : bits .and .u64 (p.fl : Int) 1 = 0 := by have h := andP_no (k := 0) hfl.out (by omega) (by have : p.fl % 2 = 0 := (by omega); simpa using this); simpa using h
    have HV : Hid (p.idV = .agg (idC p.s p.t p.q false 0 0)) := by unfold Hid PV.idV; rw [hx]; rfl
    clear hx hx2
    go_upto_region 4 with fail
    have HI2 := HI
    have HR2 := HR1
    have HE2 := HE1
    clear b0
    have c0 : V1.cell? ⟨w.heap.size + 1, 0, none⟩ = some (.int .i64 0) := HR2.out.cell 0
    have f0 := HR2.out.frozen 0
    have c1 : V1.cell? ⟨w.heap.size + 1, 1, none⟩ = some (str []) := HR2.out.cell 1
    have f1 := HR2.out.frozen 1
    have c2 : V1.cell? ⟨w.heap.size + 1, 2, none⟩ = some (.int .u64 0) := HR2.out.cell 2
    have f2 := HR2.out.frozen 2
    have c3 : V1.cell? ⟨w.heap.size + 1, 3, none⟩ = some (.int .u64 0) := HR2.out.cell 3
    have f3 := HR2.out.frozen 3
    have c4 : V1.cell? ⟨w.heap.size + 1, 4, none⟩ = some (.int .u64 0) := HR2.out.cell 4
    have f4 := HR2.out.frozen 4
    have c5 : V1.cell? ⟨w.heap.size + 1, 5, none⟩ = some (.int .u64 0) := HR2.out.cell 5
    have f5 := HR2.out.frozen 5
    have c6 : V1.cell? ⟨w.heap.size + 1, 6, none⟩ = some (.bool false) := HR2.out.cell 6
    have f6 := HR2.out.frozen 6
    have c7 : V1.cell? ⟨w.heap.size + 1, 7, none⟩ = some (.int .u64 0) := HR2.out.cell 7
    have f7 := HR2.out.frozen 7
    have c8 : V1.cell? ⟨w.heap.size + 1, 8, none⟩ = some (.int .u64 0) := HR2.out.cell 8
    have f8 := HR2.out.frozen 8
    go_wp2_with (refine wpList_row (by rfl) 31 _ rfl _ rfl HI2.out Try.underlying31 rfl (by kernel_rfl) ?_)
    have HX := setRow_all (ds := idC p.s p.t p.q false 0 0) HR2.out rfl
    have d0 := HX.cell 0
    have d1 := HX.cell 1
    have d2 := HX.cell 2
    have d3 := HX.cell 3
    have d4 := HX.cell 4
    have d5 := HX.cell 5
    have d6 := HX.cell 6
    have d7 := HX.cell 7
    have d8 := HX.cell 8
    clear c0 c1 c2 c3 c4 c5 c6 c7 c8 f0 f1 f2 f3 f4 f5 f6 f7 f8
    show bodyPost _ _ _ _ _ (setRow V1 (w.heap.size + 1) 0 (idC p.s p.t p.q false 0 0).toList)
    have HM : Ext w (setRow V1 (w.heap.size + 1) 0 (idC p.s p.t p.q false 0 0).toList) := setRow_mod _ _ _ HE2.out (.inr (by omega))
    generalize setRow V1 (w.heap.size + 1) 0 (idC p.s p.t p.q false 0 0).toList = WF at *
    refine bodyPost_ret (v := .agg (idC p.s p.t p.q false 0 0)) (by simp [results, Try.results9, go_sem, d0, d1, d2, d3, d4, d5, d6, d7, d8]) rfl (Ret.mk HV.out.symm HM)
set_option maxRecDepth 20000 in
set_option maxHeartbeats 1600000 in
theorem Whole_any (p : PV) (hf : p.fl < 18446744073709551616) (w : World) : Calls Try.prog 10 #[.agg p.c] w (Ret (.agg p.whole.c) w) := by
  have a1 := andNot_one hf
  have HE := hid (((Mod.refl [] w).alloc (.cells p.c 26)).alloc (.cells #[.int .u64 0, .int .i64 0, .int .i64 0, .string ⟨#[]⟩, .int .u64 0, .int .u64 0, .int .i64 0, .string ⟨#[]⟩, .int .u64 0, .int .u64 0, .int .i64 0, .string ⟨#[]⟩, .int .u64 0, .int .u64 0, .int .u64 0, .int .u64 0, .int .u64 0, .int .u64 0, .int .u64 0] 26))
  have HB := hid ((Blk.new w 26 p.c).alloc (.cells #[.int .u64 0, .int .i64 0, .int .i64 0, .string ⟨#[]⟩, .int .u64 0, .int .u64 0, .int .i64 0, .string ⟨#[]⟩, .int .u64 0, .int .u64 0, .int .i64 0, .string ⟨#[]⟩, .int .u64 0, .int .u64 0, .int .u64 0, .int .u64 0, .int .u64 0, .int .u64 0, .int .u64 0] 26))
  have HR : Hid (Blk ((w.alloc (.cells p.c 26)).alloc (.cells #[.int .u64 0, .int .i64 0, .int .i64 0, .string ⟨#[]⟩, .int .u64 0, .int .u64 0, .int .i64 0, .string ⟨#[]⟩, .int .u64 0, .int .u64 0, .int .i64 0, .string ⟨#[]⟩, .int .u64 0, .int .u64 0, .int .u64 0, .int .u64 0, .int .u64 0, .int .u64 0, .int .u64 0] 26)) (w.heap.size + 1) 26 #[.int .u64 0, .int .i64 0, .int .i64 0, .string ⟨#[]⟩, .int .u64 0, .int .u64 0, .int .i64 0, .string ⟨#[]⟩, .int .u64 0, .int .u64 0, .int .i64 0, .string ⟨#[]⟩, .int .u64 0, .int .u64 0, .int .u64 0, .int .u64 0, .int .u64 0, .int .u64 0, .int .u64 0]) := Blk.newL _ _ _ (by simp)
  clear hf
  go_enter Try.func10, Try.ntmps10
  go_upto_region 1 with fail
  generalize (w.alloc (.cells p.c 26)).alloc (.cells #[.int .u64 0, .int .i64 0, .int .i64 0, .string ⟨#[]⟩, .int .u64 0, .int .u64 0, .int .i64 0, .string ⟨#[]⟩, .int .u64 0, .int .u64 0, .int .i64 0, .string ⟨#[]⟩, .int .u64 0, .int .u64 0, .int .u64 0, .int .u64 0, .int .u64 0, .int .u64 0, .int .u64 0] 26) = V at *
  have b0 : V.cell? ⟨w.heap.size, 0, none⟩ = some (.int .u64 (p.fl : Int)) := HB.out.cell 0
  have b17 : V.cell? ⟨w.heap.size, 17, none⟩ = some (.int .u64 (p.o : Int)) := HB.out.cell 17
  have b18 : V.cell? ⟨w.heap.size, 18, none⟩ = some (.int .u64 (p.n : Int)) := HB.out.cell 18
  have z0 := HB.out.frozen 0
  have z17 := HB.out.frozen 17
  have z18 := HB.out.frozen 18
  go_upto_region 3 with fail
  generalize hW : World.setCell _ _ _ = W2
  have HB2 : Hid (Blk W2 w.heap.size 26 p.whole.c) := hid (by
    rw [← hW]
    have := ((HB.out.set_ 0 (.int .u64 ((p.fl : Int) / 2 * 2))).set_ 17 (.int .u64 0)).set_ 18 (.int .u64 0)
    have e : p.whole.c = ((p.c.setIfInBounds 0 (.int .u64 ((p.fl : Int) / 2 * 2))).setIfInBounds 17 (.int .u64 0)).setIfInBounds 18 (.int .u64 0) := by simp [PV.whole]
    rw [e]; exact this)
  have HR2 : Hid (Blk W2 (w.heap.size + 1) 26 #[.int .u64 0, .int .i64 0, .int .i64 0, .string ⟨#[]⟩, .int .u64 0, .int .u64 0, .int .i64 0, .string ⟨#[]⟩, .int .u64 0, .int .u64 0, .int .i64 0, .string ⟨#[]⟩, .int .u64 0, .int .u64 0, .int .u64 0, .int .u64 0, .int .u64 0, .int .u64 0, .int .u64 0]) := hid (by rw [← hW]; exact ((HR.out.far (p := ⟨w.heap.size, 0, none⟩) (by simp) _).far (p := ⟨w.heap.size, 17, none⟩) (by simp) _).far (p := ⟨w.heap.size, 18, none⟩) (by simp) _)
  have HE2 : Hid (Ext w W2) := hid (by rw [← hW]; exact ((HE.out.setCell (p := ⟨w.heap.size, 0, none⟩) (.inr (Nat.le_refl _)) _).setCell (p := ⟨w.heap.size, 17, none⟩) (.inr (Nat.le_refl _)) _).setCell (p := ⟨w.heap.size, 18, none⟩) (.inr (Nat.le_refl _)) _)
  clear hW b0 b17 b18 z0 z17 z18 HB HR HE a1
  generalize p.whole = P at *
  go_wp2_with (refine wpList_row (by rfl) 26 _ rfl _ rfl HB2.out Try.underlying26 rfl (by kernel_rfl) ?_; refine wpList_store_mid rfl 26 _ _ rfl (w.heap.size + 1) 0 P.c (by rfl) (by rfl) (HR2.out.there (Nat.le_refl 19)) (by kernel_rfl) P.one ?_)
  have HX := setCells_all (ds := P.c) HR2.out rfl
  have HM : Ext w (W2.setCells (w.heap.size + 1) 0 P.c.toList) := setCells_mod _ _ HE2.out (.inr (by omega))
  refine bodyPost_ret (v := .agg P.c) (results_cell Try.results10 _ rfl HX Try.underlying26 rfl (by kernel_rfl)) rfl (Ret.mk rfl HM)
end Go.Proofs.Ytldomommbopgjaa


namespace Go.Proofs.Ytldomommbopgjaa
open Go.RowKit
set_option linter.unusedVariables false

def someP : PV := ⟨0, 0, ⟨2, [], 2, 0⟩, ⟨2, [], 1, 0⟩, ⟨1, [110, 111, 110, 101], 0, 0⟩, 5, 0, 100, 0, 0⟩
def zeroP : PV := ⟨0, 0, ⟨0, [], 0, 0⟩, ⟨0, [], 0, 0⟩, ⟨0, [], 0, 0⟩, 0, 0, 0, 0, 0⟩
theorem someP_ok : someP.right = 0 ∧ someP.bytes.length = 22 ∧ zeroP.right = 1 := by decide
set_option maxRecDepth 20000 in
theorem some11_any (w : World) : Calls Try.prog 17 #[] w (Ret (.agg #[.int .u64 0, .int .i64 0, .int .i64 2, str [], .int .u64 2, .int .u64 0, .int .i64 2, str [], .int .u64 1, .int .u64 0, .int .i64 1, str [110, 111, 110, 101], .int .u64 0, .int .u64 0, .int .u64 5, .int .u64 0, .int .u64 100, .int .u64 0, .int .u64 0]) w) := by
  have HR := hid (Blk.new w 26 #[.int .u64 0, .int .i64 0, .int .i64 0, .string ⟨#[]⟩, .int .u64 0, .int .u64 0, .int .i64 0, .string ⟨#[]⟩, .int .u64 0, .int .u64 0, .int .i64 0, .string ⟨#[]⟩, .int .u64 0, .int .u64 0, .int .u64 0, .int .u64 0, .int .u64 0, .int .u64 0, .int .u64 0])
  have HE := hid ((Mod.refl [] w).alloc (.cells #[.int .u64 0, .int .i64 0, .int .i64 0, .string ⟨#[]⟩, .int .u64 0, .int .u64 0, .int .i64 0, .string ⟨#[]⟩, .int .u64 0, .int .u64 0, .int .i64 0, .string ⟨#[]⟩, .int .u64 0, .int .u64 0, .int .u64 0, .int .u64 0, .int .u64 0, .int .u64 0, .int .u64 0] 26))
  go_enter Try.func17, Try.ntmps17
  go_upto_region 1 with fail
  generalize w.alloc (.cells #[.int .u64 0, .int .i64 0, .int .i64 0, .string ⟨#[]⟩, .int .u64 0, .int .u64 0, .int .i64 0, .string ⟨#[]⟩, .int .u64 0, .int .u64 0, .int .i64 0, .string ⟨#[]⟩, .int .u64 0, .int .u64 0, .int .u64 0, .int .u64 0, .int .u64 0, .int .u64 0, .int .u64 0] 26) = V at *
  go_wp2_with (refine wpList_store_mid rfl 26 _ _ rfl w.heap.size 0 #[.int .u64 0, .int .i64 0, .int .i64 2, str [], .int .u64 2, .int .u64 0, .int .i64 2, str [], .int .u64 1, .int .u64 0, .int .i64 1, str [110, 111, 110, 101], .int .u64 0, .int .u64 0, .int .u64 5, .int .u64 0, .int .u64 100, .int .u64 0, .int .u64 0] (by rfl) (by rfl) (HR.out.there (Nat.le_refl 19)) (by kernel_rfl) (by simp [Value.oneCell']) ?_)
  have HX := setCells_all (ds := #[.int .u64 0, .int .i64 0, .int .i64 2, str [], .int .u64 2, .int .u64 0, .int .i64 2, str [], .int .u64 1, .int .u64 0, .int .i64 1, str [110, 111, 110, 101], .int .u64 0, .int .u64 0, .int .u64 5, .int .u64 0, .int .u64 100, .int .u64 0, .int .u64 0]) HR.out rfl
  have HM : Ext w (V.setCells w.heap.size 0 (#[.int .u64 0, .int .i64 0, .int .i64 2, str [], .int .u64 2, .int .u64 0, .int .i64 2, str [], .int .u64 1, .int .u64 0, .int .i64 1, str [110, 111, 110, 101], .int .u64 0, .int .u64 0, .int .u64 5, .int .u64 0, .int .u64 100, .int .u64 0, .int .u64 0] : Array Value).toList) := setCells_mod _ _ HE.out (.inr (Nat.le_refl _))
  refine bodyPost_ret (v := .agg #[.int .u64 0, .int .i64 0, .int .i64 2, str [], .int .u64 2, .int .u64 0, .int .i64 2, str [], .int .u64 1, .int .u64 0, .int .i64 1, str [110, 111, 110, 101], .int .u64 0, .int .u64 0, .int .u64 5, .int .u64 0, .int .u64 100, .int .u64 0, .int .u64 0]) (results_cell Try.results17 _ rfl HX Try.underlying26 rfl (by kernel_rfl)) rfl (Ret.mk rfl HM)
set_option maxRecDepth 20000 in
theorem awake11_any (w : World) : Calls Try.prog 6 #[] w (Ret (.bool true) w) := by
  have KS := hid (fun W => some11_any W)
  have KB := hid (fun W => cPriBuild_ok someP (by unfold Hid; decide) (by decide) someP_ok.1 W)
  have KR := hid (fun W => cPriRight_any zeroP (by unfold Hid; decide) (by decide) W)
  rw [someP_ok.2.2] at KR
  have hl := someP_ok.2.1
  generalize someP.bytes = B at *
  have l1 : ((B.length : Int) == 22) = true := by rw [hl]; rfl
  have l2 : ((B.length : Int) = 22) = True := by rw [hl]; simp
  have l3 : (B.length = 22) = True := by rw [hl]; simp
  clear hl
  go_enter Try.func6, Try.ntmps6
  go_wp2_with (first | (go_at_call 17; refine (Ret.laterW (Mod.refl [] w) (KS.out _)).mono ?_; rintro x _ ⟨rfl, e, rfl⟩) | (go_at_call 12; refine (Ret.later (KB.out _)).mono ?_; rintro x _ ⟨rfl, e, rfl⟩) | (go_at_call 18; refine (Ret.later (KR.out _)).mono ?_; rintro x _ ⟨rfl, e, rfl⟩))
  go_ret
  exact Ret.mk rfl e.h
set_option maxRecDepth 20000 in
set_option maxHeartbeats 8000000 in
theorem names_few (fl1 : Nat) (crc1 : Int) (d1 : EV) (sa1 : Int) (sb1 : List UInt8) (sc1 sd1 : Nat) (r1 : EV) (t1 q1 l1 o1 n1 : Nat) (fl2 : Nat) (crc2 : Int) (d2 : EV) (sa2 : Int) (sb2 : List UInt8) (sc2 sd2 : Nat) (r2 : EV) (t2 q2 l2 o2 n2 : Nat) (hf1 : fl1 < 18446744073709551616) (hf2 : fl2 < 18446744073709551616) (hF : ((⟨fl1, crc1, d1, ⟨sa1, sb1, sc1, sd1⟩, r1, t1, q1, l1, o1, n1⟩ : PV).few && (⟨fl2, crc2, d2, ⟨sa2, sb2, sc2, sd2⟩, r2, t2, q2, l2, o2, n2⟩ : PV).few) = false) (w : World) : Calls Try.prog 3 #[.agg (⟨fl1, crc1, d1, ⟨sa1, sb1, sc1, sd1⟩, r1, t1, q1, l1, o1, n1⟩ : PV).c, .agg (⟨fl2, crc2, d2, ⟨sa2, sb2, sc2, sd2⟩, r2, t2, q2, l2, o2, n2⟩ : PV).c] w (Ret (.bool true) w) := by
  have HF := hid hF
  clear hF
  have KA := hid (fun W => awake11_any W)
  have KF1 := hid (fun W => few11P_any (⟨fl1, crc1, d1, ⟨sa1, sb1, sc1, sd1⟩, r1, t1, q1, l1, o1, n1⟩ : PV) W)
  have KF2 := hid (fun W => few11P_any (⟨fl2, crc2, d2, ⟨sa2, sb2, sc2, sd2⟩, r2, t2, q2, l2, o2, n2⟩ : PV) W)
  have KN1 := hid (fun W => Name_any (⟨fl1, crc1, d1, ⟨sa1, sb1, sc1, sd1⟩, r1, t1, q1, l1, o1, n1⟩ : PV) hf1 W)
  have KN2 := hid (fun W => Name_any (⟨fl2, crc2, d2, ⟨sa2, sb2, sc2, sd2⟩, r2, t2, q2, l2, o2, n2⟩ : PV) hf2 W)
  have KW1 := hid (fun W => Whole_any (⟨fl1, crc1, d1, ⟨sa1, sb1, sc1, sd1⟩, r1, t1, q1, l1, o1, n1⟩ : PV) hf1 W)
  have KW2 := hid (fun W => Whole_any (⟨fl2, crc2, d2, ⟨sa2, sb2, sc2, sd2⟩, r2, t2, q2, l2, o2, n2⟩ : PV) hf2 W)
  have KM1 := hid (fun W => Name_any (⟨fl1 / 2 * 2, crc1, d1, ⟨sa1, sb1, sc1, sd1⟩, r1, t1, q1, l1, 0, 0⟩ : PV) (show fl1 / 2 * 2 < 18446744073709551616 by omega) W)
  have KM2 := hid (fun W => Name_any (⟨fl2 / 2 * 2, crc2, d2, ⟨sa2, sb2, sc2, sd2⟩, r2, t2, q2, l2, 0, 0⟩ : PV) (show fl2 / 2 * 2 < 18446744073709551616 by omega) W)
  have KH1 : Hid (∀ W, Calls Try.prog 8 #[.int .u64 (fl1 : Int), .int .i64 1] W (Ret (.bool (has fl1 1)) W)) := fun W => Has_any fl1 1 hf1 (by omega) (by omega) W
  have KH2 : Hid (∀ W, Calls Try.prog 8 #[.int .u64 (fl2 : Int), .int .i64 1] W (Ret (.bool (has fl2 1)) W)) := fun W => Has_any fl2 1 hf2 (by omega) (by omega) W
  have hw1 : has (fl1 / 2 * 2) 1 = false := by unfold has; simp
  have hw2 : has (fl2 / 2 * 2) 1 = false := by unfold has; simp
  have KG1 : Hid (∀ W, Calls Try.prog 8 #[.int .u64 ((fl1 : Int) / 2 * 2), .int .i64 1] W (Ret (.bool false) W)) := fun W => by have := Has_any (fl1 / 2 * 2) 1 (by omega) (by omega) (by omega) W; rw [hw1] at this; simpa using this
  unfold PV.idV at KN1 KN2 KM1 KM2
  dsimp only at KN1 KN2 KM1 KM2
  rw [hw1] at KM1
  rw [hw2] at KM2
  dsimp only [PV.whole] at KW1 KW2
  simp only [Bool.false_eq_true, if_false] at KM1 KM2
  have u1 : IntKind.u64.wrap ((fl1 : Int) / 2) = (fl1 : Int) / 2 := IntWalk.u64_in _ (by omega)
  have u2 : IntKind.u64.wrap ((fl1 : Int) / 2 * 2) = (fl1 : Int) / 2 * 2 := IntWalk.u64_in _ (by omega)
  have f0 : (0 : Int) ≤ (fl1 : Int) := by omega
  have HE := hid (((Mod.refl [] w).alloc (.cells (⟨fl1, crc1, d1, ⟨sa1, sb1, sc1, sd1⟩, r1, t1, q1, l1, o1, n1⟩ : PV).c 26)).alloc (.cells (⟨fl2, crc2, d2, ⟨sa2, sb2, sc2, sd2⟩, r2, t2, q2, l2, o2, n2⟩ : PV).c 26))
  have HB1 := hid ((Blk.new w 26 (⟨fl1, crc1, d1, ⟨sa1, sb1, sc1, sd1⟩, r1, t1, q1, l1, o1, n1⟩ : PV).c).alloc (.cells (⟨fl2, crc2, d2, ⟨sa2, sb2, sc2, sd2⟩, r2, t2, q2, l2, o2, n2⟩ : PV).c 26))
  have HB2 : Hid (Blk ((w.alloc (.cells (⟨fl1, crc1, d1, ⟨sa1, sb1, sc1, sd1⟩, r1, t1, q1, l1, o1, n1⟩ : PV).c 26)).alloc (.cells (⟨fl2, crc2, d2, ⟨sa2, sb2, sc2, sd2⟩, r2, t2, q2, l2, o2, n2⟩ : PV).c 26)) (w.heap.size + 1) 26 (⟨fl2, crc2, d2, ⟨sa2, sb2, sc2, sd2⟩, r2, t2, q2, l2, o2, n2⟩ : PV).c) := Blk.newL _ _ _ (by simp)
  obtain ⟨oo1, hoo1⟩ : ∃ x, (if has fl1 1 = true then o1 else 0) = x := ⟨_, rfl⟩
  obtain ⟨nn1, hnn1⟩ : ∃ x, (if has fl1 1 = true then n1 else 0) = x := ⟨_, rfl⟩
  obtain ⟨oo2, hoo2⟩ : ∃ x, (if has fl2 1 = true then o2 else 0) = x := ⟨_, rfl⟩
  obtain ⟨nn2, hnn2⟩ : ∃ x, (if has fl2 1 = true then n2 else 0) = x := ⟨_, rfl⟩
  rw [hoo1, hnn1] at KN1
  rw [hoo2, hnn2] at KN2
  have HO1 := hid hoo1
  have HO2 := hid hoo2
  have HN1 := hid hnn1
  have HN2 := hid hnn2
  clear hw1 hw2 hf1 hf2 hoo1 hoo2 hnn1 hnn2
  generalize (⟨fl1, crc1, d1, ⟨sa1, sb1, sc1, sd1⟩, r1, t1, q1, l1, o1, n1⟩ : PV).few = F1 at *
  generalize (⟨fl2, crc2, d2, ⟨sa2, sb2, sc2, sd2⟩, r2, t2, q2, l2, o2, n2⟩ : PV).few = F2 at *
  go_enter Try.func3, Try.ntmps3
  go_upto_region 1 with fail
  generalize (w.alloc (.cells (⟨fl1, crc1, d1, ⟨sa1, sb1, sc1, sd1⟩, r1, t1, q1, l1, o1, n1⟩ : PV).c 26)).alloc (.cells (⟨fl2, crc2, d2, ⟨sa2, sb2, sc2, sd2⟩, r2, t2, q2, l2, o2, n2⟩ : PV).c 26) = V at *
  have HL1 : Hid (∀ e : Later V, Blk e.x w.heap.size 26 (⟨fl1, crc1, d1, ⟨sa1, sb1, sc1, sd1⟩, r1, t1, q1, l1, o1, n1⟩ : PV).c) := fun e => HB1.out.later e
  have HL2 : Hid (∀ e : Later V, Blk e.x (w.heap.size + 1) 26 (⟨fl2, crc2, d2, ⟨sa2, sb2, sc2, sd2⟩, r2, t2, q2, l2, o2, n2⟩ : PV).c) := fun e => HB2.out.later e
  have x1_0 : ∀ e : Later V, e.x.cell? ⟨w.heap.size, 0, none⟩ = some (.int .u64 (fl1 : Int)) := HB1.out.cellL 0 rfl
  have x1_1 : ∀ e : Later V, e.x.cell? ⟨w.heap.size, 1, none⟩ = some (.int .i64 crc1) := HB1.out.cellL 1 rfl
  have x1_2 : ∀ e : Later V, e.x.cell? ⟨w.heap.size, 2, none⟩ = some (.int .i64 d1.sch) := HB1.out.cellL 2 rfl
  have x1_3 : ∀ e : Later V, e.x.cell? ⟨w.heap.size, 3, none⟩ = some (str d1.name) := HB1.out.cellL 3 rfl
  have x1_4 : ∀ e : Later V, e.x.cell? ⟨w.heap.size, 4, none⟩ = some (.int .u64 (d1.node : Int)) := HB1.out.cellL 4 rfl
  have x1_5 : ∀ e : Later V, e.x.cell? ⟨w.heap.size, 5, none⟩ = some (.int .u64 (d1.svc : Int)) := HB1.out.cellL 5 rfl
  have x1_6 : ∀ e : Later V, e.x.cell? ⟨w.heap.size, 6, none⟩ = some (.int .i64 sa1) := HB1.out.cellL 6 rfl
  have x1_7 : ∀ e : Later V, e.x.cell? ⟨w.heap.size, 7, none⟩ = some (str sb1) := HB1.out.cellL 7 rfl
  have x1_8 : ∀ e : Later V, e.x.cell? ⟨w.heap.size, 8, none⟩ = some (.int .u64 (sc1 : Int)) := HB1.out.cellL 8 rfl
  have x1_9 : ∀ e : Later V, e.x.cell? ⟨w.heap.size, 9, none⟩ = some (.int .u64 (sd1 : Int)) := HB1.out.cellL 9 rfl
  have x1_10 : ∀ e : Later V, e.x.cell? ⟨w.heap.size, 10, none⟩ = some (.int .i64 r1.sch) := HB1.out.cellL 10 rfl
  have x1_11 : ∀ e : Later V, e.x.cell? ⟨w.heap.size, 11, none⟩ = some (str r1.name) := HB1.out.cellL 11 rfl
  have x1_12 : ∀ e : Later V, e.x.cell? ⟨w.heap.size, 12, none⟩ = some (.int .u64 (r1.node : Int)) := HB1.out.cellL 12 rfl
  have x1_13 : ∀ e : Later V, e.x.cell? ⟨w.heap.size, 13, none⟩ = some (.int .u64 (r1.svc : Int)) := HB1.out.cellL 13 rfl
  have x1_14 : ∀ e : Later V, e.x.cell? ⟨w.heap.size, 14, none⟩ = some (.int .u64 (t1 : Int)) := HB1.out.cellL 14 rfl
  have x1_15 : ∀ e : Later V, e.x.cell? ⟨w.heap.size, 15, none⟩ = some (.int .u64 (q1 : Int)) := HB1.out.cellL 15 rfl
  have x1_16 : ∀ e : Later V, e.x.cell? ⟨w.heap.size, 16, none⟩ = some (.int .u64 (l1 : Int)) := HB1.out.cellL 16 rfl
  have x1_17 : ∀ e : Later V, e.x.cell? ⟨w.heap.size, 17, none⟩ = some (.int .u64 (o1 : Int)) := HB1.out.cellL 17 rfl
  have x1_18 : ∀ e : Later V, e.x.cell? ⟨w.heap.size, 18, none⟩ = some (.int .u64 (n1 : Int)) := HB1.out.cellL 18 rfl
  have x2_0 : ∀ e : Later V, e.x.cell? ⟨w.heap.size + 1, 0, none⟩ = some (.int .u64 (fl2 : Int)) := HB2.out.cellL 0 rfl
  have x2_1 : ∀ e : Later V, e.x.cell? ⟨w.heap.size + 1, 1, none⟩ = some (.int .i64 crc2) := HB2.out.cellL 1 rfl
  have x2_2 : ∀ e : Later V, e.x.cell? ⟨w.heap.size + 1, 2, none⟩ = some (.int .i64 d2.sch) := HB2.out.cellL 2 rfl
  have x2_3 : ∀ e : Later V, e.x.cell? ⟨w.heap.size + 1, 3, none⟩ = some (str d2.name) := HB2.out.cellL 3 rfl
  have x2_4 : ∀ e : Later V, e.x.cell? ⟨w.heap.size + 1, 4, none⟩ = some (.int .u64 (d2.node : Int)) := HB2.out.cellL 4 rfl
  have x2_5 : ∀ e : Later V, e.x.cell? ⟨w.heap.size + 1, 5, none⟩ = some (.int .u64 (d2.svc : Int)) := HB2.out.cellL 5 rfl
  have x2_6 : ∀ e : Later V, e.x.cell? ⟨w.heap.size + 1, 6, none⟩ = some (.int .i64 sa2) := HB2.out.cellL 6 rfl
  have x2_7 : ∀ e : Later V, e.x.cell? ⟨w.heap.size + 1, 7, none⟩ = some (str sb2) := HB2.out.cellL 7 rfl
  have x2_8 : ∀ e : Later V, e.x.cell? ⟨w.heap.size + 1, 8, none⟩ = some (.int .u64 (sc2 : Int)) := HB2.out.cellL 8 rfl
  have x2_9 : ∀ e : Later V, e.x.cell? ⟨w.heap.size + 1, 9, none⟩ = some (.int .u64 (sd2 : Int)) := HB2.out.cellL 9 rfl
  have x2_10 : ∀ e : Later V, e.x.cell? ⟨w.heap.size + 1, 10, none⟩ = some (.int .i64 r2.sch) := HB2.out.cellL 10 rfl
  have x2_11 : ∀ e : Later V, e.x.cell? ⟨w.heap.size + 1, 11, none⟩ = some (str r2.name) := HB2.out.cellL 11 rfl
  have x2_12 : ∀ e : Later V, e.x.cell? ⟨w.heap.size + 1, 12, none⟩ = some (.int .u64 (r2.node : Int)) := HB2.out.cellL 12 rfl
  have x2_13 : ∀ e : Later V, e.x.cell? ⟨w.heap.size + 1, 13, none⟩ = some (.int .u64 (r2.svc : Int)) := HB2.out.cellL 13 rfl
  have x2_14 : ∀ e : Later V, e.x.cell? ⟨w.heap.size + 1, 14, none⟩ = some (.int .u64 (t2 : Int)) := HB2.out.cellL 14 rfl
  have x2_15 : ∀ e : Later V, e.x.cell? ⟨w.heap.size + 1, 15, none⟩ = some (.int .u64 (q2 : Int)) := HB2.out.cellL 15 rfl
  have x2_16 : ∀ e : Later V, e.x.cell? ⟨w.heap.size + 1, 16, none⟩ = some (.int .u64 (l2 : Int)) := HB2.out.cellL 16 rfl
  have x2_17 : ∀ e : Later V, e.x.cell? ⟨w.heap.size + 1, 17, none⟩ = some (.int .u64 (o2 : Int)) := HB2.out.cellL 17 rfl
  have x2_18 : ∀ e : Later V, e.x.cell? ⟨w.heap.size + 1, 18, none⟩ = some (.int .u64 (n2 : Int)) := HB2.out.cellL 18 rfl
  obtain ⟨e, he⟩ := Later.self V
  rw [he]
  clear he
  cases F1
  · go_wp2_with (first | (refine wpList_row (by rfl) 26 _ rfl _ rfl (HL1.out _) Try.underlying26 rfl (by kernel_rfl) ?_) | (refine wpList_row (by rfl) 26 _ rfl _ rfl (HL2.out _) Try.underlying26 rfl (by kernel_rfl) ?_) | (go_at_call 6; refine (Ret.later (KA.out _)).mono ?_; rintro x _ ⟨rfl, e, rfl⟩) | (go_at_call 7; first | ((with_reducible refine (Ret.later (KF1.out _)).mono ?_); rintro x _ ⟨rfl, e, rfl⟩) | ((with_reducible refine (Ret.later (KF2.out _)).mono ?_); rintro x _ ⟨rfl, e, rfl⟩)))
    go_ret
    exact Ret.mk rfl (HE.out.trans e.h)
  cases F2
  · go_wp2_with (first | (refine wpList_row (by rfl) 26 _ rfl _ rfl (HL1.out _) Try.underlying26 rfl (by kernel_rfl) ?_) | (refine wpList_row (by rfl) 26 _ rfl _ rfl (HL2.out _) Try.underlying26 rfl (by kernel_rfl) ?_) | (go_at_call 6; refine (Ret.later (KA.out _)).mono ?_; rintro x _ ⟨rfl, e, rfl⟩) | (go_at_call 7; first | ((with_reducible refine (Ret.later (KF1.out _)).mono ?_); rintro x _ ⟨rfl, e, rfl⟩) | ((with_reducible refine (Ret.later (KF2.out _)).mono ?_); rintro x _ ⟨rfl, e, rfl⟩)))
    go_ret
    exact Ret.mk rfl (HE.out.trans e.h)
  exact absurd HF.out (by decide)
end Go.Proofs.Ytldomommbopgjaa


namespace Go.Proofs.Ytldomommbopgjaa
open Go.RowKit
set_option linter.unusedVariables false

set_option maxRecDepth 20000 in
set_option maxHeartbeats 8000000 in
theorem names_sa (fl1 : Nat) (crc1 : Int) (d1 : EV) (sa1 : Int) (sb1 : List UInt8) (sc1 sd1 : Nat) (r1 : EV) (t1 q1 l1 o1 n1 : Nat) (fl2 : Nat) (crc2 : Int) (d2 : EV) (sa2 : Int) (sb2 : List UInt8) (sc2 sd2 : Nat) (r2 : EV) (t2 q2 l2 o2 n2 : Nat) (hf1 : fl1 < 18446744073709551616) (hf2 : fl2 < 18446744073709551616) (hF1 : (⟨fl1, crc1, d1, ⟨sa1, sb1, sc1, sd1⟩, r1, t1, q1, l1, o1, n1⟩ : PV).few = true) (hF2 : (⟨fl2, crc2, d2, ⟨sa2, sb2, sc2, sd2⟩, r2, t2, q2, l2, o2, n2⟩ : PV).few = true) (hx : ¬ sa1 = sa2) (w : World) : Calls Try.prog 3 #[.agg (⟨fl1, crc1, d1, ⟨sa1, sb1, sc1, sd1⟩, r1, t1, q1, l1, o1, n1⟩ : PV).c, .agg (⟨fl2, crc2, d2, ⟨sa2, sb2, sc2, sd2⟩, r2, t2, q2, l2, o2, n2⟩ : PV).c] w (Ret (.bool true) w) := by
  have KA := hid (fun W => awake11_any W)
  have KF1 := hid (fun W => few11P_any (⟨fl1, crc1, d1, ⟨sa1, sb1, sc1, sd1⟩, r1, t1, q1, l1, o1, n1⟩ : PV) W)
  have KF2 := hid (fun W => few11P_any (⟨fl2, crc2, d2, ⟨sa2, sb2, sc2, sd2⟩, r2, t2, q2, l2, o2, n2⟩ : PV) W)
  have KN1 := hid (fun W => Name_any (⟨fl1, crc1, d1, ⟨sa1, sb1, sc1, sd1⟩, r1, t1, q1, l1, o1, n1⟩ : PV) hf1 W)
  have KN2 := hid (fun W => Name_any (⟨fl2, crc2, d2, ⟨sa2, sb2, sc2, sd2⟩, r2, t2, q2, l2, o2, n2⟩ : PV) hf2 W)
  have KW1 := hid (fun W => Whole_any (⟨fl1, crc1, d1, ⟨sa1, sb1, sc1, sd1⟩, r1, t1, q1, l1, o1, n1⟩ : PV) hf1 W)
  have KW2 := hid (fun W => Whole_any (⟨fl2, crc2, d2, ⟨sa2, sb2, sc2, sd2⟩, r2, t2, q2, l2, o2, n2⟩ : PV) hf2 W)
  have KM1 := hid (fun W => Name_any (⟨fl1 / 2 * 2, crc1, d1, ⟨sa1, sb1, sc1, sd1⟩, r1, t1, q1, l1, 0, 0⟩ : PV) (show fl1 / 2 * 2 < 18446744073709551616 by omega) W)
  have KM2 := hid (fun W => Name_any (⟨fl2 / 2 * 2, crc2, d2, ⟨sa2, sb2, sc2, sd2⟩, r2, t2, q2, l2, 0, 0⟩ : PV) (show fl2 / 2 * 2 < 18446744073709551616 by omega) W)
  have KH1 : Hid (∀ W, Calls Try.prog 8 #[.int .u64 (fl1 : Int), .int .i64 1] W (Ret (.bool (has fl1 1)) W)) := fun W => Has_any fl1 1 hf1 (by omega) (by omega) W
  have KH2 : Hid (∀ W, Calls Try.prog 8 #[.int .u64 (fl2 : Int), .int .i64 1] W (Ret (.bool (has fl2 1)) W)) := fun W => Has_any fl2 1 hf2 (by omega) (by omega) W
  have hw1 : has (fl1 / 2 * 2) 1 = false := by unfold has; simp
  have hw2 : has (fl2 / 2 * 2) 1 = false := by unfold has; simp
  have KG1 : Hid (∀ W, Calls Try.prog 8 #[.int .u64 ((fl1 : Int) / 2 * 2), .int .i64 1] W (Ret (.bool false) W)) := fun W => by have := Has_any (fl1 / 2 * 2) 1 (by omega) (by omega) (by omega) W; rw [hw1] at this; simpa using this
  unfold PV.idV at KN1 KN2 KM1 KM2
  dsimp only at KN1 KN2 KM1 KM2
  rw [hw1] at KM1
  rw [hw2] at KM2
  dsimp only [PV.whole] at KW1 KW2
  simp only [Bool.false_eq_true, if_false] at KM1 KM2
  have u1 : IntKind.u64.wrap ((fl1 : Int) / 2) = (fl1 : Int) / 2 := IntWalk.u64_in _ (by omega)
  have u2 : IntKind.u64.wrap ((fl1 : Int) / 2 * 2) = (fl1 : Int) / 2 * 2 := IntWalk.u64_in _ (by omega)
  have f0 : (0 : Int) ≤ (fl1 : Int) := by omega
  have HE := hid (((Mod.refl [] w).alloc (.cells (⟨fl1, crc1, d1, ⟨sa1, sb1, sc1, sd1⟩, r1, t1, q1, l1, o1, n1⟩ : PV).c 26)).alloc (.cells (⟨fl2, crc2, d2, ⟨sa2, sb2, sc2, sd2⟩, r2, t2, q2, l2, o2, n2⟩ : PV).c 26))
  have HB1 := hid ((Blk.new w 26 (⟨fl1, crc1, d1, ⟨sa1, sb1, sc1, sd1⟩, r1, t1, q1, l1, o1, n1⟩ : PV).c).alloc (.cells (⟨fl2, crc2, d2, ⟨sa2, sb2, sc2, sd2⟩, r2, t2, q2, l2, o2, n2⟩ : PV).c 26))
  have HB2 : Hid (Blk ((w.alloc (.cells (⟨fl1, crc1, d1, ⟨sa1, sb1, sc1, sd1⟩, r1, t1, q1, l1, o1, n1⟩ : PV).c 26)).alloc (.cells (⟨fl2, crc2, d2, ⟨sa2, sb2, sc2, sd2⟩, r2, t2, q2, l2, o2, n2⟩ : PV).c 26)) (w.heap.size + 1) 26 (⟨fl2, crc2, d2, ⟨sa2, sb2, sc2, sd2⟩, r2, t2, q2, l2, o2, n2⟩ : PV).c) := Blk.newL _ _ _ (by simp)
  obtain ⟨oo1, hoo1⟩ : ∃ x, (if has fl1 1 = true then o1 else 0) = x := ⟨_, rfl⟩
  obtain ⟨nn1, hnn1⟩ : ∃ x, (if has fl1 1 = true then n1 else 0) = x := ⟨_, rfl⟩
  obtain ⟨oo2, hoo2⟩ : ∃ x, (if has fl2 1 = true then o2 else 0) = x := ⟨_, rfl⟩
  obtain ⟨nn2, hnn2⟩ : ∃ x, (if has fl2 1 = true then n2 else 0) = x := ⟨_, rfl⟩
  rw [hoo1, hnn1] at KN1
  rw [hoo2, hnn2] at KN2
  have HO1 := hid hoo1
  have HO2 := hid hoo2
  have HN1 := hid hnn1
  have HN2 := hid hnn2
  clear hw1 hw2 hf1 hf2 hoo1 hoo2 hnn1 hnn2
  rw [hF1] at KF1
  rw [hF2] at KF2
  clear hF1 hF2
  go_enter Try.func3, Try.ntmps3
  go_upto_region 1 with fail
  generalize (w.alloc (.cells (⟨fl1, crc1, d1, ⟨sa1, sb1, sc1, sd1⟩, r1, t1, q1, l1, o1, n1⟩ : PV).c 26)).alloc (.cells (⟨fl2, crc2, d2, ⟨sa2, sb2, sc2, sd2⟩, r2, t2, q2, l2, o2, n2⟩ : PV).c 26) = V at *
  have HL1 : Hid (∀ e : Later V, Blk e.x w.heap.size 26 (⟨fl1, crc1, d1, ⟨sa1, sb1, sc1, sd1⟩, r1, t1, q1, l1, o1, n1⟩ : PV).c) := fun e => HB1.out.later e
  have HL2 : Hid (∀ e : Later V, Blk e.x (w.heap.size + 1) 26 (⟨fl2, crc2, d2, ⟨sa2, sb2, sc2, sd2⟩, r2, t2, q2, l2, o2, n2⟩ : PV).c) := fun e => HB2.out.later e
  have x1_0 : ∀ e : Later V, e.x.cell? ⟨w.heap.size, 0, none⟩ = some (.int .u64 (fl1 : Int)) := HB1.out.cellL 0 rfl
  have x1_1 : ∀ e : Later V, e.x.cell? ⟨w.heap.size, 1, none⟩ = some (.int .i64 crc1) := HB1.out.cellL 1 rfl
  have x1_2 : ∀ e : Later V, e.x.cell? ⟨w.heap.size, 2, none⟩ = some (.int .i64 d1.sch) := HB1.out.cellL 2 rfl
  have x1_3 : ∀ e : Later V, e.x.cell? ⟨w.heap.size, 3, none⟩ = some (str d1.name) := HB1.out.cellL 3 rfl
  have x1_4 : ∀ e : Later V, e.x.cell? ⟨w.heap.size, 4, none⟩ = some (.int .u64 (d1.node : Int)) := HB1.out.cellL 4 rfl
  have x1_5 : ∀ e : Later V, e.x.cell? ⟨w.heap.size, 5, none⟩ = some (.int .u64 (d1.svc : Int)) := HB1.out.cellL 5 rfl
  have x1_6 : ∀ e : Later V, e.x.cell? ⟨w.heap.size, 6, none⟩ = some (.int .i64 sa1) := HB1.out.cellL 6 rfl
  have x1_7 : ∀ e : Later V, e.x.cell? ⟨w.heap.size, 7, none⟩ = some (str sb1) := HB1.out.cellL 7 rfl
  have x1_8 : ∀ e : Later V, e.x.cell? ⟨w.heap.size, 8, none⟩ = some (.int .u64 (sc1 : Int)) := HB1.out.cellL 8 rfl
  have x1_9 : ∀ e : Later V, e.x.cell? ⟨w.heap.size, 9, none⟩ = some (.int .u64 (sd1 : Int)) := HB1.out.cellL 9 rfl
  have x1_10 : ∀ e : Later V, e.x.cell? ⟨w.heap.size, 10, none⟩ = some (.int .i64 r1.sch) := HB1.out.cellL 10 rfl
  have x1_11 : ∀ e : Later V, e.x.cell? ⟨w.heap.size, 11, none⟩ = some (str r1.name) := HB1.out.cellL 11 rfl
  have x1_12 : ∀ e : Later V, e.x.cell? ⟨w.heap.size, 12, none⟩ = some (.int .u64 (r1.node : Int)) := HB1.out.cellL 12 rfl
  have x1_13 : ∀ e : Later V, e.x.cell? ⟨w.heap.size, 13, none⟩ = some (.int .u64 (r1.svc : Int)) := HB1.out.cellL 13 rfl
  have x1_14 : ∀ e : Later V, e.x.cell? ⟨w.heap.size, 14, none⟩ = some (.int .u64 (t1 : Int)) := HB1.out.cellL 14 rfl
  have x1_15 : ∀ e : Later V, e.x.cell? ⟨w.heap.size, 15, none⟩ = some (.int .u64 (q1 : Int)) := HB1.out.cellL 15 rfl
  have x1_16 : ∀ e : Later V, e.x.cell? ⟨w.heap.size, 16, none⟩ = some (.int .u64 (l1 : Int)) := HB1.out.cellL 16 rfl
  have x1_17 : ∀ e : Later V, e.x.cell? ⟨w.heap.size, 17, none⟩ = some (.int .u64 (o1 : Int)) := HB1.out.cellL 17 rfl
  have x1_18 : ∀ e : Later V, e.x.cell? ⟨w.heap.size, 18, none⟩ = some (.int .u64 (n1 : Int)) := HB1.out.cellL 18 rfl
  have x2_0 : ∀ e : Later V, e.x.cell? ⟨w.heap.size + 1, 0, none⟩ = some (.int .u64 (fl2 : Int)) := HB2.out.cellL 0 rfl
  have x2_1 : ∀ e : Later V, e.x.cell? ⟨w.heap.size + 1, 1, none⟩ = some (.int .i64 crc2) := HB2.out.cellL 1 rfl
  have x2_2 : ∀ e : Later V, e.x.cell? ⟨w.heap.size + 1, 2, none⟩ = some (.int .i64 d2.sch) := HB2.out.cellL 2 rfl
  have x2_3 : ∀ e : Later V, e.x.cell? ⟨w.heap.size + 1, 3, none⟩ = some (str d2.name) := HB2.out.cellL 3 rfl
  have x2_4 : ∀ e : Later V, e.x.cell? ⟨w.heap.size + 1, 4, none⟩ = some (.int .u64 (d2.node : Int)) := HB2.out.cellL 4 rfl
  have x2_5 : ∀ e : Later V, e.x.cell? ⟨w.heap.size + 1, 5, none⟩ = some (.int .u64 (d2.svc : Int)) := HB2.out.cellL 5 rfl
  have x2_6 : ∀ e : Later V, e.x.cell? ⟨w.heap.size + 1, 6, none⟩ = some (.int .i64 sa2) := HB2.out.cellL 6 rfl
  have x2_7 : ∀ e : Later V, e.x.cell? ⟨w.heap.size + 1, 7, none⟩ = some (str sb2) := HB2.out.cellL 7 rfl
  have x2_8 : ∀ e : Later V, e.x.cell? ⟨w.heap.size + 1, 8, none⟩ = some (.int .u64 (sc2 : Int)) := HB2.out.cellL 8 rfl
  have x2_9 : ∀ e : Later V, e.x.cell? ⟨w.heap.size + 1, 9, none⟩ = some (.int .u64 (sd2 : Int)) := HB2.out.cellL 9 rfl
  have x2_10 : ∀ e : Later V, e.x.cell? ⟨w.heap.size + 1, 10, none⟩ = some (.int .i64 r2.sch) := HB2.out.cellL 10 rfl
  have x2_11 : ∀ e : Later V, e.x.cell? ⟨w.heap.size + 1, 11, none⟩ = some (str r2.name) := HB2.out.cellL 11 rfl
  have x2_12 : ∀ e : Later V, e.x.cell? ⟨w.heap.size + 1, 12, none⟩ = some (.int .u64 (r2.node : Int)) := HB2.out.cellL 12 rfl
  have x2_13 : ∀ e : Later V, e.x.cell? ⟨w.heap.size + 1, 13, none⟩ = some (.int .u64 (r2.svc : Int)) := HB2.out.cellL 13 rfl
  have x2_14 : ∀ e : Later V, e.x.cell? ⟨w.heap.size + 1, 14, none⟩ = some (.int .u64 (t2 : Int)) := HB2.out.cellL 14 rfl
  have x2_15 : ∀ e : Later V, e.x.cell? ⟨w.heap.size + 1, 15, none⟩ = some (.int .u64 (q2 : Int)) := HB2.out.cellL 15 rfl
  have x2_16 : ∀ e : Later V, e.x.cell? ⟨w.heap.size + 1, 16, none⟩ = some (.int .u64 (l2 : Int)) := HB2.out.cellL 16 rfl
  have x2_17 : ∀ e : Later V, e.x.cell? ⟨w.heap.size + 1, 17, none⟩ = some (.int .u64 (o2 : Int)) := HB2.out.cellL 17 rfl
  have x2_18 : ∀ e : Later V, e.x.cell? ⟨w.heap.size + 1, 18, none⟩ = some (.int .u64 (n2 : Int)) := HB2.out.cellL 18 rfl
  obtain ⟨e, he⟩ := Later.self V
  rw [he]
  clear he
  go_upto_region 3 with (first | (refine wpList_row (by rfl) 26 _ rfl _ rfl (HL1.out _) Try.underlying26 rfl (by kernel_rfl) ?_) | (refine wpList_row (by rfl) 26 _ rfl _ rfl (HL2.out _) Try.underlying26 rfl (by kernel_rfl) ?_) | (go_at_call 6; refine (Ret.later (KA.out _)).mono ?_; rintro x _ ⟨rfl, e, rfl⟩) | (go_at_call 7; first | ((with_reducible refine (Ret.later (KF1.out _)).mono ?_); rintro x _ ⟨rfl, e, rfl⟩) | ((with_reducible refine (Ret.later (KF2.out _)).mono ?_); rintro x _ ⟨rfl, e, rfl⟩)))
  have ga : ((sa1) == (sa2)) = false := by rw [beq_eq_false_iff_ne]; exact hx
  have gb : ((sa1) = (sa2)) = False := eq_false (by exact hx)
  have gc : ((sa1) != (sa2)) = true := by rw [bne_iff_ne]; exact hx
  clear hx
  refine wp_region_later (by kernel_rfl) (by kernel_rfl) ?_
  repeat (go_big_quiet_step ((first | (go_at_call 8; first | (with_reducible exact Ret.later (KH1.out _)) | (with_reducible exact Ret.later (KH2.out _))))))
  refine wpQuiet_nil ?_
  rintro _ ⟨e, rfl⟩
  go_upto_region 6 with fail
  refine wp_region_later (by kernel_rfl) (by kernel_rfl) ?_
  repeat (first | (refine later_row (by rfl) 26 _ rfl _ rfl HL1.out Try.underlying26 rfl (by kernel_rfl) ?_; simp only [Act.put, List.setIfInBounds_toArray, List.set_cons_zero, List.set_cons_succ]) | (refine later_row (by rfl) 26 _ rfl _ rfl HL2.out Try.underlying26 rfl (by kernel_rfl) ?_; simp only [Act.put, List.setIfInBounds_toArray, List.set_cons_zero, List.set_cons_succ]) | go_big_quiet_step ((first | (go_at_call 9; first | (with_reducible exact Ret.later (KN1.out _)) | (with_reducible exact Ret.later (KN2.out _))))))
  refine wpQuiet_nil ?_
  rintro _ ⟨e, rfl⟩
  clear x1_0 x2_0 x1_1 x2_1 x1_2 x2_2 x1_3 x2_3 x1_4 x2_4 x1_5 x2_5 x1_6 x2_6 x1_7 x2_7 x1_8 x2_8 x1_9 x2_9 x1_10 x2_10 x1_11 x2_11 x1_12 x2_12 x1_13 x2_13 x1_14 x2_14 x1_15 x2_15 x1_16 x2_16 x1_17 x2_17 x1_18 x2_18
  go_upto_region 9 with (first | (refine wpList_row (by rfl) 26 _ rfl _ rfl (HL1.out _) Try.underlying26 rfl (by kernel_rfl) ?_) | (refine wpList_store_mid rfl 26 _ _ rfl e.x.heap.size 0 (⟨fl1 / 2 * 2, crc1, d1, ⟨sa1, sb1, sc1, sd1⟩, r1, t1, q1, l1, 0, 0⟩ : PV).c (by rfl) (by rfl) ((Blk.new _ _ _).there (Nat.le_refl 19)) (by kernel_rfl) (PV.one _) ?_) | (go_at_call 10; refine (Ret.later (KW1.out _)).mono ?_; rintro x _ ⟨rfl, e, rfl⟩))
  generalize hU : World.setCells _ _ _ _ = U1
  have HMU : Hid (Ext e.x U1) := hid (by rw [← hU]; exact setCells_mod _ _ ((Mod.refl [] e.x).alloc _) (.inr (Nat.le_refl _)))
  have HA1 : Hid (Blk U1 e.x.heap.size 26 (⟨fl1 / 2 * 2, crc1, d1, ⟨sa1, sb1, sc1, sd1⟩, r1, t1, q1, l1, 0, 0⟩ : PV).c) := hid (by rw [← hU]; exact setCells_all (Blk.new _ _ _) rfl)
  clear hU
  have HC2 : Hid (Blk U1 (w.heap.size + 1) 26 (⟨fl2, crc2, d2, ⟨sa2, sb2, sc2, sd2⟩, r2, t2, q2, l2, o2, n2⟩ : PV).c) := hid ((HB2.out.later e).ext HMU.out)
  have HC1 : Hid (Blk U1 w.heap.size 26 (⟨fl1, crc1, d1, ⟨sa1, sb1, sc1, sd1⟩, r1, t1, q1, l1, o1, n1⟩ : PV).c) := hid ((HB1.out.later e).ext HMU.out)
  have HEU : Hid (Ext w U1) := hid ((HE.out.trans e.h).trans HMU.out)
  clear HMU
  generalize e.x.heap.size = g1 at *
  clear e
  obtain ⟨e, he⟩ := Later.self U1
  rw [he]
  clear he
  go_upto_region 10 with (first | (refine wpList_row (by rfl) 26 _ rfl _ rfl (HC2.out.later _) Try.underlying26 rfl (by kernel_rfl) ?_) | (refine wpList_store_mid rfl 26 _ _ rfl e.x.heap.size 0 (⟨fl2 / 2 * 2, crc2, d2, ⟨sa2, sb2, sc2, sd2⟩, r2, t2, q2, l2, 0, 0⟩ : PV).c (by rfl) (by rfl) ((Blk.new _ _ _).there (Nat.le_refl 19)) (by kernel_rfl) (PV.one _) ?_) | (go_at_call 10; refine (Ret.later (KW2.out _)).mono ?_; rintro x _ ⟨rfl, e, rfl⟩))
  generalize hU : World.setCells _ _ _ _ = U2
  have HMU : Hid (Ext e.x U2) := hid (by rw [← hU]; exact setCells_mod _ _ ((Mod.refl [] e.x).alloc _) (.inr (Nat.le_refl _)))
  have HA3 : Hid (Blk U2 e.x.heap.size 26 (⟨fl2 / 2 * 2, crc2, d2, ⟨sa2, sb2, sc2, sd2⟩, r2, t2, q2, l2, 0, 0⟩ : PV).c) := hid (by rw [← hU]; exact setCells_all (Blk.new _ _ _) rfl)
  clear hU
  have HA2 : Hid (Blk U2 g1 26 (⟨fl1 / 2 * 2, crc1, d1, ⟨sa1, sb1, sc1, sd1⟩, r1, t1, q1, l1, 0, 0⟩ : PV).c) := hid ((HA1.out.later e).ext HMU.out)
  have HD1 : Hid (Blk U2 w.heap.size 26 (⟨fl1, crc1, d1, ⟨sa1, sb1, sc1, sd1⟩, r1, t1, q1, l1, o1, n1⟩ : PV).c) := hid ((HC1.out.later e).ext HMU.out)
  have HEV : Hid (Ext w U2) := hid ((HEU.out.trans e.h).trans HMU.out)
  clear HMU
  generalize e.x.heap.size = g2 at *
  clear e
  have y0 : ∀ e : Later U2, e.x.cell? ⟨w.heap.size, 0, none⟩ = some (.int .u64 (fl1 : Int)) := HD1.out.cellL 0 rfl
  have y1 : ∀ e : Later U2, e.x.cell? ⟨w.heap.size, 1, none⟩ = some (.int .i64 crc1) := HD1.out.cellL 1 rfl
  have y2 : ∀ e : Later U2, e.x.cell? ⟨w.heap.size, 2, none⟩ = some (.int .i64 d1.sch) := HD1.out.cellL 2 rfl
  have y3 : ∀ e : Later U2, e.x.cell? ⟨w.heap.size, 3, none⟩ = some (str d1.name) := HD1.out.cellL 3 rfl
  have y4 : ∀ e : Later U2, e.x.cell? ⟨w.heap.size, 4, none⟩ = some (.int .u64 (d1.node : Int)) := HD1.out.cellL 4 rfl
  have y5 : ∀ e : Later U2, e.x.cell? ⟨w.heap.size, 5, none⟩ = some (.int .u64 (d1.svc : Int)) := HD1.out.cellL 5 rfl
  have y10 : ∀ e : Later U2, e.x.cell? ⟨w.heap.size, 10, none⟩ = some (.int .i64 r1.sch) := HD1.out.cellL 10 rfl
  have y11 : ∀ e : Later U2, e.x.cell? ⟨w.heap.size, 11, none⟩ = some (str r1.name) := HD1.out.cellL 11 rfl
  have y12 : ∀ e : Later U2, e.x.cell? ⟨w.heap.size, 12, none⟩ = some (.int .u64 (r1.node : Int)) := HD1.out.cellL 12 rfl
  have y13 : ∀ e : Later U2, e.x.cell? ⟨w.heap.size, 13, none⟩ = some (.int .u64 (r1.svc : Int)) := HD1.out.cellL 13 rfl
  have y16 : ∀ e : Later U2, e.x.cell? ⟨w.heap.size, 16, none⟩ = some (.int .u64 (l1 : Int)) := HD1.out.cellL 16 rfl
  have z0 : ∀ e : Later U2, e.x.cell? ⟨g1, 0, none⟩ = some (.int .u64 ((fl1 : Int) / 2 * 2)) := HA2.out.cellL 0 (by simp)
  have z1 : ∀ e : Later U2, e.x.cell? ⟨g1, 1, none⟩ = some (.int .i64 crc1) := HA2.out.cellL 1 rfl
  have z2 : ∀ e : Later U2, e.x.cell? ⟨g1, 2, none⟩ = some (.int .i64 d1.sch) := HA2.out.cellL 2 rfl
  have z3 : ∀ e : Later U2, e.x.cell? ⟨g1, 3, none⟩ = some (str d1.name) := HA2.out.cellL 3 rfl
  have z4 : ∀ e : Later U2, e.x.cell? ⟨g1, 4, none⟩ = some (.int .u64 (d1.node : Int)) := HA2.out.cellL 4 rfl
  have z5 : ∀ e : Later U2, e.x.cell? ⟨g1, 5, none⟩ = some (.int .u64 (d1.svc : Int)) := HA2.out.cellL 5 rfl
  have z10 : ∀ e : Later U2, e.x.cell? ⟨g1, 10, none⟩ = some (.int .i64 r1.sch) := HA2.out.cellL 10 rfl
  have z11 : ∀ e : Later U2, e.x.cell? ⟨g1, 11, none⟩ = some (str r1.name) := HA2.out.cellL 11 rfl
  have z12 : ∀ e : Later U2, e.x.cell? ⟨g1, 12, none⟩ = some (.int .u64 (r1.node : Int)) := HA2.out.cellL 12 rfl
  have z13 : ∀ e : Later U2, e.x.cell? ⟨g1, 13, none⟩ = some (.int .u64 (r1.svc : Int)) := HA2.out.cellL 13 rfl
  have z16 : ∀ e : Later U2, e.x.cell? ⟨g1, 16, none⟩ = some (.int .u64 (l1 : Int)) := HA2.out.cellL 16 rfl
  have z17 : ∀ e : Later U2, e.x.cell? ⟨g1, 17, none⟩ = some (.int .u64 0) := HA2.out.cellL 17 rfl
  have z18 : ∀ e : Later U2, e.x.cell? ⟨g1, 18, none⟩ = some (.int .u64 0) := HA2.out.cellL 18 rfl
  obtain ⟨e, he⟩ := Later.self U2
  rw [he]
  clear he
  go_upto_region 12 with (go_at_call 8; refine (Ret.later (KG1.out _)).mono ?_; rintro x _ ⟨rfl, e, rfl⟩)
  refine wp_region_later (by kernel_rfl) (by kernel_rfl) ?_
  repeat (first | (refine later_row (by rfl) 26 _ rfl _ rfl (fun e => HA2.out.later e) Try.underlying26 rfl (by kernel_rfl) ?_; simp only [Act.put, List.setIfInBounds_toArray, List.set_cons_zero, List.set_cons_succ]) | (refine later_row (by rfl) 26 _ rfl _ rfl (fun e => HA3.out.later e) Try.underlying26 rfl (by kernel_rfl) ?_; simp only [Act.put, List.setIfInBounds_toArray, List.set_cons_zero, List.set_cons_succ]) | go_big_quiet_step ((first | (go_at_call 9; first | (with_reducible exact Ret.later (KM1.out _)) | (with_reducible exact Ret.later (KM2.out _))))))
  refine wpQuiet_nil ?_
  rintro _ ⟨e, rfl⟩
  go_wp2_with fail
  all_goals go_ret
  all_goals exact Ret.mk (by simp) (HEV.out.trans e.h)
set_option maxRecDepth 20000 in
set_option maxHeartbeats 8000000 in
theorem names_sb (fl1 : Nat) (crc1 : Int) (d1 : EV) (sa1 : Int) (sb1 : List UInt8) (sc1 sd1 : Nat) (r1 : EV) (t1 q1 l1 o1 n1 : Nat) (fl2 : Nat) (crc2 : Int) (d2 : EV)  (sb2 : List UInt8) (sc2 sd2 : Nat) (r2 : EV) (t2 q2 l2 o2 n2 : Nat) (hf1 : fl1 < 18446744073709551616) (hf2 : fl2 < 18446744073709551616) (hF1 : (⟨fl1, crc1, d1, ⟨sa1, sb1, sc1, sd1⟩, r1, t1, q1, l1, o1, n1⟩ : PV).few = true) (hF2 : (⟨fl2, crc2, d2, ⟨sa1, sb2, sc2, sd2⟩, r2, t2, q2, l2, o2, n2⟩ : PV).few = true) (hx : ¬ sb1 = sb2) (w : World) : Calls Try.prog 3 #[.agg (⟨fl1, crc1, d1, ⟨sa1, sb1, sc1, sd1⟩, r1, t1, q1, l1, o1, n1⟩ : PV).c, .agg (⟨fl2, crc2, d2, ⟨sa1, sb2, sc2, sd2⟩, r2, t2, q2, l2, o2, n2⟩ : PV).c] w (Ret (.bool true) w) := by
  have KA := hid (fun W => awake11_any W)
  have KF1 := hid (fun W => few11P_any (⟨fl1, crc1, d1, ⟨sa1, sb1, sc1, sd1⟩, r1, t1, q1, l1, o1, n1⟩ : PV) W)
  have KF2 := hid (fun W => few11P_any (⟨fl2, crc2, d2, ⟨sa1, sb2, sc2, sd2⟩, r2, t2, q2, l2, o2, n2⟩ : PV) W)
  have KN1 := hid (fun W => Name_any (⟨fl1, crc1, d1, ⟨sa1, sb1, sc1, sd1⟩, r1, t1, q1, l1, o1, n1⟩ : PV) hf1 W)
  have KN2 := hid (fun W => Name_any (⟨fl2, crc2, d2, ⟨sa1, sb2, sc2, sd2⟩, r2, t2, q2, l2, o2, n2⟩ : PV) hf2 W)
  have KW1 := hid (fun W => Whole_any (⟨fl1, crc1, d1, ⟨sa1, sb1, sc1, sd1⟩, r1, t1, q1, l1, o1, n1⟩ : PV) hf1 W)
  have KW2 := hid (fun W => Whole_any (⟨fl2, crc2, d2, ⟨sa1, sb2, sc2, sd2⟩, r2, t2, q2, l2, o2, n2⟩ : PV) hf2 W)
  have KM1 := hid (fun W => Name_any (⟨fl1 / 2 * 2, crc1, d1, ⟨sa1, sb1, sc1, sd1⟩, r1, t1, q1, l1, 0, 0⟩ : PV) (show fl1 / 2 * 2 < 18446744073709551616 by omega) W)
  have KM2 := hid (fun W => Name_any (⟨fl2 / 2 * 2, crc2, d2, ⟨sa1, sb2, sc2, sd2⟩, r2, t2, q2, l2, 0, 0⟩ : PV) (show fl2 / 2 * 2 < 18446744073709551616 by omega) W)
  have KH1 : Hid (∀ W, Calls Try.prog 8 #[.int .u64 (fl1 : Int), .int .i64 1] W (Ret (.bool (has fl1 1)) W)) := fun W => Has_any fl1 1 hf1 (by omega) (by omega) W
  have KH2 : Hid (∀ W, Calls Try.prog 8 #[.int .u64 (fl2 : Int), .int .i64 1] W (Ret (.bool (has fl2 1)) W)) := fun W => Has_any fl2 1 hf2 (by omega) (by omega) W
  have hw1 : has (fl1 / 2 * 2) 1 = false := by unfold has; simp
  have hw2 : has (fl2 / 2 * 2) 1 = false := by unfold has; simp
  have KG1 : Hid (∀ W, Calls Try.prog 8 #[.int .u64 ((fl1 : Int) / 2 * 2), .int .i64 1] W (Ret (.bool false) W)) := fun W => by have := Has_any (fl1 / 2 * 2) 1 (by omega) (by omega) (by omega) W; rw [hw1] at this; simpa using this
  unfold PV.idV at KN1 KN2 KM1 KM2
  dsimp only at KN1 KN2 KM1 KM2
  rw [hw1] at KM1
  rw [hw2] at KM2
  dsimp only [PV.whole] at KW1 KW2
  simp only [Bool.false_eq_true, if_false] at KM1 KM2
  have u1 : IntKind.u64.wrap ((fl1 : Int) / 2) = (fl1 : Int) / 2 := IntWalk.u64_in _ (by omega)
  have u2 : IntKind.u64.wrap ((fl1 : Int) / 2 * 2) = (fl1 : Int) / 2 * 2 := IntWalk.u64_in _ (by omega)
  have f0 : (0 : Int) ≤ (fl1 : Int) := by omega
  have HE := hid (((Mod.refl [] w).alloc (.cells (⟨fl1, crc1, d1, ⟨sa1, sb1, sc1, sd1⟩, r1, t1, q1, l1, o1, n1⟩ : PV).c 26)).alloc (.cells (⟨fl2, crc2, d2, ⟨sa1, sb2, sc2, sd2⟩, r2, t2, q2, l2, o2, n2⟩ : PV).c 26))
  have HB1 := hid ((Blk.new w 26 (⟨fl1, crc1, d1, ⟨sa1, sb1, sc1, sd1⟩, r1, t1, q1, l1, o1, n1⟩ : PV).c).alloc (.cells (⟨fl2, crc2, d2, ⟨sa1, sb2, sc2, sd2⟩, r2, t2, q2, l2, o2, n2⟩ : PV).c 26))
  have HB2 : Hid (Blk ((w.alloc (.cells (⟨fl1, crc1, d1, ⟨sa1, sb1, sc1, sd1⟩, r1, t1, q1, l1, o1, n1⟩ : PV).c 26)).alloc (.cells (⟨fl2, crc2, d2, ⟨sa1, sb2, sc2, sd2⟩, r2, t2, q2, l2, o2, n2⟩ : PV).c 26)) (w.heap.size + 1) 26 (⟨fl2, crc2, d2, ⟨sa1, sb2, sc2, sd2⟩, r2, t2, q2, l2, o2, n2⟩ : PV).c) := Blk.newL _ _ _ (by simp)
  obtain ⟨oo1, hoo1⟩ : ∃ x, (if has fl1 1 = true then o1 else 0) = x := ⟨_, rfl⟩
  obtain ⟨nn1, hnn1⟩ : ∃ x, (if has fl1 1 = true then n1 else 0) = x := ⟨_, rfl⟩
  obtain ⟨oo2, hoo2⟩ : ∃ x, (if has fl2 1 = true then o2 else 0) = x := ⟨_, rfl⟩
  obtain ⟨nn2, hnn2⟩ : ∃ x, (if has fl2 1 = true then n2 else 0) = x := ⟨_, rfl⟩
  rw [hoo1, hnn1] at KN1
  rw [hoo2, hnn2] at KN2
  have HO1 := hid hoo1
  have HO2 := hid hoo2
  have HN1 := hid hnn1
  have HN2 := hid hnn2
  clear hw1 hw2 hf1 hf2 hoo1 hoo2 hnn1 hnn2
  rw [hF1] at KF1
  rw [hF2] at KF2
  clear hF1 hF2
  go_enter Try.func3, Try.ntmps3
  go_upto_region 1 with fail
  generalize (w.alloc (.cells (⟨fl1, crc1, d1, ⟨sa1, sb1, sc1, sd1⟩, r1, t1, q1, l1, o1, n1⟩ : PV).c 26)).alloc (.cells (⟨fl2, crc2, d2, ⟨sa1, sb2, sc2, sd2⟩, r2, t2, q2, l2, o2, n2⟩ : PV).c 26) = V at *
  have HL1 : Hid (∀ e : Later V, Blk e.x w.heap.size 26 (⟨fl1, crc1, d1, ⟨sa1, sb1, sc1, sd1⟩, r1, t1, q1, l1, o1, n1⟩ : PV).c) := fun e => HB1.out.later e
  have HL2 : Hid (∀ e : Later V, Blk e.x (w.heap.size + 1) 26 (⟨fl2, crc2, d2, ⟨sa1, sb2, sc2, sd2⟩, r2, t2, q2, l2, o2, n2⟩ : PV).c) := fun e => HB2.out.later e
  have x1_0 : ∀ e : Later V, e.x.cell? ⟨w.heap.size, 0, none⟩ = some (.int .u64 (fl1 : Int)) := HB1.out.cellL 0 rfl
  have x1_1 : ∀ e : Later V, e.x.cell? ⟨w.heap.size, 1, none⟩ = some (.int .i64 crc1) := HB1.out.cellL 1 rfl
  have x1_2 : ∀ e : Later V, e.x.cell? ⟨w.heap.size, 2, none⟩ = some (.int .i64 d1.sch) := HB1.out.cellL 2 rfl
  have x1_3 : ∀ e : Later V, e.x.cell? ⟨w.heap.size, 3, none⟩ = some (str d1.name) := HB1.out.cellL 3 rfl
  have x1_4 : ∀ e : Later V, e.x.cell? ⟨w.heap.size, 4, none⟩ = some (.int .u64 (d1.node : Int)) := HB1.out.cellL 4 rfl
  have x1_5 : ∀ e : Later V, e.x.cell? ⟨w.heap.size, 5, none⟩ = some (.int .u64 (d1.svc : Int)) := HB1.out.cellL 5 rfl
  have x1_6 : ∀ e : Later V, e.x.cell? ⟨w.heap.size, 6, none⟩ = some (.int .i64 sa1) := HB1.out.cellL 6 rfl
  have x1_7 : ∀ e : Later V, e.x.cell? ⟨w.heap.size, 7, none⟩ = some (str sb1) := HB1.out.cellL 7 rfl
  have x1_8 : ∀ e : Later V, e.x.cell? ⟨w.heap.size, 8, none⟩ = some (.int .u64 (sc1 : Int)) := HB1.out.cellL 8 rfl
  have x1_9 : ∀ e : Later V, e.x.cell? ⟨w.heap.size, 9, none⟩ = some (.int .u64 (sd1 : Int)) := HB1.out.cellL 9 rfl
  have x1_10 : ∀ e : Later V, e.x.cell? ⟨w.heap.size, 10, none⟩ = some (.int .i64 r1.sch) := HB1.out.cellL 10 rfl
  have x1_11 : ∀ e : Later V, e.x.cell? ⟨w.heap.size, 11, none⟩ = some (str r1.name) := HB1.out.cellL 11 rfl
  have x1_12 : ∀ e : Later V, e.x.cell? ⟨w.heap.size, 12, none⟩ = some (.int .u64 (r1.node : Int)) := HB1.out.cellL 12 rfl
  have x1_13 : ∀ e : Later V, e.x.cell? ⟨w.heap.size, 13, none⟩ = some (.int .u64 (r1.svc : Int)) := HB1.out.cellL 13 rfl
  have x1_14 : ∀ e : Later V, e.x.cell? ⟨w.heap.size, 14, none⟩ = some (.int .u64 (t1 : Int)) := HB1.out.cellL 14 rfl
  have x1_15 : ∀ e : Later V, e.x.cell? ⟨w.heap.size, 15, none⟩ = some (.int .u64 (q1 : Int)) := HB1.out.cellL 15 rfl
  have x1_16 : ∀ e : Later V, e.x.cell? ⟨w.heap.size, 16, none⟩ = some (.int .u64 (l1 : Int)) := HB1.out.cellL 16 rfl
  have x1_17 : ∀ e : Later V, e.x.cell? ⟨w.heap.size, 17, none⟩ = some (.int .u64 (o1 : Int)) := HB1.out.cellL 17 rfl
  have x1_18 : ∀ e : Later V, e.x.cell? ⟨w.heap.size, 18, none⟩ = some (.int .u64 (n1 : Int)) := HB1.out.cellL 18 rfl
  have x2_0 : ∀ e : Later V, e.x.cell? ⟨w.heap.size + 1, 0, none⟩ = some (.int .u64 (fl2 : Int)) := HB2.out.cellL 0 rfl
  have x2_1 : ∀ e : Later V, e.x.cell? ⟨w.heap.size + 1, 1, none⟩ = some (.int .i64 crc2) := HB2.out.cellL 1 rfl
  have x2_2 : ∀ e : Later V, e.x.cell? ⟨w.heap.size + 1, 2, none⟩ = some (.int .i64 d2.sch) := HB2.out.cellL 2 rfl
  have x2_3 : ∀ e : Later V, e.x.cell? ⟨w.heap.size + 1, 3, none⟩ = some (str d2.name) := HB2.out.cellL 3 rfl
  have x2_4 : ∀ e : Later V, e.x.cell? ⟨w.heap.size + 1, 4, none⟩ = some (.int .u64 (d2.node : Int)) := HB2.out.cellL 4 rfl
  have x2_5 : ∀ e : Later V, e.x.cell? ⟨w.heap.size + 1, 5, none⟩ = some (.int .u64 (d2.svc : Int)) := HB2.out.cellL 5 rfl
  have x2_6 : ∀ e : Later V, e.x.cell? ⟨w.heap.size + 1, 6, none⟩ = some (.int .i64 sa1) := HB2.out.cellL 6 rfl
  have x2_7 : ∀ e : Later V, e.x.cell? ⟨w.heap.size + 1, 7, none⟩ = some (str sb2) := HB2.out.cellL 7 rfl
  have x2_8 : ∀ e : Later V, e.x.cell? ⟨w.heap.size + 1, 8, none⟩ = some (.int .u64 (sc2 : Int)) := HB2.out.cellL 8 rfl
  have x2_9 : ∀ e : Later V, e.x.cell? ⟨w.heap.size + 1, 9, none⟩ = some (.int .u64 (sd2 : Int)) := HB2.out.cellL 9 rfl
  have x2_10 : ∀ e : Later V, e.x.cell? ⟨w.heap.size + 1, 10, none⟩ = some (.int .i64 r2.sch) := HB2.out.cellL 10 rfl
  have x2_11 : ∀ e : Later V, e.x.cell? ⟨w.heap.size + 1, 11, none⟩ = some (str r2.name) := HB2.out.cellL 11 rfl
  have x2_12 : ∀ e : Later V, e.x.cell? ⟨w.heap.size + 1, 12, none⟩ = some (.int .u64 (r2.node : Int)) := HB2.out.cellL 12 rfl
  have x2_13 : ∀ e : Later V, e.x.cell? ⟨w.heap.size + 1, 13, none⟩ = some (.int .u64 (r2.svc : Int)) := HB2.out.cellL 13 rfl
  have x2_14 : ∀ e : Later V, e.x.cell? ⟨w.heap.size + 1, 14, none⟩ = some (.int .u64 (t2 : Int)) := HB2.out.cellL 14 rfl
  have x2_15 : ∀ e : Later V, e.x.cell? ⟨w.heap.size + 1, 15, none⟩ = some (.int .u64 (q2 : Int)) := HB2.out.cellL 15 rfl
  have x2_16 : ∀ e : Later V, e.x.cell? ⟨w.heap.size + 1, 16, none⟩ = some (.int .u64 (l2 : Int)) := HB2.out.cellL 16 rfl
  have x2_17 : ∀ e : Later V, e.x.cell? ⟨w.heap.size + 1, 17, none⟩ = some (.int .u64 (o2 : Int)) := HB2.out.cellL 17 rfl
  have x2_18 : ∀ e : Later V, e.x.cell? ⟨w.heap.size + 1, 18, none⟩ = some (.int .u64 (n2 : Int)) := HB2.out.cellL 18 rfl
  obtain ⟨e, he⟩ := Later.self V
  rw [he]
  clear he
  go_upto_region 3 with (first | (refine wpList_row (by rfl) 26 _ rfl _ rfl (HL1.out _) Try.underlying26 rfl (by kernel_rfl) ?_) | (refine wpList_row (by rfl) 26 _ rfl _ rfl (HL2.out _) Try.underlying26 rfl (by kernel_rfl) ?_) | (go_at_call 6; refine (Ret.later (KA.out _)).mono ?_; rintro x _ ⟨rfl, e, rfl⟩) | (go_at_call 7; first | ((with_reducible refine (Ret.later (KF1.out _)).mono ?_); rintro x _ ⟨rfl, e, rfl⟩) | ((with_reducible refine (Ret.later (KF2.out _)).mono ?_); rintro x _ ⟨rfl, e, rfl⟩)))
  have ga : ((sb1) == (sb2)) = false := by rw [beq_eq_false_iff_ne]; exact hx
  have gb : ((sb1) = (sb2)) = False := eq_false (by exact hx)
  have gc : ((sb1) != (sb2)) = true := by rw [bne_iff_ne]; exact hx
  clear hx
  refine wp_region_later (by kernel_rfl) (by kernel_rfl) ?_
  repeat (go_big_quiet_step ((first | (go_at_call 8; first | (with_reducible exact Ret.later (KH1.out _)) | (with_reducible exact Ret.later (KH2.out _))))))
  refine wpQuiet_nil ?_
  rintro _ ⟨e, rfl⟩
  go_upto_region 6 with fail
  refine wp_region_later (by kernel_rfl) (by kernel_rfl) ?_
  repeat (first | (refine later_row (by rfl) 26 _ rfl _ rfl HL1.out Try.underlying26 rfl (by kernel_rfl) ?_; simp only [Act.put, List.setIfInBounds_toArray, List.set_cons_zero, List.set_cons_succ]) | (refine later_row (by rfl) 26 _ rfl _ rfl HL2.out Try.underlying26 rfl (by kernel_rfl) ?_; simp only [Act.put, List.setIfInBounds_toArray, List.set_cons_zero, List.set_cons_succ]) | go_big_quiet_step ((first | (go_at_call 9; first | (with_reducible exact Ret.later (KN1.out _)) | (with_reducible exact Ret.later (KN2.out _))))))
  refine wpQuiet_nil ?_
  rintro _ ⟨e, rfl⟩
  clear x1_0 x2_0 x1_1 x2_1 x1_2 x2_2 x1_3 x2_3 x1_4 x2_4 x1_5 x2_5 x1_6 x2_6 x1_7 x2_7 x1_8 x2_8 x1_9 x2_9 x1_10 x2_10 x1_11 x2_11 x1_12 x2_12 x1_13 x2_13 x1_14 x2_14 x1_15 x2_15 x1_16 x2_16 x1_17 x2_17 x1_18 x2_18
  go_upto_region 9 with (first | (refine wpList_row (by rfl) 26 _ rfl _ rfl (HL1.out _) Try.underlying26 rfl (by kernel_rfl) ?_) | (refine wpList_store_mid rfl 26 _ _ rfl e.x.heap.size 0 (⟨fl1 / 2 * 2, crc1, d1, ⟨sa1, sb1, sc1, sd1⟩, r1, t1, q1, l1, 0, 0⟩ : PV).c (by rfl) (by rfl) ((Blk.new _ _ _).there (Nat.le_refl 19)) (by kernel_rfl) (PV.one _) ?_) | (go_at_call 10; refine (Ret.later (KW1.out _)).mono ?_; rintro x _ ⟨rfl, e, rfl⟩))
  generalize hU : World.setCells _ _ _ _ = U1
  have HMU : Hid (Ext e.x U1) := hid (by rw [← hU]; exact setCells_mod _ _ ((Mod.refl [] e.x).alloc _) (.inr (Nat.le_refl _)))
  have HA1 : Hid (Blk U1 e.x.heap.size 26 (⟨fl1 / 2 * 2, crc1, d1, ⟨sa1, sb1, sc1, sd1⟩, r1, t1, q1, l1, 0, 0⟩ : PV).c) := hid (by rw [← hU]; exact setCells_all (Blk.new _ _ _) rfl)
  clear hU
  have HC2 : Hid (Blk U1 (w.heap.size + 1) 26 (⟨fl2, crc2, d2, ⟨sa1, sb2, sc2, sd2⟩, r2, t2, q2, l2, o2, n2⟩ : PV).c) := hid ((HB2.out.later e).ext HMU.out)
  have HC1 : Hid (Blk U1 w.heap.size 26 (⟨fl1, crc1, d1, ⟨sa1, sb1, sc1, sd1⟩, r1, t1, q1, l1, o1, n1⟩ : PV).c) := hid ((HB1.out.later e).ext HMU.out)
  have HEU : Hid (Ext w U1) := hid ((HE.out.trans e.h).trans HMU.out)
  clear HMU
  generalize e.x.heap.size = g1 at *
  clear e
  obtain ⟨e, he⟩ := Later.self U1
  rw [he]
  clear he
  go_upto_region 10 with (first | (refine wpList_row (by rfl) 26 _ rfl _ rfl (HC2.out.later _) Try.underlying26 rfl (by kernel_rfl) ?_) | (refine wpList_store_mid rfl 26 _ _ rfl e.x.heap.size 0 (⟨fl2 / 2 * 2, crc2, d2, ⟨sa1, sb2, sc2, sd2⟩, r2, t2, q2, l2, 0, 0⟩ : PV).c (by rfl) (by rfl) ((Blk.new _ _ _).there (Nat.le_refl 19)) (by kernel_rfl) (PV.one _) ?_) | (go_at_call 10; refine (Ret.later (KW2.out _)).mono ?_; rintro x _ ⟨rfl, e, rfl⟩))
  generalize hU : World.setCells _ _ _ _ = U2
  have HMU : Hid (Ext e.x U2) := hid (by rw [← hU]; exact setCells_mod _ _ ((Mod.refl [] e.x).alloc _) (.inr (Nat.le_refl _)))
  have HA3 : Hid (Blk U2 e.x.heap.size 26 (⟨fl2 / 2 * 2, crc2, d2, ⟨sa1, sb2, sc2, sd2⟩, r2, t2, q2, l2, 0, 0⟩ : PV).c) := hid (by rw [← hU]; exact setCells_all (Blk.new _ _ _) rfl)
  clear hU
  have HA2 : Hid (Blk U2 g1 26 (⟨fl1 / 2 * 2, crc1, d1, ⟨sa1, sb1, sc1, sd1⟩, r1, t1, q1, l1, 0, 0⟩ : PV).c) := hid ((HA1.out.later e).ext HMU.out)
  have HD1 : Hid (Blk U2 w.heap.size 26 (⟨fl1, crc1, d1, ⟨sa1, sb1, sc1, sd1⟩, r1, t1, q1, l1, o1, n1⟩ : PV).c) := hid ((HC1.out.later e).ext HMU.out)
  have HEV : Hid (Ext w U2) := hid ((HEU.out.trans e.h).trans HMU.out)
  clear HMU
  generalize e.x.heap.size = g2 at *
  clear e
  have y0 : ∀ e : Later U2, e.x.cell? ⟨w.heap.size, 0, none⟩ = some (.int .u64 (fl1 : Int)) := HD1.out.cellL 0 rfl
  have y1 : ∀ e : Later U2, e.x.cell? ⟨w.heap.size, 1, none⟩ = some (.int .i64 crc1) := HD1.out.cellL 1 rfl
  have y2 : ∀ e : Later U2, e.x.cell? ⟨w.heap.size, 2, none⟩ = some (.int .i64 d1.sch) := HD1.out.cellL 2 rfl
  have y3 : ∀ e : Later U2, e.x.cell? ⟨w.heap.size, 3, none⟩ = some (str d1.name) := HD1.out.cellL 3 rfl
  have y4 : ∀ e : Later U2, e.x.cell? ⟨w.heap.size, 4, none⟩ = some (.int .u64 (d1.node : Int)) := HD1.out.cellL 4 rfl
  have y5 : ∀ e : Later U2, e.x.cell? ⟨w.heap.size, 5, none⟩ = some (.int .u64 (d1.svc : Int)) := HD1.out.cellL 5 rfl
  have y10 : ∀ e : Later U2, e.x.cell? ⟨w.heap.size, 10, none⟩ = some (.int .i64 r1.sch) := HD1.out.cellL 10 rfl
  have y11 : ∀ e : Later U2, e.x.cell? ⟨w.heap.size, 11, none⟩ = some (str r1.name) := HD1.out.cellL 11 rfl
  have y12 : ∀ e : Later U2, e.x.cell? ⟨w.heap.size, 12, none⟩ = some (.int .u64 (r1.node : Int)) := HD1.out.cellL 12 rfl
  have y13 : ∀ e : Later U2, e.x.cell? ⟨w.heap.size, 13, none⟩ = some (.int .u64 (r1.svc : Int)) := HD1.out.cellL 13 rfl
  have y16 : ∀ e : Later U2, e.x.cell? ⟨w.heap.size, 16, none⟩ = some (.int .u64 (l1 : Int)) := HD1.out.cellL 16 rfl
  have z0 : ∀ e : Later U2, e.x.cell? ⟨g1, 0, none⟩ = some (.int .u64 ((fl1 : Int) / 2 * 2)) := HA2.out.cellL 0 (by simp)
  have z1 : ∀ e : Later U2, e.x.cell? ⟨g1, 1, none⟩ = some (.int .i64 crc1) := HA2.out.cellL 1 rfl
  have z2 : ∀ e : Later U2, e.x.cell? ⟨g1, 2, none⟩ = some (.int .i64 d1.sch) := HA2.out.cellL 2 rfl
  have z3 : ∀ e : Later U2, e.x.cell? ⟨g1, 3, none⟩ = some (str d1.name) := HA2.out.cellL 3 rfl
  have z4 : ∀ e : Later U2, e.x.cell? ⟨g1, 4, none⟩ = some (.int .u64 (d1.node : Int)) := HA2.out.cellL 4 rfl
  have z5 : ∀ e : Later U2, e.x.cell? ⟨g1, 5, none⟩ = some (.int .u64 (d1.svc : Int)) := HA2.out.cellL 5 rfl
  have z10 : ∀ e : Later U2, e.x.cell? ⟨g1, 10, none⟩ = some (.int .i64 r1.sch) := HA2.out.cellL 10 rfl
  have z11 : ∀ e : Later U2, e.x.cell? ⟨g1, 11, none⟩ = some (str r1.name) := HA2.out.cellL 11 rfl
  have z12 : ∀ e : Later U2, e.x.cell? ⟨g1, 12, none⟩ = some (.int .u64 (r1.node : Int)) := HA2.out.cellL 12 rfl
  have z13 : ∀ e : Later U2, e.x.cell? ⟨g1, 13, none⟩ = some (.int .u64 (r1.svc : Int)) := HA2.out.cellL 13 rfl
  have z16 : ∀ e : Later U2, e.x.cell? ⟨g1, 16, none⟩ = some (.int .u64 (l1 : Int)) := HA2.out.cellL 16 rfl
  have z17 : ∀ e : Later U2, e.x.cell? ⟨g1, 17, none⟩ = some (.int .u64 0) := HA2.out.cellL 17 rfl
  have z18 : ∀ e : Later U2, e.x.cell? ⟨g1, 18, none⟩ = some (.int .u64 0) := HA2.out.cellL 18 rfl
  obtain ⟨e, he⟩ := Later.self U2
  rw [he]
  clear he
  go_upto_region 12 with (go_at_call 8; refine (Ret.later (KG1.out _)).mono ?_; rintro x _ ⟨rfl, e, rfl⟩)
  refine wp_region_later (by kernel_rfl) (by kernel_rfl) ?_
  repeat (first | (refine later_row (by rfl) 26 _ rfl _ rfl (fun e => HA2.out.later e) Try.underlying26 rfl (by kernel_rfl) ?_; simp only [Act.put, List.setIfInBounds_toArray, List.set_cons_zero, List.set_cons_succ]) | (refine later_row (by rfl) 26 _ rfl _ rfl (fun e => HA3.out.later e) Try.underlying26 rfl (by kernel_rfl) ?_; simp only [Act.put, List.setIfInBounds_toArray, List.set_cons_zero, List.set_cons_succ]) | go_big_quiet_step ((first | (go_at_call 9; first | (with_reducible exact Ret.later (KM1.out _)) | (with_reducible exact Ret.later (KM2.out _))))))
  refine wpQuiet_nil ?_
  rintro _ ⟨e, rfl⟩
  go_wp2_with fail
  all_goals go_ret
  all_goals exact Ret.mk (by simp) (HEV.out.trans e.h)
end Go.Proofs.Ytldomommbopgjaa


namespace Go.Proofs.Ytldomommbopgjaa
open Go.RowKit
set_option linter.unusedVariables false

set_option maxRecDepth 20000 in
set_option maxHeartbeats 8000000 in
theorem names_sc (fl1 : Nat) (crc1 : Int) (d1 : EV) (sa1 : Int) (sb1 : List UInt8) (sc1 sd1 : Nat) (r1 : EV) (t1 q1 l1 o1 n1 : Nat) (fl2 : Nat) (crc2 : Int) (d2 : EV)   (sc2 sd2 : Nat) (r2 : EV) (t2 q2 l2 o2 n2 : Nat) (hf1 : fl1 < 18446744073709551616) (hf2 : fl2 < 18446744073709551616) (hF1 : (⟨fl1, crc1, d1, ⟨sa1, sb1, sc1, sd1⟩, r1, t1, q1, l1, o1, n1⟩ : PV).few = true) (hF2 : (⟨fl2, crc2, d2, ⟨sa1, sb1, sc2, sd2⟩, r2, t2, q2, l2, o2, n2⟩ : PV).few = true) (hx : ¬ sc1 = sc2) (w : World) : Calls Try.prog 3 #[.agg (⟨fl1, crc1, d1, ⟨sa1, sb1, sc1, sd1⟩, r1, t1, q1, l1, o1, n1⟩ : PV).c, .agg (⟨fl2, crc2, d2, ⟨sa1, sb1, sc2, sd2⟩, r2, t2, q2, l2, o2, n2⟩ : PV).c] w (Ret (.bool true) w) := by
  have KA := hid (fun W => awake11_any W)
  have KF1 := hid (fun W => few11P_any (⟨fl1, crc1, d1, ⟨sa1, sb1, sc1, sd1⟩, r1, t1, q1, l1, o1, n1⟩ : PV) W)
  have KF2 := hid (fun W => few11P_any (⟨fl2, crc2, d2, ⟨sa1, sb1, sc2, sd2⟩, r2, t2, q2, l2, o2, n2⟩ : PV) W)
  have KN1 := hid (fun W => Name_any (⟨fl1, crc1, d1, ⟨sa1, sb1, sc1, sd1⟩, r1, t1, q1, l1, o1, n1⟩ : PV) hf1 W)
  have KN2 := hid (fun W => Name_any (⟨fl2, crc2, d2, ⟨sa1, sb1, sc2, sd2⟩, r2, t2, q2, l2, o2, n2⟩ : PV) hf2 W)
  have KW1 := hid (fun W => Whole_any (⟨fl1, crc1, d1, ⟨sa1, sb1, sc1, sd1⟩, r1, t1, q1, l1, o1, n1⟩ : PV) hf1 W)
  have KW2 := hid (fun W => Whole_any (⟨fl2, crc2, d2, ⟨sa1, sb1, sc2, sd2⟩, r2, t2, q2, l2, o2, n2⟩ : PV) hf2 W)
  have KM1 := hid (fun W => Name_any (⟨fl1 / 2 * 2, crc1, d1, ⟨sa1, sb1, sc1, sd1⟩, r1, t1, q1, l1, 0, 0⟩ : PV) (show fl1 / 2 * 2 < 18446744073709551616 by omega) W)
  have KM2 := hid (fun W => Name_any (⟨fl2 / 2 * 2, crc2, d2, ⟨sa1, sb1, sc2, sd2⟩, r2, t2, q2, l2, 0, 0⟩ : PV) (show fl2 / 2 * 2 < 18446744073709551616 by omega) W)
  have KH1 : Hid (∀ W, Calls Try.prog 8 #[.int .u64 (fl1 : Int), .int .i64 1] W (Ret (.bool (has fl1 1)) W)) := fun W => Has_any fl1 1 hf1 (by omega) (by omega) W
  have KH2 : Hid (∀ W, Calls Try.prog 8 #[.int .u64 (fl2 : Int), .int .i64 1] W (Ret (.bool (has fl2 1)) W)) := fun W => Has_any fl2 1 hf2 (by omega) (by omega) W
  have hw1 : has (fl1 / 2 * 2) 1 = false := by unfold has; simp
  have hw2 : has (fl2 / 2 * 2) 1 = false := by unfold has; simp
  have KG1 : Hid (∀ W, Calls Try.prog 8 #[.int .u64 ((fl1 : Int) / 2 * 2), .int .i64 1] W (Ret (.bool false) W)) := fun W => by have := Has_any (fl1 / 2 * 2) 1 (by omega) (by omega) (by omega) W; rw [hw1] at this; simpa using this
  unfold PV.idV at KN1 KN2 KM1 KM2
  dsimp only at KN1 KN2 KM1 KM2
  rw [hw1] at KM1
  rw [hw2] at KM2
  dsimp only [PV.whole] at KW1 KW2
  simp only [Bool.false_eq_true, if_false] at KM1 KM2
  have u1 : IntKind.u64.wrap ((fl1 : Int) / 2) = (fl1 : Int) / 2 := IntWalk.u64_in _ (by omega)
  have u2 : IntKind.u64.wrap ((fl1 : Int) / 2 * 2) = (fl1 : Int) / 2 * 2 := IntWalk.u64_in _ (by omega)
  have f0 : (0 : Int) ≤ (fl1 : Int) := by omega
  have HE := hid (((Mod.refl [] w).alloc (.cells (⟨fl1, crc1, d1, ⟨sa1, sb1, sc1, sd1⟩, r1, t1, q1, l1, o1, n1⟩ : PV).c 26)).alloc (.cells (⟨fl2, crc2, d2, ⟨sa1, sb1, sc2, sd2⟩, r2, t2, q2, l2, o2, n2⟩ : PV).c 26))
  have HB1 := hid ((Blk.new w 26 (⟨fl1, crc1, d1, ⟨sa1, sb1, sc1, sd1⟩, r1, t1, q1, l1, o1, n1⟩ : PV).c).alloc (.cells (⟨fl2, crc2, d2, ⟨sa1, sb1, sc2, sd2⟩, r2, t2, q2, l2, o2, n2⟩ : PV).c 26))
  have HB2 : Hid (Blk ((w.alloc (.cells (⟨fl1, crc1, d1, ⟨sa1, sb1, sc1, sd1⟩, r1, t1, q1, l1, o1, n1⟩ : PV).c 26)).alloc (.cells (⟨fl2, crc2, d2, ⟨sa1, sb1, sc2, sd2⟩, r2, t2, q2, l2, o2, n2⟩ : PV).c 26)) (w.heap.size + 1) 26 (⟨fl2, crc2, d2, ⟨sa1, sb1, sc2, sd2⟩, r2, t2, q2, l2, o2, n2⟩ : PV).c) := Blk.newL _ _ _ (by simp)
  obtain ⟨oo1, hoo1⟩ : ∃ x, (if has fl1 1 = true then o1 else 0) = x := ⟨_, rfl⟩
  obtain ⟨nn1, hnn1⟩ : ∃ x, (if has fl1 1 = true then n1 else 0) = x := ⟨_, rfl⟩
  obtain ⟨oo2, hoo2⟩ : ∃ x, (if has fl2 1 = true then o2 else 0) = x := ⟨_, rfl⟩
  obtain ⟨nn2, hnn2⟩ : ∃ x, (if has fl2 1 = true then n2 else 0) = x := ⟨_, rfl⟩
  rw [hoo1, hnn1] at KN1
  rw [hoo2, hnn2] at KN2
  have HO1 := hid hoo1
  have HO2 := hid hoo2
  have HN1 := hid hnn1
  have HN2 := hid hnn2
  clear hw1 hw2 hf1 hf2 hoo1 hoo2 hnn1 hnn2
  rw [hF1] at KF1
  rw [hF2] at KF2
  clear hF1 hF2
  go_enter Try.func3, Try.ntmps3
  go_upto_region 1 with fail
  generalize (w.alloc (.cells (⟨fl1, crc1, d1, ⟨sa1, sb1, sc1, sd1⟩, r1, t1, q1, l1, o1, n1⟩ : PV).c 26)).alloc (.cells (⟨fl2, crc2, d2, ⟨sa1, sb1, sc2, sd2⟩, r2, t2, q2, l2, o2, n2⟩ : PV).c 26) = V at *
  have HL1 : Hid (∀ e : Later V, Blk e.x w.heap.size 26 (⟨fl1, crc1, d1, ⟨sa1, sb1, sc1, sd1⟩, r1, t1, q1, l1, o1, n1⟩ : PV).c) := fun e => HB1.out.later e
  have HL2 : Hid (∀ e : Later V, Blk e.x (w.heap.size + 1) 26 (⟨fl2, crc2, d2, ⟨sa1, sb1, sc2, sd2⟩, r2, t2, q2, l2, o2, n2⟩ : PV).c) := fun e => HB2.out.later e
  have x1_0 : ∀ e : Later V, e.x.cell? ⟨w.heap.size, 0, none⟩ = some (.int .u64 (fl1 : Int)) := HB1.out.cellL 0 rfl
  have x1_1 : ∀ e : Later V, e.x.cell? ⟨w.heap.size, 1, none⟩ = some (.int .i64 crc1) := HB1.out.cellL 1 rfl
  have x1_2 : ∀ e : Later V, e.x.cell? ⟨w.heap.size, 2, none⟩ = some (.int .i64 d1.sch) := HB1.out.cellL 2 rfl
  have x1_3 : ∀ e : Later V, e.x.cell? ⟨w.heap.size, 3, none⟩ = some (str d1.name) := HB1.out.cellL 3 rfl
  have x1_4 : ∀ e : Later V, e.x.cell? ⟨w.heap.size, 4, none⟩ = some (.int .u64 (d1.node : Int)) := HB1.out.cellL 4 rfl
  have x1_5 : ∀ e : Later V, e.x.cell? ⟨w.heap.size, 5, none⟩ = some (.int .u64 (d1.svc : Int)) := HB1.out.cellL 5 rfl
  have x1_6 : ∀ e : Later V, e.x.cell? ⟨w.heap.size, 6, none⟩ = some (.int .i64 sa1) := HB1.out.cellL 6 rfl
  have x1_7 : ∀ e : Later V, e.x.cell? ⟨w.heap.size, 7, none⟩ = some (str sb1) := HB1.out.cellL 7 rfl
  have x1_8 : ∀ e : Later V, e.x.cell? ⟨w.heap.size, 8, none⟩ = some (.int .u64 (sc1 : Int)) := HB1.out.cellL 8 rfl
  have x1_9 : ∀ e : Later V, e.x.cell? ⟨w.heap.size, 9, none⟩ = some (.int .u64 (sd1 : Int)) := HB1.out.cellL 9 rfl
  have x1_10 : ∀ e : Later V, e.x.cell? ⟨w.heap.size, 10, none⟩ = some (.int .i64 r1.sch) := HB1.out.cellL 10 rfl
  have x1_11 : ∀ e : Later V, e.x.cell? ⟨w.heap.size, 11, none⟩ = some (str r1.name) := HB1.out.cellL 11 rfl
  have x1_12 : ∀ e : Later V, e.x.cell? ⟨w.heap.size, 12, none⟩ = some (.int .u64 (r1.node : Int)) := HB1.out.cellL 12 rfl
  have x1_13 : ∀ e : Later V, e.x.cell? ⟨w.heap.size, 13, none⟩ = some (.int .u64 (r1.svc : Int)) := HB1.out.cellL 13 rfl
  have x1_14 : ∀ e : Later V, e.x.cell? ⟨w.heap.size, 14, none⟩ = some (.int .u64 (t1 : Int)) := HB1.out.cellL 14 rfl
  have x1_15 : ∀ e : Later V, e.x.cell? ⟨w.heap.size, 15, none⟩ = some (.int .u64 (q1 : Int)) := HB1.out.cellL 15 rfl
  have x1_16 : ∀ e : Later V, e.x.cell? ⟨w.heap.size, 16, none⟩ = some (.int .u64 (l1 : Int)) := HB1.out.cellL 16 rfl
  have x1_17 : ∀ e : Later V, e.x.cell? ⟨w.heap.size, 17, none⟩ = some (.int .u64 (o1 : Int)) := HB1.out.cellL 17 rfl
  have x1_18 : ∀ e : Later V, e.x.cell? ⟨w.heap.size, 18, none⟩ = some (.int .u64 (n1 : Int)) := HB1.out.cellL 18 rfl
  have x2_0 : ∀ e : Later V, e.x.cell? ⟨w.heap.size + 1, 0, none⟩ = some (.int .u64 (fl2 : Int)) := HB2.out.cellL 0 rfl
  have x2_1 : ∀ e : Later V, e.x.cell? ⟨w.heap.size + 1, 1, none⟩ = some (.int .i64 crc2) := HB2.out.cellL 1 rfl
  have x2_2 : ∀ e : Later V, e.x.cell? ⟨w.heap.size + 1, 2, none⟩ = some (.int .i64 d2.sch) := HB2.out.cellL 2 rfl
  have x2_3 : ∀ e : Later V, e.x.cell? ⟨w.heap.size + 1, 3, none⟩ = some (str d2.name) := HB2.out.cellL 3 rfl
  have x2_4 : ∀ e : Later V, e.x.cell? ⟨w.heap.size + 1, 4, none⟩ = some (.int .u64 (d2.node : Int)) := HB2.out.cellL 4 rfl
  have x2_5 : ∀ e : Later V, e.x.cell? ⟨w.heap.size + 1, 5, none⟩ = some (.int .u64 (d2.svc : Int)) := HB2.out.cellL 5 rfl
  have x2_6 : ∀ e : Later V, e.x.cell? ⟨w.heap.size + 1, 6, none⟩ = some (.int .i64 sa1) := HB2.out.cellL 6 rfl
  have x2_7 : ∀ e : Later V, e.x.cell? ⟨w.heap.size + 1, 7, none⟩ = some (str sb1) := HB2.out.cellL 7 rfl
  have x2_8 : ∀ e : Later V, e.x.cell? ⟨w.heap.size + 1, 8, none⟩ = some (.int .u64 (sc2 : Int)) := HB2.out.cellL 8 rfl
  have x2_9 : ∀ e : Later V, e.x.cell? ⟨w.heap.size + 1, 9, none⟩ = some (.int .u64 (sd2 : Int)) := HB2.out.cellL 9 rfl
  have x2_10 : ∀ e : Later V, e.x.cell? ⟨w.heap.size + 1, 10, none⟩ = some (.int .i64 r2.sch) := HB2.out.cellL 10 rfl
  have x2_11 : ∀ e : Later V, e.x.cell? ⟨w.heap.size + 1, 11, none⟩ = some (str r2.name) := HB2.out.cellL 11 rfl
  have x2_12 : ∀ e : Later V, e.x.cell? ⟨w.heap.size + 1, 12, none⟩ = some (.int .u64 (r2.node : Int)) := HB2.out.cellL 12 rfl
  have x2_13 : ∀ e : Later V, e.x.cell? ⟨w.heap.size + 1, 13, none⟩ = some (.int .u64 (r2.svc : Int)) := HB2.out.cellL 13 rfl
  have x2_14 : ∀ e : Later V, e.x.cell? ⟨w.heap.size + 1, 14, none⟩ = some (.int .u64 (t2 : Int)) := HB2.out.cellL 14 rfl
  have x2_15 : ∀ e : Later V, e.x.cell? ⟨w.heap.size + 1, 15, none⟩ = some (.int .u64 (q2 : Int)) := HB2.out.cellL 15 rfl
  have x2_16 : ∀ e : Later V, e.x.cell? ⟨w.heap.size + 1, 16, none⟩ = some (.int .u64 (l2 : Int)) := HB2.out.cellL 16 rfl
  have x2_17 : ∀ e : Later V, e.x.cell? ⟨w.heap.size + 1, 17, none⟩ = some (.int .u64 (o2 : Int)) := HB2.out.cellL 17 rfl
  have x2_18 : ∀ e : Later V, e.x.cell? ⟨w.heap.size + 1, 18, none⟩ = some (.int .u64 (n2 : Int)) := HB2.out.cellL 18 rfl
  obtain ⟨e, he⟩ := Later.self V
  rw [he]
  clear he
  go_upto_region 3 with (first | (refine wpList_row (by rfl) 26 _ rfl _ rfl (HL1.out _) Try.underlying26 rfl (by kernel_rfl) ?_) | (refine wpList_row (by rfl) 26 _ rfl _ rfl (HL2.out _) Try.underlying26 rfl (by kernel_rfl) ?_) | (go_at_call 6; refine (Ret.later (KA.out _)).mono ?_; rintro x _ ⟨rfl, e, rfl⟩) | (go_at_call 7; first | ((with_reducible refine (Ret.later (KF1.out _)).mono ?_); rintro x _ ⟨rfl, e, rfl⟩) | ((with_reducible refine (Ret.later (KF2.out _)).mono ?_); rintro x _ ⟨rfl, e, rfl⟩)))
  have ga : (((sc1 : Int)) == ((sc2 : Int))) = false := by rw [beq_eq_false_iff_ne]; omega
  have gb : (((sc1 : Int)) = ((sc2 : Int))) = False := eq_false (by omega)
  have gc : (((sc1 : Int)) != ((sc2 : Int))) = true := by rw [bne_iff_ne]; omega
  have gn : (sc1 = sc2) = False := eq_false hx
  have gm : (sc1 == sc2) = false := by rw [beq_eq_false_iff_ne]; exact hx
  clear hx
  refine wp_region_later (by kernel_rfl) (by kernel_rfl) ?_
  repeat (go_big_quiet_step ((first | (go_at_call 8; first | (with_reducible exact Ret.later (KH1.out _)) | (with_reducible exact Ret.later (KH2.out _))))))
  refine wpQuiet_nil ?_
  rintro _ ⟨e, rfl⟩
  go_upto_region 6 with fail
  refine wp_region_later (by kernel_rfl) (by kernel_rfl) ?_
  repeat (first | (refine later_row (by rfl) 26 _ rfl _ rfl HL1.out Try.underlying26 rfl (by kernel_rfl) ?_; simp only [Act.put, List.setIfInBounds_toArray, List.set_cons_zero, List.set_cons_succ]) | (refine later_row (by rfl) 26 _ rfl _ rfl HL2.out Try.underlying26 rfl (by kernel_rfl) ?_; simp only [Act.put, List.setIfInBounds_toArray, List.set_cons_zero, List.set_cons_succ]) | go_big_quiet_step ((first | (go_at_call 9; first | (with_reducible exact Ret.later (KN1.out _)) | (with_reducible exact Ret.later (KN2.out _))))))
  refine wpQuiet_nil ?_
  rintro _ ⟨e, rfl⟩
  clear x1_0 x2_0 x1_1 x2_1 x1_2 x2_2 x1_3 x2_3 x1_4 x2_4 x1_5 x2_5 x1_6 x2_6 x1_7 x2_7 x1_8 x2_8 x1_9 x2_9 x1_10 x2_10 x1_11 x2_11 x1_12 x2_12 x1_13 x2_13 x1_14 x2_14 x1_15 x2_15 x1_16 x2_16 x1_17 x2_17 x1_18 x2_18
  go_upto_region 9 with (first | (refine wpList_row (by rfl) 26 _ rfl _ rfl (HL1.out _) Try.underlying26 rfl (by kernel_rfl) ?_) | (refine wpList_store_mid rfl 26 _ _ rfl e.x.heap.size 0 (⟨fl1 / 2 * 2, crc1, d1, ⟨sa1, sb1, sc1, sd1⟩, r1, t1, q1, l1, 0, 0⟩ : PV).c (by rfl) (by rfl) ((Blk.new _ _ _).there (Nat.le_refl 19)) (by kernel_rfl) (PV.one _) ?_) | (go_at_call 10; refine (Ret.later (KW1.out _)).mono ?_; rintro x _ ⟨rfl, e, rfl⟩))
  generalize hU : World.setCells _ _ _ _ = U1
  have HMU : Hid (Ext e.x U1) := hid (by rw [← hU]; exact setCells_mod _ _ ((Mod.refl [] e.x).alloc _) (.inr (Nat.le_refl _)))
  have HA1 : Hid (Blk U1 e.x.heap.size 26 (⟨fl1 / 2 * 2, crc1, d1, ⟨sa1, sb1, sc1, sd1⟩, r1, t1, q1, l1, 0, 0⟩ : PV).c) := hid (by rw [← hU]; exact setCells_all (Blk.new _ _ _) rfl)
  clear hU
  have HC2 : Hid (Blk U1 (w.heap.size + 1) 26 (⟨fl2, crc2, d2, ⟨sa1, sb1, sc2, sd2⟩, r2, t2, q2, l2, o2, n2⟩ : PV).c) := hid ((HB2.out.later e).ext HMU.out)
  have HC1 : Hid (Blk U1 w.heap.size 26 (⟨fl1, crc1, d1, ⟨sa1, sb1, sc1, sd1⟩, r1, t1, q1, l1, o1, n1⟩ : PV).c) := hid ((HB1.out.later e).ext HMU.out)
  have HEU : Hid (Ext w U1) := hid ((HE.out.trans e.h).trans HMU.out)
  clear HMU
  generalize e.x.heap.size = g1 at *
  clear e
  obtain ⟨e, he⟩ := Later.self U1
  rw [he]
  clear he
  go_upto_region 10 with (first | (refine wpList_row (by rfl) 26 _ rfl _ rfl (HC2.out.later _) Try.underlying26 rfl (by kernel_rfl) ?_) | (refine wpList_store_mid rfl 26 _ _ rfl e.x.heap.size 0 (⟨fl2 / 2 * 2, crc2, d2, ⟨sa1, sb1, sc2, sd2⟩, r2, t2, q2, l2, 0, 0⟩ : PV).c (by rfl) (by rfl) ((Blk.new _ _ _).there (Nat.le_refl 19)) (by kernel_rfl) (PV.one _) ?_) | (go_at_call 10; refine (Ret.later (KW2.out _)).mono ?_; rintro x _ ⟨rfl, e, rfl⟩))
  generalize hU : World.setCells _ _ _ _ = U2
  have HMU : Hid (Ext e.x U2) := hid (by rw [← hU]; exact setCells_mod _ _ ((Mod.refl [] e.x).alloc _) (.inr (Nat.le_refl _)))
  have HA3 : Hid (Blk U2 e.x.heap.size 26 (⟨fl2 / 2 * 2, crc2, d2, ⟨sa1, sb1, sc2, sd2⟩, r2, t2, q2, l2, 0, 0⟩ : PV).c) := hid (by rw [← hU]; exact setCells_all (Blk.new _ _ _) rfl)
  clear hU
  have HA2 : Hid (Blk U2 g1 26 (⟨fl1 / 2 * 2, crc1, d1, ⟨sa1, sb1, sc1, sd1⟩, r1, t1, q1, l1, 0, 0⟩ : PV).c) := hid ((HA1.out.later e).ext HMU.out)
  have HD1 : Hid (Blk U2 w.heap.size 26 (⟨fl1, crc1, d1, ⟨sa1, sb1, sc1, sd1⟩, r1, t1, q1, l1, o1, n1⟩ : PV).c) := hid ((HC1.out.later e).ext HMU.out)
  have HEV : Hid (Ext w U2) := hid ((HEU.out.trans e.h).trans HMU.out)
  clear HMU
  generalize e.x.heap.size = g2 at *
  clear e
  have y0 : ∀ e : Later U2, e.x.cell? ⟨w.heap.size, 0, none⟩ = some (.int .u64 (fl1 : Int)) := HD1.out.cellL 0 rfl
  have y1 : ∀ e : Later U2, e.x.cell? ⟨w.heap.size, 1, none⟩ = some (.int .i64 crc1) := HD1.out.cellL 1 rfl
  have y2 : ∀ e : Later U2, e.x.cell? ⟨w.heap.size, 2, none⟩ = some (.int .i64 d1.sch) := HD1.out.cellL 2 rfl
  have y3 : ∀ e : Later U2, e.x.cell? ⟨w.heap.size, 3, none⟩ = some (str d1.name) := HD1.out.cellL 3 rfl
  have y4 : ∀ e : Later U2, e.x.cell? ⟨w.heap.size, 4, none⟩ = some (.int .u64 (d1.node : Int)) := HD1.out.cellL 4 rfl
  have y5 : ∀ e : Later U2, e.x.cell? ⟨w.heap.size, 5, none⟩ = some (.int .u64 (d1.svc : Int)) := HD1.out.cellL 5 rfl
  have y10 : ∀ e : Later U2, e.x.cell? ⟨w.heap.size, 10, none⟩ = some (.int .i64 r1.sch) := HD1.out.cellL 10 rfl
  have y11 : ∀ e : Later U2, e.x.cell? ⟨w.heap.size, 11, none⟩ = some (str r1.name) := HD1.out.cellL 11 rfl
  have y12 : ∀ e : Later U2, e.x.cell? ⟨w.heap.size, 12, none⟩ = some (.int .u64 (r1.node : Int)) := HD1.out.cellL 12 rfl
  have y13 : ∀ e : Later U2, e.x.cell? ⟨w.heap.size, 13, none⟩ = some (.int .u64 (r1.svc : Int)) := HD1.out.cellL 13 rfl
  have y16 : ∀ e : Later U2, e.x.cell? ⟨w.heap.size, 16, none⟩ = some (.int .u64 (l1 : Int)) := HD1.out.cellL 16 rfl
  have z0 : ∀ e : Later U2, e.x.cell? ⟨g1, 0, none⟩ = some (.int .u64 ((fl1 : Int) / 2 * 2)) := HA2.out.cellL 0 (by simp)
  have z1 : ∀ e : Later U2, e.x.cell? ⟨g1, 1, none⟩ = some (.int .i64 crc1) := HA2.out.cellL 1 rfl
  have z2 : ∀ e : Later U2, e.x.cell? ⟨g1, 2, none⟩ = some (.int .i64 d1.sch) := HA2.out.cellL 2 rfl
  have z3 : ∀ e : Later U2, e.x.cell? ⟨g1, 3, none⟩ = some (str d1.name) := HA2.out.cellL 3 rfl
  have z4 : ∀ e : Later U2, e.x.cell? ⟨g1, 4, none⟩ = some (.int .u64 (d1.node : Int)) := HA2.out.cellL 4 rfl
  have z5 : ∀ e : Later U2, e.x.cell? ⟨g1, 5, none⟩ = some (.int .u64 (d1.svc : Int)) := HA2.out.cellL 5 rfl
  have z10 : ∀ e : Later U2, e.x.cell? ⟨g1, 10, none⟩ = some (.int .i64 r1.sch) := HA2.out.cellL 10 rfl
  have z11 : ∀ e : Later U2, e.x.cell? ⟨g1, 11, none⟩ = some (str r1.name) := HA2.out.cellL 11 rfl
  have z12 : ∀ e : Later U2, e.x.cell? ⟨g1, 12, none⟩ = some (.int .u64 (r1.node : Int)) := HA2.out.cellL 12 rfl
  have z13 : ∀ e : Later U2, e.x.cell? ⟨g1, 13, none⟩ = some (.int .u64 (r1.svc : Int)) := HA2.out.cellL 13 rfl
  have z16 : ∀ e : Later U2, e.x.cell? ⟨g1, 16, none⟩ = some (.int .u64 (l1 : Int)) := HA2.out.cellL 16 rfl
  have z17 : ∀ e : Later U2, e.x.cell? ⟨g1, 17, none⟩ = some (.int .u64 0) := HA2.out.cellL 17 rfl
  have z18 : ∀ e : Later U2, e.x.cell? ⟨g1, 18, none⟩ = some (.int .u64 0) := HA2.out.cellL 18 rfl
  obtain ⟨e, he⟩ := Later.self U2
  rw [he]
  clear he
  go_upto_region 12 with (go_at_call 8; refine (Ret.later (KG1.out _)).mono ?_; rintro x _ ⟨rfl, e, rfl⟩)
  refine wp_region_later (by kernel_rfl) (by kernel_rfl) ?_
  repeat (first | (refine later_row (by rfl) 26 _ rfl _ rfl (fun e => HA2.out.later e) Try.underlying26 rfl (by kernel_rfl) ?_; simp only [Act.put, List.setIfInBounds_toArray, List.set_cons_zero, List.set_cons_succ]) | (refine later_row (by rfl) 26 _ rfl _ rfl (fun e => HA3.out.later e) Try.underlying26 rfl (by kernel_rfl) ?_; simp only [Act.put, List.setIfInBounds_toArray, List.set_cons_zero, List.set_cons_succ]) | go_big_quiet_step ((first | (go_at_call 9; first | (with_reducible exact Ret.later (KM1.out _)) | (with_reducible exact Ret.later (KM2.out _))))))
  refine wpQuiet_nil ?_
  rintro _ ⟨e, rfl⟩
  go_wp2_with fail
  all_goals go_ret
  all_goals exact Ret.mk (by simp) (HEV.out.trans e.h)
set_option maxRecDepth 20000 in
set_option maxHeartbeats 8000000 in
theorem names_sd (fl1 : Nat) (crc1 : Int) (d1 : EV) (sa1 : Int) (sb1 : List UInt8) (sc1 sd1 : Nat) (r1 : EV) (t1 q1 l1 o1 n1 : Nat) (fl2 : Nat) (crc2 : Int) (d2 : EV)   ( sd2 : Nat) (r2 : EV) (t2 q2 l2 o2 n2 : Nat) (hf1 : fl1 < 18446744073709551616) (hf2 : fl2 < 18446744073709551616) (hF1 : (⟨fl1, crc1, d1, ⟨sa1, sb1, sc1, sd1⟩, r1, t1, q1, l1, o1, n1⟩ : PV).few = true) (hF2 : (⟨fl2, crc2, d2, ⟨sa1, sb1, sc1, sd2⟩, r2, t2, q2, l2, o2, n2⟩ : PV).few = true) (hx : ¬ sd1 = sd2) (w : World) : Calls Try.prog 3 #[.agg (⟨fl1, crc1, d1, ⟨sa1, sb1, sc1, sd1⟩, r1, t1, q1, l1, o1, n1⟩ : PV).c, .agg (⟨fl2, crc2, d2, ⟨sa1, sb1, sc1, sd2⟩, r2, t2, q2, l2, o2, n2⟩ : PV).c] w (Ret (.bool true) w) := by
  have KA := hid (fun W => awake11_any W)
  have KF1 := hid (fun W => few11P_any (⟨fl1, crc1, d1, ⟨sa1, sb1, sc1, sd1⟩, r1, t1, q1, l1, o1, n1⟩ : PV) W)
  have KF2 := hid (fun W => few11P_any (⟨fl2, crc2, d2, ⟨sa1, sb1, sc1, sd2⟩, r2, t2, q2, l2, o2, n2⟩ : PV) W)
  have KN1 := hid (fun W => Name_any (⟨fl1, crc1, d1, ⟨sa1, sb1, sc1, sd1⟩, r1, t1, q1, l1, o1, n1⟩ : PV) hf1 W)
  have KN2 := hid (fun W => Name_any (⟨fl2, crc2, d2, ⟨sa1, sb1, sc1, sd2⟩, r2, t2, q2, l2, o2, n2⟩ : PV) hf2 W)
  have KW1 := hid (fun W => Whole_any (⟨fl1, crc1, d1, ⟨sa1, sb1, sc1, sd1⟩, r1, t1, q1, l1, o1, n1⟩ : PV) hf1 W)
  have KW2 := hid (fun W => Whole_any (⟨fl2, crc2, d2, ⟨sa1, sb1, sc1, sd2⟩, r2, t2, q2, l2, o2, n2⟩ : PV) hf2 W)
  have KM1 := hid (fun W => Name_any (⟨fl1 / 2 * 2, crc1, d1, ⟨sa1, sb1, sc1, sd1⟩, r1, t1, q1, l1, 0, 0⟩ : PV) (show fl1 / 2 * 2 < 18446744073709551616 by omega) W)
  have KM2 := hid (fun W => Name_any (⟨fl2 / 2 * 2, crc2, d2, ⟨sa1, sb1, sc1, sd2⟩, r2, t2, q2, l2, 0, 0⟩ : PV) (show fl2 / 2 * 2 < 18446744073709551616 by omega) W)
  have KH1 : Hid (∀ W, Calls Try.prog 8 #[.int .u64 (fl1 : Int), .int .i64 1] W (Ret (.bool (has fl1 1)) W)) := fun W => Has_any fl1 1 hf1 (by omega) (by omega) W
  have KH2 : Hid (∀ W, Calls Try.prog 8 #[.int .u64 (fl2 : Int), .int .i64 1] W (Ret (.bool (has fl2 1)) W)) := fun W => Has_any fl2 1 hf2 (by omega) (by omega) W
  have hw1 : has (fl1 / 2 * 2) 1 = false := by unfold has; simp
  have hw2 : has (fl2 / 2 * 2) 1 = false := by unfold has; simp
  have KG1 : Hid (∀ W, Calls Try.prog 8 #[.int .u64 ((fl1 : Int) / 2 * 2), .int .i64 1] W (Ret (.bool false) W)) := fun W => by have := Has_any (fl1 / 2 * 2) 1 (by omega) (by omega) (by omega) W; rw [hw1] at this; simpa using this
  unfold PV.idV at KN1 KN2 KM1 KM2
  dsimp only at KN1 KN2 KM1 KM2
  rw [hw1] at KM1
  rw [hw2] at KM2
  dsimp only [PV.whole] at KW1 KW2
  simp only [Bool.false_eq_true, if_false] at KM1 KM2
  have u1 : IntKind.u64.wrap ((fl1 : Int) / 2) = (fl1 : Int) / 2 := IntWalk.u64_in _ (by omega)
  have u2 : IntKind.u64.wrap ((fl1 : Int) / 2 * 2) = (fl1 : Int) / 2 * 2 := IntWalk.u64_in _ (by omega)
  have f0 : (0 : Int) ≤ (fl1 : Int) := by omega
  have HE := hid (((Mod.refl [] w).alloc (.cells (⟨fl1, crc1, d1, ⟨sa1, sb1, sc1, sd1⟩, r1, t1, q1, l1, o1, n1⟩ : PV).c 26)).alloc (.cells (⟨fl2, crc2, d2, ⟨sa1, sb1, sc1, sd2⟩, r2, t2, q2, l2, o2, n2⟩ : PV).c 26))
  have HB1 := hid ((Blk.new w 26 (⟨fl1, crc1, d1, ⟨sa1, sb1, sc1, sd1⟩, r1, t1, q1, l1, o1, n1⟩ : PV).c).alloc (.cells (⟨fl2, crc2, d2, ⟨sa1, sb1, sc1, sd2⟩, r2, t2, q2, l2, o2, n2⟩ : PV).c 26))
  have HB2 : Hid (Blk ((w.alloc (.cells (⟨fl1, crc1, d1, ⟨sa1, sb1, sc1, sd1⟩, r1, t1, q1, l1, o1, n1⟩ : PV).c 26)).alloc (.cells (⟨fl2, crc2, d2, ⟨sa1, sb1, sc1, sd2⟩, r2, t2, q2, l2, o2, n2⟩ : PV).c 26)) (w.heap.size + 1) 26 (⟨fl2, crc2, d2, ⟨sa1, sb1, sc1, sd2⟩, r2, t2, q2, l2, o2, n2⟩ : PV).c) := Blk.newL _ _ _ (by simp)
  obtain ⟨oo1, hoo1⟩ : ∃ x, (if has fl1 1 = true then o1 else 0) = x := ⟨_, rfl⟩
  obtain ⟨nn1, hnn1⟩ : ∃ x, (if has fl1 1 = true then n1 else 0) = x := ⟨_, rfl⟩
  obtain ⟨oo2, hoo2⟩ : ∃ x, (if has fl2 1 = true then o2 else 0) = x := ⟨_, rfl⟩
  obtain ⟨nn2, hnn2⟩ : ∃ x, (if has fl2 1 = true then n2 else 0) = x := ⟨_, rfl⟩
  rw [hoo1, hnn1] at KN1
  rw [hoo2, hnn2] at KN2
  have HO1 := hid hoo1
  have HO2 := hid hoo2
  have HN1 := hid hnn1
  have HN2 := hid hnn2
  clear hw1 hw2 hf1 hf2 hoo1 hoo2 hnn1 hnn2
  rw [hF1] at KF1
  rw [hF2] at KF2
  clear hF1 hF2
  go_enter Try.func3, Try.ntmps3
  go_upto_region 1 with fail
  generalize (w.alloc (.cells (⟨fl1, crc1, d1, ⟨sa1, sb1, sc1, sd1⟩, r1, t1, q1, l1, o1, n1⟩ : PV).c 26)).alloc (.cells (⟨fl2, crc2, d2, ⟨sa1, sb1, sc1, sd2⟩, r2, t2, q2, l2, o2, n2⟩ : PV).c 26) = V at *
  have HL1 : Hid (∀ e : Later V, Blk e.x w.heap.size 26 (⟨fl1, crc1, d1, ⟨sa1, sb1, sc1, sd1⟩, r1, t1, q1, l1, o1, n1⟩ : PV).c) := fun e => HB1.out.later e
  have HL2 : Hid (∀ e : Later V, Blk e.x (w.heap.size + 1) 26 (⟨fl2, crc2, d2, ⟨sa1, sb1, sc1, sd2⟩, r2, t2, q2, l2, o2, n2⟩ : PV).c) := fun e => HB2.out.later e
  have x1_0 : ∀ e : Later V, e.x.cell? ⟨w.heap.size, 0, none⟩ = some (.int .u64 (fl1 : Int)) := HB1.out.cellL 0 rfl
  have x1_1 : ∀ e : Later V, e.x.cell? ⟨w.heap.size, 1, none⟩ = some (.int .i64 crc1) := HB1.out.cellL 1 rfl
  have x1_2 : ∀ e : Later V, e.x.cell? ⟨w.heap.size, 2, none⟩ = some (.int .i64 d1.sch) := HB1.out.cellL 2 rfl
  have x1_3 : ∀ e : Later V, e.x.cell? ⟨w.heap.size, 3, none⟩ = some (str d1.name) := HB1.out.cellL 3 rfl
  have x1_4 : ∀ e : Later V, e.x.cell? ⟨w.heap.size, 4, none⟩ = some (.int .u64 (d1.node : Int)) := HB1.out.cellL 4 rfl
  have x1_5 : ∀ e : Later V, e.x.cell? ⟨w.heap.size, 5, none⟩ = some (.int .u64 (d1.svc : Int)) := HB1.out.cellL 5 rfl
  have x1_6 : ∀ e : Later V, e.x.cell? ⟨w.heap.size, 6, none⟩ = some (.int .i64 sa1) := HB1.out.cellL 6 rfl
  have x1_7 : ∀ e : Later V, e.x.cell? ⟨w.heap.size, 7, none⟩ = some (str sb1) := HB1.out.cellL 7 rfl
  have x1_8 : ∀ e : Later V, e.x.cell? ⟨w.heap.size, 8, none⟩ = some (.int .u64 (sc1 : Int)) := HB1.out.cellL 8 rfl
  have x1_9 : ∀ e : Later V, e.x.cell? ⟨w.heap.size, 9, none⟩ = some (.int .u64 (sd1 : Int)) := HB1.out.cellL 9 rfl
  have x1_10 : ∀ e : Later V, e.x.cell? ⟨w.heap.size, 10, none⟩ = some (.int .i64 r1.sch) := HB1.out.cellL 10 rfl
  have x1_11 : ∀ e : Later V, e.x.cell? ⟨w.heap.size, 11, none⟩ = some (str r1.name) := HB1.out.cellL 11 rfl
  have x1_12 : ∀ e : Later V, e.x.cell? ⟨w.heap.size, 12, none⟩ = some (.int .u64 (r1.node : Int)) := HB1.out.cellL 12 rfl
  have x1_13 : ∀ e : Later V, e.x.cell? ⟨w.heap.size, 13, none⟩ = some (.int .u64 (r1.svc : Int)) := HB1.out.cellL 13 rfl
  have x1_14 : ∀ e : Later V, e.x.cell? ⟨w.heap.size, 14, none⟩ = some (.int .u64 (t1 : Int)) := HB1.out.cellL 14 rfl
  have x1_15 : ∀ e : Later V, e.x.cell? ⟨w.heap.size, 15, none⟩ = some (.int .u64 (q1 : Int)) := HB1.out.cellL 15 rfl
  have x1_16 : ∀ e : Later V, e.x.cell? ⟨w.heap.size, 16, none⟩ = some (.int .u64 (l1 : Int)) := HB1.out.cellL 16 rfl
  have x1_17 : ∀ e : Later V, e.x.cell? ⟨w.heap.size, 17, none⟩ = some (.int .u64 (o1 : Int)) := HB1.out.cellL 17 rfl
  have x1_18 : ∀ e : Later V, e.x.cell? ⟨w.heap.size, 18, none⟩ = some (.int .u64 (n1 : Int)) := HB1.out.cellL 18 rfl
  have x2_0 : ∀ e : Later V, e.x.cell? ⟨w.heap.size + 1, 0, none⟩ = some (.int .u64 (fl2 : Int)) := HB2.out.cellL 0 rfl
  have x2_1 : ∀ e : Later V, e.x.cell? ⟨w.heap.size + 1, 1, none⟩ = some (.int .i64 crc2) := HB2.out.cellL 1 rfl
  have x2_2 : ∀ e : Later V, e.x.cell? ⟨w.heap.size + 1, 2, none⟩ = some (.int .i64 d2.sch) := HB2.out.cellL 2 rfl
  have x2_3 : ∀ e : Later V, e.x.cell? ⟨w.heap.size + 1, 3, none⟩ = some (str d2.name) := HB2.out.cellL 3 rfl
  have x2_4 : ∀ e : Later V, e.x.cell? ⟨w.heap.size + 1, 4, none⟩ = some (.int .u64 (d2.node : Int)) := HB2.out.cellL 4 rfl
  have x2_5 : ∀ e : Later V, e.x.cell? ⟨w.heap.size + 1, 5, none⟩ = some (.int .u64 (d2.svc : Int)) := HB2.out.cellL 5 rfl
  have x2_6 : ∀ e : Later V, e.x.cell? ⟨w.heap.size + 1, 6, none⟩ = some (.int .i64 sa1) := HB2.out.cellL 6 rfl
  have x2_7 : ∀ e : Later V, e.x.cell? ⟨w.heap.size + 1, 7, none⟩ = some (str sb1) := HB2.out.cellL 7 rfl
  have x2_8 : ∀ e : Later V, e.x.cell? ⟨w.heap.size + 1, 8, none⟩ = some (.int .u64 (sc1 : Int)) := HB2.out.cellL 8 rfl
  have x2_9 : ∀ e : Later V, e.x.cell? ⟨w.heap.size + 1, 9, none⟩ = some (.int .u64 (sd2 : Int)) := HB2.out.cellL 9 rfl
  have x2_10 : ∀ e : Later V, e.x.cell? ⟨w.heap.size + 1, 10, none⟩ = some (.int .i64 r2.sch) := HB2.out.cellL 10 rfl
  have x2_11 : ∀ e : Later V, e.x.cell? ⟨w.heap.size + 1, 11, none⟩ = some (str r2.name) := HB2.out.cellL 11 rfl
  have x2_12 : ∀ e : Later V, e.x.cell? ⟨w.heap.size + 1, 12, none⟩ = some (.int .u64 (r2.node : Int)) := HB2.out.cellL 12 rfl
  have x2_13 : ∀ e : Later V, e.x.cell? ⟨w.heap.size + 1, 13, none⟩ = some (.int .u64 (r2.svc : Int)) := HB2.out.cellL 13 rfl
  have x2_14 : ∀ e : Later V, e.x.cell? ⟨w.heap.size + 1, 14, none⟩ = some (.int .u64 (t2 : Int)) := HB2.out.cellL 14 rfl
  have x2_15 : ∀ e : Later V, e.x.cell? ⟨w.heap.size + 1, 15, none⟩ = some (.int .u64 (q2 : Int)) := HB2.out.cellL 15 rfl
  have x2_16 : ∀ e : Later V, e.x.cell? ⟨w.heap.size + 1, 16, none⟩ = some (.int .u64 (l2 : Int)) := HB2.out.cellL 16 rfl
  have x2_17 : ∀ e : Later V, e.x.cell? ⟨w.heap.size + 1, 17, none⟩ = some (.int .u64 (o2 : Int)) := HB2.out.cellL 17 rfl
  have x2_18 : ∀ e : Later V, e.x.cell? ⟨w.heap.size + 1, 18, none⟩ = some (.int .u64 (n2 : Int)) := HB2.out.cellL 18 rfl
  obtain ⟨e, he⟩ := Later.self V
  rw [he]
  clear he
  go_upto_region 3 with (first | (refine wpList_row (by rfl) 26 _ rfl _ rfl (HL1.out _) Try.underlying26 rfl (by kernel_rfl) ?_) | (refine wpList_row (by rfl) 26 _ rfl _ rfl (HL2.out _) Try.underlying26 rfl (by kernel_rfl) ?_) | (go_at_call 6; refine (Ret.later (KA.out _)).mono ?_; rintro x _ ⟨rfl, e, rfl⟩) | (go_at_call 7; first | ((with_reducible refine (Ret.later (KF1.out _)).mono ?_); rintro x _ ⟨rfl, e, rfl⟩) | ((with_reducible refine (Ret.later (KF2.out _)).mono ?_); rintro x _ ⟨rfl, e, rfl⟩)))
  have ga : (((sd1 : Int)) == ((sd2 : Int))) = false := by rw [beq_eq_false_iff_ne]; omega
  have gb : (((sd1 : Int)) = ((sd2 : Int))) = False := eq_false (by omega)
  have gc : (((sd1 : Int)) != ((sd2 : Int))) = true := by rw [bne_iff_ne]; omega
  have gn : (sd1 = sd2) = False := eq_false hx
  have gm : (sd1 == sd2) = false := by rw [beq_eq_false_iff_ne]; exact hx
  clear hx
  refine wp_region_later (by kernel_rfl) (by kernel_rfl) ?_
  repeat (go_big_quiet_step ((first | (go_at_call 8; first | (with_reducible exact Ret.later (KH1.out _)) | (with_reducible exact Ret.later (KH2.out _))))))
  refine wpQuiet_nil ?_
  rintro _ ⟨e, rfl⟩
  go_upto_region 6 with fail
  refine wp_region_later (by kernel_rfl) (by kernel_rfl) ?_
  repeat (first | (refine later_row (by rfl) 26 _ rfl _ rfl HL1.out Try.underlying26 rfl (by kernel_rfl) ?_; simp only [Act.put, List.setIfInBounds_toArray, List.set_cons_zero, List.set_cons_succ]) | (refine later_row (by rfl) 26 _ rfl _ rfl HL2.out Try.underlying26 rfl (by kernel_rfl) ?_; simp only [Act.put, List.setIfInBounds_toArray, List.set_cons_zero, List.set_cons_succ]) | go_big_quiet_step ((first | (go_at_call 9; first | (with_reducible exact Ret.later (KN1.out _)) | (with_reducible exact Ret.later (KN2.out _))))))
  refine wpQuiet_nil ?_
  rintro _ ⟨e, rfl⟩
  clear x1_0 x2_0 x1_1 x2_1 x1_2 x2_2 x1_3 x2_3 x1_4 x2_4 x1_5 x2_5 x1_6 x2_6 x1_7 x2_7 x1_8 x2_8 x1_9 x2_9 x1_10 x2_10 x1_11 x2_11 x1_12 x2_12 x1_13 x2_13 x1_14 x2_14 x1_15 x2_15 x1_16 x2_16 x1_17 x2_17 x1_18 x2_18
  go_upto_region 9 with (first | (refine wpList_row (by rfl) 26 _ rfl _ rfl (HL1.out _) Try.underlying26 rfl (by kernel_rfl) ?_) | (refine wpList_store_mid rfl 26 _ _ rfl e.x.heap.size 0 (⟨fl1 / 2 * 2, crc1, d1, ⟨sa1, sb1, sc1, sd1⟩, r1, t1, q1, l1, 0, 0⟩ : PV).c (by rfl) (by rfl) ((Blk.new _ _ _).there (Nat.le_refl 19)) (by kernel_rfl) (PV.one _) ?_) | (go_at_call 10; refine (Ret.later (KW1.out _)).mono ?_; rintro x _ ⟨rfl, e, rfl⟩))
  generalize hU : World.setCells _ _ _ _ = U1
  have HMU : Hid (Ext e.x U1) := hid (by rw [← hU]; exact setCells_mod _ _ ((Mod.refl [] e.x).alloc _) (.inr (Nat.le_refl _)))
  have HA1 : Hid (Blk U1 e.x.heap.size 26 (⟨fl1 / 2 * 2, crc1, d1, ⟨sa1, sb1, sc1, sd1⟩, r1, t1, q1, l1, 0, 0⟩ : PV).c) := hid (by rw [← hU]; exact setCells_all (Blk.new _ _ _) rfl)
  clear hU
  have HC2 : Hid (Blk U1 (w.heap.size + 1) 26 (⟨fl2, crc2, d2, ⟨sa1, sb1, sc1, sd2⟩, r2, t2, q2, l2, o2, n2⟩ : PV).c) := hid ((HB2.out.later e).ext HMU.out)
  have HC1 : Hid (Blk U1 w.heap.size 26 (⟨fl1, crc1, d1, ⟨sa1, sb1, sc1, sd1⟩, r1, t1, q1, l1, o1, n1⟩ : PV).c) := hid ((HB1.out.later e).ext HMU.out)
  have HEU : Hid (Ext w U1) := hid ((HE.out.trans e.h).trans HMU.out)
  clear HMU
  generalize e.x.heap.size = g1 at *
  clear e
  obtain ⟨e, he⟩ := Later.self U1
  rw [he]
  clear he
  go_upto_region 10 with (first | (refine wpList_row (by rfl) 26 _ rfl _ rfl (HC2.out.later _) Try.underlying26 rfl (by kernel_rfl) ?_) | (refine wpList_store_mid rfl 26 _ _ rfl e.x.heap.size 0 (⟨fl2 / 2 * 2, crc2, d2, ⟨sa1, sb1, sc1, sd2⟩, r2, t2, q2, l2, 0, 0⟩ : PV).c (by rfl) (by rfl) ((Blk.new _ _ _).there (Nat.le_refl 19)) (by kernel_rfl) (PV.one _) ?_) | (go_at_call 10; refine (Ret.later (KW2.out _)).mono ?_; rintro x _ ⟨rfl, e, rfl⟩))
  generalize hU : World.setCells _ _ _ _ = U2
  have HMU : Hid (Ext e.x U2) := hid (by rw [← hU]; exact setCells_mod _ _ ((Mod.refl [] e.x).alloc _) (.inr (Nat.le_refl _)))
  have HA3 : Hid (Blk U2 e.x.heap.size 26 (⟨fl2 / 2 * 2, crc2, d2, ⟨sa1, sb1, sc1, sd2⟩, r2, t2, q2, l2, 0, 0⟩ : PV).c) := hid (by rw [← hU]; exact setCells_all (Blk.new _ _ _) rfl)
  clear hU
  have HA2 : Hid (Blk U2 g1 26 (⟨fl1 / 2 * 2, crc1, d1, ⟨sa1, sb1, sc1, sd1⟩, r1, t1, q1, l1, 0, 0⟩ : PV).c) := hid ((HA1.out.later e).ext HMU.out)
  have HD1 : Hid (Blk U2 w.heap.size 26 (⟨fl1, crc1, d1, ⟨sa1, sb1, sc1, sd1⟩, r1, t1, q1, l1, o1, n1⟩ : PV).c) := hid ((HC1.out.later e).ext HMU.out)
  have HEV : Hid (Ext w U2) := hid ((HEU.out.trans e.h).trans HMU.out)
  clear HMU
  generalize e.x.heap.size = g2 at *
  clear e
  have y0 : ∀ e : Later U2, e.x.cell? ⟨w.heap.size, 0, none⟩ = some (.int .u64 (fl1 : Int)) := HD1.out.cellL 0 rfl
  have y1 : ∀ e : Later U2, e.x.cell? ⟨w.heap.size, 1, none⟩ = some (.int .i64 crc1) := HD1.out.cellL 1 rfl
  have y2 : ∀ e : Later U2, e.x.cell? ⟨w.heap.size, 2, none⟩ = some (.int .i64 d1.sch) := HD1.out.cellL 2 rfl
  have y3 : ∀ e : Later U2, e.x.cell? ⟨w.heap.size, 3, none⟩ = some (str d1.name) := HD1.out.cellL 3 rfl
  have y4 : ∀ e : Later U2, e.x.cell? ⟨w.heap.size, 4, none⟩ = some (.int .u64 (d1.node : Int)) := HD1.out.cellL 4 rfl
  have y5 : ∀ e : Later U2, e.x.cell? ⟨w.heap.size, 5, none⟩ = some (.int .u64 (d1.svc : Int)) := HD1.out.cellL 5 rfl
  have y10 : ∀ e : Later U2, e.x.cell? ⟨w.heap.size, 10, none⟩ = some (.int .i64 r1.sch) := HD1.out.cellL 10 rfl
  have y11 : ∀ e : Later U2, e.x.cell? ⟨w.heap.size, 11, none⟩ = some (str r1.name) := HD1.out.cellL 11 rfl
  have y12 : ∀ e : Later U2, e.x.cell? ⟨w.heap.size, 12, none⟩ = some (.int .u64 (r1.node : Int)) := HD1.out.cellL 12 rfl
  have y13 : ∀ e : Later U2, e.x.cell? ⟨w.heap.size, 13, none⟩ = some (.int .u64 (r1.svc : Int)) := HD1.out.cellL 13 rfl
  have y16 : ∀ e : Later U2, e.x.cell? ⟨w.heap.size, 16, none⟩ = some (.int .u64 (l1 : Int)) := HD1.out.cellL 16 rfl
  have z0 : ∀ e : Later U2, e.x.cell? ⟨g1, 0, none⟩ = some (.int .u64 ((fl1 : Int) / 2 * 2)) := HA2.out.cellL 0 (by simp)
  have z1 : ∀ e : Later U2, e.x.cell? ⟨g1, 1, none⟩ = some (.int .i64 crc1) := HA2.out.cellL 1 rfl
  have z2 : ∀ e : Later U2, e.x.cell? ⟨g1, 2, none⟩ = some (.int .i64 d1.sch) := HA2.out.cellL 2 rfl
  have z3 : ∀ e : Later U2, e.x.cell? ⟨g1, 3, none⟩ = some (str d1.name) := HA2.out.cellL 3 rfl
  have z4 : ∀ e : Later U2, e.x.cell? ⟨g1, 4, none⟩ = some (.int .u64 (d1.node : Int)) := HA2.out.cellL 4 rfl
  have z5 : ∀ e : Later U2, e.x.cell? ⟨g1, 5, none⟩ = some (.int .u64 (d1.svc : Int)) := HA2.out.cellL 5 rfl
  have z10 : ∀ e : Later U2, e.x.cell? ⟨g1, 10, none⟩ = some (.int .i64 r1.sch) := HA2.out.cellL 10 rfl
  have z11 : ∀ e : Later U2, e.x.cell? ⟨g1, 11, none⟩ = some (str r1.name) := HA2.out.cellL 11 rfl
  have z12 : ∀ e : Later U2, e.x.cell? ⟨g1, 12, none⟩ = some (.int .u64 (r1.node : Int)) := HA2.out.cellL 12 rfl
  have z13 : ∀ e : Later U2, e.x.cell? ⟨g1, 13, none⟩ = some (.int .u64 (r1.svc : Int)) := HA2.out.cellL 13 rfl
  have z16 : ∀ e : Later U2, e.x.cell? ⟨g1, 16, none⟩ = some (.int .u64 (l1 : Int)) := HA2.out.cellL 16 rfl
  have z17 : ∀ e : Later U2, e.x.cell? ⟨g1, 17, none⟩ = some (.int .u64 0) := HA2.out.cellL 17 rfl
  have z18 : ∀ e : Later U2, e.x.cell? ⟨g1, 18, none⟩ = some (.int .u64 0) := HA2.out.cellL 18 rfl
  obtain ⟨e, he⟩ := Later.self U2
  rw [he]
  clear he
  go_upto_region 12 with (go_at_call 8; refine (Ret.later (KG1.out _)).mono ?_; rintro x _ ⟨rfl, e, rfl⟩)
  refine wp_region_later (by kernel_rfl) (by kernel_rfl) ?_
  repeat (first | (refine later_row (by rfl) 26 _ rfl _ rfl (fun e => HA2.out.later e) Try.underlying26 rfl (by kernel_rfl) ?_; simp only [Act.put, List.setIfInBounds_toArray, List.set_cons_zero, List.set_cons_succ]) | (refine later_row (by rfl) 26 _ rfl _ rfl (fun e => HA3.out.later e) Try.underlying26 rfl (by kernel_rfl) ?_; simp only [Act.put, List.setIfInBounds_toArray, List.set_cons_zero, List.set_cons_succ]) | go_big_quiet_step ((first | (go_at_call 9; first | (with_reducible exact Ret.later (KM1.out _)) | (with_reducible exact Ret.later (KM2.out _))))))
  refine wpQuiet_nil ?_
  rintro _ ⟨e, rfl⟩
  go_wp2_with fail
  all_goals go_ret
  all_goals exact Ret.mk (by simp) (HEV.out.trans e.h)
end Go.Proofs.Ytldomommbopgjaa
