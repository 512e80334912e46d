/-
 Bundles: where a number's block is; the block of a number.
-/
import Derived.Test.YtmckfdmdkljomaaGreatDoorMMixLessCardah
import Derived.Test.YtmckfdmdkljomaaGreatDoorMMixLessCardai
import Derived.Test.YtmckfdmdkljomaaGreatDoorMMixLessCardal
import Derived.Shelf.Abstract
namespace Go.Proofs.YtmckfdmdkljomaaGreatDoor
open Go.RowKit Go.Shelf
set_option linter.unusedVariables false
set_option linter.unusedSimpArgs false
def hasNum (n : Int) (b : BV) : Bool := decide (b.num = n)
def numB (bs : Nat -> BV) (n : Int) (i : Nat) : Bool := hasNum n (bs i)
set_option maxRecDepth 20000 in
theorem At13_any (p : PV) (bs : Nat -> BV) (k c : Nat) (A : Option Addr) (n : Int) (hk : k < 4611686018427387904) (w : World) (h : BsL w A k bs) : Calls Tryz.prog 32 #[bunV p A k c, .int .i64 n] w (Ret (.int .i64 (firstI (numB bs n) k)) w) := by
 have HE := hid ((Mod.refl [] w).alloc (.cells (bunC p A k c) 29))
 have HB := hid (Blk.new w 29 (bunC p A k c))
 have HL := hid (BsL.ext h HE.out)
 have k1 : (k : Int) < 4611686018427387904 := by omega
 have HK := hid hk
 clear h hk
 go_enter Tryz.func32, Tryz.ntmps32
 go_wp2_with fail
 generalize w.alloc (.cells (bunC p A k c) 29) = V at *
 have b19 : ∀ e : Later V, e.x.cell? ⟨w.heap.size, 19, none⟩ = some (.slice A k c) := HB.out.cellL 19 rfl
 obtain ⟨e0, he0⟩ := Later.self V
 go_loopw [5] (fun s5 wr => ∃ i : Nat, s5 = .int .i64 (i : Int) /\ Hid (i <= k /\ ∀ j, j < i -> numB bs n j = false) /\ ∃ e : Later V, wr = e.x) (fun s5 _ => k - (intOf s5).toNat)
 case atStart => exact ⟨0, rfl, (show Hid _ from ⟨by omega, fun j hj => by omega⟩), e0, (by first | exact he0 | rfl)⟩
 case round =>
  clear he0 e0
  obtain ⟨i, rfl, hi, e, rfl⟩ := hrel
  have i0 : (0 : Int) <= (i : Int) := by omega
  by_cases hlt : i < k
  .
   obtain ⟨b, o, rfl, hb, q0, q1, q2, q3, q4⟩ := HL.out.cells hlt
   have tc : decide (i < k) = true := by simp [hlt]
   have i1 : (i : Int) < (k : Int) := by omega
   have HLT := hid hlt
   clear hlt
   by_cases ht : numB bs n i = true
   .
    have HF : Hid (firstI (numB bs n) k = (i : Int)) := by unfold Hid firstI; rw [firstOf_some HLT.out ht hi.out.2]
    have hq : (bs i).num = n := by simpa [numB, hasNum] using ht
    rw [hq] at q1
    clear ht hq
    go_wp2_with fail
    go_ret
    exact Ret.mk (by rw [HF.out]; rfl) (HE.out.trans e.h)
   .
    have HN : Hid (numB bs n i = false) := by unfold Hid; simpa using ht
    have hq : (bs i).num ≠ n := by simpa [numB, hasNum] using ht
    have t1 : ((bs i).num == n) = false := by simpa using hq
    have t2 : ((bs i).num = n) = False := by simpa using hq
    clear ht hq
    go_wp2_with fail
    go_roundw
    case rel => exact ⟨i + 1, by go_num, (show Hid _ from ⟨HLT.out, fun j hj => by
     by_cases hji : j = i
     . subst hji; exact HN.out
     . exact hi.out.2 j (by omega)⟩), e, rfl⟩
    case measure => have := HLT.out; simp [intOf]; omega
  .
   obtain rfl : i = k := by have := hi.out.1; omega
   have tc : decide (i < i) = false := by simp
   have HF : Hid (firstI (numB bs n) i = -1) := by unfold Hid firstI; rw [firstOf_none hi.out.2]
   go_wp2_with fail
   go_ret
   exact Ret.mk (by rw [HF.out]; rfl) (HE.out.trans e.h)
set_option maxRecDepth 20000 in
theorem IndexFuncB_any (A : Option Addr) (bs : Nat -> BV) (k c g : Nat) (lb : Array Value) (P : BV -> Bool) (eg : ∀ args w, (callFunc g args).run Tryz.prog w = .ok (.enter g args) w)
  (hk : k < 4611686018427387904) (w : World) (h : BsL w A k bs) (hp : Hid (∀ (W : World) (x : BV), Ext w W -> Calls Tryz.prog g (#[x.v] ++ lb) W (Ret (.bool (P x)) W))) :
  Calls Tryz.prog 81 #[.slice A k c, .func (.func g) #[] lb] w (Ret (.int .i64 (firstI (fun i => P (bs i)) k)) w) := by
 have HL := hid h
 have k1 : (k : Int) < 4611686018427387904 := by omega
 have HK := hid hk
 clear h hk
 obtain ⟨e0, he0⟩ := Later.self w
 go_enter Tryz.func81, Tryz.ntmps81
 go_wp2_with fail
 go_loopw [8] (fun s5 wr => ∃ i : Nat, s5 = .int .i64 (i : Int) /\ Hid (i <= k /\ ∀ j, j < i -> (fun i => P (bs i)) j = false) /\ ∃ e : Later w, wr = e.x) (fun s5 _ => k - (intOf s5).toNat)
 case atStart => exact ⟨0, rfl, (show Hid _ from ⟨by omega, fun j hj => by omega⟩), e0, (by first | exact he0 | rfl)⟩
 case round =>
  clear he0 e0
  obtain ⟨i, rfl, hi, e, rfl⟩ := hrel
  have i0 : (0 : Int) <= (i : Int) := by omega
  by_cases hlt : i < k
  .
   obtain ⟨b, o, rfl, hb, q0, q1, q2, q3, q4⟩ := HL.out.cells hlt
   have tc : decide (i < k) = true := by simp [hlt]
   have i1 : (i : Int) < (k : Int) := by omega
   have HLT := hid hlt
   clear hlt
   by_cases ht : (fun i => P (bs i)) i = true
   .
    have HF : Hid (firstI ((fun i => P (bs i))) k = (i : Int)) := by unfold Hid firstI; rw [firstOf_some HLT.out ht hi.out.2]
    have hcall : Calls Tryz.prog g (#[(bs i).v] ++ lb) e.x (Ret (.bool true) e.x) := by have := hp.out e.x (bs i) e.h; rw [show P (bs i) = true from ht] at this; exact this
    clear ht
    go_wp2_with (go_at_fn g; refine (Ret.later hcall).mono ?_; rintro x _ ⟨rfl, e3, rfl⟩)
    go_ret
    exact Ret.mk (by rw [HF.out]; rfl) e3.h
   .
    have HN : Hid ((fun i => P (bs i)) i = false) := by unfold Hid; simpa using ht
    have hcall : Calls Tryz.prog g (#[(bs i).v] ++ lb) e.x (Ret (.bool false) e.x) := by have := hp.out e.x (bs i) e.h; rw [show P (bs i) = false from HN.out] at this; exact this
    clear ht
    go_wp2_with (go_at_fn g; refine (Ret.later hcall).mono ?_; rintro x _ ⟨rfl, e3, rfl⟩)
    go_roundw
    case rel => exact ⟨i + 1, by go_num, (show Hid _ from ⟨HLT.out, fun j hj => by
     by_cases hji : j = i
     . subst hji; exact HN.out
     . exact hi.out.2 j (by omega)⟩), e3, rfl⟩
    case measure => have := HLT.out; simp [intOf]; omega
  .
   obtain rfl : i = k := by have := hi.out.1; omega
   have tc : decide (i < i) = false := by simp
   have HF : Hid (firstI ((fun i => P (bs i))) i = -1) := by unfold Hid firstI; rw [firstOf_none hi.out.2]
   go_wp2_with fail
   go_ret
   exact Ret.mk (by rw [HF.out]; rfl) (e.h)
set_option maxRecDepth 20000 in
theorem atCl_any (n : Int) (B : Nat) (w : World) (hB : B < w.heap.size) (c0 : w.cell? ⟨B, 0, none⟩ = some (.int .i64 n)) (W : World) (x : BV) (hb : Ext w W) : Calls Tryz.prog 82 (#[x.v] ++ #[.pointer (some ⟨B, 0, none⟩)]) W (Ret (.bool (hasNum n x)) W) := by
 have d0 : W.cell? ⟨B, 0, none⟩ = some (.int .i64 n) := (hb.cell hB (by simp)).trans c0
 have hBW : B < W.heap.size := Nat.lt_of_lt_of_le hB hb.size
 have hne : B ≠ W.heap.size := by omega
 clear c0
 show Calls Tryz.prog 82 #[.agg #[.int .i64 x.ty, .int .i64 x.num, .int .u64 (x.fl : Int), .int .i64 x.crc, str x.data], .pointer (some ⟨B, 0, none⟩)] W _
 go_enter Tryz.func82, Tryz.ntmps82
 go_wp2
 go_ret
 exact Ret.mk (by simp [hasNum]; rfl) ((Mod.refl _ _).alloc _)
theorem entersAC : ∀ args w, (callFunc 82 args).run Tryz.prog w = .ok (.enter 82 args) w := enters_of Tryz.func82 (by kernel_rfl) rfl
set_option maxRecDepth 20000 in
theorem at_any (p : PV) (bs : Nat -> BV) (k c : Nat) (A : Option Addr) (n : Int) (hk : k < 4611686018427387904) (w : World) (h : BsL w A k bs) : Calls Tryz.prog 54 #[bunV p A k c, .int .i64 n] w (Ret (.int .i64 (firstI (numB bs n) k)) w) := by
 have HE := hid (((Mod.refl [] w).alloc (.cells (bunC p A k c) 29)).alloc (.cells #[.int .i64 n] 3))
 have HB := hid ((Blk.new w 29 (bunC p A k c)).alloc (.cells #[.int .i64 n] 3))
 have HN : Hid (Blk ((w.alloc (.cells (bunC p A k c) 29)).alloc (.cells #[.int .i64 n] 3)) (w.heap.size + 1) 3 #[.int .i64 n]) := Blk.newL _ _ _ (by simp)
 have HL := hid (BsL.ext h HE.out)
 have HK := hid hk
 clear h hk
 go_enter Tryz.func54, Tryz.ntmps54
 go_upto_region 1 with fail
 generalize (w.alloc (.cells (bunC p A k c) 29)).alloc (.cells #[.int .i64 n] 3) = V at *
 have KI : Hid (Calls Tryz.prog 81 #[.slice A k c, .func (.func 82) #[] #[.pointer (some ⟨w.heap.size + 1, 0, none⟩)]] V (Ret (.int .i64 (firstI (numB bs n) k)) V)) :=
  IndexFuncB_any A bs k c 82 #[.pointer (some ⟨w.heap.size + 1, 0, none⟩)] (hasNum n) entersAC HK.out V HL.out (fun W x hb => atCl_any n (w.heap.size + 1) V HN.out.lt (HN.out.cell 0) W x hb)
 have b19 : V.cell? ⟨w.heap.size, 19, none⟩ = some (.slice A k c) := HB.out.cell 19
 go_wp2_with (go_at_call 81; refine KI.out.mono ?_; rintro x w2 ⟨rfl, hb2⟩)
 go_ret
 exact Ret.mk rfl (HE.out.trans hb2)
def getV (bs : Nat -> BV) (n : Int) (k : Nat) : Value := match firstOf (numB bs n) k with | some i => .tuple #[(bs i).v, .bool true] | none => .tuple #[zeroB.v, .bool false]
set_option maxRecDepth 20000 in
set_option maxHeartbeats 800000 in
theorem Get_any (p : PV) (bs : Nat -> BV) (k c : Nat) (A : Option Addr) (n : Int) (hk : k < 4611686018427387904) (w : World) (h : BsL w A k bs) : Calls Tryz.prog 53 #[bunV p A k c, .int .i64 n] w (Ret (getV bs n k) w) := by
 have HE := hid (((Mod.refl [] w).alloc (.cells (bunC p A k c) 29)).alloc (.cells #[.int .i64 0, .int .i64 0, .int .u64 0, .int .i64 0, .string ⟨#[]⟩] 45))
 have HB := hid ((Blk.new w 29 (bunC p A k c)).alloc (.cells #[.int .i64 0, .int .i64 0, .int .u64 0, .int .i64 0, .string ⟨#[]⟩] 45))
 have HR : Hid (Blk ((w.alloc (.cells (bunC p A k c) 29)).alloc (.cells #[.int .i64 0, .int .i64 0, .int .u64 0, .int .i64 0, .string ⟨#[]⟩] 45)) (w.heap.size + 1) 45 zeroB.c) := Blk.newL _ _ _ (by simp)
 have HL := hid (BsL.ext h HE.out)
 have k1 : (k : Int) < 4611686018427387904 := by omega
 have HK := hid hk
 have KA : Hid (∀ W, BsL W A k bs -> Calls Tryz.prog 54 #[bunV p A k c, .int .i64 n] W (Ret (.int .i64 (firstI (numB bs n) k)) W)) := fun W hW => at_any p bs k c A n HK.out W hW
 clear h hk
 have HS : Hid (getV bs n k = match firstOf (numB bs n) k with | some i => .tuple #[(bs i).v, .bool true] | none => .tuple #[zeroB.v, .bool false]) := rfl
 unfold firstI at KA
 cases hf : firstOf (numB bs n) k with
 | none =>
  rw [hf] at KA HS
  clear hf
  go_enter Tryz.func53, Tryz.ntmps53
  go_upto_region 1 with fail
  generalize ((w.alloc (.cells (bunC p A k c) 29)).alloc (.cells #[.int .i64 0, .int .i64 0, .int .u64 0, .int .i64 0, .string ⟨#[]⟩] 45)) = V at *
  have HBL : Hid (∀ e : Later V, Blk e.x w.heap.size 29 (bunC p A k c)) := fun e => HB.out.later e
  obtain ⟨e, he⟩ := Later.self V
  rw [he]
  clear he
  go_upto_region 2 with (first | (refine wpList_row (by rfl) 29 _ rfl _ rfl (HBL.out _) vqA rfl (by kernel_rfl) ?_) | (go_at_call 54; refine (Ret.later (KA.out _ (HL.out.ext (Later.h _)))).mono ?_; rintro x _ ⟨rfl, e, rfl⟩))
  have HRA := hid (HR.out.later e)
  obtain ⟨c0, c1, c2, c3, c4⟩ := cellsB (b := zeroB) HRA.out
  have f0 := HRA.out.frozen 0
  have f1 := HRA.out.frozen 1
  have f2 := HRA.out.frozen 2
  have f3 := HRA.out.frozen 3
  have f4 := HRA.out.frozen 4
  go_wp2_with fail
  obtain ⟨d0, d1, d2, d3, d4⟩ := cellsB (setB_blk (b := zeroB) HRA.out)
  clear c0 c1 c2 c3 c4 f0 f1 f2 f3 f4
  show bodyPost _ _ _ _ _ (setB e.x (w.heap.size + 1) zeroB)
  refine bodyPost_ret (v := .tuple #[zeroB.v, .bool false]) (by simp [results, Tryz.results53, go_sem, d0, d1, d2, d3, d4]) rfl (Ret.mk HS.out.symm (setB_mod (HE.out.trans e.h) (by omega)))
 | some i =>
  rw [hf] at KA HS
  have hlt := (firstOf_spec hf).1
  clear hf
  obtain ⟨b, o, rfl, hb, q0, q1, q2, q3, q4⟩ := HL.out.cells hlt
  have i0 : (0 : Int) <= (i : Int) := by omega
  have i1 : (i : Int) < (k : Int) := by omega
  have tn : decide ((i : Int) < 0) = false := by simp
  have tm : ((i : Int) < 0) = False := eq_false (by omega)
  clear hlt
  go_enter Tryz.func53, Tryz.ntmps53
  go_upto_region 1 with fail
  generalize ((w.alloc (.cells (bunC p (some ⟨b, o, none⟩) k c) 29)).alloc (.cells #[.int .i64 0, .int .i64 0, .int .u64 0, .int .i64 0, .string ⟨#[]⟩] 45)) = V at *
  have HBL : Hid (∀ e : Later V, Blk e.x w.heap.size 29 (bunC p (some ⟨b, o, none⟩) k c)) := fun e => HB.out.later e
  have b19 : ∀ e : Later V, e.x.cell? ⟨w.heap.size, 19, none⟩ = some (.slice (some ⟨b, o, none⟩) k c) := HB.out.cellL 19 rfl
  obtain ⟨e, he⟩ := Later.self V
  rw [he]
  clear he
  go_upto_region 2 with (first | (refine wpList_row (by rfl) 29 _ rfl _ rfl (HBL.out _) vqA rfl (by kernel_rfl) ?_) | (go_at_call 54; refine (Ret.later (KA.out _ (HL.out.ext (Later.h _)))).mono ?_; rintro x _ ⟨rfl, e, rfl⟩))
  have HRA := hid (HR.out.later e)
  obtain ⟨c0, c1, c2, c3, c4⟩ := cellsB (b := zeroB) HRA.out
  have f0 := HRA.out.frozen 0
  have f1 := HRA.out.frozen 1
  have f2 := HRA.out.frozen 2
  have f3 := HRA.out.frozen 3
  have f4 := HRA.out.frozen 4
  go_wp2_with fail
  obtain ⟨d0, d1, d2, d3, d4⟩ := cellsB (setB_blk (b := bs i) HRA.out)
  clear c0 c1 c2 c3 c4 f0 f1 f2 f3 f4
  show bodyPost _ _ _ _ _ (setB e.x (w.heap.size + 1) (bs i))
  refine bodyPost_ret (v := .tuple #[(bs i).v, .bool true]) (by simp [results, Tryz.results53, go_sem, d0, d1, d2, d3, d4]) rfl (Ret.mk HS.out.symm (setB_mod (HE.out.trans e.h) (by omega)))
section
structure Hng where
 X : Type
 z : Nat
 hz : 0 < z
 cells : X -> Option Addr × Nat -> List Value
 len : ∀ x a, (cells x a).length = z
 hang : World -> (Nat -> Prop) -> X -> Option Addr × Nat -> Prop
 mod : ∀ {S : List Nat} {W W' : World} {Q : Nat -> Prop} {x : X} {a : Option Addr × Nat}, Mod S W W' -> (∀ k, Q k -> k < W.heap.size -> k ∉ S) -> hang W Q x a -> hang W' Q x a
 weak : ∀ {W : World} {Q R : Nat -> Prop} {x : X} {a : Option Addr × Nat}, (∀ k, k < W.heap.size -> Q k -> R k) -> hang W Q x a -> hang W R x a
structure RwG (h : Hng) (e : TypeId) (W : World) (Q : Nat -> Prop) (base : Nat) (A : Option Addr) (c n : Nat) (f : Nat -> h.X) (ac : Nat -> Option Addr × Nat) : Prop where
 own : W.ownsRow base e h.z (.slice A n c) n (flatG (fun j => h.cells (f j) (ac j)) n)
 kid : ∀ j, j < n -> h.hang W (fun b => Q b /\ offA A b) (f j) (ac j)
section
variable {h : Hng} {e : TypeId} {W W' : World} {Q : Nat -> Prop} {base c n : Nat} {A : Option Addr} {f : Nat -> h.X} {ac : Nat -> Option Addr × Nat}
theorem RwG.nil : RwG h e W Q base none 0 0 f ac := ⟨World.ownsRow_nil _ _ _ _, fun j hj => by omega⟩
theorem RwG.modQ {S : List Nat} (r : RwG h e W Q base A c n f ac) (hm : Mod S W W') (ho : ∀ g, A = some g -> g.block ∉ S) (hs : ∀ k, Q k -> k < W.heap.size -> k ∉ S) : RwG h e W' Q base A c n f ac :=
 ⟨ownsRow_mod r.own hm (fun k hk => by
  cases A with
  | none => cases hk
  | some g =>
   have : g.block = k := by simpa [Value.ownBlock] using hk
   rw [<- this]; exact ho g rfl), fun j hj => h.mod hm (fun k hk hlt => hs k hk.1 hlt) (r.kid j hj)⟩
theorem RwG.ext (r : RwG h e W Q base A c n f ac) (hm : Ext W W') : RwG h e W' Q base A c n f ac := r.modQ hm (by simp) (by simp)
theorem RwG.weak {R : Nat -> Prop} (r : RwG h e W Q base A c n f ac) (hq : ∀ k, k < W.heap.size -> Q k -> R k) : RwG h e W R base A c n f ac :=
 ⟨r.own, fun j hj => h.weak (fun b hb hh => ⟨hq b hb hh.1, hh.2⟩) (r.kid j hj)⟩
theorem RwG.off (r : RwG h e W Q base A c n f ac) : ∀ g, A = some g -> base <= g.block /\ g.block < W.heap.size := fun g hg => r.own.lt g.block (by subst hg; rfl)
theorem RwG.cap (r : RwG h e W Q base A c n f ac) : n <= c := own_cap r.own
theorem RwG.append (r : RwG h e W Q base A c n f ac) {t : h.X} {at_ : Option Addr × Nat} (hI : h.hang W (fun b => Q b /\ offA A b) t at_) (ht : f n = t) {g cap : Nat}
  (hown : W'.ownsRow base e h.z (.slice (some ⟨g, 0, none⟩) (n + 1) cap) (n + 1) (flatG (fun j => h.cells (f j) (ac j)) n ++ h.cells t at_))
  (hgr : W.grownBy W' (Value.slice A n c).ownBlock) (hat : (Value.slice A n c).ownBlock = some g \/ g = W.heap.size) : ∃ ac', RwG h e W' Q base (some ⟨g, 0, none⟩) cap (n + 1) f ac' := by
 subst ht
 have hm : Mod (obs A) W W' := grown_obs hgr
 have key : ∀ {x : h.X} {a : Option Addr × Nat}, h.hang W (fun b => Q b /\ offA A b) x a -> h.hang W' (fun b => Q b /\ offA (some ⟨g, 0, none⟩) b) x a := by
  intro x a hx
  have h1 := h.weak (R := fun b => (Q b /\ offA A b) /\ b ≠ g) (fun b hb hq => ⟨hq, by
   rcases hat with hat | hat
   .
    cases A with
    | none => cases hat
    | some a =>
     have : a.block = g := by simpa [Value.ownBlock] using hat
     rw [<- this]; exact hq.2 a rfl
   . omega⟩) hx
  have h2 := h.mod hm (fun k hk _ => offA_obs hk.1.2) h1
  exact h.weak (fun b _ hq => ⟨hq.1.1, fun g' hg' => by cases hg'; exact hq.2⟩) h2
 refine ⟨fun j => if j = n then at_ else ac j, ?_, fun j hj => ?_⟩
 .
  rw [flatG, flatG_congr (g := fun j => h.cells (f j) (ac j)) (fun j hj => by show h.cells (f j) (if j = n then at_ else ac j) = _; rw [if_neg (by omega)])]
  simpa using hown
 .
  by_cases e : j = n
  .
   subst e
   simpa using key hI
  . simpa [e] using key (r.kid j (by omega))
theorem RwG.rows (r : RwG h e W Q base A c n f ac) (h0 : 0 < n) : ∃ g, A = some ⟨g, 0, none⟩ /\ base <= g /\ g < W.heap.size /\ ∀ i, i < n -> ∀ k u, (h.cells (f i) (ac i))[k]? = some u -> W.cell? ⟨g, 0 + i * h.z + k, none⟩ = some u := by
 obtain ⟨m, rfl⟩ : ∃ m, n = m + 1 := ⟨n - 1, by omega⟩
 obtain ⟨g, c', hv, hb, hlt⟩ := own_form r.own
 simp only [Value.slice.injEq] at hv
 obtain ⟨rfl, _, rfl⟩ := hv
 refine ⟨g, rfl, hb, hlt, fun i hi k u hk => ?_⟩
 have hkz : k < h.z := by have := (List.getElem?_eq_some_iff.1 hk).1; rw [h.len] at this; exact this
 have := flatG_own (fun j => h.len (f j) (ac j)) r.own hi hkz hk
 rw [Nat.zero_add]; exact this
end
end
section
def pairH : Hng := { X := PR, z := 6, hz := by decide, cells := fun p a => [.int .i64 p.id, .int .i64 p.t.kind, .int .u64 (p.t.n : Int), str p.t.s, .slice a.1 p.t.k a.2, .bool p.t.op], len := fun _ _ => rfl, hang := fun W Q p a => IsL W Q p.t a.1, mod := fun hm hs h => IsL.mod hm hs _ h, weak := fun hq h => IsL.weak hq _ h }
def resH : Hng := { X := PL, z := 1, hz := by decide, cells := fun p a => [.slice a.1 p.k a.2], len := fun _ _ => rfl, hang := fun W Q p a => PsL W Q a.1 p /\ p.k <= a.2, mod := fun hm hs h => ⟨h.1.mod hm hs, h.2⟩, weak := fun hq h => ⟨h.1.weak hq, h.2⟩ }
def itemH : Hng := { X := T, z := 5, hz := by decide, cells := fun t a => [.int .i64 t.kind, .int .u64 (t.n : Int), str t.s, .slice a.1 t.k a.2, .bool t.op], len := fun _ _ => rfl, hang := fun W Q t a => IsL W Q t a.1, mod := fun hm hs h => IsL.mod hm hs _ h, weak := fun hq h => IsL.weak hq _ h }
def softB (w : World) (b : Nat) : Prop := ∀ j, w.frozen? ⟨b, j, none⟩ = false
theorem softB.mod {S : List Nat} {w w' : World} {b : Nat} (h : softB w b) (hm : Mod S w w') (hb : b < w.heap.size) (hs : b ∉ S) : softB w' b := fun j => (hm.frozen hb hs).trans (h j)
def softA (w : World) (Q : Nat -> Prop) (A : Option Addr) : Prop := ∀ g, A = some g -> Q g.block /\ g.block < w.heap.size /\ softB w g.block
theorem softA.mod {S : List Nat} {w w' : World} {Q : Nat -> Prop} {A : Option Addr} (h : softA w Q A) (hm : Mod S w w') (hs : ∀ k, Q k -> k < w.heap.size -> k ∉ S) : softA w' Q A := fun g hg => by
 obtain ⟨h1, h2, h3⟩ := h g hg
 exact ⟨h1, Nat.lt_of_lt_of_le h2 hm.size, h3.mod hm h2 (hs _ h1 h2)⟩
theorem softA.weak {w : World} {Q R : Nat -> Prop} {A : Option Addr} (h : softA w Q A) (hq : ∀ k, k < w.heap.size -> Q k -> R k) : softA w R A := fun g hg => by
 obtain ⟨h1, h2, h3⟩ := h g hg
 exact ⟨hq _ h2 h1, h2, h3⟩
def RsS (w : World) (Q : Nat -> Prop) (A : Option Addr) (k : Nat) (f : Nat -> PL) : Prop := 0 < k -> ∃ b o, A = some ⟨b, o, none⟩ /\ b < w.heap.size /\ Q b /\ ∀ i, i < k -> ∃ Ai ci, w.cell? ⟨b, o + i, none⟩ = some (.slice Ai (f i).k ci) /\ (f i).k <= ci /\ PsL w Q Ai (f i) /\ softA w Q Ai /\ ∀ g, Ai = some g -> g.block ≠ b
theorem RsS.rs {w : World} {Q : Nat -> Prop} {A : Option Addr} {k : Nat} {f : Nat -> PL} (h : RsS w Q A k f) : RsL w Q A k f := fun h0 => by
 obtain ⟨b, o, hA, hb, hq, hc⟩ := h h0
 refine ⟨b, o, hA, hb, hq, fun i hi => ?_⟩
 obtain ⟨Ai, ci, h1, h2, h3, _⟩ := hc i hi
 exact ⟨Ai, ci, h1, h2, h3⟩
theorem RsS.mod {S : List Nat} {Q : Nat -> Prop} {w w' : World} {A : Option Addr} {k : Nat} {f : Nat -> PL} (h : RsS w Q A k f) (hm : Mod S w w') (hs : ∀ k, Q k -> k < w.heap.size -> k ∉ S) : RsS w' Q A k f := fun h0 => by
 obtain ⟨b, o, hA, hb, hq, hc⟩ := h h0
 refine ⟨b, o, hA, Nat.lt_of_lt_of_le hb hm.size, hq, fun i hi => ?_⟩
 obtain ⟨Ai, ci, h1, h2, h3, h4, h5⟩ := hc i hi
 exact ⟨Ai, ci, (hm.cell hb (hs b hq hb)).trans h1, h2, h3.mod hm hs, h4.mod hm hs, h5⟩
theorem RsS.weak {Q R : Nat -> Prop} {w : World} {A : Option Addr} {k : Nat} {f : Nat -> PL} (h : RsS w Q A k f) (hq : ∀ k, k < w.heap.size -> Q k -> R k) : RsS w R A k f := fun h0 => by
 obtain ⟨b, o, hA, hb, hqb, hc⟩ := h h0
 refine ⟨b, o, hA, hb, hq b hb hqb, fun i hi => ?_⟩
 obtain ⟨Ai, ci, h1, h2, h3, h4, h5⟩ := hc i hi
 exact ⟨Ai, ci, h1, h2, h3.weak hq, h4.weak hq, h5⟩
section
variable {W : World} {Q : Nat -> Prop} {base c n : Nat} {A : Option Addr} {ac : Nat -> Option Addr × Nat}
theorem RwG.ps {f : Nat -> PR} (r : RwG pairH 70 W Q base A c n f ac) (hq : ∀ b, base <= b -> Q b) : PsL W Q A ⟨n, f⟩ := fun h0 => by
 obtain ⟨g, rfl, hb, hlt, hc⟩ := r.rows h0
 refine ⟨g, 0, rfl, hlt, hq g hb, fun i hi => ⟨(ac i).1, (ac i).2, ?_, IsL.weak (fun _ _ h => h.1) _ (r.kid i hi)⟩⟩
 exact ⟨hc i hi 0 _ rfl, hc i hi 1 _ rfl, hc i hi 2 _ rfl, hc i hi 3 _ rfl, hc i hi 4 _ rfl, hc i hi 5 _ rfl⟩
theorem RwG.rs {f : Nat -> PL} (r : RwG resH 62 W Q base A c n f ac) (hq : ∀ b, base <= b -> Q b) : RsL W Q A n f := fun h0 => by
 obtain ⟨g, rfl, hb, hlt, hc⟩ := r.rows h0
 refine ⟨g, 0, rfl, hlt, hq g hb, fun i hi => ⟨(ac i).1, (ac i).2, ?_, (r.kid i hi).2, (r.kid i hi).1.weak (fun _ _ h => h.1)⟩⟩
 have := hc i hi 0 _ rfl
 rw [show resH.z = 1 from rfl, Nat.mul_one, Nat.add_zero] at this
 exact this
theorem RwG.ts {f : Nat -> T} (r : RwG itemH 68 W Q base A c n f ac) (hq : ∀ b, base <= b -> Q b) (kind : Int) (m : Nat) (s : List UInt8) (op : Bool) : IsL W Q (T.mk kind m s op n f) A := fun h0 => by
 obtain ⟨g, rfl, hb, hlt, hc⟩ := r.rows h0
 refine ⟨g, 0, rfl, hlt, hq g hb, fun i hi => ⟨(ac i).1, (ac i).2, ?_, IsL.weak (fun _ _ h => h.1) _ (r.kid i hi)⟩⟩
 exact ⟨hc i hi 0 _ rfl, hc i hi 1 _ rfl, hc i hi 2 _ rfl, hc i hi 3 _ rfl, hc i hi 4 _ rfl⟩
end
end
theorem readE_name {t : T} (hok : t.ok) : (readE t).name.length < 4611686018427387904 := by
 unfold readE
 split
 . simp [zeroE]
 .
  rename_i h
  split
  . simp
  .
   split
   .
    cases t with
    | nil => exact absurd hok T.not_nil
    | mk kind n s op k ch =>
     have hk : k = 2 := by
      by_cases hk : k = 2
      . exact hk
      . exact absurd (Or.inr (Or.inl hk)) h
     subst hk
     have h1 := hok.2.2.2.2 1 (by omega)
     show (ch 1).s.length < _
     cases hc : ch 1 with
     | nil => simp [T.s]
     | mk a b d e f g => rw [hc] at h1; exact h1.2.2.1
   . simp [noneE]
def ofB (t : T) : Bool := (readE t).ok && (t.right 8 && t.same (eidT (readE t)))
set_option maxRecDepth 20000 in
set_option maxHeartbeats 1600000 in
theorem eidOf_yes (t : T) (hok : t.ok) (ho : (readE t).ok = true) (hs : (t.right 8 && t.same (eidT (readE t))) = true) (A : Option Addr) (c : Nat) (w : World) (h : IsL w (fun _ => True) t A) : Calls Tryz.prog 124 #[itemV t A c] w (Ret (.tuple #[(readE t).v, .int .i64 0]) w) := by
 have K1 : Hid (∀ W, IsL W (fun _ => True) t A -> Calls Tryz.prog 146 #[itemV t A c] W (Ret (readE t).v W)) := fun W hW => eread_any t (by rintro rfl; exact T.not_nil hok) A c W hW
 have H := hid h
 have K2 := hid (fun W => eidItem_ok (readE t) ho W)
 obtain ⟨g1, g2, _, _⟩ := eidT_ok ho
 have K3 : Hid (∀ (B : Option Addr) (W : World), IsL W (fun _ => True) t A -> IsL W (fun _ => True) (eidT (readE t)) B -> Calls Tryz.prog 148 #[itemV t A c, itemV (eidT (readE t)) B 2] W (Ret (.bool true) W)) := fun B W h1 h2 => by
  have := Same_any t (eidT (readE t)) hok g1 A B c 2 W h1 h2
  rw [g2 8 (by omega), Bool.and_true, hs] at this
  exact this
 clear g1 g2 ho h hok hs
 generalize eidT (readE t) = y at *
 generalize readE t = e at *
 have HE := hid (((Mod.refl [] w).alloc (.cells (itemC t A c) 68)).alloc (.cells #[.int .i64 0, .string ⟨#[]⟩, .int .u64 0, .int .u64 0] 24))
 have HX := hid ((Blk.new w 68 (itemC t A c)).alloc (.cells #[.int .i64 0, .string ⟨#[]⟩, .int .u64 0, .int .u64 0] 24))
 have HQ := hid (Blk.new' (w.alloc (.cells (itemC t A c) 68)) 24 #[.int .i64 0, .string ⟨#[]⟩, .int .u64 0, .int .u64 0] (N := w.heap.size + 1) (by simp))
 go_enter Tryz.func124, Tryz.ntmps124
 go_wp2_with fail
 refine (K1.out _ (H.out.ext HE.out)).mono ?_
 rintro e1 w1 ⟨rfl, hb1⟩
 have HE1 := hid ((HE.out.trans hb1).alloc (.cells e.c 24))
 have HX1 := hid ((HX.out.ext hb1).alloc (.cells e.c 24))
 have HQ1 := hid ((HQ.out.ext hb1).alloc (.cells e.c 24))
 have HV1 := hid (Blk.new w1 24 e.c)
 clear hb1
 go_wp2_with fail
 refine (K2.out _).mono ?_
 rintro e1 w2 ⟨B, rfl, hb2, hl2⟩
 have HE2 := hid ((HE1.out.trans hb2).alloc (.cells (itemC y B 2) 68))
 have HX2 := hid ((HX1.out.ext hb2).alloc (.cells (itemC y B 2) 68))
 have HQ2 := hid ((HQ1.out.ext hb2).alloc (.cells (itemC y B 2) 68))
 have HV2 := hid ((HV1.out.ext hb2).alloc (.cells (itemC y B 2) 68))
 have HY2 := hid (Blk.new w2 68 (itemC y B 2))
 have HL2 : Hid (IsL (w2.alloc (.cells (itemC y B 2) 68)) (fun _ => True) y B) := IsL.ext (IsL.weak (fun _ _ _ => trivial) _ hl2) ((Mod.refl _ _).alloc _)
 have H2 := hid ((H.out.ext HE2.out))
 clear hb2 hl2
 obtain ⟨q0, q1, q2, q3, q4⟩ := cells5 HX2.out
 go_wp2_with fail
 refine (K3.out B _ H2.out HL2.out).mono ?_
 rintro e1 w3 ⟨rfl, hb3⟩
 have HE3 := hid (HE2.out.trans hb3)
 have HQ3 := hid (HQ2.out.ext hb3)
 have HV3 := hid (HV2.out.ext hb3)
 clear hb3 q0 q1 q2 q3 q4
 obtain ⟨r0, r1, r2, r3⟩ : w3.cell? ⟨w.heap.size + 1, 0, none⟩ = some (.int .i64 0) /\ w3.cell? ⟨w.heap.size + 1, 1, none⟩ = some (str []) /\ w3.cell? ⟨w.heap.size + 1, 2, none⟩ = some (.int .u64 0) /\ w3.cell? ⟨w.heap.size + 1, 3, none⟩ = some (.int .u64 0) := ⟨HQ3.out.cell 0, HQ3.out.cell 1, HQ3.out.cell 2, HQ3.out.cell 3⟩
 have f0 := Blk.frozen HQ3.out 0
 have f1 := Blk.frozen HQ3.out 1
 have f2 := Blk.frozen HQ3.out 2
 have f3 := Blk.frozen HQ3.out 3
 obtain ⟨v0, v1, v2, v3⟩ : w3.cell? ⟨w1.heap.size, 0, none⟩ = some (.int .i64 e.sch) /\ w3.cell? ⟨w1.heap.size, 1, none⟩ = some (str e.name) /\ w3.cell? ⟨w1.heap.size, 2, none⟩ = some (.int .u64 (e.node : Int)) /\ w3.cell? ⟨w1.heap.size, 3, none⟩ = some (.int .u64 (e.svc : Int)) := ⟨HV3.out.cell 0, HV3.out.cell 1, HV3.out.cell 2, HV3.out.cell 3⟩
 go_wp2_with fail
 have B4 := (((HQ3.out.set_ 0 (.int .i64 e.sch)).set_ 1 (str e.name)).set_ 2 (.int .u64 (e.node : Int))).set_ 3 (.int .u64 (e.svc : Int))
 obtain ⟨d0, d1, d2, d3⟩ := And.intro (B4.cell 0) (And.intro (B4.cell 1) (And.intro (B4.cell 2) (B4.cell 3)))
 simp only [List.setIfInBounds_toArray, List.set_cons_zero, List.set_cons_succ, List.getElem?_toArray, List.getElem?_cons_zero, List.getElem?_cons_succ] at d0 d1 d2 d3
 clear r0 r1 r2 r3 f0 f1 f2 f3 v0 v1 v2 v3
 refine bodyPost_ret (v := .tuple #[e.v, .int .i64 0]) (by simp [results, Tryz.results124, go_sem, d0, d1, d2, d3]) rfl (Ret.mk rfl ((((HE3.out.setCell (.inr (by show w.heap.size <= w.heap.size + 1; omega)) _).setCell (.inr (by show w.heap.size <= w.heap.size + 1; omega)) _).setCell (.inr (by show w.heap.size <= w.heap.size + 1; omega)) _).setCell (.inr (by show w.heap.size <= w.heap.size + 1; omega)) _))
set_option maxRecDepth 20000 in
set_option maxHeartbeats 1600000 in
theorem eidOf_no (t : T) (hok : t.ok) (ho : (readE t).ok = true) (hs : (t.right 8 && t.same (eidT (readE t))) = false) (A : Option Addr) (c : Nat) (w : World) (h : IsL w (fun _ => True) t A) : Calls Tryz.prog 124 #[itemV t A c] w (Ret (.tuple #[zeroE.v, .int .i64 2]) w) := by
 have K1 : Hid (∀ W, IsL W (fun _ => True) t A -> Calls Tryz.prog 146 #[itemV t A c] W (Ret (readE t).v W)) := fun W hW => eread_any t (by rintro rfl; exact T.not_nil hok) A c W hW
 have H := hid h
 have K2 := hid (fun W => eidItem_ok (readE t) ho W)
 obtain ⟨g1, g2, _, _⟩ := eidT_ok ho
 have K3 : Hid (∀ (B : Option Addr) (W : World), IsL W (fun _ => True) t A -> IsL W (fun _ => True) (eidT (readE t)) B -> Calls Tryz.prog 148 #[itemV t A c, itemV (eidT (readE t)) B 2] W (Ret (.bool false) W)) := fun B W h1 h2 => by
  have := Same_any t (eidT (readE t)) hok g1 A B c 2 W h1 h2
  rw [g2 8 (by omega), Bool.and_true, hs] at this
  exact this
 clear g1 g2 ho h hok hs
 generalize eidT (readE t) = y at *
 generalize readE t = e at *
 have HE := hid (((Mod.refl [] w).alloc (.cells (itemC t A c) 68)).alloc (.cells #[.int .i64 0, .string ⟨#[]⟩, .int .u64 0, .int .u64 0] 24))
 have HX := hid ((Blk.new w 68 (itemC t A c)).alloc (.cells #[.int .i64 0, .string ⟨#[]⟩, .int .u64 0, .int .u64 0] 24))
 have HQ := hid (Blk.new' (w.alloc (.cells (itemC t A c) 68)) 24 #[.int .i64 0, .string ⟨#[]⟩, .int .u64 0, .int .u64 0] (N := w.heap.size + 1) (by simp))
 go_enter Tryz.func124, Tryz.ntmps124
 go_wp2_with fail
 refine (K1.out _ (H.out.ext HE.out)).mono ?_
 rintro e1 w1 ⟨rfl, hb1⟩
 have HE1 := hid ((HE.out.trans hb1).alloc (.cells e.c 24))
 have HX1 := hid ((HX.out.ext hb1).alloc (.cells e.c 24))
 have HQ1 := hid ((HQ.out.ext hb1).alloc (.cells e.c 24))
 have HV1 := hid (Blk.new w1 24 e.c)
 clear hb1
 go_wp2_with fail
 refine (K2.out _).mono ?_
 rintro e1 w2 ⟨B, rfl, hb2, hl2⟩
 have HE2 := hid ((HE1.out.trans hb2).alloc (.cells (itemC y B 2) 68))
 have HX2 := hid ((HX1.out.ext hb2).alloc (.cells (itemC y B 2) 68))
 have HQ2 := hid ((HQ1.out.ext hb2).alloc (.cells (itemC y B 2) 68))
 have HV2 := hid ((HV1.out.ext hb2).alloc (.cells (itemC y B 2) 68))
 have HY2 := hid (Blk.new w2 68 (itemC y B 2))
 have HL2 : Hid (IsL (w2.alloc (.cells (itemC y B 2) 68)) (fun _ => True) y B) := IsL.ext (IsL.weak (fun _ _ _ => trivial) _ hl2) ((Mod.refl _ _).alloc _)
 have H2 := hid ((H.out.ext HE2.out))
 clear hb2 hl2
 obtain ⟨q0, q1, q2, q3, q4⟩ := cells5 HX2.out
 go_wp2_with fail
 refine (K3.out B _ H2.out HL2.out).mono ?_
 rintro e1 w3 ⟨rfl, hb3⟩
 have HE3 := hid (HE2.out.trans hb3)
 have HQ3 := hid (HQ2.out.ext hb3)
 have HV3 := hid (HV2.out.ext hb3)
 clear hb3 q0 q1 q2 q3 q4
 obtain ⟨r0, r1, r2, r3⟩ : w3.cell? ⟨w.heap.size + 1, 0, none⟩ = some (.int .i64 0) /\ w3.cell? ⟨w.heap.size + 1, 1, none⟩ = some (str []) /\ w3.cell? ⟨w.heap.size + 1, 2, none⟩ = some (.int .u64 0) /\ w3.cell? ⟨w.heap.size + 1, 3, none⟩ = some (.int .u64 0) := ⟨HQ3.out.cell 0, HQ3.out.cell 1, HQ3.out.cell 2, HQ3.out.cell 3⟩
 have f0 := Blk.frozen HQ3.out 0
 have f1 := Blk.frozen HQ3.out 1
 have f2 := Blk.frozen HQ3.out 2
 have f3 := Blk.frozen HQ3.out 3
 go_wp2_with fail
 have B4 := (((HQ3.out.set_ 0 (.int .i64 0)).set_ 1 (str [])).set_ 2 (.int .u64 0)).set_ 3 (.int .u64 0)
 obtain ⟨d0, d1, d2, d3⟩ := And.intro (B4.cell 0) (And.intro (B4.cell 1) (And.intro (B4.cell 2) (B4.cell 3)))
 simp only [List.setIfInBounds_toArray, List.set_cons_zero, List.set_cons_succ, List.getElem?_toArray, List.getElem?_cons_zero, List.getElem?_cons_succ] at d0 d1 d2 d3
 clear r0 r1 r2 r3 f0 f1 f2 f3
 refine bodyPost_ret (v := .tuple #[.agg #[.int .i64 0, str [], .int .u64 0, .int .u64 0], .int .i64 2]) (by simp [results, Tryz.results124, go_sem, d0, d1, d2, d3]) rfl (Ret.mk rfl ((((HE3.out.setCell (.inr (by show w.heap.size <= w.heap.size + 1; omega)) _).setCell (.inr (by show w.heap.size <= w.heap.size + 1; omega)) _).setCell (.inr (by show w.heap.size <= w.heap.size + 1; omega)) _).setCell (.inr (by show w.heap.size <= w.heap.size + 1; omega)) _))
set_option maxRecDepth 20000 in
set_option maxHeartbeats 1600000 in
theorem eidOf_bad (t : T) (hok : t.ok) (ho : (readE t).ok = false) (A : Option Addr) (c : Nat) (w : World) (h : IsL w (fun _ => True) t A) : Calls Tryz.prog 124 #[itemV t A c] w (Ret (.tuple #[zeroE.v, .int .i64 2]) w) := by
 have K1 : Hid (∀ W, IsL W (fun _ => True) t A -> Calls Tryz.prog 146 #[itemV t A c] W (Ret (readE t).v W)) := fun W hW => eread_any t (by rintro rfl; exact T.not_nil hok) A c W hW
 have H := hid h
 have hl := readE_name hok
 have K2 : Hid (∀ W, Calls Tryz.prog 147 #[(readE t).v] W (Ret (.tuple #[itemV (numT 0) none 0, .int .i64 1]) W)) := fun W => eidItem_bad _ _ _ _ hl ho W
 clear ho h hok hl
 generalize readE t = e at *
 have HE := hid (((Mod.refl [] w).alloc (.cells (itemC t A c) 68)).alloc (.cells #[.int .i64 0, .string ⟨#[]⟩, .int .u64 0, .int .u64 0] 24))
 have HX := hid ((Blk.new w 68 (itemC t A c)).alloc (.cells #[.int .i64 0, .string ⟨#[]⟩, .int .u64 0, .int .u64 0] 24))
 have HQ := hid (Blk.new' (w.alloc (.cells (itemC t A c) 68)) 24 #[.int .i64 0, .string ⟨#[]⟩, .int .u64 0, .int .u64 0] (N := w.heap.size + 1) (by simp))
 go_enter Tryz.func124, Tryz.ntmps124
 go_wp2_with fail
 refine (K1.out _ (H.out.ext HE.out)).mono ?_
 rintro e1 w1 ⟨rfl, hb1⟩
 have HE1 := hid ((HE.out.trans hb1).alloc (.cells e.c 24))
 have HX1 := hid ((HX.out.ext hb1).alloc (.cells e.c 24))
 have HQ1 := hid ((HQ.out.ext hb1).alloc (.cells e.c 24))
 have HV1 := hid (Blk.new w1 24 e.c)
 clear hb1
 go_wp2_with fail
 refine (K2.out _).mono ?_
 rintro e1 w3 ⟨rfl, hb3⟩
 have HE3 := hid ((HE1.out.trans hb3).alloc (.cells (itemC (numT 0) none 0) 68))
 have HQ3 := hid ((HQ1.out.ext hb3).alloc (.cells (itemC (numT 0) none 0) 68))
 clear hb3
 obtain ⟨r0, r1, r2, r3⟩ : (w3.alloc (.cells (itemC (numT 0) none 0) 68)).cell? ⟨w.heap.size + 1, 0, none⟩ = some (.int .i64 0) /\ (w3.alloc (.cells (itemC (numT 0) none 0) 68)).cell? ⟨w.heap.size + 1, 1, none⟩ = some (str []) /\ (w3.alloc (.cells (itemC (numT 0) none 0) 68)).cell? ⟨w.heap.size + 1, 2, none⟩ = some (.int .u64 0) /\ (w3.alloc (.cells (itemC (numT 0) none 0) 68)).cell? ⟨w.heap.size + 1, 3, none⟩ = some (.int .u64 0) := ⟨HQ3.out.cell 0, HQ3.out.cell 1, HQ3.out.cell 2, HQ3.out.cell 3⟩
 have f0 := Blk.frozen HQ3.out 0
 have f1 := Blk.frozen HQ3.out 1
 have f2 := Blk.frozen HQ3.out 2
 have f3 := Blk.frozen HQ3.out 3
 go_wp2_with fail
 have B4 := (((HQ3.out.set_ 0 (.int .i64 0)).set_ 1 (str [])).set_ 2 (.int .u64 0)).set_ 3 (.int .u64 0)
 obtain ⟨d0, d1, d2, d3⟩ := And.intro (B4.cell 0) (And.intro (B4.cell 1) (And.intro (B4.cell 2) (B4.cell 3)))
 simp only [List.setIfInBounds_toArray, List.set_cons_zero, List.set_cons_succ, List.getElem?_toArray, List.getElem?_cons_zero, List.getElem?_cons_succ] at d0 d1 d2 d3
 clear r0 r1 r2 r3 f0 f1 f2 f3
 refine bodyPost_ret (v := .tuple #[.agg #[.int .i64 0, str [], .int .u64 0, .int .u64 0], .int .i64 2]) (by simp [results, Tryz.results124, go_sem, d0, d1, d2, d3]) rfl (Ret.mk rfl ((((HE3.out.setCell (.inr (by show w.heap.size <= w.heap.size + 1; omega)) _).setCell (.inr (by show w.heap.size <= w.heap.size + 1; omega)) _).setCell (.inr (by show w.heap.size <= w.heap.size + 1; omega)) _).setCell (.inr (by show w.heap.size <= w.heap.size + 1; omega)) _))
theorem eidOf_any (t : T) (hok : t.ok) (A : Option Addr) (c : Nat) (w : World) (h : IsL w (fun _ => True) t A) : Calls Tryz.prog 124 #[itemV t A c] w (Ret (.tuple #[(if ofB t then readE t else zeroE).v, .int .i64 (if ofB t then 0 else 2)]) w) := by
 by_cases ho : (readE t).ok = true
 .
  by_cases hs : (t.right 8 && t.same (eidT (readE t))) = true
  .
   have hb : ofB t = true := by unfold ofB; rw [ho, hs]; rfl
   rw [hb]; exact eidOf_yes t hok ho hs A c w h
  .
   have hs2 : (t.right 8 && t.same (eidT (readE t))) = false := by simpa using hs
   have hb : ofB t = false := by unfold ofB; rw [ho, hs2]; rfl
   rw [hb]; exact eidOf_no t hok ho hs2 A c w h
 .
  have ho2 : (readE t).ok = false := by simpa using ho
  have hb : ofB t = false := by unfold ofB; rw [ho2]; rfl
  rw [hb]; exact eidOf_bad t hok ho2 A c w h
theorem chL_app {L : List T} {t : T} {i : Nat} (h : i < L.length) : chL (L ++ [t]) i = chL L i := by unfold chL; rw [List.getElem?_append_left h]
theorem chL_last (L : List T) (t : T) : chL (L ++ [t]) L.length = t := by unfold chL; simp
theorem listT_app (L : List T) (t : T) : listT (L ++ [t]) = T.mk 4 0 [] false (L.length + 1) (chL (L ++ [t])) := by
 unfold listT chL
 rw [List.length_append]; rfl
theorem last_ext (L : List T) (s t : T) : listT (L ++ [t]) = T.mk 4 0 [] false (L.length + 1) (fun i => if i = L.length then t else chL (L ++ [s]) i) := by
 rw [listT_app]
 congr 1
 funext i
 by_cases h : i = L.length
 . rw [if_pos h, h, chL_last]
 .
  rw [if_neg h]
  by_cases h2 : i < L.length
  . rw [chL_app h2, chL_app h2]
  .
   unfold chL
   rw [List.getElem?_eq_none (by simp; omega), List.getElem?_eq_none (by simp; omega)]
set_option maxRecDepth 20000 in
theorem psummed_0 (t : T) (A : Option Addr) (c : Nat) (w : World) : Calls Tryz.prog 161 #[.int .i64 0, itemV t A c] w (Ret (itemV t A c) w) := by
 have HB := hid (Blk.new w 68 (itemC t A c))
 go_enter Tryz.func161, Tryz.ntmps161
 go_wp2_with fail
 refine bodyPost_ret (v := itemV t A c) (by simp [results, Tryz.results161, go_sem]) rfl (Ret.mk rfl (((Mod.refl _ _).alloc _).alloc _))
set_option maxRecDepth 20000 in
set_option maxHeartbeats 1600000 in
theorem psummed_cap (L : List T) (Z : List UInt8) (kind : Nat) (k1 : 1 <= kind) (k2 : kind <= 2) (hn : L.length <= 20) (hok : (listT (L ++ [strT Z])).ok) (hsz : (listT (L ++ [strT Z])).size <= 100000) (hr : (listT (L ++ [strT Z])).right 8 = true) (hbl : (listT (L ++ [strT Z])).bytes.length < 1000000) (N : Nat) (A : Option Addr) (c : Nat) (w : World) (hN : N <= w.heap.size) (h : IsL w (fun b => N <= b) (listT (L ++ [strT Z])) A) :
  Calls Tryz.prog 161 #[.int .i64 (kind : Int), itemV (listT (L ++ [strT Z])) A c] w (fun e w' => ∃ A c, e = .returned (itemV (listT (L ++ [strT (Crc.sumL kind (listT (L ++ [strT Z])).bytes)])) A c) /\ Ext w w' /\ IsL w' (fun b => N <= b) (listT (L ++ [strT (Crc.sumL kind (listT (L ++ [strT Z])).bytes)])) A /\ (listT (L ++ [strT (Crc.sumL kind (listT (L ++ [strT Z])).bytes)])).k <= c) := by
 have e1 : ((kind : Int) = 0) = False := by simp; omega
 have e2 : ((kind : Int) == 0) = false := by simp; omega
 have HI : Hid (IsL w (fun b => N <= b /\ b < w.heap.size) (listT (L ++ [strT Z])) A) := IsL.weak (fun k hk hq => ⟨hq, hk⟩) _ h
 have KB : Hid (∀ A c W, IsL W (fun _ => True) (listT (L ++ [strT Z])) A -> Calls Tryz.prog 130 #[itemV (listT (L ++ [strT Z])) A c] W (Ret (.tuple #[str (listT (L ++ [strT Z])).bytes, .int .i64 0]) W)) := fun A c W hW => by
  have := iBuild_any _ hok hsz A c W hW
  unfold buildV at this
  rwa [if_pos hr] at this
 have KS := hid (fun W => Sum_any kind k1 k2 (listT (L ++ [strT Z])).bytes hbl W)
 have HU := hid (last_ext L (strT Z) (strT (Crc.sumL kind (listT (L ++ [strT Z])).bytes)))
 rw [listT_app L (strT Z)] at KB KS HU HI ⊢
 have hK := CloneI_any (Q := fun b => N <= b /\ b < w.heap.size) (kind := 4) (n := 0) (s := []) (op := false) (chL (L ++ [strT Z])) (L.length + 1) (by unfold Hid; omega) A c
 have KC := hid hK
 clear hK h hok hsz hr hbl
 generalize (T.mk 4 0 [] false (L.length + 1) (chL (L ++ [strT Z]))).bytes = B at *
 generalize listT (L ++ [strT (Crc.sumL kind B)]) = U at *
 generalize Crc.sumL kind B = S at *
 generalize chL (L ++ [strT Z]) = ch at *
 obtain ⟨n, hnn⟩ : ∃ n, n = L.length := ⟨_, rfl⟩
 rw [<- hnn] at HI KB HU KC hn ⊢
 clear hnn
 have n0 : (0 : Int) <= (n : Int) := by omega
 have n1 : (n : Int) <= 20 := by omega
 have HN1 := hid hn
 have HNW := hid hN
 clear hn hN k1 k2
 have HE := hid (((Mod.refl [] w).alloc (.cells (itemC (T.mk 4 0 [] false (n + 1) ch) A c) 68)).alloc (.cells #[.int .i64 0, .int .u64 0, .string ⟨#[]⟩, .slice none 0 0, .bool false] 68))
 have HX := hid ((Blk.new w 68 (itemC (T.mk 4 0 [] false (n + 1) ch) A c)).alloc (.cells #[.int .i64 0, .int .u64 0, .string ⟨#[]⟩, .slice none 0 0, .bool false] 68))
 have HR : Hid (Blk ((w.alloc (.cells (itemC (T.mk 4 0 [] false (n + 1) ch) A c) 68)).alloc (.cells #[.int .i64 0, .int .u64 0, .string ⟨#[]⟩, .slice none 0 0, .bool false] 68)) (w.heap.size + 1) 68 (itemC (numT 0) none 0)) := Blk.newL _ _ _ (by simp)
 go_enter Tryz.func161, Tryz.ntmps161
 go_upto_region 3 with fail
 generalize hV : World.alloc _ _ = V
 rw [hV] at HE HX HR
 clear hV
 have HIV : Hid (∀ e : Later V, IsL e.x (fun b => N <= b /\ b < w.heap.size) (T.mk 4 0 [] false (n + 1) ch) A) := fun e => HI.out.ext (HE.out.trans e.h)
 have q0 : ∀ e : Later V, e.x.cell? ⟨w.heap.size, 0, none⟩ = some (.int .i64 4) := HX.out.cellL 0 rfl
 have q1 : ∀ e : Later V, e.x.cell? ⟨w.heap.size, 1, none⟩ = some (.int .u64 0) := HX.out.cellL 1 rfl
 have q2 : ∀ e : Later V, e.x.cell? ⟨w.heap.size, 2, none⟩ = some (str []) := HX.out.cellL 2 rfl
 have q3 : ∀ e : Later V, e.x.cell? ⟨w.heap.size, 3, none⟩ = some (.slice A (n + 1) c) := HX.out.cellL 3 rfl
 have q4 : ∀ e : Later V, e.x.cell? ⟨w.heap.size, 4, none⟩ = some (.bool false) := HX.out.cellL 4 rfl
 obtain ⟨e, he⟩ := Later.self V
 rw [he]
 clear he
 have HVS : Hid (w.heap.size + 2 <= V.heap.size) := Nat.succ_le_of_lt HR.out.lt
 go_upto_region 5 with (first | (go_at_call 130; refine (Ret.later (KB.out _ _ _ (IsL.weak (fun _ _ _ => trivial) _ (HIV.out _)))).mono ?_; rintro x _ ⟨rfl, e, rfl⟩) | (go_at_call 180; refine (KC.out _ (HIV.out _)).mono ?_; rintro x w1 ⟨g, c', ac, rfl, hb1, hg1, hlt1, hown1, hk1⟩))
 have HO1 := hid hown1
 have HK1 := hid hk1
 have HG : Hid (w.heap.size + 2 <= g) := by have := HVS.out; have := e.h.size; unfold Hid; omega
 have HE1 := hid (HE.out.trans (e.h.trans hb1))
 have HR1 := hid (HR.out.ext (e.h.trans hb1))
 have HL1 := hid hlt1
 clear hb1 hg1 hlt1 hown1 hk1 HE HR HI q0 q1 q2 q3 q4 HIV HX HVS
 obtain ⟨x0, x1, x2, x3, x4⟩ := flatC_get ch ac (n + 1) n (by omega)
 have y0 : ∀ e : Later w1, e.x.cell? ⟨g, n * 5, none⟩ = _ := cellL (own_cells HO1.out x0)
 have y1 : ∀ e : Later w1, e.x.cell? ⟨g, n * 5 + 1, none⟩ = _ := cellL (own_cells HO1.out x1)
 have y2 : ∀ e : Later w1, e.x.cell? ⟨g, n * 5 + 2, none⟩ = _ := cellL (own_cells HO1.out x2)
 have y3 : ∀ e : Later w1, e.x.cell? ⟨g, n * 5 + 3, none⟩ = _ := cellL (own_cells HO1.out x3)
 have y4 : ∀ e : Later w1, e.x.cell? ⟨g, n * 5 + 4, none⟩ = _ := cellL (own_cells HO1.out x4)
 have HOE : Hid (∀ e : Later w1, e.x.ownsRow _ 68 5 (.slice (some ⟨g, 0, none⟩) (n + 1) c') (n + 1) (flatC ch ac (n + 1))) := fun e => ownsRow_mod HO1.out e.h (fun _ _ => by simp)
 have z : ∀ (e : Later w1) (j : Nat), e.x.frozen? ⟨g, j, none⟩ = false := fun e j => (HOE.out e).frozenAt j
 clear x0 x1 x2 x3 x4
 obtain ⟨e, he⟩ := Later.self w1
 rw [he]
 clear he
 go_upto_region 6 with (first | (go_at_call 182; refine (Ret.later (KS.out _)).mono ?_; rintro x _ ⟨rfl, e, rfl⟩) | (go_at_call 181; refine (Ret.later (StrV_any _ _)).mono ?_; rintro x _ ⟨rfl, e, rfl⟩))
 generalize hW : World.setCell _ _ _ = W2
 have HO2 : Hid (W2.ownsRow _ 68 5 (.slice (some ⟨g, 0, none⟩) (n + 1) c') (n + 1) (flatC (fun i => if i = n then strT S else ch i) (fun i => if i = n then ((none : Option Addr), 0) else ac i) (n + 1))) := hid (by rw [<- hW]; exact own_last (n := n) (strT S) none 0 (HOE.out e))
 have HM : Hid (Mod [g] e.x W2) := hid (by rw [<- hW]; exact (((((Mod.refl [g] e.x).setCell (.inl (by simp)) _).setCell (.inl (by simp)) _).setCell (.inl (by simp)) _).setCell (.inl (by simp)) _).setCell (.inl (by simp)) _)
 clear hW y0 y1 y2 y3 y4 z
 have HE2 : Hid (Ext w W2) := (((HE1.out.trans e.h).of_ext).trans HM.out).new (fun b hb => .inr (by rw [List.mem_singleton] at hb; subst hb; have := HG.out; omega))
 have HR2 : Hid (Blk W2 (w.heap.size + 1) 68 (itemC (numT 0) none 0)) := (HR1.out.later e).mod HM.out (by have := HG.out; simp; omega)
 have HK2 : Hid (∀ i, i < n + 1 -> IsL W2 (fun b => N <= b /\ b < w.heap.size) ((fun i => if i = n then strT S else ch i) i) ((fun i => if i = n then ((none : Option Addr), 0) else ac i) i).1) := fun i hi => by
  by_cases h : i = n
  . subst h; simp only [if_true]; exact str_IsL
  .
   simp only [if_neg h]
   exact (IsL.mod HM.out (fun b hb _ hs => by rw [List.mem_singleton] at hs; subst hs; have := hb.2; have := HG.out; omega) _ ((HK1.out i hi).ext e.h))
 have HL2 : Hid (g < W2.heap.size) := by have := HL1.out; have := e.h.size; have := HM.out.size; unfold Hid; omega
 obtain ⟨e, he⟩ := Later.self W2
 rw [he]
 clear he
 go_wp2_with (go_at_call 158; refine (Ret.later (ListV_any _ _ _ _)).mono ?_; rintro x _ ⟨rfl, e, rfl⟩; obtain ⟨c0, c1, c2, c3, c4⟩ := cells5 (HR2.out.later e); have f0 := (HR2.out.later e).frozen 0; have f1 := (HR2.out.later e).frozen 1; have f2 := (HR2.out.later e).frozen 2; have f3 := (HR2.out.later e).frozen 3; have f4 := (HR2.out.later e).frozen 4)
 obtain ⟨d0, d1, d2, d3, d4⟩ := cells5 (set5_blk (t := T.mk 4 0 [] false (n + 1) (fun i => if i = n then strT S else ch i)) (A := some ⟨g, 0, none⟩) (c := c') (HR2.out.later e))
 clear c0 c1 c2 c3 c4 f0 f1 f2 f3 f4
 show bodyPost _ _ _ _ _ (set5 e.x (w.heap.size + 1) (T.mk 4 0 [] false (n + 1) (fun i => if i = n then strT S else ch i)) (some ⟨g, 0, none⟩) c')
 refine bodyPost_ret (v := itemV (T.mk 4 0 [] false (n + 1) (fun i => if i = n then strT S else ch i)) (some ⟨g, 0, none⟩) c') (by simp [results, Tryz.results161, go_sem, d0, d1, d2, d3, d4]) rfl ⟨some ⟨g, 0, none⟩, c', by rw [HU.out], set5_mod (HE2.out.trans e.h) (by omega), ?_⟩
 rw [HU.out]
 refine ⟨?_, room_cap HO2.out⟩
 refine IsL.weak (fun _ _ h => h.1) _ (IsL.mod (Q := fun b => N <= b /\ b ≠ w.heap.size + 1) set5_modb (fun b hb _ hs => by rw [List.mem_singleton] at hs; exact hb.2 hs) _ ?_)
 refine own_IsL (by have := HL2.out; have := e.h.size; omega) (by have := HG.out; have := HNW.out; exact ⟨by omega, by omega⟩) (ownsRow_mod HO2.out e.h (fun _ _ => by simp)) (fun i hi => IsL.weak (fun b _ hb => ⟨hb.1, by have := hb.2; omega⟩) _ ((HK2.out i hi).ext e.h))
end Go.Proofs.YtmckfdmdkljomaaGreatDoor
