/-
 A step's parts: older data, changed blocks.
-/
import Derived.Test.YthecmnbkjchjmaaGreatMExtHopsax
import Derived.Shelf.Abstract
namespace Go.Proofs.YthecmnbkjchjmaaGreat
open Go.RowKit Go.Shelf
set_option linter.unusedVariables false
set_option linter.unusedSimpArgs false
def BunPost (p : PV) (bs : Nat -> BV) (k : Nat) (w : World) (e : Ending) (w' : World) : Prop := ∃ zc A' c', Hid (bunC p A' k c' = zc) /\ e = .returned (.tuple #[.agg zc, .int .i64 0]) /\ Ext w w' /\ Hid (BsL w' A' k bs)
structure ZX (zc : Array Value) : Prop where
 i : (Tryz.prog.info? 29).map (·.size) = some zc.size
 o : zc.all (·.oneCell') = true
 s : zc.size = 20
theorem ZX.mk' (p : PV) (A : Option Addr) (k c : Nat) : ZX (bunC p A k c) := ⟨by kernel_rfl, by simp [Value.oneCell'], rfl⟩
theorem BsL.modX {w w' : World} {S : List Nat} {A : Option Addr} {k : Nat} {bs : Nat -> BV} (h : BsL w A k bs) (hm : Mod S w w') (hs : ∀ g, A = some g -> g.block ∉ S) : BsL w' A k bs := fun hk => by
 obtain ⟨b, o, hA, hb, hc⟩ := h hk
 exact ⟨b, o, hA, Nat.lt_of_lt_of_le hb hm.size, fun i hi => (hc i hi).mod hm hb (hs _ hA)⟩
theorem bun_noB (p : PV) (A' : Option Addr) (k' c' o : Nat) (x y : Int) (n : Nat) (h0 : (bunC p A' k' c')[o]? = some (.int .i64 x)) (h1 : (bunC p A' k' c')[o + 1]? = some (.int .i64 y)) (h2 : (bunC p A' k' c')[o + 2]? = some (.int .u64 n)) : False := by
 rcases Nat.lt_or_ge o 20 with h | h
 .
  have : o = 0 \/ o = 1 \/ o = 2 \/ o = 3 \/ o = 4 \/ o = 5 \/ o = 6 \/ o = 7 \/ o = 8 \/ o = 9 \/ o = 10 \/ o = 11 \/ o = 12 \/ o = 13 \/ o = 14 \/ o = 15 \/ o = 16 \/ o = 17 \/ o = 18 \/ o = 19 := by omega
  rcases this with rfl | rfl | rfl | rfl | rfl | rfl | rfl | rfl | rfl | rfl | rfl | rfl | rfl | rfl | rfl | rfl | rfl | rfl | rfl | rfl
  all_goals (first | (cases h0; done) | (cases h1; done) | (cases h2; done))
 .
  rw [Array.getElem?_eq_none (by show 20 <= o; exact h)] at h0
  cases h0
theorem BsL.apart {w : World} {A : Option Addr} {k : Nat} {bs : Nat -> BV} (h : BsL w A k bs) {g : Nat} {t : TypeId} {p : PV} {A' : Option Addr} {k' c' : Nat} (hb : Blk w g t (bunC p A' k' c')) (k0 : 0 < k) : ∀ ad, A = some ad -> ad.block ∉ [g] := by
 intro ad hA hm
 obtain ⟨b, o, hA2, _, hc⟩ := h k0
 rw [hA2] at hA
 cases hA
 obtain rfl : b = g := by simpa using hm
 obtain ⟨c0, c1, c2, _, _⟩ := hc 0 k0
 rw [hb.cell] at c0 c1 c2
 exact bun_noB p A' k' c' _ _ _ _ c0 c1 c2
theorem BsL.apartZ {w : World} {A : Option Addr} {k : Nat} {bs : Nat -> BV} (h : BsL w A k bs) {g : Nat} {t : TypeId} (hb : Blk w g t zeroBun) (k0 : 0 < k) : ∀ ad, A = some ad -> ad.block ∉ [g] :=
 BsL.apart (p := ⟨0, 0, ⟨0, [], 0, 0⟩, ⟨0, [], 0, 0⟩, ⟨0, [], 0, 0⟩, 0, 0, 0, 0, 0⟩) (A' := none) (k' := 0) (c' := 0) h hb k0
set_option maxRecDepth 20000 in
set_option maxHeartbeats 800000 in
theorem older_any (s : List UInt8) (n ms : Nat) (hs : s.length <= 1073741824) (ha : ageO s = some n) (hn : n <= 1099511627776) (hm : ms < 18446744073709551616) (w : World) : Calls Tryz.prog 38 #[str s, .int .u64 (ms : Int)] w (Ret (str (headL 0 (oldN n ms))) w) := by
 have KR : Hid (∀ W, Calls Tryz.prog 43 #[str s] W (Ret (.tuple #[.int .u64 (n : Int), .int .i64 0]) W)) := hid (fun W => by
  have h := ReadAge_any s hs W
  unfold AgePost at h
  rw [ha] at h
  exact h)
 have n0 : (0 : Int) <= (n : Int) := by omega
 have n1 : (n : Int) <= 1099511627776 := by omega
 have q0 : (0 : Int) <= (ms : Int) := by omega
 have q1 : (ms : Int) <= 18446744073709551615 := by omega
 have KA : Hid (∀ W, Calls Tryz.prog 65 #[.int .u64 ((n : Int) + min (ms : Int) (1099511627776 - (n : Int)))] W (Ret (.tuple #[str (headL 0 (oldN n ms)), .int .i64 0]) W)) := hid (fun W => by
  have e : ((n : Int) + min (ms : Int) (1099511627776 - (n : Int))) = ((oldN n ms : Nat) : Int) := by unfold oldN; omega
  rw [e]
  exact Age_yes (oldN n ms) (oldN_le hn) W)
 clear hs ha hn hm
 go_enter Tryz.func38, Tryz.ntmps38
 go_wp2_with (go_at_call 43; refine (KR.out _).mono ?_; rintro x w1 ⟨rfl, hb1⟩; have HB1 := hid hb1; clear hb1)
 refine (KA.out _).mono ?_
 rintro x w2 ⟨rfl, hb2⟩
 go_wp2_with fail
 go_ret
 exact Ret.mk rfl (HB1.out.trans hb2)
set_option maxRecDepth 20000 in
theorem sent1_any (s d : List UInt8) (q : Nat) {t : TypeId} (w : World) (h : Blk w q t #[str d]) : Calls Tryz.prog 61 #[str s, .pointer (some ⟨q, 0, none⟩)] w (Ret (str d) w) := by
 have c0 : w.cell? ⟨q, 0, none⟩ = some (str d) := h.cell 0
 clear h
 go_enter Tryz.func61, Tryz.ntmps61
 go_wp2_with fail
 go_ret
 exact Ret.mk rfl (Mod.refl _ _)
set_option maxRecDepth 20000 in
theorem step21_any (s : List UInt8) (n ms q : Nat) {t : TypeId} (hs : s.length <= 1073741824) (ha : ageO s = some n) (hn : n <= 1099511627776) (hm : ms < 18446744073709551616) (w : World) (h : Blk w q t #[.int .u64 (ms : Int)]) : Calls Tryz.prog 37 #[str s, .pointer (some ⟨q, 0, none⟩)] w (Ret (str (headL 0 (oldN n ms))) w) := by
 have KO := hid (fun W => older_any s n ms hs ha hn hm W)
 have c0 : w.cell? ⟨q, 0, none⟩ = some (.int .u64 (ms : Int)) := h.cell 0
 clear h hs ha hn hm
 go_enter Tryz.func37, Tryz.ntmps37
 go_wp2_with (first | (go_at_call 38; refine (KO.out _).mono ?_; rintro x w1 ⟨rfl, hb1⟩))
 go_ret
 exact Ret.mk rfl hb1
set_option maxRecDepth 20000 in
set_option maxHeartbeats 800000 in
theorem step31_any (s : List UInt8) (l c : Nat) (hs : s.length <= 1073741824) (ha : hopsO s = some (l, c)) (hm : mayB l ((c + 1 : Nat) : Int) = true) (w : World) : Calls Tryz.prog 40 #[str s] w (Ret (str (130 :: (headL 0 l ++ headL 0 (c + 1)))) w) := by
 have KR : Hid (∀ W, Calls Tryz.prog 41 #[str s] W (Ret (.tuple #[.agg #[.int .i64 (l : Int), .int .i64 (c : Int)], .int .i64 0]) W)) := hid (fun W => by
  have h := readHops_any s hs W
  unfold HopsPost at h
  rw [ha] at h
  exact h)
 have KH : Hid (∀ W, Calls Tryz.prog 16 #[.int .i64 (l : Int), .int .i64 ((c : Int) + 1)] W (Ret (.tuple #[str (130 :: (headL 0 l ++ headL 0 (c + 1))), .int .i64 0]) W)) := hid (fun W => Hops_yes l (c + 1) hm W)
 have c0 : (0 : Int) <= (c : Int) := by omega
 have c1 : (c : Int) <= 255 := by simp [mayB] at hm; omega
 clear hs ha hm
 go_enter Tryz.func40, Tryz.ntmps40
 go_wp2_with (go_at_call 41; refine (KR.out _).mono ?_; rintro x w1 ⟨rfl, hb1⟩; have HB1 := hid hb1; clear hb1)
 go_wp2_with (go_at_call 16; refine (KH.out _).mono ?_; rintro x w2 ⟨rfl, hb2⟩)
 go_ret
 exact Ret.mk rfl ((HB1.out.alloc _).trans hb2)
set_option maxRecDepth 20000 in
set_option maxHeartbeats 1600000 in
theorem changed_none (p : PV) (bs : Nat -> BV) (k c : Nat) (A : Option Addr) (typ : Int) (g : FuncId) (cs : Array Value) (hk : k < 4611686018427387904) (k0 : 0 < k) (hno : firstOf (tyB bs typ) k = none) (w : World) (h : BsL w A k bs) : Calls Tryz.prog 36 #[bunV p A k c, .int .i64 typ, .func (.func g) #[] cs] w (BunPost p bs k w) := by
 have KF : Hid (∀ W, BsL W A k bs -> Calls Tryz.prog 42 #[bunV p A k c, .int .i64 typ] W (Ret (.tuple #[zeroB.v, .bool false]) W)) := hid (fun W hW => by
  have h := Find_any p bs k c A typ hk W hW
  unfold findV at h
  rw [hno] at h
  exact h)
 have K0 := hid k0
 have HW := hid h
 have HE := hid (((Mod.refl [] w).alloc (.cells (bunC p A k c) 29)).alloc (.cells #[.int .u64 0, .int .i64 0, .int .i64 0, .string ⟨#[]⟩, .int .u64 0, .int .u64 0, .int .i64 0, .string ⟨#[]⟩, .int .u64 0, .int .u64 0, .int .i64 0, .string ⟨#[]⟩, .int .u64 0, .int .u64 0, .int .u64 0, .int .u64 0, .int .u64 0, .int .u64 0, .int .u64 0, .slice none 0 0] 29))
 have HB0 : Hid (Blk ((w.alloc (.cells (bunC p A k c) 29)).alloc (.cells #[.int .u64 0, .int .i64 0, .int .i64 0, .string ⟨#[]⟩, .int .u64 0, .int .u64 0, .int .i64 0, .string ⟨#[]⟩, .int .u64 0, .int .u64 0, .int .i64 0, .string ⟨#[]⟩, .int .u64 0, .int .u64 0, .int .u64 0, .int .u64 0, .int .u64 0, .int .u64 0, .int .u64 0, .slice none 0 0] 29)) w.heap.size 29 (bunC p A k c)) := hid ((Blk.new w 29 (bunC p A k c)).alloc (.cells #[.int .u64 0, .int .i64 0, .int .i64 0, .string ⟨#[]⟩, .int .u64 0, .int .u64 0, .int .i64 0, .string ⟨#[]⟩, .int .u64 0, .int .u64 0, .int .i64 0, .string ⟨#[]⟩, .int .u64 0, .int .u64 0, .int .u64 0, .int .u64 0, .int .u64 0, .int .u64 0, .int .u64 0, .slice none 0 0] 29))
 have HB1 : Hid (Blk ((w.alloc (.cells (bunC p A k c) 29)).alloc (.cells #[.int .u64 0, .int .i64 0, .int .i64 0, .string ⟨#[]⟩, .int .u64 0, .int .u64 0, .int .i64 0, .string ⟨#[]⟩, .int .u64 0, .int .u64 0, .int .i64 0, .string ⟨#[]⟩, .int .u64 0, .int .u64 0, .int .u64 0, .int .u64 0, .int .u64 0, .int .u64 0, .int .u64 0, .slice none 0 0] 29)) (w.heap.size + 1) 29 #[.int .u64 0, .int .i64 0, .int .i64 0, .string ⟨#[]⟩, .int .u64 0, .int .u64 0, .int .i64 0, .string ⟨#[]⟩, .int .u64 0, .int .u64 0, .int .i64 0, .string ⟨#[]⟩, .int .u64 0, .int .u64 0, .int .u64 0, .int .u64 0, .int .u64 0, .int .u64 0, .int .u64 0, .slice none 0 0]) := by unfold Hid; exact Blk.newL _ _ _ (by simp)
 have HL := hid (BsL.ext h HE.out)
 clear h hno hk k0
 go_enter Tryz.func36, Tryz.ntmps36
 go_upto_region 1 with fail
 generalize ((w.alloc (.cells (bunC p A k c) 29)).alloc (.cells #[.int .u64 0, .int .i64 0, .int .i64 0, .string ⟨#[]⟩, .int .u64 0, .int .u64 0, .int .i64 0, .string ⟨#[]⟩, .int .u64 0, .int .u64 0, .int .i64 0, .string ⟨#[]⟩, .int .u64 0, .int .u64 0, .int .u64 0, .int .u64 0, .int .u64 0, .int .u64 0, .int .u64 0, .slice none 0 0] 29)) = V at *
 obtain ⟨e, he⟩ := Later.self V
 rw [he]
 clear he
 obtain ⟨zc, hzc⟩ : ∃ zc, bunC p A k c = zc := ⟨_, rfl⟩
 have HZC : Hid (ZX zc) := hid (by rw [<- hzc]; exact ZX.mk' p A k c)
 have HZE := hid hzc
 have HBZ : Hid (Blk V w.heap.size 29 zc) := hid (by rw [<- hzc]; exact HB0.out)
 rw [show bunV p A k c = .agg zc by rw [<- hzc]] at KF
 clear hzc HB0
 have RB : ∀ e : Later V, Blk e.x w.heap.size 29 zc := fun e => HBZ.out.later e
 have tk1 : True := trivial
 go_upto_region 3 with (first | (clear tk1; refine wpList_row (by rfl) 29 _ rfl _ rfl (RB _) vqA rfl HZC.out.i ?_) | (go_at_call 42; refine (Ret.later (KF.out _ (HL.out.ext (Later.h _)))).mono ?_; rintro x _ ⟨rfl, e, rfl⟩))
 generalize hU : World.alloc e.x _ = U
 have HEU : Hid (Ext V U) := hid (by rw [<- hU]; exact e.h.alloc _)
 clear hU
 have HBU := hid (HBZ.out.ext HEU.out)
 have HRU := hid (HB1.out.ext HEU.out)
 have tk1 : True := trivial
 go_wp2_with (first | (clear tk1; refine wpList_row (by rfl) 29 _ rfl _ rfl HBU.out vqA rfl HZC.out.i ?_) | (refine wpList_store_mid rfl 29 _ _ rfl (w.heap.size + 1) 0 zc (by rfl) (by rfl) (HRU.out.there (by rw [HZC.out.s]; exact Nat.le_refl 20)) HZC.out.i HZC.out.o ?_))
 generalize hZ : World.setCells _ _ _ _ = Z
 have HZB : Hid (Blk Z (w.heap.size + 1) 29 zc) := hid (by rw [<- hZ]; exact setCells_all (ds := zc) HRU.out (by rw [Array.length_toList, HZC.out.s]; rfl))
 have HZX : Hid (Mod [(w.heap.size + 1)] U Z) := hid (by rw [<- hZ]; exact setCells_mod _ _ (Mod.refl _ _) (.inl (by simp)))
 clear hZ
 refine bodyPost_ret (v := .tuple #[.agg zc, .int .i64 0]) (results_cell2 Tryz.results36 _ rfl rfl HZB.out vqA rfl HZC.out.i) rfl ?_
 refine ⟨zc, A, c, HZE.out ▸ hid rfl, rfl, ((HE.out.trans HEU.out).of_ext.trans HZX.out).new (fun kk hkk => .inr (by simp at hkk; omega)), hid ?_⟩
 exact BsL.modX ((HL.out.ext HEU.out)) HZX.out (BsL.apartZ (HL.out.ext HEU.out) HRU.out K0.out)
set_option maxRecDepth 20000 in
set_option maxHeartbeats 4000000 in
theorem changed_some (p : PV) (bs : Nat -> BV) (k c : Nat) (A : Option Addr) (typ : Int) (g : FuncId) (cs : Array Value) (hnl : Hid (p.d.name.length < 4611686018427387904 /\ p.s.name.length < 4611686018427387904 /\ p.r.name.length < 4611686018427387904)) (hf : p.fl < 18446744073709551616) (eg : ∀ args w, (callFunc g args).run Tryz.prog w = .ok (.enter g args) w) (hk : k <= 1000) (k0 : 0 < k) (i : Nat) (hf1 : firstOf (tyB bs typ) k = some i) (hf2 : firstOf (numB bs (bs i).num) k = some i) (d : List UInt8) (hr : bunRight p (setP bs i d) k = 0) (w : World) (hc : ∀ W, Ext w W -> Calls Tryz.prog g (#[str (bs i).data] ++ cs) W (Ret (str d) W)) (h : BsL w A k bs) : Calls Tryz.prog 36 #[bunV p A k c, .int .i64 typ, .func (.func g) #[] cs] w (BunPost p (setP bs i d) k w) := by
 have KF : Hid (∀ W, BsL W A k bs -> Calls Tryz.prog 42 #[bunV p A k c, .int .i64 typ] W (Ret (.tuple #[(bs i).v, .bool true]) W)) := hid (fun W hW => by
  have h := Find_any p bs k c A typ (by omega) W hW
  unfold findV at h
  rw [hf1] at h
  exact h)
 obtain ⟨X, hX⟩ : ∃ X : BV, X = { bs i with data := d } := ⟨_, rfl⟩
 have eX : setAt bs i X = setP bs i d := by rw [hX]; rfl
 have KS : Hid (∀ W, BsL W A k bs -> Calls Tryz.prog 64 #[bunV p A k c, X.v] W (BunPost p (setP bs i d) k W)) := hid (fun W hW => (Set_some p bs k c A X hnl hf (by omega) i (by rw [hX]; exact hf2) W hW).mono fun e w' ⟨A', c', h1, h2, h3, _⟩ => by
  rw [eX] at h1 h3
  exact ⟨_, A', c', hid rfl, by rw [h1, hr, chkV_0 rfl], h2, hid h3⟩)
 have HC := hid hc
 have K0 := hid k0
 obtain ⟨x, hx⟩ : ∃ x : BV, x = bs i := ⟨_, rfl⟩
 rw [<- hx] at KF
 have HXE : Hid (BV.c X = (BV.c x).setIfInBounds 4 (str d)) := hid (by rw [hX, <- hx]; rfl)
 rw [<- hx] at HC
 have HE := hid (((Mod.refl [] w).alloc (.cells (bunC p A k c) 29)).alloc (.cells #[.int .u64 0, .int .i64 0, .int .i64 0, .string ⟨#[]⟩, .int .u64 0, .int .u64 0, .int .i64 0, .string ⟨#[]⟩, .int .u64 0, .int .u64 0, .int .i64 0, .string ⟨#[]⟩, .int .u64 0, .int .u64 0, .int .u64 0, .int .u64 0, .int .u64 0, .int .u64 0, .int .u64 0, .slice none 0 0] 29))
 have HB0 : Hid (Blk ((w.alloc (.cells (bunC p A k c) 29)).alloc (.cells #[.int .u64 0, .int .i64 0, .int .i64 0, .string ⟨#[]⟩, .int .u64 0, .int .u64 0, .int .i64 0, .string ⟨#[]⟩, .int .u64 0, .int .u64 0, .int .i64 0, .string ⟨#[]⟩, .int .u64 0, .int .u64 0, .int .u64 0, .int .u64 0, .int .u64 0, .int .u64 0, .int .u64 0, .slice none 0 0] 29)) w.heap.size 29 (bunC p A k c)) := hid ((Blk.new w 29 (bunC p A k c)).alloc (.cells #[.int .u64 0, .int .i64 0, .int .i64 0, .string ⟨#[]⟩, .int .u64 0, .int .u64 0, .int .i64 0, .string ⟨#[]⟩, .int .u64 0, .int .u64 0, .int .i64 0, .string ⟨#[]⟩, .int .u64 0, .int .u64 0, .int .u64 0, .int .u64 0, .int .u64 0, .int .u64 0, .int .u64 0, .slice none 0 0] 29))
 have HB1 : Hid (Blk ((w.alloc (.cells (bunC p A k c) 29)).alloc (.cells #[.int .u64 0, .int .i64 0, .int .i64 0, .string ⟨#[]⟩, .int .u64 0, .int .u64 0, .int .i64 0, .string ⟨#[]⟩, .int .u64 0, .int .u64 0, .int .i64 0, .string ⟨#[]⟩, .int .u64 0, .int .u64 0, .int .u64 0, .int .u64 0, .int .u64 0, .int .u64 0, .int .u64 0, .slice none 0 0] 29)) (w.heap.size + 1) 29 #[.int .u64 0, .int .i64 0, .int .i64 0, .string ⟨#[]⟩, .int .u64 0, .int .u64 0, .int .i64 0, .string ⟨#[]⟩, .int .u64 0, .int .u64 0, .int .i64 0, .string ⟨#[]⟩, .int .u64 0, .int .u64 0, .int .u64 0, .int .u64 0, .int .u64 0, .int .u64 0, .int .u64 0, .slice none 0 0]) := by unfold Hid; exact Blk.newL _ _ _ (by simp)
 have HL := hid (BsL.ext h HE.out)
 have HLW := hid h
 clear h hf1 hf2 hk hf hnl hr hX eX hx k0 hc
 go_enter Tryz.func36, Tryz.ntmps36
 go_upto_region 1 with fail
 generalize ((w.alloc (.cells (bunC p A k c) 29)).alloc (.cells #[.int .u64 0, .int .i64 0, .int .i64 0, .string ⟨#[]⟩, .int .u64 0, .int .u64 0, .int .i64 0, .string ⟨#[]⟩, .int .u64 0, .int .u64 0, .int .i64 0, .string ⟨#[]⟩, .int .u64 0, .int .u64 0, .int .u64 0, .int .u64 0, .int .u64 0, .int .u64 0, .int .u64 0, .slice none 0 0] 29)) = V at *
 obtain ⟨e, he⟩ := Later.self V
 rw [he]
 clear he
 have tk1 : True := trivial
 go_upto_region 4 with (first | (clear tk1; refine wpList_row (by rfl) 29 _ rfl _ rfl (HB0.out.later _) vqA rfl (by kernel_rfl) ?_) | (go_at_call 42; refine (Ret.later (KF.out _ (HL.out.ext (Later.h _)))).mono ?_; rintro x _ ⟨rfl, e, rfl⟩))
 generalize hU : World.alloc e.x _ = U
 have HEU : Hid (Ext V U) := hid (by rw [<- hU]; exact e.h.alloc _)
 have HXU : Hid (Blk U e.x.heap.size 38 (BV.c x)) := hid (by rw [<- hU]; exact Blk.new _ _ _)
 have HNX : Hid (w.heap.size + 1 < e.x.heap.size) := hid (by have h1 := HB1.out.lt; have h2 := e.h.size; omega)
 clear hU
 have HBU := hid (HB0.out.ext HEU.out)
 have HRU := hid (HB1.out.ext HEU.out)
 have HLU := hid (HL.out.ext HEU.out)
 have HWU := hid (HE.out.trans HEU.out)
 generalize e.x.heap.size = nx at *
 clear HB0 HB1 HL HE KF e
 obtain ⟨e, he⟩ := Later.self U
 rw [he]
 clear he
 have x4 : ∀ e : Later U, e.x.cell? ⟨nx, 4, none⟩ = some (str x.data) := HXU.out.cellL 4 rfl
 have x4f : ∀ e : Later U, e.x.frozen? ⟨nx, 4, none⟩ = false := fun e => (HXU.out.later e).frozen 4
 have KC := hid (fun e : Later U => HC.out e.x (HWU.out.trans e.h))
 go_upto_region 5 with (go_at_fn g; refine (Ret.later (KC.out _)).mono ?_; rintro y _ ⟨rfl, e, rfl⟩)
 generalize hY : World.setCell e.x _ _ = Y
 have HXY : Hid (Blk Y nx 38 (BV.c X)) := hid (by rw [<- hY, HXE.out]; exact (HXU.out.later e).set_ 4 (str d))
 have HNB : Hid (nx ≠ w.heap.size /\ nx ≠ (w.heap.size + 1)) := hid (by have h1 := HNX.out; constructor <;> omega)
 have HBY : Hid (Blk Y w.heap.size 29 (bunC p A k c)) := hid (by rw [<- hY]; exact (HBU.out.later e).far (by simpa using fun q => HNB.out.1 q.symm) _)
 have HRY : Hid (Blk Y (w.heap.size + 1) 29 #[.int .u64 0, .int .i64 0, .int .i64 0, .string ⟨#[]⟩, .int .u64 0, .int .u64 0, .int .i64 0, .string ⟨#[]⟩, .int .u64 0, .int .u64 0, .int .i64 0, .string ⟨#[]⟩, .int .u64 0, .int .u64 0, .int .u64 0, .int .u64 0, .int .u64 0, .int .u64 0, .int .u64 0, .slice none 0 0]) := hid (by rw [<- hY]; exact (HRU.out.later e).far (by simpa using fun q => HNB.out.2 q.symm) _)
 have HEY : Hid (Ext w Y) := hid (by rw [<- hY]; exact (HWU.out.trans e.h).setCell (.inr (by have h1 := HNX.out; simp; omega)) _)
 have HLY : Hid (BsL Y A k bs) := hid (fun hn => by
  obtain ⟨bb, oo, hA, hbl, hcc⟩ := HLU.out.ext e.h hn
  obtain ⟨b2, o2, hA2, hb2, _⟩ := HLW.out hn
  have e1 : bb = b2 := by rw [hA] at hA2; cases hA2; rfl
  rw [<- hY]
  exact ⟨bb, oo, hA, Nat.lt_of_lt_of_le hbl (by simp [World.setCell]), fun j hj => (hcc j hj).mod (S := [nx]) (Mod.setCell (Mod.refl _ _) (.inl (by simp)) _) hbl (by have h1 := HNX.out; simp; omega)⟩)
 clear hY HXU HBU HRU HLU HWU x4 x4f KC e
 obtain ⟨e, he⟩ := Later.self Y
 rw [he]
 clear he
 have tk1 : True := trivial
 have tk2 : True := trivial
 go_wp2_with (first | (clear tk1; refine wpList_row (by rfl) 29 _ rfl _ rfl (HBY.out.later _) vqA rfl (by kernel_rfl) ?_) | (clear tk2; refine wpList_row (by rfl) 38 _ rfl _ rfl (HXY.out.later _) vqI rfl (by kernel_rfl) ?_) | (go_at_call 64; refine (KS.out _ (HLY.out.ext (Later.h _))).mono ?_; rintro y w3 ⟨zc, A2, c2, hz, rfl, hb3, hL3⟩; have HZC : Hid (ZX zc) := hid (by rw [<- hz.out]; exact ZX.mk' p A2 k c2); have HE3 := hid (e.h.trans hb3); have HR3 := hid (HRY.out.ext (e.h.trans hb3)); have HZE := hid hz; clear hz hb3) | (refine wpList_store_mid rfl 29 _ _ rfl (w.heap.size + 1) 0 zc (by rfl) (by rfl) (HR3.out.there (by rw [HZC.out.s]; exact Nat.le_refl 20)) HZC.out.i HZC.out.o ?_))
 generalize hZ : World.setCells _ _ _ _ = Z
 have HZB : Hid (Blk Z (w.heap.size + 1) 29 zc) := hid (by rw [<- hZ]; exact setCells_all (ds := zc) HR3.out (by rw [Array.length_toList, HZC.out.s]; rfl))
 have HZX : Hid (Mod [(w.heap.size + 1)] w3 Z) := hid (by rw [<- hZ]; exact setCells_mod _ _ (Mod.refl _ _) (.inl (by simp)))
 clear hZ
 refine bodyPost_ret (v := .tuple #[.agg zc, .int .i64 0]) (results_cell2 Tryz.results36 _ rfl rfl HZB.out vqA rfl HZC.out.i) rfl ?_
 refine ⟨zc, A2, c2, HZE.out, rfl, ((HEY.out.trans HE3.out).of_ext.trans HZX.out).new (fun kk hkk => .inr (by simp at hkk; omega)), hid ?_⟩
 exact BsL.modX hL3.out HZX.out (BsL.apartZ hL3.out HR3.out K0.out)
section
open Go.Shelf
theorem entersX1 : ∀ args w, (callFunc 61 args).run Tryz.prog w = .ok (.enter 61 args) w := enters_of Tryz.func61 (by kernel_rfl) rfl
theorem entersX2 : ∀ args w, (callFunc 37 args).run Tryz.prog w = .ok (.enter 37 args) w := enters_of Tryz.func37 (by kernel_rfl) rfl
theorem entersX3 : ∀ args w, (callFunc 40 args).run Tryz.prog w = .ok (.enter 40 args) w := enters_of Tryz.func40 (by kernel_rfl) rfl
set_option maxRecDepth 20000 in
set_option maxHeartbeats 4000000 in
theorem sent_some (p : PV) (bs : Nat -> BV) (k c : Nat) (A : Option Addr) (hnl : Hid (p.d.name.length < 4611686018427387904 /\ p.s.name.length < 4611686018427387904 /\ p.r.name.length < 4611686018427387904)) (hf : p.fl < 18446744073709551616) (hk : k <= 1000) (k0 : 0 < k) (i : Nat) (hf1 : firstOf (tyB bs 6) k = some i) (hf2 : firstOf (numB bs (bs i).num) k = some i) (d : List UInt8) (hr : bunRight p (setP bs i d) k = 0) (w : World) (h : BsL w A k bs) : Calls Tryz.prog 34 #[bunV p A k c, str d] w (BunPost p (setP bs i d) k w) := by
 have KF : Hid (∀ W, BsL W A k bs -> Calls Tryz.prog 42 #[bunV p A k c, .int .i64 6] W (Ret (.tuple #[(bs i).v, .bool true]) W)) := hid (fun W hW => by
  have h := Find_any p bs k c A 6 (by omega) W hW
  unfold findV at h
  rw [hf1] at h
  exact h)
 have KC : Hid (∀ W q, BsL W A k bs -> Blk W q 9 #[str d] -> Calls Tryz.prog 36 #[bunV p A k c, .int .i64 6, .func (.func 61) #[] #[.pointer (some ⟨q, 0, none⟩)]] W (BunPost p (setP bs i d) k W)) := hid (fun W q hW hq => changed_some p bs k c A 6 _ _ hnl hf entersX1 hk k0 i hf1 hf2 d hr W (fun W' hW' => sent1_any _ d q W' (hq.ext hW')) hW)
 have K0 := hid k0
 obtain ⟨x, hx⟩ : ∃ x : BV, x = bs i := ⟨_, rfl⟩
 rw [<- hx] at KF
 have HE := hid ((((Mod.refl [] w).alloc (.cells (bunC p A k c) 29)).alloc (.cells #[str d] 9)).alloc (.cells #[.int .u64 0, .int .i64 0, .int .i64 0, .string ⟨#[]⟩, .int .u64 0, .int .u64 0, .int .i64 0, .string ⟨#[]⟩, .int .u64 0, .int .u64 0, .int .i64 0, .string ⟨#[]⟩, .int .u64 0, .int .u64 0, .int .u64 0, .int .u64 0, .int .u64 0, .int .u64 0, .int .u64 0, .slice none 0 0] 29))
 have HB0 : Hid (Blk (((w.alloc (.cells (bunC p A k c) 29)).alloc (.cells #[str d] 9)).alloc (.cells #[.int .u64 0, .int .i64 0, .int .i64 0, .string ⟨#[]⟩, .int .u64 0, .int .u64 0, .int .i64 0, .string ⟨#[]⟩, .int .u64 0, .int .u64 0, .int .i64 0, .string ⟨#[]⟩, .int .u64 0, .int .u64 0, .int .u64 0, .int .u64 0, .int .u64 0, .int .u64 0, .int .u64 0, .slice none 0 0] 29)) w.heap.size 29 (bunC p A k c)) := hid (((Blk.new w 29 (bunC p A k c)).alloc (.cells #[str d] 9)).alloc (.cells #[.int .u64 0, .int .i64 0, .int .i64 0, .string ⟨#[]⟩, .int .u64 0, .int .u64 0, .int .i64 0, .string ⟨#[]⟩, .int .u64 0, .int .u64 0, .int .i64 0, .string ⟨#[]⟩, .int .u64 0, .int .u64 0, .int .u64 0, .int .u64 0, .int .u64 0, .int .u64 0, .int .u64 0, .slice none 0 0] 29))
 have HB1 : Hid (Blk (((w.alloc (.cells (bunC p A k c) 29)).alloc (.cells #[str d] 9)).alloc (.cells #[.int .u64 0, .int .i64 0, .int .i64 0, .string ⟨#[]⟩, .int .u64 0, .int .u64 0, .int .i64 0, .string ⟨#[]⟩, .int .u64 0, .int .u64 0, .int .i64 0, .string ⟨#[]⟩, .int .u64 0, .int .u64 0, .int .u64 0, .int .u64 0, .int .u64 0, .int .u64 0, .int .u64 0, .slice none 0 0] 29)) (w.heap.size + 1) 9 #[str d]) := by unfold Hid; have := (Blk.newL (N := (w.heap.size + 1)) (w.alloc (.cells (bunC p A k c) 29)) 9 #[str d] (by simp)); exact (this.alloc (.cells #[.int .u64 0, .int .i64 0, .int .i64 0, .string ⟨#[]⟩, .int .u64 0, .int .u64 0, .int .i64 0, .string ⟨#[]⟩, .int .u64 0, .int .u64 0, .int .i64 0, .string ⟨#[]⟩, .int .u64 0, .int .u64 0, .int .u64 0, .int .u64 0, .int .u64 0, .int .u64 0, .int .u64 0, .slice none 0 0] 29))
 have HB2 : Hid (Blk (((w.alloc (.cells (bunC p A k c) 29)).alloc (.cells #[str d] 9)).alloc (.cells #[.int .u64 0, .int .i64 0, .int .i64 0, .string ⟨#[]⟩, .int .u64 0, .int .u64 0, .int .i64 0, .string ⟨#[]⟩, .int .u64 0, .int .u64 0, .int .i64 0, .string ⟨#[]⟩, .int .u64 0, .int .u64 0, .int .u64 0, .int .u64 0, .int .u64 0, .int .u64 0, .int .u64 0, .slice none 0 0] 29)) (w.heap.size + 1 + 1) 29 #[.int .u64 0, .int .i64 0, .int .i64 0, .string ⟨#[]⟩, .int .u64 0, .int .u64 0, .int .i64 0, .string ⟨#[]⟩, .int .u64 0, .int .u64 0, .int .i64 0, .string ⟨#[]⟩, .int .u64 0, .int .u64 0, .int .u64 0, .int .u64 0, .int .u64 0, .int .u64 0, .int .u64 0, .slice none 0 0]) := by unfold Hid; exact Blk.newL _ _ _ (by simp)
 have HL := hid (BsL.ext h HE.out)
 clear h hf1 hf2 hk hf hnl hr hx k0
 go_enter Tryz.func34, Tryz.ntmps34
 go_upto_region 1 with fail
 generalize (((w.alloc (.cells (bunC p A k c) 29)).alloc (.cells #[str d] 9)).alloc (.cells #[.int .u64 0, .int .i64 0, .int .i64 0, .string ⟨#[]⟩, .int .u64 0, .int .u64 0, .int .i64 0, .string ⟨#[]⟩, .int .u64 0, .int .u64 0, .int .i64 0, .string ⟨#[]⟩, .int .u64 0, .int .u64 0, .int .u64 0, .int .u64 0, .int .u64 0, .int .u64 0, .int .u64 0, .slice none 0 0] 29)) = V at *
 obtain ⟨e, he⟩ := Later.self V
 rw [he]
 clear he
 have tk1 : True := trivial
 go_upto_region 3 with (first | (clear tk1; refine wpList_row (by rfl) 29 _ rfl _ rfl (HB0.out.later _) vqA rfl (by kernel_rfl) ?_) | (go_at_call 42; refine (Ret.later (KF.out _ (HL.out.ext (Later.h _)))).mono ?_; rintro x _ ⟨rfl, e, rfl⟩))
 generalize hU : World.alloc e.x _ = U
 have HEU : Hid (Ext V U) := hid (by rw [<- hU]; exact e.h.alloc _)
 clear hU
 have HBU := hid (HB0.out.ext HEU.out)
 have HDU := hid (HB1.out.ext HEU.out)
 have HRU := hid (HB2.out.ext HEU.out)
 have HLU := hid (HL.out.ext HEU.out)
 have HWU := hid (HE.out.trans HEU.out)
 generalize e.x.heap.size = xb at *
 clear HB0 HB1 HB2 HL HE KF e
 obtain ⟨e, he⟩ := Later.self U
 rw [he]
 clear he
 have tk1 : True := trivial
 go_wp2_with (first | (clear tk1; refine wpList_row (by rfl) 29 _ rfl _ rfl (HBU.out.later _) vqA rfl (by kernel_rfl) ?_) | (go_at_call 36; refine (KC.out _ _ (HLU.out.ext (Later.h _)) (HDU.out.later _)).mono ?_; rintro y w3 ⟨zc, A2, c2, hz, rfl, hb3, hL3⟩; have HZC : Hid (ZX zc) := hid (by rw [<- hz.out]; exact ZX.mk' p A2 _ c2); have HE3 := hid (e.h.trans hb3); have HR3 := hid (HRU.out.ext (e.h.trans hb3)); have HZE := hid hz; clear hz hb3) | (refine wpList_store_mid rfl 29 _ _ rfl (w.heap.size + 1 + 1) 0 zc (by rfl) (by rfl) (HR3.out.there (by rw [HZC.out.s]; exact Nat.le_refl 20)) HZC.out.i HZC.out.o ?_))
 generalize hZ : World.setCells _ _ _ _ = Z
 have HZB : Hid (Blk Z (w.heap.size + 1 + 1) 29 zc) := hid (by rw [<- hZ]; exact setCells_all (ds := zc) HR3.out (by rw [Array.length_toList, HZC.out.s]; rfl))
 have HZX : Hid (Mod [(w.heap.size + 1 + 1)] w3 Z) := hid (by rw [<- hZ]; exact setCells_mod _ _ (Mod.refl _ _) (.inl (by simp)))
 clear hZ
 refine bodyPost_ret (v := .tuple #[.agg zc, .int .i64 0]) (results_cell2 Tryz.results34 _ rfl rfl HZB.out vqA rfl HZC.out.i) rfl ?_
 refine ⟨zc, A2, c2, HZE.out, rfl, ((HWU.out.trans HE3.out).of_ext.trans HZX.out).new (fun kk hkk => .inr (by simp at hkk; omega)), hid ?_⟩
 exact BsL.modX hL3.out HZX.out (BsL.apartZ hL3.out HR3.out K0.out)
set_option maxRecDepth 20000 in
set_option maxHeartbeats 4000000 in
theorem sent_none (p : PV) (bs : Nat -> BV) (k c : Nat) (A : Option Addr) (hnl : Hid (p.d.name.length < 4611686018427387904 /\ p.s.name.length < 4611686018427387904 /\ p.r.name.length < 4611686018427387904)) (hf : p.fl < 18446744073709551616) (hk : k <= 1000) (k0 : 0 < k) (hno : firstOf (tyB bs 6) k = none) (d : List UInt8) (X : BV) (hX : X = ⟨6, (freeN bs k : Int), 0, 0, d⟩) (hr : bunRight p (insP bs (k - 1) X) (k + 1) = 0) (w : World) (h : BsL w A k bs) : Calls Tryz.prog 34 #[bunV p A k c, str d] w (BunPost p (insP bs (k - 1) X) (k + 1) w) := by
 have KF : Hid (∀ W, BsL W A k bs -> Calls Tryz.prog 42 #[bunV p A k c, .int .i64 6] W (Ret (.tuple #[zeroB.v, .bool false]) W)) := hid (fun W hW => by
  have h := Find_any p bs k c A 6 (by omega) W hW
  unfold findV at h
  rw [hno] at h
  exact h)
 obtain ⟨N, hN⟩ : ∃ N, freeN bs k = N := ⟨_, rfl⟩
 have KR : Hid (∀ W, BsL W A k bs -> Calls Tryz.prog 63 #[bunV p A k c] W (Ret (.int .i64 (N : Int)) W)) := hid (fun W hW => by
  have h := Free_any p bs k c A (by omega) W hW
  rw [hN] at h
  exact h)
 have hXv : X.v = .agg #[.int .i64 6, .int .i64 (N : Int), .int .u64 0, .int .i64 0, str d] := by rw [hX, hN]; rfl
 have KS : Hid (∀ W, BsL W A k bs -> Calls Tryz.prog 62 #[bunV p A k c, .agg #[.int .i64 6, .int .i64 (N : Int), .int .u64 0, .int .i64 0, str d]] W (BunPost p (insP bs (k - 1) X) (k + 1) W)) := hid (fun W hW => by
  have h := Put_some p bs k c A X hnl hf k0 hk W hW
  rw [hXv] at h
  refine h.mono fun e w' ⟨A', c', h1, h2, h3, _⟩ => ?_
  have eI : insB bs (k - 1) X = insP bs (k - 1) X := rfl
  rw [eI] at h1 h3
  exact ⟨_, A', c', hid rfl, by rw [h1, hr, chkV_0 rfl], h2, hid h3⟩)
 have K0 : Hid (0 < k + 1) := hid (by omega)
 have KB := hid k0
 have HE := hid ((((Mod.refl [] w).alloc (.cells (bunC p A k c) 29)).alloc (.cells #[str d] 9)).alloc (.cells #[.int .u64 0, .int .i64 0, .int .i64 0, .string ⟨#[]⟩, .int .u64 0, .int .u64 0, .int .i64 0, .string ⟨#[]⟩, .int .u64 0, .int .u64 0, .int .i64 0, .string ⟨#[]⟩, .int .u64 0, .int .u64 0, .int .u64 0, .int .u64 0, .int .u64 0, .int .u64 0, .int .u64 0, .slice none 0 0] 29))
 have HB0 : Hid (Blk (((w.alloc (.cells (bunC p A k c) 29)).alloc (.cells #[str d] 9)).alloc (.cells #[.int .u64 0, .int .i64 0, .int .i64 0, .string ⟨#[]⟩, .int .u64 0, .int .u64 0, .int .i64 0, .string ⟨#[]⟩, .int .u64 0, .int .u64 0, .int .i64 0, .string ⟨#[]⟩, .int .u64 0, .int .u64 0, .int .u64 0, .int .u64 0, .int .u64 0, .int .u64 0, .int .u64 0, .slice none 0 0] 29)) w.heap.size 29 (bunC p A k c)) := hid (((Blk.new w 29 (bunC p A k c)).alloc (.cells #[str d] 9)).alloc (.cells #[.int .u64 0, .int .i64 0, .int .i64 0, .string ⟨#[]⟩, .int .u64 0, .int .u64 0, .int .i64 0, .string ⟨#[]⟩, .int .u64 0, .int .u64 0, .int .i64 0, .string ⟨#[]⟩, .int .u64 0, .int .u64 0, .int .u64 0, .int .u64 0, .int .u64 0, .int .u64 0, .int .u64 0, .slice none 0 0] 29))
 have HB1 : Hid (Blk (((w.alloc (.cells (bunC p A k c) 29)).alloc (.cells #[str d] 9)).alloc (.cells #[.int .u64 0, .int .i64 0, .int .i64 0, .string ⟨#[]⟩, .int .u64 0, .int .u64 0, .int .i64 0, .string ⟨#[]⟩, .int .u64 0, .int .u64 0, .int .i64 0, .string ⟨#[]⟩, .int .u64 0, .int .u64 0, .int .u64 0, .int .u64 0, .int .u64 0, .int .u64 0, .int .u64 0, .slice none 0 0] 29)) (w.heap.size + 1) 9 #[str d]) := by unfold Hid; have := (Blk.newL (N := (w.heap.size + 1)) (w.alloc (.cells (bunC p A k c) 29)) 9 #[str d] (by simp)); exact (this.alloc (.cells #[.int .u64 0, .int .i64 0, .int .i64 0, .string ⟨#[]⟩, .int .u64 0, .int .u64 0, .int .i64 0, .string ⟨#[]⟩, .int .u64 0, .int .u64 0, .int .i64 0, .string ⟨#[]⟩, .int .u64 0, .int .u64 0, .int .u64 0, .int .u64 0, .int .u64 0, .int .u64 0, .int .u64 0, .slice none 0 0] 29))
 have HB2 : Hid (Blk (((w.alloc (.cells (bunC p A k c) 29)).alloc (.cells #[str d] 9)).alloc (.cells #[.int .u64 0, .int .i64 0, .int .i64 0, .string ⟨#[]⟩, .int .u64 0, .int .u64 0, .int .i64 0, .string ⟨#[]⟩, .int .u64 0, .int .u64 0, .int .i64 0, .string ⟨#[]⟩, .int .u64 0, .int .u64 0, .int .u64 0, .int .u64 0, .int .u64 0, .int .u64 0, .int .u64 0, .slice none 0 0] 29)) (w.heap.size + 1 + 1) 29 #[.int .u64 0, .int .i64 0, .int .i64 0, .string ⟨#[]⟩, .int .u64 0, .int .u64 0, .int .i64 0, .string ⟨#[]⟩, .int .u64 0, .int .u64 0, .int .i64 0, .string ⟨#[]⟩, .int .u64 0, .int .u64 0, .int .u64 0, .int .u64 0, .int .u64 0, .int .u64 0, .int .u64 0, .slice none 0 0]) := by unfold Hid; exact Blk.newL _ _ _ (by simp)
 have HL := hid (BsL.ext h HE.out)
 clear h hno hk hf hnl hr hX k0 hXv hN
 go_enter Tryz.func34, Tryz.ntmps34
 go_upto_region 1 with fail
 generalize (((w.alloc (.cells (bunC p A k c) 29)).alloc (.cells #[str d] 9)).alloc (.cells #[.int .u64 0, .int .i64 0, .int .i64 0, .string ⟨#[]⟩, .int .u64 0, .int .u64 0, .int .i64 0, .string ⟨#[]⟩, .int .u64 0, .int .u64 0, .int .i64 0, .string ⟨#[]⟩, .int .u64 0, .int .u64 0, .int .u64 0, .int .u64 0, .int .u64 0, .int .u64 0, .int .u64 0, .slice none 0 0] 29)) = V at *
 obtain ⟨e, he⟩ := Later.self V
 rw [he]
 clear he
 have tk1 : True := trivial
 go_upto_region 4 with (first | (clear tk1; refine wpList_row (by rfl) 29 _ rfl _ rfl (HB0.out.later _) vqA rfl (by kernel_rfl) ?_) | (go_at_call 42; refine (Ret.later (KF.out _ (HL.out.ext (Later.h _)))).mono ?_; rintro x _ ⟨rfl, e, rfl⟩))
 generalize hU : World.alloc e.x _ = U
 have HEU : Hid (Ext V U) := hid (by rw [<- hU]; exact e.h.alloc _)
 clear hU
 have HBU := hid (HB0.out.ext HEU.out)
 have HDU := hid (HB1.out.ext HEU.out)
 have HRU := hid (HB2.out.ext HEU.out)
 have HLU := hid (HL.out.ext HEU.out)
 have HWU := hid (HE.out.trans HEU.out)
 generalize e.x.heap.size = xb at *
 clear HB0 HB1 HB2 HL HE KF e
 have HLM : Hid (∀ W, Mod [(w.heap.size + 1 + 1)] U W -> BsL W A k bs) := hid (fun W hW => BsL.modX HLU.out hW (BsL.apartZ HLU.out HRU.out (by have := KB.out; omega)))
 have HBM : Hid (∀ W, Mod [(w.heap.size + 1 + 1)] U W -> Blk W w.heap.size 29 (bunC p A k c)) := hid (fun W hW => HBU.out.mod hW (by simp; omega))
 have HDM : Hid (∀ W, Mod [(w.heap.size + 1 + 1)] U W -> W.cell? ⟨w.heap.size + 1, 0, none⟩ = some (str d)) := hid (fun W hW => (HDU.out.mod hW (by simp)).cell 0)
 refine wp_region_held_drew (S := Mod [(w.heap.size + 1 + 1)] U) (by kernel_rfl) (Mod.refl _ _).drew (fun hHeld => ?_)
 have hX0 : Ext U U.drew := (Mod.refl _ _).drew
 generalize U.drew = y0 at *
 refine wpAnyH_take (i := 0) rfl (by kernel_rfl) (by kernel_rfl) (by kernel_rfl) (fun _ _ _ h => h) (yieldsIf_row (by rfl) 29 _ rfl _ rfl (fun W hM => HBM.out W hM) vqA rfl (by kernel_rfl)) hHeld ?_
 (try simp only [Act.put, gTl, g0l, gSl, sTl, s0l, sSl])
 refine wpAnyH_take (i := 1) rfl (by kernel_rfl) (by kernel_rfl) (by kernel_rfl) (fun _ _ _ h => h) (yieldsIf_row (by rfl) 29 _ rfl _ rfl (fun W hM => HBM.out W hM) vqA rfl (by kernel_rfl)) hHeld ?_
 (try simp only [Act.put, gTl, g0l, gSl, sTl, s0l, sSl])
 refine' wpAnyH_take (i := 3) (v := _) rfl (by kernel_rfl) (by kernel_rfl) (by kernel_rfl) (fun _ _ _ h => h) (Or.inl ⟨by rfl, ?hy1⟩) hHeld ?rest1
 case hy1 => (rintro W hM; have c0 := HDM.out W hM; go_simp; (try with_reducible rfl))
 case rest1 =>
 (try simp only [Act.put, gTl, g0l, gSl, sTl, s0l, sSl])
 refine wpAnyH_ready (rs := [2]) (by kernel_rfl) (by simp) ?_
 refine AllReadyH.cons rfl (fun K hK => ?_) AllReadyH.nil
 go_simp
 go_at_call 63
 refine (KR.out _ (HLM.out _ hHeld)).mono ?_
 rintro x y1 ⟨rfl, hb⟩
 have hX1 := hX0.trans hb
 refine hK.out _ _ (hHeld.trans (Mod.of_ext hb)) (fun hHeld => ?_)
 clear hK K
 (try simp only [Act.put, gTl, g0l, gSl, sTl, s0l, sSl])
 refine' wpAnyH_take (i := 4) (v := _) rfl (by kernel_rfl) (by kernel_rfl) (by kernel_rfl) (fun _ _ _ h => h) (Or.inl ⟨by rfl, ?hy2⟩) hHeld ?rest2
 case hy2 => (rintro W hM; go_simp; (try with_reducible rfl))
 case rest2 =>
 (try simp only [Act.put, gTl, g0l, gSl, sTl, s0l, sSl])
 refine wpAnyH_ready (rs := [5]) (by kernel_rfl) (by simp) ?_
 refine AllReadyH.cons rfl (fun K hK => ?_) AllReadyH.nil
 go_simp
 go_at_call 62
 refine (KS.out _ (HLM.out _ hHeld)).mono ?_
 rintro x w3 ⟨zc, A2, c2, hz, rfl, hb3, hL3⟩
 have HZC : Hid (ZX zc) := hid (by rw [<- hz.out]; exact ZX.mk' p A2 _ c2)
 have HE3 := hid (hX1.trans hb3)
 have HR3 := hid (HRU.out.ext (hX1.trans hb3))
 have HZE := hid hz
 clear hz
 refine hK.out _ _ (hHeld.trans (Mod.of_ext hb3)) (fun hHeld => ?_)
 clear hK K
 (try simp only [Act.put, gTl, g0l, gSl, sTl, s0l, sSl])
 refine' wpAnyH_take (i := 6) (v := _) rfl (by kernel_rfl) (by kernel_rfl) (by kernel_rfl) (fun _ _ _ h => h) (Or.inl ⟨by rfl, ?hy3⟩) hHeld ?rest3
 case hy3 => (rintro W hM; go_simp; (try with_reducible rfl))
 case rest3 =>
 (try simp only [Act.put, gTl, g0l, gSl, sTl, s0l, sSl])
 refine' wpAnyH_take (i := 7) (v := _) rfl (by kernel_rfl) (by kernel_rfl) (by kernel_rfl) (fun _ _ _ h => h) (Or.inl ⟨by rfl, ?hy4⟩) hHeld ?rest4
 case hy4 => (rintro W hM; go_simp; (try with_reducible rfl))
 case rest4 =>
 (try simp only [Act.put, gTl, g0l, gSl, sTl, s0l, sSl])
 refine wpAnyH_ready (rs := [8]) (by kernel_rfl) (by simp) ?_
 refine AllReadyH.cons rfl (fun K hK => ?_) AllReadyH.nil
 refine wp_store_mid 29 _ _ rfl (w.heap.size + 1 + 1) 0 zc (by rfl) (by rfl) (HR3.out.there (by rw [HZC.out.s]; exact Nat.le_refl 20)) HZC.out.i HZC.out.o ?_
 have hZM := setCells_mod (b := (w.heap.size + 1 + 1)) zc.toList 0 hHeld (.inl (by simp))
 generalize hZ : World.setCells _ _ _ _ = Z at *
 have HZB : Hid (Blk Z (w.heap.size + 1 + 1) 29 zc) := hid (by rw [<- hZ]; exact setCells_all (ds := zc) HR3.out (by rw [Array.length_toList, HZC.out.s]; rfl))
 have HZX : Hid (Mod [(w.heap.size + 1 + 1)] w3 Z) := hid (by rw [<- hZ]; exact setCells_mod _ _ (Mod.refl _ _) (.inl (by simp)))
 clear hZ
 refine hK.out _ _ hZM (fun hHeld => ?_)
 clear hK K
 refine wpAnyH_ready (rs := [9]) (by kernel_rfl) (by simp) ?_
 refine AllReadyH.cons rfl (fun K hK => ?_) AllReadyH.nil
 go_simp
 refine hK.out _ _ hHeld (fun hHeld => ?_)
 clear hK K
 (try simp only [Act.put, gTl, g0l, gSl, sTl, s0l, sSl])
 refine wpAnyH_done (by kernel_rfl) ?_ _
 go_wp2_with fail
 refine bodyPost_ret (v := .tuple #[.agg zc, .int .i64 0]) (results_cell2 Tryz.results34 _ rfl rfl HZB.out vqA rfl HZC.out.i) rfl ?_
 refine ⟨zc, A2, c2, HZE.out, rfl, ((HWU.out.trans HE3.out).of_ext.trans HZX.out).new (fun kk hkk => .inr (by simp at hkk; omega)), hid ?_⟩
 exact BsL.modX hL3.out HZX.out (BsL.apartZ hL3.out HR3.out K0.out)
theorem sent_any (p : PV) (bs : Nat -> BV) (k c : Nat) (A : Option Addr) (hnl : Hid (p.d.name.length < 4611686018427387904 /\ p.s.name.length < 4611686018427387904 /\ p.r.name.length < 4611686018427387904)) (hf : p.fl < 18446744073709551616) (hk : k <= 999) (k0 : 0 < k) (hd : dupB bs k = false) (d : List UInt8) (hr : bunRight p (sentF bs k d) (sentK bs k) = 0) (w : World) (h : BsL w A k bs) : Calls Tryz.prog 34 #[bunV p A k c, str d] w (BunPost p (sentF bs k d) (sentK bs k) w) := by
 cases hf1 : firstOf (tyB bs 6) k with
 | some i =>
  have eF : sentF bs k d = setP bs i d := by unfold sentF; rw [hf1]
  have eK : sentK bs k = k := by unfold sentK; rw [hf1]
  rw [eF, eK] at hr ⊢
  exact sent_some p bs k c A hnl hf (by omega) k0 i hf1 (num_first hd (firstOf_spec hf1).1) d hr w h
 | none =>
  have eF : sentF bs k d = insP bs (k - 1) ⟨6, (freeN bs k : Int), 0, 0, d⟩ := by unfold sentF; rw [hf1]
  have eK : sentK bs k = k + 1 := by unfold sentK; rw [hf1]
  rw [eF, eK] at hr ⊢
  exact sent_none p bs k c A hnl hf (by omega) k0 hf1 d _ rfl hr w h
theorem aged_any (p : PV) (bs : Nat -> BV) (k c : Nat) (A : Option Addr) (hnl : Hid (p.d.name.length < 4611686018427387904 /\ p.s.name.length < 4611686018427387904 /\ p.r.name.length < 4611686018427387904)) (hf : p.fl < 18446744073709551616) (hk : k <= 1000) (k0 : 0 < k) (hd : dupB bs k = false) (hl : ∀ i, i < k -> (bs i).data.length <= 100000) (ms : Nat) (hm : ms < 18446744073709551616) (ha : ∀ i, firstOf (tyB bs 7) k = some i -> ∃ n, ageO (bs i).data = some n /\ n <= 1099511627776) (hr : bunRight p (agedF bs k ms) k = 0) (w : World) (h : BsL w A k bs) (q : Nat) (t : TypeId) (hq : Blk w q t #[.int .u64 (ms : Int)]) : Calls Tryz.prog 36 #[bunV p A k c, .int .i64 7, .func (.func 37) #[] #[.pointer (some ⟨q, 0, none⟩)]] w (BunPost p (agedF bs k ms) k w) := by
 cases hf1 : firstOf (tyB bs 7) k with
 | some i =>
  obtain ⟨n, hn, hn2⟩ := ha i hf1
  have eF : agedF bs k ms = setP bs i (headL 0 (oldN n ms)) := by unfold agedF; rw [hf1]; dsimp only; rw [hn]; rfl
  rw [eF] at hr ⊢
  exact changed_some p bs k c A 7 _ _ hnl hf entersX2 hk k0 i hf1 (num_first hd (firstOf_spec hf1).1) _ hr w (fun W hW => step21_any _ n ms q (by have := hl i (firstOf_spec hf1).1; omega) hn hn2 hm W (hq.ext hW)) h
 | none =>
  have eF : agedF bs k ms = bs := by unfold agedF; rw [hf1]
  rw [eF]
  exact changed_none p bs k c A 7 _ _ (by omega) k0 hf1 w h
theorem hopped_any (p : PV) (bs : Nat -> BV) (k c : Nat) (A : Option Addr) (hnl : Hid (p.d.name.length < 4611686018427387904 /\ p.s.name.length < 4611686018427387904 /\ p.r.name.length < 4611686018427387904)) (hf : p.fl < 18446744073709551616) (hk : k <= 1000) (k0 : 0 < k) (hd : dupB bs k = false) (hl : ∀ i, i < k -> (bs i).data.length <= 100000) (ha : ∀ i, firstOf (tyB bs 10) k = some i -> ∃ l c, hopsO (bs i).data = some (l, c) /\ mayB l ((c + 1 : Nat) : Int) = true) (hr : bunRight p (hopF bs k) k = 0) (w : World) (h : BsL w A k bs) : Calls Tryz.prog 36 #[bunV p A k c, .int .i64 10, .func (.func 40) #[] #[]] w (BunPost p (hopF bs k) k w) := by
 cases hf1 : firstOf (tyB bs 10) k with
 | some i =>
  obtain ⟨l, c2, hn, hm⟩ := ha i hf1
  have eF : hopF bs k = setP bs i (130 :: (headL 0 l ++ headL 0 (c2 + 1))) := by unfold hopF; rw [hf1]; dsimp only; rw [hn]; rfl
  rw [eF] at hr ⊢
  exact changed_some p bs k c A 10 _ _ hnl hf entersX3 hk k0 i hf1 (num_first hd (firstOf_spec hf1).1) _ hr w (fun W hW => step31_any _ l c2 (by have := hl i (firstOf_spec hf1).1; omega) hn hm W) h
 | none =>
  have eF : hopF bs k = bs := by unfold hopF; rw [hf1]
  rw [eF]
  exact changed_none p bs k c A 10 _ _ (by omega) k0 hf1 w h
set_option maxRecDepth 20000 in
set_option maxHeartbeats 4000000 in
theorem stepA_any (p : PV) (bs : Nat -> BV) (k c : Nat) (A : Option Addr) (K : Nat) (B : Nat -> BV) (K0 : Hid (0 < K)) (d : List UInt8) (q : Nat) (t : TypeId) (w : World) (h : BsL w A k bs) (hq : Blk w q t #[str d]) (KC : Hid (∀ W, BsL W A k bs -> Blk W q t #[str d] -> Calls Tryz.prog 34 #[bunV p A k c, str d] W (BunPost p B K W))) : Calls Tryz.prog 33 #[bunV p A k c, .pointer (some ⟨q, 0, none⟩)] w (BunPost p B K w) := by
 have HQ := hid hq
 clear hq
 have HE := hid (((Mod.refl [] w).alloc (.cells (bunC p A k c) 29)).alloc (.cells #[.int .u64 0, .int .i64 0, .int .i64 0, .string ⟨#[]⟩, .int .u64 0, .int .u64 0, .int .i64 0, .string ⟨#[]⟩, .int .u64 0, .int .u64 0, .int .i64 0, .string ⟨#[]⟩, .int .u64 0, .int .u64 0, .int .u64 0, .int .u64 0, .int .u64 0, .int .u64 0, .int .u64 0, .slice none 0 0] 29))
 have HB0 : Hid (Blk ((w.alloc (.cells (bunC p A k c) 29)).alloc (.cells #[.int .u64 0, .int .i64 0, .int .i64 0, .string ⟨#[]⟩, .int .u64 0, .int .u64 0, .int .i64 0, .string ⟨#[]⟩, .int .u64 0, .int .u64 0, .int .i64 0, .string ⟨#[]⟩, .int .u64 0, .int .u64 0, .int .u64 0, .int .u64 0, .int .u64 0, .int .u64 0, .int .u64 0, .slice none 0 0] 29)) w.heap.size 29 (bunC p A k c)) := hid ((Blk.new w 29 (bunC p A k c)).alloc (.cells #[.int .u64 0, .int .i64 0, .int .i64 0, .string ⟨#[]⟩, .int .u64 0, .int .u64 0, .int .i64 0, .string ⟨#[]⟩, .int .u64 0, .int .u64 0, .int .i64 0, .string ⟨#[]⟩, .int .u64 0, .int .u64 0, .int .u64 0, .int .u64 0, .int .u64 0, .int .u64 0, .int .u64 0, .slice none 0 0] 29))
 have HB1 : Hid (Blk ((w.alloc (.cells (bunC p A k c) 29)).alloc (.cells #[.int .u64 0, .int .i64 0, .int .i64 0, .string ⟨#[]⟩, .int .u64 0, .int .u64 0, .int .i64 0, .string ⟨#[]⟩, .int .u64 0, .int .u64 0, .int .i64 0, .string ⟨#[]⟩, .int .u64 0, .int .u64 0, .int .u64 0, .int .u64 0, .int .u64 0, .int .u64 0, .int .u64 0, .slice none 0 0] 29)) (w.heap.size + 1) 29 #[.int .u64 0, .int .i64 0, .int .i64 0, .string ⟨#[]⟩, .int .u64 0, .int .u64 0, .int .i64 0, .string ⟨#[]⟩, .int .u64 0, .int .u64 0, .int .i64 0, .string ⟨#[]⟩, .int .u64 0, .int .u64 0, .int .u64 0, .int .u64 0, .int .u64 0, .int .u64 0, .int .u64 0, .slice none 0 0]) := by unfold Hid; exact Blk.newL _ _ _ (by simp)
 have HL := hid (BsL.ext h HE.out)
 clear h
 have HQ := hid (HQ.out.ext HE.out)
 go_enter Tryz.func33, Tryz.ntmps33
 go_upto_region 1 with fail
 generalize ((w.alloc (.cells (bunC p A k c) 29)).alloc (.cells #[.int .u64 0, .int .i64 0, .int .i64 0, .string ⟨#[]⟩, .int .u64 0, .int .u64 0, .int .i64 0, .string ⟨#[]⟩, .int .u64 0, .int .u64 0, .int .i64 0, .string ⟨#[]⟩, .int .u64 0, .int .u64 0, .int .u64 0, .int .u64 0, .int .u64 0, .int .u64 0, .int .u64 0, .slice none 0 0] 29)) = V at *
 obtain ⟨e, he⟩ := Later.self V
 rw [he]
 clear he
 have q0 : ∀ e : Later V, e.x.cell? ⟨q, 0, none⟩ = some (str d) := HQ.out.cellL 0 rfl
 have tk1 : True := trivial
 go_wp2_with (first | (clear tk1; refine wpList_row (by rfl) 29 _ rfl _ rfl (HB0.out.later _) vqA rfl (by kernel_rfl) ?_) | (go_at_call 34; refine (KC.out _ (HL.out.ext (Later.h _)) (HQ.out.later _)).mono ?_; rintro y w3 ⟨zc, A2, c2, hz, rfl, hb3, hL3⟩; have HZC : Hid (ZX zc) := hid (by rw [<- hz.out]; exact ZX.mk' p A2 _ c2); have HE3 := hid (e.h.trans hb3); have HR3 := hid (HB1.out.ext (e.h.trans hb3)); have HZE := hid hz; clear hz hb3) | (refine wpList_store_mid rfl 29 _ _ rfl (w.heap.size + 1) 0 zc (by rfl) (by rfl) (HR3.out.there (by rw [HZC.out.s]; exact Nat.le_refl 20)) HZC.out.i HZC.out.o ?_))
 generalize hZ : World.setCells _ _ _ _ = Z
 have HZB : Hid (Blk Z (w.heap.size + 1) 29 zc) := hid (by rw [<- hZ]; exact setCells_all (ds := zc) HR3.out (by rw [Array.length_toList, HZC.out.s]; rfl))
 have HZX : Hid (Mod [(w.heap.size + 1)] w3 Z) := hid (by rw [<- hZ]; exact setCells_mod _ _ (Mod.refl _ _) (.inl (by simp)))
 clear hZ
 refine bodyPost_ret (v := .tuple #[.agg zc, .int .i64 0]) (results_cell2 Tryz.results33 _ rfl rfl HZB.out vqA rfl HZC.out.i) rfl ?_
 refine ⟨zc, A2, c2, HZE.out, rfl, ((HE.out.trans HE3.out).of_ext.trans HZX.out).new (fun kk hkk => .inr (by simp at hkk; omega)), hid ?_⟩
 exact BsL.modX hL3.out HZX.out (BsL.apartZ hL3.out HR3.out K0.out)
set_option maxRecDepth 20000 in
set_option maxHeartbeats 4000000 in
theorem stepB_any (p : PV) (bs : Nat -> BV) (k c : Nat) (A : Option Addr) (K : Nat) (B : Nat -> BV) (K0 : Hid (0 < K)) (ms : Nat) (q : Nat) (t : TypeId) (w : World) (h : BsL w A k bs) (hq : Blk w q t #[.int .u64 (ms : Int)]) (KC : Hid (∀ W, BsL W A k bs -> Blk W q t #[.int .u64 (ms : Int)] -> Calls Tryz.prog 36 #[bunV p A k c, .int .i64 7, .func (.func 37) #[] #[.pointer (some ⟨q, 0, none⟩)]] W (BunPost p B K W))) : Calls Tryz.prog 35 #[bunV p A k c, .pointer (some ⟨q, 0, none⟩)] w (BunPost p B K w) := by
 have HQ := hid hq
 clear hq
 have HE := hid (((Mod.refl [] w).alloc (.cells (bunC p A k c) 29)).alloc (.cells #[.int .u64 0, .int .i64 0, .int .i64 0, .string ⟨#[]⟩, .int .u64 0, .int .u64 0, .int .i64 0, .string ⟨#[]⟩, .int .u64 0, .int .u64 0, .int .i64 0, .string ⟨#[]⟩, .int .u64 0, .int .u64 0, .int .u64 0, .int .u64 0, .int .u64 0, .int .u64 0, .int .u64 0, .slice none 0 0] 29))
 have HB0 : Hid (Blk ((w.alloc (.cells (bunC p A k c) 29)).alloc (.cells #[.int .u64 0, .int .i64 0, .int .i64 0, .string ⟨#[]⟩, .int .u64 0, .int .u64 0, .int .i64 0, .string ⟨#[]⟩, .int .u64 0, .int .u64 0, .int .i64 0, .string ⟨#[]⟩, .int .u64 0, .int .u64 0, .int .u64 0, .int .u64 0, .int .u64 0, .int .u64 0, .int .u64 0, .slice none 0 0] 29)) w.heap.size 29 (bunC p A k c)) := hid ((Blk.new w 29 (bunC p A k c)).alloc (.cells #[.int .u64 0, .int .i64 0, .int .i64 0, .string ⟨#[]⟩, .int .u64 0, .int .u64 0, .int .i64 0, .string ⟨#[]⟩, .int .u64 0, .int .u64 0, .int .i64 0, .string ⟨#[]⟩, .int .u64 0, .int .u64 0, .int .u64 0, .int .u64 0, .int .u64 0, .int .u64 0, .int .u64 0, .slice none 0 0] 29))
 have HB1 : Hid (Blk ((w.alloc (.cells (bunC p A k c) 29)).alloc (.cells #[.int .u64 0, .int .i64 0, .int .i64 0, .string ⟨#[]⟩, .int .u64 0, .int .u64 0, .int .i64 0, .string ⟨#[]⟩, .int .u64 0, .int .u64 0, .int .i64 0, .string ⟨#[]⟩, .int .u64 0, .int .u64 0, .int .u64 0, .int .u64 0, .int .u64 0, .int .u64 0, .int .u64 0, .slice none 0 0] 29)) (w.heap.size + 1) 29 #[.int .u64 0, .int .i64 0, .int .i64 0, .string ⟨#[]⟩, .int .u64 0, .int .u64 0, .int .i64 0, .string ⟨#[]⟩, .int .u64 0, .int .u64 0, .int .i64 0, .string ⟨#[]⟩, .int .u64 0, .int .u64 0, .int .u64 0, .int .u64 0, .int .u64 0, .int .u64 0, .int .u64 0, .slice none 0 0]) := by unfold Hid; exact Blk.newL _ _ _ (by simp)
 have HL := hid (BsL.ext h HE.out)
 clear h
 have HQ := hid (HQ.out.ext HE.out)
 go_enter Tryz.func35, Tryz.ntmps35
 go_upto_region 1 with fail
 generalize ((w.alloc (.cells (bunC p A k c) 29)).alloc (.cells #[.int .u64 0, .int .i64 0, .int .i64 0, .string ⟨#[]⟩, .int .u64 0, .int .u64 0, .int .i64 0, .string ⟨#[]⟩, .int .u64 0, .int .u64 0, .int .i64 0, .string ⟨#[]⟩, .int .u64 0, .int .u64 0, .int .u64 0, .int .u64 0, .int .u64 0, .int .u64 0, .int .u64 0, .slice none 0 0] 29)) = V at *
 obtain ⟨e, he⟩ := Later.self V
 rw [he]
 clear he
 have tk1 : True := trivial
 go_wp2_with (first | (clear tk1; refine wpList_row (by rfl) 29 _ rfl _ rfl (HB0.out.later _) vqA rfl (by kernel_rfl) ?_) | (go_at_call 36; refine (KC.out _ (HL.out.ext (Later.h _)) (HQ.out.later _)).mono ?_; rintro y w3 ⟨zc, A2, c2, hz, rfl, hb3, hL3⟩; have HZC : Hid (ZX zc) := hid (by rw [<- hz.out]; exact ZX.mk' p A2 _ c2); have HE3 := hid (e.h.trans hb3); have HR3 := hid (HB1.out.ext (e.h.trans hb3)); have HZE := hid hz; clear hz hb3) | (refine wpList_store_mid rfl 29 _ _ rfl (w.heap.size + 1) 0 zc (by rfl) (by rfl) (HR3.out.there (by rw [HZC.out.s]; exact Nat.le_refl 20)) HZC.out.i HZC.out.o ?_))
 generalize hZ : World.setCells _ _ _ _ = Z
 have HZB : Hid (Blk Z (w.heap.size + 1) 29 zc) := hid (by rw [<- hZ]; exact setCells_all (ds := zc) HR3.out (by rw [Array.length_toList, HZC.out.s]; rfl))
 have HZX : Hid (Mod [(w.heap.size + 1)] w3 Z) := hid (by rw [<- hZ]; exact setCells_mod _ _ (Mod.refl _ _) (.inl (by simp)))
 clear hZ
 refine bodyPost_ret (v := .tuple #[.agg zc, .int .i64 0]) (results_cell2 Tryz.results35 _ rfl rfl HZB.out vqA rfl HZC.out.i) rfl ?_
 refine ⟨zc, A2, c2, HZE.out, rfl, ((HE.out.trans HE3.out).of_ext.trans HZX.out).new (fun kk hkk => .inr (by simp at hkk; omega)), hid ?_⟩
 exact BsL.modX hL3.out HZX.out (BsL.apartZ hL3.out HR3.out K0.out)
set_option maxRecDepth 20000 in
set_option maxHeartbeats 4000000 in
theorem stepC_any (p : PV) (bs : Nat -> BV) (k c : Nat) (A : Option Addr) (K : Nat) (B : Nat -> BV) (K0 : Hid (0 < K))  (w : World) (h : BsL w A k bs) (KC : Hid (∀ W, BsL W A k bs -> Calls Tryz.prog 36 #[bunV p A k c, .int .i64 10, .func (.func 40) #[] #[]] W (BunPost p B K W))) : Calls Tryz.prog 39 #[bunV p A k c] w (BunPost p B K w) := by
 have HE := hid (((Mod.refl [] w).alloc (.cells (bunC p A k c) 29)).alloc (.cells #[.int .u64 0, .int .i64 0, .int .i64 0, .string ⟨#[]⟩, .int .u64 0, .int .u64 0, .int .i64 0, .string ⟨#[]⟩, .int .u64 0, .int .u64 0, .int .i64 0, .string ⟨#[]⟩, .int .u64 0, .int .u64 0, .int .u64 0, .int .u64 0, .int .u64 0, .int .u64 0, .int .u64 0, .slice none 0 0] 29))
 have HB0 : Hid (Blk ((w.alloc (.cells (bunC p A k c) 29)).alloc (.cells #[.int .u64 0, .int .i64 0, .int .i64 0, .string ⟨#[]⟩, .int .u64 0, .int .u64 0, .int .i64 0, .string ⟨#[]⟩, .int .u64 0, .int .u64 0, .int .i64 0, .string ⟨#[]⟩, .int .u64 0, .int .u64 0, .int .u64 0, .int .u64 0, .int .u64 0, .int .u64 0, .int .u64 0, .slice none 0 0] 29)) w.heap.size 29 (bunC p A k c)) := hid ((Blk.new w 29 (bunC p A k c)).alloc (.cells #[.int .u64 0, .int .i64 0, .int .i64 0, .string ⟨#[]⟩, .int .u64 0, .int .u64 0, .int .i64 0, .string ⟨#[]⟩, .int .u64 0, .int .u64 0, .int .i64 0, .string ⟨#[]⟩, .int .u64 0, .int .u64 0, .int .u64 0, .int .u64 0, .int .u64 0, .int .u64 0, .int .u64 0, .slice none 0 0] 29))
 have HB1 : Hid (Blk ((w.alloc (.cells (bunC p A k c) 29)).alloc (.cells #[.int .u64 0, .int .i64 0, .int .i64 0, .string ⟨#[]⟩, .int .u64 0, .int .u64 0, .int .i64 0, .string ⟨#[]⟩, .int .u64 0, .int .u64 0, .int .i64 0, .string ⟨#[]⟩, .int .u64 0, .int .u64 0, .int .u64 0, .int .u64 0, .int .u64 0, .int .u64 0, .int .u64 0, .slice none 0 0] 29)) (w.heap.size + 1) 29 #[.int .u64 0, .int .i64 0, .int .i64 0, .string ⟨#[]⟩, .int .u64 0, .int .u64 0, .int .i64 0, .string ⟨#[]⟩, .int .u64 0, .int .u64 0, .int .i64 0, .string ⟨#[]⟩, .int .u64 0, .int .u64 0, .int .u64 0, .int .u64 0, .int .u64 0, .int .u64 0, .int .u64 0, .slice none 0 0]) := by unfold Hid; exact Blk.newL _ _ _ (by simp)
 have HL := hid (BsL.ext h HE.out)
 clear h
 go_enter Tryz.func39, Tryz.ntmps39
 go_upto_region 1 with fail
 generalize ((w.alloc (.cells (bunC p A k c) 29)).alloc (.cells #[.int .u64 0, .int .i64 0, .int .i64 0, .string ⟨#[]⟩, .int .u64 0, .int .u64 0, .int .i64 0, .string ⟨#[]⟩, .int .u64 0, .int .u64 0, .int .i64 0, .string ⟨#[]⟩, .int .u64 0, .int .u64 0, .int .u64 0, .int .u64 0, .int .u64 0, .int .u64 0, .int .u64 0, .slice none 0 0] 29)) = V at *
 obtain ⟨e, he⟩ := Later.self V
 rw [he]
 clear he
 have tk1 : True := trivial
 go_wp2_with (first | (clear tk1; refine wpList_row (by rfl) 29 _ rfl _ rfl (HB0.out.later _) vqA rfl (by kernel_rfl) ?_) | (go_at_call 36; refine (KC.out _ (HL.out.ext (Later.h _))).mono ?_; rintro y w3 ⟨zc, A2, c2, hz, rfl, hb3, hL3⟩; have HZC : Hid (ZX zc) := hid (by rw [<- hz.out]; exact ZX.mk' p A2 _ c2); have HE3 := hid (e.h.trans hb3); have HR3 := hid (HB1.out.ext (e.h.trans hb3)); have HZE := hid hz; clear hz hb3) | (refine wpList_store_mid rfl 29 _ _ rfl (w.heap.size + 1) 0 zc (by rfl) (by rfl) (HR3.out.there (by rw [HZC.out.s]; exact Nat.le_refl 20)) HZC.out.i HZC.out.o ?_))
 generalize hZ : World.setCells _ _ _ _ = Z
 have HZB : Hid (Blk Z (w.heap.size + 1) 29 zc) := hid (by rw [<- hZ]; exact setCells_all (ds := zc) HR3.out (by rw [Array.length_toList, HZC.out.s]; rfl))
 have HZX : Hid (Mod [(w.heap.size + 1)] w3 Z) := hid (by rw [<- hZ]; exact setCells_mod _ _ (Mod.refl _ _) (.inl (by simp)))
 clear hZ
 refine bodyPost_ret (v := .tuple #[.agg zc, .int .i64 0]) (results_cell2 Tryz.results39 _ rfl rfl HZB.out vqA rfl HZC.out.i) rfl ?_
 refine ⟨zc, A2, c2, HZE.out, rfl, ((HE.out.trans HE3.out).of_ext.trans HZX.out).new (fun kk hkk => .inr (by simp at hkk; omega)), hid ?_⟩
 exact BsL.modX hL3.out HZX.out (BsL.apartZ hL3.out HR3.out K0.out)
set_option maxRecDepth 20000 in
set_option maxHeartbeats 1600000 in
theorem xmay_none (p : PV) (bs : Nat -> BV) (k c : Nat) (A : Option Addr) (hnl : Hid (p.d.name.length < 4611686018427387904 /\ p.s.name.length < 4611686018427387904 /\ p.r.name.length < 4611686018427387904)) (hf : p.fl < 18446744073709551616) (hk : k <= 1000) (hl : ∀ i, i < k -> (bs i).data.length <= 100000) (hr : bunRight p bs k = 0) (hx : extR bs k = 0) (hno : firstOf (tyB bs 10) k = none) (w : World) (h : BsL w A k bs) : Calls Tryz.prog 32 #[bunV p A k c] w (Ret (.int .i64 0) w) := by
 have KR : Hid (∀ W, BsL W A k bs -> Calls Tryz.prog 59 #[bunV p A k c] W (Ret (.int .i64 0) W)) := hid (fun W hW => by
  have h := cBunRight_any p bs k c A hnl hf (by omega) W hW
  rw [hr] at h
  exact h)
 have KX : Hid (∀ W, BsL W A k bs -> Calls Tryz.prog 60 #[bunV p A k c] W (Ret (.int .i64 0) W)) := hid (fun W hW => by
  have h := cRightX_any p bs k c A (by omega) (fun i hi => by have := hl i hi; omega) W hW
  rw [hx] at h
  exact h)
 have KF := hid (fun W (hW : BsL W A k bs) => Find_any p bs k c A 10 (by omega) W hW)
 have hI : findV bs 10 k = .tuple #[zeroB.v, .bool false] := by unfold findV; rw [hno]
 rw [hI] at KF
 have HE := hid ((Mod.refl [] w).alloc (.cells (bunC p A k c) 29))
 have HB0 : Hid (Blk (w.alloc (.cells (bunC p A k c) 29)) w.heap.size 29 (bunC p A k c)) := hid (Blk.new w 29 (bunC p A k c))
 have HL := hid (BsL.ext h HE.out)
 clear h hno hk hf hnl hr hx hl hI
 go_enter Tryz.func32, Tryz.ntmps32
 go_upto_region 1 with fail
 generalize (w.alloc (.cells (bunC p A k c) 29)) = V at *
 obtain ⟨e, he⟩ := Later.self V
 rw [he]
 clear he
 go_upto_region 8 with (first | (go_at_call 59; refine (Ret.later (KR.out _ (HL.out.ext (Later.h _)))).mono ?_; rintro x _ ⟨rfl, e, rfl⟩) | (go_at_call 60; refine (Ret.later (KX.out _ (HL.out.ext (Later.h _)))).mono ?_; rintro x _ ⟨rfl, e, rfl⟩) | (go_at_call 42; refine (Ret.later (KF.out _ (HL.out.ext (Later.h _)))).mono ?_; rintro x _ ⟨rfl, e, rfl⟩) | (refine wpList_row (by rfl) 29 _ rfl _ rfl (HB0.out.later _) vqA rfl (by kernel_rfl) ?_))
 go_wp2_with fail
 go_ret
 exact Ret.mk rfl (HE.out.trans (e.h.alloc _))
set_option maxRecDepth 20000 in
set_option maxHeartbeats 1600000 in
theorem xmay_some (p : PV) (bs : Nat -> BV) (k c : Nat) (A : Option Addr) (hnl : Hid (p.d.name.length < 4611686018427387904 /\ p.s.name.length < 4611686018427387904 /\ p.r.name.length < 4611686018427387904)) (hf : p.fl < 18446744073709551616) (hk : k <= 1000) (hl : ∀ i, i < k -> (bs i).data.length <= 100000) (hr : bunRight p bs k = 0) (hx : extR bs k = 0) (i l n : Nat) (b : Bool) (hb : decide (l <= n) = b) (hf1 : firstOf (tyB bs 10) k = some i) (hh : hopsO (bs i).data = some (l, n)) (w : World) (h : BsL w A k bs) : Calls Tryz.prog 32 #[bunV p A k c] w (Ret (.int .i64 (if b then 12 else 0)) w) := by
 have KR : Hid (∀ W, BsL W A k bs -> Calls Tryz.prog 59 #[bunV p A k c] W (Ret (.int .i64 0) W)) := hid (fun W hW => by
  have h := cBunRight_any p bs k c A hnl hf (by omega) W hW
  rw [hr] at h
  exact h)
 have KX : Hid (∀ W, BsL W A k bs -> Calls Tryz.prog 60 #[bunV p A k c] W (Ret (.int .i64 0) W)) := hid (fun W hW => by
  have h := cRightX_any p bs k c A (by omega) (fun i hi => by have := hl i hi; omega) W hW
  rw [hx] at h
  exact h)
 have KF := hid (fun W (hW : BsL W A k bs) => Find_any p bs k c A 10 (by omega) W hW)
 have hI : findV bs 10 k = .tuple #[(bs i).v, .bool true] := by unfold findV; rw [hf1]
 rw [hI] at KF
 have KH : Hid (∀ W, Calls Tryz.prog 41 #[str (bs i).data] W (Ret (.tuple #[.agg #[.int .i64 (l : Int), .int .i64 (n : Int)], .int .i64 0]) W)) := hid (fun W => by
  have h := readHops_any (bs i).data (by have := hl i (firstOf_spec hf1).1; omega) W
  unfold HopsPost at h
  rw [hh] at h
  exact h)
 have HE := hid ((Mod.refl [] w).alloc (.cells (bunC p A k c) 29))
 have HB0 : Hid (Blk (w.alloc (.cells (bunC p A k c) 29)) w.heap.size 29 (bunC p A k c)) := hid (Blk.new w 29 (bunC p A k c))
 have HL := hid (BsL.ext h HE.out)
 generalize bs i = x at *
 clear h hf1 hk hf hnl hr hx hl hI hh
 go_enter Tryz.func32, Tryz.ntmps32
 go_upto_region 1 with fail
 generalize (w.alloc (.cells (bunC p A k c) 29)) = V at *
 obtain ⟨e, he⟩ := Later.self V
 rw [he]
 clear he
 go_upto_region 8 with (first | (go_at_call 59; refine (Ret.later (KR.out _ (HL.out.ext (Later.h _)))).mono ?_; rintro x _ ⟨rfl, e, rfl⟩) | (go_at_call 60; refine (Ret.later (KX.out _ (HL.out.ext (Later.h _)))).mono ?_; rintro x _ ⟨rfl, e, rfl⟩) | (go_at_call 42; refine (Ret.later (KF.out _ (HL.out.ext (Later.h _)))).mono ?_; rintro x _ ⟨rfl, e, rfl⟩) | (refine wpList_row (by rfl) 29 _ rfl _ rfl (HB0.out.later _) vqA rfl (by kernel_rfl) ?_))
 go_upto_region 10 with (go_at_call 41; refine (Ret.laterW ((Later.h e).alloc _) (KH.out _)).mono ?_; rintro y _ ⟨rfl, e1, rfl⟩)
 cases b with
 | true =>
  have g1 : decide (l <= n) = true := hb
  have g2 : (l <= n) = True := by simpa using hb
  clear hb
  go_wp2_with fail
  go_ret
  exact Ret.mk rfl (HE.out.trans (e1.h.alloc _))
 | false =>
  have g1 : decide (l <= n) = false := hb
  have g2 : (l <= n) = False := by simpa using hb
  clear hb
  go_wp2_with fail
  go_ret
  exact Ret.mk rfl (HE.out.trans (e1.h.alloc _))
end
end Go.Proofs.YthecmnbkjchjmaaGreat
