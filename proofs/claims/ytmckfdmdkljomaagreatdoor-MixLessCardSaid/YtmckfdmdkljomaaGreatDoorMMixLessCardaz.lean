/-
 Security texts: Parse.
-/
import Derived.Test.YtmckfdmdkljomaaGreatDoorMMixLessCardav
namespace Go.Proofs.YtmckfdmdkljomaaGreatDoor
open Go.RowKit
set_option linter.unusedVariables false
set_option linter.unusedSimpArgs false
set_option maxRecDepth 20000 in
set_option maxHeartbeats 4000000 in
theorem areadN_any {X : Nat -> Prop} (t : T) (h5 : t.k ≠ 5) (h6 : t.k ≠ 6) (hk : t.k <= 1000) (A : Option Addr) (c : Nat) (eb : Addr) (w : World) (hf : FormAt w eb) : Calls Tryz.prog 100 #[.slice A t.k c] w (RdPost X t eb w) := by
 have HNO : Hid (rdOK t = false) := hid (by unfold rdOK; rw [decide_eq_false h5, decide_eq_false h6]; simp)
 have HE := hid ((Mod.refl [] w).alloc (.cells #[.slice none 0 0, .int .i64 0, .int .i64 0, .string ⟨#[]⟩, .int .u64 0, .int .u64 0, .slice none 0 0, .slice none 0 0] 65))
 have HB0 : Hid (Blk (w.alloc (.cells #[.slice none 0 0, .int .i64 0, .int .i64 0, .string ⟨#[]⟩, .int .u64 0, .int .u64 0, .slice none 0 0, .slice none 0 0] 65)) w.heap.size 65 (asbC zeroA zeroM)) := hid (Blk.new w 65 #[.slice none 0 0, .int .i64 0, .int .i64 0, .string ⟨#[]⟩, .int .u64 0, .int .u64 0, .slice none 0 0, .slice none 0 0])
 have HFM := hid (fun W (hW : Ext w W) => hf.ext hW)
 have t1a : (((t.k : Int)) == (5)) = false := by rw [beq_eq_false_iff_ne]; omega
 have t1b : (((t.k : Int)) = (5)) = False := eq_false (by omega)
 have t1c : (((t.k : Int)) != (5)) = true := by rw [bne_iff_ne]; omega
 have t2a : (((t.k : Int)) == (6)) = false := by rw [beq_eq_false_iff_ne]; omega
 have t2b : (((t.k : Int)) = (6)) = False := eq_false (by omega)
 have t2c : (((t.k : Int)) != (6)) = true := by rw [bne_iff_ne]; omega
 have t3a : ((t.k) == (5)) = false := by rw [beq_eq_false_iff_ne]; exact h5
 have t3b : ((t.k) = (5)) = False := eq_false (by exact h5)
 have t3c : ((t.k) != (5)) = true := by rw [bne_iff_ne]; exact h5
 have t4a : ((t.k) == (6)) = false := by rw [beq_eq_false_iff_ne]; exact h6
 have t4b : ((t.k) = (6)) = False := eq_false (by exact h6)
 have t4c : ((t.k) != (6)) = true := by rw [bne_iff_ne]; exact h6
 have k0 : (t.k : Int) <= 1000 := by omega
 clear h5 h6 hf hk
 go_enter Tryz.func100, Tryz.ntmps100
 go_upto_region 1 with fail
 generalize w.alloc (.cells #[.slice none 0 0, .int .i64 0, .int .i64 0, .string ⟨#[]⟩, .int .u64 0, .int .u64 0, .slice none 0 0, .slice none 0 0] 65) = V at *
 have HZC := hid (ZC.mk' zeroA zeroM)
 obtain ⟨zc, hzc⟩ : ∃ zc, asbC zeroA zeroM = zc := ⟨_, rfl⟩
 have HBZ : Hid (Blk V w.heap.size 65 zc) := hid (by rw [<- hzc]; exact HB0.out)
 rw [hzc] at HZC
 clear hzc HB0
 go_upto_region 2 with fail
 have KW : Hid (∀ W, Ext w W -> Calls Tryz.prog 121 #[str [105, 116, 101, 109, 115]] W (Ret (.iface 180 (.agg #[str [105, 116, 101, 109, 115], FormV eb])) W)) := hid (fun W hW => wrong_any [105, 116, 101, 109, 115] eb W (HFM.out _ hW))
 refine wp_region_held_drew (S := fun w' => Ext w w' /\ Blk w' w.heap.size 65 zc) (by kernel_rfl) ⟨HE.out.drew, HBZ.out.drew⟩ (fun hHeld => ?_)
 generalize V.drew = y0 at *
 refine wpAnyH_take (i := 0) rfl (by kernel_rfl) (by kernel_rfl) (by kernel_rfl) (fun _ _ _ h => h) (yieldsIf_row (by rfl) 65 _ rfl _ rfl (fun W hM => hM.2) vqB rfl HZC.out.i) hHeld ?_
 (try simp only [Act.put, gTl, g0l, gSl, sTl, s0l, sSl])
 refine wpAnyH_ready (rs := [1]) (by kernel_rfl) (by simp) ?_
 refine AllReadyH.cons rfl (fun K hK => ?_) AllReadyH.nil
 go_simp
 go_at_call 121
 refine (KW.out _ hHeld.1).mono ?_
 rintro x y1 ⟨rfl, hb⟩
 refine hK.out _ _ ⟨hHeld.1.trans hb, hHeld.2.ext hb⟩ (fun hHeld => ?_)
 clear hK K
 (try simp only [Act.put, gTl, g0l, gSl, sTl, s0l, sSl])
 refine wpAnyH_ready (rs := [2]) (by kernel_rfl) (by simp) ?_
 refine AllReadyH.cons rfl (fun K hK => ?_) AllReadyH.nil
 refine wp_store_mid 65 _ _ rfl w.heap.size 0 zc (by rfl) (by rfl) (hHeld.2.there (by rw [HZC.out.s]; exact Nat.le_refl 8)) HZC.out.i HZC.out.o ?_
 have hYB := setCells_all (ds := zc) hHeld.2 (Array.length_toList ..)
 have hYM := setCells_mod (b := w.heap.size) (zc : Array Value).toList 0 hHeld.1 (.inr (by omega))
 generalize hZ : World.setCells _ _ 0 _ = y2 at *
 clear hZ
 refine hK.out _ _ ⟨hYM, hYB⟩ (fun hHeld => ?_)
 clear hK K
 (try simp only [Act.put, gTl, g0l, gSl, sTl, s0l, sSl])
 refine' wpAnyH_take (i := 3) (v := _) rfl (by kernel_rfl) (by kernel_rfl) (by kernel_rfl) (fun _ _ _ h => h) (Or.inl ⟨by rfl, ?hy1⟩) hHeld ?rest1
 case hy1 => (rintro W hM; go_simp; (try with_reducible rfl))
 case rest1 =>
 (try simp only [Act.put, gTl, g0l, gSl, sTl, s0l, sSl])
 refine wpAnyH_done (by kernel_rfl) ?_ _
 clear hYB hYM
 go_wp2_with fail
 refine bodyPost_ret (results_cell2 rfl _ (by rfl) (by rfl) hHeld.2 vqB rfl HZC.out.i) rfl (.inl ⟨HNO.out, zc, [105, 116, 101, 109, 115], [], ?_, hHeld.1, HZC.out⟩)
 rfl
theorem isForm_any (eb : Addr) (x : List UInt8) (l : List (List UInt8)) (w : World) (hf : FormAt w eb) : Calls Tryz.prog 101 #[errV eb (x :: l)] w (Ret (.bool true) w) := by
 have h0 : w.cell? ⟨0, 0, none⟩ = some (.iface 249 (.pointer (some eb))) := hf.1
 have KI := hid (errorsIs_any eb (x :: l) w)
 clear hf
 generalize errV eb (x :: l) = V at *
 go_enter Tryz.func101, Tryz.ntmps101
 go_wp2_with (go_at_call 127; refine KI.out.mono ?_; rintro x w1 ⟨rfl, hb⟩; have HX := hid hb; clear hb)
 go_ret
 exact Ret.mk rfl HX.out
theorem isForm_nil (eb : Addr) (w : World) (hf : FormAt w eb) : Calls Tryz.prog 101 #[.nilIface] w (Ret (.bool false) w) := by
 have h0 : w.cell? ⟨0, 0, none⟩ = some (.iface 249 (.pointer (some eb))) := hf.1
 have KI := hid (errorsIs_nil eb w)
 clear hf
 go_enter Tryz.func101, Tryz.ntmps101
 go_wp2_with (go_at_call 127; refine KI.out.mono ?_; rintro x w1 ⟨rfl, hb⟩; have HX := hid hb; clear hb)
 go_ret
 exact Ret.mk rfl HX.out
def AParse (l : List UInt8) (w : World) (e : Ending) (w' : World) : Prop :=
 ((∀ a, ¬ isAsb l a) /\ e = .returned (.tuple #[asbV zeroA zeroM, .int .i64 2]) /\ Ext w w') \/
 (∃ b m, isAsb l b /\ (∀ a, isAsb l a -> a.Eqv b) /\ e = .returned (.tuple #[asbV b m, .int .i64 0]) /\ Ext w w' /\ AsL w' anyQ b m /\ b.tk <= m.tc /\ ∀ g o, m.t = some ⟨g, o, none⟩ -> w.heap.size <= g)
theorem IsL.apart {W : World} {Q : Nat -> Prop} {N : Nat} (hN : ∀ j v, W.cell? ⟨N, j, none⟩ ≠ some (.bool v)) (t : T) : ∀ {A : Option Addr}, IsL W Q t A -> IsL W (fun b => b ≠ N) t A := by
 induction t with
 | nil => intro A h; cases h
 | mk kind n s op k ch ih =>
  intro A h h0
  obtain ⟨b, o, hA, hb, hq, hc⟩ := h h0
  refine ⟨b, o, hA, hb, ?_, fun i hi => ?_⟩
  .
   rintro rfl
   obtain ⟨Ai, ci, h1, _⟩ := hc 0 h0
   exact hN _ _ h1.2.2.2.2
  .
   obtain ⟨Ai, ci, h1, h2⟩ := hc i hi
   exact ⟨Ai, ci, h1, ih i h2⟩
theorem aread_any {X : Nat -> Prop} (t : T) (hok : t.ok) (hr : t.right 8 = true) (A : Option Addr) (c : Nat) (eb : Addr) (w : World) (hf : FormAt w eb) (h : IsL w X t A) : Calls Tryz.prog 100 #[.slice A t.k c] w (RdPost X t eb w) := by
 have hb : ∀ i, i < t.k -> (t.ch i).k <= 1000 /\ ∀ j, j < (t.ch i).k -> ((t.ch i).ch j).k <= 1000 := fun i hi => by
  have h7 := kid_right (d := 7) hr hi
  exact ⟨kid_k h7, fun j hj => kid_k (kid_right (d := 6) h7 hj)⟩
 have h' : IsL w (fun b => X b /\ b < w.heap.size) t A := IsL.weak (fun b hb hx => ⟨hx, hb⟩) _ h
 have some : 0 < t.k -> ∃ b o, A = some ⟨b, o, none⟩ := fun h0 => by
  obtain ⟨b, o, _, _, h1, _⟩ := kidsA h (i := 0) h0
  exact ⟨b, o, h1⟩
 by_cases h5 : t.k = 5
 .
  obtain ⟨b, o, rfl⟩ := some (by omega)
  rw [h5]
  exact aread5_any t h5 hok hb b o c eb w hf h'
 by_cases h6 : t.k = 6
 .
  obtain ⟨b, o, rfl⟩ := some (by omega)
  rw [h6]
  exact aread6_any t h6 hok hb b o c eb w hf h'
 exact areadN_any t h5 h6 (kid_k hr) A c eb w hf
theorem wrap_no {s : List UInt8} (h : (parseR (159 :: (s ++ [255]))).2 ≠ 0) : ∀ a, ¬ isAsb s a := fun a ha => h (by
 obtain ⟨h1, h2, h3⟩ := ha
 have hsh : a.shaped = true := by
  unfold AV.right at h2
  rw [Bool.and_eq_true] at h2
  exact h2.1
 obtain ⟨i1, i2⟩ := items_seven h1 hsh
 have := parse_back (wrap_right (fun t ht => (i1 t ht).2) (by omega)) (wrap_ok (fun t ht => (i1 t ht).1) (by omega))
 rw [wrap_bytes, show (a.items.map T.bytes).flatten = s from h3] at this
 rw [this])
theorem asb_nobool {W : World} {N : Nat} (h : Blk W N 65 #[.slice none 0 0, .int .i64 0, .int .i64 0, .string ⟨#[]⟩, .int .u64 0, .int .u64 0, .slice none 0 0, .slice none 0 0]) : ∀ j v, W.cell? ⟨N, j, none⟩ ≠ some (.bool v) := fun j v hc => by
 rw [h.cell j] at hc
 rcases j with _ | _ | _ | _ | _ | _ | _ | _ | j <;> simp at hc
set_option maxRecDepth 20000 in
set_option maxHeartbeats 4000000 in
theorem aparse_bad (l : List UInt8) (hl : l.length <= 10000) (h : (parseR (159 :: (l ++ [255]))).2 ≠ 0) (w : World) : Calls Tryz.prog 71 #[str l] w (AParse l w) := by
 have KO4 : Hid (∀ W, Calls Tryz.prog 99 #[.int .i64 4] W (Ret (str [159]) W)) := hid (fun W => open_any 4 W)
 have KO7 : Hid (∀ W, Calls Tryz.prog 99 #[.int .i64 7] W (Ret (str [255]) W)) := hid (fun W => open_any 7 W)
 have hlen : l.length <= 10000 := hl
 have HLEN := hid hl
 have tk1 : True := trivial
 have tk2 : True := trivial
 have HLW : Hid ((159 :: (l ++ [255])).length <= 1073741824) := hid (by simp; omega)
 have KP := hid (fun W => parse_any (159 :: (l ++ [255])) HLW W)
 have HNO := hid (wrap_no h)
 have KP : Hid (∀ W, Calls Tryz.prog 98 #[str (159 :: (l ++ [255]))] W (Ret (.tuple #[itemV nulT none 0, .int .i64 ((parseR (159 :: (l ++ [255]))).1 : Int), .int .i64 (parseR (159 :: (l ++ [255]))).2]) W)) := hid (fun W => (KP.out W).mono fun e w' ⟨hb, hh⟩ => by
  rcases hh with ⟨_, rfl⟩ | ⟨h0, _⟩
  . exact Ret.mk rfl hb
  . exact absurd h0 h)
 have t1a : (((parseR (159 :: (l ++ [255]))).2) == (0)) = false := by rw [beq_eq_false_iff_ne]; exact h
 have t1b : (((parseR (159 :: (l ++ [255]))).2) = (0)) = False := eq_false (by exact h)
 have t1c : (((parseR (159 :: (l ++ [255]))).2) != (0)) = true := by rw [bne_iff_ne]; exact h
 clear h hl HLW
 generalize (parseR (159 :: (l ++ [255]))).2 = E at *
 generalize ((parseR (159 :: (l ++ [255]))).1 : Int) = NN at *
 have HE := hid ((Mod.refl [] w).alloc (.cells #[.slice none 0 0, .int .i64 0, .int .i64 0, .string ⟨#[]⟩, .int .u64 0, .int .u64 0, .slice none 0 0, .slice none 0 0] 65))
 have HB0 : Hid (Blk (w.alloc (.cells #[.slice none 0 0, .int .i64 0, .int .i64 0, .string ⟨#[]⟩, .int .u64 0, .int .u64 0, .slice none 0 0, .slice none 0 0] 65)) w.heap.size 65 #[.slice none 0 0, .int .i64 0, .int .i64 0, .string ⟨#[]⟩, .int .u64 0, .int .u64 0, .slice none 0 0, .slice none 0 0]) := hid (Blk.new w 65 #[.slice none 0 0, .int .i64 0, .int .i64 0, .string ⟨#[]⟩, .int .u64 0, .int .u64 0, .slice none 0 0, .slice none 0 0])
 go_enter Tryz.func71, Tryz.ntmps71
 go_upto_region 1 with fail
 generalize (w.alloc (.cells #[.slice none 0 0, .int .i64 0, .int .i64 0, .string ⟨#[]⟩, .int .u64 0, .int .u64 0, .slice none 0 0, .slice none 0 0] 65)) = V at *
 obtain ⟨e, he⟩ := Later.self V
 rw [he]
 clear he
 go_upto_region 2 with (first | (clear tk1; go_at_call 99; refine (Ret.later (KO4.out _)).mono ?_; rintro x _ ⟨rfl, e, rfl⟩) | (clear tk2; go_at_call 99; refine (Ret.later (KO7.out _)).mono ?_; rintro x _ ⟨rfl, e, rfl⟩) | (refine wpList_cat (by rfl) _ _ _ _ rfl _ _ rfl rfl (by (try simp only [List.length_append, List.length_cons, List.length_nil]); omega) ?_) | (go_at_call 98; refine (KP.out _).mono ?_; rintro x w1 ⟨rfl, hb⟩; have HX := hid (e.h.trans hb); clear hb))
 generalize hV1 : World.alloc w1 _ = V1
 have HX1 : Hid (Ext V V1) := hid (by rw [<- hV1]; exact HX.out.alloc _)
 have HB1 := hid (HB0.out.ext HX1.out)
 have HE1 := hid (HE.out.trans HX1.out)
 clear hV1 HX HX1 e KP KO4 KO7 hlen
 obtain ⟨e, he⟩ := Later.self V1
 rw [he]
 clear he
 go_wp2_with (first | (refine wpList_store_mid rfl 65 _ _ rfl w.heap.size 0 #[.slice none 0 0, .int .i64 0, .int .i64 0, .string ⟨#[]⟩, .int .u64 0, .int .u64 0, .slice none 0 0, .slice none 0 0] (by rfl) (by rfl) ((HB1.out.later e).there (Nat.le_refl 8)) (by kernel_rfl) (by simp [Value.oneCell']) ?_))
 generalize hZZ : World.setCells _ _ _ _ = ZZ
 have HZB : Hid (Blk ZZ w.heap.size 65 #[.slice none 0 0, .int .i64 0, .int .i64 0, .string ⟨#[]⟩, .int .u64 0, .int .u64 0, .slice none 0 0, .slice none 0 0]) := hid (by rw [<- hZZ]; exact setCells_all (ds := #[.slice none 0 0, .int .i64 0, .int .i64 0, .string ⟨#[]⟩, .int .u64 0, .int .u64 0, .slice none 0 0, .slice none 0 0]) (HB1.out.later e) rfl)
 have HZM : Hid (Ext w ZZ) := hid (by rw [<- hZZ]; exact setCells_mod _ _ (HE1.out.trans e.h) (.inr (by omega)))
 clear hZZ
 refine bodyPost_ret (results_cell2 rfl _ (by rfl) rfl HZB.out vqB rfl (by kernel_rfl)) rfl (.inl ⟨HNO.out, rfl, HZM.out⟩)
set_option maxRecDepth 20000 in
set_option maxHeartbeats 8000000 in
theorem aparse_good (l : List UInt8) (hl : l.length <= 10000) (h : (parseR (159 :: (l ++ [255]))).2 = 0) (eb : Addr) (w : World) (hf : FormAt w eb) : Calls Tryz.prog 71 #[str l] w (AParse l w) := by
 have KO4 : Hid (∀ W, Calls Tryz.prog 99 #[.int .i64 4] W (Ret (str [159]) W)) := hid (fun W => open_any 4 W)
 have KO7 : Hid (∀ W, Calls Tryz.prog 99 #[.int .i64 7] W (Ret (str [255]) W)) := hid (fun W => open_any 7 W)
 have hlen : l.length <= 10000 := hl
 have HLEN := hid hl
 have tk1 : True := trivial
 have tk2 : True := trivial
 have HLW : Hid ((159 :: (l ++ [255])).length <= 1073741824) := hid (by simp; omega)
 have KP := hid (fun W => parse_any (159 :: (l ++ [255])) HLW W)
 have KP : Hid (∀ W, Calls Tryz.prog 98 #[str (159 :: (l ++ [255]))] W (fun e w' => ∃ t A c, e = .returned (.tuple #[itemV t A c, .int .i64 (-1), .int .i64 0]) /\ Ext W w' /\ t.right 8 = true /\ t.ok /\ t.bytes = 159 :: (l ++ [255]) /\ IsL w' (fun _ => True) t A)) := hid (fun W => (KP.out W).mono fun e w' ⟨hb, hh⟩ => by
  rcases hh with ⟨h0, _⟩ | ⟨_, t, A, c, rfl, ⟨hr, hok⟩, hbt, hli⟩
  . exact absurd h h0
  . exact ⟨t, A, c, rfl, hb, hr, hok, hbt, hli⟩)
 have HFM := hid (fun W (hW : Ext w W) => hf.ext hW)
 clear h hl HLW hf
 have HE := hid ((Mod.refl [] w).alloc (.cells #[.slice none 0 0, .int .i64 0, .int .i64 0, .string ⟨#[]⟩, .int .u64 0, .int .u64 0, .slice none 0 0, .slice none 0 0] 65))
 have HB0 : Hid (Blk (w.alloc (.cells #[.slice none 0 0, .int .i64 0, .int .i64 0, .string ⟨#[]⟩, .int .u64 0, .int .u64 0, .slice none 0 0, .slice none 0 0] 65)) w.heap.size 65 #[.slice none 0 0, .int .i64 0, .int .i64 0, .string ⟨#[]⟩, .int .u64 0, .int .u64 0, .slice none 0 0, .slice none 0 0]) := hid (Blk.new w 65 #[.slice none 0 0, .int .i64 0, .int .i64 0, .string ⟨#[]⟩, .int .u64 0, .int .u64 0, .slice none 0 0, .slice none 0 0])
 go_enter Tryz.func71, Tryz.ntmps71
 go_upto_region 1 with fail
 generalize (w.alloc (.cells #[.slice none 0 0, .int .i64 0, .int .i64 0, .string ⟨#[]⟩, .int .u64 0, .int .u64 0, .slice none 0 0, .slice none 0 0] 65)) = V at *
 obtain ⟨e, he⟩ := Later.self V
 rw [he]
 clear he
 go_upto_region 2 with (first | (clear tk1; go_at_call 99; refine (Ret.later (KO4.out _)).mono ?_; rintro x _ ⟨rfl, e, rfl⟩) | (clear tk2; go_at_call 99; refine (Ret.later (KO7.out _)).mono ?_; rintro x _ ⟨rfl, e, rfl⟩) | (refine wpList_cat (by rfl) _ _ _ _ rfl _ _ rfl rfl (by (try simp only [List.length_append, List.length_cons, List.length_nil]); omega) ?_) | (go_at_call 98; refine (KP.out _).mono ?_; rintro x w1 ⟨t, A, c, rfl, hb, hr, hok, hbt, hli⟩; have HX := hid (e.h.trans hb); have HR := hid hr; have HOK := hid hok; have HBT := hid hbt; have HL := hid hli; clear hb hr hok hbt hli))
 generalize hV1 : World.alloc w1 _ = V1
 have HX1 : Hid (Ext V V1) := hid (by rw [<- hV1]; exact HX.out.alloc _)
 have HB1 := hid (HB0.out.ext HX1.out)
 have HT1 : Hid (Blk V1 w1.heap.size 68 (itemC t A c)) := hid (by rw [<- hV1]; exact Blk.new _ _ _)
 have HNB : Hid (∀ j v, V1.cell? ⟨w.heap.size, j, none⟩ ≠ some (.bool v)) := hid (asb_nobool HB1.out)
 have HL1 : Hid (∀ W, Ext V1 W -> IsL W (fun b => b ≠ w.heap.size) t A) := hid (fun W hW => IsL.ext (IsL.apart HNB.out t (by rw [<- hV1]; exact HL.out.ext ((Mod.refl [] _).alloc _))) hW)
 have HE1 := hid (HE.out.trans HX1.out)
 clear hV1 HX HX1 HL HB0 e KP KO4 KO7 hlen
 generalize w1.heap.size = n1 at *
 have HCA : Hid (∀ a, isAsb l a -> Kids0 t a) := hid (fun a ha => isAsb_tree ha HOK.out (T.right_up t 8 HR.out) HBT.out)
 have HLT : Hid (t.size <= 100000) := hid (by have := T.size_le t (T.plain_of HR.out); rw [HBT.out] at this; have h10 := HLEN.out; simp at this; omega)
 have HKI : Hid (t.k = 5 \/ t.k = 6 -> Kids t) := hid (fun hk => ⟨hk, fun i hi => T.okc HOK.out hi, fun i hi => T.right_up _ 7 (kid_right (d := 7) HR.out hi), fun i hi => Nat.le_trans (kid_size hi) HLT.out⟩)
 have KR := hid (fun W (hW : Ext V1 W) => aread_any t HOK.out HR.out A c eb W (HFM.out W (HE1.out.trans hW)) (HL1.out W hW))
 have z3 : ∀ e : Later V1, e.x.cell? ⟨n1, 3, none⟩ = some (.slice A t.k c) := HT1.out.cellL 3 rfl
 clear HT1 HL1 HE HOK HBT HLT HR
 obtain ⟨e, he⟩ := Later.self V1
 rw [he]
 clear he
 go_upto_region 4 with fail
 by_cases hrd : rdOK t = true
 case neg =>
  have hrd : rdOK t = false := by simpa using hrd
  have KR : Hid (∀ W, Ext V1 W -> Calls Tryz.prog 100 #[.slice A t.k c] W (fun e w' => ∃ zc x l, e = .returned (.tuple #[.agg zc, errV eb (x :: l)]) /\ Ext W w' /\ ZC zc)) := hid (fun W hW => (KR.out W hW).mono fun e w' h => by
   rcases h with ⟨_, h⟩ | ⟨h1, _⟩
   . exact h
   . rw [hrd] at h1; exact absurd h1 (by decide))
  have HNO : Hid (∀ a, ¬ isAsb l a) := hid (fun a ha => by have := (HCA.out a ha).o; rw [hrd] at this; exact absurd this (by decide))
  clear hrd HCA HKI
  have tk1 : True := trivial
  have KF := hid (fun x l W (hW : Ext V1 W) => isForm_any eb x l W (HFM.out W (HE1.out.trans hW)))
  generalize t.k = tk at *
  have HAL : Hid True := hid trivial
  go_upto_region 5 with (first | (go_at_call 100; refine (KR.out _ e.h).mono ?_; rintro x w2 ⟨zc, x1, l1, rfl, hb, hzc⟩; have HX := hid (e.h.trans hb); have HZC := hid hzc; clear hb hzc) | (clear tk1; refine wpList_store_mid rfl 65 _ _ rfl w2.heap.size 0 zc (by rfl) (by rfl) ((Blk.new _ _ _).there (by rw [HZC.out.s]; exact Nat.le_refl 8)) HZC.out.i HZC.out.o ?_))
  generalize hV2 : World.setCells _ _ _ _ = V2
  have HX2 : Hid (Ext V1 V2) := hid (by rw [<- hV2]; exact setCells_mod _ _ (HX.out.alloc _) (.inr HX.out.size))
  have HBR := hid (HB1.out.ext HX2.out)
  have HE2 := hid (HE1.out.trans HX2.out)
  have KF2 := hid (fun (e : Later V2) => KF.out x1 l1 e.x (HX2.out.trans e.h))
  clear hV2 HX HX2 HB1 HE1 KR KF e HZC
  generalize errV eb (x1 :: l1) = EV1 at *
  generalize w2.heap.size = n2 at *
  obtain ⟨e, he⟩ := Later.self V2
  rw [he]
  clear he
  go_upto_region 6 with (go_at_call 101; refine (Ret.later (KF2.out _)).mono ?_; rintro x _ ⟨rfl, e, rfl⟩)
  go_wp2_with (first | (refine wpList_store_mid rfl 65 _ _ rfl w.heap.size 0 #[.slice none 0 0, .int .i64 0, .int .i64 0, .string ⟨#[]⟩, .int .u64 0, .int .u64 0, .slice none 0 0, .slice none 0 0] (by rfl) (by rfl) ((HBR.out.later e).there (Nat.le_refl 8)) (by kernel_rfl) (by simp [Value.oneCell']) ?_))
  generalize hZZ : World.setCells _ _ _ _ = ZZ
  have HZB : Hid (Blk ZZ w.heap.size 65 #[.slice none 0 0, .int .i64 0, .int .i64 0, .string ⟨#[]⟩, .int .u64 0, .int .u64 0, .slice none 0 0, .slice none 0 0]) := hid (by rw [<- hZZ]; exact setCells_all (ds := #[.slice none 0 0, .int .i64 0, .int .i64 0, .string ⟨#[]⟩, .int .u64 0, .int .u64 0, .slice none 0 0, .slice none 0 0]) (HBR.out.later e) rfl)
  have HZM : Hid (Ext w ZZ) := hid (by rw [<- hZZ]; exact setCells_mod _ _ (HE2.out.trans e.h) (.inr (by omega)))
  clear hZZ
  refine bodyPost_ret (results_cell2 rfl _ (by rfl) rfl HZB.out vqB rfl (by kernel_rfl)) rfl (.inl ⟨HNO.out, rfl, HZM.out⟩)
 have HKK := hid (HKI.out (rdOK_iff hrd).1)
 have KR : Hid (∀ W, Ext V1 W -> Calls Tryz.prog 100 #[.slice A t.k c] W (fun e w' => ∃ zc m, Hid (asbC (rdA t) m = zc) /\ e = .returned (.tuple #[.agg zc, .nilIface]) /\ Ext W w' /\ AsL w' (fun b => b ≠ w.heap.size) (rdA t) m /\ (rdA t).tk <= m.tc /\ ∀ g o, m.t = some ⟨g, o, none⟩ -> W.heap.size <= g)) := hid (fun W hW => (KR.out W hW).mono fun e w' h => by
  rcases h with ⟨h1, _⟩ | ⟨_, h⟩
  . rw [hrd] at h1; exact absurd h1 (by decide)
  .
   obtain ⟨m, h1, h2, h3, h4⟩ := h
   exact ⟨asbC (rdA t) m, m, hid rfl, h1, h2, h3.wk (fun b _ hb => hb.elim (fun h => h.1) (fun h => by have := HB1.out.lt; have := hW.size; omega)), h4⟩)
 have HWF := hid (HKK.out.wf hrd)
 have HSM := hid (HKK.out.small hrd)
 have HEQ : Hid (∀ a, isAsb l a -> a.Eqv (rdA t) /\ a.shaped = true) := hid (fun a ha => ⟨(HCA.out a ha).e, (HCA.out a ha).s⟩)
 have KF := hid (fun W (hW : Ext V1 W) => isForm_nil eb W (HFM.out W (HE1.out.trans hW)))
 clear hrd HCA HKI HKK HFM
 generalize rdA t = b at *
 generalize t.k = tk at *
 have tk1 : True := trivial
 go_upto_region 5 with (first | (go_at_call 100; refine (KR.out _ e.h).mono ?_; rintro x w2 ⟨zc, m, HZE, rfl, hb, hal, hcap⟩; have HTN : Hid (∀ g o, m.t = some ⟨g, o, none⟩ -> w.heap.size <= g) := hid (fun g o hA => by have h1 := hcap.2 g o hA; have h2 := e.h.size; have h3 := HE1.out.size; omega); have HX := hid (e.h.trans hb); have HAL := hid hal; have HCAP := hid hcap.1; have HZC : Hid (ZC zc) := hid (by rw [<- HZE.out]; exact ZC.mk' b m); clear hb hal hcap) | (clear tk1; refine wpList_store_mid rfl 65 _ _ rfl w2.heap.size 0 zc (by rfl) (by rfl) ((Blk.new _ _ _).there (by rw [HZC.out.s]; exact Nat.le_refl 8)) HZC.out.i HZC.out.o ?_))
 generalize hV2 : World.setCells _ _ _ _ = V2
 have HX2 : Hid (Ext V1 V2) := hid (by rw [<- hV2]; exact setCells_mod _ _ (HX.out.alloc _) (.inr HX.out.size))
 have HXW : Hid (Ext w2 V2) := hid (by rw [<- hV2]; exact setCells_mod _ _ ((Mod.refl [] w2).alloc _) (.inr (Nat.le_refl _)))
 have HB2 : Hid (Blk V2 w2.heap.size 65 zc) := hid (by rw [<- hV2]; exact setCells_all (ds := zc) (Blk.new _ _ _) (by rw [Array.length_toList, HZC.out.s]; rfl))
 have HBR := hid (HB1.out.ext HX2.out)
 have HE2 := hid (HE1.out.trans HX2.out)
 have HAL2 := hid (HAL.out.ext HXW.out)
 have KF2 := hid (fun (e : Later V2) => KF.out e.x (HX2.out.trans e.h))
 have KRI : Hid (∀ e : Later V2, Calls Tryz.prog 102 #[.agg zc] e.x (Ret (.bool b.right) e.x)) := hid (fun e => by rw [<- HZE.out]; exact aRight_any b HWF.out (fun _ => HSM.out) m HCAP.out e.x ((HAL2.out.ext e.h).wk (fun _ _ _ => trivial)))
 have KBU : Hid (∀ e : Later V2, b.shaped = true -> Calls Tryz.prog 103 #[.agg zc] e.x (Ret (str b.bytes) e.x)) := hid (fun e hs => by rw [<- HZE.out]; exact abuild_any b HWF.out HSM.out hs m e.x ((HAL2.out.ext e.h).wk (fun _ _ _ => trivial)))
 clear hV2 HX HX2 HXW HB1 HE1 KR KF e HAL
 generalize w2.heap.size = n2 at *
 have HRL : Hid (∀ e : Later V2, Blk e.x n2 65 zc) := hid (fun e => HB2.out.later e)
 obtain ⟨e, he⟩ := Later.self V2
 rw [he]
 clear he HB2
 have tk1 : True := trivial
 have tk2 : True := trivial
 cases hr : b.right with
 | false =>
  have HNO : Hid (∀ a, ¬ isAsb l a) := hid (fun a ha => by
   obtain ⟨h1, h2⟩ := HEQ.out a ha
   have hs := h1.shaped h2
   have hk : a.rk = a.tk := (AV.shaped_iff.1 h2).2.2.2.2.2.2.1
   have hb := h1.bytes hk
   have h3 := ha.2.1
   unfold AV.right at h3 hr
   rw [hs, Bool.true_and] at hr
   rw [h2, Bool.true_and, hb, hr] at h3
   exact absurd h3 (by decide))
  rw [hr] at KRI
  clear hr HEQ KBU
  go_upto_region 6 with (first | (clear tk1; refine wpList_row (by rfl) 65 _ rfl _ rfl (HRL.out _) vqB rfl HZC.out.i ?_) | (go_at_call 101; refine (Ret.later (KF2.out _)).mono ?_; rintro x _ ⟨rfl, e, rfl⟩) | (go_at_call 102; refine (Ret.later (KRI.out _)).mono ?_; rintro x _ ⟨rfl, e, rfl⟩))
  go_wp2_with (first | (refine wpList_store_mid rfl 65 _ _ rfl w.heap.size 0 #[.slice none 0 0, .int .i64 0, .int .i64 0, .string ⟨#[]⟩, .int .u64 0, .int .u64 0, .slice none 0 0, .slice none 0 0] (by rfl) (by rfl) ((HBR.out.later e).there (Nat.le_refl 8)) (by kernel_rfl) (by simp [Value.oneCell']) ?_))
  generalize hZZ : World.setCells _ _ _ _ = ZZ
  have HZB : Hid (Blk ZZ w.heap.size 65 #[.slice none 0 0, .int .i64 0, .int .i64 0, .string ⟨#[]⟩, .int .u64 0, .int .u64 0, .slice none 0 0, .slice none 0 0]) := hid (by rw [<- hZZ]; exact setCells_all (ds := #[.slice none 0 0, .int .i64 0, .int .i64 0, .string ⟨#[]⟩, .int .u64 0, .int .u64 0, .slice none 0 0, .slice none 0 0]) (HBR.out.later e) rfl)
  have HZM : Hid (Ext w ZZ) := hid (by rw [<- hZZ]; exact setCells_mod _ _ (HE2.out.trans e.h) (.inr (by omega)))
  clear hZZ
  refine bodyPost_ret (results_cell2 rfl _ (by rfl) rfl HZB.out vqB rfl (by kernel_rfl)) rfl (.inl ⟨HNO.out, rfl, HZM.out⟩)
 | true =>
  have HSH : Hid (b.shaped = true) := hid (by unfold AV.right at hr; rw [Bool.and_eq_true] at hr; exact hr.1)
  have KBU : Hid (∀ e : Later V2, Calls Tryz.prog 103 #[.agg zc] e.x (Ret (str b.bytes) e.x)) := hid (fun e => KBU.out e HSH.out)
  rw [hr] at KRI
  have HRI := hid hr
  clear hr
  by_cases hB : b.bytes = l
  .
   have HIS : Hid (isAsb l b) := hid ⟨HWF.out, HRI.out, hB⟩
   rw [hB] at KBU
   clear hB
   go_upto_region 7 with (first | (clear tk1; refine wpList_row (by rfl) 65 _ rfl _ rfl (HRL.out _) vqB rfl HZC.out.i ?_) | (clear tk2; refine wpList_row (by rfl) 65 _ rfl _ rfl (HRL.out _) vqB rfl HZC.out.i ?_) | (go_at_call 101; refine (Ret.later (KF2.out _)).mono ?_; rintro x _ ⟨rfl, e, rfl⟩) | (go_at_call 102; refine (Ret.later (KRI.out _)).mono ?_; rintro x _ ⟨rfl, e, rfl⟩) | (go_at_call 103; refine (Ret.later (KBU.out _)).mono ?_; rintro x _ ⟨rfl, e, rfl⟩))
   have tk1 : True := trivial
   have tk2 : True := trivial
   go_wp2_with (first | (clear tk1; refine wpList_row (by rfl) 65 _ rfl _ rfl (HRL.out _) vqB rfl HZC.out.i ?_) | (clear tk2; refine wpList_store_mid rfl 65 _ _ rfl w.heap.size 0 zc (by rfl) (by rfl) ((HBR.out.later e).there (by rw [HZC.out.s]; exact Nat.le_refl 8)) HZC.out.i HZC.out.o ?_))
   generalize hZZ : World.setCells _ _ _ _ = ZZ
   have HZB : Hid (Blk ZZ w.heap.size 65 zc) := hid (by rw [<- hZZ]; exact setCells_all (ds := zc) (HBR.out.later e) (by rw [Array.length_toList, HZC.out.s]; rfl))
   have HZX : Hid (Mod [w.heap.size] V2 ZZ) := hid (by rw [<- hZZ]; exact setCells_mod _ _ ((Mod.refl [w.heap.size] V2).trans (e.h.mono (by simp))) (.inl (by simp)))
   have HZM : Hid (Ext w ZZ) := hid (by rw [<- hZZ]; exact setCells_mod _ _ (HE2.out.trans e.h) (.inr (by omega)))
   clear hZZ
   refine bodyPost_ret (results_cell2 rfl _ (by rfl) rfl HZB.out vqB rfl HZC.out.i) rfl (.inr ⟨b, m, HIS.out, fun a ha => (HEQ.out a ha).1, by rw [<- HZE.out]; rfl, HZM.out, ?_, HCAP.out, HTN.out⟩)
   exact (HAL2.out.mod HZX.out (fun k hk _ => by simpa using hk)).wk (fun _ _ _ => trivial)
  .
   have HNO : Hid (∀ a, ¬ isAsb l a) := hid (fun a ha => by
    obtain ⟨h1, h2⟩ := HEQ.out a ha
    have hk : a.rk = a.tk := (AV.shaped_iff.1 h2).2.2.2.2.2.2.1
    exact hB (by rw [<- h1.bytes hk]; exact ha.2.2))
   have t1a : ((b.bytes) == (l)) = false := by rw [beq_eq_false_iff_ne]; exact hB
   have t1b : ((b.bytes) = (l)) = False := eq_false (by exact hB)
   have t1c : ((b.bytes) != (l)) = true := by rw [bne_iff_ne]; exact hB
   clear hB HEQ HSH
   generalize b.bytes = B at *
   go_upto_region 6 with (first | (clear tk1; refine wpList_row (by rfl) 65 _ rfl _ rfl (HRL.out _) vqB rfl HZC.out.i ?_) | (clear tk2; refine wpList_row (by rfl) 65 _ rfl _ rfl (HRL.out _) vqB rfl HZC.out.i ?_) | (go_at_call 101; refine (Ret.later (KF2.out _)).mono ?_; rintro x _ ⟨rfl, e, rfl⟩) | (go_at_call 102; refine (Ret.later (KRI.out _)).mono ?_; rintro x _ ⟨rfl, e, rfl⟩) | (go_at_call 103; refine (Ret.later (KBU.out _)).mono ?_; rintro x _ ⟨rfl, e, rfl⟩))
   go_wp2_with (first | (refine wpList_store_mid rfl 65 _ _ rfl w.heap.size 0 #[.slice none 0 0, .int .i64 0, .int .i64 0, .string ⟨#[]⟩, .int .u64 0, .int .u64 0, .slice none 0 0, .slice none 0 0] (by rfl) (by rfl) ((HBR.out.later e).there (Nat.le_refl 8)) (by kernel_rfl) (by simp [Value.oneCell']) ?_))
   generalize hZZ : World.setCells _ _ _ _ = ZZ
   have HZB : Hid (Blk ZZ w.heap.size 65 #[.slice none 0 0, .int .i64 0, .int .i64 0, .string ⟨#[]⟩, .int .u64 0, .int .u64 0, .slice none 0 0, .slice none 0 0]) := hid (by rw [<- hZZ]; exact setCells_all (ds := #[.slice none 0 0, .int .i64 0, .int .i64 0, .string ⟨#[]⟩, .int .u64 0, .int .u64 0, .slice none 0 0, .slice none 0 0]) (HBR.out.later e) rfl)
   have HZM : Hid (Ext w ZZ) := hid (by rw [<- hZZ]; exact setCells_mod _ _ (HE2.out.trans e.h) (.inr (by omega)))
   clear hZZ
   refine bodyPost_ret (results_cell2 rfl _ (by rfl) rfl HZB.out vqB rfl (by kernel_rfl)) rfl (.inl ⟨HNO.out, rfl, HZM.out⟩)
theorem aparse_any (l : List UInt8) (hl : l.length <= 10000) (eb : Addr) (w : World) (hf : FormAt w eb) : Calls Tryz.prog 71 #[str l] w (AParse l w) := by
 by_cases h : (parseR (159 :: (l ++ [255]))).2 = 0
 . exact aparse_good l hl h eb w hf
 . exact aparse_bad l hl h w
section
open Go.Shelf
theorem infoOp : (Tryz.prog.info? 40).map (fun i => (i.zero, i.size, i.bytes)) = some (some (.agg #[.int .i64 0, .int .i64 0, .int .i64 0]), 3, 24) := by kernel_rfl
def OV.l (o : OV) : List Value := [.int .i64 o.kind, .int .i64 o.num, .int .i64 o.tgt]
def opF (L : List OV) (j : Nat) : List Value := (opN L j).l
theorem opF_len (L : List OV) (j : Nat) : (opF L j).length = 3 := rfl
def OpR (W : World) (base : Nat) (A : Option Addr) (c : Nat) (L : List OV) : Prop := W.ownsRow base 40 3 (.slice A L.length c) L.length (flatG (opF L) L.length)
theorem opN_snoc {L : List OV} {M : List OV} {j : Nat} (h : j < L.length) : opN (L ++ M) j = opN L j := by
 unfold opN
 rw [List.getD_eq_getElem?_getD, List.getD_eq_getElem?_getD, List.getElem?_append_left h]
theorem opN_last (L : List OV) (o : OV) : opN (L ++ [o]) L.length = o := by
 unfold opN
 rw [List.getD_eq_getElem?_getD, List.getElem?_append_right (Nat.le_refl _), Nat.sub_self]; rfl
theorem OpR.nil (W : World) (base : Nat) : OpR W base none 0 [] := World.ownsRow_nil _ _ _ _
theorem OpR.mod {W W' : World} {S : List Nat} {base c : Nat} {A : Option Addr} {L : List OV} (h : OpR W base A c L) (hm : Mod S W W') (ho : ∀ g, A = some g -> g.block ∉ S) : OpR W' base A c L :=
 ownsRow_mod h hm (fun k hk => by
  cases A with
  | none => cases hk
  | some g =>
   have : g.block = k := by simpa [Value.ownBlock] using hk
   rw [<- this]; exact ho g rfl)
theorem OpR.ext {W W' : World} {base c : Nat} {A : Option Addr} {L : List OV} (h : OpR W base A c L) (hm : Ext W W') : OpR W' base A c L := h.mod hm (by simp)
theorem OpR.off {W : World} {base c : Nat} {A : Option Addr} {L : List OV} (h : OpR W base A c L) : ∀ g, A = some g -> base <= g.block /\ g.block < W.heap.size := fun g hg => World.ownsRow.lt h g.block (by subst hg; rfl)
theorem OpR.low {W : World} {base b2 c : Nat} {A : Option Addr} {L : List OV} (h : OpR W base A c L) (hb : b2 <= base) : OpR W b2 A c L := by
 refine ⟨h.1, ?_⟩
 rcases h.2 with h0 | ⟨g, cap, cur, hv, hbg, hr⟩
 . exact .inl h0
 . exact .inr ⟨g, cap, cur, hv, by omega, hr⟩
theorem OpR.snoc {W : World} {base c g : Nat} {L : List OV} {o : OV} (h : W.ownsRow base 40 3 (.slice (some ⟨g, 0, none⟩) (L.length + 1) c) (L.length + 1) (flatG (opF L) L.length ++ o.l)) : OpR W base (some ⟨g, 0, none⟩) c (L ++ [o]) := by
 unfold OpR
 rw [List.length_append, List.length_singleton, flatG, flatG_congr (g := opF L) (fun j hj => by unfold opF; rw [opN_snoc hj])]
 have e : opF (L ++ [o]) L.length = o.l := by unfold opF; rw [opN_last]
 rw [e]
 exact h
theorem OpR.cells {W : World} {base c : Nat} {A : Option Addr} {L : List OV} (h : OpR W base A c L) (h0 : 0 < L.length) : ∃ g, A = some ⟨g, 0, none⟩ /\ base <= g /\ g < W.heap.size /\ ∀ i, i < L.length -> OAt W g (0 + i * 3) (opN L i) := by
 obtain ⟨m, hm⟩ : ∃ m, L.length = m + 1 := ⟨L.length - 1, by omega⟩
 unfold OpR at h
 have h2 := h
 rw [hm] at h2
 obtain ⟨g, c', hv, hb, hlt⟩ := own_form h2
 simp only [Value.slice.injEq] at hv
 obtain ⟨rfl, _, rfl⟩ := hv
 refine ⟨g, rfl, hb, hlt, fun i hi => ?_⟩
 have key : ∀ r, r < 3 -> ∀ u, (opF L i)[r]? = some u -> W.cell? ⟨g, i * 3 + r, none⟩ = some u := fun r hr u hu => flatG_own (opF_len L) h hi hr hu
 rw [Nat.zero_add]
 exact ⟨key 0 (by omega) _ rfl, key 1 (by omega) _ rfl, key 2 (by omega) _ rfl⟩
theorem OpR.osl {W : World} {base c : Nat} {A : Option Addr} {L : List OV} (h : OpR W base A c L) : OsL W A L.length (opN L) := fun h0 => by
 obtain ⟨g, hA, _, hlt, hc⟩ := h.cells h0
 exact ⟨g, 0, hA, hlt, hc⟩
theorem OpR.cap {W : World} {base c : Nat} {A : Option Addr} {L : List OV} (h : OpR W base A c L) : L.length <= c := own_cap h
theorem own_at {A : Option Addr} {n c g : Nat} (h : (Value.slice A n c).ownBlock = some g) : ∃ a, A = some a /\ a.block = g := by
 cases A with
 | none => cases h
 | some a => exact ⟨a, rfl, by simpa [Value.ownBlock] using h⟩
def OpsP (typ kind ctx : Int) (P : BV -> Bool) (bs : Nat -> BV) (k : Nat) (w : World) (e : Ending) (w' : World) : Prop :=
 (opsL typ kind ctx P bs k = none /\ e = .returned (.tuple #[.slice none 0 0, .int .i64 2]) /\ Ext w w') \/
 (∃ L A c, opsL typ kind ctx P bs k = some L /\ e = .returned (.tuple #[.slice A L.length c, .int .i64 0]) /\ Ext w w' /\ OpR w' w.heap.size A c L)
def tgL (kind num : Int) (tg : Nat -> Int) (q : Nat) : List OV := (List.range q).map fun i => OV.mk kind num (tg i)
theorem tgL_len (kind num : Int) (tg : Nat -> Int) (q : Nat) : (tgL kind num tg q).length = q := by unfold tgL; simp
theorem tgL_snoc (L : List OV) (kind num : Int) (tg : Nat -> Int) (q : Nat) : L ++ tgL kind num tg q ++ [⟨kind, num, tg q⟩] = L ++ tgL kind num tg (q + 1) := by
 unfold tgL
 rw [List.range_succ, List.map_append, List.append_assoc]; rfl
theorem tgL_step {typ kind ctx : Int} {P : BV -> Bool} {bs : Nat -> BV} {i : Nat} {L : List OV} (hl : opsL typ kind ctx P bs i = some L) (h : ¬ ((bs i).ty ≠ typ \/ P (bs i) = true)) {b : AV} (hs : isAsb (bs i).data b) (hc : b.ctx = ctx) : opsL typ kind ctx P bs (i + 1) = some (L ++ tgL kind (bs i).num b.tg b.tk) := by
 have h1 := secO_some hs
 rw [hc] at h1
 rw [opsL_more hl h h1]
 unfold tgL
 rw [List.map_map]; rfl
set_option maxRecDepth 20000 in
set_option maxHeartbeats 8000000 in
theorem ops_any (p : PV) (bs : Nat -> BV) (k c : Nat) (A : Option Addr) (typ kind ctx : Int) (g : Nat) (lb : Array Value) (P : BV -> Bool) (eb : Addr) (eg : ∀ args w, (callFunc g args).run Tryz.prog w = .ok (.enter g args) w)
  (hk : k <= 1000) (hd : ∀ i, i < k -> (bs i).data.length <= 10000) (w : World) (hf : FormAt w eb) (h : BsL w A k bs) (hp : Hid (∀ (W : World) (x : BV), Ext w W -> Calls Tryz.prog g (#[x.v] ++ lb) W (Ret (.bool (P x)) W))) :
  Calls Tryz.prog 44 #[bunV p A k c, .int .i64 typ, .int .i64 kind, .int .i64 ctx, .func (.func g) #[] lb] w (OpsP typ kind ctx P bs k w) := by
 have HE := hid ((Mod.refl [] w).alloc (.cells (bunC p A k c) 29))
 have HB0 : Hid (Blk (w.alloc (.cells (bunC p A k c) 29)) w.heap.size 29 (bunC p A k c)) := hid (Blk.new w 29 (bunC p A k c))
 have HL := hid (BsL.ext h HE.out)
 have HD := hid hd
 have HFO := hid (fun W (hW : Ext w W) => hf.ext hW)
 have HK := hid hk
 have k1 : (k : Int) <= 1000 := by omega
 have HVS : Hid (w.heap.size < (w.alloc (.cells (bunC p A k c) 29)).heap.size) := hid HB0.out.lt
 clear h hf hk hd
 go_enter Tryz.func44, Tryz.ntmps44
 go_upto_region 1 with fail
 generalize w.alloc (.cells (bunC p A k c) 29) = V at *
 have b1 : V.cell? ⟨w.heap.size, 19, none⟩ = some (.slice A k c) := HB0.out.cell 19
 go_wp2_with fail
 clear b1
 have HX0 : Hid (Ext V V) := hid (Mod.refl _ _)
 have HR0 : Hid (OpR V V.heap.size none 0 []) := hid (OpR.nil _ _)
 go_loopw [12, 22] (fun s12 s22 wr => ∃ (i : Nat) (L : List OV) (A' : Option Addr) (c' : Nat), s22 = .int .i64 (i : Int) /\ s12 = .slice A' L.length c' /\ Hid (i <= k /\ Ext V wr /\ OpR wr V.heap.size A' c' L /\ opsL typ kind ctx P bs i = some L)) (fun _ s22 _ => k - (intOf s22).toNat)
 case atStart => exact ⟨0, [], none, 0, rfl, rfl, hid ⟨Nat.zero_le _, HX0.out, HR0.out, rfl⟩⟩
 case round =>
  clear HX0 HR0
  obtain ⟨i, L, A', c', rfl, rfl, hS⟩ := hrel
  rename World => wr
  have i0 : (0 : Int) <= (i : Int) := by omega
  by_cases hlt : i < k
  .
   obtain ⟨b, o, rfl, hb, q0, q1, q2, q3, q4⟩ := (HL.out.ext hS.out.2.1).cells hlt
   have tc : decide (i < k) = true := by simp [hlt]
   have i1 : (i : Int) < (k : Int) := by omega
   have HLT := hid hlt
   obtain ⟨x, hx⟩ : ∃ x, bs i = x := ⟨_, rfl⟩
   rw [hx] at q0 q1 q2 q3 q4
   have HXL := hid hx
   have u0 : wr.cell? _ = _ := q0 ⟨wr, Mod.refl _ _⟩
   have u1 : wr.cell? _ = _ := q1 ⟨wr, Mod.refl _ _⟩
   have u2 : wr.cell? _ = _ := q2 ⟨wr, Mod.refl _ _⟩
   have u3 : wr.cell? _ = _ := q3 ⟨wr, Mod.refl _ _⟩
   have u4 : wr.cell? _ = _ := q4 ⟨wr, Mod.refl _ _⟩
   clear hx hlt hb q0 q1 q2 q3 q4
   go_upto_region 5 with fail
   generalize hW1 : World.alloc wr _ = W1
   have HXB : Hid (Blk W1 wr.heap.size 45 (BV.c x)) := hid (by rw [<- hW1]; exact Blk.new _ _ _)
   have HE1 : Hid (Ext wr W1) := hid (by rw [<- hW1]; exact (Mod.refl [] _).alloc _)
   have HEW := hid (hS.out.2.1.trans HE1.out)
   have HR1 := hid (hS.out.2.2.1.ext HE1.out)
   have HOX : Hid (offA A' wr.heap.size) := hid (fun g hg => by have := (hS.out.2.2.1.off g hg).2; omega)
   have HOL := hid hS.out.2.2.2
   clear hW1 hS u0 u1 u2 u3 u4
   generalize wr.heap.size = xb at *
   have HXR : Hid (∀ e : Later W1, Blk e.x xb 45 (BV.c x)) := hid (fun e => HXB.out.later e)
   have x0 : ∀ e : Later W1, e.x.cell? ⟨xb, 0, none⟩ = some (.int .i64 x.ty) := HXB.out.cellL 0 rfl
   have x4 : ∀ e : Later W1, e.x.cell? ⟨xb, 4, none⟩ = some (str x.data) := HXB.out.cellL 4 rfl
   obtain ⟨e, he⟩ := Later.self W1
   rw [he]
   clear he
   by_cases ht : x.ty = typ
   case neg =>
    have HN : Hid (opsL typ kind ctx P bs (i + 1) = some L) := hid (by rw [opsL_skip (.inl (by rw [HXL.out]; exact ht))]; exact HOL.out)
    have t1 : (x.ty == typ) = false := by simpa using ht
    have t2 : (x.ty = typ) = False := eq_false ht
    have t3 : (x.ty != typ) = true := by simpa using ht
    clear ht
    go_wp2_with fail
    go_roundw
    case rel => exact ⟨i + 1, L, A', c', by go_num, rfl, hid ⟨HLT.out, HEW.out.trans e.h, HR1.out.ext e.h, HN.out⟩⟩
    case measure => have := HLT.out; simp [intOf]; omega
   have HPX : Hid (∀ e : Later W1, Calls Tryz.prog g (#[x.v] ++ lb) e.x (Ret (.bool (P x)) e.x)) := hid (fun e => hp.out e.x x (HE.out.trans (HEW.out.trans e.h)))
   have t1 : (x.ty == typ) = true := by simpa using ht
   have t2 : (x.ty = typ) = True := eq_true ht
   have t3 : (x.ty != typ) = false := by simpa using ht
   have HTY := hid ht
   clear ht
   have tkx : True := trivial
   cases hP : P x with
   | true =>
    rw [hP] at HPX
    have HN : Hid (opsL typ kind ctx P bs (i + 1) = some L) := hid (by rw [opsL_skip (.inr (by rw [HXL.out]; exact hP))]; exact HOL.out)
    clear hP
    go_wp2_with (first | (clear tkx; refine wpList_row (by rfl) 45 _ rfl _ rfl (HXR.out _) vqG rfl (by kernel_rfl) ?_) | (go_at_fn g; refine (Ret.later (HPX.out _)).mono ?_; rintro y _ ⟨rfl, e, rfl⟩))
    go_roundw
    case rel => exact ⟨i + 1, L, A', c', by go_num, rfl, hid ⟨HLT.out, HEW.out.trans e.h, HR1.out.ext e.h, HN.out⟩⟩
    case measure => have := HLT.out; simp [intOf]; omega
   | false =>
   rw [hP] at HPX
   have HNS : Hid (¬ ((bs i).ty ≠ typ \/ P (bs i) = true)) := hid (by rw [HXL.out, hP]; rintro (q | q); exact q HTY.out; cases q)
   have HLEN : Hid (x.data.length <= 10000) := hid (by rw [<- HXL.out]; exact HD.out i HLT.out)
   clear hP
   go_upto_region 6 with (first | (clear tkx; refine wpList_row (by rfl) 45 _ rfl _ rfl (HXR.out _) vqG rfl (by kernel_rfl) ?_) | (go_at_fn g; refine (Ret.later (HPX.out _)).mono ?_; rintro y _ ⟨rfl, e, rfl⟩))
   have KQ := hid (fun e : Later W1 => aparse_any x.data HLEN.out eb e.x (HFO.out _ (HE.out.trans (HEW.out.trans e.h))))
   have tks : True := trivial
   by_cases hex : ∃ b, isAsb x.data b
   case neg =>
    have KP : Hid (∀ e : Later W1, Calls Tryz.prog 71 #[str x.data] e.x (fun y w' => ∃ zc, Hid (asbC zeroA zeroM = zc) /\ y = .returned (.tuple #[.agg zc, .int .i64 2]) /\ Ext e.x w')) := hid (fun e => (KQ.out e).mono fun y w' h => by
     rcases h with ⟨_, h2, h3⟩ | ⟨b, m, h1, _⟩
     . exact ⟨_, hid rfl, h2, h3⟩
     . exact absurd ⟨b, h1⟩ hex)
    have HN : Hid (opsL typ kind ctx P bs k = none) := hid (opsL_none (opsL_bad HNS.out (fun ts q => by
     rw [HXL.out, secO_none (fun a ha => hex ⟨a, ha⟩)] at q; cases q)) k HLT.out)
    clear hex KQ
    go_upto_region 7 with (first | (go_at_call 71; refine (KP.out _).mono ?_; rintro y w2 ⟨zc, hzc, rfl, hb2⟩; have HZC : Hid (ZC zc) := hid (by rw [<- hzc.out]; exact ZC.mk' _ _); have HX2 := hid (e.h.trans hb2); clear hb2) | (clear tks; refine wpList_store_mid rfl 65 _ _ rfl w2.heap.size 0 zc (by rfl) (by rfl) ((Blk.new _ _ _).there (by rw [HZC.out.s]; exact Nat.le_refl 8)) HZC.out.i HZC.out.o ?_))
    generalize hV2 : World.setCells _ _ _ _ = V2
    have HE2 : Hid (Ext W1 V2) := hid (by rw [<- hV2]; exact setCells_mod _ _ (HX2.out.alloc _) (.inr HX2.out.size))
    clear hV2
    go_wp2_with fail
    go_ret2
    exact .inl ⟨HN.out, rfl, HE.out.trans (HEW.out.trans HE2.out)⟩
   obtain ⟨b0, hb0⟩ := hex
   by_cases hcx : b0.ctx = ctx
   case neg =>
    have KP : Hid (∀ e : Later W1, Calls Tryz.prog 71 #[str x.data] e.x (fun y w' => ∃ zc cx, Hid (cx ≠ ctx /\ zc[1]? = some (.int .i64 cx) /\ ZC zc) /\ y = .returned (.tuple #[.agg zc, .int .i64 0]) /\ Ext e.x w')) := hid (fun e => (KQ.out e).mono fun y w' h => by
     rcases h with ⟨h1, _⟩ | ⟨b, m, h1, h2, h3, h4, _⟩
     . exact absurd hb0 (h1 _)
     . exact ⟨_, b.ctx, hid ⟨by rw [<- (h2 b0 hb0).ctx]; exact hcx, rfl, ZC.mk' b m⟩, h3, h4⟩)
    have HN : Hid (opsL typ kind ctx P bs k = none) := hid (opsL_none (opsL_bad HNS.out (fun ts q => by
     rw [HXL.out, secO_some hb0] at q
     simp only [Option.some.injEq, Prod.mk.injEq] at q
     exact hcx q.1)) k HLT.out)
    clear hcx hb0 KQ
    go_upto_region 7 with (first | (go_at_call 71; refine (KP.out _).mono ?_; rintro y w2 ⟨zc, cx, hzc, rfl, hb2⟩; have HZC : Hid (ZC zc) := hid hzc.out.2.2; have HX2 := hid (e.h.trans hb2); clear hb2) | (clear tks; refine wpList_store_mid rfl 65 _ _ rfl w2.heap.size 0 zc (by rfl) (by rfl) ((Blk.new _ _ _).there (by rw [HZC.out.s]; exact Nat.le_refl 8)) HZC.out.i HZC.out.o ?_))
    generalize hV2 : World.setCells _ _ _ _ = V2
    have HE2 : Hid (Ext W1 V2) := hid (by rw [<- hV2]; exact setCells_mod _ _ (HX2.out.alloc _) (.inr HX2.out.size))
    have HYB : Hid (Blk V2 w2.heap.size 65 zc) := hid (by rw [<- hV2]; exact setCells_all (ds := zc) (Blk.new _ _ _) (by rw [Array.length_toList, HZC.out.s]; rfl))
    clear hV2
    generalize w2.heap.size = yb at *
    have y1 : V2.cell? ⟨yb, 1, none⟩ = some (.int .i64 cx) := (HYB.out.cell 1).trans hzc.out.2.1
    have hcx := hzc.out.1
    have u1 : (cx == ctx) = false := by simpa using hcx
    have u2 : (cx = ctx) = False := eq_false hcx
    have u3 : (cx != ctx) = true := by simpa using hcx
    clear hcx
    go_wp2_with fail
    go_ret2
    exact .inl ⟨HN.out, rfl, HE.out.trans (HEW.out.trans HE2.out)⟩
   have KP : Hid (∀ e : Later W1, Calls Tryz.prog 71 #[str x.data] e.x (fun y w' => ∃ zc tk tg At ct, Hid (zc[0]? = some (.slice At tk ct) /\ zc[1]? = some (.int .i64 ctx) /\ ZC zc /\ tk <= 16 /\ opsL typ kind ctx P bs (i + 1) = some (L ++ tgL kind x.num tg tk)) /\ y = .returned (.tuple #[.agg zc, .int .i64 0]) /\ Ext e.x w' /\ NsL w' At tk tg /\ ∀ g o, At = some ⟨g, o, none⟩ -> e.x.heap.size <= g)) := hid (fun e => (KQ.out e).mono fun y w' h => by
    rcases h with ⟨h1, _⟩ | ⟨b, m, h1, h2, h3, h4, h5, _, h7⟩
    . exact absurd hb0 (h1 _)
    .
     have hcb : b.ctx = ctx := by rw [<- (h2 b0 hb0).ctx]; exact hcx
     have hst := tgL_step HOL.out HNS.out (by rw [HXL.out]; exact h1) hcb
     rw [HXL.out] at hst
     have htk : b.tk <= 16 := by
      have hr := h1.2.1
      unfold AV.right at hr
      rw [Bool.and_eq_true] at hr
      exact (AV.shaped_iff.1 hr.1).1.2
     exact ⟨_, b.tk, b.tg, m.t, m.tc, hid ⟨rfl, by rw [<- hcb]; rfl, ZC.mk' b m, htk, hst⟩, h3, h4, h5.t, h7⟩)
   clear hcx hb0 KQ
   go_upto_region 7 with (first | (go_at_call 71; refine (KP.out _).mono ?_; rintro y w2 ⟨zc, tk, tg, At, ct, hzc, rfl, hb2, hns, hnew⟩; have HZC : Hid (ZC zc) := hid hzc.out.2.2.1; have HX2 := hid (e.h.trans hb2); have HNS2 := hid hns; have HNW : Hid (∀ g o, At = some ⟨g, o, none⟩ -> W1.heap.size <= g) := hid (fun g o hg => Nat.le_trans e.h.size (hnew g o hg)); clear hb2 hns hnew) | (clear tks; refine wpList_store_mid rfl 65 _ _ rfl w2.heap.size 0 zc (by rfl) (by rfl) ((Blk.new _ _ _).there (by rw [HZC.out.s]; exact Nat.le_refl 8)) HZC.out.i HZC.out.o ?_))
   generalize hV2 : World.setCells _ _ _ _ = V2
   have HE2 : Hid (Ext W1 V2) := hid (by rw [<- hV2]; exact setCells_mod _ _ (HX2.out.alloc _) (.inr HX2.out.size))
   have HEN : Hid (Ext w2 V2) := hid (by rw [<- hV2]; exact setCells_mod _ _ ((Mod.refl [] w2).alloc _) (.inr (Nat.le_refl _)))
   have HYB : Hid (Blk V2 w2.heap.size 65 zc) := hid (by rw [<- hV2]; exact setCells_all (ds := zc) (Blk.new _ _ _) (by rw [Array.length_toList, HZC.out.s]; rfl))
   have HTG := hid (HNS2.out.ext HEN.out)
   have HR2 := hid (HR1.out.ext HE2.out)
   have HXV := hid (HXB.out.ext HE2.out)
   have HEV := hid (HEW.out.trans HE2.out)
   have HOF : Hid (∀ g o, At = some ⟨g, o, none⟩ -> offA A' g) := hid (fun g o hg q hq => by have h1 := HNW.out g o hg; have h2 := (HR1.out.off q hq).2; omega)
   have HOX2 := HOX
   clear hV2 HX2 HEN HNS2 HNW HR1 HXB HXR x0 x4 HE1 HEW HPX e KP HOX
   generalize w2.heap.size = yb at *
   have y0 : V2.cell? ⟨yb, 0, none⟩ = some (.slice At tk ct) := (HYB.out.cell 0).trans hzc.out.1
   have y1 : V2.cell? ⟨yb, 1, none⟩ = some (.int .i64 ctx) := (HYB.out.cell 1).trans hzc.out.2.1
   have HTK : Hid (tk <= 16) := hid hzc.out.2.2.2.1
   have HST := hid hzc.out.2.2.2.2
   clear hzc HZC
   go_wp2_with fail
   clear y0 y1
   have HXS : Hid (xb < V2.heap.size) := hid HXV.out.lt
   have HTS : Hid (∀ g o, At = some ⟨g, o, none⟩ -> 0 < tk -> g < V2.heap.size) := hid (fun g o hg h0 => by
    obtain ⟨b, o', hA, hb, _⟩ := HTG.out h0
    rw [hA] at hg; cases hg; exact hb)
   have HX9 : Hid (V2.cell? ⟨xb, 1, none⟩ = some (.int .i64 x.num)) := hid (HXV.out.cell 1)
   have tk16 : (tk : Int) <= 16 := by have := HTK.out; omega
   have hopl : L.length <= 16 * i := opsL_len HOL.out
   have HOPL : Hid (L.length <= 16000) := hid (by have := HLT.out; have := HK.out; omega)
   clear hopl
   have HXX : Hid (Ext V2 V2) := hid (Mod.refl _ _)
   go_loopw [12, 52] (fun s12 s52 wz => ∃ (q : Nat) (A2 : Option Addr) (c2 : Nat), s52 = .int .i64 (q : Int) /\ s12 = .slice A2 (L ++ tgL kind x.num tg q).length c2 /\ Hid (q <= tk /\ Ext V wz /\ V2.heap.size <= wz.heap.size /\ OpR wz V.heap.size A2 c2 (L ++ tgL kind x.num tg q) /\ NsL wz At tk tg /\ offA A2 xb /\ (∀ g o, At = some ⟨g, o, none⟩ -> offA A2 g) /\ wz.cell? ⟨xb, 1, none⟩ = some (.int .i64 x.num))) (fun _ s52 _ => tk - (intOf s52).toNat)
   case atStart => exact ⟨0, A', c', rfl, by (try rw [show tgL kind x.num tg 0 = [] from rfl, List.append_nil]), hid ⟨Nat.zero_le _, HEV.out, Nat.le_refl _, by rw [show tgL kind x.num tg 0 = [] from rfl, List.append_nil]; exact HR2.out, HTG.out, HOX2.out, HOF.out, HX9.out⟩⟩
   case round =>
    clear HR2 HTG HEV HX9 HXX HOF HOX2
    obtain ⟨q, A2, c2, rfl, rfl, hZ⟩ := hrel
    rename World => wz
    have q0 : (0 : Int) <= (q : Int) := by omega
    by_cases hq : q < tk
    .
     obtain ⟨b2, o2, rfl, hb2, hc2⟩ := hZ.out.2.2.2.2.1 (by omega)
     have t0 : wz.cell? ⟨b2, o2 + q, none⟩ = some (.int .i64 (tg q)) := hc2 q hq
     have x1 : wz.cell? ⟨xb, 1, none⟩ = some (.int .i64 x.num) := hZ.out.2.2.2.2.2.2.2
     have tq : decide (q < tk) = true := by simp [hq]
     have q1 : (q : Int) < (tk : Int) := by omega
     have HQ := hid hq
     have HB2 : Hid (b2 < V2.heap.size) := hid (HTS.out b2 o2 rfl (by omega))
     clear hq hb2 hc2
     obtain ⟨ib, hi, hz0, hz1, hz2⟩ := info_parts infoOp
     generalize hLQ : L ++ tgL kind x.num tg q = LQ at *
     have HLQ : Hid (LQ.length = L.length + q) := hid (by rw [<- hLQ, List.length_append, tgL_len])
     have HSN : Hid (LQ ++ [⟨kind, x.num, tg q⟩] = L ++ tgL kind x.num tg (q + 1)) := hid (by rw [<- hLQ]; exact tgL_snoc L kind x.num tg q)
     have HRZ := hid (hZ.out.2.2.2.1.ext ((Mod.refl [] wz).alloc (.cells #[.int .i64 kind, .int .i64 x.num, .int .i64 (tg q)] 40)))
     have HVZ : Hid (V.heap.size <= wz.heap.size) := hid hZ.out.2.1.size
     clear hLQ
     go_wp2_with (at_builtin; refine wpList_append_lies _ rfl _ _ 48 rfl V.heap.size 40 ib _ 3 24 Tryz.underlying48 hi hz0 hz1 hz2 rfl (by decide) _ LQ.length _ (by rfl) HRZ.out ⟨wz.heap.size, 0, none⟩ 1 1 (OV.l ⟨kind, x.num, tg q⟩) (by rfl) (by rfl) (fun j u hu => by rw [addr_add, Nat.zero_add, (Blk.new wz 40 #[.int .i64 kind, .int .i64 x.num, .int .i64 (tg q)]).cell j]; simpa [OV.l] using hu) (by intro u hu; simp [OV.l] at hu; rcases hu with rfl | rfl | rfl <;> rfl) (by decide) (by have := HLQ.out; have := HOPL.out; have := HQ.out; have := HTK.out; unfold maxLen; omega) (by have := HLQ.out; have := HOPL.out; have := HQ.out; have := HTK.out; omega) (by have := HVZ.out; simp; omega) (wz.heap.size + 1) (by simp) ?_; intro g' cp' w4 hown' hgr' hat' hlt'; have HR5 := hid (OpR.snoc hown'); have HM5 := hid (grown_obs hgr'); have HAT : Hid ((∃ a, A2 = some a /\ a.block = g') \/ g' = wz.heap.size + 1) := hid (hat'.elim (fun h => .inl (own_at h)) .inr); clear hown' hgr' hat' hlt')
     have HVV : Hid (Ext V w4) := hid (((hZ.out.2.1.alloc _).of_ext (S := obs A2) |>.trans HM5.out).new (fun kk hkk => .inr (by
      cases A2 with
      | none => cases hkk
      | some a => have := (HRZ.out.off a rfl).1; simp [obs] at hkk; omega)))
     have HSZ : Hid (V2.heap.size <= w4.heap.size) := hid (by have h1 := HM5.out.size; have h2 := hZ.out.2.2.1; simp at h1; omega)
     have HAL : Hid (Ext wz (wz.alloc (.cells #[.int .i64 kind, .int .i64 x.num, .int .i64 (tg q)] 40))) := hid ((Mod.refl [] wz).alloc _)
     have hoff : ∀ g, g < V2.heap.size -> offA A2 g -> offA (some (⟨g', 0, none⟩ : Addr)) g := fun g hg ho a ha => by
      cases ha
      rcases HAT.out with ⟨a, h1, h2⟩ | h1
      . have := ho a h1; show g ≠ g'; omega
      . have := hZ.out.2.2.1; show g ≠ g'; omega
     have HZ5 := hid (show OpR w4 V.heap.size (some ⟨g', 0, none⟩) cp' (L ++ tgL kind x.num tg (q + 1)) from by rw [<- HSN.out]; exact HR5.out)
     go_roundw
     case rel =>
      exact ⟨q + 1, some ⟨g', 0, none⟩, cp', by go_num, by first | (rw [<- HSN.out, List.length_append]; rfl) | skip, hid ⟨HQ.out, HVV.out, HSZ.out, HZ5.out, (hZ.out.2.2.2.2.1.ext HAL.out).mod HM5.out (fun b o hb _ => offA_obs (hZ.out.2.2.2.2.2.2.1 b o hb)), hoff xb HXS.out hZ.out.2.2.2.2.2.1, fun g o hg => hoff g (by cases hg; exact HB2.out) (hZ.out.2.2.2.2.2.2.1 g o hg), (HM5.out.cell (by have := HXS.out; have := hZ.out.2.2.1; simp; omega) (offA_obs hZ.out.2.2.2.2.2.1)).trans ((HAL.out.cell (by have := HXS.out; have := hZ.out.2.2.1; omega) (by simp)).trans hZ.out.2.2.2.2.2.2.2)⟩⟩
     case measure => have := HQ.out; simp [intOf]; omega
    .
     obtain rfl : q = tk := by have := hZ.out.1; omega
     have tq : decide (q < q) = false := by simp
     clear hq
     go_wp2_with fail
     go_roundw
     case rel => exact ⟨i + 1, L ++ tgL kind x.num tg q, A2, c2, by go_num, rfl, hid ⟨HLT.out, hZ.out.2.1, hZ.out.2.2.2.1, HST.out⟩⟩
     case measure => have := HLT.out; simp [intOf]; omega
  .
   obtain rfl : i = k := by have := hS.out.1; omega
   have tc : decide (i < i) = false := by simp
   have HFIN := hid hS.out
   clear hS hlt
   go_wp2_with fail
   go_ret2
   exact .inr ⟨L, A', c', HFIN.out.2.2.2, rfl, HE.out.trans HFIN.out.2.1, HFIN.out.2.2.1.low (by have := HVS.out; omega)⟩
end
end Go.Proofs.YtmckfdmdkljomaaGreatDoor
