/-
  Security texts: Parse.
  How an item is parsed, plainly: where nothing is wrong, there is an item.
  Security texts, plainly: items that are read one behind the other.
  Security texts: the reference's readPairs.
  What is read of any bytes: names.
  What is read of any bytes: numbers.
  What is read of any bytes: hops.
  What is read of any bytes: hops, whole.
  What the reference reads of any bytes: numbers.
  What the reference reads of any bytes: hops.
  The reference's name of any item.
  What the reference reads of any bytes: a name.
-/
import Derived.Test.YtblfmokklfhklaaGreatDoorMAsbParsesCardh

namespace Go.Proofs.YtblfmokklfhklaaGreatDoor
open Go.RowKit
set_option linter.unusedVariables false
set_option linter.unusedSimpArgs false

set_option maxRecDepth 20000 in
set_option maxHeartbeats 4000000 in
theorem areadN_any {X : Nat → Prop} (t : T) (h5 : t.k ≠ 5) (h6 : t.k ≠ 6) (hk : t.k ≤ 1000) (A : Option Addr) (c : Nat) (eb : Addr) (w : World) (hf : FormAt w eb) : Calls Tryz.prog 22 #[.slice A t.k c] w (RdPost X t eb w) := by
  have HNO : Hid (rdOK t = false) := hid (by unfold rdOK; rw [decide_eq_false h5, decide_eq_false h6]; simp)
  have HE := hid ((Mod.refl [] w).alloc (.cells #[.slice none 0 0, .int .i64 0, .int .i64 0, .string ⟨#[]⟩, .int .u64 0, .int .u64 0, .slice none 0 0, .slice none 0 0] 29))
  have HB0 : Hid (Blk (w.alloc (.cells #[.slice none 0 0, .int .i64 0, .int .i64 0, .string ⟨#[]⟩, .int .u64 0, .int .u64 0, .slice none 0 0, .slice none 0 0] 29)) w.heap.size 29 (asbC zeroA zeroM)) := hid (Blk.new w 29 #[.slice none 0 0, .int .i64 0, .int .i64 0, .string ⟨#[]⟩, .int .u64 0, .int .u64 0, .slice none 0 0, .slice none 0 0])
  have HFM := hid (fun W (hW : Ext w W) => hf.ext hW)
  have t1a : (((t.k : Int)) == (5)) = false := by rw [beq_eq_false_iff_ne]; omega
  have t1b : (((t.k : Int)) = (5)) = False := eq_false (by omega)
  have t1c : (((t.k : Int)) != (5)) = true := by rw [bne_iff_ne]; omega
  have t2a : (((t.k : Int)) == (6)) = false := by rw [beq_eq_false_iff_ne]; omega
  have t2b : (((t.k : Int)) = (6)) = False := eq_false (by omega)
  have t2c : (((t.k : Int)) != (6)) = true := by rw [bne_iff_ne]; omega
  have t3a : ((t.k) == (5)) = false := by rw [beq_eq_false_iff_ne]; exact h5
  have t3b : ((t.k) = (5)) = False := eq_false (by exact h5)
  have t3c : ((t.k) != (5)) = true := by rw [bne_iff_ne]; exact h5
  have t4a : ((t.k) == (6)) = false := by rw [beq_eq_false_iff_ne]; exact h6
  have t4b : ((t.k) = (6)) = False := eq_false (by exact h6)
  have t4c : ((t.k) != (6)) = true := by rw [bne_iff_ne]; exact h6
  have k0 : (t.k : Int) ≤ 1000 := by omega
  clear h5 h6 hf hk
  go_enter Tryz.func22, Tryz.ntmps22
  go_upto_region 1 with fail
  generalize w.alloc (.cells #[.slice none 0 0, .int .i64 0, .int .i64 0, .string ⟨#[]⟩, .int .u64 0, .int .u64 0, .slice none 0 0, .slice none 0 0] 29) = V at *
  have HZC := hid (ZC.mk' zeroA zeroM)
  obtain ⟨zc, hzc⟩ : ∃ zc, asbC zeroA zeroM = zc := ⟨_, rfl⟩
  have HBZ : Hid (Blk V w.heap.size 29 zc) := hid (by rw [← hzc]; exact HB0.out)
  rw [hzc] at HZC
  clear hzc HB0
  go_upto_region 2 with fail
  have KW : Hid (∀ W, Ext w W → Calls Tryz.prog 47 #[str [105, 116, 101, 109, 115]] W (Ret (.iface 118 (.agg #[str [105, 116, 101, 109, 115], FormV eb])) W)) := hid (fun W hW => wrong_any [105, 116, 101, 109, 115] eb W (HFM.out _ hW))
  refine wp_region_held_drew (S := fun w' => Ext w w' ∧ Blk w' w.heap.size 29 zc) (by kernel_rfl) ⟨HE.out.drew, HBZ.out.drew⟩ (fun hHeld => ?_)
  generalize V.drew = y0 at *
  refine wpAnyH_take (i := 0) rfl (by kernel_rfl) (by kernel_rfl) (by kernel_rfl) (fun _ _ _ h => h) (yieldsIf_row (by rfl) 29 _ rfl _ rfl (fun W hM => hM.2) Tryz.underlying29 rfl HZC.out.i) hHeld ?_
  (try simp only [Act.put, List.getElem_toArray, List.getElem_cons_zero, List.getElem_cons_succ, List.setIfInBounds_toArray, List.set_cons_zero, List.set_cons_succ])
  refine wpAnyH_ready (rs := [1]) (by kernel_rfl) (by simp) ?_
  refine AllReadyH.cons rfl (fun K hK => ?_) AllReadyH.nil
  go_simp
  go_at_call 47
  refine (KW.out _ hHeld.1).mono ?_
  rintro x y1 ⟨rfl, hb⟩
  refine hK.out _ _ ⟨hHeld.1.trans hb, hHeld.2.ext hb⟩ (fun hHeld => ?_)
  clear hK K
  (try simp only [Act.put, List.getElem_toArray, List.getElem_cons_zero, List.getElem_cons_succ, List.setIfInBounds_toArray, List.set_cons_zero, List.set_cons_succ])
  refine wpAnyH_ready (rs := [2]) (by kernel_rfl) (by simp) ?_
  refine AllReadyH.cons rfl (fun K hK => ?_) AllReadyH.nil
  refine wp_store_mid 29 _ _ rfl w.heap.size 0 zc (by rfl) (by rfl) (hHeld.2.there (by rw [HZC.out.s]; exact Nat.le_refl 8)) HZC.out.i HZC.out.o ?_
  have hYB := setCells_all (ds := zc) hHeld.2 (Array.length_toList ..)
  have hYM := setCells_mod (b := w.heap.size) (zc : Array Value).toList 0 hHeld.1 (.inr (by omega))
  generalize hZ : World.setCells _ _ 0 _ = y2 at *
  clear hZ
  refine hK.out _ _ ⟨hYM, hYB⟩ (fun hHeld => ?_)
  clear hK K
  (try simp only [Act.put, List.getElem_toArray, List.getElem_cons_zero, List.getElem_cons_succ, List.setIfInBounds_toArray, List.set_cons_zero, List.set_cons_succ])
  refine' wpAnyH_take (i := 3) (v := _) rfl (by kernel_rfl) (by kernel_rfl) (by kernel_rfl) (fun _ _ _ h => h) (Or.inl ⟨by rfl, ?hy1⟩) hHeld ?rest1
  case hy1 => (rintro W hM; go_simp; (try with_reducible rfl))
  case rest1 =>
  (try simp only [Act.put, List.getElem_toArray, List.getElem_cons_zero, List.getElem_cons_succ, List.setIfInBounds_toArray, List.set_cons_zero, List.set_cons_succ])
  refine wpAnyH_done (by kernel_rfl) ?_ _
  clear hYB hYM
  go_wp2_with fail
  refine bodyPost_ret (results_cell2 rfl _ (by rfl) (by rfl) hHeld.2 Tryz.underlying29 rfl HZC.out.i) rfl (.inl ⟨HNO.out, zc, [105, 116, 101, 109, 115], [], ?_, hHeld.1, HZC.out⟩)
  rfl
theorem isForm_any (eb : Addr) (x : List UInt8) (l : List (List UInt8)) (w : World) (hf : FormAt w eb) : Calls Tryz.prog 23 #[errV eb (x :: l)] w (Ret (.bool true) w) := by
  have h0 : w.cell? ⟨0, 0, none⟩ = some (.iface 152 (.pointer (some eb))) := hf.1
  have KI := hid (errorsIs_any eb (x :: l) w)
  clear hf
  generalize errV eb (x :: l) = V at *
  go_enter Tryz.func23, Tryz.ntmps23
  go_wp2_with (go_at_call 53; refine KI.out.mono ?_; rintro x w1 ⟨rfl, hb⟩; have HX := hid hb; clear hb)
  go_ret
  exact Ret.mk rfl HX.out
theorem isForm_nil (eb : Addr) (w : World) (hf : FormAt w eb) : Calls Tryz.prog 23 #[.nilIface] w (Ret (.bool false) w) := by
  have h0 : w.cell? ⟨0, 0, none⟩ = some (.iface 152 (.pointer (some eb))) := hf.1
  have KI := hid (errorsIs_nil eb w)
  clear hf
  go_enter Tryz.func23, Tryz.ntmps23
  go_wp2_with (go_at_call 53; refine KI.out.mono ?_; rintro x w1 ⟨rfl, hb⟩; have HX := hid hb; clear hb)
  go_ret
  exact Ret.mk rfl HX.out
/-- What Parse tells. -/
def AParse (l : List UInt8) (w : World) (e : Ending) (w' : World) : Prop :=
  ((∀ a, ¬ isAsb l a) ∧ e = .returned (.tuple #[asbV zeroA zeroM, .int .i64 2]) ∧ Ext w w') ∨
  (∃ b m, isAsb l b ∧ (∀ a, isAsb l a → a.Eqv b) ∧ e = .returned (.tuple #[asbV b m, .int .i64 0]) ∧ Ext w w' ∧ AsL w' anyQ b m ∧ b.tk ≤ m.tc)
theorem IsL.apart {W : World} {Q : Nat → Prop} {N : Nat} (hN : ∀ j v, W.cell? ⟨N, j, none⟩ ≠ some (.bool v)) (t : T) : ∀ {A : Option Addr}, IsL W Q t A → IsL W (fun b => b ≠ N) t A := by
  induction t with
  | nil => intro A h; cases h
  | mk kind n s op k ch ih =>
    intro A h h0
    obtain ⟨b, o, hA, hb, hq, hc⟩ := h h0
    refine ⟨b, o, hA, hb, ?_, fun i hi => ?_⟩
    · rintro rfl
      obtain ⟨Ai, ci, h1, _⟩ := hc 0 h0
      exact hN _ _ h1.2.2.2.2
    · obtain ⟨Ai, ci, h1, h2⟩ := hc i hi
      exact ⟨Ai, ci, h1, ih i h2⟩
theorem aread_any {X : Nat → Prop} (t : T) (hok : t.ok) (hr : t.right 8 = true) (A : Option Addr) (c : Nat) (eb : Addr) (w : World) (hf : FormAt w eb) (h : IsL w X t A) : Calls Tryz.prog 22 #[.slice A t.k c] w (RdPost X t eb w) := by
  have hb : ∀ i, i < t.k → (t.ch i).k ≤ 1000 ∧ ∀ j, j < (t.ch i).k → ((t.ch i).ch j).k ≤ 1000 := fun i hi => by
    have h7 := kid_right (d := 7) hr hi
    exact ⟨kid_k h7, fun j hj => kid_k (kid_right (d := 6) h7 hj)⟩
  have h' : IsL w (fun b => X b ∧ b < w.heap.size) t A := IsL.weak (fun b hb hx => ⟨hx, hb⟩) _ h
  have some : 0 < t.k → ∃ b o, A = some ⟨b, o, none⟩ := fun h0 => by
    obtain ⟨b, o, _, _, h1, _⟩ := kidsA h (i := 0) h0
    exact ⟨b, o, h1⟩
  by_cases h5 : t.k = 5
  · obtain ⟨b, o, rfl⟩ := some (by omega)
    rw [h5]
    exact aread5_any t h5 hok hb b o c eb w hf h'
  by_cases h6 : t.k = 6
  · obtain ⟨b, o, rfl⟩ := some (by omega)
    rw [h6]
    exact aread6_any t h6 hok hb b o c eb w hf h'
  exact areadN_any t h5 h6 (kid_k hr) A c eb w hf
theorem wrap_no {s : List UInt8} (h : (parseR (159 :: (s ++ [255]))).2 ≠ 0) : ∀ a, ¬ isAsb s a := fun a ha => h (by
  obtain ⟨h1, h2, h3⟩ := ha
  have hsh : a.shaped = true := by
    unfold AV.right at h2
    rw [Bool.and_eq_true] at h2
    exact h2.1
  obtain ⟨i1, i2⟩ := items_seven h1 hsh
  have := parse_back (wrap_right (fun t ht => (i1 t ht).2) (by omega)) (wrap_ok (fun t ht => (i1 t ht).1) (by omega))
  rw [wrap_bytes, show (a.items.map T.bytes).flatten = s from h3] at this
  rw [this])
theorem asb_nobool {W : World} {N : Nat} (h : Blk W N 29 #[.slice none 0 0, .int .i64 0, .int .i64 0, .string ⟨#[]⟩, .int .u64 0, .int .u64 0, .slice none 0 0, .slice none 0 0]) : ∀ j v, W.cell? ⟨N, j, none⟩ ≠ some (.bool v) := fun j v hc => by
  rw [h.cell j] at hc
  rcases j with _ | _ | _ | _ | _ | _ | _ | _ | j <;> simp at hc
set_option maxRecDepth 20000 in
set_option maxHeartbeats 4000000 in
theorem aparse_bad (l : List UInt8) (hl : l.length ≤ 10000) (h : (parseR (159 :: (l ++ [255]))).2 ≠ 0) (w : World) : Calls Tryz.prog 10 #[str l] w (AParse l w) := by
  have KO4 : Hid (∀ W, Calls Tryz.prog 21 #[.int .i64 4] W (Ret (str [159]) W)) := hid (fun W => open_any 4 W)
  have KO7 : Hid (∀ W, Calls Tryz.prog 21 #[.int .i64 7] W (Ret (str [255]) W)) := hid (fun W => open_any 7 W)
  have hlen : l.length ≤ 10000 := hl
  have HLEN := hid hl
  have tk1 : True := trivial
  have tk2 : True := trivial
  have HLW : Hid ((159 :: (l ++ [255])).length ≤ 1073741824) := hid (by simp; omega)
  have KP := hid (fun W => parse_any (159 :: (l ++ [255])) HLW W)
  have HNO := hid (wrap_no h)
  have KP : Hid (∀ W, Calls Tryz.prog 20 #[str (159 :: (l ++ [255]))] W (Ret (.tuple #[itemV nulT none 0, .int .i64 ((parseR (159 :: (l ++ [255]))).1 : Int), .int .i64 (parseR (159 :: (l ++ [255]))).2]) W)) := hid (fun W => (KP.out W).mono fun e w' ⟨hb, hh⟩ => by
    rcases hh with ⟨_, rfl⟩ | ⟨h0, _⟩
    · exact Ret.mk rfl hb
    · exact absurd h0 h)
  have t1a : (((parseR (159 :: (l ++ [255]))).2) == (0)) = false := by rw [beq_eq_false_iff_ne]; exact h
  have t1b : (((parseR (159 :: (l ++ [255]))).2) = (0)) = False := eq_false (by exact h)
  have t1c : (((parseR (159 :: (l ++ [255]))).2) != (0)) = true := by rw [bne_iff_ne]; exact h
  clear h hl HLW
  generalize (parseR (159 :: (l ++ [255]))).2 = E at *
  generalize ((parseR (159 :: (l ++ [255]))).1 : Int) = NN at *
  have HE := hid ((Mod.refl [] w).alloc (.cells #[.slice none 0 0, .int .i64 0, .int .i64 0, .string ⟨#[]⟩, .int .u64 0, .int .u64 0, .slice none 0 0, .slice none 0 0] 29))
  have HB0 : Hid (Blk (w.alloc (.cells #[.slice none 0 0, .int .i64 0, .int .i64 0, .string ⟨#[]⟩, .int .u64 0, .int .u64 0, .slice none 0 0, .slice none 0 0] 29)) w.heap.size 29 #[.slice none 0 0, .int .i64 0, .int .i64 0, .string ⟨#[]⟩, .int .u64 0, .int .u64 0, .slice none 0 0, .slice none 0 0]) := hid (Blk.new w 29 #[.slice none 0 0, .int .i64 0, .int .i64 0, .string ⟨#[]⟩, .int .u64 0, .int .u64 0, .slice none 0 0, .slice none 0 0])
  go_enter Tryz.func10, Tryz.ntmps10
  go_upto_region 1 with fail
  generalize (w.alloc (.cells #[.slice none 0 0, .int .i64 0, .int .i64 0, .string ⟨#[]⟩, .int .u64 0, .int .u64 0, .slice none 0 0, .slice none 0 0] 29)) = V at *
  obtain ⟨e, he⟩ := Later.self V
  rw [he]
  clear he
  go_upto_region 2 with (first | (clear tk1; go_at_call 21; refine (Ret.later (KO4.out _)).mono ?_; rintro x _ ⟨rfl, e, rfl⟩) | (clear tk2; go_at_call 21; refine (Ret.later (KO7.out _)).mono ?_; rintro x _ ⟨rfl, e, rfl⟩) | (refine wpList_cat (by rfl) _ _ _ _ rfl _ _ rfl rfl (by (try simp only [List.length_append, List.length_cons, List.length_nil]); omega) ?_) | (go_at_call 20; refine (KP.out _).mono ?_; rintro x w1 ⟨rfl, hb⟩; have HX := hid (e.h.trans hb); clear hb))
  generalize hV1 : World.alloc w1 _ = V1
  have HX1 : Hid (Ext V V1) := hid (by rw [← hV1]; exact HX.out.alloc _)
  have HB1 := hid (HB0.out.ext HX1.out)
  have HE1 := hid (HE.out.trans HX1.out)
  clear hV1 HX HX1 e KP KO4 KO7 hlen
  obtain ⟨e, he⟩ := Later.self V1
  rw [he]
  clear he
  go_wp2_with (first | (refine wpList_store_mid rfl 29 _ _ rfl w.heap.size 0 #[.slice none 0 0, .int .i64 0, .int .i64 0, .string ⟨#[]⟩, .int .u64 0, .int .u64 0, .slice none 0 0, .slice none 0 0] (by rfl) (by rfl) ((HB1.out.later e).there (Nat.le_refl 8)) (by kernel_rfl) (by simp [Value.oneCell']) ?_))
  generalize hZZ : World.setCells _ _ _ _ = ZZ
  have HZB : Hid (Blk ZZ w.heap.size 29 #[.slice none 0 0, .int .i64 0, .int .i64 0, .string ⟨#[]⟩, .int .u64 0, .int .u64 0, .slice none 0 0, .slice none 0 0]) := hid (by rw [← hZZ]; exact setCells_all (ds := #[.slice none 0 0, .int .i64 0, .int .i64 0, .string ⟨#[]⟩, .int .u64 0, .int .u64 0, .slice none 0 0, .slice none 0 0]) (HB1.out.later e) rfl)
  have HZM : Hid (Ext w ZZ) := hid (by rw [← hZZ]; exact setCells_mod _ _ (HE1.out.trans e.h) (.inr (by omega)))
  clear hZZ
  refine bodyPost_ret (results_cell2 rfl _ (by rfl) rfl HZB.out Tryz.underlying29 rfl (by kernel_rfl)) rfl (.inl ⟨HNO.out, rfl, HZM.out⟩)
set_option maxRecDepth 20000 in
set_option maxHeartbeats 8000000 in
theorem aparse_good (l : List UInt8) (hl : l.length ≤ 10000) (h : (parseR (159 :: (l ++ [255]))).2 = 0) (eb : Addr) (w : World) (hf : FormAt w eb) : Calls Tryz.prog 10 #[str l] w (AParse l w) := by
  have KO4 : Hid (∀ W, Calls Tryz.prog 21 #[.int .i64 4] W (Ret (str [159]) W)) := hid (fun W => open_any 4 W)
  have KO7 : Hid (∀ W, Calls Tryz.prog 21 #[.int .i64 7] W (Ret (str [255]) W)) := hid (fun W => open_any 7 W)
  have hlen : l.length ≤ 10000 := hl
  have HLEN := hid hl
  have tk1 : True := trivial
  have tk2 : True := trivial
  have HLW : Hid ((159 :: (l ++ [255])).length ≤ 1073741824) := hid (by simp; omega)
  have KP := hid (fun W => parse_any (159 :: (l ++ [255])) HLW W)
  have KP : Hid (∀ W, Calls Tryz.prog 20 #[str (159 :: (l ++ [255]))] W (fun e w' => ∃ t A c, e = .returned (.tuple #[itemV t A c, .int .i64 (-1), .int .i64 0]) ∧ Ext W w' ∧ t.right 8 = true ∧ t.ok ∧ t.bytes = 159 :: (l ++ [255]) ∧ IsL w' (fun _ => True) t A)) := hid (fun W => (KP.out W).mono fun e w' ⟨hb, hh⟩ => by
    rcases hh with ⟨h0, _⟩ | ⟨_, t, A, c, rfl, ⟨hr, hok⟩, hbt, hli⟩
    · exact absurd h h0
    · exact ⟨t, A, c, rfl, hb, hr, hok, hbt, hli⟩)
  have HFM := hid (fun W (hW : Ext w W) => hf.ext hW)
  clear h hl HLW hf
  have HE := hid ((Mod.refl [] w).alloc (.cells #[.slice none 0 0, .int .i64 0, .int .i64 0, .string ⟨#[]⟩, .int .u64 0, .int .u64 0, .slice none 0 0, .slice none 0 0] 29))
  have HB0 : Hid (Blk (w.alloc (.cells #[.slice none 0 0, .int .i64 0, .int .i64 0, .string ⟨#[]⟩, .int .u64 0, .int .u64 0, .slice none 0 0, .slice none 0 0] 29)) w.heap.size 29 #[.slice none 0 0, .int .i64 0, .int .i64 0, .string ⟨#[]⟩, .int .u64 0, .int .u64 0, .slice none 0 0, .slice none 0 0]) := hid (Blk.new w 29 #[.slice none 0 0, .int .i64 0, .int .i64 0, .string ⟨#[]⟩, .int .u64 0, .int .u64 0, .slice none 0 0, .slice none 0 0])
  go_enter Tryz.func10, Tryz.ntmps10
  go_upto_region 1 with fail
  generalize (w.alloc (.cells #[.slice none 0 0, .int .i64 0, .int .i64 0, .string ⟨#[]⟩, .int .u64 0, .int .u64 0, .slice none 0 0, .slice none 0 0] 29)) = V at *
  obtain ⟨e, he⟩ := Later.self V
  rw [he]
  clear he
  go_upto_region 2 with (first | (clear tk1; go_at_call 21; refine (Ret.later (KO4.out _)).mono ?_; rintro x _ ⟨rfl, e, rfl⟩) | (clear tk2; go_at_call 21; refine (Ret.later (KO7.out _)).mono ?_; rintro x _ ⟨rfl, e, rfl⟩) | (refine wpList_cat (by rfl) _ _ _ _ rfl _ _ rfl rfl (by (try simp only [List.length_append, List.length_cons, List.length_nil]); omega) ?_) | (go_at_call 20; refine (KP.out _).mono ?_; rintro x w1 ⟨t, A, c, rfl, hb, hr, hok, hbt, hli⟩; have HX := hid (e.h.trans hb); have HR := hid hr; have HOK := hid hok; have HBT := hid hbt; have HL := hid hli; clear hb hr hok hbt hli))
  generalize hV1 : World.alloc w1 _ = V1
  have HX1 : Hid (Ext V V1) := hid (by rw [← hV1]; exact HX.out.alloc _)
  have HB1 := hid (HB0.out.ext HX1.out)
  have HT1 : Hid (Blk V1 w1.heap.size 47 (itemC t A c)) := hid (by rw [← hV1]; exact Blk.new _ _ _)
  have HNB : Hid (∀ j v, V1.cell? ⟨w.heap.size, j, none⟩ ≠ some (.bool v)) := hid (asb_nobool HB1.out)
  have HL1 : Hid (∀ W, Ext V1 W → IsL W (fun b => b ≠ w.heap.size) t A) := hid (fun W hW => IsL.ext (IsL.apart HNB.out t (by rw [← hV1]; exact HL.out.ext ((Mod.refl [] _).alloc _))) hW)
  have HE1 := hid (HE.out.trans HX1.out)
  clear hV1 HX HX1 HL HB0 e KP KO4 KO7 hlen
  generalize w1.heap.size = n1 at *
  have HCA : Hid (∀ a, isAsb l a → Kids0 t a) := hid (fun a ha => isAsb_tree ha HOK.out (T.right_up t 8 HR.out) HBT.out)
  have HLT : Hid (t.size ≤ 100000) := hid (by have := T.size_le t (T.plain_of HR.out); rw [HBT.out] at this; have h10 := HLEN.out; simp at this; omega)
  have HKI : Hid (t.k = 5 ∨ t.k = 6 → Kids t) := hid (fun hk => ⟨hk, fun i hi => T.okc HOK.out hi, fun i hi => T.right_up _ 7 (kid_right (d := 7) HR.out hi), fun i hi => Nat.le_trans (kid_size hi) HLT.out⟩)
  have KR := hid (fun W (hW : Ext V1 W) => aread_any t HOK.out HR.out A c eb W (HFM.out W (HE1.out.trans hW)) (HL1.out W hW))
  have z3 : ∀ e : Later V1, e.x.cell? ⟨n1, 3, none⟩ = some (.slice A t.k c) := HT1.out.cellL 3 rfl
  clear HT1 HL1 HE HOK HBT HLT HR
  obtain ⟨e, he⟩ := Later.self V1
  rw [he]
  clear he
  go_upto_region 4 with fail
  by_cases hrd : rdOK t = true
  case neg =>
    have hrd : rdOK t = false := by simpa using hrd
    have KR : Hid (∀ W, Ext V1 W → Calls Tryz.prog 22 #[.slice A t.k c] W (fun e w' => ∃ zc x l, e = .returned (.tuple #[.agg zc, errV eb (x :: l)]) ∧ Ext W w' ∧ ZC zc)) := hid (fun W hW => (KR.out W hW).mono fun e w' h => by
      rcases h with ⟨_, h⟩ | ⟨h1, _⟩
      · exact h
      · rw [hrd] at h1; exact absurd h1 (by decide))
    have HNO : Hid (∀ a, ¬ isAsb l a) := hid (fun a ha => by have := (HCA.out a ha).o; rw [hrd] at this; exact absurd this (by decide))
    clear hrd HCA HKI
    have tk1 : True := trivial
    have KF := hid (fun x l W (hW : Ext V1 W) => isForm_any eb x l W (HFM.out W (HE1.out.trans hW)))
    generalize t.k = tk at *
    have HAL : Hid True := hid trivial
    go_upto_region 5 with (first | (go_at_call 22; refine (KR.out _ e.h).mono ?_; rintro x w2 ⟨zc, x1, l1, rfl, hb, hzc⟩; have HX := hid (e.h.trans hb); have HZC := hid hzc; clear hb hzc) | (clear tk1; refine wpList_store_mid rfl 29 _ _ rfl w2.heap.size 0 zc (by rfl) (by rfl) ((Blk.new _ _ _).there (by rw [HZC.out.s]; exact Nat.le_refl 8)) HZC.out.i HZC.out.o ?_))
    generalize hV2 : World.setCells _ _ _ _ = V2
    have HX2 : Hid (Ext V1 V2) := hid (by rw [← hV2]; exact setCells_mod _ _ (HX.out.alloc _) (.inr HX.out.size))
    have HBR := hid (HB1.out.ext HX2.out)
    have HE2 := hid (HE1.out.trans HX2.out)
    have KF2 := hid (fun (e : Later V2) => KF.out x1 l1 e.x (HX2.out.trans e.h))
    clear hV2 HX HX2 HB1 HE1 KR KF e HZC
    generalize errV eb (x1 :: l1) = EV1 at *
    generalize w2.heap.size = n2 at *
    obtain ⟨e, he⟩ := Later.self V2
    rw [he]
    clear he
    go_upto_region 6 with (go_at_call 23; refine (Ret.later (KF2.out _)).mono ?_; rintro x _ ⟨rfl, e, rfl⟩)
    go_wp2_with (first | (refine wpList_store_mid rfl 29 _ _ rfl w.heap.size 0 #[.slice none 0 0, .int .i64 0, .int .i64 0, .string ⟨#[]⟩, .int .u64 0, .int .u64 0, .slice none 0 0, .slice none 0 0] (by rfl) (by rfl) ((HBR.out.later e).there (Nat.le_refl 8)) (by kernel_rfl) (by simp [Value.oneCell']) ?_))
    generalize hZZ : World.setCells _ _ _ _ = ZZ
    have HZB : Hid (Blk ZZ w.heap.size 29 #[.slice none 0 0, .int .i64 0, .int .i64 0, .string ⟨#[]⟩, .int .u64 0, .int .u64 0, .slice none 0 0, .slice none 0 0]) := hid (by rw [← hZZ]; exact setCells_all (ds := #[.slice none 0 0, .int .i64 0, .int .i64 0, .string ⟨#[]⟩, .int .u64 0, .int .u64 0, .slice none 0 0, .slice none 0 0]) (HBR.out.later e) rfl)
    have HZM : Hid (Ext w ZZ) := hid (by rw [← hZZ]; exact setCells_mod _ _ (HE2.out.trans e.h) (.inr (by omega)))
    clear hZZ
    refine bodyPost_ret (results_cell2 rfl _ (by rfl) rfl HZB.out Tryz.underlying29 rfl (by kernel_rfl)) rfl (.inl ⟨HNO.out, rfl, HZM.out⟩)
  have HKK := hid (HKI.out (rdOK_iff hrd).1)
  have KR : Hid (∀ W, Ext V1 W → Calls Tryz.prog 22 #[.slice A t.k c] W (fun e w' => ∃ zc m, Hid (asbC (rdA t) m = zc) ∧ e = .returned (.tuple #[.agg zc, .nilIface]) ∧ Ext W w' ∧ AsL w' (fun b => b ≠ w.heap.size) (rdA t) m ∧ (rdA t).tk ≤ m.tc)) := hid (fun W hW => (KR.out W hW).mono fun e w' h => by
    rcases h with ⟨h1, _⟩ | ⟨_, h⟩
    · rw [hrd] at h1; exact absurd h1 (by decide)
    · obtain ⟨m, h1, h2, h3, h4⟩ := h
      exact ⟨asbC (rdA t) m, m, hid rfl, h1, h2, h3.wk (fun b _ hb => hb.elim (fun h => h.1) (fun h => by have := HB1.out.lt; have := hW.size; omega)), h4⟩)
  have HWF := hid (HKK.out.wf hrd)
  have HSM := hid (HKK.out.small hrd)
  have HEQ : Hid (∀ a, isAsb l a → a.Eqv (rdA t) ∧ a.shaped = true) := hid (fun a ha => ⟨(HCA.out a ha).e, (HCA.out a ha).s⟩)
  have KF := hid (fun W (hW : Ext V1 W) => isForm_nil eb W (HFM.out W (HE1.out.trans hW)))
  clear hrd HCA HKI HKK HFM
  generalize rdA t = b at *
  generalize t.k = tk at *
  have tk1 : True := trivial
  go_upto_region 5 with (first | (go_at_call 22; refine (KR.out _ e.h).mono ?_; rintro x w2 ⟨zc, m, HZE, rfl, hb, hal, hcap⟩; have HX := hid (e.h.trans hb); have HAL := hid hal; have HCAP := hid hcap; have HZC : Hid (ZC zc) := hid (by rw [← HZE.out]; exact ZC.mk' b m); clear hb hal hcap) | (clear tk1; refine wpList_store_mid rfl 29 _ _ rfl w2.heap.size 0 zc (by rfl) (by rfl) ((Blk.new _ _ _).there (by rw [HZC.out.s]; exact Nat.le_refl 8)) HZC.out.i HZC.out.o ?_))
  generalize hV2 : World.setCells _ _ _ _ = V2
  have HX2 : Hid (Ext V1 V2) := hid (by rw [← hV2]; exact setCells_mod _ _ (HX.out.alloc _) (.inr HX.out.size))
  have HXW : Hid (Ext w2 V2) := hid (by rw [← hV2]; exact setCells_mod _ _ ((Mod.refl [] w2).alloc _) (.inr (Nat.le_refl _)))
  have HB2 : Hid (Blk V2 w2.heap.size 29 zc) := hid (by rw [← hV2]; exact setCells_all (ds := zc) (Blk.new _ _ _) (by rw [Array.length_toList, HZC.out.s]; rfl))
  have HBR := hid (HB1.out.ext HX2.out)
  have HE2 := hid (HE1.out.trans HX2.out)
  have HAL2 := hid (HAL.out.ext HXW.out)
  have KF2 := hid (fun (e : Later V2) => KF.out e.x (HX2.out.trans e.h))
  have KRI : Hid (∀ e : Later V2, Calls Tryz.prog 9 #[.agg zc] e.x (Ret (.bool b.right) e.x)) := hid (fun e => by rw [← HZE.out]; exact aRight_any b HWF.out (fun _ => HSM.out) m HCAP.out e.x ((HAL2.out.ext e.h).wk (fun _ _ _ => trivial)))
  have KBU : Hid (∀ e : Later V2, b.shaped = true → Calls Tryz.prog 18 #[.agg zc] e.x (Ret (str b.bytes) e.x)) := hid (fun e hs => by rw [← HZE.out]; exact abuild_any b HWF.out HSM.out hs m e.x ((HAL2.out.ext e.h).wk (fun _ _ _ => trivial)))
  clear hV2 HX HX2 HXW HB1 HE1 KR KF e HAL
  generalize w2.heap.size = n2 at *
  have HRL : Hid (∀ e : Later V2, Blk e.x n2 29 zc) := hid (fun e => HB2.out.later e)
  obtain ⟨e, he⟩ := Later.self V2
  rw [he]
  clear he HB2
  have tk1 : True := trivial
  have tk2 : True := trivial
  cases hr : b.right with
  | false =>
    have HNO : Hid (∀ a, ¬ isAsb l a) := hid (fun a ha => by
      obtain ⟨h1, h2⟩ := HEQ.out a ha
      have hs := h1.shaped h2
      have hk : a.rk = a.tk := (AV.shaped_iff.1 h2).2.2.2.2.2.2.1
      have hb := h1.bytes hk
      have h3 := ha.2.1
      unfold AV.right at h3 hr
      rw [hs, Bool.true_and] at hr
      rw [h2, Bool.true_and, hb, hr] at h3
      exact absurd h3 (by decide))
    rw [hr] at KRI
    clear hr HEQ KBU
    go_upto_region 6 with (first | (clear tk1; refine wpList_row (by rfl) 29 _ rfl _ rfl (HRL.out _) Tryz.underlying29 rfl HZC.out.i ?_) | (go_at_call 23; refine (Ret.later (KF2.out _)).mono ?_; rintro x _ ⟨rfl, e, rfl⟩) | (go_at_call 9; refine (Ret.later (KRI.out _)).mono ?_; rintro x _ ⟨rfl, e, rfl⟩))
    go_wp2_with (first | (refine wpList_store_mid rfl 29 _ _ rfl w.heap.size 0 #[.slice none 0 0, .int .i64 0, .int .i64 0, .string ⟨#[]⟩, .int .u64 0, .int .u64 0, .slice none 0 0, .slice none 0 0] (by rfl) (by rfl) ((HBR.out.later e).there (Nat.le_refl 8)) (by kernel_rfl) (by simp [Value.oneCell']) ?_))
    generalize hZZ : World.setCells _ _ _ _ = ZZ
    have HZB : Hid (Blk ZZ w.heap.size 29 #[.slice none 0 0, .int .i64 0, .int .i64 0, .string ⟨#[]⟩, .int .u64 0, .int .u64 0, .slice none 0 0, .slice none 0 0]) := hid (by rw [← hZZ]; exact setCells_all (ds := #[.slice none 0 0, .int .i64 0, .int .i64 0, .string ⟨#[]⟩, .int .u64 0, .int .u64 0, .slice none 0 0, .slice none 0 0]) (HBR.out.later e) rfl)
    have HZM : Hid (Ext w ZZ) := hid (by rw [← hZZ]; exact setCells_mod _ _ (HE2.out.trans e.h) (.inr (by omega)))
    clear hZZ
    refine bodyPost_ret (results_cell2 rfl _ (by rfl) rfl HZB.out Tryz.underlying29 rfl (by kernel_rfl)) rfl (.inl ⟨HNO.out, rfl, HZM.out⟩)
  | true =>
    have HSH : Hid (b.shaped = true) := hid (by unfold AV.right at hr; rw [Bool.and_eq_true] at hr; exact hr.1)
    have KBU : Hid (∀ e : Later V2, Calls Tryz.prog 18 #[.agg zc] e.x (Ret (str b.bytes) e.x)) := hid (fun e => KBU.out e HSH.out)
    rw [hr] at KRI
    have HRI := hid hr
    clear hr
    by_cases hB : b.bytes = l
    · have HIS : Hid (isAsb l b) := hid ⟨HWF.out, HRI.out, hB⟩
      rw [hB] at KBU
      clear hB
      go_upto_region 7 with (first | (clear tk1; refine wpList_row (by rfl) 29 _ rfl _ rfl (HRL.out _) Tryz.underlying29 rfl HZC.out.i ?_) | (clear tk2; refine wpList_row (by rfl) 29 _ rfl _ rfl (HRL.out _) Tryz.underlying29 rfl HZC.out.i ?_) | (go_at_call 23; refine (Ret.later (KF2.out _)).mono ?_; rintro x _ ⟨rfl, e, rfl⟩) | (go_at_call 9; refine (Ret.later (KRI.out _)).mono ?_; rintro x _ ⟨rfl, e, rfl⟩) | (go_at_call 18; refine (Ret.later (KBU.out _)).mono ?_; rintro x _ ⟨rfl, e, rfl⟩))
      have tk1 : True := trivial
      have tk2 : True := trivial
      go_wp2_with (first | (clear tk1; refine wpList_row (by rfl) 29 _ rfl _ rfl (HRL.out _) Tryz.underlying29 rfl HZC.out.i ?_) | (clear tk2; refine wpList_store_mid rfl 29 _ _ rfl w.heap.size 0 zc (by rfl) (by rfl) ((HBR.out.later e).there (by rw [HZC.out.s]; exact Nat.le_refl 8)) HZC.out.i HZC.out.o ?_))
      generalize hZZ : World.setCells _ _ _ _ = ZZ
      have HZB : Hid (Blk ZZ w.heap.size 29 zc) := hid (by rw [← hZZ]; exact setCells_all (ds := zc) (HBR.out.later e) (by rw [Array.length_toList, HZC.out.s]; rfl))
      have HZX : Hid (Mod [w.heap.size] V2 ZZ) := hid (by rw [← hZZ]; exact setCells_mod _ _ ((Mod.refl [w.heap.size] V2).trans (e.h.mono (by simp))) (.inl (by simp)))
      have HZM : Hid (Ext w ZZ) := hid (by rw [← hZZ]; exact setCells_mod _ _ (HE2.out.trans e.h) (.inr (by omega)))
      clear hZZ
      refine bodyPost_ret (results_cell2 rfl _ (by rfl) rfl HZB.out Tryz.underlying29 rfl HZC.out.i) rfl (.inr ⟨b, m, HIS.out, fun a ha => (HEQ.out a ha).1, by rw [← HZE.out]; rfl, HZM.out, ?_, HCAP.out⟩)
      exact (HAL2.out.mod HZX.out (fun k hk _ => by simpa using hk)).wk (fun _ _ _ => trivial)
    · have HNO : Hid (∀ a, ¬ isAsb l a) := hid (fun a ha => by
        obtain ⟨h1, h2⟩ := HEQ.out a ha
        have hk : a.rk = a.tk := (AV.shaped_iff.1 h2).2.2.2.2.2.2.1
        exact hB (by rw [← h1.bytes hk]; exact ha.2.2))
      have t1a : ((b.bytes) == (l)) = false := by rw [beq_eq_false_iff_ne]; exact hB
      have t1b : ((b.bytes) = (l)) = False := eq_false (by exact hB)
      have t1c : ((b.bytes) != (l)) = true := by rw [bne_iff_ne]; exact hB
      clear hB HEQ HSH
      generalize b.bytes = B at *
      go_upto_region 6 with (first | (clear tk1; refine wpList_row (by rfl) 29 _ rfl _ rfl (HRL.out _) Tryz.underlying29 rfl HZC.out.i ?_) | (clear tk2; refine wpList_row (by rfl) 29 _ rfl _ rfl (HRL.out _) Tryz.underlying29 rfl HZC.out.i ?_) | (go_at_call 23; refine (Ret.later (KF2.out _)).mono ?_; rintro x _ ⟨rfl, e, rfl⟩) | (go_at_call 9; refine (Ret.later (KRI.out _)).mono ?_; rintro x _ ⟨rfl, e, rfl⟩) | (go_at_call 18; refine (Ret.later (KBU.out _)).mono ?_; rintro x _ ⟨rfl, e, rfl⟩))
      go_wp2_with (first | (refine wpList_store_mid rfl 29 _ _ rfl w.heap.size 0 #[.slice none 0 0, .int .i64 0, .int .i64 0, .string ⟨#[]⟩, .int .u64 0, .int .u64 0, .slice none 0 0, .slice none 0 0] (by rfl) (by rfl) ((HBR.out.later e).there (Nat.le_refl 8)) (by kernel_rfl) (by simp [Value.oneCell']) ?_))
      generalize hZZ : World.setCells _ _ _ _ = ZZ
      have HZB : Hid (Blk ZZ w.heap.size 29 #[.slice none 0 0, .int .i64 0, .int .i64 0, .string ⟨#[]⟩, .int .u64 0, .int .u64 0, .slice none 0 0, .slice none 0 0]) := hid (by rw [← hZZ]; exact setCells_all (ds := #[.slice none 0 0, .int .i64 0, .int .i64 0, .string ⟨#[]⟩, .int .u64 0, .int .u64 0, .slice none 0 0, .slice none 0 0]) (HBR.out.later e) rfl)
      have HZM : Hid (Ext w ZZ) := hid (by rw [← hZZ]; exact setCells_mod _ _ (HE2.out.trans e.h) (.inr (by omega)))
      clear hZZ
      refine bodyPost_ret (results_cell2 rfl _ (by rfl) rfl HZB.out Tryz.underlying29 rfl (by kernel_rfl)) rfl (.inl ⟨HNO.out, rfl, HZM.out⟩)
theorem aparse_any (l : List UInt8) (hl : l.length ≤ 10000) (eb : Addr) (w : World) (hf : FormAt w eb) : Calls Tryz.prog 10 #[str l] w (AParse l w) := by
  by_cases h : (parseR (159 :: (l ++ [255]))).2 = 0
  · exact aparse_good l hl h eb w hf
  · exact aparse_bad l hl h w
end Go.Proofs.YtblfmokklfhklaaGreatDoor


namespace Go.Proofs.YtblfmokklfhklaaGreatDoor
set_option linter.unusedVariables false
set_option linter.unusedSimpArgs false

/-- Items' bytes. -/
def catB (L : List T) : List UInt8 := (L.map T.bytes).flatten
theorem catB_snoc (L : List T) (t : T) : catB (L ++ [t]) = catB L ++ t.bytes := by unfold catB; simp
theorem catB_cat (L : List T) : T.cat (fun i => ((L[i]?).getD T.nil).bytes) L.length = catB L := by
  have : ∀ j, j ≤ L.length → T.cat (fun i => ((L[i]?).getD T.nil).bytes) j = catB (L.take j) := by
    intro j hj
    induction j with
    | zero => rfl
    | succ j ih =>
      rw [T.cat, ih (by omega), List.getElem?_eq_getElem (by omega), List.take_add_one, List.getElem?_eq_getElem (by omega)]
      exact (catB_snoc _ _).symm
  rw [this _ (Nat.le_refl _), List.take_length]
def FltT (d : Nat) (l : List UInt8) : Prop := ∃ t : T, t.right d = true ∧ t.ok ∧ ∃ x, l = t.bytes ++ x ∧ (flt d l).1 = t.bytes.length
def endB (o : Bool) : List UInt8 := if o then [255] else []
theorem floop_tree {d : Nat} (ih : ∀ l : List UInt8, l.length < 4611686018427387904 → (flt d l).2 = 0 → FltT d l) (l : List UInt8) (hl : l.length < 4611686018427387904) (o : Bool) (n : Nat) (P : List UInt8) :
    ∀ j e (L : List T), L.length + j = 1000 → (o = false → L.length ≤ n) → (∀ t ∈ L, t.right d = true ∧ t.ok) → (∃ y, l = (P ++ catB L) ++ y ∧ e = (P ++ catB L).length) → (floop (flt d) l o n j e).2 = 0 →
    ∃ L' : List T, L'.length ≤ 1000 ∧ (o = false → L'.length = n) ∧ (∀ t ∈ L', t.right d = true ∧ t.ok) ∧ ∃ y, l = ((P ++ catB L') ++ endB o) ++ y ∧ (floop (flt d) l o n j e).1 = ((P ++ catB L') ++ endB o).length := by
  intro j
  induction j with
  | zero =>
    intro e L hj hn hL hy h
    obtain ⟨y, hy, he⟩ := hy
    unfold floop at h ⊢
    by_cases h1 : o = false ∧ n ≤ 1000
    · rw [if_pos h1]
      obtain ⟨rfl, h1⟩ := h1
      refine ⟨L, by omega, fun _ => by have := hn rfl; omega, hL, y, by rw [show endB false = [] from rfl, List.append_nil]; exact hy, by rw [show endB false = [] from rfl, List.append_nil]; exact he⟩
    rw [if_neg h1] at h ⊢
    by_cases h2 : o = true ∧ l[e]? = some 255
    · rw [if_pos h2]
      obtain ⟨rfl, h2⟩ := h2
      obtain ⟨v, hv⟩ := get_255.1 h2
      rw [hy, he, List.drop_left] at hv
      refine ⟨L, by omega, fun h => absurd h (by decide), hL, v, by rw [hy, hv, show endB true = [255] from rfl, List.append_assoc _ [255] v]; rfl, ?_⟩
      have e1 : ((P ++ catB L) ++ endB true).length = (P ++ catB L).length + 1 := by rw [List.length_append]; rfl
      rw [e1, ← he]
    · rw [if_neg h2] at h; exact absurd h (show ¬ (4 : Int) = 0 by decide)
  | succ j ihj =>
    intro e L hj hn hL hy h
    obtain ⟨y, hy, he⟩ := hy
    unfold floop at h ⊢
    by_cases h1 : o = false ∧ n ≤ 1000 - (j + 1)
    · rw [if_pos h1]
      obtain ⟨rfl, h1⟩ := h1
      refine ⟨L, by omega, fun _ => by have := hn rfl; omega, hL, y, by rw [show endB false = [] from rfl, List.append_nil]; exact hy, by rw [show endB false = [] from rfl, List.append_nil]; exact he⟩
    rw [if_neg h1] at h ⊢
    by_cases h2 : o = true ∧ l[e]? = some 255
    · rw [if_pos h2]
      obtain ⟨rfl, h2⟩ := h2
      obtain ⟨v, hv⟩ := get_255.1 h2
      rw [hy, he, List.drop_left] at hv
      refine ⟨L, by omega, fun h => absurd h (by decide), hL, v, by rw [hy, hv, show endB true = [255] from rfl, List.append_assoc _ [255] v]; rfl, ?_⟩
      have e1 : ((P ++ catB L) ++ endB true).length = (P ++ catB L).length + 1 := by rw [List.length_append]; rfl
      rw [e1, ← he]
    rw [if_neg h2] at h ⊢
    have hd : l.drop e = y := by rw [hy, he, List.drop_left]
    rw [hd] at h ⊢
    by_cases h3 : (flt d y).2 = 0
    · rw [if_pos h3] at h ⊢
      have hly : y.length ≤ l.length := by rw [hy, List.length_append]; omega
      obtain ⟨t, t1, t2, x, t3, t4⟩ := ih y (by omega) h3
      refine ihj (e + (flt d y).1) (L ++ [t]) (by rw [List.length_append]; simp; omega) (fun ho => ?_) (fun u hu => ?_) ⟨x, ?_, ?_⟩ h
      · rw [List.length_append]
        have : ¬ n ≤ 1000 - (j + 1) := fun h => h1 ⟨ho, h⟩
        simp; omega
      · rw [List.mem_append, List.mem_singleton] at hu
        rcases hu with hu | rfl
        · exact hL u hu
        · exact ⟨t1, t2⟩
      · rw [catB_snoc, hy, t3]; simp
      · rw [catB_snoc, he, t4]; simp; omega
    · rw [if_neg h3] at h; exact absurd h h3
theorem flt_tree (d : Nat) : ∀ l : List UInt8, l.length < 4611686018427387904 → (flt d l).2 = 0 → FltT d l := by
  induction d with
  | zero =>
    intro l hl h
    unfold flt at h
    split at h
    · exact absurd h (by decide)
    · split at h <;> exact absurd h (by decide)
  | succ d ih =>
    intro l hl h
    cases hr : readH l with
    | none =>
      unfold flt at h
      rw [hr] at h
      exact absurd h (show ¬ (2 : Int) = 0 by decide)
    | some q =>
      obtain ⟨sz, m, n, o⟩ := q
      have H := readH_some hr
      have hsplit : l = l.take sz ++ l.drop sz := (List.take_append_drop sz l).symm
      have e0 : flt (d + 1) l = if noK m = true then (0, 2) else if m = 0 then (sz, 0) else
        if m < 4 then (if o = true ∨ l.length - sz < n then (0, 2) else (sz + n, 0)) else
        if o = false ∧ 1000 < n then (0, 4) else floop (flt d) l o n 1000 sz := by
        conv => lhs; unfold flt
        rw [hr]
      unfold FltT
      rw [e0] at h ⊢
      by_cases hk : noK m = true
      · rw [if_pos hk] at h; exact absurd h (by decide)
      rw [if_neg hk] at h ⊢
      have hm : m = 0 ∨ m = 2 ∨ m = 3 ∨ m = 4 := by
        unfold noK at hk
        simp only [Bool.and_eq_true, bne_iff_ne, ne_eq] at hk
        omega
      by_cases h0 : m = 0
      · rw [if_pos h0]
        subst h0
        have ho : o = false := by
          cases o with
          | false => rfl
          | true => exact absurd (H.opened rfl).2.2.1 (by decide)
        obtain ⟨c1, c2⟩ := H.closed ho
        have hb : (T.mk 0 n [] false 0 fun _ => T.nil).bytes = headL 0 n := rfl
        refine ⟨T.mk 0 n [] false 0 fun _ => T.nil, ?_, ?_, l.drop sz, ?_, ?_⟩
        · unfold T.right; rw [if_neg (by omega)]; simp [T.node, T.all]
        · unfold T.ok; exact ⟨by omega, H.n64, by simp, by omega, fun i hi => absurd hi (Nat.not_lt_zero _)⟩
        · rw [hb, ← c1]; exact hsplit
        · rw [hb]; exact c2
      rw [if_neg h0] at h ⊢
      by_cases h4 : m < 4
      · rw [if_pos h4] at h ⊢
        by_cases hb : o = true ∨ l.length - sz < n
        · rw [if_pos hb] at h; exact absurd h (by decide)
        rw [if_neg hb]
        have ho : o = false := by
          cases o with
          | false => rfl
          | true => exact absurd (.inl rfl) hb
        obtain ⟨c1, c2⟩ := H.closed ho
        have hle := H.le
        have hlen : ((l.drop sz).take n).length = n := by rw [List.length_take, List.length_drop]; have : ¬ l.length - sz < n := fun h => hb (.inr h); omega
        have hmi : (m : Int) ≠ 0 := by omega
        have hbt : (T.mk (m : Int) 0 ((l.drop sz).take n) false 0 fun _ => T.nil).bytes = headL m n ++ (l.drop sz).take n := by
          unfold T.bytes
          rw [if_neg hmi, if_pos (by omega), hlen]; rfl
        refine ⟨T.mk (m : Int) 0 ((l.drop sz).take n) false 0 fun _ => T.nil, ?_, ?_, (l.drop sz).drop n, ?_, ?_⟩
        · unfold T.right; rw [if_neg (by omega)]
          have h23 : (m : Int) = 2 ∨ (m : Int) = 3 := by omega
          have hno : T.node (m : Int) 0 ((l.drop sz).take n) false 0 = true := by unfold T.node; rw [if_neg hmi, if_pos h23]; rfl
          rw [hno]; rfl
        · unfold T.ok; exact ⟨by omega, by omega, by rw [hlen]; have : ¬ l.length - sz < n := fun h => hb (.inr h); omega, by omega, fun i hi => absurd hi (Nat.not_lt_zero _)⟩
        · rw [hbt, ← c1, List.append_assoc, List.take_append_drop]; exact hsplit
        · rw [hbt, List.length_append, hlen]; show sz + n = _; omega
      rw [if_neg h4] at h ⊢
      have hm4 : m = 4 := by omega
      subst hm4
      by_cases hb : o = false ∧ 1000 < n
      · rw [if_pos hb] at h; exact absurd h (by decide)
      rw [if_neg hb] at h ⊢
      have hP : ∃ P : List UInt8, l.take sz = P ∧ P.length = sz ∧ P = (if o then [159] else headL 4 n) := by
        cases o with
        | false => exact ⟨_, rfl, by rw [List.length_take]; have := H.le; omega, (H.closed rfl).1⟩
        | true =>
          obtain ⟨o1, o2, _, o4⟩ := H.opened rfl
          subst o1
          exact ⟨_, rfl, by rw [o4]; rfl, by rw [o4]; rfl⟩
      obtain ⟨P, p1, p2, p3⟩ := hP
      obtain ⟨L', l1, l2, l3, y, l4, l5⟩ := floop_tree ih l hl o n P 1000 sz [] (by rfl) (fun _ => Nat.zero_le _) (fun t ht => absurd ht (by simp)) ⟨l.drop sz, by rw [show catB [] = [] from rfl, List.append_nil, ← p1]; exact hsplit, by rw [show catB [] = [] from rfl, List.append_nil, p2]⟩ h
      have hbt : (T.mk 4 0 [] o L'.length fun i => (L'[i]?).getD T.nil).bytes = (P ++ catB L') ++ endB o := by
        unfold T.bytes
        rw [if_neg (by decide), if_neg (by decide), catB_cat, p3, ← List.append_assoc]
        cases o with
        | false => rw [← l2 rfl]; rfl
        | true => rfl
      refine ⟨T.mk 4 0 [] o L'.length fun i => (L'[i]?).getD T.nil, ?_, ?_, y, by rw [hbt]; exact l4, by rw [hbt]; exact l5⟩
      · unfold T.right; rw [if_neg (by omega), Bool.and_eq_true, T.all_iff]
        refine ⟨by simp [T.node, l1], fun i hi => ?_⟩
        show ((L'[i]?).getD T.nil).right d = true
        rw [List.getElem?_eq_getElem hi]
        exact (l3 _ (List.getElem_mem _)).1
      · unfold T.ok
        refine ⟨by omega, by omega, by simp, by omega, fun i hi => ?_⟩
        show ((L'[i]?).getD T.nil).ok
        rw [List.getElem?_eq_getElem hi]
        exact (l3 _ (List.getElem_mem _)).2
end Go.Proofs.YtblfmokklfhklaaGreatDoor


namespace Go.Proofs.YtblfmokklfhklaaGreatDoor
open Go.RowKit
set_option linter.unusedVariables false
set_option linter.unusedSimpArgs false

abbrev RO (L : List T) : Prop := ∀ t ∈ L, t.right 8 = true ∧ t.ok
theorem bytes_some {t : T} (hp : t.plain = true) (hok : t.ok) : t.bytes ≠ [] := fun h => by
  have := T.readH_bytes t hp hok []
  rw [h] at this
  exact absurd this (by simp [readH])
theorem pre_items : ∀ (L I : List T) (x : List UInt8), RO L → RO I → catB I = catB L ++ x → ∃ I2 : List T, I.length = L.length + I2.length ∧ RO I2 ∧ catB I2 = x ∧ ∀ (i : Nat) (u v : T), I[i]? = some u → L[i]? = some v → u.same v = true := by
  intro L
  induction L with
  | nil => intro I x _ hI h; exact ⟨I, by simp, hI, h, fun i u v _ hv => by simp at hv⟩
  | cons t L ih =>
    intro I x hL hI h
    have ht := hL t List.mem_cons_self
    cases I with
    | nil =>
      exfalso
      have : (t.bytes ++ catB L) ++ x = [] := h.symm
      simp at this
      exact bytes_some (T.plain_of ht.1) ht.2 this.1
    | cons u I =>
      have hu := hI u List.mem_cons_self
      have e : u.bytes ++ catB I = t.bytes ++ (catB L ++ x) := by rw [← List.append_assoc]; exact h
      obtain ⟨e1, e2⟩ := T.bytes_inj u t (T.plain_of hu.1) (T.plain_of ht.1) hu.2 ht.2 _ _ e
      obtain ⟨I2, h1, h2, h3, h4⟩ := ih I x (fun t ht => hL t (List.mem_cons_of_mem _ ht)) (fun t ht => hI t (List.mem_cons_of_mem _ ht)) e2
      refine ⟨I2, by simp; omega, h2, h3, fun i p q hp hq => ?_⟩
      cases i with
      | zero => simp at hp hq; subst hp hq; exact e1
      | succ i => simp at hp hq; exact h4 i p q hp hq
theorem asb_items {s : List UInt8} {a : AV} (h : isAsb s a) : RO a.items ∧ (a.items.length = 5 ∨ a.items.length = 6) ∧ catB a.items = s ∧ a.shaped = true := by
  obtain ⟨h1, h2, h3⟩ := h
  have hsh : a.shaped = true := by
    unfold AV.right at h2
    rw [Bool.and_eq_true] at h2
    exact h2.1
  obtain ⟨i1, i2⟩ := items_seven h1 hsh
  exact ⟨fun t ht => ⟨T.right_up t 7 (i1 t ht).2, (i1 t ht).1⟩, i2, h3, hsh⟩
theorem asb_no_fault {s : List UInt8} {L : List T} {p : Nat} (hL : RO L) (hp : p < s.length) (hc : catB L = s.take p) (he : (flt 8 (s.drop p)).2 ≠ 0) : ∀ a, ¬ isAsb s a := fun a ha => he (by
  obtain ⟨h1, _, h3, _⟩ := asb_items ha
  obtain ⟨I2, e1, e2, e3, _⟩ := pre_items L a.items (s.drop p) hL h1 (by rw [h3, hc, List.take_append_drop])
  cases I2 with
  | nil =>
    exfalso
    have : s.drop p = [] := e3.symm
    rw [List.drop_eq_nil_iff] at this
    omega
  | cons u R =>
    have hu := e2 u List.mem_cons_self
    have e : s.drop p = u.bytes ++ catB R := e3.symm
    rw [e, flt_bytes u 8 hu.1 hu.2])
theorem asb_no_count {s : List UInt8} {L : List T} {p : Nat} (hL : RO L) (hp : p ≤ s.length) (hc : catB L = s.take p) (h : p = s.length ∨ L.length = 7) (h5 : L.length ≠ 5) (h6 : L.length ≠ 6) : ∀ a, ¬ isAsb s a := fun a ha => by
  obtain ⟨h1, h2, h3, _⟩ := asb_items ha
  obtain ⟨I2, e1, e2, e3, _⟩ := pre_items L a.items (s.drop p) hL h1 (by rw [h3, hc, List.take_append_drop])
  rcases h with h | h
  · subst h
    rw [List.drop_length] at e3
    cases I2 with
    | nil => simp at e1; omega
    | cons u R =>
      have hu := e2 u List.mem_cons_self
      have : u.bytes ++ catB R = [] := e3
      simp at this
      exact bytes_some (T.plain_of hu.1) hu.2 this.1
  · omega
/-- The items that were read, as one. -/
def rowT (L : List T) : T := T.mk 4 0 [] false L.length (chL L)
theorem chL_get {L : List T} {i : Nat} (h : i < L.length) : chL L i = L[i] := by unfold chL; rw [List.getElem?_eq_getElem h]; rfl
theorem bytes_of_mem {L : List T} {t : T} (h : t ∈ L) : t.bytes.length ≤ (catB L).length := by
  induction L with
  | nil => cases h
  | cons u L ih =>
    have e : catB (u :: L) = u.bytes ++ catB L := rfl
    rw [e, List.length_append]
    cases h with
    | head => omega
    | tail _ h => have := ih h; omega
theorem row_kids {s : List UInt8} {L : List T} (hL : RO L) (hc : catB L = s) (hs : s.length ≤ 10000) (hk : L.length = 5 ∨ L.length = 6) : Kids (rowT L) := by
  have hh : ∀ i, i < L.length → chL L i ∈ L := fun i hi => by rw [chL_get hi]; exact List.getElem_mem _
  refine ⟨hk, fun i hi => (hL _ (hh i hi)).2, fun i hi => (hL _ (hh i hi)).1, fun i hi => ?_⟩
  have h1 := T.size_le _ (T.plain_of (hL _ (hh i hi)).1)
  have h2 := bytes_of_mem (hh i hi)
  rw [hc] at h2
  show (chL L i).size ≤ 100000
  omega
theorem asb_row {s : List UInt8} {L : List T} {a : AV} (hL : RO L) (hc : catB L = s) (ha : isAsb s a) : rdOK (rowT L) = true ∧ a.Eqv (rdA (rowT L)) ∧ a.Eqv (r15A (rowT L)) := by
  obtain ⟨h1, h2, h3, h4⟩ := asb_items ha
  obtain ⟨I2, e1, e2, e3, e4⟩ := pre_items L a.items [] hL h1 (by rw [h3, hc, List.append_nil])
  have hI : I2 = [] := by
    cases I2 with
    | nil => rfl
    | cons u R =>
      exfalso
      have hu := e2 u List.mem_cons_self
      have : u.bytes ++ catB R = [] := e3
      simp at this
      exact bytes_some (T.plain_of hu.1) hu.2 this.1
  subst hI
  have e1 : a.items.length = L.length := by simpa using e1
  have hh : ∀ i, i < L.length → chL L i ∈ L := fun i hi => by rw [chL_get hi]; exact List.getElem_mem _
  refine rd_of h4 (fun i hi => ⟨(hL _ (hh i hi)).2, (hL _ (hh i hi)).1⟩) e1.symm (fun i x hx => ?_)
  have hi : i < L.length := by
    rcases Nat.lt_or_ge i a.items.length with h | h
    · omega
    · rw [List.getElem?_eq_none h] at hx; exact absurd hx (by simp)
  refine e4 i x _ hx ?_
  show L[i]? = some (chL L i)
  rw [chL_get hi, List.getElem?_eq_getElem hi]
theorem catB_step {s : List UInt8} {L : List T} {p : Nat} {t : T} {x : List UInt8} (hc : catB L = s.take p) (h : s.drop p = t.bytes ++ x) : catB (L ++ [t]) = s.take (p + t.bytes.length) ∧ (s.drop p).take t.bytes.length = t.bytes ∧ (p ≤ s.length → p + t.bytes.length ≤ s.length) := by
  have e : (s.drop p).take t.bytes.length = t.bytes := by rw [h, List.take_left]
  refine ⟨?_, e, fun hp => ?_⟩
  · rw [catB_snoc, hc, List.take_add, e]
  · have : (s.drop p).length = (t.bytes ++ x).length := by rw [h]
    rw [List.length_drop, List.length_append] at this
    omega
end Go.Proofs.YtblfmokklfhklaaGreatDoor


namespace Go.Proofs.YtblfmokklfhklaaGreatDoor
open Go.RowKit
set_option linter.unusedVariables false
set_option linter.unusedSimpArgs false

def P15Post (Q : Nat → Prop) (t : T) (w : World) (e : Ending) (w' : World) : Prop := ∃ A' c', e = .returned (.slice A' (r15P t).k c') ∧ Ext w w' ∧ (r15P t).k ≤ c' ∧ PsL w' (NewQ Q w.heap.size) A' (r15P t)
set_option maxRecDepth 20000 in
set_option maxHeartbeats 8000000 in
theorem r15readP_any {Q : Nat → Prop} (t : T) (hok : t.ok) (hk : t.k ≤ 1000) (A : Option Addr) (c : Nat) (w : World) (h : IsL w Q t A) : Calls Tryz.prog 32 #[itemV t A c] w (P15Post Q t w) := by
  have HK := hid hk
  have HOK := hid hok
  have k0 : (t.k : Int) ≤ 1000 := by omega
  have HE := hid ((Mod.refl [] w).alloc (.cells (itemC t A c) 47))
  have HB := hid (Blk.new w 47 (itemC t A c))
  have HL := hid ((IsL.weak (fun b hb hq => ⟨hq, hb⟩) _ h : IsL w (fun b => Q b ∧ b < w.heap.size) t A).ext HE.out)
  have HSW : Hid (w.heap.size + 1 = (w.alloc (.cells (itemC t A c) 47)).heap.size) := hid (by simp)
  clear h hk hok
  go_enter Tryz.func32, Tryz.ntmps32
  go_upto_region 1 with fail
  generalize w.alloc (.cells (itemC t A c) 47) = V at *
  have HW0 : Hid (Ext w V) := HE
  go_upto_region 3 with fail
  go_loopw [3, 4] (fun s3 s4 wr => ∃ (i : Nat) (A' : Option Addr) (c' : Nat) (ac : Nat → Option Addr × Nat), s4 = .int .i64 (i : Int) ∧ s3 = .slice A' i c' ∧ Hid (i ≤ t.k ∧ Ext V wr ∧ RwG pairH 68 wr (fun b => Q b ∧ b < w.heap.size) (w.heap.size + 1) A' c' i (pairP t) ac ∧ T.all (fun j => decide ((t.ch j).k = 2)) i = true)) (fun _ s4 _ => t.k - (intOf s4).toNat)
  case atStart => exact ⟨0, none, 0, fun _ => (none, 0), rfl, rfl, (show Hid _ from ⟨Nat.zero_le _, Mod.refl _ _, RwG.nil, rfl⟩)⟩
  case round =>
    obtain ⟨i, A', c', ac, rfl, rfl, hS⟩ := hrel
    rename World => wr
    have i0 : (0 : Int) ≤ (i : Int) := by omega
    have z3 : wr.cell? ⟨w.heap.size, 3, none⟩ = some (.slice A t.k c) := (HB.out.ext hS.out.2.1).cell 3
    by_cases hlt : i < t.k
    · obtain ⟨b, o, Ai, ci, rfl, hb, _, hat, hI⟩ := kidsA (HL.out.ext hS.out.2.1) (i := i) hlt
      obtain ⟨q0, q1, q2, q3, q4⟩ := hat
      have tc : decide (i < t.k) = true := by simp [hlt]
      have i1 : (i : Int) < (t.k : Int) := by omega
      have HLT := hid hlt
      have HI := hid hI
      clear hlt hI hb
      go_upto_region 6 with fail
      generalize hW1 : World.alloc wr _ = W1
      have HG1 : Hid (Blk W1 wr.heap.size 47 (itemC (t.ch i) Ai ci)) := hid (by rw [← hW1]; exact Blk.new _ _ _)
      have hS1 : Hid (i ≤ t.k ∧ Ext V W1 ∧ RwG pairH 68 W1 (fun b => Q b ∧ b < w.heap.size) (w.heap.size + 1) A' c' i (pairP t) ac ∧ T.all (fun j => decide ((t.ch j).k = 2)) i = true) := hid (by
        have h := hS.out
        rw [← hW1]; exact ⟨h.1, h.2.1.alloc _, h.2.2.1.ext ((Mod.refl [] _).alloc _), h.2.2.2⟩)
      have HI1 : Hid (IsL W1 (fun b => Q b ∧ b < w.heap.size) (t.ch i) Ai) := hid (by rw [← hW1]; exact HI.out.ext ((Mod.refl [] _).alloc _))
      have HAG : Hid (∀ g, A' = some g → g.block < wr.heap.size) := hid (fun g hg => (hS.out.2.2.1.off g hg).2)
      clear hW1 hS q0 q1 q2 q3 q4 HI z3
      generalize wr.heap.size = G at *
      have g3 : W1.cell? ⟨G, 3, none⟩ = some (.slice Ai (t.ch i).k ci) := HG1.out.cell 3
      by_cases hk2 : (t.ch i).k = 2
      case neg =>
        have HN : Hid (r15P t = ⟨0, pairP t⟩) := hid (by unfold r15P; rw [if_neg]; rw [Bool.not_eq_true]; exact all_no HLT.out (decide_eq_false hk2))
        have u1a : ((((t.ch i).k : Int)) == (2)) = false := by rw [beq_eq_false_iff_ne]; omega
        have u1b : ((((t.ch i).k : Int)) = (2)) = False := eq_false (by omega)
        have u1c : ((((t.ch i).k : Int)) != (2)) = true := by rw [bne_iff_ne]; omega
        have u2a : (((t.ch i).k) == (2)) = false := by rw [beq_eq_false_iff_ne]; exact hk2
        have u2b : (((t.ch i).k) = (2)) = False := eq_false (by exact hk2)
        have u2c : (((t.ch i).k) != (2)) = true := by rw [bne_iff_ne]; exact hk2
        clear hk2
        go_wp2_with fail
        go_ret
        exact ⟨none, 0, by rw [HN.out]; rfl, HE.out.trans hS1.out.2.1, by rw [HN.out]; exact Nat.le_refl 0, by rw [HN.out]; exact fun h => absurd h (Nat.lt_irrefl 0)⟩
      obtain ⟨b2, o2, A0, c0, rfl, hb2, hq2, hat0, hI0⟩ := kidsA HI1.out (i := 0) (by omega)
      obtain ⟨b3, o3, A1, c1, h3, hb3, hq3, hat1, hI1⟩ := kidsA HI1.out (i := 1) (by omega)
      simp only [Option.some.injEq, Addr.mk.injEq, and_true] at h3
      obtain ⟨rfl, rfl⟩ := h3
      have HX0 := hid hat0
      have HX1 := hid hat1
      have HIL1 := hid hI1
      have HB2 : Hid (b2 < W1.heap.size ∧ b2 < w.heap.size) := hid ⟨hb2, hq2.2⟩
      have HK2 := hid hk2
      rw [hk2] at g3
      clear hat0 hat1 hI0 hI1 hb2 hb3 hq2 hq3 hk2
      have HOA : Hid (G ∉ obs A' ∧ b2 ∉ obs A') := hid ⟨offA_obs (fun g hg => by have := HAG.out g hg; omega), offA_obs (fun g hg => by have := (hS1.out.2.2.1.off g hg).1; have := HB2.out.2; omega)⟩
      have HZ0 : Hid (∀ W, Mod (obs A') W1 W → W.cell? ⟨G, 3, none⟩ = some (.slice (some ⟨b2, o2, none⟩) 2 ci)) := hid (fun W hW => (hW.cell HG1.out.lt HOA.out.1).trans g3)
      have HZ1 : Hid (∀ W, Mod (obs A') W1 W → W.cell? ⟨b2, o2 + 1, none⟩ = some (.int .u64 (((t.ch i).ch 0).n : Int))) := hid (fun W hW => by have := ((HX0.out).mod hW HB2.out.1 HOA.out.2).2.1; rwa [show o2 + 0 * 5 + 1 = o2 + 1 by omega] at this)
      have HZ2 : Hid (∀ W, Mod (obs A') W1 W → W.rangeAt b2 (o2 + 5) [.int .i64 ((t.ch i).ch 1).kind, .int .u64 (((t.ch i).ch 1).n : Int), str ((t.ch i).ch 1).s, .slice A1 ((t.ch i).ch 1).k c1, .bool ((t.ch i).ch 1).op]) := hid (fun W hW => by have := ((HX1.out).mod hW HB2.out.1 HOA.out.2).range; rwa [show o2 + 1 * 5 = o2 + 5 by omega] at this)
      have HN0 : Hid (((t.ch i).ch 0).n < 18446744073709551616) := hid (kid_n (T.okc (T.okc HOK.out HLT.out) (by rw [HK2.out]; omega)))
      have HWX : Hid (IntKind.i64.wrap (min (((t.ch i).ch 0).n : Int) 65536) = (pairP t i).id) := hid (by show _ = min (((t.ch i).ch 0).n : Int) 65536; rw [IntWalk.i64_in _ (by omega)])
      have k7 : (0 : Int) ≤ (((t.ch i).ch 0).n : Int) := by omega
      go_upto_region 8 with fail
      clear g3
      refine wp_region_held_drew (S := fun w' => Mod (obs A') W1 w') (by kernel_rfl) (Mod.refl _ _).drew (fun hHeld => ?_)
      have hR9 := hS1.out.2.2.1.ext ((Mod.refl [] W1).drew)
      generalize W1.drew = y0 at *
      refine' wpAnyH_take (i := 0) (v := _) rfl (by kernel_rfl) (by kernel_rfl) (by kernel_rfl) (fun _ _ _ h => h) (Or.inl ⟨by rfl, ?hy1⟩) hHeld ?rest1
      case hy1 => (rintro W hM; go_simp; (try with_reducible rfl))
      case rest1 =>
      (try simp only [Act.put, List.getElem_toArray, List.getElem_cons_zero, List.getElem_cons_succ, List.setIfInBounds_toArray, List.set_cons_zero, List.set_cons_succ])
      refine' wpAnyH_take (i := 1) (v := _) rfl (by kernel_rfl) (by kernel_rfl) (by kernel_rfl) (fun _ _ _ h => h) (Or.inl ⟨by rfl, ?hy2⟩) hHeld ?rest2
      case hy2 => (rintro W hM; go_simp; (try with_reducible rfl))
      case rest2 =>
      (try simp only [Act.put, List.getElem_toArray, List.getElem_cons_zero, List.getElem_cons_succ, List.setIfInBounds_toArray, List.set_cons_zero, List.set_cons_succ])
      refine' wpAnyH_take (i := 2) (v := _) rfl (by kernel_rfl) (by kernel_rfl) (by kernel_rfl) (fun _ _ _ h => h) (Or.inl ⟨by rfl, ?hy3⟩) hHeld ?rest3
      case hy3 => (rintro W hM; have q := HZ0.out W hM; go_simp; (try with_reducible rfl))
      case rest3 =>
      (try simp only [Act.put, List.getElem_toArray, List.getElem_cons_zero, List.getElem_cons_succ, List.setIfInBounds_toArray, List.set_cons_zero, List.set_cons_succ])
      refine' wpAnyH_take (i := 3) (v := _) rfl (by kernel_rfl) (by kernel_rfl) (by kernel_rfl) (fun _ _ _ h => h) (Or.inl ⟨by rfl, ?hy4⟩) hHeld ?rest4
      case hy4 => (rintro W hM; go_simp; (try with_reducible rfl))
      case rest4 =>
      (try simp only [Act.put, List.getElem_toArray, List.getElem_cons_zero, List.getElem_cons_succ, List.setIfInBounds_toArray, List.set_cons_zero, List.set_cons_succ])
      refine' wpAnyH_take (i := 4) (v := _) rfl (by kernel_rfl) (by kernel_rfl) (by kernel_rfl) (fun _ _ _ h => h) (Or.inl ⟨by rfl, ?hy5⟩) hHeld ?rest5
      case hy5 => (rintro W hM; go_simp; (try with_reducible rfl))
      case rest5 =>
      (try simp only [Act.put, List.getElem_toArray, List.getElem_cons_zero, List.getElem_cons_succ, List.setIfInBounds_toArray, List.set_cons_zero, List.set_cons_succ])
      refine' wpAnyH_take (i := 5) (v := _) rfl (by kernel_rfl) (by kernel_rfl) (by kernel_rfl) (fun _ _ _ h => h) (Or.inl ⟨by rfl, ?hy6⟩) hHeld ?rest6
      case hy6 => (rintro W hM; have q := HZ1.out W hM; go_simp; (try with_reducible rfl))
      case rest6 =>
      (try simp only [Act.put, List.getElem_toArray, List.getElem_cons_zero, List.getElem_cons_succ, List.setIfInBounds_toArray, List.set_cons_zero, List.set_cons_succ])
      refine' wpAnyH_take (i := 6) (v := _) rfl (by kernel_rfl) (by kernel_rfl) (by kernel_rfl) (fun _ _ _ h => h) (Or.inl ⟨by rfl, ?hy7⟩) hHeld ?rest7
      case hy7 => (rintro W hM; go_simp; (try with_reducible rfl))
      case rest7 =>
      (try simp only [Act.put, List.getElem_toArray, List.getElem_cons_zero, List.getElem_cons_succ, List.setIfInBounds_toArray, List.set_cons_zero, List.set_cons_succ])
      refine' wpAnyH_take (i := 7) (v := _) rfl (by kernel_rfl) (by kernel_rfl) (by kernel_rfl) (fun _ _ _ h => h) (Or.inl ⟨by rfl, ?hy8⟩) hHeld ?rest8
      case hy8 => (rintro W hM; go_simp; (try with_reducible rfl))
      case rest8 =>
      (try simp only [Act.put, List.getElem_toArray, List.getElem_cons_zero, List.getElem_cons_succ, List.setIfInBounds_toArray, List.set_cons_zero, List.set_cons_succ])
      refine' wpAnyH_take (i := 8) (v := _) rfl (by kernel_rfl) (by kernel_rfl) (by kernel_rfl) (fun _ _ _ h => h) (Or.inl ⟨by rfl, ?hy9⟩) hHeld ?rest9
      case hy9 => (rintro W hM; go_simp; (try with_reducible rfl))
      case rest9 =>
      (try simp only [Act.put, List.getElem_toArray, List.getElem_cons_zero, List.getElem_cons_succ, List.setIfInBounds_toArray, List.set_cons_zero, List.set_cons_succ])
      refine' wpAnyH_take (i := 9) (v := _) rfl (by kernel_rfl) (by kernel_rfl) (by kernel_rfl) (fun _ _ _ h => h) (Or.inl ⟨by rfl, ?hy10⟩) hHeld ?rest10
      case hy10 => (rintro W hM; have q := HZ0.out W hM; go_simp; (try with_reducible rfl))
      case rest10 =>
      (try simp only [Act.put, List.getElem_toArray, List.getElem_cons_zero, List.getElem_cons_succ, List.setIfInBounds_toArray, List.set_cons_zero, List.set_cons_succ])
      refine' wpAnyH_take (i := 10) (v := _) rfl (by kernel_rfl) (by kernel_rfl) (by kernel_rfl) (fun _ _ _ h => h) (Or.inl ⟨by rfl, ?hy11⟩) hHeld ?rest11
      case hy11 => (rintro W hM; go_simp; (try with_reducible rfl))
      case rest11 =>
      (try simp only [Act.put, List.getElem_toArray, List.getElem_cons_zero, List.getElem_cons_succ, List.setIfInBounds_toArray, List.set_cons_zero, List.set_cons_succ])
      refine wpAnyH_take (i := 11) rfl (by kernel_rfl) (by kernel_rfl) (by kernel_rfl) (fun _ _ _ h => h) (yieldsIf_mid (by rfl) 47 _ rfl b2 (o2 + 5) rfl [.int .i64 ((t.ch i).ch 1).kind, .int .u64 (((t.ch i).ch 1).n : Int), str ((t.ch i).ch 1).s, .slice A1 ((t.ch i).ch 1).k c1, .bool ((t.ch i).ch 1).op] (fun W hM => HZ2.out W hM) Tryz.underlying47 rfl (by kernel_rfl)) hHeld ?_
      (try simp only [Act.put, List.getElem_toArray, List.getElem_cons_zero, List.getElem_cons_succ, List.setIfInBounds_toArray, List.set_cons_zero, List.set_cons_succ])
      refine' wpAnyH_take (i := 12) (v := _) rfl (by kernel_rfl) (by kernel_rfl) (by kernel_rfl) (fun _ _ _ h => h) (Or.inl ⟨by rfl, ?hy12⟩) hHeld ?rest12
      case hy12 => (rintro W hM; go_simp; (try with_reducible rfl))
      case rest12 =>
      (try simp only [Act.put, List.getElem_toArray, List.getElem_cons_zero, List.getElem_cons_succ, List.setIfInBounds_toArray, List.set_cons_zero, List.set_cons_succ])
      refine wpAnyH_ready (rs := [13]) (by kernel_rfl) (by simp) ?_
      refine AllReadyH.cons rfl (fun K hK => ?_) AllReadyH.nil
      go_simp
      have hQ2 : Blk (World.alloc y0 (.cells #[.int .i64 (IntKind.i64.wrap (min (((t.ch i).ch 0).n : Int) 65536)), .int .i64 ((t.ch i).ch 1).kind, .int .u64 (((t.ch i).ch 1).n : Int), str ((t.ch i).ch 1).s, .slice A1 ((t.ch i).ch 1).k c1, .bool ((t.ch i).ch 1).op] 68)) y0.heap.size 68 #[.int .i64 (IntKind.i64.wrap (min (((t.ch i).ch 0).n : Int) 65536)), .int .i64 ((t.ch i).ch 1).kind, .int .u64 (((t.ch i).ch 1).n : Int), str ((t.ch i).ch 1).s, .slice A1 ((t.ch i).ch 1).k c1, .bool ((t.ch i).ch 1).op] := Blk.new _ _ _
      have hXX : Ext y0 (World.alloc y0 (.cells #[.int .i64 (IntKind.i64.wrap (min (((t.ch i).ch 0).n : Int) 65536)), .int .i64 ((t.ch i).ch 1).kind, .int .u64 (((t.ch i).ch 1).n : Int), str ((t.ch i).ch 1).s, .slice A1 ((t.ch i).ch 1).k c1, .bool ((t.ch i).ch 1).op] 68)) := (Mod.refl [] _).alloc _
      generalize World.alloc y0 (.cells #[.int .i64 (IntKind.i64.wrap (min (((t.ch i).ch 0).n : Int) 65536)), .int .i64 ((t.ch i).ch 1).kind, .int .u64 (((t.ch i).ch 1).n : Int), str ((t.ch i).ch 1).s, .slice A1 ((t.ch i).ch 1).k c1, .bool ((t.ch i).ch 1).op] 68) = y1 at *
      have hR9 := hR9.ext hXX
      refine hK.out _ _ (hHeld.trans (hXX.mono (by simp))) (fun hHeld => ?_)
      clear hK K
      (try simp only [Act.put, List.getElem_toArray, List.getElem_cons_zero, List.getElem_cons_succ, List.setIfInBounds_toArray, List.set_cons_zero, List.set_cons_succ])
      generalize y0.heap.size = gq at *
      refine wpAnyH_ready (rs := [14]) (by kernel_rfl) (by simp) ?_
      refine AllReadyH.cons rfl (fun K hK => ?_) AllReadyH.nil
      have hI : pairH.hang y1 (fun b => (Q b ∧ b < w.heap.size) ∧ offA A' b) (pairP t i) (A1, c1) := IsL.weak (fun b _ hb => ⟨hb, fun g hg => by have hb2 : b < w.heap.size := hb.2; have := (hS1.out.2.2.1.off g hg).1; omega⟩) _ (IsL.mod hHeld (fun k hk _ => offA_obs (fun g hg => by have hk2 : k < w.heap.size := hk.2; have := (hS1.out.2.2.1.off g hg).1; omega)) _ HIL1.out)
      obtain ⟨ib, hi, hz0, hz1, hz2⟩ := info_parts infoPair
      refine wp_append_lies _ _ _ 26 (by rfl) (w.heap.size + 1) 68 ib _ 6 72 Tryz.underlying26 hi hz0 hz1 hz2 (by rfl) (by decide) _ i _ (by rfl) hR9.own ⟨gq, 0, none⟩ 1 1 [.int .i64 (IntKind.i64.wrap (min (((t.ch i).ch 0).n : Int) 65536)), .int .i64 ((t.ch i).ch 1).kind, .int .u64 (((t.ch i).ch 1).n : Int), str ((t.ch i).ch 1).s, .slice A1 ((t.ch i).ch 1).k c1, .bool ((t.ch i).ch 1).op] (by rfl) (by rfl) ?gnew ?gone (by decide) ?gm ?gb ?gbase (y1.heap.size) rfl ?gk
      case gnew =>
        intro j' u hu
        rw [addr_add, Nat.zero_add, hQ2.cell j']
        simpa using hu
      case gone => intro u hu; simp at hu; rcases hu with rfl | rfl | rfl | rfl | rfl | rfl <;> rfl
      case gm => have := HLT.out; have := HK.out; unfold maxLen; omega
      case gb => have := HLT.out; have := HK.out; omega
      case gbase => have := HSW.out; have := hS1.out.2.1.size; have := hHeld.size; omega
      intro g' cp' y2 hown' hgr' hat' hlt'
      rw [HWX.out] at hown'
      obtain ⟨ac', hR5⟩ := hR9.append hI rfl hown' hgr' hat'
      refine hK.out _ _ (hHeld.trans (grown_obs hgr')) (fun hHeld => ?_)
      clear hK K
      (try simp only [Act.put, List.getElem_toArray, List.getElem_cons_zero, List.getElem_cons_succ, List.setIfInBounds_toArray, List.set_cons_zero, List.set_cons_succ])
      refine' wpAnyH_take (i := 15) (v := _) rfl (by kernel_rfl) (by kernel_rfl) (by kernel_rfl) (fun _ _ _ h => h) (Or.inl ⟨by rfl, ?hy13⟩) hHeld ?rest13
      case hy13 => (rintro W hM; go_simp; (try with_reducible rfl))
      case rest13 =>
      (try simp only [Act.put, List.getElem_toArray, List.getElem_cons_zero, List.getElem_cons_succ, List.setIfInBounds_toArray, List.set_cons_zero, List.set_cons_succ])
      refine wpAnyH_done (by kernel_rfl) ?_ _
      have HR5 := hid hR5
      have HMF := hid hHeld
      clear hR5 hHeld hR9 hown' hgr' hat' hlt' hQ2 hI hXX
      go_wp2_with fail
      go_roundw
      case rel =>
        refine ⟨i + 1, some ⟨g', 0, none⟩, cp', ac', by go_num, rfl, (show Hid _ from ⟨HLT.out, ?_, HR5.out, by rw [T.all, hS1.out.2.2.2, decide_eq_true HK2.out]; rfl⟩)⟩
        exact ((Mod.of_ext (S := obs A') hS1.out.2.1).trans HMF.out).new (fun k hk => .inr (by
          cases A' with
          | none => cases hk
          | some g'' => have := (hS1.out.2.2.1.off g'' rfl).1; have := HSW.out; simp [obs] at hk; omega))
      case measure => have := HLT.out; simp [intOf]; omega
    · obtain rfl : i = t.k := by have := hS.out.1; omega
      have tc : decide (t.k < t.k) = false := by simp
      have HFIN := hid hS.out
      clear hS
      go_wp2_with fail
      go_ret
      have HP : r15P t = ⟨t.k, pairP t⟩ := by unfold r15P; rw [if_pos HFIN.out.2.2.2]
      refine ⟨A', c', by rw [HP]; rfl, HE.out.trans HFIN.out.2.1, by rw [HP]; exact HFIN.out.2.2.1.cap, ?_⟩
      rw [HP]
      exact (HFIN.out.2.2.1.weak (R := NewQ Q w.heap.size) (fun b _ hb => .inl hb)).ps (fun b hb => .inr (by omega))
end Go.Proofs.YtblfmokklfhklaaGreatDoor


namespace Go.Proofs.YtblfmokklfhklaaGreatDoor
open Go.RowKit
set_option linter.unusedVariables false
set_option linter.unusedSimpArgs false

def PrevPost (l : List UInt8) (w : World) (e : Ending) (w' : World) : Prop := Ret (.tuple #[((prevO l).getD zeroE).v, .int .i64 (if (prevO l).isSome then 0 else 2)]) w e w' ∧ PTree l
theorem PrevPost.none {l : List UInt8} {w w' : World} {e : Ending} (hp : prevO l = none) (h : Ret (.tuple #[zeroE.v, .int .i64 2]) w e w') (hT : PTree l) : PrevPost l w e w' := by unfold PrevPost; rw [hp]; exact ⟨h, hT⟩
theorem PrevPost.some {l : List UInt8} {w w' : World} {e : Ending} {E : EV} (hp : prevO l = some E) (h : Ret (.tuple #[E.v, .int .i64 0]) w e w') (hT : PTree l) : PrevPost l w e w' := by unfold PrevPost; rw [hp]; exact ⟨h, hT⟩
end Go.Proofs.YtblfmokklfhklaaGreatDoor


namespace Go.Proofs.YtblfmokklfhklaaGreatDoor
open Go.RowKit
set_option linter.unusedVariables false
set_option linter.unusedSimpArgs false

def AgePost (l : List UInt8) (w : World) (e : Ending) (w' : World) : Prop := Ret (.tuple #[.int .u64 (((ageO l).getD 0 : Nat) : Int), .int .i64 (if (ageO l).isSome then 0 else 2)]) w e w'
theorem AgePost.none {l : List UInt8} {w w' : World} {e : Ending} (hp : ageO l = none) (h : Ret (.tuple #[.int .u64 0, .int .i64 2]) w e w') : AgePost l w e w' := by unfold AgePost; rw [hp]; exact h
theorem AgePost.some {l : List UInt8} {w w' : World} {e : Ending} {E : Nat} (hp : ageO l = some E) (h : Ret (.tuple #[.int .u64 (E : Int), .int .i64 0]) w e w') : AgePost l w e w' := by unfold AgePost; rw [hp]; exact h
end Go.Proofs.YtblfmokklfhklaaGreatDoor


namespace Go.Proofs.YtblfmokklfhklaaGreatDoor
open Go.RowKit
set_option linter.unusedVariables false
set_option linter.unusedSimpArgs false

def RhPost (t : T) (w : World) (e : Ending) (w' : World) : Prop := ∃ a b : Int, Ret (.tuple #[.agg #[.int .i64 a, .int .i64 b], .bool (hopsB t)]) w e w' ∧ (hopsB t = true → a = ((t.ch 0).n : Int) ∧ b = ((t.ch 1).n : Int))
theorem RhPost.no {t : T} {w w' : World} {e : Ending} (hB : hopsB t = false) {a b : Int} (h : Ret (.tuple #[.agg #[.int .i64 a, .int .i64 b], .bool false]) w e w') : RhPost t w e w' := ⟨a, b, by rw [hB]; exact h, fun h => by rw [hB] at h; cases h⟩
end Go.Proofs.YtblfmokklfhklaaGreatDoor


namespace Go.Proofs.YtblfmokklfhklaaGreatDoor
open Go.RowKit
set_option linter.unusedVariables false
set_option linter.unusedSimpArgs false

def HopsPost (l : List UInt8) (w : World) (e : Ending) (w' : World) : Prop := Ret (.tuple #[.agg #[.int .i64 ((((hopsO l).getD (0, 0)).1 : Nat) : Int), .int .i64 ((((hopsO l).getD (0, 0)).2 : Nat) : Int)], .int .i64 (if (hopsO l).isSome then 0 else 2)]) w e w'
theorem HopsPost.none {l : List UInt8} {w w' : World} {e : Ending} (hp : hopsO l = none) (h : Ret (.tuple #[.agg #[.int .i64 0, .int .i64 0], .int .i64 2]) w e w') : HopsPost l w e w' := by unfold HopsPost; rw [hp]; exact h
theorem HopsPost.some {l : List UInt8} {w w' : World} {e : Ending} {E : Nat × Nat} (hp : hopsO l = some E) (h : Ret (.tuple #[.agg #[.int .i64 (E.1 : Int), .int .i64 (E.2 : Int)], .int .i64 0]) w e w') : HopsPost l w e w' := by unfold HopsPost; rw [hp]; exact h
def HopsPost3 (l : List UInt8) (w : World) (e : Ending) (w' : World) : Prop := Ret (.tuple #[.int .i64 ((((hopsO l).getD (0, 0)).1 : Nat) : Int), .int .i64 ((((hopsO l).getD (0, 0)).2 : Nat) : Int), .int .i64 (if (hopsO l).isSome then 0 else 2)]) w e w'
end Go.Proofs.YtblfmokklfhklaaGreatDoor


namespace Go.Proofs.YtblfmokklfhklaaGreatDoor
open Go.RowKit
set_option linter.unusedVariables false
set_option linter.unusedSimpArgs false

theorem age_readH {l : List UInt8} {n : Nat} (h : isAge l n) : readH l = some (l.length, 0, n, false) := by
  have := readH_head (m := 0) (n := n) (by omega) (by have := h.1; omega) []
  rw [List.append_nil, h.2] at this
  exact this
theorem ageO_readH {l : List UInt8} (h : readH l = none) : ageO l = none := theO_none fun n hn => by rw [age_readH hn] at h; cases h
theorem ageO_yes {l : List UInt8} {n : Nat} {o : Bool} (h : readH l = some (l.length, 0, n, o)) (hn : n ≤ 1099511627776) : ageO l = some n := by
  have H := readH_some h
  cases o with
  | true => have := (H.opened rfl).2.2.1; simp [opensB] at this
  | false =>
    have := (H.closed rfl).1
    rw [List.take_of_length_le (Nat.le_refl _)] at this
    exact theO_some isAge_inj ⟨hn, this.symm⟩
theorem ageO_no {l : List UInt8} {sz m n : Nat} {o : Bool} (h : readH l = some (sz, m, n, o)) (hn : ¬ (sz = l.length ∧ m = 0 ∧ n ≤ 1099511627776)) : ageO l = none := theO_none fun k hk => hn (by
  rw [age_readH hk] at h
  simp only [Option.some.injEq, Prod.mk.injEq] at h
  obtain ⟨rfl, rfl, rfl, rfl⟩ := h
  exact ⟨rfl, rfl, hk.1⟩)
def QAge (l : List UInt8) (w : World) (e : Ending) (w' : World) : Prop := Ret (.tuple #[.int .u64 (((ageO l).getD 0 : Nat) : Int), .bool (ageO l).isSome]) w e w'
theorem QAge.none {l : List UInt8} {w w' : World} {e : Ending} (hp : ageO l = none) (h : Ret (.tuple #[.int .u64 0, .bool false]) w e w') : QAge l w e w' := by unfold QAge; rw [hp]; exact h
theorem QAge.some {l : List UInt8} {w w' : World} {e : Ending} {E : Nat} (hp : ageO l = some E) (h : Ret (.tuple #[.int .u64 (E : Int), .bool true]) w e w') : QAge l w e w' := by unfold QAge; rw [hp]; exact h
end Go.Proofs.YtblfmokklfhklaaGreatDoor


namespace Go.Proofs.YtblfmokklfhklaaGreatDoor
open Go.RowKit
set_option linter.unusedVariables false
set_option linter.unusedSimpArgs false

def QHops (l : List UInt8) (w : World) (e : Ending) (w' : World) : Prop := Ret (.tuple #[.int .i64 ((((hopsO l).getD (0, 0)).1 : Nat) : Int), .int .i64 ((((hopsO l).getD (0, 0)).2 : Nat) : Int), .bool (hopsO l).isSome]) w e w'
theorem QHops.none {l : List UInt8} {w w' : World} {e : Ending} (hp : hopsO l = none) (h : Ret (.tuple #[.int .i64 0, .int .i64 0, .bool false]) w e w') : QHops l w e w' := by unfold QHops; rw [hp]; exact h
theorem QHops.some {l : List UInt8} {w w' : World} {e : Ending} {a b : Nat} (hp : hopsO l = some (a, b)) (h : Ret (.tuple #[.int .i64 (a : Int), .int .i64 (b : Int), .bool true]) w e w') : QHops l w e w' := by unfold QHops; rw [hp]; exact h
/-- No hops of l have limit a. -/
def NoHops (l : List UInt8) (a : Nat) : Prop := ∀ b, ¬ isHops l (a, b)
theorem noHops_short {l : List UInt8} {a : Nat} {z : List UInt8} (hz : 130 :: headL 0 a = z) (h : l.length ≤ z.length) : NoHops l a := fun b hb => by
  have e := congrArg List.length hb.2
  have := headL_pos 0 b
  subst hz
  simp at e h
  omega
theorem noHops_head {l : List UInt8} {a : Nat} {z : List UInt8} (hz : 130 :: headL 0 a = z) (h : l.take z.length ≠ z) : NoHops l a := fun b hb => h (by
  have e := hb.2
  rw [← List.cons_append, hz] at e
  rw [← e, List.take_left])
theorem noHops_age {l : List UInt8} {a : Nat} {z : List UInt8} (hz : 130 :: headL 0 a = z) (h : ∀ n, ageO (l.drop z.length) = some n → 255 < n) : NoHops l a := fun b hb => by
  have e := hb.2
  have m := may_le hb.1
  rw [← List.cons_append, hz] at e
  have hd : l.drop z.length = headL 0 b := by rw [← e, List.drop_left]
  have : ageO (l.drop z.length) = some b := theO_some isAge_inj ⟨by omega, hd.symm⟩
  have := h b this
  omega
theorem hops_yes {l : List UInt8} {a : Nat} {z : List UInt8} (hz : 130 :: headL 0 a = z) (ha : 1 ≤ a ∧ a ≤ 255) (ht : l.take z.length = z) {n : Nat} (hA : ageO (l.drop z.length) = some n) (hn : n ≤ 255) : hopsO l = some (a, n) := by
  refine theO_some isHops_inj ⟨by simp [mayB]; omega, ?_⟩
  have hg : isAge (l.drop z.length) n := by
    unfold ageO theO at hA
    split at hA
    next h => simp only [Option.some.injEq] at hA; rw [← hA]; exact h.choose_spec
    next h => cases hA
  rw [← List.cons_append, hz, hg.2]
  have h2 := List.take_append_drop z.length l
  rw [ht] at h2
  exact h2
theorem hops_none {l : List UInt8} (h : ∀ a, 1 ≤ a → a ≤ 255 → NoHops l a) : hopsO l = none := theO_none fun x hx => by
  have m := hx.1
  simp [mayB] at m
  exact h x.1 (by omega) (by omega) x.2 hx

end Go.Proofs.YtblfmokklfhklaaGreatDoor


namespace Go.Proofs.YtblfmokklfhklaaGreatDoor
open Go.RowKit
set_option linter.unusedVariables false
set_option linter.unusedSimpArgs false

theorem infoEID : (Tryz.prog.info? 25).map (fun i => (i.zero, i.size, i.bytes)) = some (some (.agg #[.int .i64 0, .string ⟨#[]⟩, .int .u64 0, .int .u64 0]), 4, 40) := by kernel_rfl
def OfPost (t : T) (w : World) (e : Ending) (w' : World) : Prop := Ret (.tuple #[(if ofB t then readE t else zeroE).v, .int .i64 (if ofB t then 0 else 2)]) w e w'
/-- A row of names, its cells. -/
def flatE : List EV → List Value
  | [] => []
  | e :: l => .int .i64 e.sch :: str e.name :: .int .u64 (e.node : Int) :: .int .u64 (e.svc : Int) :: flatE l
theorem flatE_one (l : List EV) : ∀ u ∈ flatE l, u.oneCell' = true := by
  induction l with
  | nil => intro u h; cases h
  | cons e l ih =>
    intro u h
    simp only [flatE, List.mem_cons] at h
    rcases h with rfl | rfl | rfl | rfl | h
    · rfl
    · rfl
    · rfl
    · rfl
    · exact ih u h
theorem flatE_app (l m : List EV) : flatE (l ++ m) = flatE l ++ flatE m := by
  induction l with
  | nil => rfl
  | cons e l ih => simp [flatE, ih]
theorem flatE_get (l : List EV) : ∀ (i : Nat) (e : EV), l[i]? = some e → (flatE l)[i * 4]? = some (.int .i64 e.sch) ∧ (flatE l)[i * 4 + 1]? = some (str e.name) ∧ (flatE l)[i * 4 + 2]? = some (.int .u64 (e.node : Int)) ∧ (flatE l)[i * 4 + 3]? = some (.int .u64 (e.svc : Int)) := by
  induction l with
  | nil => intro i e h; simp at h
  | cons x l ih =>
    intro i e h
    cases i with
    | zero => simp at h; subst h; exact ⟨rfl, rfl, rfl, rfl⟩
    | succ i =>
      have := ih i e (by simpa using h)
      rw [show (i + 1) * 4 = i * 4 + 4 by omega, show i * 4 + 4 + 1 = (i * 4 + 1) + 4 by omega, show i * 4 + 4 + 2 = (i * 4 + 2) + 4 by omega, show i * 4 + 4 + 3 = (i * 4 + 3) + 4 by omega]
      simpa [flatE] using this
theorem OfPost.no {t : T} {w w' : World} {e : Ending} (hB : ofB t = false) (h : Ret (.tuple #[zeroE.v, .int .i64 2]) w e w') : OfPost t w e w' := by unfold OfPost; rw [hB]; exact h
theorem OfPost.yes {t : T} (hr : t.right 8 = true) (hok : t.ok) {w w' : World} {e : Ending} {E : EV} (hE : isPrev t.bytes E) (h : Ret (.tuple #[E.v, .int .i64 0]) w e w') : OfPost t w e w' := by
  unfold OfPost
  obtain ⟨h1, h2⟩ := prev_tree hr hok hE
  rw [h2, h1]; exact h
theorem ofB_two {t : T} (h : ofB t = true) : t.right 8 = true ∧ t.k = 2 := by
  unfold ofB at h
  simp only [Bool.and_eq_true] at h
  refine ⟨h.2.1, ?_⟩
  by_cases hk : t.k = 2
  · exact hk
  · have : readE t = zeroE := by unfold readE; rw [if_pos (.inr (.inl hk))]
    rw [this] at h
    exact absurd h.1 (by decide)
theorem of_tries {t : T} (hr : t.right 8 = true) (hok : t.ok) (h0 : ¬ isPrev t.bytes noneE) (h1 : ¬ isPrev t.bytes ⟨1, (t.ch 1).s, 0, 0⟩) (h2 : (t.ch 1).k = 2 → ¬ isPrev t.bytes ⟨2, [], ((t.ch 1).ch 0).n, ((t.ch 1).ch 1).n⟩) : ofB t = false := by
  by_cases hB : ofB t = true
  · have hp := tree_prev hr hok hB
    have hE : readE t = zeroE ∨ readE t = noneE ∨ readE t = ⟨1, (t.ch 1).s, 0, 0⟩ ∨ ((t.ch 1).k = 2 ∧ readE t = ⟨2, [], ((t.ch 1).ch 0).n, ((t.ch 1).ch 1).n⟩) := by
      unfold readE
      split
      · exact .inl rfl
      · split
        next h => exact .inr (.inr (.inr ⟨h.2, rfl⟩))
        · split
          · exact .inr (.inr (.inl rfl))
          · exact .inr (.inl rfl)
    rcases hE with h | h | h | ⟨hk, h⟩ <;> rw [h] at hp
    · exact absurd hp.1 (by decide)
    · exact absurd hp h0
    · exact absurd hp h1
    · exact absurd hp (h2 hk)
  · simpa using hB
set_option maxRecDepth 20000 in
theorem of_bad1 (t : T) (hok : t.ok) (hr : t.right 8 = false) (A : Option Addr) (c : Nat) (w : World) (h : IsL w (fun _ => True) t A) : Calls Tryz.prog 31 #[itemV t A c] w (OfPost t w) := by
  have K1 := hid (fun W hW => rRight_any t hok A c W hW)
  have H := hid h
  have HE := hid (((Mod.refl [] w).alloc (.cells (itemC t A c) 47)).alloc (.cells #[.int .i64 0, .string ⟨#[]⟩, .int .u64 0, .int .u64 0] 25))
  have HX := hid ((Blk.new w 47 (itemC t A c)).alloc (.cells #[.int .i64 0, .string ⟨#[]⟩, .int .u64 0, .int .u64 0] 25))
  have HQ := hid (Blk.new' (w.alloc (.cells (itemC t A c) 47)) 25 zeroE.c (N := w.heap.size + 1) (by simp))
  rw [hr] at K1
  have HB : Hid (ofB t = false) := hid (by
    by_cases hB : ofB t = true
    · have := (ofB_two hB).1; rw [hr] at this; cases this
    · simpa using hB)
  clear hr hok h
  go_enter Tryz.func31, Tryz.ntmps31
  go_wp2_with fail
  refine (K1.out _ (H.out.ext HE.out)).mono ?_
  rintro e1 w1 ⟨rfl, hb1⟩
  have HE1 := hid (HE.out.trans hb1)
  have HX1 := hid (HX.out.ext hb1)
  have HQ1 := hid (HQ.out.ext hb1)
  clear hb1
  have HC := HQ1.out
  obtain ⟨c0, c1, c2, c3⟩ := cells4 (e := zeroE) HC
  have f0 := Blk.frozen HC 0
  have f1 := Blk.frozen HC 1
  have f2 := Blk.frozen HC 2
  have f3 := Blk.frozen HC 3
  go_wp2_with fail
  obtain ⟨d0, d1, d2, d3⟩ := cells4 (set4_blk (e0 := zeroE) (e := zeroE) HC)
  clear c0 c1 c2 c3 f0 f1 f2 f3
  show bodyPost _ _ _ _ _ (set4 w1 (w.heap.size + 1) zeroE)
  refine bodyPost_ret (v := .tuple #[EV.v zeroE, .int .i64 2]) (by simp [results, Tryz.results31, go_sem, d0, d1, d2, d3]) rfl (OfPost.no HB.out (Ret.mk rfl (set4_mod HE1.out (by omega))))
set_option maxRecDepth 20000 in
theorem of_bad2 (t : T) (hok : t.ok) (hr : t.right 8 = true) (hk : t.k ≠ 2) (A : Option Addr) (c : Nat) (w : World) (h : IsL w (fun _ => True) t A) : Calls Tryz.prog 31 #[itemV t A c] w (OfPost t w) := by
  have K1 := hid (fun W hW => rRight_any t hok A c W hW)
  have H := hid h
  have HE := hid (((Mod.refl [] w).alloc (.cells (itemC t A c) 47)).alloc (.cells #[.int .i64 0, .string ⟨#[]⟩, .int .u64 0, .int .u64 0] 25))
  have HX := hid ((Blk.new w 47 (itemC t A c)).alloc (.cells #[.int .i64 0, .string ⟨#[]⟩, .int .u64 0, .int .u64 0] 25))
  have HQ := hid (Blk.new' (w.alloc (.cells (itemC t A c) 47)) 25 zeroE.c (N := w.heap.size + 1) (by simp))
  rw [hr] at K1
  have HB : Hid (ofB t = false) := hid (by
    by_cases hB : ofB t = true
    · have := (ofB_two hB).2; exact absurd this hk
    · simpa using hB)
  obtain ⟨kk, hkk⟩ : ∃ x, x = t.k := ⟨_, rfl⟩
  have n1 : ((kk : Int) == 2) = false := by simp; omega
  have n2 : ((kk : Int) = 2) = False := by simp; omega
  have n3 : ((kk : Int) != 2) = true := by simp; omega
  clear hr hok h hk
  go_enter Tryz.func31, Tryz.ntmps31
  go_wp2_with fail
  refine (K1.out _ (H.out.ext HE.out)).mono ?_
  rintro e1 w1 ⟨rfl, hb1⟩
  have HE1 := hid (HE.out.trans hb1)
  have HX1 := hid (HX.out.ext hb1)
  have HQ1 := hid (HQ.out.ext hb1)
  clear hb1
  have x3 : w1.cell? ⟨w.heap.size, 3, none⟩ = some (.slice A kk c) := by rw [hkk]; exact HX1.out.cell 3
  clear hkk
  have HC := HQ1.out
  obtain ⟨c0, c1, c2, c3⟩ := cells4 (e := zeroE) HC
  have f0 := Blk.frozen HC 0
  have f1 := Blk.frozen HC 1
  have f2 := Blk.frozen HC 2
  have f3 := Blk.frozen HC 3
  go_wp2_with fail
  obtain ⟨d0, d1, d2, d3⟩ := cells4 (set4_blk (e0 := zeroE) (e := zeroE) HC)
  clear c0 c1 c2 c3 f0 f1 f2 f3
  show bodyPost _ _ _ _ _ (set4 w1 (w.heap.size + 1) zeroE)
  refine bodyPost_ret (v := .tuple #[EV.v zeroE, .int .i64 2]) (by simp [results, Tryz.results31, go_sem, d0, d1, d2, d3]) rfl (OfPost.no HB.out (Ret.mk rfl (set4_mod HE1.out (by omega))))
set_option maxRecDepth 20000 in
set_option maxHeartbeats 3200000 in
theorem of_three (kind : Int) (n : Nat) (s : List UInt8) (op : Bool) (ch : Nat → T) (hok : (T.mk kind n s op 2 ch).ok) (hr : (T.mk kind n s op 2 ch).right 8 = true) (hs : (T.mk kind n s op 2 ch).size ≤ 100000) (hk1 : (ch 1).k = 2) (A : Option Addr) (c : Nat) (w : World) (h : IsL w (fun _ => True) (T.mk kind n s op 2 ch) A) : Calls Tryz.prog 31 #[itemV (T.mk kind n s op 2 ch) A c] w (OfPost (T.mk kind n s op 2 ch) w) := by
  obtain ⟨b, o, ac, hA, hb, _, hac⟩ := h.rows (by omega)
  have HA1 := hid (hac 1 (by omega)).1
  obtain ⟨b1, o1, A2, A3, c2, c3, hA1, hb1, HI0, HI1⟩ : ∃ b1 o1 A2 A3 c2 c3, (ac 1).1 = some ⟨b1, o1, none⟩ ∧ b1 < w.heap.size ∧ Hid (At5 w b1 o1 ((ch 1).ch 0) A2 c2) ∧ Hid (At5 w b1 (o1 + 5) ((ch 1).ch 1) A3 c3) := by
    have hl := (hac 1 (by omega)).2
    revert hl hk1
    cases ch 1 with
    | nil => intro hk1; cases hk1
    | mk kd nn ss oo kk cc =>
      intro hk1 hl
      have hkk : kk = 2 := hk1
      subst hkk
      obtain ⟨b1, o1, ac1, e1, e2, _, e3⟩ := hl.rows (by omega)
      exact ⟨b1, o1, _, _, _, _, e1, e2, by have := (e3 0 (by omega)).1; rw [show o1 + 0 * 5 = o1 by omega] at this; exact this, by have := (e3 1 (by omega)).1; rw [show o1 + 1 * 5 = o1 + 5 by omega] at this; exact this⟩
  obtain ⟨t, ht⟩ : ∃ t, t = T.mk kind n s op 2 ch := ⟨_, rfl⟩
  have hk : t.k = 2 := by rw [ht]; rfl
  have hch : t.ch = ch := by rw [ht]; rfl
  rw [← ht] at hok hr hs h
  rw [← ht]
  have HXA : Hid (A = some ⟨b, o, none⟩ ∧ t.k = 2) := ⟨hA, hk⟩
  have HTR : Hid (∀ e0 e1 e2 : EV, e0 = noneE → e1 = ⟨1, (ch 1).s, 0, 0⟩ → e2 = ⟨2, [], ((ch 1).ch 0).n, ((ch 1).ch 1).n⟩ → ¬ isPrev t.bytes e0 → ¬ isPrev t.bytes e1 → ¬ isPrev t.bytes e2 → ofB t = false) := fun e0 e1 e2 h0 h1 h2 g0 g1 g2 => of_tries hr hok (by rw [← h0]; exact g0) (by rw [hch, ← h1]; exact g1) (by rw [hch]; intro _; rw [← h2]; exact g2)
  have HY : Hid (∀ E, isPrev t.bytes E → ∀ w' e, Ret (.tuple #[E.v, .int .i64 0]) w e w' → OfPost t w e w') := fun E hE w' e hR => OfPost.yes hr hok hE hR
  have HPL := hid (T.plain_of hr)
  have KB : Hid (∀ (E : EV), E.ok = true → ∀ B W, IsL W (fun _ => True) (eidT E) B → Calls Tryz.prog 25 #[itemV (eidT E) B 2] W (Ret (str (eidT E).bytes) W)) := fun E hE B W hW => rBytesI_any _ (eidT_ok hE).1 (eidT_ok hE).2.2.1 (eidT_ok hE).2.2.2 B 2 W hW
  have KT : Hid (∀ W, IsL W (fun _ => True) t A → Calls Tryz.prog 25 #[itemV t A c] W (Ret (str t.bytes) W)) := fun W hW => rBytesI_any t hok HPL.out hs A c W hW
  have KR := hid (fun E W => r10_any E W)
  have KI := hid (fun (E : EV) (hE : E.ok = true) W => r10Item_ok E hE W)
  have K1 := hid (fun W hW => rRight_any t hok A c W hW)
  have H := hid h
  have HE := hid (((Mod.refl [] w).alloc (.cells (itemC t A c) 47)).alloc (.cells #[.int .i64 0, .string ⟨#[]⟩, .int .u64 0, .int .u64 0] 25))
  have HX := hid ((Blk.new w 47 (itemC t A c)).alloc (.cells #[.int .i64 0, .string ⟨#[]⟩, .int .u64 0, .int .u64 0] 25))
  have HQ := hid (Blk.new' (w.alloc (.cells (itemC t A c) 47)) 25 zeroE.c (N := w.heap.size + 1) (by simp))
  rw [hr] at K1
  clear hr hok h hs HPL hac hA hk hch ht
  obtain ⟨i0, hi0, hz0, hz1, hz2⟩ := info_parts infoEID
  have HINF := hid (And.intro hi0 (And.intro hz0 (And.intro hz1 hz2)))
  clear hi0 hz0 hz1 hz2
  go_enter Tryz.func31, Tryz.ntmps31
  go_wp2_with fail
  refine (K1.out _ (H.out.ext HE.out)).mono ?_
  rintro e1 w1 ⟨rfl, hb1⟩
  have HE1 := hid (HE.out.trans hb1)
  have HX1 := hid (HX.out.ext hb1)
  have HQ1 := hid (HQ.out.ext hb1)
  clear hb1
  have x3 : w1.cell? ⟨w.heap.size, 3, none⟩ = some (.slice (some ⟨b, o, none⟩) 2 c) := by rw [← HXA.out.1, ← HXA.out.2]; exact HX1.out.cell 3
  obtain ⟨p0, p1, p2, p3, p4⟩ : At5 w1 b (o + 5) (ch 1) (ac 1).1 (ac 1).2 := by have := At5.mod HA1.out HE1.out hb (by simp); rw [show o + 1 * 5 = o + 5 by omega] at this; exact this
  clear HA1
  go_upto_region 4 with fail
  clear p0 p1 p2 p3 p4 x3
  have HX2 := hid (HX1.out.alloc (.cells #[.int .i64 (ch 1).kind, .int .u64 ((ch 1).n : Int), str (ch 1).s, .slice (some ⟨b1, o1, none⟩) 2 (ac 1).2, .bool (ch 1).op] 47))
  have HQ2 := hid (HQ1.out.alloc (.cells #[.int .i64 (ch 1).kind, .int .u64 ((ch 1).n : Int), str (ch 1).s, .slice (some ⟨b1, o1, none⟩) 2 (ac 1).2, .bool (ch 1).op] 47))
  have HE2 := hid (HE1.out.alloc (.cells #[.int .i64 (ch 1).kind, .int .u64 ((ch 1).n : Int), str (ch 1).s, .slice (some ⟨b1, o1, none⟩) 2 (ac 1).2, .bool (ch 1).op] 47))
  have HY2 := hid (Blk.new w1 47 #[.int .i64 (ch 1).kind, .int .u64 ((ch 1).n : Int), str (ch 1).s, .slice (some ⟨b1, o1, none⟩) 2 (ac 1).2, .bool (ch 1).op])
  have HN : Hid (w.heap.size + 2 ≤ w1.heap.size) := Nat.succ_le_of_lt HQ1.out.lt
  have HS2 : Hid ((w1.alloc (.cells #[.int .i64 (ch 1).kind, .int .u64 ((ch 1).n : Int), str (ch 1).s, .slice (some ⟨b1, o1, none⟩) 2 (ac 1).2, .bool (ch 1).op] 47)).heap.size = w1.heap.size + 1) := hid (by simp)
  generalize w1.alloc (.cells #[.int .i64 (ch 1).kind, .int .u64 ((ch 1).n : Int), str (ch 1).s, .slice (some ⟨b1, o1, none⟩) 2 (ac 1).2, .bool (ch 1).op] 47) = W2 at *
  have y2 : W2.cell? ⟨w1.heap.size, 2, none⟩ = some (str (ch 1).s) := HY2.out.cell 2
  have y3 : W2.cell? ⟨w1.heap.size, 3, none⟩ = some (.slice (some ⟨b1, o1, none⟩) 2 (ac 1).2) := HY2.out.cell 3
  clear HE HX HQ HX1 HQ1 HE1
  obtain ⟨hi, hz0, hz1, hz2⟩ := HINF.out
  go_upto_region 6 with (at_builtin; refine wpList_append_lies _ rfl _ _ 99 rfl W2.heap.size 25 i0 _ 4 40 Tryz.underlying99 hi hz0 hz1 hz2 rfl (by decide) _ 0 [] (by rfl) (World.ownsRow_nil _ _ _ _) ⟨W2.heap.size, 0, none⟩ 2 2 (flatE [noneE, ⟨1, (ch 1).s, 0, 0⟩]) (by rfl) rfl (World.news_of_block (heap_alloc_new W2 _)) (flatE_one _) (by decide) (by decide) (by decide) (by simp) (W2.heap.size + 1) (by simp) ?_; intro g cap w5 hown hgrow hat hlt)
  have hg : W2.heap.size + 1 = g := by
    rcases hat with h | h
    · simp [Value.ownBlock] at h
    · exact h.symm
  have hE5 : Ext w w5 := Mod.grown (HE2.out.alloc _) hgrow (fun k hk => by simp [Value.ownBlock] at hk)
  have HE5 := hid hE5
  have HX5 : Hid (Blk w5 w.heap.size 47 (itemC t A c)) := (HX2.out.alloc _).mod (S := []) (Mod.grown (Mod.refl _ _) hgrow (fun k hk => by simp [Value.ownBlock] at hk)) (by simp)
  have HQ5 : Hid (Blk w5 (w.heap.size + 1) 25 zeroE.c) := (HQ2.out.alloc _).mod (S := []) (Mod.grown (Mod.refl _ _) hgrow (fun k hk => by simp [Value.ownBlock] at hk)) (by simp)
  have HY5 : Hid (Blk w5 w1.heap.size 47 #[.int .i64 (ch 1).kind, .int .u64 ((ch 1).n : Int), str (ch 1).s, .slice (some ⟨b1, o1, none⟩) 2 (ac 1).2, .bool (ch 1).op]) := (HY2.out.alloc _).mod (S := []) (Mod.grown (Mod.refl _ _) hgrow (fun k hk => by simp [Value.ownBlock] at hk)) (by simp)
  simp only [Nat.zero_add, List.nil_append] at hown
  have HO5 := hid hown
  have HG5 : Hid (w1.heap.size + 2 = g ∧ g < w5.heap.size ∧ W2.heap.size = w1.heap.size + 1) := ⟨by have := HS2.out; omega, hlt, HS2.out⟩
  clear hown hgrow hat hlt hE5 hg HX2 HQ2 HE2 HY2 y2 y3 HS2
  have y3 : w5.cell? ⟨w1.heap.size, 3, none⟩ = some (.slice (some ⟨b1, o1, none⟩) 2 (ac 1).2) := HY5.out.cell 3
  have HI05 : Hid (At5 w5 b1 o1 ((ch 1).ch 0) A2 c2) := At5.mod HI0.out HE5.out hb1 (by simp)
  have HI15 : Hid (At5 w5 b1 (o1 + 5) ((ch 1).ch 1) A3 c3) := At5.mod HI1.out HE5.out hb1 (by simp)
  have q0 : w5.cell? ⟨b1, o1 + 1, none⟩ = some (.int .u64 (((ch 1).ch 0).n : Int)) := HI05.out.2.1
  have q1 : w5.cell? ⟨b1, o1 + 5 + 1, none⟩ = some (.int .u64 (((ch 1).ch 1).n : Int)) := HI15.out.2.1
  have hO5 := HO5.out.alloc (.cells (EV.c ⟨2, [], ((ch 1).ch 0).n, ((ch 1).ch 1).n⟩) 25)
  clear HI0 HI1 HI05 HI15
  go_wp2_with fail
  go_region_held3 (fun w' => w'.cell? ⟨w1.heap.size, 3, none⟩ = some (.slice (some ⟨b1, o1, none⟩) 2 (ac 1).2) ∧ w'.cell? ⟨b1, o1 + 1, none⟩ = some (.int .u64 (((ch 1).ch 0).n : Int)) ∧ w'.cell? ⟨b1, o1 + 5 + 1, none⟩ = some (.int .u64 (((ch 1).ch 1).n : Int))) (go_keep)
    ((refine step_append_lies _ (by rfl) _ _ 99 (by rfl) W2.heap.size 25 i0 _ 4 40 Tryz.underlying99 hi hz0 hz1 hz2 (by rfl) (by decide) _ 2 _ (by rfl) hO5 ⟨w5.heap.size, 0, none⟩ 1 1 (flatE [⟨2, [], ((ch 1).ch 0).n, ((ch 1).ch 1).n⟩]) (by rfl) (by rfl) (World.news_of_block (heap_alloc_new w5 _)) (flatE_one _) (by decide) (by decide) (by decide) (by simp; have := HG5.out; omega) (w5.heap.size + 1) (by simp) ?_; intro g2 cap2 w6 hown hgrow hat hlt; have hm6 : Mod [g] w5 w6 := Mod.grown (by first | exact (Mod.refl [g] w5).alloc _ | exact ((Mod.refl [g] w5).alloc _).drew | exact ((Mod.refl [g] w5).drew).alloc _) hgrow (fun k hk => by simp [Value.ownBlock] at hk; subst hk; exact .inl (by simp)); have z1 := (hm6.cell (k := w1.heap.size) (o := 3) HY5.out.lt (by have := HG5.out; simp; omega)).trans y3; have z2 := (hm6.cell (k := b1) (o := o1 + 1) (by have := HE5.out.size; omega) (by have := HG5.out; have := HN.out; simp; omega)).trans q0; have z3 := (hm6.cell (k := b1) (o := o1 + 5 + 1) (by have := HE5.out.size; omega) (by have := HG5.out; have := HN.out; simp; omega)).trans q1))
  have HO6 : Hid (w6.ownsRow W2.heap.size 25 4 (.slice (some ⟨g2, 0, none⟩) 3 cap2) 3 (flatE [noneE, ⟨1, (ch 1).s, 0, 0⟩, ⟨2, [], ((ch 1).ch 0).n, ((ch 1).ch 1).n⟩])) := by have := hown; rw [← flatE_app] at this; exact this
  have HE6 : Hid (Ext w w6) := (HE5.out.of_ext.trans hm6).new (fun k hk => .inr (by rw [List.mem_singleton] at hk; subst hk; have := HG5.out; have := HN.out; omega))
  have HX6 : Hid (Blk w6 w.heap.size 47 (itemC t A c)) := HX5.out.mod hm6 (by have := HG5.out; have := HN.out; simp; omega)
  have HQ6 : Hid (Blk w6 (w.heap.size + 1) 25 zeroE.c) := HQ5.out.mod hm6 (by have := HG5.out; have := HN.out; simp; omega)
  clear hown hgrow hat hlt hm6 z1 z2 z3 q0 q1 y3 hO5 HO5 HE5 HX5 HQ5 HY5
  go_wp2_with fail
  have cx0 : ∀ e : Later w6, e.x.cell? ⟨w.heap.size, 0, none⟩ = some (.int .i64 t.kind) := HX6.out.cellL 0 rfl
  have cx1 : ∀ e : Later w6, e.x.cell? ⟨w.heap.size, 1, none⟩ = some (.int .u64 (t.n : Int)) := HX6.out.cellL 1 rfl
  have cx2 : ∀ e : Later w6, e.x.cell? ⟨w.heap.size, 2, none⟩ = some (str t.s) := HX6.out.cellL 2 rfl
  have cx3 : ∀ e : Later w6, e.x.cell? ⟨w.heap.size, 3, none⟩ = some (.slice A t.k c) := HX6.out.cellL 3 rfl
  have cx4 : ∀ e : Later w6, e.x.cell? ⟨w.heap.size, 4, none⟩ = some (.bool t.op) := HX6.out.cellL 4 rfl
  have HXL : Hid (∀ e : Later w6, IsL e.x (fun _ => True) t A) := fun e => H.out.ext (HE6.out.trans e.h)
  clear hi hz0 hz1 hz2 HINF
  obtain ⟨e0, he0⟩ := Later.self w6
  go_loopw [6] (fun s6 wr => ∃ i : Nat, s6 = .int .i64 (i : Int) ∧ Hid (i ≤ 3 ∧ ∀ (j : Nat) (E : EV), j < i → [noneE, ⟨1, (ch 1).s, 0, 0⟩, ⟨2, [], ((ch 1).ch 0).n, ((ch 1).ch 1).n⟩][j]? = some E → ¬ isPrev t.bytes E) ∧ ∃ e : Later w6, wr = e.x) (fun s6 _ => 3 - (intOf s6).toNat)
  case atStart => exact ⟨0, rfl, (show Hid _ from ⟨by omega, fun j E hj => by omega⟩), e0, he0⟩
  case round =>
    clear he0 e0
    obtain ⟨i, rfl, hi, e, rfl⟩ := hrel
    have i0 : (0 : Int) ≤ (i : Int) := by omega
    have i1 : (i : Int) ≤ 3 := by have := hi.out.1; omega
    by_cases hlt : i < 3
    · obtain ⟨E, hE⟩ : ∃ E, [noneE, ⟨1, (ch 1).s, 0, 0⟩, ⟨2, [], ((ch 1).ch 0).n, ((ch 1).ch 1).n⟩][i]? = some E := ⟨_, List.getElem?_eq_getElem hlt⟩
      obtain ⟨g0, g1, g2', g3⟩ := flatE_get [noneE, ⟨1, (ch 1).s, 0, 0⟩, ⟨2, [], ((ch 1).ch 0).n, ((ch 1).ch 1).n⟩] i E hE
      have r0 : ∀ e : Later w6, e.x.cell? ⟨g2, i * 4, none⟩ = some (.int .i64 E.sch) := cellL (own_cells HO6.out g0)
      have r1 : ∀ e : Later w6, e.x.cell? ⟨g2, i * 4 + 1, none⟩ = some (str E.name) := cellL (own_cells HO6.out g1)
      have r2 : ∀ e : Later w6, e.x.cell? ⟨g2, i * 4 + 2, none⟩ = some (.int .u64 (E.node : Int)) := cellL (own_cells HO6.out g2')
      have r3 : ∀ e : Later w6, e.x.cell? ⟨g2, i * 4 + 3, none⟩ = some (.int .u64 (E.svc : Int)) := cellL (own_cells HO6.out g3)
      have tc : decide ((i : Int) < 3) = true := by simp; omega
      have tc2 : ((i : Int) < 3) = True := by simp; omega
      have HI := hid hlt
      have KR1 := hid (fun W => KR.out E W)
      have HEE := hid hE
      clear g0 g1 g2' g3 hlt hE
      have HNX : ¬ isPrev t.bytes E → Hid (i + 1 ≤ 3 ∧ ∀ (j : Nat) (E : EV), j < i + 1 → [noneE, ⟨1, (ch 1).s, 0, 0⟩, ⟨2, [], ((ch 1).ch 0).n, ((ch 1).ch 1).n⟩][j]? = some E → ¬ isPrev t.bytes E) := fun hn => ⟨HI.out, fun j F hj hF => by
        by_cases h : j = i
        · subst h; rw [HEE.out] at hF; simp only [Option.some.injEq] at hF; subst hF; exact hn
        · exact hi.out.2 j F (by omega) hF⟩
      have HNX := hid HNX
      go_wp2_with fail
      by_cases hok : E.ok = true
      · have KI1 := hid (KI.out E hok)
        have KB1 := hid (KB.out E hok)
        have HOK := hid hok
        rw [hok] at KR1
        clear hok
        by_cases hb : (eidT E).bytes = t.bytes
        · have HY1 := hid (HY.out E ⟨HOK.out, hb⟩)
          rw [hb] at KB1
          clear hb
          go_region_held3 (fun w' => w'.cell? ⟨g2, i * 4, none⟩ = some (.int .i64 E.sch) ∧ w'.cell? ⟨g2, i * 4 + 1, none⟩ = some (str E.name) ∧ w'.cell? ⟨g2, i * 4 + 2, none⟩ = some (.int .u64 (E.node : Int)) ∧ w'.cell? ⟨g2, i * 4 + 3, none⟩ = some (.int .u64 (E.svc : Int)) ∧ w'.cell? ⟨w.heap.size, 0, none⟩ = some (.int .i64 t.kind) ∧ w'.cell? ⟨w.heap.size, 1, none⟩ = some (.int .u64 (t.n : Int)) ∧ w'.cell? ⟨w.heap.size, 2, none⟩ = some (str t.s) ∧ w'.cell? ⟨w.heap.size, 3, none⟩ = some (.slice A t.k c) ∧ w'.cell? ⟨w.heap.size, 4, none⟩ = some (.bool t.op)) (go_keep)
            (first
              | (go_at_call 34; refine (Ret.laterW (by first | exact Later.h _ | exact (Later.h _).drew) (KR1.out _)).mono ?_; rintro x _ ⟨rfl, ez, rfl⟩)
              | (go_at_call 26; refine (KI1.out _).mono ?_; rintro x w3 ⟨B, rfl, hb3, hi3⟩; have hi3 := IsL.weak (R := fun _ => True) (fun _ _ _ => trivial) _ hi3; obtain ⟨ez, rfl⟩ : ∃ ez : Later w6, w3 = ez.x := ⟨⟨w3, Mod.trans (Later.h _) hb3⟩, rfl⟩)
              | (go_at_call 25; (with_reducible refine (KT.out _ (HXL.out _)).mono ?_); rintro x w4 ⟨rfl, hb4⟩; (try have hi3 := IsL.ext hi3 hb4); obtain ⟨ez, rfl⟩ : ∃ ez : Later w6, w4 = ez.x := ⟨⟨w4, Mod.trans (Later.h _) hb4⟩, rfl⟩)
              | (go_at_call 25; (with_reducible refine (KB1.out _ _ hi3).mono ?_); rintro x w4 ⟨rfl, hb4⟩; obtain ⟨ez, rfl⟩ : ∃ ez : Later w6, w4 = ez.x := ⟨⟨w4, Mod.trans (Later.h _) hb4⟩, rfl⟩))
          all_goals clear cx0 cx1 cx2 cx3 cx4
          have q0 : ∀ e : Later w6, e.x.cell? ⟨w.heap.size + 1, 0, none⟩ = some (.int .i64 0) := HQ6.out.cellL 0 rfl
          have q1 : ∀ e : Later w6, e.x.cell? ⟨w.heap.size + 1, 1, none⟩ = some (str []) := HQ6.out.cellL 1 rfl
          have q2 : ∀ e : Later w6, e.x.cell? ⟨w.heap.size + 1, 2, none⟩ = some (.int .u64 0) := HQ6.out.cellL 2 rfl
          have q3 : ∀ e : Later w6, e.x.cell? ⟨w.heap.size + 1, 3, none⟩ = some (.int .u64 0) := HQ6.out.cellL 3 rfl
          have fr : ∀ (e : Later w6) (j : Nat), e.x.frozen? ⟨w.heap.size + 1, j, none⟩ = false := fun e j => (HQ6.out.later e).frozen j
          all_goals go_wp2_with fail
          all_goals clear q0 q1 q2 q3 fr
          all_goals obtain ⟨d0, d1, d2, d3⟩ := cells4 (set4_blk (e0 := zeroE) (e := E) (HQ6.out.later ez))
          all_goals show bodyPost _ _ _ _ _ (set4 ez.x (w.heap.size + 1) E)
          all_goals refine bodyPost_ret (v := .tuple #[EV.v E, .int .i64 0]) (by simp [results, Tryz.results31, go_sem, d0, d1, d2, d3]) rfl (HY1.out _ _ (Ret.mk rfl (set4_mod (HE6.out.trans ez.h) (by omega))))
        · have b1 : ((eidT E).bytes == t.bytes) = false := by simpa using hb
          have b2 : ((eidT E).bytes = t.bytes) = False := by simpa using hb
          have HN2 := HNX.out (fun h => hb h.2)
          clear hb
          go_region_held3 (fun w' => w'.cell? ⟨g2, i * 4, none⟩ = some (.int .i64 E.sch) ∧ w'.cell? ⟨g2, i * 4 + 1, none⟩ = some (str E.name) ∧ w'.cell? ⟨g2, i * 4 + 2, none⟩ = some (.int .u64 (E.node : Int)) ∧ w'.cell? ⟨g2, i * 4 + 3, none⟩ = some (.int .u64 (E.svc : Int)) ∧ w'.cell? ⟨w.heap.size, 0, none⟩ = some (.int .i64 t.kind) ∧ w'.cell? ⟨w.heap.size, 1, none⟩ = some (.int .u64 (t.n : Int)) ∧ w'.cell? ⟨w.heap.size, 2, none⟩ = some (str t.s) ∧ w'.cell? ⟨w.heap.size, 3, none⟩ = some (.slice A t.k c) ∧ w'.cell? ⟨w.heap.size, 4, none⟩ = some (.bool t.op)) (go_keep)
            (first
              | (go_at_call 34; refine (Ret.laterW (by first | exact Later.h _ | exact (Later.h _).drew) (KR1.out _)).mono ?_; rintro x _ ⟨rfl, ez, rfl⟩)
              | (go_at_call 26; refine (KI1.out _).mono ?_; rintro x w3 ⟨B, rfl, hb3, hi3⟩; have hi3 := IsL.weak (R := fun _ => True) (fun _ _ _ => trivial) _ hi3; obtain ⟨ez, rfl⟩ : ∃ ez : Later w6, w3 = ez.x := ⟨⟨w3, Mod.trans (Later.h _) hb3⟩, rfl⟩)
              | (go_at_call 25; (with_reducible refine (KT.out _ (HXL.out _)).mono ?_); rintro x w4 ⟨rfl, hb4⟩; (try have hi3 := IsL.ext hi3 hb4); obtain ⟨ez, rfl⟩ : ∃ ez : Later w6, w4 = ez.x := ⟨⟨w4, Mod.trans (Later.h _) hb4⟩, rfl⟩)
              | (go_at_call 25; (with_reducible refine (KB1.out _ _ hi3).mono ?_); rintro x w4 ⟨rfl, hb4⟩; obtain ⟨ez, rfl⟩ : ∃ ez : Later w6, w4 = ez.x := ⟨⟨w4, Mod.trans (Later.h _) hb4⟩, rfl⟩))
          all_goals go_wp2_with fail
          all_goals go_roundw
          all_goals first | (have := HI.out; simp [intOf]; omega) | exact ⟨i + 1, by go_num, HN2, ez, rfl⟩ | ((repeat apply Exists.intro); exact ⟨⟨i + 1, by go_num, HN2, ez, rfl⟩, rfl⟩)
      · have hok2 : E.ok = false := by simpa using hok
        rw [hok2] at KR1
        have HN2 := HNX.out (fun h => hok h.1)
        clear hok hok2
        refine wp_region_later (by kernel_rfl) (by kernel_rfl) ?_
        repeat (go_big_quiet_step ((go_at_call 34; exact Ret.later (KR1.out _))))
        refine wpQuiet_nil ?_
        rintro _ ⟨e2, rfl⟩
        go_wp2_with fail
        go_roundw
        case rel => exact ⟨i + 1, by go_num, HN2, e2, rfl⟩
        case measure => have := HI.out; simp [intOf]; omega
    · obtain rfl : i = 3 := by have := hi.out.1; omega
      have HB : Hid (ofB t = false) := HTR.out _ _ _ rfl rfl rfl (hi.out.2 0 _ (by omega) rfl) (hi.out.2 1 _ (by omega) rfl) (hi.out.2 2 _ (by omega) rfl)
      have q0 : ∀ e : Later w6, e.x.cell? ⟨w.heap.size + 1, 0, none⟩ = some (.int .i64 0) := HQ6.out.cellL 0 rfl
      have q1 : ∀ e : Later w6, e.x.cell? ⟨w.heap.size + 1, 1, none⟩ = some (str []) := HQ6.out.cellL 1 rfl
      have q2 : ∀ e : Later w6, e.x.cell? ⟨w.heap.size + 1, 2, none⟩ = some (.int .u64 0) := HQ6.out.cellL 2 rfl
      have q3 : ∀ e : Later w6, e.x.cell? ⟨w.heap.size + 1, 3, none⟩ = some (.int .u64 0) := HQ6.out.cellL 3 rfl
      have fr : ∀ (e : Later w6) (j : Nat), e.x.frozen? ⟨w.heap.size + 1, j, none⟩ = false := fun e j => (HQ6.out.later e).frozen j
      clear cx0 cx1 cx2 cx3 cx4
      go_wp2_with fail
      clear q0 q1 q2 q3 fr
      obtain ⟨d0, d1, d2, d3⟩ := cells4 (set4_blk (e0 := zeroE) (e := zeroE) (HQ6.out.later e))
      show bodyPost _ _ _ _ _ (set4 e.x (w.heap.size + 1) zeroE)
      refine bodyPost_ret (v := .tuple #[EV.v zeroE, .int .i64 2]) (by simp [results, Tryz.results31, go_sem, d0, d1, d2, d3]) rfl (OfPost.no HB.out (Ret.mk rfl (set4_mod (HE6.out.trans e.h) (by omega))))
set_option maxRecDepth 20000 in
set_option maxHeartbeats 3200000 in
theorem of_two (kind : Int) (n : Nat) (s : List UInt8) (op : Bool) (ch : Nat → T) (hok : (T.mk kind n s op 2 ch).ok) (hr : (T.mk kind n s op 2 ch).right 8 = true) (hs : (T.mk kind n s op 2 ch).size ≤ 100000) (hk1 : (ch 1).k ≠ 2) (A : Option Addr) (c : Nat) (w : World) (h : IsL w (fun _ => True) (T.mk kind n s op 2 ch) A) : Calls Tryz.prog 31 #[itemV (T.mk kind n s op 2 ch) A c] w (OfPost (T.mk kind n s op 2 ch) w) := by
  obtain ⟨b, o, ac, hA, hb, _, hac⟩ := h.rows (by omega)
  have HA1 := hid (hac 1 (by omega)).1
  obtain ⟨t, ht⟩ : ∃ t, t = T.mk kind n s op 2 ch := ⟨_, rfl⟩
  have hk : t.k = 2 := by rw [ht]; rfl
  have hch : t.ch = ch := by rw [ht]; rfl
  rw [← ht] at hok hr hs h
  rw [← ht]
  have HXA : Hid (A = some ⟨b, o, none⟩ ∧ t.k = 2) := ⟨hA, hk⟩
  have HTR : Hid (∀ e0 e1 e2 : EV, e0 = noneE → e1 = ⟨1, (ch 1).s, 0, 0⟩ → ¬ isPrev t.bytes e0 → ¬ isPrev t.bytes e1 → ofB t = false) := fun e0 e1 e2 h0 h1 g0 g1 => of_tries hr hok (by rw [← h0]; exact g0) (by rw [hch, ← h1]; exact g1) (by rw [hch]; intro hk; exact absurd hk hk1)
  have HY : Hid (∀ E, isPrev t.bytes E → ∀ w' e, Ret (.tuple #[E.v, .int .i64 0]) w e w' → OfPost t w e w') := fun E hE w' e hR => OfPost.yes hr hok hE hR
  have HPL := hid (T.plain_of hr)
  have KB : Hid (∀ (E : EV), E.ok = true → ∀ B W, IsL W (fun _ => True) (eidT E) B → Calls Tryz.prog 25 #[itemV (eidT E) B 2] W (Ret (str (eidT E).bytes) W)) := fun E hE B W hW => rBytesI_any _ (eidT_ok hE).1 (eidT_ok hE).2.2.1 (eidT_ok hE).2.2.2 B 2 W hW
  have KT : Hid (∀ W, IsL W (fun _ => True) t A → Calls Tryz.prog 25 #[itemV t A c] W (Ret (str t.bytes) W)) := fun W hW => rBytesI_any t hok HPL.out hs A c W hW
  have KR := hid (fun E W => r10_any E W)
  have KI := hid (fun (E : EV) (hE : E.ok = true) W => r10Item_ok E hE W)
  have K1 := hid (fun W hW => rRight_any t hok A c W hW)
  have H := hid h
  have HE := hid (((Mod.refl [] w).alloc (.cells (itemC t A c) 47)).alloc (.cells #[.int .i64 0, .string ⟨#[]⟩, .int .u64 0, .int .u64 0] 25))
  have HX := hid ((Blk.new w 47 (itemC t A c)).alloc (.cells #[.int .i64 0, .string ⟨#[]⟩, .int .u64 0, .int .u64 0] 25))
  have HQ := hid (Blk.new' (w.alloc (.cells (itemC t A c) 47)) 25 zeroE.c (N := w.heap.size + 1) (by simp))
  rw [hr] at K1
  have n1 : (((ch 1).k : Int) == 2) = false := by simp; omega
  have n2 : (((ch 1).k : Int) = 2) = False := by simp; omega
  clear hr hok h hs HPL hac hA hk hch ht hk1
  obtain ⟨i0, hi0, hz0, hz1, hz2⟩ := info_parts infoEID
  have HINF := hid (And.intro hi0 (And.intro hz0 (And.intro hz1 hz2)))
  clear hi0 hz0 hz1 hz2
  go_enter Tryz.func31, Tryz.ntmps31
  go_wp2_with fail
  refine (K1.out _ (H.out.ext HE.out)).mono ?_
  rintro e1 w1 ⟨rfl, hb1⟩
  have HE1 := hid (HE.out.trans hb1)
  have HX1 := hid (HX.out.ext hb1)
  have HQ1 := hid (HQ.out.ext hb1)
  clear hb1
  have x3 : w1.cell? ⟨w.heap.size, 3, none⟩ = some (.slice (some ⟨b, o, none⟩) 2 c) := by rw [← HXA.out.1, ← HXA.out.2]; exact HX1.out.cell 3
  obtain ⟨p0, p1, p2, p3, p4⟩ : At5 w1 b (o + 5) (ch 1) (ac 1).1 (ac 1).2 := by have := At5.mod HA1.out HE1.out hb (by simp); rw [show o + 1 * 5 = o + 5 by omega] at this; exact this
  clear HA1
  go_upto_region 4 with fail
  clear p0 p1 p2 p3 p4 x3
  have HX2 := hid (HX1.out.alloc (.cells #[.int .i64 (ch 1).kind, .int .u64 ((ch 1).n : Int), str (ch 1).s, .slice (ac 1).1 (ch 1).k (ac 1).2, .bool (ch 1).op] 47))
  have HQ2 := hid (HQ1.out.alloc (.cells #[.int .i64 (ch 1).kind, .int .u64 ((ch 1).n : Int), str (ch 1).s, .slice (ac 1).1 (ch 1).k (ac 1).2, .bool (ch 1).op] 47))
  have HE2 := hid (HE1.out.alloc (.cells #[.int .i64 (ch 1).kind, .int .u64 ((ch 1).n : Int), str (ch 1).s, .slice (ac 1).1 (ch 1).k (ac 1).2, .bool (ch 1).op] 47))
  have HY2 := hid (Blk.new w1 47 #[.int .i64 (ch 1).kind, .int .u64 ((ch 1).n : Int), str (ch 1).s, .slice (ac 1).1 (ch 1).k (ac 1).2, .bool (ch 1).op])
  have HN : Hid (w.heap.size + 2 ≤ w1.heap.size) := Nat.succ_le_of_lt HQ1.out.lt
  have HS2 : Hid ((w1.alloc (.cells #[.int .i64 (ch 1).kind, .int .u64 ((ch 1).n : Int), str (ch 1).s, .slice (ac 1).1 (ch 1).k (ac 1).2, .bool (ch 1).op] 47)).heap.size = w1.heap.size + 1) := hid (by simp)
  generalize w1.alloc (.cells #[.int .i64 (ch 1).kind, .int .u64 ((ch 1).n : Int), str (ch 1).s, .slice (ac 1).1 (ch 1).k (ac 1).2, .bool (ch 1).op] 47) = W2 at *
  have y2 : W2.cell? ⟨w1.heap.size, 2, none⟩ = some (str (ch 1).s) := HY2.out.cell 2
  have y3 : W2.cell? ⟨w1.heap.size, 3, none⟩ = some (.slice (ac 1).1 (ch 1).k (ac 1).2) := HY2.out.cell 3
  clear HE HX HQ HX1 HQ1 HE1
  obtain ⟨hi, hz0, hz1, hz2⟩ := HINF.out
  go_upto_region 6 with (at_builtin; refine wpList_append_lies _ rfl _ _ 99 rfl W2.heap.size 25 i0 _ 4 40 Tryz.underlying99 hi hz0 hz1 hz2 rfl (by decide) _ 0 [] (by rfl) (World.ownsRow_nil _ _ _ _) ⟨W2.heap.size, 0, none⟩ 2 2 (flatE [noneE, ⟨1, (ch 1).s, 0, 0⟩]) (by rfl) rfl (World.news_of_block (heap_alloc_new W2 _)) (flatE_one _) (by decide) (by decide) (by decide) (by simp) (W2.heap.size + 1) (by simp) ?_; intro g cap w5 hown hgrow hat hlt)
  have hg : W2.heap.size + 1 = g := by
    rcases hat with h | h
    · simp [Value.ownBlock] at h
    · exact h.symm
  have hE5 : Ext w w5 := Mod.grown (HE2.out.alloc _) hgrow (fun k hk => by simp [Value.ownBlock] at hk)
  have HE5 := hid hE5
  have HX5 : Hid (Blk w5 w.heap.size 47 (itemC t A c)) := (HX2.out.alloc _).mod (S := []) (Mod.grown (Mod.refl _ _) hgrow (fun k hk => by simp [Value.ownBlock] at hk)) (by simp)
  have HQ5 : Hid (Blk w5 (w.heap.size + 1) 25 zeroE.c) := (HQ2.out.alloc _).mod (S := []) (Mod.grown (Mod.refl _ _) hgrow (fun k hk => by simp [Value.ownBlock] at hk)) (by simp)
  have HY5 : Hid (Blk w5 w1.heap.size 47 #[.int .i64 (ch 1).kind, .int .u64 ((ch 1).n : Int), str (ch 1).s, .slice (ac 1).1 (ch 1).k (ac 1).2, .bool (ch 1).op]) := (HY2.out.alloc _).mod (S := []) (Mod.grown (Mod.refl _ _) hgrow (fun k hk => by simp [Value.ownBlock] at hk)) (by simp)
  simp only [Nat.zero_add, List.nil_append] at hown
  have HO5 := hid hown
  have HG5 : Hid (w1.heap.size + 2 = g ∧ g < w5.heap.size ∧ W2.heap.size = w1.heap.size + 1) := ⟨by have := HS2.out; omega, hlt, HS2.out⟩
  clear hown hgrow hat hlt hE5 hg HX2 HQ2 HE2 HY2 y2 y3 HS2
  have y3 : w5.cell? ⟨w1.heap.size, 3, none⟩ = some (.slice (ac 1).1 (ch 1).k (ac 1).2) := HY5.out.cell 3
  go_wp2_with fail
  clear y3 HY5
  have cx0 : ∀ e : Later w5, e.x.cell? ⟨w.heap.size, 0, none⟩ = some (.int .i64 t.kind) := HX5.out.cellL 0 rfl
  have cx1 : ∀ e : Later w5, e.x.cell? ⟨w.heap.size, 1, none⟩ = some (.int .u64 (t.n : Int)) := HX5.out.cellL 1 rfl
  have cx2 : ∀ e : Later w5, e.x.cell? ⟨w.heap.size, 2, none⟩ = some (str t.s) := HX5.out.cellL 2 rfl
  have cx3 : ∀ e : Later w5, e.x.cell? ⟨w.heap.size, 3, none⟩ = some (.slice A t.k c) := HX5.out.cellL 3 rfl
  have cx4 : ∀ e : Later w5, e.x.cell? ⟨w.heap.size, 4, none⟩ = some (.bool t.op) := HX5.out.cellL 4 rfl
  have HXL : Hid (∀ e : Later w5, IsL e.x (fun _ => True) t A) := fun e => H.out.ext (HE5.out.trans e.h)
  clear hi hz0 hz1 hz2 HINF
  obtain ⟨e0, he0⟩ := Later.self w5
  go_loopw [6] (fun s6 wr => ∃ i : Nat, s6 = .int .i64 (i : Int) ∧ Hid (i ≤ 2 ∧ ∀ (j : Nat) (E : EV), j < i → [noneE, ⟨1, (ch 1).s, 0, 0⟩][j]? = some E → ¬ isPrev t.bytes E) ∧ ∃ e : Later w5, wr = e.x) (fun s6 _ => 2 - (intOf s6).toNat)
  case atStart => exact ⟨0, rfl, (show Hid _ from ⟨by omega, fun j E hj => by omega⟩), e0, he0⟩
  case round =>
    clear he0 e0
    obtain ⟨i, rfl, hi, e, rfl⟩ := hrel
    have i0 : (0 : Int) ≤ (i : Int) := by omega
    have i1 : (i : Int) ≤ 2 := by have := hi.out.1; omega
    by_cases hlt : i < 2
    · obtain ⟨E, hE⟩ : ∃ E, [noneE, ⟨1, (ch 1).s, 0, 0⟩][i]? = some E := ⟨_, List.getElem?_eq_getElem hlt⟩
      obtain ⟨g0, g1, g2', g3⟩ := flatE_get [noneE, ⟨1, (ch 1).s, 0, 0⟩] i E hE
      have r0 : ∀ e : Later w5, e.x.cell? ⟨g, i * 4, none⟩ = some (.int .i64 E.sch) := cellL (own_cells HO5.out g0)
      have r1 : ∀ e : Later w5, e.x.cell? ⟨g, i * 4 + 1, none⟩ = some (str E.name) := cellL (own_cells HO5.out g1)
      have r2 : ∀ e : Later w5, e.x.cell? ⟨g, i * 4 + 2, none⟩ = some (.int .u64 (E.node : Int)) := cellL (own_cells HO5.out g2')
      have r3 : ∀ e : Later w5, e.x.cell? ⟨g, i * 4 + 3, none⟩ = some (.int .u64 (E.svc : Int)) := cellL (own_cells HO5.out g3)
      have tc : decide ((i : Int) < 2) = true := by simp; omega
      have tc2 : ((i : Int) < 2) = True := by simp; omega
      have HI := hid hlt
      have KR1 := hid (fun W => KR.out E W)
      have HEE := hid hE
      clear g0 g1 g2' g3 hlt hE
      have HNX : ¬ isPrev t.bytes E → Hid (i + 1 ≤ 2 ∧ ∀ (j : Nat) (E : EV), j < i + 1 → [noneE, ⟨1, (ch 1).s, 0, 0⟩][j]? = some E → ¬ isPrev t.bytes E) := fun hn => ⟨HI.out, fun j F hj hF => by
        by_cases h : j = i
        · subst h; rw [HEE.out] at hF; simp only [Option.some.injEq] at hF; subst hF; exact hn
        · exact hi.out.2 j F (by omega) hF⟩
      have HNX := hid HNX
      go_wp2_with fail
      by_cases hok : E.ok = true
      · have KI1 := hid (KI.out E hok)
        have KB1 := hid (KB.out E hok)
        have HOK := hid hok
        rw [hok] at KR1
        clear hok
        by_cases hb : (eidT E).bytes = t.bytes
        · have HY1 := hid (HY.out E ⟨HOK.out, hb⟩)
          rw [hb] at KB1
          clear hb
          go_region_held3 (fun w' => w'.cell? ⟨g, i * 4, none⟩ = some (.int .i64 E.sch) ∧ w'.cell? ⟨g, i * 4 + 1, none⟩ = some (str E.name) ∧ w'.cell? ⟨g, i * 4 + 2, none⟩ = some (.int .u64 (E.node : Int)) ∧ w'.cell? ⟨g, i * 4 + 3, none⟩ = some (.int .u64 (E.svc : Int)) ∧ w'.cell? ⟨w.heap.size, 0, none⟩ = some (.int .i64 t.kind) ∧ w'.cell? ⟨w.heap.size, 1, none⟩ = some (.int .u64 (t.n : Int)) ∧ w'.cell? ⟨w.heap.size, 2, none⟩ = some (str t.s) ∧ w'.cell? ⟨w.heap.size, 3, none⟩ = some (.slice A t.k c) ∧ w'.cell? ⟨w.heap.size, 4, none⟩ = some (.bool t.op)) (go_keep)
            (first
              | (go_at_call 34; refine (Ret.laterW (by first | exact Later.h _ | exact (Later.h _).drew) (KR1.out _)).mono ?_; rintro x _ ⟨rfl, ez, rfl⟩)
              | (go_at_call 26; refine (KI1.out _).mono ?_; rintro x w3 ⟨B, rfl, hb3, hi3⟩; have hi3 := IsL.weak (R := fun _ => True) (fun _ _ _ => trivial) _ hi3; obtain ⟨ez, rfl⟩ : ∃ ez : Later w5, w3 = ez.x := ⟨⟨w3, Mod.trans (Later.h _) hb3⟩, rfl⟩)
              | (go_at_call 25; (with_reducible refine (KT.out _ (HXL.out _)).mono ?_); rintro x w4 ⟨rfl, hb4⟩; (try have hi3 := IsL.ext hi3 hb4); obtain ⟨ez, rfl⟩ : ∃ ez : Later w5, w4 = ez.x := ⟨⟨w4, Mod.trans (Later.h _) hb4⟩, rfl⟩)
              | (go_at_call 25; (with_reducible refine (KB1.out _ _ hi3).mono ?_); rintro x w4 ⟨rfl, hb4⟩; obtain ⟨ez, rfl⟩ : ∃ ez : Later w5, w4 = ez.x := ⟨⟨w4, Mod.trans (Later.h _) hb4⟩, rfl⟩))
          all_goals clear cx0 cx1 cx2 cx3 cx4
          have q0 : ∀ e : Later w5, e.x.cell? ⟨w.heap.size + 1, 0, none⟩ = some (.int .i64 0) := HQ5.out.cellL 0 rfl
          have q1 : ∀ e : Later w5, e.x.cell? ⟨w.heap.size + 1, 1, none⟩ = some (str []) := HQ5.out.cellL 1 rfl
          have q2 : ∀ e : Later w5, e.x.cell? ⟨w.heap.size + 1, 2, none⟩ = some (.int .u64 0) := HQ5.out.cellL 2 rfl
          have q3 : ∀ e : Later w5, e.x.cell? ⟨w.heap.size + 1, 3, none⟩ = some (.int .u64 0) := HQ5.out.cellL 3 rfl
          have fr : ∀ (e : Later w5) (j : Nat), e.x.frozen? ⟨w.heap.size + 1, j, none⟩ = false := fun e j => (HQ5.out.later e).frozen j
          all_goals go_wp2_with fail
          all_goals clear q0 q1 q2 q3 fr
          all_goals obtain ⟨d0, d1, d2, d3⟩ := cells4 (set4_blk (e0 := zeroE) (e := E) (HQ5.out.later ez))
          all_goals show bodyPost _ _ _ _ _ (set4 ez.x (w.heap.size + 1) E)
          all_goals refine bodyPost_ret (v := .tuple #[EV.v E, .int .i64 0]) (by simp [results, Tryz.results31, go_sem, d0, d1, d2, d3]) rfl (HY1.out _ _ (Ret.mk rfl (set4_mod (HE5.out.trans ez.h) (by omega))))
        · have b1 : ((eidT E).bytes == t.bytes) = false := by simpa using hb
          have b2 : ((eidT E).bytes = t.bytes) = False := by simpa using hb
          have HN2 := HNX.out (fun h => hb h.2)
          clear hb
          go_region_held3 (fun w' => w'.cell? ⟨g, i * 4, none⟩ = some (.int .i64 E.sch) ∧ w'.cell? ⟨g, i * 4 + 1, none⟩ = some (str E.name) ∧ w'.cell? ⟨g, i * 4 + 2, none⟩ = some (.int .u64 (E.node : Int)) ∧ w'.cell? ⟨g, i * 4 + 3, none⟩ = some (.int .u64 (E.svc : Int)) ∧ w'.cell? ⟨w.heap.size, 0, none⟩ = some (.int .i64 t.kind) ∧ w'.cell? ⟨w.heap.size, 1, none⟩ = some (.int .u64 (t.n : Int)) ∧ w'.cell? ⟨w.heap.size, 2, none⟩ = some (str t.s) ∧ w'.cell? ⟨w.heap.size, 3, none⟩ = some (.slice A t.k c) ∧ w'.cell? ⟨w.heap.size, 4, none⟩ = some (.bool t.op)) (go_keep)
            (first
              | (go_at_call 34; refine (Ret.laterW (by first | exact Later.h _ | exact (Later.h _).drew) (KR1.out _)).mono ?_; rintro x _ ⟨rfl, ez, rfl⟩)
              | (go_at_call 26; refine (KI1.out _).mono ?_; rintro x w3 ⟨B, rfl, hb3, hi3⟩; have hi3 := IsL.weak (R := fun _ => True) (fun _ _ _ => trivial) _ hi3; obtain ⟨ez, rfl⟩ : ∃ ez : Later w5, w3 = ez.x := ⟨⟨w3, Mod.trans (Later.h _) hb3⟩, rfl⟩)
              | (go_at_call 25; (with_reducible refine (KT.out _ (HXL.out _)).mono ?_); rintro x w4 ⟨rfl, hb4⟩; (try have hi3 := IsL.ext hi3 hb4); obtain ⟨ez, rfl⟩ : ∃ ez : Later w5, w4 = ez.x := ⟨⟨w4, Mod.trans (Later.h _) hb4⟩, rfl⟩)
              | (go_at_call 25; (with_reducible refine (KB1.out _ _ hi3).mono ?_); rintro x w4 ⟨rfl, hb4⟩; obtain ⟨ez, rfl⟩ : ∃ ez : Later w5, w4 = ez.x := ⟨⟨w4, Mod.trans (Later.h _) hb4⟩, rfl⟩))
          all_goals go_wp2_with fail
          all_goals go_roundw
          all_goals first | (have := HI.out; simp [intOf]; omega) | exact ⟨i + 1, by go_num, HN2, ez, rfl⟩ | ((repeat apply Exists.intro); exact ⟨⟨i + 1, by go_num, HN2, ez, rfl⟩, rfl⟩)
      · have hok2 : E.ok = false := by simpa using hok
        rw [hok2] at KR1
        have HN2 := HNX.out (fun h => hok h.1)
        clear hok hok2
        refine wp_region_later (by kernel_rfl) (by kernel_rfl) ?_
        repeat (go_big_quiet_step ((go_at_call 34; exact Ret.later (KR1.out _))))
        refine wpQuiet_nil ?_
        rintro _ ⟨e2, rfl⟩
        go_wp2_with fail
        go_roundw
        case rel => exact ⟨i + 1, by go_num, HN2, e2, rfl⟩
        case measure => have := HI.out; simp [intOf]; omega
    · obtain rfl : i = 2 := by have := hi.out.1; omega
      have HB : Hid (ofB t = false) := HTR.out _ _ noneE rfl rfl (hi.out.2 0 _ (by omega) rfl) (hi.out.2 1 _ (by omega) rfl)
      have q0 : ∀ e : Later w5, e.x.cell? ⟨w.heap.size + 1, 0, none⟩ = some (.int .i64 0) := HQ5.out.cellL 0 rfl
      have q1 : ∀ e : Later w5, e.x.cell? ⟨w.heap.size + 1, 1, none⟩ = some (str []) := HQ5.out.cellL 1 rfl
      have q2 : ∀ e : Later w5, e.x.cell? ⟨w.heap.size + 1, 2, none⟩ = some (.int .u64 0) := HQ5.out.cellL 2 rfl
      have q3 : ∀ e : Later w5, e.x.cell? ⟨w.heap.size + 1, 3, none⟩ = some (.int .u64 0) := HQ5.out.cellL 3 rfl
      have fr : ∀ (e : Later w5) (j : Nat), e.x.frozen? ⟨w.heap.size + 1, j, none⟩ = false := fun e j => (HQ5.out.later e).frozen j
      clear cx0 cx1 cx2 cx3 cx4
      go_wp2_with fail
      clear q0 q1 q2 q3 fr
      obtain ⟨d0, d1, d2, d3⟩ := cells4 (set4_blk (e0 := zeroE) (e := zeroE) (HQ5.out.later e))
      show bodyPost _ _ _ _ _ (set4 e.x (w.heap.size + 1) zeroE)
      refine bodyPost_ret (v := .tuple #[EV.v zeroE, .int .i64 2]) (by simp [results, Tryz.results31, go_sem, d0, d1, d2, d3]) rfl (OfPost.no HB.out (Ret.mk rfl (set4_mod (HE5.out.trans e.h) (by omega))))
end Go.Proofs.YtblfmokklfhklaaGreatDoor


namespace Go.Proofs.YtblfmokklfhklaaGreatDoor
open Go.RowKit
set_option linter.unusedVariables false
set_option linter.unusedSimpArgs false

theorem of_any (t : T) (hok : t.ok) (hs : t.size ≤ 100000) (A : Option Addr) (c : Nat) (w : World) (h : IsL w (fun _ => True) t A) : Calls Tryz.prog 31 #[itemV t A c] w (OfPost t w) := by
  by_cases hr : t.right 8 = true
  · by_cases hk : t.k = 2
    · cases t with
      | nil => exact absurd hok T.not_nil
      | mk kind n s op k ch =>
        have hk : k = 2 := hk
        subst hk
        by_cases hk1 : (ch 1).k = 2
        · exact of_three kind n s op ch hok hr hs hk1 A c w h
        · exact of_two kind n s op ch hok hr hs hk1 A c w h
    · exact of_bad2 t hok hr hk A c w h
  · exact of_bad1 t hok (by simpa using hr) A c w h

def QPrev (l : List UInt8) (w : World) (e : Ending) (w' : World) : Prop := Ret (.tuple #[((prevO l).getD zeroE).v, .bool (prevO l).isSome]) w e w'
theorem QPrev.none {l : List UInt8} {w w' : World} {e : Ending} (hp : prevO l = none) (h : Ret (.tuple #[zeroE.v, .bool false]) w e w') : QPrev l w e w' := by unfold QPrev; rw [hp]; exact h
theorem QPrev.some {l : List UInt8} {w w' : World} {e : Ending} {E : EV} (hp : prevO l = some E) (h : Ret (.tuple #[E.v, .bool true]) w e w') : QPrev l w e w' := by unfold QPrev; rw [hp]; exact h

end Go.Proofs.YtblfmokklfhklaaGreatDoor
