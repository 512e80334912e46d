/-
 What the reference reads of any bytes: numbers.
-/
import Derived.Test.YthecmnbkjchjmaaGreatMExtHopsav
namespace Go.Proofs.YthecmnbkjchjmaaGreat
open Go.RowKit
set_option linter.unusedVariables false
set_option linter.unusedSimpArgs false
theorem age_readH {l : List UInt8} {n : Nat} (h : isAge l n) : readH l = some (l.length, 0, n, false) := by
 have := readH_head (m := 0) (n := n) (by omega) (by have := h.1; omega) []
 rw [List.append_nil, h.2] at this
 exact this
theorem ageO_readH {l : List UInt8} (h : readH l = none) : ageO l = none := theO_none fun n hn => by rw [age_readH hn] at h; cases h
theorem ageO_yes {l : List UInt8} {n : Nat} {o : Bool} (h : readH l = some (l.length, 0, n, o)) (hn : n <= 1099511627776) : ageO l = some n := by
 have H := readH_some h
 cases o with
 | true => have := (H.opened rfl).2.2.1; simp [opensB] at this
 | false =>
  have := (H.closed rfl).1
  rw [List.take_of_length_le (Nat.le_refl _)] at this
  exact theO_some isAge_inj ⟨hn, this.symm⟩
theorem ageO_no {l : List UInt8} {sz m n : Nat} {o : Bool} (h : readH l = some (sz, m, n, o)) (hn : ¬ (sz = l.length /\ m = 0 /\ n <= 1099511627776)) : ageO l = none := theO_none fun k hk => hn (by
 rw [age_readH hk] at h
 simp only [Option.some.injEq, Prod.mk.injEq] at h
 obtain ⟨rfl, rfl, rfl, rfl⟩ := h
 exact ⟨rfl, rfl, hk.1⟩)
def QAge (l : List UInt8) (w : World) (e : Ending) (w' : World) : Prop := Ret (.tuple #[.int .u64 (((ageO l).getD 0 : Nat) : Int), .bool (ageO l).isSome]) w e w'
theorem QAge.none {l : List UInt8} {w w' : World} {e : Ending} (hp : ageO l = none) (h : Ret (.tuple #[.int .u64 0, .bool false]) w e w') : QAge l w e w' := by unfold QAge; rw [hp]; exact h
theorem QAge.some {l : List UInt8} {w w' : World} {e : Ending} {E : Nat} (hp : ageO l = some E) (h : Ret (.tuple #[.int .u64 (E : Int), .bool true]) w e w') : QAge l w e w' := by unfold QAge; rw [hp]; exact h
set_option maxRecDepth 20000 in
theorem qa_none (l : List UInt8) (w : World) (hr : readH l = none) : Calls Tryz.prog 24 #[str l] w (Ret (.tuple #[.int .u64 0, .bool false]) w) := by
 have K := hid (fun W => read_any l W)
 rw [hr] at K
 clear hr
 go_enter Tryz.func24, Tryz.ntmps24
 go_wp2_with fail
 refine (K.out _).mono ?_
 rintro e1 w1 ⟨rfl, hb1⟩
 have HE1 := hid (hb1.alloc (.cells #[.int .i64 (0 : Int), .int .i64 (0 : Int), .int .u64 (0 : Int), .bool false] 96))
 clear hb1
 dsimp only [gotOf, gotV]
 go_wp2_with fail
 refine bodyPost_ret (v := .tuple #[.int .u64 0, .bool false]) (by simp [results, Tryz.results24, go_sem]) rfl (Ret.mk rfl HE1.out)
set_option maxRecDepth 20000 in
theorem qa_len (l : List UInt8) (w : World) (sz m n : Nat) (o : Bool) (hr : readH l = some (sz, m, n, o)) (ha : sz ≠ l.length) : Calls Tryz.prog 24 #[str l] w (Ret (.tuple #[.int .u64 0, .bool false]) w) := by
 have K := hid (fun W => read_any l W)
 rw [hr] at K
 have hp := (readH_some hr).pos
 have z1 : ((sz : Int) == 0) = false := by (simp; omega)
 have z2 : ((sz : Int) = 0) = False := by (simp; omega)
 have z3 : ((sz : Int) != 0) = true := by (simp; omega)
 have a1 : ((sz : Int) == (l.length : Int)) = false := by (simp; omega)
 have a2 : ((sz : Int) = (l.length : Int)) = False := by (simp; omega)
 have a3 : ((sz : Int) != (l.length : Int)) = true := by (simp; omega)
 clear hr hp
 go_enter Tryz.func24, Tryz.ntmps24
 go_wp2_with fail
 refine (K.out _).mono ?_
 rintro e1 w1 ⟨rfl, hb1⟩
 have HE1 := hid (hb1.alloc (.cells #[.int .i64 (sz : Int), .int .i64 (m : Int), .int .u64 (n : Int), .bool o] 96))
 clear hb1
 dsimp only [gotOf, gotV]
 go_wp2_with fail
 refine bodyPost_ret (v := .tuple #[.int .u64 0, .bool false]) (by simp [results, Tryz.results24, go_sem]) rfl (Ret.mk rfl HE1.out)
set_option maxRecDepth 20000 in
theorem qa_maj (l : List UInt8) (w : World) (sz m n : Nat) (o : Bool) (hr : readH l = some (sz, m, n, o)) (ha : sz = l.length) (hb : m ≠ 0) : Calls Tryz.prog 24 #[str l] w (Ret (.tuple #[.int .u64 0, .bool false]) w) := by
 have K := hid (fun W => read_any l W)
 rw [hr] at K
 have hp := (readH_some hr).pos
 have z1 : ((l.length : Int) == 0) = false := by (rw [ha] at hp; have h0 : (l.length : Int) ≠ 0 := (by omega); simpa using h0)
 have z2 : ((l.length : Int) = 0) = False := by (rw [ha] at hp; have h0 : (l.length : Int) ≠ 0 := (by omega); simpa using h0)
 have z3 : ((l.length : Int) != 0) = true := by (rw [ha] at hp; have h0 : (l.length : Int) ≠ 0 := (by omega); simpa using h0)
 have b1 : ((m : Int) == 0) = false := by (simp; omega)
 have b2 : ((m : Int) = 0) = False := by (simp; omega)
 have b3 : ((m : Int) != 0) = true := by (simp; omega)
 subst ha
 clear hr hp
 go_enter Tryz.func24, Tryz.ntmps24
 go_wp2_with fail
 refine (K.out _).mono ?_
 rintro e1 w1 ⟨rfl, hb1⟩
 have HE1 := hid (hb1.alloc (.cells #[.int .i64 (l.length : Int), .int .i64 (m : Int), .int .u64 (n : Int), .bool o] 96))
 clear hb1
 dsimp only [gotOf, gotV]
 go_wp2_with fail
 refine bodyPost_ret (v := .tuple #[.int .u64 0, .bool false]) (by simp [results, Tryz.results24, go_sem]) rfl (Ret.mk rfl HE1.out)
set_option maxRecDepth 20000 in
theorem qa_big (l : List UInt8) (w : World) (sz m n : Nat) (o : Bool) (hr : readH l = some (sz, m, n, o)) (ha : sz = l.length) (hb : m = 0) (hc : 1099511627776 < n) : Calls Tryz.prog 24 #[str l] w (Ret (.tuple #[.int .u64 0, .bool false]) w) := by
 have K := hid (fun W => read_any l W)
 rw [hr] at K
 have hp := (readH_some hr).pos
 have z1 : ((l.length : Int) == 0) = false := by (rw [ha] at hp; have h0 : (l.length : Int) ≠ 0 := (by omega); simpa using h0)
 have z2 : ((l.length : Int) = 0) = False := by (rw [ha] at hp; have h0 : (l.length : Int) ≠ 0 := (by omega); simpa using h0)
 have z3 : ((l.length : Int) != 0) = true := by (rw [ha] at hp; have h0 : (l.length : Int) ≠ 0 := (by omega); simpa using h0)
 have c1 : decide ((1099511627776 : Int) < (n : Int)) = true := by simp; omega
 have c2 : ((1099511627776 : Int) < (n : Int)) = True := by simp; omega
 subst ha hb
 clear hr hp
 go_enter Tryz.func24, Tryz.ntmps24
 go_wp2_with fail
 refine (K.out _).mono ?_
 rintro e1 w1 ⟨rfl, hb1⟩
 have HE1 := hid (hb1.alloc (.cells #[.int .i64 (l.length : Int), .int .i64 (0 : Int), .int .u64 (n : Int), .bool o] 96))
 clear hb1
 dsimp only [gotOf, gotV]
 go_wp2_with fail
 refine bodyPost_ret (v := .tuple #[.int .u64 0, .bool false]) (by simp [results, Tryz.results24, go_sem]) rfl (Ret.mk rfl HE1.out)
set_option maxRecDepth 20000 in
theorem qa_yes (l : List UInt8) (w : World) (sz m n : Nat) (o : Bool) (hr : readH l = some (sz, m, n, o)) (ha : sz = l.length) (hb : m = 0) (hc : n <= 1099511627776) : Calls Tryz.prog 24 #[str l] w (Ret (.tuple #[.int .u64 (n : Int), .bool true]) w) := by
 have K := hid (fun W => read_any l W)
 rw [hr] at K
 have hp := (readH_some hr).pos
 have z1 : ((l.length : Int) == 0) = false := by (rw [ha] at hp; have h0 : (l.length : Int) ≠ 0 := (by omega); simpa using h0)
 have z2 : ((l.length : Int) = 0) = False := by (rw [ha] at hp; have h0 : (l.length : Int) ≠ 0 := (by omega); simpa using h0)
 have z3 : ((l.length : Int) != 0) = true := by (rw [ha] at hp; have h0 : (l.length : Int) ≠ 0 := (by omega); simpa using h0)
 have c1 : decide ((1099511627776 : Int) < (n : Int)) = false := by simp; omega
 have c2 : ((1099511627776 : Int) < (n : Int)) = False := by simp; omega
 subst ha hb
 clear hr hp
 go_enter Tryz.func24, Tryz.ntmps24
 go_wp2_with fail
 refine (K.out _).mono ?_
 rintro e1 w1 ⟨rfl, hb1⟩
 have HE1 := hid (hb1.alloc (.cells #[.int .i64 (l.length : Int), .int .i64 (0 : Int), .int .u64 (n : Int), .bool o] 96))
 clear hb1
 dsimp only [gotOf, gotV]
 go_wp2_with fail
 refine bodyPost_ret (v := .tuple #[.int .u64 (n : Int), .bool true]) (by simp [results, Tryz.results24, go_sem]) rfl (Ret.mk rfl HE1.out)
theorem qAge_any (l : List UInt8) (w : World) : Calls Tryz.prog 24 #[str l] w (QAge l w) := by
 cases hr : readH l with
 | none => exact (qa_none l w hr).mono fun e w' h => QAge.none (ageO_readH hr) h
 | some x =>
  obtain ⟨sz, m, n, o⟩ := x
  by_cases ha : sz = l.length
  .
   by_cases hb : m = 0
   .
    by_cases hc : n <= 1099511627776
    . exact (qa_yes l w sz m n o hr ha hb hc).mono fun e w' h => QAge.some (by subst ha hb; exact ageO_yes hr hc) h
    . exact (qa_big l w sz m n o hr ha hb (by omega)).mono fun e w' h => QAge.none (ageO_no hr (by omega)) h
   . exact (qa_maj l w sz m n o hr ha hb).mono fun e w' h => QAge.none (ageO_no hr (by omega)) h
  . exact (qa_len l w sz m n o hr ha).mono fun e w' h => QAge.none (ageO_no hr (by omega)) h
def QHops (l : List UInt8) (w : World) (e : Ending) (w' : World) : Prop := Ret (.tuple #[.int .i64 ((((hopsO l).getD (0, 0)).1 : Nat) : Int), .int .i64 ((((hopsO l).getD (0, 0)).2 : Nat) : Int), .bool (hopsO l).isSome]) w e w'
theorem QHops.none {l : List UInt8} {w w' : World} {e : Ending} (hp : hopsO l = none) (h : Ret (.tuple #[.int .i64 0, .int .i64 0, .bool false]) w e w') : QHops l w e w' := by unfold QHops; rw [hp]; exact h
theorem QHops.some {l : List UInt8} {w w' : World} {e : Ending} {a b : Nat} (hp : hopsO l = some (a, b)) (h : Ret (.tuple #[.int .i64 (a : Int), .int .i64 (b : Int), .bool true]) w e w') : QHops l w e w' := by unfold QHops; rw [hp]; exact h
def NoHops (l : List UInt8) (a : Nat) : Prop := ∀ b, ¬ isHops l (a, b)
theorem noHops_short {l : List UInt8} {a : Nat} {z : List UInt8} (hz : 130 :: headL 0 a = z) (h : l.length <= z.length) : NoHops l a := fun b hb => by
 have e := congrArg List.length hb.2
 have := headL_pos 0 b
 subst hz
 simp at e h
 omega
theorem noHops_head {l : List UInt8} {a : Nat} {z : List UInt8} (hz : 130 :: headL 0 a = z) (h : l.take z.length ≠ z) : NoHops l a := fun b hb => h (by
 have e := hb.2
 rw [<- List.cons_append, hz] at e
 rw [<- e, List.take_left])
theorem noHops_age {l : List UInt8} {a : Nat} {z : List UInt8} (hz : 130 :: headL 0 a = z) (h : ∀ n, ageO (l.drop z.length) = some n -> 255 < n) : NoHops l a := fun b hb => by
 have e := hb.2
 have m := may_le hb.1
 rw [<- List.cons_append, hz] at e
 have hd : l.drop z.length = headL 0 b := by rw [<- e, List.drop_left]
 have : ageO (l.drop z.length) = some b := theO_some isAge_inj ⟨by omega, hd.symm⟩
 have := h b this
 omega
theorem hops_yes {l : List UInt8} {a : Nat} {z : List UInt8} (hz : 130 :: headL 0 a = z) (ha : 1 <= a /\ a <= 255) (ht : l.take z.length = z) {n : Nat} (hA : ageO (l.drop z.length) = some n) (hn : n <= 255) : hopsO l = some (a, n) := by
 refine theO_some isHops_inj ⟨by simp [mayB]; omega, ?_⟩
 have hg : isAge (l.drop z.length) n := by
  unfold ageO theO at hA
  split at hA
  next h => simp only [Option.some.injEq] at hA; rw [<- hA]; exact h.choose_spec
  next h => cases hA
 rw [<- List.cons_append, hz, hg.2]
 have h2 := List.take_append_drop z.length l
 rw [ht] at h2
 exact h2
theorem hops_none {l : List UInt8} (h : ∀ a, 1 <= a -> a <= 255 -> NoHops l a) : hopsO l = none := theO_none fun x hx => by
 have m := hx.1
 simp [mayB] at m
 exact h x.1 (by omega) (by omega) x.2 hx
set_option maxRecDepth 20000 in
set_option maxHeartbeats 1600000 in
theorem qHops_any (l : List UInt8) (hl : l.length <= 1073741824) (w : World) : Calls Tryz.prog 25 #[str l] w (QHops l w) := by
 have KH : Hid (∀ i : Nat, i <= 255 -> ∀ W, Calls Tryz.prog 28 #[.int .i64 0, .int .u64 (i : Int)] W (Ret (str (headL 0 i)) W)) := fun i hi W => by simpa using rhead_in 0 (i : Int) (by omega) (by omega) (by omega) (by omega) W
 have KA := hid (fun x W => qAge_any x W)
 have l1 : (l.length : Int) <= 1073741824 := by omega
 clear hl
 go_enter Tryz.func25, Tryz.ntmps25
 go_wp2_with fail
 go_loopw [5] (fun s5 wr => ∃ i : Nat, s5 = .int .i64 (i : Int) /\ Hid (1 <= i /\ i <= 256) /\ Hid (Ext w wr) /\ Hid (∀ a, 1 <= a -> a < i -> NoHops l a)) (fun s5 _ => 256 - (intOf s5).toNat)
 case atStart => exact ⟨1, rfl, (show Hid _ from ⟨by omega, by omega⟩), (show Hid _ from Mod.refl _ _), (show Hid _ from fun a h1 h2 => by omega)⟩
 case round =>
  obtain ⟨i, rfl, hi, hE, hN⟩ := hrel
  by_cases hlt : i <= 255
  .
   have i0 : (0 : Int) <= (i : Int) := by omega
   have i1 : (i : Int) <= 255 := by omega
   have tc : decide ((i : Int) <= 255) = true := by simp; omega
   have t1 : IntKind.u64.wrap (i : Int) = (i : Int) := IntWalk.u64_in _ (by omega)
   have K1 := hid (KH.out i hlt)
   have HI := hid hlt
   clear hlt
   go_wp2_with fail
   refine (K1.out _).mono ?_
   rintro e1 w1 ⟨rfl, hb1⟩
   have HE1 := hid (hE.out.trans hb1)
   clear hb1 hE
   have e1 : Value.string ((⟨#[130]⟩ : ByteArray) ++ ⟨(headL 0 i).toArray⟩) = str (130 :: headL 0 i) := str_app [130] (headL 0 i)
   have g1 := headL_le 0 i
   have hx1 : ¬ 9223372036854775807 < 1 + (headL 0 i).length := by omega
   have hz0 : (130 :: headL 0 i).length <= 10 := by simp; omega
   obtain ⟨z, hz⟩ : ∃ z, 130 :: headL 0 i = z := ⟨_, rfl⟩
   rw [hz] at e1 hz0
   have HZ := hid hz
   clear hz
   by_cases hA : l.length <= z.length
   .
    have ta : decide (l.length <= z.length) = true := by simp; omega
    have ta2 : (l.length <= z.length) = True := by simp; omega
    have HN := hid (noHops_short HZ.out hA)
    clear hA
    go_wp2_with fail
    go_roundw
    case rel => exact ⟨i + 1, by go_num, (show Hid _ from ⟨by omega, by have := HI.out; omega⟩), (show Hid _ from HE1.out), (show Hid _ from fun a h1 h2 => by
     by_cases ha : a = i
     . subst ha; exact HN.out
     . exact hN.out a h1 (by omega))⟩
    case measure => have := HI.out; simp [intOf]; omega
   have ta : decide (l.length <= z.length) = false := by simp; omega
   have ta2 : (l.length <= z.length) = False := by simp; omega
   have zl : (z.length : Int) <= (l.length : Int) := by omega
   have hx : ((⟨l.toArray⟩ : ByteArray).extract 0 z.length) = ⟨(l.take z.length).toArray⟩ := by rw [ext0, List.drop_zero, Nat.sub_zero]
   have zz : (0 : Int) <= (z.length : Int) := by omega
   clear hA
   by_cases hB : l.take z.length = z
   case neg =>
    have b1 : (l.take z.length == z) = false := by simpa using hB
    have b2 : (l.take z.length = z) = False := by simpa using hB
    have HN := hid (noHops_head HZ.out hB)
    obtain ⟨y, hy⟩ : ∃ y, l.take z.length = y := ⟨_, rfl⟩
    rw [hy] at b1 b2 hx
    clear hB hy
    go_wp2_with fail
    go_roundw
    case rel => exact ⟨i + 1, by go_num, (show Hid _ from ⟨by omega, by have := HI.out; omega⟩), (show Hid _ from HE1.out), (show Hid _ from fun a h1 h2 => by
     by_cases ha : a = i
     . subst ha; exact HN.out
     . exact hN.out a h1 (by omega))⟩
    case measure => have := HI.out; simp [intOf]; omega
   have HB := hid hB
   rw [hB] at hx
   clear hB
   go_wp2_with fail
   rw [extract_rest]
   refine (KA.out _ _).mono ?_
   rintro e2 w2 h2
   unfold QAge at h2
   cases hA : ageO (l.drop z.length) with
   | none =>
    have HN := hid (noHops_age (l := l) HZ.out (fun n hn => by rw [hA] at hn; cases hn))
    rw [hA] at h2
    obtain ⟨rfl, hb2⟩ := h2
    have HE2 := hid (HE1.out.trans hb2)
    clear hb2 hA
    dsimp only [Option.getD, Option.isSome]
    go_wp2_with fail
    go_roundw
    case rel => exact ⟨i + 1, by go_num, (show Hid _ from ⟨by omega, by have := HI.out; omega⟩), (show Hid _ from HE2.out), (show Hid _ from fun a h1 h2 => by
     by_cases ha : a = i
     . subst ha; exact HN.out
     . exact hN.out a h1 (by omega))⟩
    case measure => have := HI.out; simp [intOf]; omega
   | some n =>
    by_cases hn : n <= 255
    case neg =>
     have HN := hid (noHops_age (l := l) HZ.out (fun k hk => by rw [hA] at hk; cases hk; omega))
     have tn : decide ((n : Int) <= 255) = false := by simp; omega
     have tn2 : ((n : Int) <= 255) = False := by simp; omega
     rw [hA] at h2
     obtain ⟨rfl, hb2⟩ := h2
     have HE2 := hid (HE1.out.trans hb2)
     clear hb2 hA hn
     dsimp only [Option.getD, Option.isSome]
     go_wp2_with fail
     go_roundw
     case rel => exact ⟨i + 1, by go_num, (show Hid _ from ⟨by omega, by have := HI.out; omega⟩), (show Hid _ from HE2.out), (show Hid _ from fun a h1 h2 => by
      by_cases ha : a = i
      . subst ha; exact HN.out
      . exact hN.out a h1 (by omega))⟩
     case measure => have := HI.out; simp [intOf]; omega
    have HY := hid (hops_yes HZ.out (by have := hi.out; have := HI.out; omega) HB.out hA hn)
    have tn : decide ((n : Int) <= 255) = true := by simp; omega
    have tn2 : ((n : Int) <= 255) = True := by simp; omega
    have n0 : (0 : Int) <= (n : Int) := by omega
    have n1 : (n : Int) <= 255 := by omega
    have t2 : IntKind.i64.wrap (n : Int) = (n : Int) := IntWalk.i64_in _ (by omega)
    rw [hA] at h2
    obtain ⟨rfl, hb2⟩ := h2
    have HE2 := hid (HE1.out.trans hb2)
    clear hb2 hA hn
    dsimp only [Option.getD, Option.isSome]
    go_wp2_with fail
    refine bodyPost_ret (v := .tuple #[.int .i64 (i : Int), .int .i64 (n : Int), .bool true]) (by simp [results, Tryz.results25, go_sem]) rfl (QHops.some HY.out (Ret.mk rfl HE2.out))
  .
   obtain rfl : i = 256 := by have := hi.out; omega
   have HN := hid (hops_none (l := l) (fun a h1 h2 => hN.out a h1 (by omega)))
   go_wp2_with fail
   refine bodyPost_ret (v := .tuple #[.int .i64 0, .int .i64 0, .bool false]) (by simp [results, Tryz.results25, go_sem]) rfl (QHops.none HN.out (Ret.mk rfl hE.out))
theorem infoEID : (Tryz.prog.info? 24).map (fun i => (i.zero, i.size, i.bytes)) = some (some (.agg #[.int .i64 0, .string ⟨#[]⟩, .int .u64 0, .int .u64 0]), 4, 40) := by kernel_rfl
def OfPost (t : T) (w : World) (e : Ending) (w' : World) : Prop := Ret (.tuple #[(if ofB t then readE t else zeroE).v, .int .i64 (if ofB t then 0 else 2)]) w e w'
def flatE : List EV -> List Value
 | [] => []
 | e :: l => .int .i64 e.sch :: str e.name :: .int .u64 (e.node : Int) :: .int .u64 (e.svc : Int) :: flatE l
theorem flatE_one (l : List EV) : ∀ u ∈ flatE l, u.oneCell' = true := by
 induction l with
 | nil => intro u h; cases h
 | cons e l ih =>
  intro u h
  simp only [flatE, List.mem_cons] at h
  rcases h with rfl | rfl | rfl | rfl | h
  . rfl
  . rfl
  . rfl
  . rfl
  . exact ih u h
theorem flatE_app (l m : List EV) : flatE (l ++ m) = flatE l ++ flatE m := by
 induction l with
 | nil => rfl
 | cons e l ih => simp [flatE, ih]
theorem flatE_get (l : List EV) : ∀ (i : Nat) (e : EV), l[i]? = some e -> (flatE l)[i * 4]? = some (.int .i64 e.sch) /\ (flatE l)[i * 4 + 1]? = some (str e.name) /\ (flatE l)[i * 4 + 2]? = some (.int .u64 (e.node : Int)) /\ (flatE l)[i * 4 + 3]? = some (.int .u64 (e.svc : Int)) := by
 induction l with
 | nil => intro i e h; simp at h
 | cons x l ih =>
  intro i e h
  cases i with
  | zero => simp at h; subst h; exact ⟨rfl, rfl, rfl, rfl⟩
  | succ i =>
   have := ih i e (by simpa using h)
   rw [show (i + 1) * 4 = i * 4 + 4 by omega, show i * 4 + 4 + 1 = (i * 4 + 1) + 4 by omega, show i * 4 + 4 + 2 = (i * 4 + 2) + 4 by omega, show i * 4 + 4 + 3 = (i * 4 + 3) + 4 by omega]
   simpa [flatE] using this
theorem OfPost.no {t : T} {w w' : World} {e : Ending} (hB : ofB t = false) (h : Ret (.tuple #[zeroE.v, .int .i64 2]) w e w') : OfPost t w e w' := by unfold OfPost; rw [hB]; exact h
theorem OfPost.yes {t : T} (hr : t.right 8 = true) (hok : t.ok) {w w' : World} {e : Ending} {E : EV} (hE : isPrev t.bytes E) (h : Ret (.tuple #[E.v, .int .i64 0]) w e w') : OfPost t w e w' := by
 unfold OfPost
 obtain ⟨h1, h2⟩ := prev_tree hr hok hE
 rw [h2, h1]; exact h
theorem ofB_two {t : T} (h : ofB t = true) : t.right 8 = true /\ t.k = 2 := by
 unfold ofB at h
 simp only [Bool.and_eq_true] at h
 refine ⟨h.2.1, ?_⟩
 by_cases hk : t.k = 2
 . exact hk
 .
  have : readE t = zeroE := by unfold readE; rw [if_pos (.inr (.inl hk))]
  rw [this] at h
  exact absurd h.1 (by decide)
theorem of_tries {t : T} (hr : t.right 8 = true) (hok : t.ok) (h0 : ¬ isPrev t.bytes noneE) (h1 : ¬ isPrev t.bytes ⟨1, (t.ch 1).s, 0, 0⟩) (h2 : (t.ch 1).k = 2 -> ¬ isPrev t.bytes ⟨2, [], ((t.ch 1).ch 0).n, ((t.ch 1).ch 1).n⟩) : ofB t = false := by
 by_cases hB : ofB t = true
 .
  have hp := tree_prev hr hok hB
  have hE : readE t = zeroE \/ readE t = noneE \/ readE t = ⟨1, (t.ch 1).s, 0, 0⟩ \/ ((t.ch 1).k = 2 /\ readE t = ⟨2, [], ((t.ch 1).ch 0).n, ((t.ch 1).ch 1).n⟩) := by
   unfold readE
   split
   . exact .inl rfl
   .
    split
    next h => exact .inr (.inr (.inr ⟨h.2, rfl⟩))
    .
     split
     . exact .inr (.inr (.inl rfl))
     . exact .inr (.inl rfl)
  rcases hE with h | h | h | ⟨hk, h⟩ <;> rw [h] at hp
  . exact absurd hp.1 (by decide)
  . exact absurd hp h0
  . exact absurd hp h1
  . exact absurd hp (h2 hk)
 . simpa using hB
set_option maxRecDepth 20000 in
theorem of_bad1 (t : T) (hok : t.ok) (hr : t.right 8 = false) (A : Option Addr) (c : Nat) (w : World) (h : IsL w (fun _ => True) t A) : Calls Tryz.prog 50 #[itemV t A c] w (OfPost t w) := by
 have K1 := hid (fun W hW => rRight_any t hok A c W hW)
 have H := hid h
 have HE := hid (((Mod.refl [] w).alloc (.cells (itemC t A c) 86)).alloc (.cells #[.int .i64 0, .string ⟨#[]⟩, .int .u64 0, .int .u64 0] 24))
 have HX := hid ((Blk.new w 86 (itemC t A c)).alloc (.cells #[.int .i64 0, .string ⟨#[]⟩, .int .u64 0, .int .u64 0] 24))
 have HQ := hid (Blk.new' (w.alloc (.cells (itemC t A c) 86)) 24 zeroE.c (N := w.heap.size + 1) (by simp))
 rw [hr] at K1
 have HB : Hid (ofB t = false) := hid (by
  by_cases hB : ofB t = true
  . have := (ofB_two hB).1; rw [hr] at this; cases this
  . simpa using hB)
 clear hr hok h
 go_enter Tryz.func50, Tryz.ntmps50
 go_wp2_with fail
 refine (K1.out _ (H.out.ext HE.out)).mono ?_
 rintro e1 w1 ⟨rfl, hb1⟩
 have HE1 := hid (HE.out.trans hb1)
 have HX1 := hid (HX.out.ext hb1)
 have HQ1 := hid (HQ.out.ext hb1)
 clear hb1
 have HC := HQ1.out
 obtain ⟨c0, c1, c2, c3⟩ := cells4 (e := zeroE) HC
 have f0 := Blk.frozen HC 0
 have f1 := Blk.frozen HC 1
 have f2 := Blk.frozen HC 2
 have f3 := Blk.frozen HC 3
 go_wp2_with fail
 obtain ⟨d0, d1, d2, d3⟩ := cells4 (set4_blk (e0 := zeroE) (e := zeroE) HC)
 clear c0 c1 c2 c3 f0 f1 f2 f3
 show bodyPost _ _ _ _ _ (set4 w1 (w.heap.size + 1) zeroE)
 refine bodyPost_ret (v := .tuple #[EV.v zeroE, .int .i64 2]) (by simp [results, Tryz.results50, go_sem, d0, d1, d2, d3]) rfl (OfPost.no HB.out (Ret.mk rfl (set4_mod HE1.out (by omega))))
set_option maxRecDepth 20000 in
theorem of_bad2 (t : T) (hok : t.ok) (hr : t.right 8 = true) (hk : t.k ≠ 2) (A : Option Addr) (c : Nat) (w : World) (h : IsL w (fun _ => True) t A) : Calls Tryz.prog 50 #[itemV t A c] w (OfPost t w) := by
 have K1 := hid (fun W hW => rRight_any t hok A c W hW)
 have H := hid h
 have HE := hid (((Mod.refl [] w).alloc (.cells (itemC t A c) 86)).alloc (.cells #[.int .i64 0, .string ⟨#[]⟩, .int .u64 0, .int .u64 0] 24))
 have HX := hid ((Blk.new w 86 (itemC t A c)).alloc (.cells #[.int .i64 0, .string ⟨#[]⟩, .int .u64 0, .int .u64 0] 24))
 have HQ := hid (Blk.new' (w.alloc (.cells (itemC t A c) 86)) 24 zeroE.c (N := w.heap.size + 1) (by simp))
 rw [hr] at K1
 have HB : Hid (ofB t = false) := hid (by
  by_cases hB : ofB t = true
  . have := (ofB_two hB).2; exact absurd this hk
  . simpa using hB)
 obtain ⟨kk, hkk⟩ : ∃ x, x = t.k := ⟨_, rfl⟩
 have n1 : ((kk : Int) == 2) = false := by simp; omega
 have n2 : ((kk : Int) = 2) = False := by simp; omega
 have n3 : ((kk : Int) != 2) = true := by simp; omega
 clear hr hok h hk
 go_enter Tryz.func50, Tryz.ntmps50
 go_wp2_with fail
 refine (K1.out _ (H.out.ext HE.out)).mono ?_
 rintro e1 w1 ⟨rfl, hb1⟩
 have HE1 := hid (HE.out.trans hb1)
 have HX1 := hid (HX.out.ext hb1)
 have HQ1 := hid (HQ.out.ext hb1)
 clear hb1
 have x3 : w1.cell? ⟨w.heap.size, 3, none⟩ = some (.slice A kk c) := by rw [hkk]; exact HX1.out.cell 3
 clear hkk
 have HC := HQ1.out
 obtain ⟨c0, c1, c2, c3⟩ := cells4 (e := zeroE) HC
 have f0 := Blk.frozen HC 0
 have f1 := Blk.frozen HC 1
 have f2 := Blk.frozen HC 2
 have f3 := Blk.frozen HC 3
 go_wp2_with fail
 obtain ⟨d0, d1, d2, d3⟩ := cells4 (set4_blk (e0 := zeroE) (e := zeroE) HC)
 clear c0 c1 c2 c3 f0 f1 f2 f3
 show bodyPost _ _ _ _ _ (set4 w1 (w.heap.size + 1) zeroE)
 refine bodyPost_ret (v := .tuple #[EV.v zeroE, .int .i64 2]) (by simp [results, Tryz.results50, go_sem, d0, d1, d2, d3]) rfl (OfPost.no HB.out (Ret.mk rfl (set4_mod HE1.out (by omega))))
set_option maxRecDepth 20000 in
set_option maxHeartbeats 3200000 in
theorem of_three (kind : Int) (n : Nat) (s : List UInt8) (op : Bool) (ch : Nat -> T) (hok : (T.mk kind n s op 2 ch).ok) (hr : (T.mk kind n s op 2 ch).right 8 = true) (hs : (T.mk kind n s op 2 ch).size <= 100000) (hk1 : (ch 1).k = 2) (A : Option Addr) (c : Nat) (w : World) (h : IsL w (fun _ => True) (T.mk kind n s op 2 ch) A) : Calls Tryz.prog 50 #[itemV (T.mk kind n s op 2 ch) A c] w (OfPost (T.mk kind n s op 2 ch) w) := by
 obtain ⟨b, o, ac, hA, hb, _, hac⟩ := h.rows (by omega)
 have HA1 := hid (hac 1 (by omega)).1
 obtain ⟨b1, o1, A2, A3, c2, c3, hA1, hb1, HI0, HI1⟩ : ∃ b1 o1 A2 A3 c2 c3, (ac 1).1 = some ⟨b1, o1, none⟩ /\ b1 < w.heap.size /\ Hid (At5 w b1 o1 ((ch 1).ch 0) A2 c2) /\ Hid (At5 w b1 (o1 + 5) ((ch 1).ch 1) A3 c3) := by
  have hl := (hac 1 (by omega)).2
  revert hl hk1
  cases ch 1 with
  | nil => intro hk1; cases hk1
  | mk kd nn ss oo kk cc =>
   intro hk1 hl
   have hkk : kk = 2 := hk1
   subst hkk
   obtain ⟨b1, o1, ac1, e1, e2, _, e3⟩ := hl.rows (by omega)
   exact ⟨b1, o1, _, _, _, _, e1, e2, by have := (e3 0 (by omega)).1; rw [show o1 + 0 * 5 = o1 by omega] at this; exact this, by have := (e3 1 (by omega)).1; rw [show o1 + 1 * 5 = o1 + 5 by omega] at this; exact this⟩
 obtain ⟨t, ht⟩ : ∃ t, t = T.mk kind n s op 2 ch := ⟨_, rfl⟩
 have hk : t.k = 2 := by rw [ht]; rfl
 have hch : t.ch = ch := by rw [ht]; rfl
 rw [<- ht] at hok hr hs h
 rw [<- ht]
 have HXA : Hid (A = some ⟨b, o, none⟩ /\ t.k = 2) := ⟨hA, hk⟩
 have HTR : Hid (∀ e0 e1 e2 : EV, e0 = noneE -> e1 = ⟨1, (ch 1).s, 0, 0⟩ -> e2 = ⟨2, [], ((ch 1).ch 0).n, ((ch 1).ch 1).n⟩ -> ¬ isPrev t.bytes e0 -> ¬ isPrev t.bytes e1 -> ¬ isPrev t.bytes e2 -> ofB t = false) := fun e0 e1 e2 h0 h1 h2 g0 g1 g2 => of_tries hr hok (by rw [<- h0]; exact g0) (by rw [hch, <- h1]; exact g1) (by rw [hch]; intro _; rw [<- h2]; exact g2)
 have HY : Hid (∀ E, isPrev t.bytes E -> ∀ w' e, Ret (.tuple #[E.v, .int .i64 0]) w e w' -> OfPost t w e w') := fun E hE w' e hR => OfPost.yes hr hok hE hR
 have HPL := hid (T.plain_of hr)
 have KB : Hid (∀ (E : EV), E.ok = true -> ∀ B W, IsL W (fun _ => True) (eidT E) B -> Calls Tryz.prog 72 #[itemV (eidT E) B 2] W (Ret (str (eidT E).bytes) W)) := fun E hE B W hW => rBytesI_any _ (eidT_ok hE).1 (eidT_ok hE).2.2.1 (eidT_ok hE).2.2.2 B 2 W hW
 have KT : Hid (∀ W, IsL W (fun _ => True) t A -> Calls Tryz.prog 72 #[itemV t A c] W (Ret (str t.bytes) W)) := fun W hW => rBytesI_any t hok HPL.out hs A c W hW
 have KR := hid (fun E W => r10_any E W)
 have KI := hid (fun (E : EV) (hE : E.ok = true) W => r10Item_ok E hE W)
 have K1 := hid (fun W hW => rRight_any t hok A c W hW)
 have H := hid h
 have HE := hid (((Mod.refl [] w).alloc (.cells (itemC t A c) 86)).alloc (.cells #[.int .i64 0, .string ⟨#[]⟩, .int .u64 0, .int .u64 0] 24))
 have HX := hid ((Blk.new w 86 (itemC t A c)).alloc (.cells #[.int .i64 0, .string ⟨#[]⟩, .int .u64 0, .int .u64 0] 24))
 have HQ := hid (Blk.new' (w.alloc (.cells (itemC t A c) 86)) 24 zeroE.c (N := w.heap.size + 1) (by simp))
 rw [hr] at K1
 clear hr hok h hs HPL hac hA hk hch ht
 obtain ⟨i0, hi0, hz0, hz1, hz2⟩ := info_parts infoEID
 have HINF := hid (And.intro hi0 (And.intro hz0 (And.intro hz1 hz2)))
 clear hi0 hz0 hz1 hz2
 go_enter Tryz.func50, Tryz.ntmps50
 go_wp2_with fail
 refine (K1.out _ (H.out.ext HE.out)).mono ?_
 rintro e1 w1 ⟨rfl, hb1⟩
 have HE1 := hid (HE.out.trans hb1)
 have HX1 := hid (HX.out.ext hb1)
 have HQ1 := hid (HQ.out.ext hb1)
 clear hb1
 have x3 : w1.cell? ⟨w.heap.size, 3, none⟩ = some (.slice (some ⟨b, o, none⟩) 2 c) := by rw [<- HXA.out.1, <- HXA.out.2]; exact HX1.out.cell 3
 obtain ⟨p0, p1, p2, p3, p4⟩ : At5 w1 b (o + 5) (ch 1) (ac 1).1 (ac 1).2 := by have := At5.mod HA1.out HE1.out hb (by simp); rw [show o + 1 * 5 = o + 5 by omega] at this; exact this
 clear HA1
 go_upto_region 4 with fail
 clear p0 p1 p2 p3 p4 x3
 have HX2 := hid (HX1.out.alloc (.cells #[.int .i64 (ch 1).kind, .int .u64 ((ch 1).n : Int), str (ch 1).s, .slice (some ⟨b1, o1, none⟩) 2 (ac 1).2, .bool (ch 1).op] 86))
 have HQ2 := hid (HQ1.out.alloc (.cells #[.int .i64 (ch 1).kind, .int .u64 ((ch 1).n : Int), str (ch 1).s, .slice (some ⟨b1, o1, none⟩) 2 (ac 1).2, .bool (ch 1).op] 86))
 have HE2 := hid (HE1.out.alloc (.cells #[.int .i64 (ch 1).kind, .int .u64 ((ch 1).n : Int), str (ch 1).s, .slice (some ⟨b1, o1, none⟩) 2 (ac 1).2, .bool (ch 1).op] 86))
 have HY2 := hid (Blk.new w1 86 #[.int .i64 (ch 1).kind, .int .u64 ((ch 1).n : Int), str (ch 1).s, .slice (some ⟨b1, o1, none⟩) 2 (ac 1).2, .bool (ch 1).op])
 have HN : Hid (w.heap.size + 2 <= w1.heap.size) := Nat.succ_le_of_lt HQ1.out.lt
 have HS2 : Hid ((w1.alloc (.cells #[.int .i64 (ch 1).kind, .int .u64 ((ch 1).n : Int), str (ch 1).s, .slice (some ⟨b1, o1, none⟩) 2 (ac 1).2, .bool (ch 1).op] 86)).heap.size = w1.heap.size + 1) := hid (by simp)
 generalize w1.alloc (.cells #[.int .i64 (ch 1).kind, .int .u64 ((ch 1).n : Int), str (ch 1).s, .slice (some ⟨b1, o1, none⟩) 2 (ac 1).2, .bool (ch 1).op] 86) = W2 at *
 have y2 : W2.cell? ⟨w1.heap.size, 2, none⟩ = some (str (ch 1).s) := HY2.out.cell 2
 have y3 : W2.cell? ⟨w1.heap.size, 3, none⟩ = some (.slice (some ⟨b1, o1, none⟩) 2 (ac 1).2) := HY2.out.cell 3
 clear HE HX HQ HX1 HQ1 HE1
 obtain ⟨hi, hz0, hz1, hz2⟩ := HINF.out
 go_upto_region 6 with (at_builtin; refine wpList_append_lies _ rfl _ _ 30 rfl W2.heap.size 24 i0 _ 4 40 Tryz.underlying30 hi hz0 hz1 hz2 rfl (by decide) _ 0 [] (by rfl) (World.ownsRow_nil _ _ _ _) ⟨W2.heap.size, 0, none⟩ 2 2 (flatE [noneE, ⟨1, (ch 1).s, 0, 0⟩]) (by rfl) rfl (World.news_of_block (heap_alloc_new W2 _)) (flatE_one _) (by decide) (by decide) (by decide) (by simp) (W2.heap.size + 1) (by simp) ?_; intro g cap w5 hown hgrow hat hlt)
 have hg : W2.heap.size + 1 = g := by
  rcases hat with h | h
  . simp [Value.ownBlock] at h
  . exact h.symm
 have hE5 : Ext w w5 := Mod.grown (HE2.out.alloc _) hgrow (fun k hk => by simp [Value.ownBlock] at hk)
 have HE5 := hid hE5
 have HX5 : Hid (Blk w5 w.heap.size 86 (itemC t A c)) := (HX2.out.alloc _).mod (S := []) (Mod.grown (Mod.refl _ _) hgrow (fun k hk => by simp [Value.ownBlock] at hk)) (by simp)
 have HQ5 : Hid (Blk w5 (w.heap.size + 1) 24 zeroE.c) := (HQ2.out.alloc _).mod (S := []) (Mod.grown (Mod.refl _ _) hgrow (fun k hk => by simp [Value.ownBlock] at hk)) (by simp)
 have HY5 : Hid (Blk w5 w1.heap.size 86 #[.int .i64 (ch 1).kind, .int .u64 ((ch 1).n : Int), str (ch 1).s, .slice (some ⟨b1, o1, none⟩) 2 (ac 1).2, .bool (ch 1).op]) := (HY2.out.alloc _).mod (S := []) (Mod.grown (Mod.refl _ _) hgrow (fun k hk => by simp [Value.ownBlock] at hk)) (by simp)
 simp only [Nat.zero_add, List.nil_append] at hown
 have HO5 := hid hown
 have HG5 : Hid (w1.heap.size + 2 = g /\ g < w5.heap.size /\ W2.heap.size = w1.heap.size + 1) := ⟨by have := HS2.out; omega, hlt, HS2.out⟩
 clear hown hgrow hat hlt hE5 hg HX2 HQ2 HE2 HY2 y2 y3 HS2
 have y3 : w5.cell? ⟨w1.heap.size, 3, none⟩ = some (.slice (some ⟨b1, o1, none⟩) 2 (ac 1).2) := HY5.out.cell 3
 have HI05 : Hid (At5 w5 b1 o1 ((ch 1).ch 0) A2 c2) := At5.mod HI0.out HE5.out hb1 (by simp)
 have HI15 : Hid (At5 w5 b1 (o1 + 5) ((ch 1).ch 1) A3 c3) := At5.mod HI1.out HE5.out hb1 (by simp)
 have q0 : w5.cell? ⟨b1, o1 + 1, none⟩ = some (.int .u64 (((ch 1).ch 0).n : Int)) := HI05.out.2.1
 have q1 : w5.cell? ⟨b1, o1 + 5 + 1, none⟩ = some (.int .u64 (((ch 1).ch 1).n : Int)) := HI15.out.2.1
 have hO5 := HO5.out.alloc (.cells (EV.c ⟨2, [], ((ch 1).ch 0).n, ((ch 1).ch 1).n⟩) 24)
 clear HI0 HI1 HI05 HI15
 go_wp2_with fail
 go_region_held3 (fun w' => w'.cell? ⟨w1.heap.size, 3, none⟩ = some (.slice (some ⟨b1, o1, none⟩) 2 (ac 1).2) /\ w'.cell? ⟨b1, o1 + 1, none⟩ = some (.int .u64 (((ch 1).ch 0).n : Int)) /\ w'.cell? ⟨b1, o1 + 5 + 1, none⟩ = some (.int .u64 (((ch 1).ch 1).n : Int))) (go_keep)
  ((refine step_append_lies _ (by rfl) _ _ 30 (by rfl) W2.heap.size 24 i0 _ 4 40 Tryz.underlying30 hi hz0 hz1 hz2 (by rfl) (by decide) _ 2 _ (by rfl) hO5 ⟨w5.heap.size, 0, none⟩ 1 1 (flatE [⟨2, [], ((ch 1).ch 0).n, ((ch 1).ch 1).n⟩]) (by rfl) (by rfl) (World.news_of_block (heap_alloc_new w5 _)) (flatE_one _) (by decide) (by decide) (by decide) (by simp; have := HG5.out; omega) (w5.heap.size + 1) (by simp) ?_; intro g2 cap2 w6 hown hgrow hat hlt; have hm6 : Mod [g] w5 w6 := Mod.grown (by first | exact (Mod.refl [g] w5).alloc _ | exact ((Mod.refl [g] w5).alloc _).drew | exact ((Mod.refl [g] w5).drew).alloc _) hgrow (fun k hk => by simp [Value.ownBlock] at hk; subst hk; exact .inl (by simp)); have z1 := (hm6.cell (k := w1.heap.size) (o := 3) HY5.out.lt (by have := HG5.out; simp; omega)).trans y3; have z2 := (hm6.cell (k := b1) (o := o1 + 1) (by have := HE5.out.size; omega) (by have := HG5.out; have := HN.out; simp; omega)).trans q0; have z3 := (hm6.cell (k := b1) (o := o1 + 5 + 1) (by have := HE5.out.size; omega) (by have := HG5.out; have := HN.out; simp; omega)).trans q1))
 have HO6 : Hid (w6.ownsRow W2.heap.size 24 4 (.slice (some ⟨g2, 0, none⟩) 3 cap2) 3 (flatE [noneE, ⟨1, (ch 1).s, 0, 0⟩, ⟨2, [], ((ch 1).ch 0).n, ((ch 1).ch 1).n⟩])) := by have := hown; rw [<- flatE_app] at this; exact this
 have HE6 : Hid (Ext w w6) := (HE5.out.of_ext.trans hm6).new (fun k hk => .inr (by rw [List.mem_singleton] at hk; subst hk; have := HG5.out; have := HN.out; omega))
 have HX6 : Hid (Blk w6 w.heap.size 86 (itemC t A c)) := HX5.out.mod hm6 (by have := HG5.out; have := HN.out; simp; omega)
 have HQ6 : Hid (Blk w6 (w.heap.size + 1) 24 zeroE.c) := HQ5.out.mod hm6 (by have := HG5.out; have := HN.out; simp; omega)
 clear hown hgrow hat hlt hm6 z1 z2 z3 q0 q1 y3 hO5 HO5 HE5 HX5 HQ5 HY5
 go_wp2_with fail
 have cx0 : ∀ e : Later w6, e.x.cell? ⟨w.heap.size, 0, none⟩ = some (.int .i64 t.kind) := HX6.out.cellL 0 rfl
 have cx1 : ∀ e : Later w6, e.x.cell? ⟨w.heap.size, 1, none⟩ = some (.int .u64 (t.n : Int)) := HX6.out.cellL 1 rfl
 have cx2 : ∀ e : Later w6, e.x.cell? ⟨w.heap.size, 2, none⟩ = some (str t.s) := HX6.out.cellL 2 rfl
 have cx3 : ∀ e : Later w6, e.x.cell? ⟨w.heap.size, 3, none⟩ = some (.slice A t.k c) := HX6.out.cellL 3 rfl
 have cx4 : ∀ e : Later w6, e.x.cell? ⟨w.heap.size, 4, none⟩ = some (.bool t.op) := HX6.out.cellL 4 rfl
 have HXL : Hid (∀ e : Later w6, IsL e.x (fun _ => True) t A) := fun e => H.out.ext (HE6.out.trans e.h)
 clear hi hz0 hz1 hz2 HINF
 obtain ⟨e0, he0⟩ := Later.self w6
 go_loopw [6] (fun s6 wr => ∃ i : Nat, s6 = .int .i64 (i : Int) /\ Hid (i <= 3 /\ ∀ (j : Nat) (E : EV), j < i -> [noneE, ⟨1, (ch 1).s, 0, 0⟩, ⟨2, [], ((ch 1).ch 0).n, ((ch 1).ch 1).n⟩][j]? = some E -> ¬ isPrev t.bytes E) /\ ∃ e : Later w6, wr = e.x) (fun s6 _ => 3 - (intOf s6).toNat)
 case atStart => exact ⟨0, rfl, (show Hid _ from ⟨by omega, fun j E hj => by omega⟩), e0, he0⟩
 case round =>
  clear he0 e0
  obtain ⟨i, rfl, hi, e, rfl⟩ := hrel
  have i0 : (0 : Int) <= (i : Int) := by omega
  have i1 : (i : Int) <= 3 := by have := hi.out.1; omega
  by_cases hlt : i < 3
  .
   obtain ⟨E, hE⟩ : ∃ E, [noneE, ⟨1, (ch 1).s, 0, 0⟩, ⟨2, [], ((ch 1).ch 0).n, ((ch 1).ch 1).n⟩][i]? = some E := ⟨_, List.getElem?_eq_getElem hlt⟩
   obtain ⟨g0, g1, g2', g3⟩ := flatE_get [noneE, ⟨1, (ch 1).s, 0, 0⟩, ⟨2, [], ((ch 1).ch 0).n, ((ch 1).ch 1).n⟩] i E hE
   have r0 : ∀ e : Later w6, e.x.cell? ⟨g2, i * 4, none⟩ = some (.int .i64 E.sch) := cellL (own_cells HO6.out g0)
   have r1 : ∀ e : Later w6, e.x.cell? ⟨g2, i * 4 + 1, none⟩ = some (str E.name) := cellL (own_cells HO6.out g1)
   have r2 : ∀ e : Later w6, e.x.cell? ⟨g2, i * 4 + 2, none⟩ = some (.int .u64 (E.node : Int)) := cellL (own_cells HO6.out g2')
   have r3 : ∀ e : Later w6, e.x.cell? ⟨g2, i * 4 + 3, none⟩ = some (.int .u64 (E.svc : Int)) := cellL (own_cells HO6.out g3)
   have tc : decide ((i : Int) < 3) = true := by simp; omega
   have tc2 : ((i : Int) < 3) = True := by simp; omega
   have HI := hid hlt
   have KR1 := hid (fun W => KR.out E W)
   have HEE := hid hE
   clear g0 g1 g2' g3 hlt hE
   have HNX : ¬ isPrev t.bytes E -> Hid (i + 1 <= 3 /\ ∀ (j : Nat) (E : EV), j < i + 1 -> [noneE, ⟨1, (ch 1).s, 0, 0⟩, ⟨2, [], ((ch 1).ch 0).n, ((ch 1).ch 1).n⟩][j]? = some E -> ¬ isPrev t.bytes E) := fun hn => ⟨HI.out, fun j F hj hF => by
    by_cases h : j = i
    . subst h; rw [HEE.out] at hF; simp only [Option.some.injEq] at hF; subst hF; exact hn
    . exact hi.out.2 j F (by omega) hF⟩
   have HNX := hid HNX
   go_wp2_with fail
   by_cases hok : E.ok = true
   .
    have KI1 := hid (KI.out E hok)
    have KB1 := hid (KB.out E hok)
    have HOK := hid hok
    rw [hok] at KR1
    clear hok
    by_cases hb : (eidT E).bytes = t.bytes
    .
     have HY1 := hid (HY.out E ⟨HOK.out, hb⟩)
     rw [hb] at KB1
     clear hb
     go_region_held3 (fun w' => w'.cell? ⟨g2, i * 4, none⟩ = some (.int .i64 E.sch) /\ w'.cell? ⟨g2, i * 4 + 1, none⟩ = some (str E.name) /\ w'.cell? ⟨g2, i * 4 + 2, none⟩ = some (.int .u64 (E.node : Int)) /\ w'.cell? ⟨g2, i * 4 + 3, none⟩ = some (.int .u64 (E.svc : Int)) /\ w'.cell? ⟨w.heap.size, 0, none⟩ = some (.int .i64 t.kind) /\ w'.cell? ⟨w.heap.size, 1, none⟩ = some (.int .u64 (t.n : Int)) /\ w'.cell? ⟨w.heap.size, 2, none⟩ = some (str t.s) /\ w'.cell? ⟨w.heap.size, 3, none⟩ = some (.slice A t.k c) /\ w'.cell? ⟨w.heap.size, 4, none⟩ = some (.bool t.op)) (go_keep)
      (first
       | (go_at_call 13; refine (Ret.laterW (by first | exact Later.h _ | exact (Later.h _).drew) (KR1.out _)).mono ?_; rintro x _ ⟨rfl, ez, rfl⟩)
       | (go_at_call 73; refine (KI1.out _).mono ?_; rintro x w3 ⟨B, rfl, hb3, hi3⟩; have hi3 := IsL.weak (R := fun _ => True) (fun _ _ _ => trivial) _ hi3; obtain ⟨ez, rfl⟩ : ∃ ez : Later w6, w3 = ez.x := ⟨⟨w3, Mod.trans (Later.h _) hb3⟩, rfl⟩)
       | (go_at_call 72; (with_reducible refine (KT.out _ (HXL.out _)).mono ?_); rintro x w4 ⟨rfl, hb4⟩; (try have hi3 := IsL.ext hi3 hb4); obtain ⟨ez, rfl⟩ : ∃ ez : Later w6, w4 = ez.x := ⟨⟨w4, Mod.trans (Later.h _) hb4⟩, rfl⟩)
       | (go_at_call 72; (with_reducible refine (KB1.out _ _ hi3).mono ?_); rintro x w4 ⟨rfl, hb4⟩; obtain ⟨ez, rfl⟩ : ∃ ez : Later w6, w4 = ez.x := ⟨⟨w4, Mod.trans (Later.h _) hb4⟩, rfl⟩))
     all_goals clear cx0 cx1 cx2 cx3 cx4
     have q0 : ∀ e : Later w6, e.x.cell? ⟨w.heap.size + 1, 0, none⟩ = some (.int .i64 0) := HQ6.out.cellL 0 rfl
     have q1 : ∀ e : Later w6, e.x.cell? ⟨w.heap.size + 1, 1, none⟩ = some (str []) := HQ6.out.cellL 1 rfl
     have q2 : ∀ e : Later w6, e.x.cell? ⟨w.heap.size + 1, 2, none⟩ = some (.int .u64 0) := HQ6.out.cellL 2 rfl
     have q3 : ∀ e : Later w6, e.x.cell? ⟨w.heap.size + 1, 3, none⟩ = some (.int .u64 0) := HQ6.out.cellL 3 rfl
     have fr : ∀ (e : Later w6) (j : Nat), e.x.frozen? ⟨w.heap.size + 1, j, none⟩ = false := fun e j => (HQ6.out.later e).frozen j
     all_goals go_wp2_with fail
     all_goals clear q0 q1 q2 q3 fr
     all_goals obtain ⟨d0, d1, d2, d3⟩ := cells4 (set4_blk (e0 := zeroE) (e := E) (HQ6.out.later ez))
     all_goals show bodyPost _ _ _ _ _ (set4 ez.x (w.heap.size + 1) E)
     all_goals refine bodyPost_ret (v := .tuple #[EV.v E, .int .i64 0]) (by simp [results, Tryz.results50, go_sem, d0, d1, d2, d3]) rfl (HY1.out _ _ (Ret.mk rfl (set4_mod (HE6.out.trans ez.h) (by omega))))
    .
     have b1 : ((eidT E).bytes == t.bytes) = false := by simpa using hb
     have b2 : ((eidT E).bytes = t.bytes) = False := by simpa using hb
     have HN2 := HNX.out (fun h => hb h.2)
     clear hb
     go_region_held3 (fun w' => w'.cell? ⟨g2, i * 4, none⟩ = some (.int .i64 E.sch) /\ w'.cell? ⟨g2, i * 4 + 1, none⟩ = some (str E.name) /\ w'.cell? ⟨g2, i * 4 + 2, none⟩ = some (.int .u64 (E.node : Int)) /\ w'.cell? ⟨g2, i * 4 + 3, none⟩ = some (.int .u64 (E.svc : Int)) /\ w'.cell? ⟨w.heap.size, 0, none⟩ = some (.int .i64 t.kind) /\ w'.cell? ⟨w.heap.size, 1, none⟩ = some (.int .u64 (t.n : Int)) /\ w'.cell? ⟨w.heap.size, 2, none⟩ = some (str t.s) /\ w'.cell? ⟨w.heap.size, 3, none⟩ = some (.slice A t.k c) /\ w'.cell? ⟨w.heap.size, 4, none⟩ = some (.bool t.op)) (go_keep)
      (first
       | (go_at_call 13; refine (Ret.laterW (by first | exact Later.h _ | exact (Later.h _).drew) (KR1.out _)).mono ?_; rintro x _ ⟨rfl, ez, rfl⟩)
       | (go_at_call 73; refine (KI1.out _).mono ?_; rintro x w3 ⟨B, rfl, hb3, hi3⟩; have hi3 := IsL.weak (R := fun _ => True) (fun _ _ _ => trivial) _ hi3; obtain ⟨ez, rfl⟩ : ∃ ez : Later w6, w3 = ez.x := ⟨⟨w3, Mod.trans (Later.h _) hb3⟩, rfl⟩)
       | (go_at_call 72; (with_reducible refine (KT.out _ (HXL.out _)).mono ?_); rintro x w4 ⟨rfl, hb4⟩; (try have hi3 := IsL.ext hi3 hb4); obtain ⟨ez, rfl⟩ : ∃ ez : Later w6, w4 = ez.x := ⟨⟨w4, Mod.trans (Later.h _) hb4⟩, rfl⟩)
       | (go_at_call 72; (with_reducible refine (KB1.out _ _ hi3).mono ?_); rintro x w4 ⟨rfl, hb4⟩; obtain ⟨ez, rfl⟩ : ∃ ez : Later w6, w4 = ez.x := ⟨⟨w4, Mod.trans (Later.h _) hb4⟩, rfl⟩))
     all_goals go_wp2_with fail
     all_goals go_roundw
     all_goals first | (have := HI.out; simp [intOf]; omega) | exact ⟨i + 1, by go_num, HN2, ez, rfl⟩ | ((repeat apply Exists.intro); exact ⟨⟨i + 1, by go_num, HN2, ez, rfl⟩, rfl⟩)
   .
    have hok2 : E.ok = false := by simpa using hok
    rw [hok2] at KR1
    have HN2 := HNX.out (fun h => hok h.1)
    clear hok hok2
    refine wp_region_later (by kernel_rfl) (by kernel_rfl) ?_
    repeat (go_big_quiet_step ((go_at_call 13; exact Ret.later (KR1.out _))))
    refine wpQuiet_nil ?_
    rintro _ ⟨e2, rfl⟩
    go_wp2_with fail
    go_roundw
    case rel => exact ⟨i + 1, by go_num, HN2, e2, rfl⟩
    case measure => have := HI.out; simp [intOf]; omega
  .
   obtain rfl : i = 3 := by have := hi.out.1; omega
   have HB : Hid (ofB t = false) := HTR.out _ _ _ rfl rfl rfl (hi.out.2 0 _ (by omega) rfl) (hi.out.2 1 _ (by omega) rfl) (hi.out.2 2 _ (by omega) rfl)
   have q0 : ∀ e : Later w6, e.x.cell? ⟨w.heap.size + 1, 0, none⟩ = some (.int .i64 0) := HQ6.out.cellL 0 rfl
   have q1 : ∀ e : Later w6, e.x.cell? ⟨w.heap.size + 1, 1, none⟩ = some (str []) := HQ6.out.cellL 1 rfl
   have q2 : ∀ e : Later w6, e.x.cell? ⟨w.heap.size + 1, 2, none⟩ = some (.int .u64 0) := HQ6.out.cellL 2 rfl
   have q3 : ∀ e : Later w6, e.x.cell? ⟨w.heap.size + 1, 3, none⟩ = some (.int .u64 0) := HQ6.out.cellL 3 rfl
   have fr : ∀ (e : Later w6) (j : Nat), e.x.frozen? ⟨w.heap.size + 1, j, none⟩ = false := fun e j => (HQ6.out.later e).frozen j
   clear cx0 cx1 cx2 cx3 cx4
   go_wp2_with fail
   clear q0 q1 q2 q3 fr
   obtain ⟨d0, d1, d2, d3⟩ := cells4 (set4_blk (e0 := zeroE) (e := zeroE) (HQ6.out.later e))
   show bodyPost _ _ _ _ _ (set4 e.x (w.heap.size + 1) zeroE)
   refine bodyPost_ret (v := .tuple #[EV.v zeroE, .int .i64 2]) (by simp [results, Tryz.results50, go_sem, d0, d1, d2, d3]) rfl (OfPost.no HB.out (Ret.mk rfl (set4_mod (HE6.out.trans e.h) (by omega))))
set_option maxRecDepth 20000 in
set_option maxHeartbeats 3200000 in
theorem of_two (kind : Int) (n : Nat) (s : List UInt8) (op : Bool) (ch : Nat -> T) (hok : (T.mk kind n s op 2 ch).ok) (hr : (T.mk kind n s op 2 ch).right 8 = true) (hs : (T.mk kind n s op 2 ch).size <= 100000) (hk1 : (ch 1).k ≠ 2) (A : Option Addr) (c : Nat) (w : World) (h : IsL w (fun _ => True) (T.mk kind n s op 2 ch) A) : Calls Tryz.prog 50 #[itemV (T.mk kind n s op 2 ch) A c] w (OfPost (T.mk kind n s op 2 ch) w) := by
 obtain ⟨b, o, ac, hA, hb, _, hac⟩ := h.rows (by omega)
 have HA1 := hid (hac 1 (by omega)).1
 obtain ⟨t, ht⟩ : ∃ t, t = T.mk kind n s op 2 ch := ⟨_, rfl⟩
 have hk : t.k = 2 := by rw [ht]; rfl
 have hch : t.ch = ch := by rw [ht]; rfl
 rw [<- ht] at hok hr hs h
 rw [<- ht]
 have HXA : Hid (A = some ⟨b, o, none⟩ /\ t.k = 2) := ⟨hA, hk⟩
 have HTR : Hid (∀ e0 e1 e2 : EV, e0 = noneE -> e1 = ⟨1, (ch 1).s, 0, 0⟩ -> ¬ isPrev t.bytes e0 -> ¬ isPrev t.bytes e1 -> ofB t = false) := fun e0 e1 e2 h0 h1 g0 g1 => of_tries hr hok (by rw [<- h0]; exact g0) (by rw [hch, <- h1]; exact g1) (by rw [hch]; intro hk; exact absurd hk hk1)
 have HY : Hid (∀ E, isPrev t.bytes E -> ∀ w' e, Ret (.tuple #[E.v, .int .i64 0]) w e w' -> OfPost t w e w') := fun E hE w' e hR => OfPost.yes hr hok hE hR
 have HPL := hid (T.plain_of hr)
 have KB : Hid (∀ (E : EV), E.ok = true -> ∀ B W, IsL W (fun _ => True) (eidT E) B -> Calls Tryz.prog 72 #[itemV (eidT E) B 2] W (Ret (str (eidT E).bytes) W)) := fun E hE B W hW => rBytesI_any _ (eidT_ok hE).1 (eidT_ok hE).2.2.1 (eidT_ok hE).2.2.2 B 2 W hW
 have KT : Hid (∀ W, IsL W (fun _ => True) t A -> Calls Tryz.prog 72 #[itemV t A c] W (Ret (str t.bytes) W)) := fun W hW => rBytesI_any t hok HPL.out hs A c W hW
 have KR := hid (fun E W => r10_any E W)
 have KI := hid (fun (E : EV) (hE : E.ok = true) W => r10Item_ok E hE W)
 have K1 := hid (fun W hW => rRight_any t hok A c W hW)
 have H := hid h
 have HE := hid (((Mod.refl [] w).alloc (.cells (itemC t A c) 86)).alloc (.cells #[.int .i64 0, .string ⟨#[]⟩, .int .u64 0, .int .u64 0] 24))
 have HX := hid ((Blk.new w 86 (itemC t A c)).alloc (.cells #[.int .i64 0, .string ⟨#[]⟩, .int .u64 0, .int .u64 0] 24))
 have HQ := hid (Blk.new' (w.alloc (.cells (itemC t A c) 86)) 24 zeroE.c (N := w.heap.size + 1) (by simp))
 rw [hr] at K1
 have n1 : (((ch 1).k : Int) == 2) = false := by simp; omega
 have n2 : (((ch 1).k : Int) = 2) = False := by simp; omega
 clear hr hok h hs HPL hac hA hk hch ht hk1
 obtain ⟨i0, hi0, hz0, hz1, hz2⟩ := info_parts infoEID
 have HINF := hid (And.intro hi0 (And.intro hz0 (And.intro hz1 hz2)))
 clear hi0 hz0 hz1 hz2
 go_enter Tryz.func50, Tryz.ntmps50
 go_wp2_with fail
 refine (K1.out _ (H.out.ext HE.out)).mono ?_
 rintro e1 w1 ⟨rfl, hb1⟩
 have HE1 := hid (HE.out.trans hb1)
 have HX1 := hid (HX.out.ext hb1)
 have HQ1 := hid (HQ.out.ext hb1)
 clear hb1
 have x3 : w1.cell? ⟨w.heap.size, 3, none⟩ = some (.slice (some ⟨b, o, none⟩) 2 c) := by rw [<- HXA.out.1, <- HXA.out.2]; exact HX1.out.cell 3
 obtain ⟨p0, p1, p2, p3, p4⟩ : At5 w1 b (o + 5) (ch 1) (ac 1).1 (ac 1).2 := by have := At5.mod HA1.out HE1.out hb (by simp); rw [show o + 1 * 5 = o + 5 by omega] at this; exact this
 clear HA1
 go_upto_region 4 with fail
 clear p0 p1 p2 p3 p4 x3
 have HX2 := hid (HX1.out.alloc (.cells #[.int .i64 (ch 1).kind, .int .u64 ((ch 1).n : Int), str (ch 1).s, .slice (ac 1).1 (ch 1).k (ac 1).2, .bool (ch 1).op] 86))
 have HQ2 := hid (HQ1.out.alloc (.cells #[.int .i64 (ch 1).kind, .int .u64 ((ch 1).n : Int), str (ch 1).s, .slice (ac 1).1 (ch 1).k (ac 1).2, .bool (ch 1).op] 86))
 have HE2 := hid (HE1.out.alloc (.cells #[.int .i64 (ch 1).kind, .int .u64 ((ch 1).n : Int), str (ch 1).s, .slice (ac 1).1 (ch 1).k (ac 1).2, .bool (ch 1).op] 86))
 have HY2 := hid (Blk.new w1 86 #[.int .i64 (ch 1).kind, .int .u64 ((ch 1).n : Int), str (ch 1).s, .slice (ac 1).1 (ch 1).k (ac 1).2, .bool (ch 1).op])
 have HN : Hid (w.heap.size + 2 <= w1.heap.size) := Nat.succ_le_of_lt HQ1.out.lt
 have HS2 : Hid ((w1.alloc (.cells #[.int .i64 (ch 1).kind, .int .u64 ((ch 1).n : Int), str (ch 1).s, .slice (ac 1).1 (ch 1).k (ac 1).2, .bool (ch 1).op] 86)).heap.size = w1.heap.size + 1) := hid (by simp)
 generalize w1.alloc (.cells #[.int .i64 (ch 1).kind, .int .u64 ((ch 1).n : Int), str (ch 1).s, .slice (ac 1).1 (ch 1).k (ac 1).2, .bool (ch 1).op] 86) = W2 at *
 have y2 : W2.cell? ⟨w1.heap.size, 2, none⟩ = some (str (ch 1).s) := HY2.out.cell 2
 have y3 : W2.cell? ⟨w1.heap.size, 3, none⟩ = some (.slice (ac 1).1 (ch 1).k (ac 1).2) := HY2.out.cell 3
 clear HE HX HQ HX1 HQ1 HE1
 obtain ⟨hi, hz0, hz1, hz2⟩ := HINF.out
 go_upto_region 6 with (at_builtin; refine wpList_append_lies _ rfl _ _ 30 rfl W2.heap.size 24 i0 _ 4 40 Tryz.underlying30 hi hz0 hz1 hz2 rfl (by decide) _ 0 [] (by rfl) (World.ownsRow_nil _ _ _ _) ⟨W2.heap.size, 0, none⟩ 2 2 (flatE [noneE, ⟨1, (ch 1).s, 0, 0⟩]) (by rfl) rfl (World.news_of_block (heap_alloc_new W2 _)) (flatE_one _) (by decide) (by decide) (by decide) (by simp) (W2.heap.size + 1) (by simp) ?_; intro g cap w5 hown hgrow hat hlt)
 have hg : W2.heap.size + 1 = g := by
  rcases hat with h | h
  . simp [Value.ownBlock] at h
  . exact h.symm
 have hE5 : Ext w w5 := Mod.grown (HE2.out.alloc _) hgrow (fun k hk => by simp [Value.ownBlock] at hk)
 have HE5 := hid hE5
 have HX5 : Hid (Blk w5 w.heap.size 86 (itemC t A c)) := (HX2.out.alloc _).mod (S := []) (Mod.grown (Mod.refl _ _) hgrow (fun k hk => by simp [Value.ownBlock] at hk)) (by simp)
 have HQ5 : Hid (Blk w5 (w.heap.size + 1) 24 zeroE.c) := (HQ2.out.alloc _).mod (S := []) (Mod.grown (Mod.refl _ _) hgrow (fun k hk => by simp [Value.ownBlock] at hk)) (by simp)
 have HY5 : Hid (Blk w5 w1.heap.size 86 #[.int .i64 (ch 1).kind, .int .u64 ((ch 1).n : Int), str (ch 1).s, .slice (ac 1).1 (ch 1).k (ac 1).2, .bool (ch 1).op]) := (HY2.out.alloc _).mod (S := []) (Mod.grown (Mod.refl _ _) hgrow (fun k hk => by simp [Value.ownBlock] at hk)) (by simp)
 simp only [Nat.zero_add, List.nil_append] at hown
 have HO5 := hid hown
 have HG5 : Hid (w1.heap.size + 2 = g /\ g < w5.heap.size /\ W2.heap.size = w1.heap.size + 1) := ⟨by have := HS2.out; omega, hlt, HS2.out⟩
 clear hown hgrow hat hlt hE5 hg HX2 HQ2 HE2 HY2 y2 y3 HS2
 have y3 : w5.cell? ⟨w1.heap.size, 3, none⟩ = some (.slice (ac 1).1 (ch 1).k (ac 1).2) := HY5.out.cell 3
 go_wp2_with fail
 clear y3 HY5
 have cx0 : ∀ e : Later w5, e.x.cell? ⟨w.heap.size, 0, none⟩ = some (.int .i64 t.kind) := HX5.out.cellL 0 rfl
 have cx1 : ∀ e : Later w5, e.x.cell? ⟨w.heap.size, 1, none⟩ = some (.int .u64 (t.n : Int)) := HX5.out.cellL 1 rfl
 have cx2 : ∀ e : Later w5, e.x.cell? ⟨w.heap.size, 2, none⟩ = some (str t.s) := HX5.out.cellL 2 rfl
 have cx3 : ∀ e : Later w5, e.x.cell? ⟨w.heap.size, 3, none⟩ = some (.slice A t.k c) := HX5.out.cellL 3 rfl
 have cx4 : ∀ e : Later w5, e.x.cell? ⟨w.heap.size, 4, none⟩ = some (.bool t.op) := HX5.out.cellL 4 rfl
 have HXL : Hid (∀ e : Later w5, IsL e.x (fun _ => True) t A) := fun e => H.out.ext (HE5.out.trans e.h)
 clear hi hz0 hz1 hz2 HINF
 obtain ⟨e0, he0⟩ := Later.self w5
 go_loopw [6] (fun s6 wr => ∃ i : Nat, s6 = .int .i64 (i : Int) /\ Hid (i <= 2 /\ ∀ (j : Nat) (E : EV), j < i -> [noneE, ⟨1, (ch 1).s, 0, 0⟩][j]? = some E -> ¬ isPrev t.bytes E) /\ ∃ e : Later w5, wr = e.x) (fun s6 _ => 2 - (intOf s6).toNat)
 case atStart => exact ⟨0, rfl, (show Hid _ from ⟨by omega, fun j E hj => by omega⟩), e0, he0⟩
 case round =>
  clear he0 e0
  obtain ⟨i, rfl, hi, e, rfl⟩ := hrel
  have i0 : (0 : Int) <= (i : Int) := by omega
  have i1 : (i : Int) <= 2 := by have := hi.out.1; omega
  by_cases hlt : i < 2
  .
   obtain ⟨E, hE⟩ : ∃ E, [noneE, ⟨1, (ch 1).s, 0, 0⟩][i]? = some E := ⟨_, List.getElem?_eq_getElem hlt⟩
   obtain ⟨g0, g1, g2', g3⟩ := flatE_get [noneE, ⟨1, (ch 1).s, 0, 0⟩] i E hE
   have r0 : ∀ e : Later w5, e.x.cell? ⟨g, i * 4, none⟩ = some (.int .i64 E.sch) := cellL (own_cells HO5.out g0)
   have r1 : ∀ e : Later w5, e.x.cell? ⟨g, i * 4 + 1, none⟩ = some (str E.name) := cellL (own_cells HO5.out g1)
   have r2 : ∀ e : Later w5, e.x.cell? ⟨g, i * 4 + 2, none⟩ = some (.int .u64 (E.node : Int)) := cellL (own_cells HO5.out g2')
   have r3 : ∀ e : Later w5, e.x.cell? ⟨g, i * 4 + 3, none⟩ = some (.int .u64 (E.svc : Int)) := cellL (own_cells HO5.out g3)
   have tc : decide ((i : Int) < 2) = true := by simp; omega
   have tc2 : ((i : Int) < 2) = True := by simp; omega
   have HI := hid hlt
   have KR1 := hid (fun W => KR.out E W)
   have HEE := hid hE
   clear g0 g1 g2' g3 hlt hE
   have HNX : ¬ isPrev t.bytes E -> Hid (i + 1 <= 2 /\ ∀ (j : Nat) (E : EV), j < i + 1 -> [noneE, ⟨1, (ch 1).s, 0, 0⟩][j]? = some E -> ¬ isPrev t.bytes E) := fun hn => ⟨HI.out, fun j F hj hF => by
    by_cases h : j = i
    . subst h; rw [HEE.out] at hF; simp only [Option.some.injEq] at hF; subst hF; exact hn
    . exact hi.out.2 j F (by omega) hF⟩
   have HNX := hid HNX
   go_wp2_with fail
   by_cases hok : E.ok = true
   .
    have KI1 := hid (KI.out E hok)
    have KB1 := hid (KB.out E hok)
    have HOK := hid hok
    rw [hok] at KR1
    clear hok
    by_cases hb : (eidT E).bytes = t.bytes
    .
     have HY1 := hid (HY.out E ⟨HOK.out, hb⟩)
     rw [hb] at KB1
     clear hb
     go_region_held3 (fun w' => w'.cell? ⟨g, i * 4, none⟩ = some (.int .i64 E.sch) /\ w'.cell? ⟨g, i * 4 + 1, none⟩ = some (str E.name) /\ w'.cell? ⟨g, i * 4 + 2, none⟩ = some (.int .u64 (E.node : Int)) /\ w'.cell? ⟨g, i * 4 + 3, none⟩ = some (.int .u64 (E.svc : Int)) /\ w'.cell? ⟨w.heap.size, 0, none⟩ = some (.int .i64 t.kind) /\ w'.cell? ⟨w.heap.size, 1, none⟩ = some (.int .u64 (t.n : Int)) /\ w'.cell? ⟨w.heap.size, 2, none⟩ = some (str t.s) /\ w'.cell? ⟨w.heap.size, 3, none⟩ = some (.slice A t.k c) /\ w'.cell? ⟨w.heap.size, 4, none⟩ = some (.bool t.op)) (go_keep)
      (first
       | (go_at_call 13; refine (Ret.laterW (by first | exact Later.h _ | exact (Later.h _).drew) (KR1.out _)).mono ?_; rintro x _ ⟨rfl, ez, rfl⟩)
       | (go_at_call 73; refine (KI1.out _).mono ?_; rintro x w3 ⟨B, rfl, hb3, hi3⟩; have hi3 := IsL.weak (R := fun _ => True) (fun _ _ _ => trivial) _ hi3; obtain ⟨ez, rfl⟩ : ∃ ez : Later w5, w3 = ez.x := ⟨⟨w3, Mod.trans (Later.h _) hb3⟩, rfl⟩)
       | (go_at_call 72; (with_reducible refine (KT.out _ (HXL.out _)).mono ?_); rintro x w4 ⟨rfl, hb4⟩; (try have hi3 := IsL.ext hi3 hb4); obtain ⟨ez, rfl⟩ : ∃ ez : Later w5, w4 = ez.x := ⟨⟨w4, Mod.trans (Later.h _) hb4⟩, rfl⟩)
       | (go_at_call 72; (with_reducible refine (KB1.out _ _ hi3).mono ?_); rintro x w4 ⟨rfl, hb4⟩; obtain ⟨ez, rfl⟩ : ∃ ez : Later w5, w4 = ez.x := ⟨⟨w4, Mod.trans (Later.h _) hb4⟩, rfl⟩))
     all_goals clear cx0 cx1 cx2 cx3 cx4
     have q0 : ∀ e : Later w5, e.x.cell? ⟨w.heap.size + 1, 0, none⟩ = some (.int .i64 0) := HQ5.out.cellL 0 rfl
     have q1 : ∀ e : Later w5, e.x.cell? ⟨w.heap.size + 1, 1, none⟩ = some (str []) := HQ5.out.cellL 1 rfl
     have q2 : ∀ e : Later w5, e.x.cell? ⟨w.heap.size + 1, 2, none⟩ = some (.int .u64 0) := HQ5.out.cellL 2 rfl
     have q3 : ∀ e : Later w5, e.x.cell? ⟨w.heap.size + 1, 3, none⟩ = some (.int .u64 0) := HQ5.out.cellL 3 rfl
     have fr : ∀ (e : Later w5) (j : Nat), e.x.frozen? ⟨w.heap.size + 1, j, none⟩ = false := fun e j => (HQ5.out.later e).frozen j
     all_goals go_wp2_with fail
     all_goals clear q0 q1 q2 q3 fr
     all_goals obtain ⟨d0, d1, d2, d3⟩ := cells4 (set4_blk (e0 := zeroE) (e := E) (HQ5.out.later ez))
     all_goals show bodyPost _ _ _ _ _ (set4 ez.x (w.heap.size + 1) E)
     all_goals refine bodyPost_ret (v := .tuple #[EV.v E, .int .i64 0]) (by simp [results, Tryz.results50, go_sem, d0, d1, d2, d3]) rfl (HY1.out _ _ (Ret.mk rfl (set4_mod (HE5.out.trans ez.h) (by omega))))
    .
     have b1 : ((eidT E).bytes == t.bytes) = false := by simpa using hb
     have b2 : ((eidT E).bytes = t.bytes) = False := by simpa using hb
     have HN2 := HNX.out (fun h => hb h.2)
     clear hb
     go_region_held3 (fun w' => w'.cell? ⟨g, i * 4, none⟩ = some (.int .i64 E.sch) /\ w'.cell? ⟨g, i * 4 + 1, none⟩ = some (str E.name) /\ w'.cell? ⟨g, i * 4 + 2, none⟩ = some (.int .u64 (E.node : Int)) /\ w'.cell? ⟨g, i * 4 + 3, none⟩ = some (.int .u64 (E.svc : Int)) /\ w'.cell? ⟨w.heap.size, 0, none⟩ = some (.int .i64 t.kind) /\ w'.cell? ⟨w.heap.size, 1, none⟩ = some (.int .u64 (t.n : Int)) /\ w'.cell? ⟨w.heap.size, 2, none⟩ = some (str t.s) /\ w'.cell? ⟨w.heap.size, 3, none⟩ = some (.slice A t.k c) /\ w'.cell? ⟨w.heap.size, 4, none⟩ = some (.bool t.op)) (go_keep)
      (first
       | (go_at_call 13; refine (Ret.laterW (by first | exact Later.h _ | exact (Later.h _).drew) (KR1.out _)).mono ?_; rintro x _ ⟨rfl, ez, rfl⟩)
       | (go_at_call 73; refine (KI1.out _).mono ?_; rintro x w3 ⟨B, rfl, hb3, hi3⟩; have hi3 := IsL.weak (R := fun _ => True) (fun _ _ _ => trivial) _ hi3; obtain ⟨ez, rfl⟩ : ∃ ez : Later w5, w3 = ez.x := ⟨⟨w3, Mod.trans (Later.h _) hb3⟩, rfl⟩)
       | (go_at_call 72; (with_reducible refine (KT.out _ (HXL.out _)).mono ?_); rintro x w4 ⟨rfl, hb4⟩; (try have hi3 := IsL.ext hi3 hb4); obtain ⟨ez, rfl⟩ : ∃ ez : Later w5, w4 = ez.x := ⟨⟨w4, Mod.trans (Later.h _) hb4⟩, rfl⟩)
       | (go_at_call 72; (with_reducible refine (KB1.out _ _ hi3).mono ?_); rintro x w4 ⟨rfl, hb4⟩; obtain ⟨ez, rfl⟩ : ∃ ez : Later w5, w4 = ez.x := ⟨⟨w4, Mod.trans (Later.h _) hb4⟩, rfl⟩))
     all_goals go_wp2_with fail
     all_goals go_roundw
     all_goals first | (have := HI.out; simp [intOf]; omega) | exact ⟨i + 1, by go_num, HN2, ez, rfl⟩ | ((repeat apply Exists.intro); exact ⟨⟨i + 1, by go_num, HN2, ez, rfl⟩, rfl⟩)
   .
    have hok2 : E.ok = false := by simpa using hok
    rw [hok2] at KR1
    have HN2 := HNX.out (fun h => hok h.1)
    clear hok hok2
    refine wp_region_later (by kernel_rfl) (by kernel_rfl) ?_
    repeat (go_big_quiet_step ((go_at_call 13; exact Ret.later (KR1.out _))))
    refine wpQuiet_nil ?_
    rintro _ ⟨e2, rfl⟩
    go_wp2_with fail
    go_roundw
    case rel => exact ⟨i + 1, by go_num, HN2, e2, rfl⟩
    case measure => have := HI.out; simp [intOf]; omega
  .
   obtain rfl : i = 2 := by have := hi.out.1; omega
   have HB : Hid (ofB t = false) := HTR.out _ _ noneE rfl rfl (hi.out.2 0 _ (by omega) rfl) (hi.out.2 1 _ (by omega) rfl)
   have q0 : ∀ e : Later w5, e.x.cell? ⟨w.heap.size + 1, 0, none⟩ = some (.int .i64 0) := HQ5.out.cellL 0 rfl
   have q1 : ∀ e : Later w5, e.x.cell? ⟨w.heap.size + 1, 1, none⟩ = some (str []) := HQ5.out.cellL 1 rfl
   have q2 : ∀ e : Later w5, e.x.cell? ⟨w.heap.size + 1, 2, none⟩ = some (.int .u64 0) := HQ5.out.cellL 2 rfl
   have q3 : ∀ e : Later w5, e.x.cell? ⟨w.heap.size + 1, 3, none⟩ = some (.int .u64 0) := HQ5.out.cellL 3 rfl
   have fr : ∀ (e : Later w5) (j : Nat), e.x.frozen? ⟨w.heap.size + 1, j, none⟩ = false := fun e j => (HQ5.out.later e).frozen j
   clear cx0 cx1 cx2 cx3 cx4
   go_wp2_with fail
   clear q0 q1 q2 q3 fr
   obtain ⟨d0, d1, d2, d3⟩ := cells4 (set4_blk (e0 := zeroE) (e := zeroE) (HQ5.out.later e))
   show bodyPost _ _ _ _ _ (set4 e.x (w.heap.size + 1) zeroE)
   refine bodyPost_ret (v := .tuple #[EV.v zeroE, .int .i64 2]) (by simp [results, Tryz.results50, go_sem, d0, d1, d2, d3]) rfl (OfPost.no HB.out (Ret.mk rfl (set4_mod (HE5.out.trans e.h) (by omega))))
theorem ptree (l : List UInt8) (hl : l.length <= 1073741824) (w : World) : PTree l := by
 obtain ⟨e, w', fr, h, _⟩ := ReadPrev_any l hl w []
 exact h.2
theorem of_any (t : T) (hok : t.ok) (hs : t.size <= 100000) (A : Option Addr) (c : Nat) (w : World) (h : IsL w (fun _ => True) t A) : Calls Tryz.prog 50 #[itemV t A c] w (OfPost t w) := by
 by_cases hr : t.right 8 = true
 .
  by_cases hk : t.k = 2
  .
   cases t with
   | nil => exact absurd hok T.not_nil
   | mk kind n s op k ch =>
    have hk : k = 2 := hk
    subst hk
    by_cases hk1 : (ch 1).k = 2
    . exact of_three kind n s op ch hok hr hs hk1 A c w h
    . exact of_two kind n s op ch hok hr hs hk1 A c w h
  . exact of_bad2 t hok hr hk A c w h
 . exact of_bad1 t hok (by simpa using hr) A c w h
def QPrev (l : List UInt8) (w : World) (e : Ending) (w' : World) : Prop := Ret (.tuple #[((prevO l).getD zeroE).v, .bool (prevO l).isSome]) w e w'
theorem QPrev.none {l : List UInt8} {w w' : World} {e : Ending} (hp : prevO l = none) (h : Ret (.tuple #[zeroE.v, .bool false]) w e w') : QPrev l w e w' := by unfold QPrev; rw [hp]; exact h
theorem QPrev.some {l : List UInt8} {w w' : World} {e : Ending} {E : EV} (hp : prevO l = some E) (h : Ret (.tuple #[E.v, .bool true]) w e w') : QPrev l w e w' := by unfold QPrev; rw [hp]; exact h
set_option maxRecDepth 20000 in
theorem qp_err (l : List UInt8) (hl : l.length <= 1073741824) (w : World) (q : Nat) (E : Int) (hf : flt 8 l = (q, E)) (hb : E ≠ 0) : Calls Tryz.prog 23 #[str l] w (Ret (.tuple #[zeroE.v, .bool false]) w) := by
 have KF := hid (fun W => fault_any l hl 8 (by omega) 0 (by omega) W)
 rw [List.drop_zero, hf] at KF
 have e1 : (E != 0) = true := by simpa using hb
 have e2 : (E = 0) = False := by simpa using hb
 have e3 : (E == 0) = false := by simpa using hb
 have HE := hid ((Mod.refl [] w).alloc (.cells #[.int .i64 0, .string ⟨#[]⟩, .int .u64 0, .int .u64 0] 24))
 have HQ := hid (Blk.new w 24 zeroE.c)
 clear hf hb
 go_enter Tryz.func23, Tryz.ntmps23
 go_wp2_with fail
 refine (KF.out _).mono ?_
 rintro x w1 ⟨rfl, hb1⟩
 have HE1 := hid (HE.out.trans hb1)
 have HQ1 := hid (HQ.out.ext hb1)
 clear hb1
 dsimp only [faultV]
 obtain ⟨c0, c1, c2, c3⟩ := cells4 (e := zeroE) HQ1.out
 have f0 := Blk.frozen HQ1.out 0
 have f1 := Blk.frozen HQ1.out 1
 have f2 := Blk.frozen HQ1.out 2
 have f3 := Blk.frozen HQ1.out 3
 go_wp2_with fail
 obtain ⟨d0, d1, d2, d3⟩ := cells4 (set4_blk (e0 := zeroE) (e := zeroE) HQ1.out)
 clear c0 c1 c2 c3 f0 f1 f2 f3
 show bodyPost _ _ _ _ _ (set4 w1 w.heap.size zeroE)
 refine bodyPost_ret (v := .tuple #[zeroE.v, .bool false]) (by simp [results, Tryz.results23, go_sem, d0, d1, d2, d3]) rfl (Ret.mk rfl (set4_mod HE1.out (Nat.le_refl _)))
set_option maxRecDepth 20000 in
theorem qp_len (l : List UInt8) (hl : l.length <= 1073741824) (w : World) (q : Nat) (hf : flt 8 l = (q, 0)) (hb : q ≠ l.length) : Calls Tryz.prog 23 #[str l] w (Ret (.tuple #[zeroE.v, .bool false]) w) := by
 have KF := hid (fun W => fault_any l hl 8 (by omega) 0 (by omega) W)
 rw [List.drop_zero, hf] at KF
 have e1 : ((q : Int) != (l.length : Int)) = true := by simp; omega
 have e2 : ((q : Int) = (l.length : Int)) = False := by simp; omega
 have e3 : ((q : Int) == (l.length : Int)) = false := by simp; omega
 have HE := hid ((Mod.refl [] w).alloc (.cells #[.int .i64 0, .string ⟨#[]⟩, .int .u64 0, .int .u64 0] 24))
 have HQ := hid (Blk.new w 24 zeroE.c)
 clear hf hb
 go_enter Tryz.func23, Tryz.ntmps23
 go_wp2_with fail
 refine (KF.out _).mono ?_
 rintro x w1 ⟨rfl, hb1⟩
 have HE1 := hid (HE.out.trans hb1)
 have HQ1 := hid (HQ.out.ext hb1)
 clear hb1
 simp only [faultV, Nat.zero_add]
 obtain ⟨c0, c1, c2, c3⟩ := cells4 (e := zeroE) HQ1.out
 have f0 := Blk.frozen HQ1.out 0
 have f1 := Blk.frozen HQ1.out 1
 have f2 := Blk.frozen HQ1.out 2
 have f3 := Blk.frozen HQ1.out 3
 go_wp2_with fail
 obtain ⟨d0, d1, d2, d3⟩ := cells4 (set4_blk (e0 := zeroE) (e := zeroE) HQ1.out)
 clear c0 c1 c2 c3 f0 f1 f2 f3
 show bodyPost _ _ _ _ _ (set4 w1 w.heap.size zeroE)
 refine bodyPost_ret (v := .tuple #[zeroE.v, .bool false]) (by simp [results, Tryz.results23, go_sem, d0, d1, d2, d3]) rfl (Ret.mk rfl (set4_mod HE1.out (Nat.le_refl _)))
set_option maxRecDepth 20000 in
set_option maxHeartbeats 800000 in
theorem qp_tree (t : T) (hr : t.right 8 = true) (hok : t.ok) (hs : t.size <= 100000) (hl : t.bytes.length <= 1073741824) (E : EV) (B : Bool) (hE : (if ofB t then readE t else zeroE) = E) (hB : ofB t = B) (w : World) : Calls Tryz.prog 23 #[str t.bytes] w (Ret (.tuple #[E.v, .bool B]) w) := by
 have KF := hid (fun W => fault_any t.bytes hl 8 (by omega) 0 (by omega) W)
 have hf : flt 8 t.bytes = (t.bytes.length, 0) := by have := flt_bytes t 8 hr hok []; rwa [List.append_nil] at this
 have KI := hid (fun W => r13_any t hr hok hl W)
 have KO : Hid (∀ A c W, IsL W (fun _ => True) t A -> Calls Tryz.prog 50 #[itemV t A c] W (Ret (.tuple #[E.v, .int .i64 (if B then 0 else 2)]) W)) := fun A c W h => by
  have := of_any t hok hs A c W h
  unfold OfPost at this
  rw [hE, hB] at this
  exact this
 rw [List.drop_zero, hf] at KF
 generalize t.bytes = l at *
 have HE := hid ((Mod.refl [] w).alloc (.cells #[.int .i64 0, .string ⟨#[]⟩, .int .u64 0, .int .u64 0] 24))
 have HQ := hid (Blk.new w 24 zeroE.c)
 clear hf hr hok hs hl hE hB
 go_enter Tryz.func23, Tryz.ntmps23
 go_wp2_with fail
 refine (KF.out _).mono ?_
 rintro x w1 ⟨rfl, hb1⟩
 have HE1 := hid (HE.out.trans hb1)
 have HQ1 := hid (HQ.out.ext hb1)
 clear hb1
 simp only [faultV, Nat.zero_add]
 go_wp2_with fail
 refine (KI.out _).mono ?_
 rintro x w2 ⟨A, c, rfl, hb2, hl2⟩
 have HL := hid (IsL.weak (R := fun _ => True) (fun _ _ _ => trivial) _ hl2)
 have HE2 := hid (HE1.out.trans hb2)
 have HQ2 := hid (HQ1.out.ext hb2)
 clear hb2 hl2
 go_wp2_with fail
 refine (KO.out _ _ _ HL.out).mono ?_
 rintro x w3 ⟨rfl, hb3⟩
 have ht := hid (HQ2.out.ext hb3).lt
 have HE3 := hid ((HE2.out.trans hb3).alloc (.cells E.c 24))
 have HQ3 := hid ((HQ2.out.ext hb3).alloc (.cells E.c 24))
 clear hb3
 have HB : Hid ((decide ((if B = true then (0 : Int) else 2) = 0)) = B) := hid (by cases B <;> rfl)
 cases B
 all_goals simp only [Bool.false_eq_true, if_false, if_true]
 all_goals obtain ⟨c0, c1, c2, c3⟩ := cells4 (e := zeroE) HQ3.out
 all_goals have f0 := Blk.frozen HQ3.out 0
 all_goals have f1 := Blk.frozen HQ3.out 1
 all_goals have f2 := Blk.frozen HQ3.out 2
 all_goals have f3 := Blk.frozen HQ3.out 3
 all_goals go_wp2_with fail
 all_goals obtain ⟨d0, d1, d2, d3⟩ := cells4 (set4_blk (e0 := zeroE) (e := E) HQ3.out)
 all_goals clear c0 c1 c2 c3 f0 f1 f2 f3
 all_goals show bodyPost _ _ _ _ _ (set4 (w3.alloc (.cells E.c 24)) w.heap.size E)
 . refine bodyPost_ret (v := .tuple #[E.v, .bool false]) (by simp [results, Tryz.results23, go_sem, d0, d1, d2, d3]) rfl (Ret.mk rfl (set4_mod HE3.out (Nat.le_refl _)))
 . refine bodyPost_ret (v := .tuple #[E.v, .bool true]) (by simp [results, Tryz.results23, go_sem, d0, d1, d2, d3]) rfl (Ret.mk rfl (set4_mod HE3.out (Nat.le_refl _)))
theorem qPrev_any (l : List UInt8) (hl : l.length <= 10000) (w : World) : Calls Tryz.prog 23 #[str l] w (QPrev l w) := by
 obtain ⟨q, hq⟩ : ∃ q, q = (flt 8 l).1 := ⟨_, rfl⟩
 obtain ⟨E, hE⟩ : ∃ E, E = (flt 8 l).2 := ⟨_, rfl⟩
 have hf : flt 8 l = (q, E) := by rw [hq, hE]
 have hql : q <= l.length := by rw [hq]; exact flt_le 8 l
 have hP : parseR l = if E = 0 /\ q < l.length then (q, 2) else (q, E) := by unfold parseR; rw [hf]
 by_cases h0 : E = 0
 .
  subst h0
  by_cases hlt : q < l.length
  . exact (qp_len l (by omega) w q hf (by omega)).mono fun e w' h => QPrev.none (prevO_bad (by rw [hP, if_pos ⟨rfl, hlt⟩]; show (2 : Int) ≠ 0; omega)) h
  .
   rw [if_neg (fun h => hlt h.2)] at hP
   obtain ⟨t, hr, hok, rfl⟩ := ptree l (by omega) w (by rw [hP])
   have hs : t.size <= 100000 := by have := T.size_le t (T.plain_of hr); omega
   have hO := prevO_tree hr hok
   by_cases hB : ofB t = true
   .
    rw [if_pos hB] at hO
    exact (qp_tree t hr hok hs (by omega) (readE t) true (by rw [if_pos hB]) hB w).mono fun e w' h => QPrev.some hO h
   .
    rw [if_neg hB] at hO
    exact (qp_tree t hr hok hs (by omega) zeroE false (by rw [if_neg hB]) (by simpa using hB) w).mono fun e w' h => QPrev.none hO h
 .
  rw [if_neg (fun h => h0 h.1)] at hP
  exact (qp_err l (by omega) w q E hf h0).mono fun e w' h => QPrev.none (prevO_bad (by rw [hP]; exact h0)) h
set_option maxRecDepth 20000 in
theorem rFirst_any (p : PV) (bs : Nat -> BV) (k c : Nat) (A : Option Addr) (typ : Int) (hk : k < 4611686018427387904) (w : World) (h : BsL w A k bs) : Calls Tryz.prog 10 #[bunV p A k c, .int .i64 typ] w (Ret (.int .i64 (firstI (tyB bs typ) k)) w) := by
 have HE := hid ((Mod.refl [] w).alloc (.cells (bunC p A k c) 29))
 have HB := hid (Blk.new w 29 (bunC p A k c))
 have HL := hid (BsL.ext h HE.out)
 have k1 : (k : Int) < 4611686018427387904 := by omega
 have HK := hid hk
 clear h hk
 go_enter Tryz.func10, Tryz.ntmps10
 go_wp2_with fail
 generalize w.alloc (.cells (bunC p A k c) 29) = V at *
 have b19 : ∀ e : Later V, e.x.cell? ⟨w.heap.size, 19, none⟩ = some (.slice A k c) := HB.out.cellL 19 rfl
 obtain ⟨e0, he0⟩ := Later.self V
 go_loopw [5] (fun s5 wr => ∃ i : Nat, s5 = .int .i64 (i : Int) /\ Hid (i <= k /\ ∀ j, j < i -> tyB bs typ j = false) /\ ∃ e : Later V, wr = e.x) (fun s5 _ => k - (intOf s5).toNat)
 case atStart => exact ⟨0, rfl, (show Hid _ from ⟨by omega, fun j hj => by omega⟩), e0, he0⟩
 case round =>
  clear he0 e0
  obtain ⟨i, rfl, hi, e, rfl⟩ := hrel
  have i0 : (0 : Int) <= (i : Int) := by omega
  by_cases hlt : i < k
  .
   obtain ⟨b, o, rfl, hb, q0, q1, q2, q3, q4⟩ := HL.out.cells hlt
   have tc : decide (i < k) = true := by simp [hlt]
   have i1 : (i : Int) < (k : Int) := by omega
   have HLT := hid hlt
   clear hlt
   by_cases ht : (bs i).ty = typ
   .
    have HF : Hid (firstI (tyB bs typ) k = (i : Int)) := by unfold Hid firstI; rw [firstOf_some HLT.out (tyB_yes ht) hi.out.2]
    rw [ht] at q0
    clear ht
    go_wp2_with fail
    go_ret
    exact Ret.mk (by rw [HF.out]; rfl) (HE.out.trans e.h)
   .
    have HN := hid (tyB_no ht)
    have t1 : ((bs i).ty == typ) = false := by simpa using ht
    have t2 : ((bs i).ty = typ) = False := by simpa using ht
    clear ht
    go_wp2_with fail
    go_roundw
    case rel => exact ⟨i + 1, by go_num, (show Hid _ from ⟨HLT.out, fun j hj => by
     by_cases hji : j = i
     . subst hji; exact HN.out
     . exact hi.out.2 j (by omega)⟩), e, rfl⟩
    case measure => have := HLT.out; simp [intOf]; omega
  .
   obtain rfl : i = k := by have := hi.out.1; omega
   have tc : decide (i < i) = false := by simp
   have HF : Hid (firstI (tyB bs typ) i = -1) := by unfold Hid firstI; rw [firstOf_none hi.out.2]
   go_wp2_with fail
   go_ret
   exact Ret.mk (by rw [HF.out]; rfl) (HE.out.trans e.h)
noncomputable def extB (x : BV) : Bool := if x.ty = 6 then (prevO x.data).isSome else if x.ty = 7 then (ageO x.data).isSome else if x.ty = 10 then (hopsO x.data).isSome else true
noncomputable def extN (bs : Nat -> BV) (i : Nat) : Bool := !extB (bs i)
noncomputable def extR (bs : Nat -> BV) (k : Nat) : Int := if firstOf (extN bs) k = none then 0 else 2
theorem extR_no {bs : Nat -> BV} {k i : Nat} (hi : i < k) (h : extB (bs i) = false) : extR bs k = 2 := by
 unfold extR
 rw [if_neg]
 intro hf
 have := firstOf_no hf i hi
 unfold extN at this
 rw [h] at this
 cases this
theorem extR_yes {bs : Nat -> BV} {k : Nat} (h : ∀ j, j < k -> extB (bs j) = true) : extR bs k = 0 := by
 unfold extR
 rw [if_pos]
 exact firstOf_none fun j hj => by unfold extN; rw [h j hj]; rfl
set_option maxRecDepth 20000 in
set_option maxHeartbeats 800000 in
theorem r14Right_any (p : PV) (bs : Nat -> BV) (k c : Nat) (A : Option Addr) (hk : k < 4611686018427387904) (hd : ∀ i, i < k -> (bs i).data.length <= 10000) (w : World) (h : BsL w A k bs) : Calls Tryz.prog 8 #[bunV p A k c] w (Ret (.int .i64 (extR bs k)) w) := by
 have KP : Hid (∀ i, i < k -> ∀ W, Calls Tryz.prog 23 #[str (bs i).data] W (QPrev (bs i).data W)) := fun i hi W => qPrev_any _ (hd i hi) W
 have KA : Hid (∀ i, i < k -> ∀ W, Calls Tryz.prog 24 #[str (bs i).data] W (QAge (bs i).data W)) := fun i hi W => qAge_any _ W
 have KH : Hid (∀ i, i < k -> ∀ W, Calls Tryz.prog 25 #[str (bs i).data] W (QHops (bs i).data W)) := fun i hi W => qHops_any _ (by have := hd i hi; omega) W
 have HE := hid ((Mod.refl [] w).alloc (.cells (bunC p A k c) 29))
 have HB := hid (Blk.new w 29 (bunC p A k c))
 have HL := hid (BsL.ext h HE.out)
 have k1 : (k : Int) < 4611686018427387904 := by omega
 have HK := hid hk
 clear hd
 clear h hk
 go_enter Tryz.func8, Tryz.ntmps8
 go_wp2_with fail
 generalize w.alloc (.cells (bunC p A k c) 29) = V at *
 have b19 : ∀ e : Later V, e.x.cell? ⟨w.heap.size, 19, none⟩ = some (.slice A k c) := HB.out.cellL 19 rfl
 have b19a : ∀ (e : Later V) (o : Obj), (e.x.alloc o).cell? ⟨w.heap.size, 19, none⟩ = some (.slice A k c) := fun e o => ((HB.out.later e).alloc o).cell 19
 obtain ⟨e0, he0⟩ := Later.self V
 go_loopw [3] (fun s3 wr => ∃ i : Nat, s3 = .int .i64 (i : Int) /\ Hid (i <= k /\ ∀ j, j < i -> extB (bs j) = true) /\ ∃ e : Later V, wr = e.x) (fun s3 _ => k - (intOf s3).toNat)
 case atStart => exact ⟨0, rfl, (show Hid _ from ⟨by omega, fun j hj => by omega⟩), e0, he0⟩
 case round =>
  clear he0 e0
  obtain ⟨i, rfl, hi, e, rfl⟩ := hrel
  have i0 : (0 : Int) <= (i : Int) := by omega
  by_cases hlt : i < k
  .
   obtain ⟨b, o, rfl, hb, q0, q1, q2, q3, q4⟩ := HL.out.cells hlt
   have q0a : ∀ (e : Later V) (ob : Obj), (e.x.alloc ob).cell? ⟨b, o + i * 5, none⟩ = some (.int .i64 (bs i).ty) := fun e ob => (((Mod.refl [] e.x).alloc ob).cell (Nat.lt_of_lt_of_le hb e.h.size) (by simp)).trans (q0 e)
   have tc : decide (i < k) = true := by simp [hlt]
   have i1 : (i : Int) < (k : Int) := by omega
   have KP1 := hid (KP.out i hlt)
   have KA1 := hid (KA.out i hlt)
   have KH1 := hid (KH.out i hlt)
   have HLT := hid hlt
   clear hlt q1 q2 q3
   by_cases t6 : (bs i).ty = 6
   .
    have HXB : Hid (extB (bs i) = (prevO (bs i).data).isSome) := by unfold Hid extB; rw [if_pos t6]
    rw [t6] at q0 q0a
    clear t6
    unfold QPrev at KP1
    cases hB : (prevO (bs i).data).isSome
    all_goals rw [hB] at KP1 HXB
    all_goals clear hB
    all_goals have HX := hid HXB.out
    .
     go_wp2_with fail
     refine (Ret.later (KP1.out _)).mono ?_
     rintro x _ ⟨rfl, e1, rfl⟩
     have HR := hid (extR_no HLT.out HX.out)
     go_wp2_with fail
     go_ret
     exact Ret.mk (by rw [HR.out]; rfl) (HE.out.trans ((Later.h e1).alloc _))
    .
     go_wp2_with fail
     refine (Ret.later (KP1.out _)).mono ?_
     rintro x _ ⟨rfl, e1, rfl⟩
     go_wp2_with fail
     go_roundw
     case rel => exact ⟨i + 1, by go_num, (show Hid _ from ⟨HLT.out, fun j hj => by
      by_cases hji : j = i
      . subst hji; exact HX.out
      . exact hi.out.2 j (by omega)⟩), Later.go e1 ((Mod.refl [] _).alloc _)⟩
     case measure => have := HLT.out; simp [intOf]; omega
   by_cases t7 : (bs i).ty = 7
   .
    have HXB : Hid (extB (bs i) = (ageO (bs i).data).isSome) := by unfold Hid extB; rw [if_neg t6]; rw [if_pos t7]
    rw [t7] at q0 q0a
    clear t7 t6
    unfold QAge at KA1
    cases hB : (ageO (bs i).data).isSome
    all_goals rw [hB] at KA1 HXB
    all_goals clear hB
    all_goals have HX := hid HXB.out
    .
     go_wp2_with fail
     refine (Ret.later (KA1.out _)).mono ?_
     rintro x _ ⟨rfl, e1, rfl⟩
     have HR := hid (extR_no HLT.out HX.out)
     go_wp2_with fail
     go_ret
     exact Ret.mk (by rw [HR.out]; rfl) (HE.out.trans e1.h)
    .
     go_wp2_with fail
     refine (Ret.later (KA1.out _)).mono ?_
     rintro x _ ⟨rfl, e1, rfl⟩
     go_wp2_with fail
     go_roundw
     case rel => exact ⟨i + 1, by go_num, (show Hid _ from ⟨HLT.out, fun j hj => by
      by_cases hji : j = i
      . subst hji; exact HX.out
      . exact hi.out.2 j (by omega)⟩), e1, rfl⟩
     case measure => have := HLT.out; simp [intOf]; omega
   by_cases t10 : (bs i).ty = 10
   .
    have HXB : Hid (extB (bs i) = (hopsO (bs i).data).isSome) := by unfold Hid extB; rw [if_neg t6, if_neg t7]; rw [if_pos t10]
    rw [t10] at q0 q0a
    clear t10 t6 t7
    unfold QHops at KH1
    cases hB : (hopsO (bs i).data).isSome
    all_goals rw [hB] at KH1 HXB
    all_goals clear hB
    all_goals have HX := hid HXB.out
    .
     go_wp2_with fail
     refine (Ret.later (KH1.out _)).mono ?_
     rintro x _ ⟨rfl, e1, rfl⟩
     have HR := hid (extR_no HLT.out HX.out)
     go_wp2_with fail
     go_ret
     exact Ret.mk (by rw [HR.out]; rfl) (HE.out.trans e1.h)
    .
     go_wp2_with fail
     refine (Ret.later (KH1.out _)).mono ?_
     rintro x _ ⟨rfl, e1, rfl⟩
     go_wp2_with fail
     go_roundw
     case rel => exact ⟨i + 1, by go_num, (show Hid _ from ⟨HLT.out, fun j hj => by
      by_cases hji : j = i
      . subst hji; exact HX.out
      . exact hi.out.2 j (by omega)⟩), e1, rfl⟩
     case measure => have := HLT.out; simp [intOf]; omega
   have HX : Hid (extB (bs i) = true) := by unfold Hid extB; rw [if_neg t6, if_neg t7, if_neg t10]
   have n6 : ((bs i).ty == 6) = false := by simpa using t6
   have m6 : ((bs i).ty = 6) = False := by simpa using t6
   have n7 : ((bs i).ty == 7) = false := by simpa using t7
   have m7 : ((bs i).ty = 7) = False := by simpa using t7
   have n10 : ((bs i).ty == 10) = false := by simpa using t10
   have m10 : ((bs i).ty = 10) = False := by simpa using t10
   clear t6 t7 t10
   go_wp2_with fail
   go_roundw
   case rel => exact ⟨i + 1, by go_num, (show Hid _ from ⟨HLT.out, fun j hj => by
    by_cases hji : j = i
    . subst hji; exact HX.out
    . exact hi.out.2 j (by omega)⟩), e, rfl⟩
   case measure => have := HLT.out; simp [intOf]; omega
  .
   obtain rfl : i = k := by have := hi.out.1; omega
   have tc : decide (i < i) = false := by simp
   have HR := hid (extR_yes hi.out.2)
   go_wp2_with fail
   go_ret
   exact Ret.mk (by rw [HR.out]; rfl) (HE.out.trans e.h)
end Go.Proofs.YthecmnbkjchjmaaGreat
