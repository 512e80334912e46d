/-
 Two strings become one, in a plain region.
-/
import Derived.Test.YthecmnbkjchjmaaGreatMExtAgesba
import Derived.Test.YthecmnbkjchjmaaGreatMExtAgesbf
import Derived.Lib.AppendZerosOnto
import Derived.Laws.NewBlocks
import Derived.Deep.RegionLaw
import Derived.Laws.AppendOwnNone

namespace Go.Proofs.YthecmnbkjchjmaaGreat
open Go.RowKit
set_option linter.unusedVariables false
set_option linter.unusedSimpArgs false

section
variable {P : Program} {ops : Array Oper} {rest : List Oper} {o : Oper} {a : Act} {w : World}
theorem wpList_cat {Q : Exit -> Act -> World -> Prop} (hw : Region.wanted o (yielded ops a.tmps) = true) (ty t2 : TypeId) (x y : Operand) (ho : o.op = .binOp .add ty x y t2) (l1 l2 : List UInt8) (hx : a.eval x = str l1) (hy : a.eval y = str l2)
  (hl : l1.length + l2.length <= 9223372036854775807) (h : wpList P ops Q rest (a.put o.dst (str (l1 ++ l2))) w) : wpList P ops Q (o :: rest) a w :=
 wpList_step fun K hK => by
  rw [if_pos hw]
  have hl' : ¬ 9223372036854775807 < l1.length + l2.length := by omega
  have hk := hK _ _ h
  unfold Oper.wp execOp
  simp only [ho, hx, hy]
  simp [go_sem, hl']
  rw [ByteArray.mk_append_mk]
  exact hk
end
end Go.Proofs.YthecmnbkjchjmaaGreat


namespace Go.Proofs.YthecmnbkjchjmaaGreat
open Go.RowKit
set_option linter.unusedVariables false
set_option linter.unusedSimpArgs false

end Go.Proofs.YthecmnbkjchjmaaGreat


namespace Go.Proofs.YthecmnbkjchjmaaGreat
open Go.RowKit
set_option linter.unusedVariables false
set_option linter.unusedSimpArgs false

set_option maxRecDepth 20000 in
set_option maxHeartbeats 800000 in
theorem r13count_any (bs : Nat -> BV) (k c : Nat) (A : Option Addr) (typ : Int) (hk : k < 4611686018427387904) (w : World) (h : BsL w A k bs) : Calls Tryz.prog 20 #[.slice A k c, .int .i64 typ] w (Ret (.int .i64 (cntB bs typ k : Nat)) w) := by
 have HL := hid h
 have k1 : (k : Int) < 4611686018427387904 := by omega
 clear h hk
 obtain ⟨e0, he0⟩ := Later.self w
 go_enter Tryz.func20, Tryz.ntmps20
 go_wp2_with fail
 go_loopw [5, 6] (fun s5 s6 wr => ∃ i : Nat, s6 = .int .i64 (i : Int) /\ s5 = .int .i64 (cntB bs typ i : Nat) /\ Hid (i <= k) /\ ∃ e : Later w, wr = e.x) (fun _ s6 _ => k - (intOf s6).toNat)
 case atStart => exact ⟨0, rfl, rfl, (show Hid _ from Nat.zero_le _), e0, (by first | exact he0 | rfl)⟩
 case round =>
  clear he0 e0
  obtain ⟨i, rfl, rfl, hi, e, rfl⟩ := hrel
  have i0 : (0 : Int) <= (i : Int) := by omega
  by_cases hlt : i < k
  .
   obtain ⟨b, o, rfl, hb, q0, q1, q2, q3, q4⟩ := HL.out.cells hlt
   have tc : decide (i < k) = true := by simp [hlt]
   have i1 : (i : Int) < (k : Int) := by omega
   have HLT := hid hlt
   have hc0 : (0 : Int) <= (cntB bs typ i : Nat) := by omega
   have hc1 : ((cntB bs typ i : Nat) : Int) < 4611686018427387904 := by have := cntB_le bs typ i; omega
   clear hlt
   by_cases ht : (bs i).ty = typ
   .
    have HC : Hid (cntB bs typ (i + 1) = cntB bs typ i + 1) := by unfold Hid; rw [cntB, if_pos ht]
    have t1 : ((bs i).ty == typ) = true := by simpa using ht
    have t2 : ((bs i).ty = typ) = True := by simpa using ht
    clear ht
    generalize cntB bs typ i = n at *
    go_wp2_with fail
    go_roundw
    case rel => exact ⟨i + 1, by go_num, by rw [HC.out]; go_num, (show Hid _ from HLT.out), e, rfl⟩
    case measure => have := HLT.out; simp [intOf]; omega
   .
    have HC : Hid (cntB bs typ (i + 1) = cntB bs typ i) := by unfold Hid; rw [cntB, if_neg ht]; rfl
    have t1 : ((bs i).ty == typ) = false := by simpa using ht
    have t2 : ((bs i).ty = typ) = False := by simpa using ht
    clear ht
    generalize cntB bs typ i = n at *
    go_wp2_with fail
    go_roundw
    case rel => exact ⟨i + 1, by go_num, by rw [HC.out], (show Hid _ from HLT.out), e, rfl⟩
    case measure => have := HLT.out; simp [intOf]; omega
  .
   obtain rfl : i = k := by have := hi.out; omega
   have tc : decide (i < i) = false := by simp
   go_wp2_with fail
   go_ret
   exact Ret.mk rfl e.h
set_option maxRecDepth 20000 in
set_option maxHeartbeats 1600000 in
theorem r13twice_any (bs : Nat -> BV) (k c : Nat) (A : Option Addr) (hk : k < 4611686018427387904) (w : World) (h : BsL w A k bs) : Calls Tryz.prog 21 #[.slice A k c] w (Ret (.bool (dupB bs k)) w) := by
 have HL := hid h
 have k1 : (k : Int) < 4611686018427387904 := by omega
 clear h hk
 obtain ⟨e0, he0⟩ := Later.self w
 go_enter Tryz.func21, Tryz.ntmps21
 go_wp2_with fail
 go_loopw [3] (fun s3 wr => ∃ i : Nat, s3 = .int .i64 (i : Int) /\ Hid (i <= k /\ ∀ j, j < i -> dupAt bs j = false) /\ ∃ e : Later w, wr = e.x) (fun s3 _ => k - (intOf s3).toNat)
 case atStart => exact ⟨0, rfl, (show Hid _ from ⟨Nat.zero_le _, fun j hj => by omega⟩), e0, (by first | exact he0 | rfl)⟩
 case round =>
  clear he0 e0
  obtain ⟨i, rfl, hi, e, rfl⟩ := hrel
  have i0 : (0 : Int) <= (i : Int) := by omega
  by_cases hlt : i < k
  .
   obtain ⟨b, o, rfl, hb, q0, q1, q2, q3, q4⟩ := HL.out.cells hlt
   have tc : decide (i < k) = true := by simp [hlt]
   have i1 : (i : Int) < (k : Int) := by omega
   have HLT := hid hlt
   clear hlt
   go_wp2_with fail
   go_loopw [4] (fun s4 wr => ∃ j : Nat, s4 = .int .i64 (j : Int) /\ Hid (j <= i /\ ∀ m, m < j -> hasNumOf bs i m = false) /\ ∃ e : Later w, wr = e.x) (fun s4 _ => i - (intOf s4).toNat)
   case atStart => exact ⟨0, rfl, (show Hid _ from ⟨Nat.zero_le _, fun j hj => by omega⟩), e, rfl⟩
   case round =>
    obtain ⟨j, rfl, hj, e3, rfl⟩ := hrel
    have j0 : (0 : Int) <= (j : Int) := by omega
    by_cases hjt : j < i
    .
     have hjk : j < k := Nat.lt_trans hjt HLT.out
     obtain ⟨b', o', hA', hb', u0, u1, u2, u3, u4⟩ := HL.out.cells hjk
     cases hA'
     have tj : decide (j < i) = true := by simp [hjt]
     have j1 : (j : Int) < (i : Int) := by omega
     have j2 : (j : Int) < (k : Int) := by omega
     have HJT := hid hjt
     clear hjt hjk
     by_cases ht : hasNumOf bs i j = true
     .
      have HF : Hid (dupB bs k = true) := by
       unfold Hid dupB
       rw [firstOf_some HLT.out (by unfold dupAt; rw [firstOf_some HJT.out ht hj.out.2]; rfl) hi.out.2]; rfl
      have hn : (bs i).num = (bs j).num := by simpa [hasNumOf] using ht
      have t1 : ((bs i).num == (bs j).num) = true := by simpa using hn
      have t2 : ((bs i).num = (bs j).num) = True := by simpa using hn
      clear ht hn
      generalize (bs i).num = ni at *
      generalize (bs j).num = nj at *
      clear hb hb'
      go_upto_region 7 with fail
      refine wp_region_later (by kernel_rfl) (by kernel_rfl) ?_
      repeat (first | go_big_quiet_step (fail))
      refine wpQuiet_nil ?_
      rintro _ ⟨e, rfl⟩
      go_wp2_with fail
      go_ret
      exact Ret.mk (by rw [HF.out]; rfl) e.h
     .
      have HN : Hid (hasNumOf bs i j = false) := by unfold Hid; simpa using ht
      have hn : ¬ (bs i).num = (bs j).num := by simpa [hasNumOf] using ht
      have t1 : ((bs i).num == (bs j).num) = false := by simpa using hn
      have t2 : ((bs i).num = (bs j).num) = False := by simpa using hn
      clear ht hn
      generalize hni : (bs i).num = ni at *
      generalize hnj : (bs j).num = nj at *
      clear hni hnj hb hb'
      go_upto_region 7 with fail
      refine wp_region_later (by kernel_rfl) (by kernel_rfl) ?_
      repeat (first | go_big_quiet_step (fail))
      refine wpQuiet_nil ?_
      rintro _ ⟨e, rfl⟩
      go_wp2_with fail
      go_roundw
      case rel => exact ⟨j + 1, by go_num, (show Hid _ from ⟨HJT.out, fun m hm => by
       by_cases hmj : m = j
       . subst hmj; exact HN.out
       . exact hj.out.2 m (by omega)⟩), e, rfl⟩
      case measure => have := HJT.out; simp [intOf]; omega
    .
     obtain rfl : j = i := by have := hj.out.1; omega
     have tj : decide (j < j) = false := by simp
     have HN : Hid (dupAt bs j = false) := by unfold Hid dupAt; rw [firstOf_none hj.out.2]; rfl
     go_wp2_with fail
     go_roundw
     case rel => exact ⟨j + 1, by go_num, (show Hid _ from ⟨HLT.out, fun m hm => by
      by_cases hmj : m = j
      . subst hmj; exact HN.out
      . exact hi.out.2 m (by omega)⟩), e3, rfl⟩
     case measure => have := HLT.out; simp [intOf]; omega
  .
   obtain rfl : i = k := by have := hi.out.1; omega
   have tc : decide (i < i) = false := by simp
   have HF : Hid (dupB bs i = false) := by unfold Hid dupB; rw [firstOf_none hi.out.2]; rfl
   go_wp2_with fail
   go_ret
   exact Ret.mk (by rw [HF.out]; rfl) e.h
set_option maxRecDepth 20000 in
set_option maxHeartbeats 1600000 in
theorem r13Bytes_any (p : PV) (bs : Nat -> BV) (k c : Nat) (A : Option Addr) (hk : k <= 100000) (hp : p.right = 0) (hbs : ∀ i, i < k -> (bs i).right = 0) (w : World) (h : BsL w A k bs) : Calls Tryz.prog 9 #[bunV p A k c] w (Ret (str (bunBytes p bs k)) w) := by
 have HE := hid ((Mod.refl [] w).alloc (.cells (bunC p A k c) 29))
 have HB0 : Hid (Blk (w.alloc (.cells (bunC p A k c) 29)) w.heap.size 29 (bunC p A k c)) := hid (Blk.new w 29 (bunC p A k c))
 have HL := hid (BsL.ext h HE.out)
 have k1 : (k : Int) <= 100000 := by omega
 have HK := hid hk
 have HBS := hid hbs
 have KP := hid (fun W => r11Build_ok p (PV.right_ranged hp) W)
 have lP : p.bytes.length <= 40000 := PV.bytes_length (PV.right_ranged hp)
 have HRes : Hid (bunBytes p bs k = (159 :: p.bytes) ++ blksB bs k ++ [255]) := rfl
 clear h hk hbs hp
 generalize p.bytes = PB at *
 generalize bunBytes p bs k = RES at *
 go_enter Tryz.func9, Tryz.ntmps9
 go_upto_region 1 with fail
 generalize (w.alloc (.cells (bunC p A k c) 29)) = V at *
 have HPR : Hid (∀ e : Later V, e.x.rangeAt w.heap.size 0 p.c.toList) := HB0.out.range 0 19 (by rw [Array.toList_extract]; rfl)
 have b19 : ∀ e : Later V, e.x.cell? ⟨w.heap.size, 19, none⟩ = some (.slice A k c) := HB0.out.cellL 19 rfl
 obtain ⟨e0, he0⟩ := Later.self V
 rw [he0]
 go_wp2_with (first | (refine wpList_mid (by rfl) 26 _ rfl _ 0 rfl _ _ (HPR.out _) Tryz.underlying26 rfl (by kernel_rfl) ?_) | (go_at_call 26; refine (Ret.later (KP.out _)).mono ?_; rintro x _ ⟨rfl, e, rfl⟩) | (refine wpList_cat (by rfl) _ _ [159] PB rfl _ _ rfl rfl (by simp only [List.length_cons, List.length_nil]; omega) ?_))
 go_loopw [3, 4] (fun s3 s4 wr => ∃ i : Nat, s4 = .int .i64 (i : Int) /\ s3 = str ((159 :: PB) ++ blksB bs i) /\ Hid (i <= k) /\ ∃ e : Later V, wr = e.x) (fun _ s4 _ => k - (intOf s4).toNat)
 case atStart => exact ⟨0, rfl, by simp only [blksB, List.append_nil]; exact str_app [159] PB, (show Hid _ from Nat.zero_le _), e, rfl⟩
 case round =>
  clear he0 e0 e
  obtain ⟨i, rfl, rfl, hi, e, rfl⟩ := hrel
  have i0 : (0 : Int) <= (i : Int) := by omega
  have lX : ((159 :: PB) ++ blksB bs i).length <= 200000000000 := by
   have := blksB_length (bs := bs) (k := i) (fun j hj => HBS.out j (by have := hi.out; omega))
   have := hi.out
   have := HK.out
   rw [List.length_append, List.length_cons]
   omega
  by_cases hlt : i < k
  .
   obtain ⟨b, o, rfl, hb, q0, q1, q2, q3, q4⟩ := HL.out.cells hlt
   have tc : decide (i < k) = true := by simp [hlt]
   have i1 : (i : Int) < (k : Int) := by omega
   have HLT := hid hlt
   have KB := hid (fun W => r12Build_any (HBS.out i hlt) W)
   have lB := BV.bytes_length (HBS.out i hlt)
   have HC : Hid ((159 :: PB) ++ blksB bs (i + 1) = ((159 :: PB) ++ blksB bs i) ++ (bs i).bytes) := by unfold Hid; rw [blksB, List.append_assoc]
   clear hlt
   generalize (bs i).bytes = BB at *
   generalize (159 :: PB) ++ blksB bs i = X at *
   go_wp2_with (first | (go_at_call 27; refine (Ret.later (KB.out _)).mono ?_; rintro x _ ⟨rfl, e, rfl⟩) | (refine wpList_cat (by rfl) _ _ _ _ rfl _ _ rfl rfl (by (try simp only [List.length_append, List.length_cons, List.length_nil]); omega) ?_))
   go_roundw
   case rel => exact ⟨i + 1, by go_num, by (rw [HC.out]) <;> exact str_app _ _, (show Hid _ from HLT.out), e, rfl⟩
   case measure => have := HLT.out; simp [intOf]; omega
  .
   obtain rfl : i = k := by have := hi.out; omega
   have tc : decide (i < i) = false := by simp
   generalize (159 :: PB) ++ blksB bs i = X at *
   go_wp2_with (refine wpList_cat (by rfl) _ _ X [255] rfl _ _ rfl rfl (by simp only [List.length_cons, List.length_nil]; omega) ?_)
   go_ret
   exact Ret.mk (by rw [HRes.out]; rfl) (HE.out.trans e.h)
end Go.Proofs.YthecmnbkjchjmaaGreat


namespace Go.Proofs.YthecmnbkjchjmaaGreat
open Go.RowKit
set_option linter.unusedVariables false
set_option linter.unusedSimpArgs false

def partsR (p : PV) (bs : Nat -> BV) (k : Nat) : Int := if p.right ≠ 0 then p.right else match firstOf (badAt bs) k with | some i => (bs i).right | none => 0
theorem cBuildB_any {b : BV} (h : b.right = 0) (w : World) : Calls Tryz.prog 114 #[b.v] w (Ret (.tuple #[str b.bytes, .int .i64 0]) w) := by
 have hz := BV.right_zero h
 obtain ⟨ty, num, e⟩ := bv_nat h
 obtain ⟨crc, e2⟩ : ∃ c : Nat, b.crc = (c : Int) := ⟨b.crc.toNat, by omega⟩
 obtain ⟨bty, bnum, bfl, bcrc, bdata⟩ := b
 simp only [BV.mk.injEq] at e e2
 obtain ⟨rfl, rfl, -⟩ := e
 subst e2
 simpa [BV.bytes] using Build_any ty num bfl crc bdata h w
set_option maxRecDepth 20000 in
theorem parts_p (p : PV) (bs : Nat -> BV) (k c : Nat) (A : Option Addr) (hnl : Hid (p.d.name.length < 4611686018427387904 /\ p.s.name.length < 4611686018427387904 /\ p.r.name.length < 4611686018427387904)) (hf : p.fl < 18446744073709551616) (hb : p.right ≠ 0) (w : World) (h : BsL w A k bs) : Calls Tryz.prog 92 #[bunV p A k c] w (Ret (.int .i64 p.right) w) := by
 have KP := hid (fun W => cPriRight_any p hnl hf W)
 have HE := hid ((Mod.refl [] w).alloc (.cells (bunC p A k c) 29))
 have HB0 : Hid (Blk (w.alloc (.cells (bunC p A k c) 29)) w.heap.size 29 (bunC p A k c)) := hid (Blk.new w 29 (bunC p A k c))
 generalize p.right = r at *
 have ra : ((r) == (0)) = false := by rw [beq_eq_false_iff_ne]; exact hb
 have rb : ((r) = (0)) = False := eq_false (by exact hb)
 have rc : ((r) != (0)) = true := by rw [bne_iff_ne]; exact hb
 clear hb hf h
 go_enter Tryz.func92, Tryz.ntmps92
 go_upto_region 1 with fail
 generalize (w.alloc (.cells (bunC p A k c) 29)) = V at *
 have HPR : Hid (∀ e : Later V, e.x.rangeAt w.heap.size 0 p.c.toList) := HB0.out.range 0 19 (by rw [Array.toList_extract]; rfl)
 obtain ⟨e, he⟩ := Later.self V
 rw [he]
 clear he
 go_wp2_with (first | (refine wpList_mid (by rfl) 26 _ rfl _ 0 rfl _ _ (HPR.out _) Tryz.underlying26 rfl (by kernel_rfl) ?_) | (go_at_call 108; refine (Ret.later (KP.out _)).mono ?_; rintro x _ ⟨rfl, e, rfl⟩))
 go_ret
 exact Ret.mk rfl (HE.out.trans e.h)
set_option maxRecDepth 20000 in
set_option maxHeartbeats 1600000 in
theorem parts_ok (p : PV) (bs : Nat -> BV) (k c : Nat) (A : Option Addr) (hnl : Hid (p.d.name.length < 4611686018427387904 /\ p.s.name.length < 4611686018427387904 /\ p.r.name.length < 4611686018427387904)) (hf : p.fl < 18446744073709551616) (hk : k < 4611686018427387904) (hb : p.right = 0) (w : World) (h : BsL w A k bs) : Calls Tryz.prog 92 #[bunV p A k c] w (Ret (.int .i64 (match firstOf (badAt bs) k with | some i => (bs i).right | none => 0)) w) := by
 generalize hRES : (match firstOf (badAt bs) k with | some i => (bs i).right | none => 0) = RES
 have HRES := hid hRES
 clear hRES
 have KP := hid (fun W => cPriRight_any p hnl hf W)
 rw [hb] at KP
 have HE := hid ((Mod.refl [] w).alloc (.cells (bunC p A k c) 29))
 have HB0 : Hid (Blk (w.alloc (.cells (bunC p A k c) 29)) w.heap.size 29 (bunC p A k c)) := hid (Blk.new w 29 (bunC p A k c))
 have HL := hid (BsL.ext h HE.out)
 have k1 : (k : Int) < 4611686018427387904 := by omega
 clear hb hf hk h
 go_enter Tryz.func92, Tryz.ntmps92
 go_upto_region 1 with fail
 generalize (w.alloc (.cells (bunC p A k c) 29)) = V at *
 have HPR : Hid (∀ e : Later V, e.x.rangeAt w.heap.size 0 p.c.toList) := HB0.out.range 0 19 (by rw [Array.toList_extract]; rfl)
 have b19 : ∀ e : Later V, e.x.cell? ⟨w.heap.size, 19, none⟩ = some (.slice A k c) := HB0.out.cellL 19 rfl
 obtain ⟨e, he⟩ := Later.self V
 rw [he]
 clear he
 go_upto_region 5 with (first | (refine wpList_mid (by rfl) 26 _ rfl _ 0 rfl _ _ (HPR.out _) Tryz.underlying26 rfl (by kernel_rfl) ?_) | (go_at_call 108; refine (Ret.later (KP.out _)).mono ?_; rintro x _ ⟨rfl, e, rfl⟩))
 go_loopw [16] (fun s5 wr => ∃ i : Nat, s5 = .int .i64 (i : Int) /\ Hid (i <= k /\ ∀ j, j < i -> badAt bs j = false) /\ ∃ e : Later V, wr = e.x) (fun s5 _ => k - (intOf s5).toNat)
 case atStart => exact ⟨0, rfl, (show Hid _ from ⟨Nat.zero_le _, fun j hj => by omega⟩), e, rfl⟩
 case round =>
  clear e
  obtain ⟨i, rfl, hi, e, rfl⟩ := hrel
  have i0 : (0 : Int) <= (i : Int) := by omega
  by_cases hlt : i < k
  .
   obtain ⟨b, o, rfl, hb, q0, q1, q2, q3, q4⟩ := HL.out.cells hlt
   have tc : decide (i < k) = true := by simp [hlt]
   have i1 : (i : Int) < (k : Int) := by omega
   have HLT := hid hlt
   have KX := hid (fun W => cbRight_any (bs i) W)
   clear hlt
   by_cases ht : badAt bs i = true
   .
    have HR : Hid (RES = (bs i).right) := by unfold Hid; rw [<- HRES.out, firstOf_some HLT.out ht hi.out.2]
    have hx : (bs i).right ≠ 0 := by simpa [badAt] using ht
    clear ht
    generalize (bs i).right = r at *
    have ra : ((r) == (0)) = false := by rw [beq_eq_false_iff_ne]; exact hx
    have rb : ((r) = (0)) = False := eq_false (by exact hx)
    have rc : ((r) != (0)) = true := by rw [bne_iff_ne]; exact hx
    clear hx
    go_wp2_with (go_at_call 109; refine (Ret.laterW ((Later.h e).alloc _) (KX.out _)).mono ?_; rintro x _ ⟨rfl, e1, rfl⟩)
    go_ret
    exact Ret.mk (by rw [HR.out]; rfl) (HE.out.trans e1.h)
   .
    have HN : Hid (badAt bs i = false) := by unfold Hid; simpa using ht
    rw [bad_no HN.out] at KX
    clear ht
    go_wp2_with (go_at_call 109; refine (Ret.laterW ((Later.h e).alloc _) (KX.out _)).mono ?_; rintro x _ ⟨rfl, e1, rfl⟩)
    go_roundw
    case rel => exact ⟨i + 1, by go_num, (show Hid _ from ⟨HLT.out, fun j hj => by
     by_cases hji : j = i
     . subst hji; exact HN.out
     . exact hi.out.2 j (by omega)⟩), e1, rfl⟩
    case measure => have := HLT.out; simp [intOf]; omega
  .
   obtain rfl : i = k := by have := hi.out.1; omega
   have tc : decide (i < i) = false := by simp
   have HR1 : Hid (RES = 0) := by unfold Hid; rw [<- HRES.out, firstOf_none hi.out.2]
   go_wp2_with fail
   go_ret
   exact Ret.mk (by rw [HR1.out]; rfl) (HE.out.trans e.h)
theorem bparts_any (p : PV) (bs : Nat -> BV) (k c : Nat) (A : Option Addr) (hnl : Hid (p.d.name.length < 4611686018427387904 /\ p.s.name.length < 4611686018427387904 /\ p.r.name.length < 4611686018427387904)) (hf : p.fl < 18446744073709551616) (hk : k < 4611686018427387904) (w : World) (h : BsL w A k bs) : Calls Tryz.prog 92 #[bunV p A k c] w (Ret (.int .i64 (partsR p bs k)) w) := by
 unfold partsR
 by_cases hb : p.right = 0
 . rw [if_neg (by simpa using hb)]; exact parts_ok p bs k c A hnl hf hk hb w h
 . rw [if_pos hb]; exact parts_p p bs k c A hnl hf hb w h
set_option maxRecDepth 20000 in
theorem lasts_0 (bs : Nat -> BV) (c : Nat) (A : Option Addr) (w : World) : Calls Tryz.prog 110 #[.slice A 0 c] w (Ret (.bool false) w) := by
 go_enter Tryz.func110, Tryz.ntmps110
 go_wp2_with fail
 go_ret
 exact Ret.mk rfl (Mod.refl _ _)
set_option maxRecDepth 20000 in
theorem lasts_S (bs : Nat -> BV) (m c : Nat) (A : Option Addr) (hm : m < 4611686018427387904) (w : World) (h : BsL w A (m + 1) bs) : Calls Tryz.prog 110 #[.slice A (m + 1 : Nat) c] w (Ret (.bool (decide ((bs m).ty = 1))) w) := by
 obtain ⟨b, o, rfl, hb, q0, q1, q2, q3, q4⟩ := h.cells (Nat.lt_succ_self m)
 have m0 : (0 : Int) <= (m : Int) := by omega
 have m1 : (m : Int) < 4611686018427387904 := by omega
 have u0 : w.cell? ⟨b, o + m * 5, none⟩ = some (.int .i64 (bs m).ty) := q0 ⟨w, Mod.refl _ _⟩
 have tp : decide ((0 : Int) < ((m + 1 : Nat) : Int)) = true := decide_eq_true (by omega)
 have tq : ((0 : Int) < ((m + 1 : Nat) : Int)) = True := eq_true (by omega)
 have tr : decide ((0 : Int) < (m : Int) + 1) = true := decide_eq_true (by omega)
 have ts : ((0 : Int) < (m : Int) + 1) = True := eq_true (by omega)
 clear q0 q1 q2 q3 q4 h hb hm
 generalize (bs m).ty = ty at *
 by_cases ht : ty = 1
 .
  have HT := hid ht
  have ta : ((ty) == (1)) = true := by rw [beq_iff_eq]; exact ht
  have tb : ((ty) = (1)) = True := eq_true (by exact ht)
  have tc : ((ty) != (1)) = false := by rw [bne_eq_false_iff_eq]; exact ht
  clear ht
  go_enter Tryz.func110, Tryz.ntmps110
  go_wp2_with fail
  go_ret
  exact Ret.mk (by simp [HT.out]) (Mod.refl _ _)
 .
  have HT := hid ht
  have ta : ((ty) == (1)) = false := by rw [beq_eq_false_iff_ne]; exact ht
  have tb : ((ty) = (1)) = False := eq_false (by exact ht)
  have tc : ((ty) != (1)) = true := by rw [bne_iff_ne]; exact ht
  clear ht
  go_enter Tryz.func110, Tryz.ntmps110
  go_wp2_with fail
  go_ret
  exact Ret.mk (by simp [HT.out]) (Mod.refl _ _)
set_option maxRecDepth 20000 in
set_option maxHeartbeats 800000 in
theorem fits_S (p : PV) (bs : Nat -> BV) (m c : Nat) (A : Option Addr) (hm : m < 4611686018427387904) (hf : p.fl < 18446744073709551616) (po : p.o <= 1099511627776) (hd : (bs m).data.length <= 100000) (w : World) (h : BsL w A (m + 1) bs) : Calls Tryz.prog 112 #[bunV p A (m + 1) c] w (Ret (.bool (!(has p.fl 1 && decide (p.n < p.o + (bs m).data.length)))) w) := by
 have HE := hid ((Mod.refl [] w).alloc (.cells (bunC p A (m + 1) c) 29))
 have HB0 := hid (Blk.new w 29 (bunC p A (m + 1) c))
 have HL := hid (BsL.ext h HE.out)
 obtain ⟨b, o, rfl, hb, q0, q1, q2, q3, q4⟩ := HL.out.cells (Nat.lt_succ_self m)
 have m0 : (0 : Int) <= (m : Int) := by omega
 have m1 : (m : Int) < 4611686018427387904 := by omega
 have ld : ((bs m).data.length : Int) <= 100000 := by omega
 have po2 : (p.o : Int) <= 1099511627776 := by omega
 have HA := hid (u64_and_powP p.fl 0 hf (by omega))
 clear q0 q1 q2 q3 h hb hm HL hd po
 have HRES : Hid (has p.fl 1 = decide (p.fl % 2 = 1)) := by unfold Hid has; simp
 go_enter Tryz.func112, Tryz.ntmps112
 go_upto_region 1 with fail
 generalize w.alloc (.cells (bunC p (some ⟨b, o, none⟩) (m + 1) c) 29) = V at *
 have b19 : V.cell? ⟨w.heap.size, 19, none⟩ = some (.slice (some ⟨b, o, none⟩) (m + 1) c) := HB0.out.cell 19
 have b0 : V.cell? ⟨w.heap.size, 0, none⟩ = some (.int .u64 (p.fl : Int)) := HB0.out.cell 0
 have b17 : V.cell? ⟨w.heap.size, 17, none⟩ = some (.int .u64 (p.o : Int)) := HB0.out.cell 17
 have b18 : V.cell? ⟨w.heap.size, 18, none⟩ = some (.int .u64 (p.n : Int)) := HB0.out.cell 18
 have u4 : V.cell? ⟨b, o + m * 5 + 4, none⟩ = some (str (bs m).data) := q4 ⟨V, Mod.refl _ _⟩
 clear q4
 generalize (bs m).data = dat at *
 generalize p.o = po at *
 generalize p.n = pn at *
 go_upto_region 2 with fail
 by_cases hh : p.fl % 2 = 1
 .
  have ha : bits .and .u64 (p.fl : Int) 1 = 1 := by have := HA.out; simpa [hh] using this
  have HR : Hid (has p.fl 1 = true) := by unfold Hid; rw [HRES.out]; simpa using hh
  clear hh HA HRES
  by_cases hv : pn < po + dat.length
  .
   have HV := hid hv
   have va : decide ((po : Int) + (dat.length : Int) <= (pn : Int)) = false := decide_eq_false (by omega)
   have vb : ((po : Int) + (dat.length : Int) <= (pn : Int)) = False := eq_false (by omega)
   have vc : decide (po + dat.length <= pn) = false := decide_eq_false (by omega)
   clear hv
   go_wp2_with fail
   go_ret
   exact Ret.mk (by rw [HR.out]; simp [HV.out]) HE.out
  .
   have HV := hid hv
   have va : decide ((po : Int) + (dat.length : Int) <= (pn : Int)) = true := decide_eq_true (by omega)
   have vb : ((po : Int) + (dat.length : Int) <= (pn : Int)) = True := eq_true (by omega)
   have vc : decide (po + dat.length <= pn) = true := decide_eq_true (by omega)
   clear hv
   go_wp2_with fail
   go_ret
   exact Ret.mk (by rw [HR.out]; simp [HV.out]) HE.out
 .
  have ha : bits .and .u64 (p.fl : Int) 1 = 0 := by have := HA.out; simpa [hh] using this
  have HR : Hid (has p.fl 1 = false) := by unfold Hid; rw [HRES.out]; simpa using hh
  clear hh HA HRES
  go_wp2_with fail
  go_ret
  exact Ret.mk (by rw [HR.out]; simp) HE.out
set_option maxRecDepth 20000 in
set_option maxHeartbeats 1600000 in
theorem bbuild_any (p : PV) (bs : Nat -> BV) (k c : Nat) (A : Option Addr) (hnl : Hid (p.d.name.length < 4611686018427387904 /\ p.s.name.length < 4611686018427387904 /\ p.r.name.length < 4611686018427387904)) (hf : p.fl < 18446744073709551616) (hk : k <= 100000) (hp : p.right = 0) (hbs : ∀ i, i < k -> (bs i).right = 0) (w : World) (h : BsL w A k bs) : Calls Tryz.prog 94 #[bunV p A k c] w (Ret (str (bunBytes p bs k)) w) := by
 have HE := hid ((Mod.refl [] w).alloc (.cells (bunC p A k c) 29))
 have HB0 : Hid (Blk (w.alloc (.cells (bunC p A k c) 29)) w.heap.size 29 (bunC p A k c)) := hid (Blk.new w 29 (bunC p A k c))
 have HL := hid (BsL.ext h HE.out)
 have k1 : (k : Int) <= 100000 := by omega
 have HK := hid hk
 have HBS := hid hbs
 have KP := hid (fun W => cPriBuild_ok p hnl hf hp W)
 have KO4 : Hid (∀ W, Calls Tryz.prog 106 #[.int .i64 4] W (Ret (str [159]) W)) := fun W => by have := open_yes 4 (by rfl) W; rw [show openL ((4 : Nat) : Int) = [159] from by decide] at this; exact this
 have KO7 : Hid (∀ W, Calls Tryz.prog 106 #[.int .i64 7] W (Ret (str [255]) W)) := fun W => by have := open_yes 7 (by rfl) W; rw [show openL ((7 : Nat) : Int) = [255] from by decide] at this; exact this
 have lP : p.bytes.length <= 40000 := PV.bytes_length (PV.right_ranged hp)
 have HRes : Hid (bunBytes p bs k = (159 :: p.bytes) ++ blksB bs k ++ [255]) := rfl
 clear h hk hbs hp hf
 generalize p.bytes = PB at *
 generalize bunBytes p bs k = RES at *
 go_enter Tryz.func94, Tryz.ntmps94
 go_upto_region 1 with fail
 generalize (w.alloc (.cells (bunC p A k c) 29)) = V at *
 have HPR : Hid (∀ e : Later V, e.x.rangeAt w.heap.size 0 p.c.toList) := HB0.out.range 0 19 (by rw [Array.toList_extract]; rfl)
 have b19 : ∀ e : Later V, e.x.cell? ⟨w.heap.size, 19, none⟩ = some (.slice A k c) := HB0.out.cellL 19 rfl
 obtain ⟨e, he⟩ := Later.self V
 rw [he]
 clear he
 go_upto_region 4 with (first | (refine wpList_mid (by rfl) 26 _ rfl _ 0 rfl _ _ (HPR.out _) Tryz.underlying26 rfl (by kernel_rfl) ?_) | (go_at_call 113; refine (Ret.later (KP.out _)).mono ?_; rintro x _ ⟨rfl, e, rfl⟩) | (go_at_call 106; refine (Ret.later (KO4.out _)).mono ?_; rintro x _ ⟨rfl, e, rfl⟩))
 go_loopw [3, 21] (fun s3 s4 wr => ∃ i : Nat, s4 = .int .i64 (i : Int) /\ s3 = str ((159 :: PB) ++ blksB bs i) /\ Hid (i <= k) /\ ∃ e : Later V, wr = e.x) (fun _ s4 _ => k - (intOf s4).toNat)
 case atStart => exact ⟨0, rfl, by simp only [blksB, List.append_nil]; exact str_app [159] PB, (show Hid _ from Nat.zero_le _), e, rfl⟩
 case round =>
  clear e
  obtain ⟨i, rfl, rfl, hi, e, rfl⟩ := hrel
  have i0 : (0 : Int) <= (i : Int) := by omega
  have lX : ((159 :: PB) ++ blksB bs i).length <= 200000000000 := by
   have := blksB_length (bs := bs) (k := i) (fun j hj => HBS.out j (by have := hi.out; omega))
   have := hi.out
   have := HK.out
   rw [List.length_append, List.length_cons]
   omega
  by_cases hlt : i < k
  .
   obtain ⟨b, o, rfl, hb, q0, q1, q2, q3, q4⟩ := HL.out.cells hlt
   have tc : decide (i < k) = true := by simp [hlt]
   have i1 : (i : Int) < (k : Int) := by omega
   have HLT := hid hlt
   have KB := hid (fun W => cBuildB_any (HBS.out i hlt) W)
   have lB := BV.bytes_length (HBS.out i hlt)
   have HC : Hid ((159 :: PB) ++ blksB bs (i + 1) = ((159 :: PB) ++ blksB bs i) ++ (bs i).bytes) := by unfold Hid; rw [blksB, List.append_assoc]
   clear hlt
   generalize (bs i).bytes = BB at *
   generalize (159 :: PB) ++ blksB bs i = X at *
   go_wp2_with (first | (go_at_call 114; refine (Ret.laterW ((Later.h e).alloc _) (KB.out _)).mono ?_; rintro x _ ⟨rfl, e1, rfl⟩) | (refine wpList_cat (by rfl) _ _ _ _ rfl _ _ rfl rfl (by (try simp only [List.length_append, List.length_cons, List.length_nil]); omega) ?_))
   go_roundw
   case rel => exact ⟨i + 1, by go_num, by (rw [HC.out]) <;> exact str_app _ _, (show Hid _ from HLT.out), e1, rfl⟩
   case measure => have := HLT.out; simp [intOf]; omega
  .
   obtain rfl : i = k := by have := hi.out; omega
   have tc : decide (i < i) = false := by simp
   generalize (159 :: PB) ++ blksB bs i = X at *
   go_wp2_with (first | (go_at_call 106; refine (Ret.later (KO7.out _)).mono ?_; rintro x _ ⟨rfl, e, rfl⟩) | (refine wpList_cat (by rfl) _ _ X [255] rfl _ _ rfl rfl (by simp only [List.length_cons, List.length_nil]; omega) ?_))
   go_ret
   exact Ret.mk (by rw [HRes.out]; rfl) (HE.out.trans e.h)
end Go.Proofs.YthecmnbkjchjmaaGreat


namespace Go.Proofs.YthecmnbkjchjmaaGreat
open Go.RowKit
set_option linter.unusedVariables false
set_option linter.unusedSimpArgs false

def zeroBV : Value := .agg #[.int .i64 0, .int .i64 0, .int .u64 0, .int .i64 0, .string ⟨#[]⟩]
theorem zeroCells_size (n : Nat) : (Builtin.zeroCells zeroBV.cells n).size = n * 5 := by
 simp [Builtin.zeroCells, Value.cells, zeroBV]
set_option maxHeartbeats 4000000 in
set_option maxRecDepth 100000 in
theorem InsB_grow (g k c i vb : Nat) (cs vs : List Value) (w : World) (hi : i < k) (hk : k <= 100000) (hnc : k <= c) (hroom : c < k + 1)
  (hcl : cs.length = k * 5) (hvl : vs.length = 5)
  (hcs : ∀ j v, cs[j]? = some v -> w.cell? ⟨g, j, none⟩ = some v)
  (hvs : ∀ j v, vs[j]? = some v -> w.cell? ⟨vb, j, none⟩ = some v) (h1c : ∀ v ∈ cs, v.oneCell' = true) (h1v : ∀ v ∈ vs, v.oneCell' = true) :
  Calls Tryz.prog 81 #[.slice (some ⟨g, 0, none⟩) k c, .int .i64 i, .slice (some ⟨vb, 0, none⟩) 1 1] w fun e w' =>
   e = .returned (.slice (some ⟨w.heap.size, 0, none⟩) (k + 1) (grownCap w (k + 1) c 38)) /\
   w' = (((w.alloc (.cells ((cs.take (i * 5)).toArray ++ Builtin.zeroCells zeroBV.cells (k + 1 - i) ++ Builtin.zeroCells zeroBV.cells (grownCap w (k + 1) c 38 - (k + 1))) 38)).drew.setCells w.heap.size (i * 5) vs).drew).setCells w.heap.size ((i + 1) * 5) (cs.drop (i * 5)) := by
 obtain ⟨i0, hi0, hz0, hzs, hzb⟩ := info_parts infoBlock
 have hz2 : ¬ ((i : Int) = (k : Int)) := by omega
 have hz3 : ((i : Int) == (k : Int)) = false := by rw [beq_eq_false_iff_ne]; omega
 have hz4 : (i == k) = false := by rw [beq_eq_false_iff_ne]; omega
 have hr1 : decide ((c : Int) < (k : Int) + 1) = true := decide_eq_true (by omega)
 have hr2 : decide (c < k + 1) = true := decide_eq_true (by omega)
 have k0 : (0 : Int) <= (k : Int) := by omega
 have k1 : (k : Int) <= 100000 := by omega
 have ii0 : (0 : Int) <= (i : Int) := by omega
 have ii1 : (i : Int) < (k : Int) := by omega
 have hsz : (Tryz.prog.info? 38).map (·.size) = some 5 := by kernel_rfl
 have hbw : g < w.heap.size := block_lt_of_cell (hcs 0 _ (List.getElem?_eq_getElem (by omega)))
 have hvw : vb < w.heap.size := block_lt_of_cell (hvs 0 _ (List.getElem?_eq_getElem (by omega)))
 have hkk : (k : Int) + 1 - (i : Int) = ((k + 1 - i : Nat) : Int) := by omega
 have hik : i + (k + 1 - i) = k + 1 := by omega
 have hold : (Builtin.firstCells i0.size i (.slice (some ⟨g, 0, none⟩) i c)).run Tryz.prog w.drew = .ok (cs.take (i * 5)).toArray w.drew := by
  rw [hzs]
  exact run_firstCells_some w.drew 5 i ⟨g, 0, none⟩ i c (cs.take (i * 5)) (by rw [List.length_take]; omega) (fun j v hj => by
   rw [addr_add, Nat.zero_add]
   rw [List.getElem?_take] at hj
   split at hj
   . exact hcs j v hj
   . cases hj)
 have hrz : ∀ ty, (Builtin.append_ #[27, 3] ty #[.slice (some ⟨g, 0, none⟩) i c, .int .i64 ((k : Int) + 1 - (i : Int))]).run Tryz.prog w =
   .ok (.slice (some ⟨w.heap.size, 0, none⟩) (k + 1) (grownCap w (k + 1) c 38)) (w.drew.alloc (.cells ((cs.take (i * 5)).toArray ++ Builtin.zeroCells zeroBV.cells (k + 1 - i) ++ Builtin.zeroCells zeroBV.cells (grownCap w (k + 1) c 38 - (k + 1))) 38)) := fun ty => by
  have h := Lib.run_append_grow_zeros w 27 3 ty 38 i0 _ .i64 .i64 Tryz.underlying27 Tryz.underlying3 hi0 hz0 (some ⟨g, 0, none⟩) i c (cs.take (i * 5)) hold (k + 1 - i) (by omega) (by omega) (by omega) (by omega) (by rw [hzb]; omega) (by rw [hzb, hik]; exact growslice_fits hroom (by omega))
  rw [hik] at h
  rw [hkk]
  exact h
 obtain ⟨G, hG⟩ : ∃ G, G = grownCap w (k + 1) c 38 := ⟨_, rfl⟩
 obtain ⟨ROW, hROW⟩ : ∃ ROW : Array Value, ROW = (cs.take (i * 5)).toArray ++ Builtin.zeroCells zeroBV.cells (k + 1 - i) ++ Builtin.zeroCells zeroBV.cells (G - (k + 1)) := ⟨_, rfl⟩
 rw [<- hG] at hrz ⊢
 rw [<- hROW] at hrz ⊢
 have hRl : (k + 1) * 5 <= ROW.size := by
  rw [hROW, Array.size_append, Array.size_append, zeroCells_size, zeroCells_size, List.size_toArray, List.length_take]
  omega
 obtain ⟨W1, hW1⟩ : ∃ W1, W1 = w.drew.alloc (.cells ROW 38) := ⟨_, rfl⟩
 rw [<- hW1] at hrz
 have hN : ∀ j, j < (k + 1) * 5 -> (W1.cell? ⟨w.heap.size, j, none⟩).isSome = true := fun j hj => by
  rw [hW1, World.cell?_alloc_at (w := w.drew) ROW _ w.heap.size j rfl, Array.getElem?_eq_getElem (by omega)]; rfl
 have hNf : ∀ j, W1.frozen? ⟨w.heap.size, j, none⟩ = false := fun j => by rw [hW1]; exact World.frozen?_alloc_at (w := w.drew) ROW _ w.heap.size j rfl
 have hOb : ∀ j v, w.cell? ⟨g, j, none⟩ = some v -> W1.cell? ⟨g, j, none⟩ = some v := fun j v h => by rw [hW1, World.cell?_alloc_past (w := w.drew) _ g j hbw]; exact h
 have hOv : ∀ j v, w.cell? ⟨vb, j, none⟩ = some v -> W1.cell? ⟨vb, j, none⟩ = some v := fun j v h => by rw [hW1, World.cell?_alloc_past (w := w.drew) _ vb j hvw]; exact h
 have hcpA : ∀ (W : World), (∀ x, W.cell? x = W1.cell? x) -> (∀ x, W.frozen? x = W1.frozen? x) -> ∀ ty dc, (Builtin.copy_ #[27, 27] ty #[.slice (some ⟨w.heap.size, i * 5, none⟩) (k + 1 - i) dc, .slice (some ⟨vb, 0, none⟩) 1 1]).run Tryz.prog W = .ok (goInt (Nat.min 1 (k + 1 - i))) (W.setCells w.heap.size (i * 5) vs) := fun W hWc hWf ty dc =>
  run_copy_cells5 W _ _ ty 38 w.heap.size (i * 5) (k + 1 - i) dc ⟨vb, 0, none⟩ 1 1 vs Tryz.underlying27 hsz (by rw [hvl]; simp only [Nat.min_def]; split <;> omega)
   (fun j v hj => by rw [addr_add, Nat.zero_add, hWc]; exact hOv _ v (hvs j v hj))
   (fun j hj => by rw [hWc]; exact hN _ (by omega)) (fun j hj => by rw [hWf]; exact hNf _) h1v
 have hGn : k + 1 <= G := by rw [hG]; exact grownCap_ge w _ _ _
 have hG63 : G <= 9223372036854775807 := by
  have := grownCap_le_maxLen w (k + 1) c 38 (by unfold maxLen; omega)
  rw [<- hG] at this
  unfold maxLen at this
  omega
 have hGi : ¬ (G = i) := by omega
 have hGim : ¬ (G = i + 1) := by omega
 have hci : ¬ (c = i) := by omega
 have hbN : g ≠ w.heap.size := by omega
 have hdl : (cs.drop (i * 5)).length = (k - i) * 5 := by rw [List.length_drop, hcl]; omega
 have hcpB : ∀ (W : World), (∀ x, W.cell? x = (W1.setCells w.heap.size (i * 5) vs).cell? x) -> (∀ x, W.frozen? x = (W1.setCells w.heap.size (i * 5) vs).frozen? x) -> ∀ ty dc sc, (Builtin.copy_ #[27, 27] ty #[.slice (some ⟨w.heap.size, (i + 1) * 5, none⟩) (k - i) dc, .slice (some ⟨g, i * 5, none⟩) (k - i) sc]).run Tryz.prog W = .ok (goInt (Nat.min (k - i) (k - i))) (W.setCells w.heap.size ((i + 1) * 5) (cs.drop (i * 5))) := fun W hWc hWf ty dc sc =>
  run_copy_cells5 W _ _ ty 38 w.heap.size ((i + 1) * 5) (k - i) dc ⟨g, i * 5, none⟩ (k - i) sc (cs.drop (i * 5)) Tryz.underlying27 hsz (by rw [hdl]; simp only [Nat.min_def]; split <;> omega)
   (fun j v hj => by
    rw [addr_add, hWc, World.cell?_setCells_out _ _ _ _ _ (fun h _ => absurd h hbN)]
    exact hOb _ v (hcs (i * 5 + j) v (by rwa [List.getElem?_drop] at hj)))
   (fun j hj => by rw [hWc]; exact isSome_setCells w.heap.size vs (i * 5) W1 (fun t ht => hN _ (by omega)) _ (hN _ (by omega)))
   (fun j hj => by rw [hWf, World.frozen?_setCells]; exact hNf _) (fun v hv => h1c v (List.mem_of_mem_drop hv))
 subst hW1
 have hE1 : ∀ x, ((w.alloc (.cells ROW 38)).drew).cell? x = (w.drew.alloc (.cells ROW 38)).cell? x := fun x => rfl
 have hE2 : ∀ x, ((w.alloc (.cells ROW 38)).drew).frozen? x = (w.drew.alloc (.cells ROW 38)).frozen? x := fun x => rfl
 have hF1 : ∀ x, (((w.alloc (.cells ROW 38)).drew.setCells w.heap.size (i * 5) vs).drew).cell? x = ((w.drew.alloc (.cells ROW 38)).setCells w.heap.size (i * 5) vs).cell? x := fun x => rfl
 have hF2 : ∀ x, (((w.alloc (.cells ROW 38)).drew.setCells w.heap.size (i * 5) vs).drew).frozen? x = ((w.drew.alloc (.cells ROW 38)).setCells w.heap.size (i * 5) vs).frozen? x := fun x => rfl
 have mixed : Tryz.prog.follows Departure.mixedOrders = true := by kernel_rfl
 have hw1 : IntKind.i64.wrap ((i : Int) + 1) = (i : Int) + 1 := IntWalk.i64_in _ (by omega)
 have hb1 : (0 : Int) <= (i : Int) + 1 := by omega
 have htn : ((i : Int) + 1).toNat = i + 1 := by omega
 have hb3 : (i : Int) <= (k : Int) := by omega
 have hb6 : (i : Int) + 1 <= (k : Int) + 1 := by omega
 have hb7 : (i : Int) <= (k : Int) + 1 := by omega
 clear hkk hik hold hROW hG hRl hN hNf hOb hOv hcs hvs h1c h1v hdl hsz hi0 hz0 hzs hzb
 go_enter Tryz.func81, Tryz.ntmps81
 go_wp2_with (first
  | (at_builtin; refine Lib.wpList_append_run _ rfl _ _ _ _ rfl _ _ rfl rfl _ _ (hrz _) ?_)
  | (at_builtin; refine wpList_copy_runI _ rfl _ _ 27 27 rfl _ _ rfl rfl (hcpA _ hE1 hE2 _ _) ?_)
  | (at_builtin; refine wpList_copy_runI _ rfl _ _ 27 27 rfl _ _ rfl rfl (hcpB _ (fun _ => rfl) (fun _ => rfl) _ _ _) ?_))
 go_region_law_o (refine step_copy_runI rfl _ _ 27 27 rfl (.slice (some ⟨w.heap.size, (i + 1) * 5, none⟩) (k - i) (G - (i + 1))) (.slice (some ⟨g, i * 5, none⟩) (k - i) (c - i)) (by simp [Act.eval, Act.put]) (by simp [Act.eval, Act.put]) (hcpB _ hF1 hF2 3 (G - (i + 1)) (c - i)) ?_)
 go_wp2
 go_ret
 exact ⟨rfl, rfl⟩
end Go.Proofs.YthecmnbkjchjmaaGreat


namespace Go.Proofs.YthecmnbkjchjmaaGreat
open Go.RowKit
set_option linter.unusedVariables false
set_option linter.unusedSimpArgs false

def cellB (b : BV) : Nat -> Value
 | 0 => .int .i64 b.ty
 | 1 => .int .i64 b.num
 | 2 => .int .u64 (b.fl : Int)
 | 3 => .int .i64 b.crc
 | _ => str b.data
theorem flatB_at (bs : Nat -> BV) (k j : Nat) (hj : j < k * 5) : (flatB bs k)[j]? = some (cellB (bs (j / 5)) (j % 5)) := by
 obtain ⟨g0, g1, g2, g3, g4⟩ := flatB_get bs k (j / 5) (by omega)
 have h5 : j % 5 = 0 \/ j % 5 = 1 \/ j % 5 = 2 \/ j % 5 = 3 \/ j % 5 = 4 := by omega
 rcases h5 with h | h | h | h | h
 . rw [h, show j = j / 5 * 5 by omega]; simpa [cellB] using g0
 . rw [h, show j = j / 5 * 5 + 1 by omega]; simpa [cellB, show (j / 5 * 5 + 1) / 5 = j / 5 by omega] using g1
 . rw [h, show j = j / 5 * 5 + 2 by omega]; simpa [cellB, show (j / 5 * 5 + 2) / 5 = j / 5 by omega] using g2
 . rw [h, show j = j / 5 * 5 + 3 by omega]; simpa [cellB, show (j / 5 * 5 + 3) / 5 = j / 5 by omega] using g3
 . rw [h, show j = j / 5 * 5 + 4 by omega]; simpa [cellB, show (j / 5 * 5 + 4) / 5 = j / 5 by omega] using g4
theorem flatB_of (bs : Nat -> BV) (k : Nat) {l : List Value} (hl : l.length = k * 5) (h : ∀ j, j < k * 5 -> l[j]? = some (cellB (bs (j / 5)) (j % 5))) : l = flatB bs k := by
 apply List.ext_getElem?
 intro j
 by_cases hj : j < k * 5
 . rw [h j hj, flatB_at bs k j hj]
 . rw [List.getElem?_eq_none (by omega), List.getElem?_eq_none (by rw [flatB_length]; omega)]
abbrev rowB (x : BV) : List Value := [.int .i64 x.ty, .int .i64 x.num, .int .u64 (x.fl : Int), .int .i64 x.crc, str x.data]
theorem rowB_at (x : BV) {j : Nat} (hj : j < 5) : (rowB x)[j]? = some (cellB x j) := by
 match j, hj with
 | 0, _ => rfl
 | 1, _ => rfl
 | 2, _ => rfl
 | 3, _ => rfl
 | 4, _ => rfl
def insB (bs : Nat -> BV) (i : Nat) (x : BV) (j : Nat) : BV := if j < i then bs j else if j = i then x else bs (j - 1)
theorem ins_at {cur : Nat -> Option Value} {bs : Nat -> BV} {i k : Nat} {x : BV} (hi : i < k) (j : Nat) (hj : j < (k + 1) * 5)
  (h0 : j < i * 5 -> cur j = some (cellB (bs (j / 5)) (j % 5))) (h1 : i * 5 <= j -> j < i * 5 + 5 -> cur j = (rowB x)[j - i * 5]?) (h2 : i * 5 + 5 <= j -> cur j = ((flatB bs k).drop (i * 5))[j - (i + 1) * 5]?) :
  cur j = some (cellB (insB bs i x (j / 5)) (j % 5)) := by
 unfold insB
 by_cases c0 : j < i * 5
 . rw [h0 c0, if_pos (by omega)]
 .
  by_cases c1 : j < i * 5 + 5
  . rw [h1 (by omega) c1, rowB_at x (by omega), if_neg (by omega), if_pos (by omega), show j - i * 5 = j % 5 by omega]
  . rw [h2 (by omega), List.getElem?_drop, show i * 5 + (j - (i + 1) * 5) = j - 5 by omega, flatB_at bs k (j - 5) (by omega), if_neg (by omega), if_neg (by omega), show (j - 5) / 5 = j / 5 - 1 by omega, show (j - 5) % 5 = j % 5 by omega]
theorem take_at (a : Array Value) (n : Nat) (hn : n <= a.size) (j : Nat) (hj : j < n) : (a.toList.take n)[j]? = a[j]? := by
 rw [List.getElem?_take, if_pos hj, Array.getElem?_toList]
theorem ins_A {cur : Array Value} {bs : Nat -> BV} {i k : Nat} {x : BV} (hi : i < k) (hs : (k + 1) * 5 <= cur.size) (h0 : ∀ j, j < i * 5 -> cur[j]? = some (cellB (bs (j / 5)) (j % 5))) :
  (writeFrom (writeFrom cur ((i + 1) * 5) ((flatB bs k).drop (i * 5))) (i * 5) (rowB x)).toList.take ((k + 1) * 5) = flatB (insB bs i x) (k + 1) := by
 have hd : ((flatB bs k).drop (i * 5)).length = (k - i) * 5 := by rw [List.length_drop, flatB_length]; omega
 have hr : (rowB x).length = 5 := rfl
 refine flatB_of _ _ (by rw [List.length_take, Array.length_toList, writeFrom_size, writeFrom_size]; omega) fun j hj => ?_
 rw [take_at _ _ (by rw [writeFrom_size, writeFrom_size]; omega) j hj]
 refine ins_at (cur := fun j => (writeFrom (writeFrom cur ((i + 1) * 5) ((flatB bs k).drop (i * 5))) (i * 5) (rowB x))[j]?) hi j hj (fun c => ?_) (fun c d => ?_) (fun c => ?_)
 .
  show (writeFrom _ _ _)[j]? = _
  rw [writeFrom_get _ _ _ _ (by rw [writeFrom_size, hr]; omega), if_neg (by omega), writeFrom_get _ _ _ _ (by rw [hd]; omega), if_neg (by omega), h0 j c]
 .
  show (writeFrom _ _ _)[j]? = _
  rw [writeFrom_get _ _ _ _ (by rw [writeFrom_size, hr]; omega), if_pos (by omega)]
 .
  show (writeFrom _ _ _)[j]? = _
  rw [writeFrom_get _ _ _ _ (by rw [writeFrom_size, hr]; omega), if_neg (by omega), writeFrom_get _ _ _ _ (by rw [hd]; omega), if_pos (by rw [hd]; omega)]
theorem ins_B {cur : Array Value} {bs : Nat -> BV} {i k : Nat} {x : BV} (hi : i < k) (hs : (k + 1) * 5 <= cur.size) (h0 : ∀ j, j < i * 5 -> cur[j]? = some (cellB (bs (j / 5)) (j % 5))) :
  (writeFrom (writeFrom cur (i * 5) (rowB x)) ((i + 1) * 5) ((flatB bs k).drop (i * 5))).toList.take ((k + 1) * 5) = flatB (insB bs i x) (k + 1) := by
 have hd : ((flatB bs k).drop (i * 5)).length = (k - i) * 5 := by rw [List.length_drop, flatB_length]; omega
 have hr : (rowB x).length = 5 := rfl
 refine flatB_of _ _ (by rw [List.length_take, Array.length_toList, writeFrom_size, writeFrom_size]; omega) fun j hj => ?_
 rw [take_at _ _ (by rw [writeFrom_size, writeFrom_size]; omega) j hj]
 refine ins_at (cur := fun j => (writeFrom (writeFrom cur (i * 5) (rowB x)) ((i + 1) * 5) ((flatB bs k).drop (i * 5)))[j]?) hi j hj (fun c => ?_) (fun c d => ?_) (fun c => ?_)
 .
  show (writeFrom _ _ _)[j]? = _
  rw [writeFrom_get _ _ _ _ (by rw [writeFrom_size, hd]; omega), if_neg (by omega), writeFrom_get _ _ _ _ (by rw [hr]; omega), if_neg (by omega), h0 j c]
 .
  show (writeFrom _ _ _)[j]? = _
  rw [writeFrom_get _ _ _ _ (by rw [writeFrom_size, hd]; omega), if_neg (by omega), writeFrom_get _ _ _ _ (by rw [hr]; omega), if_pos (by omega)]
 .
  show (writeFrom _ _ _)[j]? = _
  rw [writeFrom_get _ _ _ _ (by rw [writeFrom_size, hd]; omega), if_pos (by rw [hd]; omega)]
theorem InsB_any (bs : Nat -> BV) (x : BV) (base g k c i vb : Nat) (hi : i < k) (hk : k <= 100000) (w : World) (hown : w.ownsRow base 38 5 (.slice (some ⟨g, 0, none⟩) k c) k (flatB bs k)) (hv : Blk w vb 38 (BV.c x)) (hvb : vb ≠ g) (hbw : base <= w.heap.size) :
  Calls Tryz.prog 81 #[.slice (some ⟨g, 0, none⟩) k c, .int .i64 i, .slice (some ⟨vb, 0, none⟩) 1 1] w (fun e w' => ∃ g' c', e = .returned (.slice (some ⟨g', 0, none⟩) (k + 1) c') /\ Mod [g] w w' /\ w'.ownsRow base 38 5 (.slice (some ⟨g', 0, none⟩) (k + 1) c') (k + 1) (flatB (insB bs i x) (k + 1))) := by
 have hfl := flatB_length bs k
 have hcs0 : ∀ j v, (flatB bs k)[j]? = some v -> w.cell? ⟨g, j, none⟩ = some v := fun j v hj => own_cells hown hj
 have hvs : ∀ j v, (rowB x)[j]? = some v -> w.cell? ⟨vb, j, none⟩ = some v := fun j v hj => by rw [hv.cell j]; simpa using hj
 rcases hown.2 with ⟨h, _⟩ | ⟨q, cap, cur, h, hbg, hg, hnc, hcm, hcz, htk⟩
 . cases h
 .
  simp only [Value.slice.injEq, Option.some.injEq, Addr.mk.injEq, and_true, true_and] at h
  obtain ⟨rfl, rfl⟩ := h
  have hB : Blk w g 38 cur := hg
  have hm63 : c <= 9223372036854775807 := by unfold maxLen at hcm; omega
  have h0 : ∀ j, j < k * 5 -> cur[j]? = some (cellB (bs (j / 5)) (j % 5)) := fun j hj => by
   rw [<- take_at cur (k * 5) (by omega) j hj, htk, flatB_at bs k j hj]
  by_cases hroom : k + 1 <= c
  .
   refine (InsB_shift g k c i vb (flatB bs k) (rowB x) w hi hk hroom hm63 hvb hfl rfl hcs0 (fun j hj => ?_) (fun j hj => hB.frozen j) hvs (flatB_one bs k) (oneB x) 38 38 5 cur.size ?_ ?_ ?_ (hv.frozen 0) (hv.frozen 5)).mono ?_
   . rw [hB.cell j, Array.getElem?_eq_getElem (by omega)]; rfl
   . unfold Blk at hv; simp [World.shape?, hv]
   . simp [World.shape?, hg]
   . omega
   .
    rintro e w' ⟨rfl, rfl⟩
    have hB1 := setRow_blk ((flatB bs k).drop (i * 5)) w.drew ((i + 1) * 5) cur hB.drew
    have hB2 := setRow_blk (rowB x) _ (i * 5) _ hB1
    rw [setRow_eq, setRow_eq] at hB2
    refine ⟨g, c, rfl, ?_, by simp [flatB_length], .inr ⟨g, c, _, rfl, hbg, hB2, by omega, hcm, by rw [writeFrom_size, writeFrom_size]; exact hcz, ins_A hi (by omega) fun j hj => h0 j (by omega)⟩⟩
    exact setCells_mod _ _ (setCells_mod _ _ (Mod.drew (Mod.refl _ _)) (.inl (by simp))) (.inl (by simp))
  .
   refine (InsB_grow g k c i vb (flatB bs k) (rowB x) w hi hk hnc (by omega) hfl rfl hcs0 hvs (flatB_one bs k) (oneB x)).mono ?_
   rintro e w' ⟨rfl, rfl⟩
   have hG := grownCap_ge w (k + 1) c 38
   have hGm := grownCap_le_maxLen w (k + 1) c 38 (by unfold maxLen; omega)
   generalize grownCap w (k + 1) c 38 = G at *
   have hrs : (((flatB bs k).take (i * 5)).toArray ++ Builtin.zeroCells zeroBV.cells (k + 1 - i) ++ Builtin.zeroCells zeroBV.cells (G - (k + 1))).size = G * 5 := by
    rw [Array.size_append, Array.size_append, zeroCells_size, zeroCells_size, List.size_toArray, List.length_take, hfl]; omega
   have hr0 : ∀ j, j < i * 5 -> (((flatB bs k).take (i * 5)).toArray ++ Builtin.zeroCells zeroBV.cells (k + 1 - i) ++ Builtin.zeroCells zeroBV.cells (G - (k + 1)))[j]? = some (cellB (bs (j / 5)) (j % 5)) := fun j hj => by
    have hl1 : ((flatB bs k).take (i * 5)).toArray.size = i * 5 := by rw [List.size_toArray, List.length_take, hfl]; omega
    rw [Array.append_assoc, Array.getElem?_append_left (by omega), List.getElem?_toArray, List.getElem?_take, if_pos hj, flatB_at bs k j (by omega)]
   generalize (((flatB bs k).take (i * 5)).toArray ++ Builtin.zeroCells zeroBV.cells (k + 1 - i) ++ Builtin.zeroCells zeroBV.cells (G - (k + 1))) = ROW at *
   have hB0 := (Blk.new w 38 ROW).drew
   have hB1 := (setRow_blk (rowB x) _ (i * 5) _ hB0)
   rw [setRow_eq] at hB1
   have hB2 := setRow_blk ((flatB bs k).drop (i * 5)) _ ((i + 1) * 5) _ hB1.drew
   rw [setRow_eq] at hB2
   refine ⟨w.heap.size, G, rfl, ?_, by simp [flatB_length], .inr ⟨w.heap.size, G, _, rfl, hbw, hB2, hG, hGm, by rw [writeFrom_size, writeFrom_size]; exact hrs, ins_B hi (by omega) hr0⟩⟩
   exact setCells_mod _ _ (Mod.drew (setCells_mod _ _ (Mod.drew (Mod.alloc (Mod.refl _ _) _)) (.inr (Nat.le_refl _)))) (.inr (Nat.le_refl _))
end Go.Proofs.YthecmnbkjchjmaaGreat


namespace Go.Proofs.YthecmnbkjchjmaaGreat
open Go.RowKit
set_option linter.unusedVariables false
set_option linter.unusedSimpArgs false

end Go.Proofs.YthecmnbkjchjmaaGreat


namespace Go.Proofs.YthecmnbkjchjmaaGreat
open Go.RowKit
set_option linter.unusedVariables false
set_option linter.unusedSimpArgs false

theorem BsL.drop {w : World} {b o k : Nat} {bs : Nat -> BV} (h : BsL w (some ⟨b, o, none⟩) k bs) (i : Nat) : BsL w (some ⟨b, o + i * 5, none⟩) (k - i) (fun j => bs (i + j)) := fun h0 => by
 obtain ⟨b', o', hA, hb, hc⟩ := h (by omega)
 cases hA
 refine ⟨b, o + i * 5, rfl, hb, fun j hj => ?_⟩
 have := hc (i + j) (by omega)
 rw [show o + (i + j) * 5 = o + i * 5 + j * 5 by omega] at this
 exact this
theorem BsL.take {w : World} {A : Option Addr} {k : Nat} {bs : Nat -> BV} (h : BsL w A k bs) {i : Nat} (hi : i <= k) : BsL w A i bs := fun h0 => by
 obtain ⟨b', o', hA, hb, hc⟩ := h (by omega)
 exact ⟨b', o', hA, hb, fun j hj => hc j (by omega)⟩
end Go.Proofs.YthecmnbkjchjmaaGreat


namespace Go.Proofs.YthecmnbkjchjmaaGreat
open Go.RowKit
set_option linter.unusedVariables false
set_option linter.unusedSimpArgs false

theorem own_slA {w : World} {base n : Nat} {v : Value} {xs : List Value} (h : w.ownsRow base 38 5 v n xs) : ∃ A c, v = .slice A n c /\ SlA A n c := by
 rcases h.2 with ⟨rfl, rfl⟩ | ⟨g, cap, cur, rfl, _, _, h1, h2, _⟩
 . exact ⟨none, 0, rfl, fun _ => ⟨rfl, rfl⟩, Nat.le_refl _, Nat.zero_le _⟩
 . exact ⟨some ⟨g, 0, none⟩, cap, rfl, fun h => (by cases h), h1, h2⟩
end Go.Proofs.YthecmnbkjchjmaaGreat
