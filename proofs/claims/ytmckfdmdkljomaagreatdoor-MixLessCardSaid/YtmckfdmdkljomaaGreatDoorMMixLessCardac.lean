/-
 Blocks, plainly: why one is not right; its header.
-/
import Derived.Test.YtmckfdmdkljomaaGreatDoorMMixLessCardaa
import Derived.Laws.RangeAny
import Derived.Lib.Strings
import Init
namespace Go.Proofs.YtmckfdmdkljomaaGreatDoor
open Go.RowKit
set_option linter.unusedVariables false
set_option linter.unusedSimpArgs false
structure BV where
 ty : Int
 num : Int
 fl : Nat
 crc : Int
 data : List UInt8
def BV.right (b : BV) : Int :=
 if b.ty < 1 \/ 65535 < b.ty \/ b.num < 1 \/ 65535 < b.num \/ 255 < b.fl \/ b.crc < 0 \/ 2 < b.crc then 1 else if 4000 < b.data.length then 4
 else if (b.ty = 1 /\ b.num ≠ 1) \/ (b.ty ≠ 1 /\ b.num = 1) then 8 else 0
def BV.hdr (b : BV) : List UInt8 := headL 0 b.ty.toNat ++ headL 0 b.num.toNat ++ headL 0 b.fl
theorem BV.right_zero {b : BV} (h : b.right = 0) : 1 <= b.ty /\ b.ty <= 65535 /\ 1 <= b.num /\ b.num <= 65535 /\ b.fl <= 255 /\ 0 <= b.crc /\ b.crc <= 2 /\ b.data.length <= 4000 /\ (b.ty = 1 ↔ b.num = 1) := by
 unfold BV.right at h
 split at h
 . omega
 .
  split at h
  . omega
  .
   split at h
   . omega
   . omega
structure EV where
 sch : Int
 name : List UInt8
 node : Nat
 svc : Nat
def noneL : List UInt8 := [110, 111, 110, 101]
def lett (c : UInt8) : Bool := decide (97 <= c.toNat /\ c.toNat <= 122) || decide (48 <= c.toNat /\ c.toNat <= 57) || decide (c.toNat = 45) || decide (c.toNat = 46)
def prin (c : UInt8) : Bool := decide (33 <= c.toNat /\ c.toNat <= 126)
def nodeA : List UInt8 -> Nat -> Nat
 | [], _ => 0
 | c :: l, i => if lett c then nodeA l (i + 1) else if c.toNat = 47 /\ 0 < i then i + 3 else 0
def nodeN (s : List UInt8) : Nat := if s.take 2 = [47, 47] /\ s.length <= 60 then nodeA (s.drop 2) 0 else 0
def namedL (s : List UInt8) : Bool := decide (s = noneL) || (decide (nodeN s ≠ 0) && (s.drop (nodeN s)).all prin)
def EV.ok (e : EV) : Bool :=
 if e.sch = 1 then decide (e.node = 0) && decide (e.svc = 0) && namedL e.name else if e.sch = 2 then decide (e.name = []) && decide (e.node <= 4294967295) && decide (e.svc <= 4294967295) else false
def slashA : List UInt8 -> Nat -> Nat
 | [], _ => 0
 | c :: l, i => if c.toNat = 47 then i else slashA l (i + 1)
def slash (s : List UInt8) : Nat := slashA (s.drop 2) 2
def goodA (k : Nat) : List UInt8 -> Nat -> Bool
 | [], _ => true
 | c :: l, i => !((decide (i < k) && !lett c) || (decide (k < i) && !prin c)) && goodA k l (i + 1)
def EV.okR (e : EV) : Bool :=
 if e.sch = 2 then decide (e.name = []) && decide (e.node <= 4294967295) && decide (e.svc <= 4294967295)
 else if e.sch ≠ 1 \/ e.node ≠ 0 \/ e.svc ≠ 0 \/ 60 < e.name.length then false
 else if e.name = noneL then true
 else if slash e.name < 3 \/ e.name.take 2 ≠ [47, 47] then false
 else goodA (slash e.name) (e.name.drop 2) 2
theorem lett_stroke {c : UInt8} (h : c.toNat = 47) : lett c = false := by simp [lett, h]
theorem goodA_far {k : Nat} : ∀ (l : List UInt8) (i : Nat), k < i -> goodA k l i = l.all prin
 | [], _, _ => rfl
 | c :: l, i, h => by
  have h1 : ¬ i < k := by omega
  rw [goodA, goodA_far l (i + 1) (by omega), List.all_cons]
  simp [h1, h]
theorem nodeA_ge : ∀ (l : List UInt8) (j : Nat), nodeA l j = 0 \/ j + 3 <= nodeA l j
 | [], _ => .inl rfl
 | c :: l, j => by
  have ih := nodeA_ge l (j + 1)
  rw [nodeA]
  split
  . omega
  .
   split
   . exact .inr (Nat.le_refl _)
   . exact .inl rfl
theorem slashA_ge : ∀ (l : List UInt8) (j : Nat), slashA l j = 0 \/ j <= slashA l j
 | [], _ => .inl rfl
 | c :: l, j => by
  have ih := slashA_ge l (j + 1)
  rw [slashA]
  split
  . exact .inr (Nat.le_refl _)
  . omega
theorem node_slash : ∀ (l : List UInt8) (i : Nat),
  (decide (nodeA l i ≠ 0) && (l.drop (nodeA l i - 2 - i)).all prin) = (decide (¬ slashA l (i + 2) < 3) && goodA (slashA l (i + 2)) l (i + 2))
 | [], i => by simp [nodeA, slashA]
 | c :: l, i => by
  have ih := node_slash l (i + 1)
  by_cases h47 : c.toNat = 47
  .
   have hl := lett_stroke h47
   rw [nodeA, slashA, if_pos h47, hl]
   by_cases hi : 0 < i
   .
    have e1 : i + 3 - 2 - i = 1 := by omega
    have e2 : ¬ i + 2 < 3 := by omega
    have e3 : ¬ i + 2 < i + 2 := by omega
    simp only [Bool.false_eq_true, if_false, h47, hi, and_self, if_true, e1, e2, goodA, e3]
    rw [goodA_far l (i + 2 + 1) (by omega)]
    simp
   .
    have e2 : i + 2 < 3 := by omega
    simp [hi, e2]
  .
   have hs := slashA_ge l (i + 2 + 1)
   have hn := nodeA_ge l (i + 1)
   rw [slashA, if_neg h47, goodA]
   by_cases hl : lett c = true
   .
    rw [nodeA, if_pos hl]
    have e1 : ((c :: l).drop (nodeA l (i + 1) - 2 - i)) = l.drop (nodeA l (i + 1) - 2 - (i + 1)) \/ nodeA l (i + 1) = 0 := by
     rcases hn with h | h
     . exact .inr h
     .
      left
      rw [show nodeA l (i + 1) - 2 - i = (nodeA l (i + 1) - 2 - (i + 1)) + 1 by omega, List.drop_succ_cons]
    have e2 : (decide (nodeA l (i + 1) ≠ 0) && ((c :: l).drop (nodeA l (i + 1) - 2 - i)).all prin) = (decide (nodeA l (i + 1) ≠ 0) && (l.drop (nodeA l (i + 1) - 2 - (i + 1))).all prin) := by
     rcases e1 with h | h
     . rw [h]
     . simp [h]
    rw [e2, ih]
    rw [show i + 1 + 2 = i + 2 + 1 by omega]
    rcases hs with h | h
    . simp [h]
    .
     have h1 : ¬ slashA l (i + 2 + 1) < i + 2 := by omega
     simp [h1, hl]
   .
    have hl' : lett c = false := by simpa using hl
    have hi : ¬ (c.toNat = 47 /\ 0 < i) := fun h => h47 h.1
    rw [nodeA, hl', if_neg (by simp), if_neg hi]
    rcases hs with h | h
    . simp [h]
    .
     have h1 : i + 2 < slashA l (i + 2 + 1) := by omega
     simp [h1]
theorem EV.ok_eq (e : EV) : e.okR = e.ok := by
 unfold EV.okR EV.ok
 by_cases h2 : e.sch = 2
 . rw [if_pos h2, if_neg (by omega), if_pos h2]
 rw [if_neg h2]
 by_cases h1 : e.sch = 1
 .
  rw [if_pos h1]
  by_cases hn : e.node = 0
  .
   by_cases hs : e.svc = 0
   .
    by_cases h0 : e.name = noneL
    .
     have hl : ¬ (e.sch ≠ 1 \/ e.node ≠ 0 \/ e.svc ≠ 0 \/ 60 < e.name.length) := by
      have : e.name.length = 4 := by rw [h0]; rfl
      omega
     rw [if_neg hl, if_pos h0]
     simp [hn, hs, namedL, h0]
    .
     by_cases hl60 : 60 < e.name.length
     .
      have hN : nodeN e.name = 0 := by unfold nodeN; rw [if_neg (by omega)]
      rw [if_pos (by omega)]
      simp [namedL, h0, hN]
     .
      rw [if_neg (by omega), if_neg h0]
      by_cases ht : e.name.take 2 = [47, 47]
      .
       have hN : nodeN e.name = nodeA (e.name.drop 2) 0 := by unfold nodeN; rw [if_pos ⟨ht, by omega⟩]
       have hk := node_slash (e.name.drop 2) 0
       have hge := nodeA_ge (e.name.drop 2) 0
       simp only [namedL, h0, hN, hn, hs, decide_true, decide_false, Bool.true_and, Bool.false_or]
       have e3 : (decide (nodeA (e.name.drop 2) 0 ≠ 0) && (e.name.drop (nodeA (e.name.drop 2) 0)).all prin) = (decide (nodeA (e.name.drop 2) 0 ≠ 0) && ((e.name.drop 2).drop (nodeA (e.name.drop 2) 0 - 2 - 0)).all prin) := by
        rcases hge with h | h
        . simp [h]
        . rw [List.drop_drop, show 2 + (nodeA (e.name.drop 2) 0 - 2 - 0) = nodeA (e.name.drop 2) 0 by omega]
       rw [e3, hk]
       unfold slash
       by_cases hlt : slashA (e.name.drop 2) 2 < 3
       . simp [hlt]
       . simp [hlt, ht]
      .
       have hN : nodeN e.name = 0 := by unfold nodeN; rw [if_neg (fun h => ht h.1)]
       rw [if_pos (Or.inr ht)]
       simp [namedL, h0, hN]
   . rw [if_pos (by omega)]; simp [hs]
  . rw [if_pos (by omega)]; simp [hn]
 . rw [if_pos (Or.inl h1), if_neg h1, if_neg h2]
abbrev EV.c (e : EV) : Array Value := #[.int .i64 e.sch, str e.name, .int .u64 (e.node : Int), .int .u64 (e.svc : Int)]
abbrev EV.v (e : EV) : Value := .agg e.c
def lettN (n : Nat) : Bool := decide (97 <= n /\ n <= 122) || decide (48 <= n /\ n <= 57) || decide (n = 45) || decide (n = 46)
set_option maxHeartbeats 800000 in
theorem nodeByte_any (n : Nat) (h : n <= 2147483647) (w : World) : Calls Tryz.prog 204 #[.int .i32 (n : Int)] w (fun e w' => e = .returned (.bool (lettN n)) /\ w' = w) := by
 go_enter Tryz.func204, Tryz.ntmps204
 go_wp2
 all_goals go_ret
 all_goals refine ⟨?_, rfl⟩
 all_goals (refine congrArg Ending.returned (congrArg Value.bool ?_))
 all_goals unfold lettN
 all_goals rw [Bool.eq_iff_iff]
 all_goals simp
 all_goals omega
theorem ext0 (s : List UInt8) (a b : Nat) : ((⟨s.toArray⟩ : ByteArray).extract a b) = ⟨((s.drop a).take (b - a)).toArray⟩ := by
 rw [Go.Lib.extract_eq]
set_option maxHeartbeats 800000 in
theorem CutPrefix_yes (s : List UInt8) (hs : Hid (s.length < 4611686018427387904)) (h : Hid (s.take 2 = [47, 47])) (w : World) : Calls Tryz.prog 203 #[str s, .string ⟨#[47, 47]⟩] w (fun e w' => e = .returned (.tuple #[str (s.drop 2), .bool true]) /\ w' = w) := by
 have hl : 2 <= s.length := by
  have := congrArg List.length h.out
  rw [List.length_take] at this
  simp at this
  omega
 have hx : ((⟨s.toArray⟩ : ByteArray).extract 0 2) = ⟨([47, 47] : List UInt8).toArray⟩ := by rw [ext0, List.drop_zero, h.out]
 have hd : ((⟨s.toArray⟩ : ByteArray).extract 2 s.length) = ⟨(s.drop 2).toArray⟩ := by rw [ext0, List.take_of_length_le (by simp)]
 go_enter Tryz.func203, Tryz.ntmps203
 go_wp2
 refine bodyPost_ret (v := .tuple #[str (s.drop 2), .bool true]) (by simp [results, Tryz.results203, go_sem]) rfl ⟨rfl, rfl⟩
set_option maxHeartbeats 800000 in
theorem CutPrefix_no (s : List UInt8) (hs : Hid (s.length < 4611686018427387904)) (h : Hid (s.take 2 ≠ [47, 47])) (w : World) : Calls Tryz.prog 203 #[str s, .string ⟨#[47, 47]⟩] w (fun e w' => e = .returned (.tuple #[str s, .bool false]) /\ w' = w) := by
 by_cases hl : 2 <= s.length
 .
  have hx : ((⟨s.toArray⟩ : ByteArray).extract 0 2) = ⟨(s.take 2).toArray⟩ := by rw [ext0, List.drop_zero]
  have h1 : (s.take 2 == [47, 47]) = false := by simpa using h.out
  have h2 : (s.take 2 = [47, 47]) = False := by simpa using h.out
  generalize s.take 2 = t at *
  go_enter Tryz.func203, Tryz.ntmps203
  go_wp2
  refine bodyPost_ret (v := .tuple #[str s, .bool false]) (by simp [results, Tryz.results203, go_sem]) rfl ⟨rfl, rfl⟩
 .
  have hl2 : decide ((2 : Int) <= (s.length : Int)) = false := by simp; omega
  clear hl
  go_enter Tryz.func203, Tryz.ntmps203
  go_wp2
  refine bodyPost_ret (v := .tuple #[str s, .bool false]) (by simp [results, Tryz.results203, go_sem]) rfl ⟨rfl, rfl⟩
set_option maxHeartbeats 1600000 in
theorem node_any (s : List UInt8) (hs : Hid (s.length < 4611686018427387904)) (w : World) : Calls Tryz.prog 191 #[str s] w (Ret (.int .i64 (nodeN s : Nat)) w) := by
 by_cases ht : s.take 2 = [47, 47]
 .
  have K := hid (fun W => CutPrefix_yes s hs ht W)
  by_cases hl : 60 < s.length
  .
   have hN : nodeN s = 0 := by unfold nodeN; rw [if_neg (by omega)]
   rw [hN]
   have t1 : decide (60 < (s.length : Int)) = true := by simp; omega
   go_enter Tryz.func191, Tryz.ntmps191
   go_wp2_with fail
   refine (K.out _).mono ?_
   rintro e w1 ⟨rfl, rfl⟩
   go_wp2_with fail
   go_ret
   exact Ret.mk rfl (Mod.refl _ _)
  .
   have hN : nodeN s = nodeA (s.drop 2) 0 := by unfold nodeN; rw [if_pos ⟨ht, by omega⟩]
   have t1 : decide (60 < (s.length : Int)) = false := by simp; omega
   have hr : Hid ((s.drop 2).length <= 60) := by unfold Hid; simp; omega
   rw [hN]
   clear hN
   go_enter Tryz.func191, Tryz.ntmps191
   go_wp2_with fail
   refine (K.out _).mono ?_
   rintro e w1 ⟨rfl, hw1⟩
   rw [hw1]
   clear hw1 w1 K ht hl
   generalize s.drop 2 = r at *
   generalize hNN : nodeA r 0 = N at *
   have HN : Hid (nodeA (r.drop 0) 0 = N) := hNN
   clear hNN
   go_wp2_with fail
   go_loopw [5, 6] (fun i c wr => ∃ pos : Nat, pos <= r.length /\ wr = w.iter ⟨r.toArray⟩ pos /\ Hid (nodeA (r.drop pos) pos = N)) (fun _ _ wr => r.length - wr.iterPos w.heap.size)
   case atStart => exact ⟨0, Nat.zero_le _, rfl, HN⟩
   case round =>
    obtain ⟨pos, hp, rfl, HP⟩ := hrel
    have hr60 := hr.out
    have hE : Ext w (w.iter ⟨r.toArray⟩ pos) := (Mod.refl _ _).alloc _
    by_cases hlt : pos < r.length
    .
     have hd : r.drop pos = r[pos] :: r.drop (pos + 1) := List.drop_eq_getElem_cons hlt
     rw [hd, nodeA] at HP
     clear hd
     by_cases h128 : (r[pos]).toNat < 128
     .
      have hnx : ∀ ty, (Instr.next (.pointer (some ⟨w.heap.size, 0, none⟩)) true ty).run Tryz.prog (w.iter ⟨r.toArray⟩ pos) = .ok (.tuple #[.bool true, .int .i64 pos, .int .i32 (r[pos]).toNat]) (w.iter ⟨r.toArray⟩ (pos + 1)) := fun ty => run_next_ascii w ⟨r.toArray⟩ pos ty hlt h128
      have KB := hid (fun W => nodeByte_any (r[pos]).toNat (by omega) W)
      have hL : lettN (r[pos]).toNat = lett r[pos] := rfl
      rw [hL] at KB
      generalize r[pos] = x at *
      go_wp2_with fail
      refine (KB.out _).mono ?_
      rintro e w1 ⟨rfl, hw1⟩
      rw [hw1]
      clear hw1 w1 KB hL
      by_cases hl : lett x = true
      .
       rw [hl]
       have HP2 : Hid (nodeA (r.drop (pos + 1)) (pos + 1) = N) := by have := HP.out; rw [if_pos hl] at this; exact this
       clear HP
       go_wp2_with fail
       go_roundw
       case rel => exact ⟨pos + 1, by omega, rfl, HP2⟩
       case measure => simp; omega
      .
       have hl2 : lett x = false := by simpa using hl
       rw [hl2]
       have HP2 : Hid ((if x.toNat = 47 /\ 0 < pos then pos + 3 else 0) = N) := by have := HP.out; rw [if_neg (by simp [hl2])] at this; exact this
       clear HP
       by_cases h47 : x.toNat = 47
       .
        by_cases h0 : 0 < pos
        .
         have e3 : pos + 3 = N := by have := HP2.out; rw [if_pos ⟨h47, h0⟩] at this; exact this
         rw [h47]
         have t2 : decide (0 < (pos : Int)) = true := by simp; omega
         go_wp2_with fail
         go_ret
         exact ⟨by rw [<- e3]; go_num, (Mod.refl _ _).alloc _⟩
        .
         have e3 : 0 = N := by have := HP2.out; rw [if_neg (fun h => h0 h.2)] at this; exact this
         rw [h47]
         have t2 : decide (0 < (pos : Int)) = false := by simp; omega
         go_wp2_with fail
         go_ret
         exact ⟨by rw [<- e3]; rfl, (Mod.refl _ _).alloc _⟩
       .
        have e3 : 0 = N := by have := HP2.out; rw [if_neg (fun h => h47 h.1)] at this; exact this
        have t3 : ((x.toNat : Int) == 47) = false := by simp; omega
        have t4 : ((x.toNat : Int) = 47) = False := by simp; omega
        go_wp2_with fail
        go_ret
        exact ⟨by rw [<- e3]; rfl, (Mod.refl _ _).alloc _⟩
     .
      have hdc := decode_high ⟨r.toArray⟩ pos hlt (by show 128 <= (r[pos]).toNat; omega)
      have hdl := decode_le ⟨r.toArray⟩ pos
      have hnx : ∀ ty, (Instr.next (.pointer (some ⟨w.heap.size, 0, none⟩)) true ty).run Tryz.prog (w.iter ⟨r.toArray⟩ pos) = _ := fun ty => run_next_any w ⟨r.toArray⟩ pos ty hlt
      have KB := hid (fun W => nodeByte_any (Utf8.decode ⟨r.toArray⟩ pos).1 hdl W)
      have hL : lettN (Utf8.decode ⟨r.toArray⟩ pos).1 = false := by simp [lettN]; omega
      rw [hL] at KB
      have hl2 : lett r[pos] = false := by
       show lettN (r[pos]).toNat = false
       simp [lettN]; omega
      have e3 : Hid (0 = N) := by have := HP.out; rw [if_neg (by simp [hl2]), if_neg (by omega)] at this; exact this
      clear HP hl2 hL
      have t3 : (((Utf8.decode ⟨r.toArray⟩ pos).1 : Int) == 47) = false := by simp; omega
      have t4 : (((Utf8.decode ⟨r.toArray⟩ pos).1 : Int) = 47) = False := by simp; omega
      have hE2 : Ext w (w.iter ⟨r.toArray⟩ (pos + (Utf8.decode ⟨r.toArray⟩ pos).2)) := (Mod.refl _ _).alloc _
      generalize (Utf8.decode ⟨r.toArray⟩ pos).1 = R at *
      generalize pos + (Utf8.decode ⟨r.toArray⟩ pos).2 = pos2 at *
      go_wp2_with fail
      refine (KB.out _).mono ?_
      rintro e w1 ⟨rfl, hw1⟩
      rw [hw1]
      clear hw1 w1 KB
      go_wp2_with fail
      go_ret
      exact ⟨by rw [<- e3.out]; rfl, hE2⟩
    .
     obtain rfl : pos = r.length := by omega
     have e3 : Hid (0 = N) := by have := HP.out; rw [List.drop_length] at this; exact this
     have hnx : ∀ ty, (Instr.next (.pointer (some ⟨w.heap.size, 0, none⟩)) true ty).run Tryz.prog (w.iter ⟨r.toArray⟩ r.length) = _ := fun ty => run_next_end w ⟨r.toArray⟩ r.length ty (by show ¬ r.length < r.length; omega)
     go_wp2_with fail
     go_ret
     exact ⟨by rw [<- e3.out]; rfl, hE⟩
 .
  have K := hid (fun W => CutPrefix_no s hs ht W)
  have hN : nodeN s = 0 := by unfold nodeN; rw [if_neg (fun h => ht h.1)]
  rw [hN]
  go_enter Tryz.func191, Tryz.ntmps191
  go_wp2_with fail
  refine (K.out _).mono ?_
  rintro e w1 ⟨rfl, rfl⟩
  go_wp2_with fail
  go_ret
  exact Ret.mk rfl (Mod.refl _ _)
theorem nodeA_le : ∀ (l : List UInt8) (j : Nat), nodeA l j <= j + l.length + 2
 | [], _ => by simp [nodeA]
 | c :: l, j => by
  have ih := nodeA_le l (j + 1)
  rw [nodeA, List.length_cons]
  split
  . omega
  . split <;> omega
theorem nodeN_le (s : List UInt8) : nodeN s <= s.length := by
 unfold nodeN
 split
 .
  rename_i h
  have := nodeA_le (s.drop 2) 0
  have hl := congrArg List.length h.1
  rw [List.length_take] at hl
  rw [List.length_drop] at this
  simp at hl
  omega
 . omega
theorem cell_row8e (w : World) (l : List UInt8) (cap t : Nat) (fz : Nat × Nat) (j : Nat) (h : j < l.length) :
  (w.alloc (.cells (bytesRow ⟨l.toArray⟩ cap) t fz)).cell? ⟨w.heap.size, j, none⟩ = some (.int .u8 (l[j].toNat : Int)) := by
 rw [World.cell?_alloc_mark]
 simp only [bytesRow]
 rw [Array.getElem?_append_left (by simpa using h)]
 simp [h]
theorem named_none (w : World) : Calls Tryz.prog 174 #[str [110, 111, 110, 101]] w (Ret (.bool true) w) := by
 go_enter Tryz.func174, Tryz.ntmps174
 go_wp2_with fail
 go_ret
 exact Ret.mk rfl (Mod.refl _ _)
set_option maxHeartbeats 800000 in
theorem named_any (s : List UInt8) (hs : Hid (s.length < 4611686018427387904)) (w : World) : Calls Tryz.prog 174 #[str s] w (Ret (.bool (namedL s)) w) := by
 by_cases h0 : s = noneL
 . subst h0; exact named_none w
 have hm : namedL s = (decide (nodeN s ≠ 0) && (s.drop (nodeN s)).all prin) := by simp [namedL, h0]
 rw [hm]
 have n1 : (s == [110, 111, 110, 101]) = false := by simpa [noneL] using h0
 have n2 : (s = [110, 111, 110, 101]) = False := by simpa [noneL] using h0
 have K := hid (fun W => node_any s hs W)
 have hle := nodeN_le s
 clear hm h0
 by_cases hn0 : nodeN s = 0
 .
  rw [hn0] at K
  rw [hn0]
  clear hle hn0
  go_enter Tryz.func174, Tryz.ntmps174
  go_wp2_with fail
  refine (K.out _).mono ?_
  rintro e w1 ⟨rfl, hb1⟩
  go_wp2_with fail
  go_ret
  exact Ret.mk (by simp) hb1
 .
  have hd : ((⟨s.toArray⟩ : ByteArray).extract (nodeN s) s.length) = ⟨(s.drop (nodeN s)).toArray⟩ := by rw [ext0, List.take_of_length_le (by simp)]
  have z1 : ((nodeN s : Int) == 0) = false := by simp; omega
  have z2 : ((nodeN s : Int) = 0) = False := by simp; omega
  have hconv := fun (w : World) (s : ByteArray) => run_bytes_of_string (P := Tryz.prog) w 9 123 5 s vqI vqD vqH
  have hB : (decide (nodeN s ≠ 0) && (s.drop (nodeN s)).all prin) = (s.drop (nodeN s)).all prin := by simp [hn0]
  rw [hB]
  have hlen : (s.drop (nodeN s)).length < 4611686018427387904 := by have := hs.out; rw [List.length_drop]; omega
  clear hB hn0
  generalize nodeN s = n at *
  generalize s.drop n = t at *
  generalize hT : t.all prin = B at *
  have HT : Hid ((t.drop 0).all prin = B) := hT
  clear hT
  go_enter Tryz.func174, Tryz.ntmps174
  go_wp2_with fail
  refine (K.out _).mono ?_
  rintro e w1 ⟨rfl, hb1⟩
  clear K
  have HB1 := hid hb1
  clear hb1
  go_wp2_with fail
  have hext := (HB1.out.alloc (Obj.cells (bytesRow { data := t.toArray } (grownCap w1 t.length 0 5)) 5 ((bytesRow { data := t.toArray } (grownCap w1 t.length 0 5)).size, (bytesRow { data := t.toArray } (grownCap w1 t.length 0 5)).size + 1)))
  have hcell : ∀ j (h : j < t.length), (w1.alloc (Obj.cells (bytesRow { data := t.toArray } (grownCap w1 t.length 0 5)) 5 ((bytesRow { data := t.toArray } (grownCap w1 t.length 0 5)).size, (bytesRow { data := t.toArray } (grownCap w1 t.length 0 5)).size + 1))).cell? ⟨w1.heap.size, j, none⟩ = some (.int .u8 (t[j].toNat : Int)) := fun j h => cell_row8e w1 t _ _ _ j h
  generalize hW : World.alloc w1 _ = W at *
  have HX := hid hext; clear hext hW
  have HC := hid hcell; clear hcell
  go_loop [5, 17] (fun c i => ∃ j : Nat, j <= t.length /\ i = .int .i64 j /\ Hid ((t.drop j).all prin = B)) (fun _ i => t.length - (intOf i).toNat)
  case atStart => exact ⟨0, Nat.zero_le _, rfl, HT⟩
  case round =>
   obtain ⟨j, hj, rfl, HP⟩ := hrel
   by_cases hlt : j < t.length
   .
    have hcc := HC.out j hlt
    have hdr : t.drop j = t[j] :: t.drop (j + 1) := List.drop_eq_getElem_cons hlt
    rw [hdr, List.all_cons] at HP
    clear hdr
    generalize t[j] = x at *
    have hx := x.toNat_lt
    by_cases h1 : x.toNat < 33
    .
     have hp : prin x = false := by simp [prin]; omega
     have HB2 : Hid (false = B) := by have := HP.out; rw [hp] at this; exact this
     have t1 : decide ((x.toNat : Int) < 33) = true := by simp; omega
     clear HP hp h1
     go_wp2_with fail
     go_ret
     exact Ret.mk (by rw [<- HB2.out]; rfl) HX.out.drew
    .
     by_cases h2 : 126 < x.toNat
     .
      have hp : prin x = false := by simp [prin]; omega
      have HB2 : Hid (false = B) := by have := HP.out; rw [hp] at this; exact this
      have t1 : decide ((x.toNat : Int) < 33) = false := by simp; omega
      have t2 : decide (126 < (x.toNat : Int)) = true := by simp; omega
      clear HP hp h1 h2
      go_wp2_with fail
      go_ret
      exact Ret.mk (by rw [<- HB2.out]; rfl) HX.out.drew
     .
      have hp : prin x = true := by simp [prin]; omega
      have HP2 : Hid ((t.drop (j + 1)).all prin = B) := by have := HP.out; rw [hp] at this; exact this
      have t1 : decide ((x.toNat : Int) < 33) = false := by simp; omega
      have t2 : decide (126 < (x.toNat : Int)) = false := by simp; omega
      clear HP hp h1 h2
      go_wp2_with fail
      go_round
      case rel => exact ⟨j + 1, by omega, by go_num, HP2⟩
      case measure => simp [intOf]; omega
   .
    obtain rfl : j = t.length := by omega
    have HB2 : Hid (true = B) := by have := HP.out; rw [List.drop_length] at this; exact this
    clear HP
    go_wp2_with fail
    go_ret
    exact Ret.mk (by rw [<- HB2.out]; rfl) HX.out.drew
set_option maxRecDepth 20000 in
theorem eidRight_any (e : EV) (hs : Hid (e.name.length < 4611686018427387904)) (w : World) : Calls Tryz.prog 153 #[e.v] w (Ret (.bool e.ok) w) := by
 obtain ⟨sch, name, node, svc⟩ := e
 by_cases h1 : sch = 1
 .
  subst h1
  have e1 : EV.ok ⟨1, name, node, svc⟩ = (decide (node = 0) && decide (svc = 0) && namedL name) := rfl
  rw [e1]
  clear e1
  by_cases hn : node = 0
  .
   subst hn
   by_cases hv : svc = 0
   .
    subst hv
    have K := hid (fun W => named_any name hs W)
    generalize namedL name = b at *
    have HE := hid ((Mod.refl [] w).alloc (.cells (EV.c ⟨1, name, 0, 0⟩) 24))
    go_enter Tryz.func153, Tryz.ntmps153
    go_wp2_with fail
    refine (K.out _).mono ?_
    rintro e w1 ⟨rfl, hb1⟩
    go_wp2_with fail
    go_ret
    exact Ret.mk (by simp) (HE.out.trans hb1)
   .
    have z1 : ((svc : Int) == 0) = false := by simp; omega
    have z2 : ((svc : Int) = 0) = False := by simp; omega
    have hb : (decide ((0 : Nat) = 0) && decide (svc = 0) && namedL name) = false := by simp [hv]
    rw [hb]
    clear hb hv
    go_enter Tryz.func153, Tryz.ntmps153
    go_wp2_with fail
    go_ret
    exact Ret.mk rfl ((Mod.refl _ _).alloc _)
  .
   have z1 : ((node : Int) == 0) = false := by simp; omega
   have z2 : ((node : Int) = 0) = False := by simp; omega
   have hb : (decide (node = 0) && decide (svc = 0) && namedL name) = false := by simp [hn]
   rw [hb]
   clear hb hn
   go_enter Tryz.func153, Tryz.ntmps153
   go_wp2_with fail
   go_ret
   exact Ret.mk rfl ((Mod.refl _ _).alloc _)
 .
  by_cases h2 : sch = 2
  .
   subst h2
   have e1 : EV.ok ⟨2, name, node, svc⟩ = (decide (name = []) && decide (node <= 4294967295) && decide (svc <= 4294967295)) := rfl
   rw [e1]
   clear e1 h1
   by_cases hn : name = []
   .
    subst hn
    by_cases ha : node <= 4294967295
    .
     have t1 : decide ((node : Int) <= 4294967295) = true := by simp; omega
     by_cases hb : svc <= 4294967295
     .
      have t2 : decide ((svc : Int) <= 4294967295) = true := by simp; omega
      have hr : (decide (([] : List UInt8) = []) && decide (node <= 4294967295) && decide (svc <= 4294967295)) = true := by simp [ha, hb]
      rw [hr]
      clear hr ha hb
      go_enter Tryz.func153, Tryz.ntmps153
      go_wp2_with fail
      go_ret
      exact Ret.mk rfl ((Mod.refl _ _).alloc _)
     .
      have t2 : decide ((svc : Int) <= 4294967295) = false := by simp; omega
      have hr : (decide (([] : List UInt8) = []) && decide (node <= 4294967295) && decide (svc <= 4294967295)) = false := by simp [hb]
      rw [hr]
      clear hr ha hb
      go_enter Tryz.func153, Tryz.ntmps153
      go_wp2_with fail
      go_ret
      exact Ret.mk rfl ((Mod.refl _ _).alloc _)
    .
     have t1 : decide ((node : Int) <= 4294967295) = false := by simp; omega
     have hr : (decide (([] : List UInt8) = []) && decide (node <= 4294967295) && decide (svc <= 4294967295)) = false := by simp [ha]
     rw [hr]
     clear hr ha
     go_enter Tryz.func153, Tryz.ntmps153
     go_wp2_with fail
     go_ret
     exact Ret.mk rfl ((Mod.refl _ _).alloc _)
   .
    have n1 : (name == []) = false := by simpa using hn
    have n2 : (name = []) = False := by simpa using hn
    have n3 : name.isEmpty = false := by simpa using hn
    have hr : (decide (name = []) && decide (node <= 4294967295) && decide (svc <= 4294967295)) = false := by simp [hn]
    rw [hr]
    clear hr hn
    go_enter Tryz.func153, Tryz.ntmps153
    go_wp2_with fail
    go_ret
    exact Ret.mk rfl ((Mod.refl _ _).alloc _)
  .
   have e1 : EV.ok ⟨sch, name, node, svc⟩ = false := by simp [EV.ok, h1, h2]
   rw [e1]
   have s1 : (sch = 1) = False := by simp [h1]
   have s2 : (sch == 1) = false := by simp [h1]
   have s3 : (sch = 2) = False := by simp [h2]
   have s4 : (sch == 2) = false := by simp [h2]
   clear e1 h1 h2
   go_enter Tryz.func153, Tryz.ntmps153
   go_wp2_with fail
   go_ret
   exact Ret.mk rfl ((Mod.refl _ _).alloc _)
theorem be_step (n k j i : Nat) (h : i ≠ j) : (if i < j then beC n k i else 0) = (if i < j + 1 then beC n k i else 0) := by
 by_cases e : i < j
 . rw [if_pos e, if_pos (by omega)]
 . rw [if_neg e, if_neg (by omega)]
theorem rel_step {wr : World} {b t n k j : Nat} (h : wr.rowIs b t k (fun a => .int .u8 ((if a < j then beC n k a else 0 : Nat) : Int))) :
  (wr.setCell ⟨b, j, none⟩ (.int .u8 ((beC n k j : Nat) : Int))).rowIs b t k (fun a => .int .u8 ((if a < j + 1 then beC n k a else 0 : Nat) : Int)) := by
 refine (h.set j _).congr ?_
 intro i hi
 by_cases e : i = j
 . subst e; simp
 . rw [if_neg e, be_step n k j i e]
theorem infoByte : (Tryz.prog.info? 5).map (fun i => (i.zero, i.size, i.bytes)) = some (some (.int .u8 0), 1, 1) := by kernel_rfl
set_option maxHeartbeats 400000 in
theorem spread_uint8_n (n : Nat) (hn : n < 256) (k : Nat) (hk : k <= 8) (w : World) :
  Calls Tryz.prog 192 #[.int .u8 n, .int .i64 k] w (Ret (str (be n k)) w) := by
 have hmk := run_make_row' (P := Tryz.prog) 123 5 (.int .u8 0) 1 vqD infoByte rfl .i64 .i64 k (by omega) (by omega)
 go_enter Tryz.func192, Tryz.ntmps192
 go_wp2
 go_loopw [11] (fun i wr => ∃ j : Nat, j <= k /\ i = .int .i64 j /\ Ext w wr /\ wr.rowIs w.heap.size 5 k (fun a => .int .u8 ((if a < j then beC n k a else 0 : Nat) : Int))) (fun i _ => k - (intOf i).toNat)
 case atStart => exact ⟨0, Nat.zero_le _, rfl, (Mod.refl _ _).alloc _, (World.rowIs_made w _ k 5).congr (by intros; simp)⟩
 case round =>
  obtain ⟨j, hj, rfl, hb, hrow⟩ := hrel
  by_cases hlt : j < k
  .
   have hcell : wr.cell? ⟨w.heap.size, j, none⟩ = some (.int .u8 0) := by simpa using hrow.cell hlt
   have hfr := hrow.frozen j
   go_wp2
   go_roundw
   case rel => exact ⟨j + 1, by omega, by go_num, hb.setCell (.inr (Nat.le_refl _)) _, by simpa [beC] using rel_step hrow⟩
   case measure => simp [intOf]; omega
  .
   obtain rfl : j = k := by omega
   have hrow2 := hrow.congr (g := fun a => .int .u8 ((beC n j a : Nat) : Int)) (fun i hi => by simp [hi])
   have hconv := run_row_string (P := Tryz.prog) wr 123 9 5 vqD vqH vqI _ _ _ j _ hrow2
   clear hrow hrow2
   go_wp2
   go_ret
   exact ⟨rfl, hb⟩
theorem spread_uint8 (x k : Int) (hx : 0 <= x) (hx1 : x < 256) (hk : 0 <= k) (hk8 : k <= 8) (w : World) :
  Calls Tryz.prog 192 #[.int .u8 x, .int .i64 k] w (Ret (str (be x.toNat k.toNat)) w) := by
 obtain ⟨n, rfl⟩ := Int.eq_ofNat_of_zero_le hx
 obtain ⟨k, rfl⟩ := Int.eq_ofNat_of_zero_le hk
 exact spread_uint8_n n (by omega) k (by omega) w
set_option maxHeartbeats 400000 in
theorem spread_uint16_n (n : Nat) (hn : n < 65536) (k : Nat) (hk : k <= 8) (w : World) :
  Calls Tryz.prog 193 #[.int .u16 n, .int .i64 k] w (Ret (str (be n k)) w) := by
 have hmk := run_make_row' (P := Tryz.prog) 123 5 (.int .u8 0) 1 vqD infoByte rfl .i64 .i64 k (by omega) (by omega)
 go_enter Tryz.func193, Tryz.ntmps193
 go_wp2
 go_loopw [11] (fun i wr => ∃ j : Nat, j <= k /\ i = .int .i64 j /\ Ext w wr /\ wr.rowIs w.heap.size 5 k (fun a => .int .u8 ((if a < j then beC n k a else 0 : Nat) : Int))) (fun i _ => k - (intOf i).toNat)
 case atStart => exact ⟨0, Nat.zero_le _, rfl, (Mod.refl _ _).alloc _, (World.rowIs_made w _ k 5).congr (by intros; simp)⟩
 case round =>
  obtain ⟨j, hj, rfl, hb, hrow⟩ := hrel
  by_cases hlt : j < k
  .
   have hcell : wr.cell? ⟨w.heap.size, j, none⟩ = some (.int .u8 0) := by simpa using hrow.cell hlt
   have hfr := hrow.frozen j
   go_wp2
   go_roundw
   case rel => exact ⟨j + 1, by omega, by go_num, hb.setCell (.inr (Nat.le_refl _)) _, by simpa [beC] using rel_step hrow⟩
   case measure => simp [intOf]; omega
  .
   obtain rfl : j = k := by omega
   have hrow2 := hrow.congr (g := fun a => .int .u8 ((beC n j a : Nat) : Int)) (fun i hi => by simp [hi])
   have hconv := run_row_string (P := Tryz.prog) wr 123 9 5 vqD vqH vqI _ _ _ j _ hrow2
   clear hrow hrow2
   go_wp2
   go_ret
   exact ⟨rfl, hb⟩
theorem spread_uint16 (x k : Int) (hx : 0 <= x) (hx1 : x < 65536) (hk : 0 <= k) (hk8 : k <= 8) (w : World) :
  Calls Tryz.prog 193 #[.int .u16 x, .int .i64 k] w (Ret (str (be x.toNat k.toNat)) w) := by
 obtain ⟨n, rfl⟩ := Int.eq_ofNat_of_zero_le hx
 obtain ⟨k, rfl⟩ := Int.eq_ofNat_of_zero_le hk
 exact spread_uint16_n n (by omega) k (by omega) w
set_option maxHeartbeats 400000 in
theorem spread_uint32_n (n : Nat) (hn : n < 4294967296) (k : Nat) (hk : k <= 8) (w : World) :
  Calls Tryz.prog 194 #[.int .u32 n, .int .i64 k] w (Ret (str (be n k)) w) := by
 have hmk := run_make_row' (P := Tryz.prog) 123 5 (.int .u8 0) 1 vqD infoByte rfl .i64 .i64 k (by omega) (by omega)
 go_enter Tryz.func194, Tryz.ntmps194
 go_wp2
 go_loopw [11] (fun i wr => ∃ j : Nat, j <= k /\ i = .int .i64 j /\ Ext w wr /\ wr.rowIs w.heap.size 5 k (fun a => .int .u8 ((if a < j then beC n k a else 0 : Nat) : Int))) (fun i _ => k - (intOf i).toNat)
 case atStart => exact ⟨0, Nat.zero_le _, rfl, (Mod.refl _ _).alloc _, (World.rowIs_made w _ k 5).congr (by intros; simp)⟩
 case round =>
  obtain ⟨j, hj, rfl, hb, hrow⟩ := hrel
  by_cases hlt : j < k
  .
   have hcell : wr.cell? ⟨w.heap.size, j, none⟩ = some (.int .u8 0) := by simpa using hrow.cell hlt
   have hfr := hrow.frozen j
   go_wp2
   go_roundw
   case rel => exact ⟨j + 1, by omega, by go_num, hb.setCell (.inr (Nat.le_refl _)) _, by simpa [beC] using rel_step hrow⟩
   case measure => simp [intOf]; omega
  .
   obtain rfl : j = k := by omega
   have hrow2 := hrow.congr (g := fun a => .int .u8 ((beC n j a : Nat) : Int)) (fun i hi => by simp [hi])
   have hconv := run_row_string (P := Tryz.prog) wr 123 9 5 vqD vqH vqI _ _ _ j _ hrow2
   clear hrow hrow2
   go_wp2
   go_ret
   exact ⟨rfl, hb⟩
theorem spread_uint32 (x k : Int) (hx : 0 <= x) (hx1 : x < 4294967296) (hk : 0 <= k) (hk8 : k <= 8) (w : World) :
  Calls Tryz.prog 194 #[.int .u32 x, .int .i64 k] w (Ret (str (be x.toNat k.toNat)) w) := by
 obtain ⟨n, rfl⟩ := Int.eq_ofNat_of_zero_le hx
 obtain ⟨k, rfl⟩ := Int.eq_ofNat_of_zero_le hk
 exact spread_uint32_n n (by omega) k (by omega) w
set_option maxHeartbeats 400000 in
theorem spread_uint64_n (n : Nat) (hn : n < 18446744073709551616) (k : Nat) (hk : k <= 8) (w : World) :
  Calls Tryz.prog 195 #[.int .u64 n, .int .i64 k] w (Ret (str (be n k)) w) := by
 have hmk := run_make_row' (P := Tryz.prog) 123 5 (.int .u8 0) 1 vqD infoByte rfl .i64 .i64 k (by omega) (by omega)
 go_enter Tryz.func195, Tryz.ntmps195
 go_wp2
 go_loopw [11] (fun i wr => ∃ j : Nat, j <= k /\ i = .int .i64 j /\ Ext w wr /\ wr.rowIs w.heap.size 5 k (fun a => .int .u8 ((if a < j then beC n k a else 0 : Nat) : Int))) (fun i _ => k - (intOf i).toNat)
 case atStart => exact ⟨0, Nat.zero_le _, rfl, (Mod.refl _ _).alloc _, (World.rowIs_made w _ k 5).congr (by intros; simp)⟩
 case round =>
  obtain ⟨j, hj, rfl, hb, hrow⟩ := hrel
  by_cases hlt : j < k
  .
   have hcell : wr.cell? ⟨w.heap.size, j, none⟩ = some (.int .u8 0) := by simpa using hrow.cell hlt
   have hfr := hrow.frozen j
   go_wp2
   go_roundw
   case rel => exact ⟨j + 1, by omega, by go_num, hb.setCell (.inr (Nat.le_refl _)) _, by simpa [beC] using rel_step hrow⟩
   case measure => simp [intOf]; omega
  .
   obtain rfl : j = k := by omega
   have hrow2 := hrow.congr (g := fun a => .int .u8 ((beC n j a : Nat) : Int)) (fun i hi => by simp [hi])
   have hconv := run_row_string (P := Tryz.prog) wr 123 9 5 vqD vqH vqI _ _ _ j _ hrow2
   clear hrow hrow2
   go_wp2
   go_ret
   exact ⟨rfl, hb⟩
theorem spread_uint64 (x k : Int) (hx : 0 <= x) (hx1 : x < 18446744073709551616) (hk : 0 <= k) (hk8 : k <= 8) (w : World) :
  Calls Tryz.prog 195 #[.int .u64 x, .int .i64 k] w (Ret (str (be x.toNat k.toNat)) w) := by
 obtain ⟨n, rfl⟩ := Int.eq_ofNat_of_zero_le hx
 obtain ⟨k, rfl⟩ := Int.eq_ofNat_of_zero_le hk
 exact spread_uint64_n n (by omega) k (by omega) w
theorem or_small : ∀ m : Fin 8, ∀ k : Fin 32, bits .or .u8 ((m.val : Int) * 32) (k.val : Int) = ((32 * m.val + k.val : Nat) : Int) := by decide +kernel
theorem or_u8 (m : Nat) (k : Int) (hm : m <= 7) (h0 : 0 <= k) (hk : k < 32) : bits .or .u8 ((m : Int) * 32) k = 32 * (m : Int) + k := by
 obtain ⟨k, rfl⟩ := Int.eq_ofNat_of_zero_le h0
 have := or_small ⟨m, by omega⟩ ⟨k, by omega⟩
 simpa using this
theorem convByte : ∀ (a : Addr) (c : Nat) (w : World), (convert 123 9 (.slice (some a) 1 c)).run Tryz.prog w =
   match w.cell? a with
   | some (.int .u8 x) => .ok (str [b8i x]) w
   | _ => (Conv.bytesToString (.slice (some a) 1 c)).run Tryz.prog w :=
 run_byte_string (P := Tryz.prog) 123 9 5 vqD vqH vqI
def mjr (m : Int) : Nat := if 0 <= m /\ m <= 7 then m.toNat else 0
theorem mjr_le (m : Int) : mjr m <= 7 := by unfold mjr; split <;> omega
def mjB (m : Int) : Bool := decide (m < 0) || decide (7 < m)
theorem mj_bool {b c : Bool} (h : b = c) : Value.bool b = .bool c := by rw [h]
theorem mjr_out {m : Int} (h : mjB m = true) : Value.int .i64 0 = .int .i64 ((mjr m : Nat) : Int) := by
 unfold mjr; unfold mjB at h; simp at h; rw [if_neg (by omega)]; rfl
theorem mjr_in {m : Int} (h : mjB m = false) : Value.int .i64 m = .int .i64 ((mjr m : Nat) : Int) := by
 unfold mjr; unfold mjB at h; simp at h; rw [if_pos ⟨h.1, h.2⟩]; congr 1; omega
set_option maxHeartbeats 400000 in
theorem head_24 (x : Int) (n : Nat) (hn : n < 24) (w : World) :
  Calls Tryz.prog 177 #[.int .i64 x, .int .u64 n] w (Ret (str [b8 (32 * mjr x + n)]) w) := by
 go_enter Tryz.func177, Tryz.ntmps177
 go_upto_region 1 with fail
 go_cut [11] (fun s wx => s = .bool (mjB x) /\ wx = w)
 case first =>
  go_wp2
  all_goals (go_meet; exact ⟨mj_bool (by unfold mjB; simp [*]), rfl⟩)
 obtain ⟨rfl, rfl⟩ := hcut
 go_upto_if 11 with fail
 go_cut [0] (fun s0 wx => s0 = .int .i64 ((mjr x : Nat) : Int) /\ wx = wc)
 case first =>
  cases h : mjB x
  .
   go_wp2
   go_meet
   exact ⟨mjr_in h, rfl⟩
  .
   go_wp2
   go_meet
   exact ⟨mjr_out h, rfl⟩
 obtain ⟨rfl, rfl⟩ := hcut
 have hm := mjr_le x
 generalize mjr x = m at *
 have h2 : (decide ((n : Int) < 24)) = true := by simp; omega
 have hor := or_u8 m n hm (by omega) (by omega)
 have hcv := convByte
 have hb8 : ∀ m n : Nat, b8i (32 * (m : Int) + n) = b8 (32 * m + n) := fun m n => by unfold b8i b8; congr 1
 go_wp2
 go_ret
 exact ⟨rfl, (Mod.refl _ _).alloc _⟩
set_option maxHeartbeats 400000 in
theorem head_c24 (x : Int) (n : Nat) (h24 : Hid (24 <= n)) (hn : Hid (n < 256)) (w : World) :
  Calls Tryz.prog 177 #[.int .i64 x, .int .u64 n] w (Ret (str (b8 (32 * mjr x + 24) :: be n 1)) w) := by
 go_enter Tryz.func177, Tryz.ntmps177
 go_upto_region 1 with fail
 go_cut [11] (fun s wx => s = .bool (mjB x) /\ wx = w)
 case first =>
  go_wp2
  all_goals (go_meet; exact ⟨mj_bool (by unfold mjB; simp [*]), rfl⟩)
 obtain ⟨rfl, rfl⟩ := hcut
 go_upto_if 11 with fail
 go_cut [0] (fun s0 wx => s0 = .int .i64 ((mjr x : Nat) : Int) /\ wx = wc)
 case first =>
  cases h : mjB x
  .
   go_wp2
   go_meet
   exact ⟨mjr_in h, rfl⟩
  .
   go_wp2
   go_meet
   exact ⟨mjr_out h, rfl⟩
 obtain ⟨rfl, rfl⟩ := hcut
 have hm := mjr_le x
 generalize mjr x = m at *
 have t0 : (decide ((n : Int) < 24)) = false := by have := h24.out; have := hn.out; simp; omega
 have t1 : (decide ((n : Int) < 256)) = true := by have := h24.out; have := hn.out; simp; omega
 have hor := or_u8 m 24 hm (by omega) (by omega)
 have hcv := convByte
 have hb8 : ∀ m : Nat, b8i (32 * (m : Int) + 24) = b8 (32 * m + 24) := fun m => by unfold b8i b8; congr 1
 have hbl := be_length
 have hw8 : IntKind.u8.wrap (n : Int) = n := by have := hn.out; rw [IntKind.wrap_u8]; omega
 go_wp2
 clear t0 t1
 go_region_with ((go_at_call 192; refine (spread_uint8 _ _ (by have := hn.out; omega) (by have := hn.out; omega) (by omega) (by omega) _).mono ?_; rintro e w' ⟨rfl, hb⟩; obtain ⟨hc, hf⟩ := ext_cells hb))
 all_goals go_wp2
 all_goals go_ret
 all_goals refine ⟨congrArg Ending.returned (str_app [_] _), ?_⟩
 all_goals clear hc hf
 all_goals repeat (first | exact Mod.refl _ _ | apply Mod.drew | apply Mod.alloc | (refine Mod.trans ?_ hb; clear hb))
set_option maxHeartbeats 400000 in
theorem head_c25 (x : Int) (n : Nat) (h24 : Hid (256 <= n)) (hn : Hid (n < 65536)) (w : World) :
  Calls Tryz.prog 177 #[.int .i64 x, .int .u64 n] w (Ret (str (b8 (32 * mjr x + 25) :: be n 2)) w) := by
 go_enter Tryz.func177, Tryz.ntmps177
 go_upto_region 1 with fail
 go_cut [11] (fun s wx => s = .bool (mjB x) /\ wx = w)
 case first =>
  go_wp2
  all_goals (go_meet; exact ⟨mj_bool (by unfold mjB; simp [*]), rfl⟩)
 obtain ⟨rfl, rfl⟩ := hcut
 go_upto_if 11 with fail
 go_cut [0] (fun s0 wx => s0 = .int .i64 ((mjr x : Nat) : Int) /\ wx = wc)
 case first =>
  cases h : mjB x
  .
   go_wp2
   go_meet
   exact ⟨mjr_in h, rfl⟩
  .
   go_wp2
   go_meet
   exact ⟨mjr_out h, rfl⟩
 obtain ⟨rfl, rfl⟩ := hcut
 have hm := mjr_le x
 generalize mjr x = m at *
 have t0 : (decide ((n : Int) < 24)) = false := by have := h24.out; have := hn.out; simp; omega
 have t1 : (decide ((n : Int) < 256)) = false := by have := h24.out; have := hn.out; simp; omega
 have t2 : (decide ((n : Int) < 65536)) = true := by have := h24.out; have := hn.out; simp; omega
 have hor := or_u8 m 25 hm (by omega) (by omega)
 have hcv := convByte
 have hb8 : ∀ m : Nat, b8i (32 * (m : Int) + 25) = b8 (32 * m + 25) := fun m => by unfold b8i b8; congr 1
 have hbl := be_length
 have hw8 : IntKind.u16.wrap (n : Int) = n := by have := hn.out; rw [IntKind.wrap_u16]; omega
 go_wp2
 clear t0 t1 t2
 go_region_with ((go_at_call 193; refine (spread_uint16 _ _ (by have := hn.out; omega) (by have := hn.out; omega) (by omega) (by omega) _).mono ?_; rintro e w' ⟨rfl, hb⟩; obtain ⟨hc, hf⟩ := ext_cells hb))
 all_goals go_wp2
 all_goals go_ret
 all_goals refine ⟨congrArg Ending.returned (str_app [_] _), ?_⟩
 all_goals clear hc hf
 all_goals repeat (first | exact Mod.refl _ _ | apply Mod.drew | apply Mod.alloc | (refine Mod.trans ?_ hb; clear hb))
set_option maxHeartbeats 400000 in
theorem head_c26 (x : Int) (n : Nat) (h24 : Hid (65536 <= n)) (hn : Hid (n < 4294967296)) (w : World) :
  Calls Tryz.prog 177 #[.int .i64 x, .int .u64 n] w (Ret (str (b8 (32 * mjr x + 26) :: be n 4)) w) := by
 go_enter Tryz.func177, Tryz.ntmps177
 go_upto_region 1 with fail
 go_cut [11] (fun s wx => s = .bool (mjB x) /\ wx = w)
 case first =>
  go_wp2
  all_goals (go_meet; exact ⟨mj_bool (by unfold mjB; simp [*]), rfl⟩)
 obtain ⟨rfl, rfl⟩ := hcut
 go_upto_if 11 with fail
 go_cut [0] (fun s0 wx => s0 = .int .i64 ((mjr x : Nat) : Int) /\ wx = wc)
 case first =>
  cases h : mjB x
  .
   go_wp2
   go_meet
   exact ⟨mjr_in h, rfl⟩
  .
   go_wp2
   go_meet
   exact ⟨mjr_out h, rfl⟩
 obtain ⟨rfl, rfl⟩ := hcut
 have hm := mjr_le x
 generalize mjr x = m at *
 have t0 : (decide ((n : Int) < 24)) = false := by have := h24.out; have := hn.out; simp; omega
 have t1 : (decide ((n : Int) < 256)) = false := by have := h24.out; have := hn.out; simp; omega
 have t2 : (decide ((n : Int) < 65536)) = false := by have := h24.out; have := hn.out; simp; omega
 have t3 : (decide ((n : Int) < 4294967296)) = true := by have := h24.out; have := hn.out; simp; omega
 have hor := or_u8 m 26 hm (by omega) (by omega)
 have hcv := convByte
 have hb8 : ∀ m : Nat, b8i (32 * (m : Int) + 26) = b8 (32 * m + 26) := fun m => by unfold b8i b8; congr 1
 have hbl := be_length
 have hw8 : IntKind.u32.wrap (n : Int) = n := by have := hn.out; rw [IntKind.wrap_u32]; omega
 go_wp2
 clear t0 t1 t2 t3
 go_region_with ((go_at_call 194; refine (spread_uint32 _ _ (by have := hn.out; omega) (by have := hn.out; omega) (by omega) (by omega) _).mono ?_; rintro e w' ⟨rfl, hb⟩; obtain ⟨hc, hf⟩ := ext_cells hb))
 all_goals go_wp2
 all_goals go_ret
 all_goals refine ⟨congrArg Ending.returned (str_app [_] _), ?_⟩
 all_goals clear hc hf
 all_goals repeat (first | exact Mod.refl _ _ | apply Mod.drew | apply Mod.alloc | (refine Mod.trans ?_ hb; clear hb))
set_option maxHeartbeats 400000 in
theorem head_c27 (x : Int) (n : Nat) (h24 : Hid (4294967296 <= n)) (hn : Hid (n < 18446744073709551616)) (w : World) :
  Calls Tryz.prog 177 #[.int .i64 x, .int .u64 n] w (Ret (str (b8 (32 * mjr x + 27) :: be n 8)) w) := by
 go_enter Tryz.func177, Tryz.ntmps177
 go_upto_region 1 with fail
 go_cut [11] (fun s wx => s = .bool (mjB x) /\ wx = w)
 case first =>
  go_wp2
  all_goals (go_meet; exact ⟨mj_bool (by unfold mjB; simp [*]), rfl⟩)
 obtain ⟨rfl, rfl⟩ := hcut
 go_upto_if 11 with fail
 go_cut [0] (fun s0 wx => s0 = .int .i64 ((mjr x : Nat) : Int) /\ wx = wc)
 case first =>
  cases h : mjB x
  .
   go_wp2
   go_meet
   exact ⟨mjr_in h, rfl⟩
  .
   go_wp2
   go_meet
   exact ⟨mjr_out h, rfl⟩
 obtain ⟨rfl, rfl⟩ := hcut
 have hm := mjr_le x
 generalize mjr x = m at *
 have t0 : (decide ((n : Int) < 24)) = false := by have := h24.out; have := hn.out; simp; omega
 have t1 : (decide ((n : Int) < 256)) = false := by have := h24.out; have := hn.out; simp; omega
 have t2 : (decide ((n : Int) < 65536)) = false := by have := h24.out; have := hn.out; simp; omega
 have t3 : (decide ((n : Int) < 4294967296)) = false := by have := h24.out; have := hn.out; simp; omega
 have hor := or_u8 m 27 hm (by omega) (by omega)
 have hcv := convByte
 have hb8 : ∀ m : Nat, b8i (32 * (m : Int) + 27) = b8 (32 * m + 27) := fun m => by unfold b8i b8; congr 1
 have hbl := be_length
 go_wp2
 clear t0 t1 t2 t3
 go_region_with ((go_at_call 195; refine (spread_uint64 _ _ (by have := hn.out; omega) (by have := hn.out; omega) (by omega) (by omega) _).mono ?_; rintro e w' ⟨rfl, hb⟩; obtain ⟨hc, hf⟩ := ext_cells hb))
 all_goals go_wp2
 all_goals go_ret
 all_goals refine ⟨congrArg Ending.returned (str_app [_] _), ?_⟩
 all_goals clear hc hf
 all_goals repeat (first | exact Mod.refl _ _ | apply Mod.drew | apply Mod.alloc | (refine Mod.trans ?_ hb; clear hb))
theorem head_any (m n : Int) (hn0 : 0 <= n) (hn1 : n < 18446744073709551616) (w : World) :
  Calls Tryz.prog 177 #[.int .i64 m, .int .u64 n] w (Ret (str (headL (mjr m) n.toNat)) w) := by
 obtain ⟨n, rfl⟩ := Int.eq_ofNat_of_zero_le hn0
 rw [Int.toNat_natCast]
 unfold headL
 by_cases a : n < 24
 . rw [if_pos a]; exact head_24 m n a w
 rw [if_neg a]
 by_cases b : n < 256
 . rw [if_pos b]; exact head_c24 m n (Nat.le_of_not_lt a) b w
 rw [if_neg b]
 by_cases c : n < 65536
 . rw [if_pos c]; exact head_c25 m n (Nat.le_of_not_lt b) c w
 rw [if_neg c]
 by_cases d : n < 4294967296
 . rw [if_pos d]; exact head_c26 m n (Nat.le_of_not_lt c) d w
 rw [if_neg d]; exact head_c27 m n (Nat.le_of_not_lt d) (by unfold Hid; omega) w
theorem head_in (m n : Int) (h0 : 0 <= m) (h7 : m <= 7) (hn0 : 0 <= n) (hn1 : n < 18446744073709551616) (w : World) :
  Calls Tryz.prog 177 #[.int .i64 m, .int .u64 n] w (Ret (str (headL m.toNat n.toNat)) w) := by
 have e : mjr m = m.toNat := by unfold mjr; rw [if_pos ⟨h0, h7⟩]
 rw [<- e]; exact head_any m n hn0 hn1 w
theorem ret_bool {b c : Bool} (h : b = c) : Ending.returned (.bool b) = .returned (.bool c) := by rw [h]
set_option maxHeartbeats 400000 in
theorem opens_any (m : Int) (w : World) : Calls Tryz.prog 120 #[.int .i64 m] w fun e w' => e = .returned (.bool (opensB m)) /\ w = w' := by
 go_enter Tryz.func120, Tryz.ntmps120
 go_wp2
 all_goals go_ret
 all_goals exact ⟨ret_bool (by unfold opensB; rw [Bool.eq_iff_iff]; simp [*]; try omega), rfl⟩
theorem open_bits : ∀ m : Fin 8, bits .or .i64 ((m.val : Int) * 32) 31 = (m.val : Int) * 32 + 31 := by decide +kernel
set_option maxHeartbeats 400000 in
theorem open_yes (m : Nat) (h : opensB m = true) (w : World) : Calls Tryz.prog 99 #[.int .i64 m] w (Ret (str (openL m)) w) := by
 have hm : 2 <= m /\ m <= 7 := by unfold opensB at h; simp at h; omega
 obtain ⟨h2, h7⟩ := hm
 have ho := open_bits ⟨m, by omega⟩
 dsimp only at ho
 have e : openL m = [b8i ((m : Int) * 32 + 31)] := by
  unfold openL b8 b8i; rw [if_pos h]; congr 2; omega
 have hcv := convByte
 rw [e]
 have hw : 0 <= (m : Int) * 32 + 31 := by omega
 go_enter Tryz.func99, Tryz.ntmps99
 go_wp2_with (go_at_call 120; refine (opens_any _ _).mono ?_; rintro e w' ⟨rfl, rfl⟩)
 go_ret
 exact ⟨rfl, (Mod.refl _ _).alloc _⟩
set_option maxHeartbeats 400000 in
theorem open_no (m : Int) (h : opensB m = false) (w : World) : Calls Tryz.prog 99 #[.int .i64 m] w (Ret (str (openL m)) w) := by
 have e : openL m = [] := by unfold openL; simp [h]
 rw [e]
 go_enter Tryz.func99, Tryz.ntmps99
 go_wp2_with (go_at_call 120; refine (opens_any _ _).mono ?_; rintro e w' ⟨rfl, rfl⟩)
 go_ret
 exact ⟨rfl, Mod.refl _ _⟩
theorem open_any (m : Int) (w : World) : Calls Tryz.prog 99 #[.int .i64 m] w (Ret (str (openL m)) w) := by
 cases h : opensB m with
 | false => exact open_no m h w
 | true =>
  have : 0 <= m := by unfold opensB at h; simp at h; omega
  obtain ⟨n, rfl⟩ := Int.eq_ofNat_of_zero_le this
  exact open_yes n h w
def rdr (s : List UInt8) (at_ bad e from_ : Int) : Array Value := #[str s, .int .i64 at_, .int .i64 bad, .int .i64 e, .int .i64 from_]
set_option maxHeartbeats 400000 in
theorem newReader_any (s : List UInt8) (w : World) : Calls Tryz.prog 167 #[str s] w fun e w' =>
  e = .returned (.pointer (some ⟨w.heap.size, 0, none⟩)) /\ w' = w.alloc (.cells (rdr s 0 (-1) 0 0) 202) := by
 go_enter Tryz.func167, Tryz.ntmps167
 go_wp2
 go_ret
 exact ⟨rfl, rfl⟩
theorem digits_str {n j q : Nat} (h : n / 2 ^ (8 * j) = q) : Value.string ((⟨#[b8i ((q : Int) % 256)]⟩ : ByteArray) ++ ⟨(be n j).toArray⟩) = str (be n (j + 1)) := by
 rw [be_succ, h]; exact str_app [_] _
theorem digits_num {n j q : Nat} (hn : n < 18446744073709551616) (h : n / 2 ^ (8 * j) = q) : Value.int .u64 (IntKind.u64.wrap ((q : Int) / 256)) = .int .u64 ((n / 2 ^ (8 * (j + 1)) : Nat) : Int) := by
 have hq : q <= n := by rw [<- h]; exact Nat.div_le_self _ _
 rw [IntWalk.u64_in _ (by omega), Nat.mul_add, Nat.pow_add, <- Nat.div_div_eq_div_mul, h]; rfl
set_option maxHeartbeats 400000 in
theorem digits_n (n : Nat) (hn : Hid (n < 18446744073709551616)) (k : Nat) (hk : k <= 8) (w : World) :
  Calls Tryz.prog 93 #[.int .u64 n, .int .i64 k] w (Ret (str (be n k)) w) := by
 have hcv := convByte
 go_enter Tryz.func93, Tryz.ntmps93
 go_wp2
 go_loopw [0, 5, 6] (fun x s i wr => ∃ j : Nat, j <= k /\ i = .int .i64 j /\ s = str (be n j) /\ x = .int .u64 ((n / 2 ^ (8 * j) : Nat) : Int) /\ Ext w wr) (fun _ _ i _ => k - (intOf i).toNat)
 case atStart => exact ⟨0, Nat.zero_le _, rfl, rfl, by simp, Mod.refl _ _⟩
 case round =>
  obtain ⟨j, hj, rfl, rfl, rfl, hb⟩ := hrel
  have hbl := be_length n j
  generalize hq : n / 2 ^ (8 * j) = q
  have HQ := hid hq; clear hq
  by_cases hlt : j < k
  .
   go_wp2
   go_roundw
   case rel => exact ⟨j + 1, by omega, by go_num, digits_str HQ.out, digits_num hn.out HQ.out, hb.alloc _⟩
   case measure => simp [intOf]; omega
  .
   obtain rfl : j = k := by omega
   go_wp2
   go_ret
   exact ⟨rfl, hb⟩
theorem digits_any (x k : Int) (hx : 0 <= x) (hx1 : x < 18446744073709551616) (hk : 0 <= k) (hk8 : k <= 8) (w : World) :
  Calls Tryz.prog 93 #[.int .u64 x, .int .i64 k] w (Ret (str (be x.toNat k.toNat)) w) := by
 obtain ⟨n, rfl⟩ := Int.eq_ofNat_of_zero_le hx
 obtain ⟨k, rfl⟩ := Int.eq_ofNat_of_zero_le hk
 exact digits_n n (by unfold Hid; omega) k (by omega) w
set_option maxHeartbeats 400000 in
theorem rhead_24 (m : Nat) (hm : m <= 7) (n : Nat) (hn : n < 24) (w : World) :
  Calls Tryz.prog 65 #[.int .i64 m, .int .u64 n] w (Ret (str [b8 (32 * m + n)]) w) := by
 have h2 : (decide ((n : Int) < 24)) = true := by simp; omega
 have hcv := convByte
 have hb8 : ∀ m n : Nat, b8i (32 * (m : Int) + n) = b8 (32 * m + n) := fun m n => by unfold b8i b8; congr 1
 go_enter Tryz.func65, Tryz.ntmps65
 go_wp2
 go_ret
 exact ⟨rfl, (Mod.refl _ _).alloc _⟩
set_option maxHeartbeats 400000 in
theorem rhead_c24 (m : Nat) (hm : m <= 7) (n : Nat) (h24 : Hid (24 <= n)) (hn : Hid (n < 256)) (w : World) :
  Calls Tryz.prog 65 #[.int .i64 m, .int .u64 n] w (Ret (str (b8 (32 * m + 24) :: be n 1)) w) := by
 have t0 : (decide ((n : Int) < 24)) = false := by have := h24.out; have := hn.out; simp; omega
 have t1 : (decide ((n : Int) < 256)) = true := by have := h24.out; have := hn.out; simp; omega
 have hcv := convByte
 have hb8 : ∀ m : Nat, b8i (32 * (m : Int) + 24) = b8 (32 * m + 24) := fun m => by unfold b8i b8; congr 1
 have hbl := be_length
 have hww : IntKind.u8.wrap (32 * (m : Int) + 24) = 32 * (m : Int) + 24 := by rw [IntKind.wrap_u8]; omega
 go_enter Tryz.func65, Tryz.ntmps65
 go_wp2
 clear t0 t1
 go_region_with ((go_at_call 93; refine (digits_any _ _ (by have := hn.out; omega) (by have := hn.out; omega) (by omega) (by omega) _).mono ?_; rintro e w' ⟨rfl, hb⟩; obtain ⟨hc, hf⟩ := ext_cells hb))
 all_goals go_wp2
 all_goals go_ret
 all_goals refine ⟨congrArg Ending.returned (str_app [_] _), ?_⟩
 all_goals clear hc hf
 all_goals repeat (first | exact Mod.refl _ _ | apply Mod.drew | apply Mod.alloc | (refine Mod.trans ?_ hb; clear hb))
set_option maxHeartbeats 400000 in
theorem rhead_c25 (m : Nat) (hm : m <= 7) (n : Nat) (h24 : Hid (256 <= n)) (hn : Hid (n < 65536)) (w : World) :
  Calls Tryz.prog 65 #[.int .i64 m, .int .u64 n] w (Ret (str (b8 (32 * m + 25) :: be n 2)) w) := by
 have t0 : (decide ((n : Int) < 24)) = false := by have := h24.out; have := hn.out; simp; omega
 have t1 : (decide ((n : Int) < 256)) = false := by have := h24.out; have := hn.out; simp; omega
 have t2 : (decide ((n : Int) < 65536)) = true := by have := h24.out; have := hn.out; simp; omega
 have hcv := convByte
 have hb8 : ∀ m : Nat, b8i (32 * (m : Int) + 25) = b8 (32 * m + 25) := fun m => by unfold b8i b8; congr 1
 have hbl := be_length
 have hww : IntKind.u8.wrap (32 * (m : Int) + 25) = 32 * (m : Int) + 25 := by rw [IntKind.wrap_u8]; omega
 go_enter Tryz.func65, Tryz.ntmps65
 go_wp2
 clear t0 t1 t2
 go_region_with ((go_at_call 93; refine (digits_any _ _ (by have := hn.out; omega) (by have := hn.out; omega) (by omega) (by omega) _).mono ?_; rintro e w' ⟨rfl, hb⟩; obtain ⟨hc, hf⟩ := ext_cells hb))
 all_goals go_wp2
 all_goals go_ret
 all_goals refine ⟨congrArg Ending.returned (str_app [_] _), ?_⟩
 all_goals clear hc hf
 all_goals repeat (first | exact Mod.refl _ _ | apply Mod.drew | apply Mod.alloc | (refine Mod.trans ?_ hb; clear hb))
set_option maxHeartbeats 400000 in
theorem rhead_c26 (m : Nat) (hm : m <= 7) (n : Nat) (h24 : Hid (65536 <= n)) (hn : Hid (n < 4294967296)) (w : World) :
  Calls Tryz.prog 65 #[.int .i64 m, .int .u64 n] w (Ret (str (b8 (32 * m + 26) :: be n 4)) w) := by
 have t0 : (decide ((n : Int) < 24)) = false := by have := h24.out; have := hn.out; simp; omega
 have t1 : (decide ((n : Int) < 256)) = false := by have := h24.out; have := hn.out; simp; omega
 have t2 : (decide ((n : Int) < 65536)) = false := by have := h24.out; have := hn.out; simp; omega
 have t3 : (decide ((n : Int) < 4294967296)) = true := by have := h24.out; have := hn.out; simp; omega
 have hcv := convByte
 have hb8 : ∀ m : Nat, b8i (32 * (m : Int) + 26) = b8 (32 * m + 26) := fun m => by unfold b8i b8; congr 1
 have hbl := be_length
 have hww : IntKind.u8.wrap (32 * (m : Int) + 26) = 32 * (m : Int) + 26 := by rw [IntKind.wrap_u8]; omega
 go_enter Tryz.func65, Tryz.ntmps65
 go_wp2
 clear t0 t1 t2 t3
 go_region_with ((go_at_call 93; refine (digits_any _ _ (by have := hn.out; omega) (by have := hn.out; omega) (by omega) (by omega) _).mono ?_; rintro e w' ⟨rfl, hb⟩; obtain ⟨hc, hf⟩ := ext_cells hb))
 all_goals go_wp2
 all_goals go_ret
 all_goals refine ⟨congrArg Ending.returned (str_app [_] _), ?_⟩
 all_goals clear hc hf
 all_goals repeat (first | exact Mod.refl _ _ | apply Mod.drew | apply Mod.alloc | (refine Mod.trans ?_ hb; clear hb))
set_option maxHeartbeats 400000 in
theorem rhead_c27 (m : Nat) (hm : m <= 7) (n : Nat) (h24 : Hid (4294967296 <= n)) (hn : Hid (n < 18446744073709551616)) (w : World) :
  Calls Tryz.prog 65 #[.int .i64 m, .int .u64 n] w (Ret (str (b8 (32 * m + 27) :: be n 8)) w) := by
 have t0 : (decide ((n : Int) < 24)) = false := by have := h24.out; have := hn.out; simp; omega
 have t1 : (decide ((n : Int) < 256)) = false := by have := h24.out; have := hn.out; simp; omega
 have t2 : (decide ((n : Int) < 65536)) = false := by have := h24.out; have := hn.out; simp; omega
 have t3 : (decide ((n : Int) < 4294967296)) = false := by have := h24.out; have := hn.out; simp; omega
 have hcv := convByte
 have hb8 : ∀ m : Nat, b8i (32 * (m : Int) + 27) = b8 (32 * m + 27) := fun m => by unfold b8i b8; congr 1
 have hbl := be_length
 have hww : IntKind.u8.wrap (32 * (m : Int) + 27) = 32 * (m : Int) + 27 := by rw [IntKind.wrap_u8]; omega
 go_enter Tryz.func65, Tryz.ntmps65
 go_wp2
 clear t0 t1 t2 t3
 go_region_with ((go_at_call 93; refine (digits_any _ _ (by have := hn.out; omega) (by have := hn.out; omega) (by omega) (by omega) _).mono ?_; rintro e w' ⟨rfl, hb⟩; obtain ⟨hc, hf⟩ := ext_cells hb))
 all_goals go_wp2
 all_goals go_ret
 all_goals refine ⟨congrArg Ending.returned (str_app [_] _), ?_⟩
 all_goals clear hc hf
 all_goals repeat (first | exact Mod.refl _ _ | apply Mod.drew | apply Mod.alloc | (refine Mod.trans ?_ hb; clear hb))
theorem rhead_in (m n : Int) (h0 : 0 <= m) (h7 : m <= 7) (hn0 : 0 <= n) (hn1 : n < 18446744073709551616) (w : World) :
  Calls Tryz.prog 65 #[.int .i64 m, .int .u64 n] w (Ret (str (headL m.toNat n.toNat)) w) := by
 obtain ⟨m, rfl⟩ := Int.eq_ofNat_of_zero_le h0
 obtain ⟨n, rfl⟩ := Int.eq_ofNat_of_zero_le hn0
 rw [Int.toNat_natCast, Int.toNat_natCast]
 unfold headL
 by_cases a : n < 24
 . rw [if_pos a]; exact rhead_24 m (by omega) n a w
 rw [if_neg a]
 by_cases b : n < 256
 . rw [if_pos b]; exact rhead_c24 m (by omega) n (Nat.le_of_not_lt a) b w
 rw [if_neg b]
 by_cases c : n < 65536
 . rw [if_pos c]; exact rhead_c25 m (by omega) n (Nat.le_of_not_lt b) c w
 rw [if_neg c]
 by_cases d : n < 4294967296
 . rw [if_pos d]; exact rhead_c26 m (by omega) n (Nat.le_of_not_lt c) d w
 rw [if_neg d]; exact rhead_c27 m (by omega) n (Nat.le_of_not_lt d) (by unfold Hid; omega) w
set_option maxRecDepth 20000 in
set_option maxHeartbeats 400000 in
theorem wBytes_any (l : List UInt8) (hl : Hid (l.length < 4611686018427387904)) (w : World) : Calls Tryz.prog 178 #[str l] w (Ret (str (headL 2 l.length ++ l)) w) := by
 have hw : IntKind.u64.wrap (l.length : Int) = (l.length : Int) := IntWalk.u64_in _ (by have := hl.out; omega)
 have hno : (9223372036854775807 < (headL 2 l.length).length + l.length) = False := by have h1 := hl.out; have h2 := headL_le 2 l.length; simp; omega
 go_enter Tryz.func178, Tryz.ntmps178
 go_wp2_with (go_at_call 177; refine (head_in _ _ (by omega) (by omega) (by omega) (by have := hl.out; omega) _).mono ?_; rintro x w1 ⟨rfl, hb⟩; simp only [Int.toNat_natCast, show Int.toNat 2 = 2 from rfl])
 go_ret
 exact Ret.mk (str_app _ _) hb
set_option maxRecDepth 20000 in
set_option maxHeartbeats 400000 in
theorem wText_any (l : List UInt8) (hl : Hid (l.length < 4611686018427387904)) (w : World) : Calls Tryz.prog 179 #[str l] w (Ret (str (headL 3 l.length ++ l)) w) := by
 have hw : IntKind.u64.wrap (l.length : Int) = (l.length : Int) := IntWalk.u64_in _ (by have := hl.out; omega)
 have hno : (9223372036854775807 < (headL 3 l.length).length + l.length) = False := by have h1 := hl.out; have h2 := headL_le 3 l.length; simp; omega
 go_enter Tryz.func179, Tryz.ntmps179
 go_wp2_with (go_at_call 177; refine (head_in _ _ (by omega) (by omega) (by omega) (by have := hl.out; omega) _).mono ?_; rintro x w1 ⟨rfl, hb⟩; simp only [Int.toNat_natCast, show Int.toNat 3 = 3 from rfl])
 go_ret
 exact Ret.mk (str_app _ _) hb
namespace Crc
def rv : Nat -> Nat -> Nat
 | 0, _ => 0
 | n + 1, x => 2 ^ n * (x % 2) + rv n (x / 2)
theorem rv_lt : ∀ (n x : Nat), rv n x < 2 ^ n
 | 0, _ => by simp [rv]
 | n + 1, x => by
  have h := rv_lt n (x / 2)
  have h2 : x % 2 < 2 := Nat.mod_lt _ (by omega)
  have : x % 2 = 0 \/ x % 2 = 1 := by omega
  unfold rv
  rcases this with e | e <;> rw [e, Nat.pow_succ] <;> omega
theorem rv_bit : ∀ (n x i : Nat), (rv n x).testBit i = (decide (i < n) && x.testBit (n - 1 - i))
 | 0, x, i => by simp [rv]
 | n + 1, x, i => by
  have h := rv_bit n (x / 2) i
  have hl := rv_lt n (x / 2)
  unfold rv
  rw [Nat.testBit_two_pow_mul_add _ hl]
  by_cases hi : i < n
  .
   rw [if_pos hi, h]
   have e : n + 1 - 1 - i = (n - 1 - i) + 1 := by omega
   rw [e, Nat.testBit_succ]
   simp [hi, Nat.lt_succ_of_lt hi]
  .
   rw [if_neg hi]
   by_cases hin : i = n
   .
    subst hin
    simp [Nat.testBit_zero]
   .
    have h1 : ¬ i < n + 1 := by omega
    have h3 : i - n = (i - n - 1) + 1 := by omega
    have h4 : x % 2 / 2 = 0 := by omega
    simp only [h1, decide_false, Bool.false_and]
    rw [h3, Nat.testBit_succ, h4, Nat.zero_testBit]
theorem rv_xor (n x y : Nat) : rv n (x ^^^ y) = rv n x ^^^ rv n y := by
 apply Nat.eq_of_testBit_eq
 intro i
 rw [Nat.testBit_xor, rv_bit, rv_bit, rv_bit, Nat.testBit_xor]
 cases decide (i < n) <;> simp
theorem rv_rv (n x : Nat) (h : x < 2 ^ n) : rv n (rv n x) = x := by
 apply Nat.eq_of_testBit_eq
 intro i
 rw [rv_bit, rv_bit]
 by_cases hi : i < n
 .
  have e : n - 1 - (n - 1 - i) = i := by omega
  have e2 : n - 1 - i < n := by omega
  simp [hi, e, e2]
 .
  have : x < 2 ^ i := Nat.lt_of_lt_of_le h (Nat.pow_le_pow_right (by omega) (by omega))
  simp [hi, Nat.testBit_lt_two_pow this]
theorem rv_high (m x : Nat) : rv (m + 1) x / 2 ^ m = x % 2 := by
 unfold rv
 rw [Nat.mul_add_div (Nat.two_pow_pos m), Nat.div_eq_of_lt (rv_lt m _)]
 omega
theorem rv_half (m x : Nat) (h : x < 2 ^ (m + 1)) : rv (m + 1) (x / 2) = rv (m + 1) x * 2 % 2 ^ (m + 1) := by
 apply Nat.eq_of_testBit_eq
 intro i
 rw [rv_bit, Nat.testBit_mod_two_pow, <- Nat.testBit_succ]
 cases i with
 | zero =>
  have e : (m + 1 - 1 - 0).succ = m + 1 := by omega
  rw [e, Nat.testBit_lt_two_pow h]
  simp [Nat.testBit_zero]
 | succ i =>
  have t : (rv (m + 1) x * 2).testBit (i + 1) = (rv (m + 1) x).testBit i := by rw [Nat.testBit_succ, Nat.mul_div_cancel _ (by omega : 0 < 2)]
  rw [t, rv_bit]
  by_cases hi : i + 1 < m + 1
  .
   have e : (m + 1 - 1 - (i + 1)).succ = m + 1 - 1 - i := by omega
   have h2 : i < m + 1 := by omega
   simp only [hi, h2, e, decide_true, Bool.true_and]
  . simp [hi]
def stepC (p s : Nat) : Nat := if s % 2 = 1 then s / 2 ^^^ p else s / 2
def stepsC (p : Nat) : Nat -> Nat -> Nat
 | 0, s => s
 | k + 1, s => stepsC p k (stepC p s)
def divC (p : Nat) (s : Nat) (l : List UInt8) : Nat := l.foldl (fun s c => stepsC p 8 (s ^^^ c.toNat)) s
def stepB (p s b : Nat) : Nat := if s % 2 = b then s / 2 else s / 2 ^^^ p
def stepsB (p : Nat) : Nat -> Nat -> Nat -> Nat
 | 0, s, _ => s
 | k + 1, s, c => stepsB p k (stepB p s (c % 2)) (c / 2)
def stepR (top d r b : Nat) : Nat := if r / (top / 2) = b then r * 2 % top else (r * 2 % top) ^^^ d
def stepsR (top d : Nat) : Nat -> Nat -> Nat -> Nat
 | 0, r, _ => r
 | k + 1, r, c => stepsR top d k (stepR top d r (c % 2)) (c / 2)
def divR (top d : Nat) (r : Nat) (l : List UInt8) : Nat := l.foldl (fun r c => stepsR top d 8 r c.toNat) r
theorem xor_mod (a b : Nat) : (a ^^^ b) % 2 = if a % 2 = b % 2 then 0 else 1 := by
 have h := Nat.testBit_xor a b 0
 simp only [Nat.testBit_zero] at h
 rcases Nat.mod_two_eq_zero_or_one a with ha | ha <;> rcases Nat.mod_two_eq_zero_or_one b with hb | hb <;> rcases Nat.mod_two_eq_zero_or_one (a ^^^ b) with hab | hab <;> simp [ha, hb, hab] at h ⊢
theorem xor_half (a b : Nat) : (a ^^^ b) / 2 = a / 2 ^^^ b / 2 := by
 apply Nat.eq_of_testBit_eq
 intro i
 rw [<- Nat.testBit_succ, Nat.testBit_xor, Nat.testBit_xor, <- Nat.testBit_succ, <- Nat.testBit_succ]
theorem stepC_xor (p s c : Nat) : stepC p (s ^^^ c) = stepB p s (c % 2) ^^^ (c / 2) := by
 unfold stepC stepB
 rw [xor_mod, xor_half]
 by_cases h : s % 2 = c % 2
 . simp [h]
 .
  simp only [h, if_false, if_true]
  rw [Nat.xor_assoc, Nat.xor_comm (c / 2), <- Nat.xor_assoc]
theorem stepsC_xor (p : Nat) : ∀ (k s c : Nat), stepsC p k (s ^^^ c) = stepsB p k s c ^^^ (c / 2 ^ k)
 | 0, s, c => by simp [stepsC, stepsB]
 | k + 1, s, c => by
  show stepsC p k (stepC p (s ^^^ c)) = stepsB p k (stepB p s (c % 2)) (c / 2) ^^^ (c / 2 ^ (k + 1))
  rw [stepC_xor, stepsC_xor p k, Nat.div_div_eq_div_mul, Nat.pow_succ, Nat.mul_comm]
theorem stepB_lt {m p s b : Nat} (hp : p < 2 ^ (m + 1)) (hs : s < 2 ^ (m + 1)) : stepB p s b < 2 ^ (m + 1) := by
 unfold stepB
 split
 . omega
 . exact Nat.xor_lt_two_pow (by omega) hp
theorem stepsB_lt {m p : Nat} (hp : p < 2 ^ (m + 1)) : ∀ (k s c : Nat), s < 2 ^ (m + 1) -> stepsB p k s c < 2 ^ (m + 1)
 | 0, s, c, h => h
 | k + 1, s, c, h => stepsB_lt hp k _ _ (stepB_lt hp h)
theorem stepR_rv {m p s b : Nat} (hs : s < 2 ^ (m + 1)) : stepR (2 ^ (m + 1)) (rv (m + 1) p) (rv (m + 1) s) b = rv (m + 1) (stepB p s b) := by
 have e : 2 ^ (m + 1) / 2 = 2 ^ m := by rw [Nat.pow_succ]; omega
 unfold stepR stepB
 rw [e, rv_high]
 split
 . rw [rv_half m s hs]
 . rw [rv_xor, rv_half m s hs]
theorem stepsR_rv {m p : Nat} (hp : p < 2 ^ (m + 1)) : ∀ (k s c : Nat), s < 2 ^ (m + 1) -> stepsR (2 ^ (m + 1)) (rv (m + 1) p) k (rv (m + 1) s) c = rv (m + 1) (stepsB p k s c)
 | 0, s, c, h => rfl
 | k + 1, s, c, h => by
  show stepsR _ _ k (stepR _ _ _ _) _ = rv _ (stepsB p k (stepB p s _) _)
  rw [stepR_rv h]
  exact stepsR_rv hp k _ _ (stepB_lt hp h)
theorem byte_rv {m p s : Nat} (hp : p < 2 ^ (m + 1)) (hs : s < 2 ^ (m + 1)) (c : UInt8) :
  stepsR (2 ^ (m + 1)) (rv (m + 1) p) 8 (rv (m + 1) s) c.toNat = rv (m + 1) (stepsC p 8 (s ^^^ c.toNat)) /\ stepsC p 8 (s ^^^ c.toNat) < 2 ^ (m + 1) := by
 have h0 : c.toNat / 2 ^ 8 = 0 := Nat.div_eq_of_lt c.toNat_lt
 have h := stepsC_xor p 8 s c.toNat
 rw [h0, Nat.xor_zero] at h
 rw [h]
 exact ⟨stepsR_rv hp 8 s _ hs, stepsB_lt hp 8 s _ hs⟩
theorem div_rv {m p : Nat} (hp : p < 2 ^ (m + 1)) : ∀ (l : List UInt8) (s : Nat), s < 2 ^ (m + 1) -> divR (2 ^ (m + 1)) (rv (m + 1) p) (rv (m + 1) s) l = rv (m + 1) (divC p s l) /\ divC p s l < 2 ^ (m + 1)
 | [], s, h => ⟨rfl, h⟩
 | c :: l, s, h => by
  have hb := byte_rv hp h c
  have ih := div_rv hp l _ hb.2
  unfold divR divC at ih ⊢
  simp only [List.foldl_cons]
  rw [hb.1]
  exact ih
theorem not_xor {n x : Nat} (h : x < 2 ^ n) : 2 ^ n - 1 - x = (2 ^ n - 1) ^^^ x := by
 apply Nat.eq_of_testBit_eq
 intro i
 have e : 2 ^ n - 1 - x = 2 ^ n - (x + 1) := by omega
 rw [e, Nat.testBit_two_pow_sub_succ h, Nat.testBit_xor, Nat.testBit_two_pow_sub_one]
 by_cases hi : i < n
 . simp [hi]
 .
  have : x < 2 ^ i := Nat.lt_of_lt_of_le h (Nat.pow_le_pow_right (by omega) (by omega))
  simp [hi, Nat.testBit_lt_two_pow this]
theorem rv_ones (n : Nat) : rv n (2 ^ n - 1) = 2 ^ n - 1 := by
 apply Nat.eq_of_testBit_eq
 intro i
 rw [rv_bit, Nat.testBit_two_pow_sub_one, Nat.testBit_two_pow_sub_one]
 by_cases hi : i < n
 .
  have : n - 1 - i < n := by omega
  simp [hi, this]
 . simp [hi]
theorem sums {m p : Nat} (hp : p < 2 ^ (m + 1)) (l : List UInt8) :
  rv (m + 1) (2 ^ (m + 1) - 1 - divR (2 ^ (m + 1)) (rv (m + 1) p) (2 ^ (m + 1) - 1) l) = 2 ^ (m + 1) - 1 - divC p (2 ^ (m + 1) - 1) l := by
 have h0 : 2 ^ (m + 1) - 1 < 2 ^ (m + 1) := by have := Nat.two_pow_pos (m + 1); omega
 have h := div_rv hp l (2 ^ (m + 1) - 1) h0
 rw [rv_ones] at h
 rw [h.1, not_xor (rv_lt _ _), rv_xor, rv_ones, rv_rv _ _ h.2, <- not_xor h.2]
end Crc
section
section
variable {P : Program} {ops : Array Oper} {rest : List Oper} {o : Oper} {a : Act} {w : World}
theorem wpList_cat {Q : Exit -> Act -> World -> Prop} (hw : Region.wanted o (yielded ops a.tmps) = true) (ty t2 : TypeId) (x y : Operand) (ho : o.op = .binOp .add ty x y t2) (l1 l2 : List UInt8) (hx : a.eval x = str l1) (hy : a.eval y = str l2)
  (hl : l1.length + l2.length <= 9223372036854775807) (h : wpList P ops Q rest (a.put o.dst (str (l1 ++ l2))) w) : wpList P ops Q (o :: rest) a w :=
 wpList_step fun K hK => by
  rw [if_pos hw]
  have hl' : ¬ 9223372036854775807 < l1.length + l2.length := by omega
  have hk := hK _ _ h
  unfold Oper.wp execOp
  simp only [ho, hx, hy]
  simp [go_sem, hl']
  rw [ByteArray.mk_append_mk]
  exact hk
end
end
structure RS where
 s : List UInt8
 at_ : Nat
 bad : Int
 e : Int
 fr : Nat
namespace RS
def ok (r : RS) : Prop := r.at_ <= r.s.length /\ r.fr <= r.s.length /\ r.s.length < 4611686018427387904
def fail (r : RS) (e : Int) : RS := if r.e = 0 then { r with at_ := r.fr, bad := r.fr, e := e } else r
def Fail (r : RS) (e : Int) : RS := if r.e = 0 then { r with bad := r.at_, e := e } else r
def head (r : RS) : RS × Nat × Nat × Bool :=
 if r.e = 0 then
  match readH (r.s.drop r.at_) with
  | none => (r.fail 2, 0, 0, false)
  | some (sz, m, n, o) => ({ r with at_ := r.at_ + sz }, m, n, o)
 else (r, 0, 0, false)
def Head (r : RS) : RS × Nat × Nat × Bool := head { r with fr := r.at_ }
def Uint (r : RS) : RS × Nat := if r.Head.1.e = 0 /\ r.Head.2.1 ≠ 0 then (r.Head.1.fail 2, 0) else (r.Head.1, r.Head.2.2.1)
def str (r : RS) (want : Nat) (most : Int) : RS × List UInt8 :=
 if r.Head.1.e = 0 then
  if r.Head.2.1 ≠ want \/ r.Head.2.2.2 = true \/ r.Head.1.s.length - r.Head.1.at_ < r.Head.2.2.1 then (r.Head.1.fail 2, [])
  else if most < 0 \/ most < r.Head.2.2.1 then (r.Head.1.fail 4, [])
  else ({ r.Head.1 with at_ := r.Head.1.at_ + r.Head.2.2.1 }, (r.Head.1.s.drop r.Head.1.at_).take r.Head.2.2.1)
 else (r.Head.1, [])
def Array (r : RS) : RS × Int :=
 if r.Head.1.e = 0 then
  if r.Head.2.1 ≠ 4 then (r.Head.1.fail 2, 0)
  else if r.Head.2.2.2 = true then (r.Head.1, -1)
  else if 1000 < r.Head.2.2.1 then (r.Head.1.fail 4, 0)
  else (r.Head.1, r.Head.2.2.1)
 else (r.Head.1, 0)
def new (s : List UInt8) : RS := ⟨s, 0, -1, 0, 0⟩
theorem fail_ok {r : RS} (h : r.ok) (e : Int) : (r.fail e).ok := by
 unfold fail
 split
 . exact ⟨h.2.1, h.2.1, h.2.2⟩
 . exact h
theorem head_ok {r : RS} (h : r.ok) : r.head.1.ok := by
 unfold head
 split
 .
  cases hr : readH (r.s.drop r.at_) with
  | none => exact fail_ok h _
  | some x =>
   obtain ⟨sz, m, n, o⟩ := x
   have := (readH_some hr).le
   rw [List.length_drop] at this
   obtain ⟨a, b, c⟩ := h
   exact ⟨by show r.at_ + sz <= r.s.length; omega, b, c⟩
 . exact h
theorem Head_ok {r : RS} (h : r.ok) : r.Head.1.ok := head_ok ⟨h.1, h.1, h.2.2⟩
theorem str_ok {r : RS} (h : r.ok) (want : Nat) (most : Int) : (r.str want most).1.ok := by
 have h1 := Head_ok h
 unfold str; split
 .
  split
  . exact fail_ok h1 _
  .
   split
   . exact fail_ok h1 _
   .
    rename_i h2 h3
    obtain ⟨a, b, c⟩ := h1
    refine ⟨?_, b, c⟩
    show r.Head.1.at_ + r.Head.2.2.1 <= r.Head.1.s.length
    simp only [not_or, Nat.not_lt] at h2
    omega
 . exact h1
theorem new_ok {s : List UInt8} (h : s.length < 4611686018427387904) : (new s).ok := ⟨Nat.zero_le _, Nat.zero_le _, h⟩
abbrev Told : Type := Nat × Nat × Bool × List UInt8 × Int
def zero : Told := (0, 0, false, [], 0)
def nx (r : RS) (sz : Nat) : RS := { r with at_ := r.at_ + sz, bad := -1, e := 0 }
def call (r : RS) (k : Nat) (N : Int) : RS × Told :=
 if k = 0 then (r.Head.1, (r.Head.2.1, r.Head.2.2.1, r.Head.2.2.2, [], 0))
 else if k = 1 then (r.Uint.1, (0, r.Uint.2, false, [], 0))
 else if k = 2 then ((r.str 2 N).1, (0, 0, false, (r.str 2 N).2, 0))
 else if k = 3 then ((r.str 3 N).1, (0, 0, false, (r.str 3 N).2, 0))
 else if k = 4 then (r.Array.1, (0, 0, false, [], r.Array.2))
 else (r.Fail 9, zero)
theorem Head_none {r : RS} (h : r.e = 0) (hr : readH (r.s.drop r.at_) = none) : r.Head = (⟨r.s, r.at_, (r.at_ : Int), 2, r.at_⟩, 0, 0, false) := by
 unfold Head head; dsimp only; rw [if_pos h, hr]; unfold fail; dsimp only; rw [if_pos h]
theorem Head_some {r : RS} (h : r.e = 0) {sz m n : Nat} {o : Bool} (hr : readH (r.s.drop r.at_) = some (sz, m, n, o)) : r.Head = (⟨r.s, r.at_ + sz, r.bad, 0, r.at_⟩, m, n, o) := by
 unfold Head head; dsimp only; rw [if_pos h, hr]; rw [h]
end RS
end Go.Proofs.YtmckfdmdkljomaaGreatDoor
