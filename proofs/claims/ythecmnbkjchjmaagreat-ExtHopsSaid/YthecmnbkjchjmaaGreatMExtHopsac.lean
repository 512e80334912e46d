/-
 Names of endpoints, plainly: which are right, as the code and as the reference tell it.
-/
import Derived.Test.YthecmnbkjchjmaaGreatMExtHopsaa
import Derived.Laws.RangeAny
import Derived.Lib.Strings
import Init
import Derived.Laws.BitsAllLaws
namespace Go.Proofs.YthecmnbkjchjmaaGreat
open Go.RowKit
set_option linter.unusedVariables false
set_option linter.unusedSimpArgs false
structure EV where
 sch : Int
 name : List UInt8
 node : Nat
 svc : Nat
def noneL : List UInt8 := [110, 111, 110, 101]
def lett (c : UInt8) : Bool := decide (97 <= c.toNat /\ c.toNat <= 122) || decide (48 <= c.toNat /\ c.toNat <= 57) || decide (c.toNat = 45) || decide (c.toNat = 46)
def prin (c : UInt8) : Bool := decide (33 <= c.toNat /\ c.toNat <= 126)
def nodeA : List UInt8 -> Nat -> Nat
 | [], _ => 0
 | c :: l, i => if lett c then nodeA l (i + 1) else if c.toNat = 47 /\ 0 < i then i + 3 else 0
def nodeN (s : List UInt8) : Nat := if s.take 2 = [47, 47] /\ s.length <= 60 then nodeA (s.drop 2) 0 else 0
def namedL (s : List UInt8) : Bool := decide (s = noneL) || (decide (nodeN s ≠ 0) && (s.drop (nodeN s)).all prin)
def EV.ok (e : EV) : Bool :=
 if e.sch = 1 then decide (e.node = 0) && decide (e.svc = 0) && namedL e.name else if e.sch = 2 then decide (e.name = []) && decide (e.node <= 4294967295) && decide (e.svc <= 4294967295) else false
def slashA : List UInt8 -> Nat -> Nat
 | [], _ => 0
 | c :: l, i => if c.toNat = 47 then i else slashA l (i + 1)
def slash (s : List UInt8) : Nat := slashA (s.drop 2) 2
def goodA (k : Nat) : List UInt8 -> Nat -> Bool
 | [], _ => true
 | c :: l, i => !((decide (i < k) && !lett c) || (decide (k < i) && !prin c)) && goodA k l (i + 1)
def EV.okR (e : EV) : Bool :=
 if e.sch = 2 then decide (e.name = []) && decide (e.node <= 4294967295) && decide (e.svc <= 4294967295)
 else if e.sch ≠ 1 \/ e.node ≠ 0 \/ e.svc ≠ 0 \/ 60 < e.name.length then false
 else if e.name = noneL then true
 else if slash e.name < 3 \/ e.name.take 2 ≠ [47, 47] then false
 else goodA (slash e.name) (e.name.drop 2) 2
theorem lett_stroke {c : UInt8} (h : c.toNat = 47) : lett c = false := by simp [lett, h]
theorem goodA_far {k : Nat} : ∀ (l : List UInt8) (i : Nat), k < i -> goodA k l i = l.all prin
 | [], _, _ => rfl
 | c :: l, i, h => by
  have h1 : ¬ i < k := by omega
  rw [goodA, goodA_far l (i + 1) (by omega), List.all_cons]
  simp [h1, h]
theorem nodeA_ge : ∀ (l : List UInt8) (j : Nat), nodeA l j = 0 \/ j + 3 <= nodeA l j
 | [], _ => .inl rfl
 | c :: l, j => by
  have ih := nodeA_ge l (j + 1)
  rw [nodeA]
  split
  . omega
  .
   split
   . exact .inr (Nat.le_refl _)
   . exact .inl rfl
theorem slashA_ge : ∀ (l : List UInt8) (j : Nat), slashA l j = 0 \/ j <= slashA l j
 | [], _ => .inl rfl
 | c :: l, j => by
  have ih := slashA_ge l (j + 1)
  rw [slashA]
  split
  . exact .inr (Nat.le_refl _)
  . omega
theorem node_slash : ∀ (l : List UInt8) (i : Nat),
  (decide (nodeA l i ≠ 0) && (l.drop (nodeA l i - 2 - i)).all prin) = (decide (¬ slashA l (i + 2) < 3) && goodA (slashA l (i + 2)) l (i + 2))
 | [], i => by simp [nodeA, slashA]
 | c :: l, i => by
  have ih := node_slash l (i + 1)
  by_cases h47 : c.toNat = 47
  .
   have hl := lett_stroke h47
   rw [nodeA, slashA, if_pos h47, hl]
   by_cases hi : 0 < i
   .
    have e1 : i + 3 - 2 - i = 1 := by omega
    have e2 : ¬ i + 2 < 3 := by omega
    have e3 : ¬ i + 2 < i + 2 := by omega
    simp only [Bool.false_eq_true, if_false, h47, hi, and_self, if_true, e1, e2, goodA, e3]
    rw [goodA_far l (i + 2 + 1) (by omega)]
    simp
   .
    have e2 : i + 2 < 3 := by omega
    simp [hi, e2]
  .
   have hs := slashA_ge l (i + 2 + 1)
   have hn := nodeA_ge l (i + 1)
   rw [slashA, if_neg h47, goodA]
   by_cases hl : lett c = true
   .
    rw [nodeA, if_pos hl]
    have e1 : ((c :: l).drop (nodeA l (i + 1) - 2 - i)) = l.drop (nodeA l (i + 1) - 2 - (i + 1)) \/ nodeA l (i + 1) = 0 := by
     rcases hn with h | h
     . exact .inr h
     .
      left
      rw [show nodeA l (i + 1) - 2 - i = (nodeA l (i + 1) - 2 - (i + 1)) + 1 by omega, List.drop_succ_cons]
    have e2 : (decide (nodeA l (i + 1) ≠ 0) && ((c :: l).drop (nodeA l (i + 1) - 2 - i)).all prin) = (decide (nodeA l (i + 1) ≠ 0) && (l.drop (nodeA l (i + 1) - 2 - (i + 1))).all prin) := by
     rcases e1 with h | h
     . rw [h]
     . simp [h]
    rw [e2, ih]
    rw [show i + 1 + 2 = i + 2 + 1 by omega]
    rcases hs with h | h
    . simp [h]
    .
     have h1 : ¬ slashA l (i + 2 + 1) < i + 2 := by omega
     simp [h1, hl]
   .
    have hl' : lett c = false := by simpa using hl
    have hi : ¬ (c.toNat = 47 /\ 0 < i) := fun h => h47 h.1
    rw [nodeA, hl', if_neg (by simp), if_neg hi]
    rcases hs with h | h
    . simp [h]
    .
     have h1 : i + 2 < slashA l (i + 2 + 1) := by omega
     simp [h1]
theorem EV.ok_eq (e : EV) : e.okR = e.ok := by
 unfold EV.okR EV.ok
 by_cases h2 : e.sch = 2
 . rw [if_pos h2, if_neg (by omega), if_pos h2]
 rw [if_neg h2]
 by_cases h1 : e.sch = 1
 .
  rw [if_pos h1]
  by_cases hn : e.node = 0
  .
   by_cases hs : e.svc = 0
   .
    by_cases h0 : e.name = noneL
    .
     have hl : ¬ (e.sch ≠ 1 \/ e.node ≠ 0 \/ e.svc ≠ 0 \/ 60 < e.name.length) := by
      have : e.name.length = 4 := by rw [h0]; rfl
      omega
     rw [if_neg hl, if_pos h0]
     simp [hn, hs, namedL, h0]
    .
     by_cases hl60 : 60 < e.name.length
     .
      have hN : nodeN e.name = 0 := by unfold nodeN; rw [if_neg (by omega)]
      rw [if_pos (by omega)]
      simp [namedL, h0, hN]
     .
      rw [if_neg (by omega), if_neg h0]
      by_cases ht : e.name.take 2 = [47, 47]
      .
       have hN : nodeN e.name = nodeA (e.name.drop 2) 0 := by unfold nodeN; rw [if_pos ⟨ht, by omega⟩]
       have hk := node_slash (e.name.drop 2) 0
       have hge := nodeA_ge (e.name.drop 2) 0
       simp only [namedL, h0, hN, hn, hs, decide_true, decide_false, Bool.true_and, Bool.false_or]
       have e3 : (decide (nodeA (e.name.drop 2) 0 ≠ 0) && (e.name.drop (nodeA (e.name.drop 2) 0)).all prin) = (decide (nodeA (e.name.drop 2) 0 ≠ 0) && ((e.name.drop 2).drop (nodeA (e.name.drop 2) 0 - 2 - 0)).all prin) := by
        rcases hge with h | h
        . simp [h]
        . rw [List.drop_drop, show 2 + (nodeA (e.name.drop 2) 0 - 2 - 0) = nodeA (e.name.drop 2) 0 by omega]
       rw [e3, hk]
       unfold slash
       by_cases hlt : slashA (e.name.drop 2) 2 < 3
       . simp [hlt]
       . simp [hlt, ht]
      .
       have hN : nodeN e.name = 0 := by unfold nodeN; rw [if_neg (fun h => ht h.1)]
       rw [if_pos (Or.inr ht)]
       simp [namedL, h0, hN]
   . rw [if_pos (by omega)]; simp [hs]
  . rw [if_pos (by omega)]; simp [hn]
 . rw [if_pos (Or.inl h1), if_neg h1, if_neg h2]
abbrev EV.c (e : EV) : Array Value := #[.int .i64 e.sch, str e.name, .int .u64 (e.node : Int), .int .u64 (e.svc : Int)]
abbrev EV.v (e : EV) : Value := .agg e.c
def lettN (n : Nat) : Bool := decide (97 <= n /\ n <= 122) || decide (48 <= n /\ n <= 57) || decide (n = 45) || decide (n = 46)
set_option maxHeartbeats 800000 in
theorem nodeByte_any (n : Nat) (h : n <= 2147483647) (w : World) : Calls Tryz.prog 132 #[.int .i32 (n : Int)] w (fun e w' => e = .returned (.bool (lettN n)) /\ w' = w) := by
 go_enter Tryz.func132, Tryz.ntmps132
 go_wp2
 all_goals go_ret
 all_goals refine ⟨?_, rfl⟩
 all_goals (refine congrArg Ending.returned (congrArg Value.bool ?_))
 all_goals unfold lettN
 all_goals rw [Bool.eq_iff_iff]
 all_goals simp
 all_goals omega
theorem ext0 (s : List UInt8) (a b : Nat) : ((⟨s.toArray⟩ : ByteArray).extract a b) = ⟨((s.drop a).take (b - a)).toArray⟩ := by
 rw [Go.Lib.extract_eq]
set_option maxHeartbeats 800000 in
theorem CutPrefix_yes (s : List UInt8) (hs : Hid (s.length < 4611686018427387904)) (h : Hid (s.take 2 = [47, 47])) (w : World) : Calls Tryz.prog 131 #[str s, .string ⟨#[47, 47]⟩] w (fun e w' => e = .returned (.tuple #[str (s.drop 2), .bool true]) /\ w' = w) := by
 have hl : 2 <= s.length := by
  have := congrArg List.length h.out
  rw [List.length_take] at this
  simp at this
  omega
 have hx : ((⟨s.toArray⟩ : ByteArray).extract 0 2) = ⟨([47, 47] : List UInt8).toArray⟩ := by rw [ext0, List.drop_zero, h.out]
 have hd : ((⟨s.toArray⟩ : ByteArray).extract 2 s.length) = ⟨(s.drop 2).toArray⟩ := by rw [ext0, List.take_of_length_le (by simp)]
 go_enter Tryz.func131, Tryz.ntmps131
 go_wp2
 refine bodyPost_ret (v := .tuple #[str (s.drop 2), .bool true]) (by simp [results, Tryz.results131, go_sem]) rfl ⟨rfl, rfl⟩
set_option maxHeartbeats 800000 in
theorem CutPrefix_no (s : List UInt8) (hs : Hid (s.length < 4611686018427387904)) (h : Hid (s.take 2 ≠ [47, 47])) (w : World) : Calls Tryz.prog 131 #[str s, .string ⟨#[47, 47]⟩] w (fun e w' => e = .returned (.tuple #[str s, .bool false]) /\ w' = w) := by
 by_cases hl : 2 <= s.length
 .
  have hx : ((⟨s.toArray⟩ : ByteArray).extract 0 2) = ⟨(s.take 2).toArray⟩ := by rw [ext0, List.drop_zero]
  have h1 : (s.take 2 == [47, 47]) = false := by simpa using h.out
  have h2 : (s.take 2 = [47, 47]) = False := by simpa using h.out
  generalize s.take 2 = t at *
  go_enter Tryz.func131, Tryz.ntmps131
  go_wp2
  refine bodyPost_ret (v := .tuple #[str s, .bool false]) (by simp [results, Tryz.results131, go_sem]) rfl ⟨rfl, rfl⟩
 .
  have hl2 : decide ((2 : Int) <= (s.length : Int)) = false := by simp; omega
  clear hl
  go_enter Tryz.func131, Tryz.ntmps131
  go_wp2
  refine bodyPost_ret (v := .tuple #[str s, .bool false]) (by simp [results, Tryz.results131, go_sem]) rfl ⟨rfl, rfl⟩
set_option maxHeartbeats 1600000 in
theorem node_any (s : List UInt8) (hs : Hid (s.length < 4611686018427387904)) (w : World) : Calls Tryz.prog 107 #[str s] w (Ret (.int .i64 (nodeN s : Nat)) w) := by
 by_cases ht : s.take 2 = [47, 47]
 .
  have K := hid (fun W => CutPrefix_yes s hs ht W)
  by_cases hl : 60 < s.length
  .
   have hN : nodeN s = 0 := by unfold nodeN; rw [if_neg (by omega)]
   rw [hN]
   have t1 : decide (60 < (s.length : Int)) = true := by simp; omega
   go_enter Tryz.func107, Tryz.ntmps107
   go_wp2_with fail
   refine (K.out _).mono ?_
   rintro e w1 ⟨rfl, rfl⟩
   go_wp2_with fail
   go_ret
   exact Ret.mk rfl (Mod.refl _ _)
  .
   have hN : nodeN s = nodeA (s.drop 2) 0 := by unfold nodeN; rw [if_pos ⟨ht, by omega⟩]
   have t1 : decide (60 < (s.length : Int)) = false := by simp; omega
   have hr : Hid ((s.drop 2).length <= 60) := by unfold Hid; simp; omega
   rw [hN]
   clear hN
   go_enter Tryz.func107, Tryz.ntmps107
   go_wp2_with fail
   refine (K.out _).mono ?_
   rintro e w1 ⟨rfl, hw1⟩
   rw [hw1]
   clear hw1 w1 K ht hl
   generalize s.drop 2 = r at *
   generalize hNN : nodeA r 0 = N at *
   have HN : Hid (nodeA (r.drop 0) 0 = N) := hNN
   clear hNN
   go_wp2_with fail
   go_loopw [5, 6] (fun i c wr => ∃ pos : Nat, pos <= r.length /\ wr = w.iter ⟨r.toArray⟩ pos /\ Hid (nodeA (r.drop pos) pos = N)) (fun _ _ wr => r.length - wr.iterPos w.heap.size)
   case atStart => exact ⟨0, Nat.zero_le _, rfl, HN⟩
   case round =>
    obtain ⟨pos, hp, rfl, HP⟩ := hrel
    have hr60 := hr.out
    have hE : Ext w (w.iter ⟨r.toArray⟩ pos) := (Mod.refl _ _).alloc _
    by_cases hlt : pos < r.length
    .
     have hd : r.drop pos = r[pos] :: r.drop (pos + 1) := List.drop_eq_getElem_cons hlt
     rw [hd, nodeA] at HP
     clear hd
     by_cases h128 : (r[pos]).toNat < 128
     .
      have hnx : ∀ ty, (Instr.next (.pointer (some ⟨w.heap.size, 0, none⟩)) true ty).run Tryz.prog (w.iter ⟨r.toArray⟩ pos) = .ok (.tuple #[.bool true, .int .i64 pos, .int .i32 (r[pos]).toNat]) (w.iter ⟨r.toArray⟩ (pos + 1)) := fun ty => run_next_ascii w ⟨r.toArray⟩ pos ty hlt h128
      have KB := hid (fun W => nodeByte_any (r[pos]).toNat (by omega) W)
      have hL : lettN (r[pos]).toNat = lett r[pos] := rfl
      rw [hL] at KB
      generalize r[pos] = x at *
      go_wp2_with fail
      refine (KB.out _).mono ?_
      rintro e w1 ⟨rfl, hw1⟩
      rw [hw1]
      clear hw1 w1 KB hL
      by_cases hl : lett x = true
      .
       rw [hl]
       have HP2 : Hid (nodeA (r.drop (pos + 1)) (pos + 1) = N) := by have := HP.out; rw [if_pos hl] at this; exact this
       clear HP
       go_wp2_with fail
       go_roundw
       case rel => exact ⟨pos + 1, by omega, rfl, HP2⟩
       case measure => simp; omega
      .
       have hl2 : lett x = false := by simpa using hl
       rw [hl2]
       have HP2 : Hid ((if x.toNat = 47 /\ 0 < pos then pos + 3 else 0) = N) := by have := HP.out; rw [if_neg (by simp [hl2])] at this; exact this
       clear HP
       by_cases h47 : x.toNat = 47
       .
        by_cases h0 : 0 < pos
        .
         have e3 : pos + 3 = N := by have := HP2.out; rw [if_pos ⟨h47, h0⟩] at this; exact this
         rw [h47]
         have t2 : decide (0 < (pos : Int)) = true := by simp; omega
         go_wp2_with fail
         go_ret
         exact ⟨by rw [<- e3]; go_num, (Mod.refl _ _).alloc _⟩
        .
         have e3 : 0 = N := by have := HP2.out; rw [if_neg (fun h => h0 h.2)] at this; exact this
         rw [h47]
         have t2 : decide (0 < (pos : Int)) = false := by simp; omega
         go_wp2_with fail
         go_ret
         exact ⟨by rw [<- e3]; rfl, (Mod.refl _ _).alloc _⟩
       .
        have e3 : 0 = N := by have := HP2.out; rw [if_neg (fun h => h47 h.1)] at this; exact this
        have t3 : ((x.toNat : Int) == 47) = false := by simp; omega
        have t4 : ((x.toNat : Int) = 47) = False := by simp; omega
        go_wp2_with fail
        go_ret
        exact ⟨by rw [<- e3]; rfl, (Mod.refl _ _).alloc _⟩
     .
      have hdc := decode_high ⟨r.toArray⟩ pos hlt (by show 128 <= (r[pos]).toNat; omega)
      have hdl := decode_le ⟨r.toArray⟩ pos
      have hnx : ∀ ty, (Instr.next (.pointer (some ⟨w.heap.size, 0, none⟩)) true ty).run Tryz.prog (w.iter ⟨r.toArray⟩ pos) = _ := fun ty => run_next_any w ⟨r.toArray⟩ pos ty hlt
      have KB := hid (fun W => nodeByte_any (Utf8.decode ⟨r.toArray⟩ pos).1 hdl W)
      have hL : lettN (Utf8.decode ⟨r.toArray⟩ pos).1 = false := by simp [lettN]; omega
      rw [hL] at KB
      have hl2 : lett r[pos] = false := by
       show lettN (r[pos]).toNat = false
       simp [lettN]; omega
      have e3 : Hid (0 = N) := by have := HP.out; rw [if_neg (by simp [hl2]), if_neg (by omega)] at this; exact this
      clear HP hl2 hL
      have t3 : (((Utf8.decode ⟨r.toArray⟩ pos).1 : Int) == 47) = false := by simp; omega
      have t4 : (((Utf8.decode ⟨r.toArray⟩ pos).1 : Int) = 47) = False := by simp; omega
      have hE2 : Ext w (w.iter ⟨r.toArray⟩ (pos + (Utf8.decode ⟨r.toArray⟩ pos).2)) := (Mod.refl _ _).alloc _
      generalize (Utf8.decode ⟨r.toArray⟩ pos).1 = R at *
      generalize pos + (Utf8.decode ⟨r.toArray⟩ pos).2 = pos2 at *
      go_wp2_with fail
      refine (KB.out _).mono ?_
      rintro e w1 ⟨rfl, hw1⟩
      rw [hw1]
      clear hw1 w1 KB
      go_wp2_with fail
      go_ret
      exact ⟨by rw [<- e3.out]; rfl, hE2⟩
    .
     obtain rfl : pos = r.length := by omega
     have e3 : Hid (0 = N) := by have := HP.out; rw [List.drop_length] at this; exact this
     have hnx : ∀ ty, (Instr.next (.pointer (some ⟨w.heap.size, 0, none⟩)) true ty).run Tryz.prog (w.iter ⟨r.toArray⟩ r.length) = _ := fun ty => run_next_end w ⟨r.toArray⟩ r.length ty (by show ¬ r.length < r.length; omega)
     go_wp2_with fail
     go_ret
     exact ⟨by rw [<- e3.out]; rfl, hE⟩
 .
  have K := hid (fun W => CutPrefix_no s hs ht W)
  have hN : nodeN s = 0 := by unfold nodeN; rw [if_neg (fun h => ht h.1)]
  rw [hN]
  go_enter Tryz.func107, Tryz.ntmps107
  go_wp2_with fail
  refine (K.out _).mono ?_
  rintro e w1 ⟨rfl, rfl⟩
  go_wp2_with fail
  go_ret
  exact Ret.mk rfl (Mod.refl _ _)
theorem nodeA_le : ∀ (l : List UInt8) (j : Nat), nodeA l j <= j + l.length + 2
 | [], _ => by simp [nodeA]
 | c :: l, j => by
  have ih := nodeA_le l (j + 1)
  rw [nodeA, List.length_cons]
  split
  . omega
  . split <;> omega
theorem nodeN_le (s : List UInt8) : nodeN s <= s.length := by
 unfold nodeN
 split
 .
  rename_i h
  have := nodeA_le (s.drop 2) 0
  have hl := congrArg List.length h.1
  rw [List.length_take] at hl
  rw [List.length_drop] at this
  simp at hl
  omega
 . omega
theorem cell_row8e (w : World) (l : List UInt8) (cap t : Nat) (fz : Nat × Nat) (j : Nat) (h : j < l.length) :
  (w.alloc (.cells (bytesRow ⟨l.toArray⟩ cap) t fz)).cell? ⟨w.heap.size, j, none⟩ = some (.int .u8 (l[j].toNat : Int)) := by
 rw [World.cell?_alloc_mark]
 simp only [bytesRow]
 rw [Array.getElem?_append_left (by simpa using h)]
 simp [h]
theorem named_none (w : World) : Calls Tryz.prog 91 #[str [110, 111, 110, 101]] w (Ret (.bool true) w) := by
 go_enter Tryz.func91, Tryz.ntmps91
 go_wp2_with fail
 go_ret
 exact Ret.mk rfl (Mod.refl _ _)
set_option maxHeartbeats 800000 in
theorem named_any (s : List UInt8) (hs : Hid (s.length < 4611686018427387904)) (w : World) : Calls Tryz.prog 91 #[str s] w (Ret (.bool (namedL s)) w) := by
 by_cases h0 : s = noneL
 . subst h0; exact named_none w
 have hm : namedL s = (decide (nodeN s ≠ 0) && (s.drop (nodeN s)).all prin) := by simp [namedL, h0]
 rw [hm]
 have n1 : (s == [110, 111, 110, 101]) = false := by simpa [noneL] using h0
 have n2 : (s = [110, 111, 110, 101]) = False := by simpa [noneL] using h0
 have K := hid (fun W => node_any s hs W)
 have hle := nodeN_le s
 clear hm h0
 by_cases hn0 : nodeN s = 0
 .
  rw [hn0] at K
  rw [hn0]
  clear hle hn0
  go_enter Tryz.func91, Tryz.ntmps91
  go_wp2_with fail
  refine (K.out _).mono ?_
  rintro e w1 ⟨rfl, hb1⟩
  go_wp2_with fail
  go_ret
  exact Ret.mk (by simp) hb1
 .
  have hd : ((⟨s.toArray⟩ : ByteArray).extract (nodeN s) s.length) = ⟨(s.drop (nodeN s)).toArray⟩ := by rw [ext0, List.take_of_length_le (by simp)]
  have z1 : ((nodeN s : Int) == 0) = false := by simp; omega
  have z2 : ((nodeN s : Int) = 0) = False := by simp; omega
  have hconv := fun (w : World) (s : ByteArray) => run_bytes_of_string (P := Tryz.prog) w 9 100 5 s vqD vqB vqE
  have hB : (decide (nodeN s ≠ 0) && (s.drop (nodeN s)).all prin) = (s.drop (nodeN s)).all prin := by simp [hn0]
  rw [hB]
  have hlen : (s.drop (nodeN s)).length < 4611686018427387904 := by have := hs.out; rw [List.length_drop]; omega
  clear hB hn0
  generalize nodeN s = n at *
  generalize s.drop n = t at *
  generalize hT : t.all prin = B at *
  have HT : Hid ((t.drop 0).all prin = B) := hT
  clear hT
  go_enter Tryz.func91, Tryz.ntmps91
  go_wp2_with fail
  refine (K.out _).mono ?_
  rintro e w1 ⟨rfl, hb1⟩
  clear K
  have HB1 := hid hb1
  clear hb1
  go_wp2_with fail
  have hext := (HB1.out.alloc (Obj.cells (bytesRow { data := t.toArray } (grownCap w1 t.length 0 5)) 5 ((bytesRow { data := t.toArray } (grownCap w1 t.length 0 5)).size, (bytesRow { data := t.toArray } (grownCap w1 t.length 0 5)).size + 1)))
  have hcell : ∀ j (h : j < t.length), (w1.alloc (Obj.cells (bytesRow { data := t.toArray } (grownCap w1 t.length 0 5)) 5 ((bytesRow { data := t.toArray } (grownCap w1 t.length 0 5)).size, (bytesRow { data := t.toArray } (grownCap w1 t.length 0 5)).size + 1))).cell? ⟨w1.heap.size, j, none⟩ = some (.int .u8 (t[j].toNat : Int)) := fun j h => cell_row8e w1 t _ _ _ j h
  generalize hW : World.alloc w1 _ = W at *
  have HX := hid hext; clear hext hW
  have HC := hid hcell; clear hcell
  go_loop [5, 17] (fun c i => ∃ j : Nat, j <= t.length /\ i = .int .i64 j /\ Hid ((t.drop j).all prin = B)) (fun _ i => t.length - (intOf i).toNat)
  case atStart => exact ⟨0, Nat.zero_le _, rfl, HT⟩
  case round =>
   obtain ⟨j, hj, rfl, HP⟩ := hrel
   by_cases hlt : j < t.length
   .
    have hcc := HC.out j hlt
    have hdr : t.drop j = t[j] :: t.drop (j + 1) := List.drop_eq_getElem_cons hlt
    rw [hdr, List.all_cons] at HP
    clear hdr
    generalize t[j] = x at *
    have hx := x.toNat_lt
    by_cases h1 : x.toNat < 33
    .
     have hp : prin x = false := by simp [prin]; omega
     have HB2 : Hid (false = B) := by have := HP.out; rw [hp] at this; exact this
     have t1 : decide ((x.toNat : Int) < 33) = true := by simp; omega
     clear HP hp h1
     go_wp2_with fail
     go_ret
     exact Ret.mk (by rw [<- HB2.out]; rfl) HX.out.drew
    .
     by_cases h2 : 126 < x.toNat
     .
      have hp : prin x = false := by simp [prin]; omega
      have HB2 : Hid (false = B) := by have := HP.out; rw [hp] at this; exact this
      have t1 : decide ((x.toNat : Int) < 33) = false := by simp; omega
      have t2 : decide (126 < (x.toNat : Int)) = true := by simp; omega
      clear HP hp h1 h2
      go_wp2_with fail
      go_ret
      exact Ret.mk (by rw [<- HB2.out]; rfl) HX.out.drew
     .
      have hp : prin x = true := by simp [prin]; omega
      have HP2 : Hid ((t.drop (j + 1)).all prin = B) := by have := HP.out; rw [hp] at this; exact this
      have t1 : decide ((x.toNat : Int) < 33) = false := by simp; omega
      have t2 : decide (126 < (x.toNat : Int)) = false := by simp; omega
      clear HP hp h1 h2
      go_wp2_with fail
      go_round
      case rel => exact ⟨j + 1, by omega, by go_num, HP2⟩
      case measure => simp [intOf]; omega
   .
    obtain rfl : j = t.length := by omega
    have HB2 : Hid (true = B) := by have := HP.out; rw [List.drop_length] at this; exact this
    clear HP
    go_wp2_with fail
    go_ret
    exact Ret.mk (by rw [<- HB2.out]; rfl) HX.out.drew
set_option maxRecDepth 20000 in
theorem eidRight_any (e : EV) (hs : Hid (e.name.length < 4611686018427387904)) (w : World) : Calls Tryz.prog 77 #[e.v] w (Ret (.bool e.ok) w) := by
 obtain ⟨sch, name, node, svc⟩ := e
 by_cases h1 : sch = 1
 .
  subst h1
  have e1 : EV.ok ⟨1, name, node, svc⟩ = (decide (node = 0) && decide (svc = 0) && namedL name) := rfl
  rw [e1]
  clear e1
  by_cases hn : node = 0
  .
   subst hn
   by_cases hv : svc = 0
   .
    subst hv
    have K := hid (fun W => named_any name hs W)
    generalize namedL name = b at *
    have HE := hid ((Mod.refl [] w).alloc (.cells (EV.c ⟨1, name, 0, 0⟩) 24))
    go_enter Tryz.func77, Tryz.ntmps77
    go_wp2_with fail
    refine (K.out _).mono ?_
    rintro e w1 ⟨rfl, hb1⟩
    go_wp2_with fail
    go_ret
    exact Ret.mk (by simp) (HE.out.trans hb1)
   .
    have z1 : ((svc : Int) == 0) = false := by simp; omega
    have z2 : ((svc : Int) = 0) = False := by simp; omega
    have hb : (decide ((0 : Nat) = 0) && decide (svc = 0) && namedL name) = false := by simp [hv]
    rw [hb]
    clear hb hv
    go_enter Tryz.func77, Tryz.ntmps77
    go_wp2_with fail
    go_ret
    exact Ret.mk rfl ((Mod.refl _ _).alloc _)
  .
   have z1 : ((node : Int) == 0) = false := by simp; omega
   have z2 : ((node : Int) = 0) = False := by simp; omega
   have hb : (decide (node = 0) && decide (svc = 0) && namedL name) = false := by simp [hn]
   rw [hb]
   clear hb hn
   go_enter Tryz.func77, Tryz.ntmps77
   go_wp2_with fail
   go_ret
   exact Ret.mk rfl ((Mod.refl _ _).alloc _)
 .
  by_cases h2 : sch = 2
  .
   subst h2
   have e1 : EV.ok ⟨2, name, node, svc⟩ = (decide (name = []) && decide (node <= 4294967295) && decide (svc <= 4294967295)) := rfl
   rw [e1]
   clear e1 h1
   by_cases hn : name = []
   .
    subst hn
    by_cases ha : node <= 4294967295
    .
     have t1 : decide ((node : Int) <= 4294967295) = true := by simp; omega
     by_cases hb : svc <= 4294967295
     .
      have t2 : decide ((svc : Int) <= 4294967295) = true := by simp; omega
      have hr : (decide (([] : List UInt8) = []) && decide (node <= 4294967295) && decide (svc <= 4294967295)) = true := by simp [ha, hb]
      rw [hr]
      clear hr ha hb
      go_enter Tryz.func77, Tryz.ntmps77
      go_wp2_with fail
      go_ret
      exact Ret.mk rfl ((Mod.refl _ _).alloc _)
     .
      have t2 : decide ((svc : Int) <= 4294967295) = false := by simp; omega
      have hr : (decide (([] : List UInt8) = []) && decide (node <= 4294967295) && decide (svc <= 4294967295)) = false := by simp [hb]
      rw [hr]
      clear hr ha hb
      go_enter Tryz.func77, Tryz.ntmps77
      go_wp2_with fail
      go_ret
      exact Ret.mk rfl ((Mod.refl _ _).alloc _)
    .
     have t1 : decide ((node : Int) <= 4294967295) = false := by simp; omega
     have hr : (decide (([] : List UInt8) = []) && decide (node <= 4294967295) && decide (svc <= 4294967295)) = false := by simp [ha]
     rw [hr]
     clear hr ha
     go_enter Tryz.func77, Tryz.ntmps77
     go_wp2_with fail
     go_ret
     exact Ret.mk rfl ((Mod.refl _ _).alloc _)
   .
    have n1 : (name == []) = false := by simpa using hn
    have n2 : (name = []) = False := by simpa using hn
    have n3 : name.isEmpty = false := by simpa using hn
    have hr : (decide (name = []) && decide (node <= 4294967295) && decide (svc <= 4294967295)) = false := by simp [hn]
    rw [hr]
    clear hr hn
    go_enter Tryz.func77, Tryz.ntmps77
    go_wp2_with fail
    go_ret
    exact Ret.mk rfl ((Mod.refl _ _).alloc _)
  .
   have e1 : EV.ok ⟨sch, name, node, svc⟩ = false := by simp [EV.ok, h1, h2]
   rw [e1]
   have s1 : (sch = 1) = False := by simp [h1]
   have s2 : (sch == 1) = false := by simp [h1]
   have s3 : (sch = 2) = False := by simp [h2]
   have s4 : (sch == 2) = false := by simp [h2]
   clear e1 h1 h2
   go_enter Tryz.func77, Tryz.ntmps77
   go_wp2_with fail
   go_ret
   exact Ret.mk rfl ((Mod.refl _ _).alloc _)
namespace Crc
def rv : Nat -> Nat -> Nat
 | 0, _ => 0
 | n + 1, x => 2 ^ n * (x % 2) + rv n (x / 2)
theorem rv_lt : ∀ (n x : Nat), rv n x < 2 ^ n
 | 0, _ => by simp [rv]
 | n + 1, x => by
  have h := rv_lt n (x / 2)
  have h2 : x % 2 < 2 := Nat.mod_lt _ (by omega)
  have : x % 2 = 0 \/ x % 2 = 1 := by omega
  unfold rv
  rcases this with e | e <;> rw [e, Nat.pow_succ] <;> omega
theorem rv_bit : ∀ (n x i : Nat), (rv n x).testBit i = (decide (i < n) && x.testBit (n - 1 - i))
 | 0, x, i => by simp [rv]
 | n + 1, x, i => by
  have h := rv_bit n (x / 2) i
  have hl := rv_lt n (x / 2)
  unfold rv
  rw [Nat.testBit_two_pow_mul_add _ hl]
  by_cases hi : i < n
  .
   rw [if_pos hi, h]
   have e : n + 1 - 1 - i = (n - 1 - i) + 1 := by omega
   rw [e, Nat.testBit_succ]
   simp [hi, Nat.lt_succ_of_lt hi]
  .
   rw [if_neg hi]
   by_cases hin : i = n
   .
    subst hin
    simp [Nat.testBit_zero]
   .
    have h1 : ¬ i < n + 1 := by omega
    have h3 : i - n = (i - n - 1) + 1 := by omega
    have h4 : x % 2 / 2 = 0 := by omega
    simp only [h1, decide_false, Bool.false_and]
    rw [h3, Nat.testBit_succ, h4, Nat.zero_testBit]
theorem rv_xor (n x y : Nat) : rv n (x ^^^ y) = rv n x ^^^ rv n y := by
 apply Nat.eq_of_testBit_eq
 intro i
 rw [Nat.testBit_xor, rv_bit, rv_bit, rv_bit, Nat.testBit_xor]
 cases decide (i < n) <;> simp
theorem rv_rv (n x : Nat) (h : x < 2 ^ n) : rv n (rv n x) = x := by
 apply Nat.eq_of_testBit_eq
 intro i
 rw [rv_bit, rv_bit]
 by_cases hi : i < n
 .
  have e : n - 1 - (n - 1 - i) = i := by omega
  have e2 : n - 1 - i < n := by omega
  simp [hi, e, e2]
 .
  have : x < 2 ^ i := Nat.lt_of_lt_of_le h (Nat.pow_le_pow_right (by omega) (by omega))
  simp [hi, Nat.testBit_lt_two_pow this]
theorem rv_high (m x : Nat) : rv (m + 1) x / 2 ^ m = x % 2 := by
 unfold rv
 rw [Nat.mul_add_div (Nat.two_pow_pos m), Nat.div_eq_of_lt (rv_lt m _)]
 omega
theorem rv_half (m x : Nat) (h : x < 2 ^ (m + 1)) : rv (m + 1) (x / 2) = rv (m + 1) x * 2 % 2 ^ (m + 1) := by
 apply Nat.eq_of_testBit_eq
 intro i
 rw [rv_bit, Nat.testBit_mod_two_pow, <- Nat.testBit_succ]
 cases i with
 | zero =>
  have e : (m + 1 - 1 - 0).succ = m + 1 := by omega
  rw [e, Nat.testBit_lt_two_pow h]
  simp [Nat.testBit_zero]
 | succ i =>
  have t : (rv (m + 1) x * 2).testBit (i + 1) = (rv (m + 1) x).testBit i := by rw [Nat.testBit_succ, Nat.mul_div_cancel _ (by omega : 0 < 2)]
  rw [t, rv_bit]
  by_cases hi : i + 1 < m + 1
  .
   have e : (m + 1 - 1 - (i + 1)).succ = m + 1 - 1 - i := by omega
   have h2 : i < m + 1 := by omega
   simp only [hi, h2, e, decide_true, Bool.true_and]
  . simp [hi]
def stepC (p s : Nat) : Nat := if s % 2 = 1 then s / 2 ^^^ p else s / 2
def stepsC (p : Nat) : Nat -> Nat -> Nat
 | 0, s => s
 | k + 1, s => stepsC p k (stepC p s)
def divC (p : Nat) (s : Nat) (l : List UInt8) : Nat := l.foldl (fun s c => stepsC p 8 (s ^^^ c.toNat)) s
def stepB (p s b : Nat) : Nat := if s % 2 = b then s / 2 else s / 2 ^^^ p
def stepsB (p : Nat) : Nat -> Nat -> Nat -> Nat
 | 0, s, _ => s
 | k + 1, s, c => stepsB p k (stepB p s (c % 2)) (c / 2)
def stepR (top d r b : Nat) : Nat := if r / (top / 2) = b then r * 2 % top else (r * 2 % top) ^^^ d
def stepsR (top d : Nat) : Nat -> Nat -> Nat -> Nat
 | 0, r, _ => r
 | k + 1, r, c => stepsR top d k (stepR top d r (c % 2)) (c / 2)
def divR (top d : Nat) (r : Nat) (l : List UInt8) : Nat := l.foldl (fun r c => stepsR top d 8 r c.toNat) r
theorem xor_mod (a b : Nat) : (a ^^^ b) % 2 = if a % 2 = b % 2 then 0 else 1 := by
 have h := Nat.testBit_xor a b 0
 simp only [Nat.testBit_zero] at h
 rcases Nat.mod_two_eq_zero_or_one a with ha | ha <;> rcases Nat.mod_two_eq_zero_or_one b with hb | hb <;> rcases Nat.mod_two_eq_zero_or_one (a ^^^ b) with hab | hab <;> simp [ha, hb, hab] at h ⊢
theorem xor_half (a b : Nat) : (a ^^^ b) / 2 = a / 2 ^^^ b / 2 := by
 apply Nat.eq_of_testBit_eq
 intro i
 rw [<- Nat.testBit_succ, Nat.testBit_xor, Nat.testBit_xor, <- Nat.testBit_succ, <- Nat.testBit_succ]
theorem stepC_xor (p s c : Nat) : stepC p (s ^^^ c) = stepB p s (c % 2) ^^^ (c / 2) := by
 unfold stepC stepB
 rw [xor_mod, xor_half]
 by_cases h : s % 2 = c % 2
 . simp [h]
 .
  simp only [h, if_false, if_true]
  rw [Nat.xor_assoc, Nat.xor_comm (c / 2), <- Nat.xor_assoc]
theorem stepsC_xor (p : Nat) : ∀ (k s c : Nat), stepsC p k (s ^^^ c) = stepsB p k s c ^^^ (c / 2 ^ k)
 | 0, s, c => by simp [stepsC, stepsB]
 | k + 1, s, c => by
  show stepsC p k (stepC p (s ^^^ c)) = stepsB p k (stepB p s (c % 2)) (c / 2) ^^^ (c / 2 ^ (k + 1))
  rw [stepC_xor, stepsC_xor p k, Nat.div_div_eq_div_mul, Nat.pow_succ, Nat.mul_comm]
theorem stepB_lt {m p s b : Nat} (hp : p < 2 ^ (m + 1)) (hs : s < 2 ^ (m + 1)) : stepB p s b < 2 ^ (m + 1) := by
 unfold stepB
 split
 . omega
 . exact Nat.xor_lt_two_pow (by omega) hp
theorem stepsB_lt {m p : Nat} (hp : p < 2 ^ (m + 1)) : ∀ (k s c : Nat), s < 2 ^ (m + 1) -> stepsB p k s c < 2 ^ (m + 1)
 | 0, s, c, h => h
 | k + 1, s, c, h => stepsB_lt hp k _ _ (stepB_lt hp h)
theorem stepR_rv {m p s b : Nat} (hs : s < 2 ^ (m + 1)) : stepR (2 ^ (m + 1)) (rv (m + 1) p) (rv (m + 1) s) b = rv (m + 1) (stepB p s b) := by
 have e : 2 ^ (m + 1) / 2 = 2 ^ m := by rw [Nat.pow_succ]; omega
 unfold stepR stepB
 rw [e, rv_high]
 split
 . rw [rv_half m s hs]
 . rw [rv_xor, rv_half m s hs]
theorem stepsR_rv {m p : Nat} (hp : p < 2 ^ (m + 1)) : ∀ (k s c : Nat), s < 2 ^ (m + 1) -> stepsR (2 ^ (m + 1)) (rv (m + 1) p) k (rv (m + 1) s) c = rv (m + 1) (stepsB p k s c)
 | 0, s, c, h => rfl
 | k + 1, s, c, h => by
  show stepsR _ _ k (stepR _ _ _ _) _ = rv _ (stepsB p k (stepB p s _) _)
  rw [stepR_rv h]
  exact stepsR_rv hp k _ _ (stepB_lt hp h)
theorem byte_rv {m p s : Nat} (hp : p < 2 ^ (m + 1)) (hs : s < 2 ^ (m + 1)) (c : UInt8) :
  stepsR (2 ^ (m + 1)) (rv (m + 1) p) 8 (rv (m + 1) s) c.toNat = rv (m + 1) (stepsC p 8 (s ^^^ c.toNat)) /\ stepsC p 8 (s ^^^ c.toNat) < 2 ^ (m + 1) := by
 have h0 : c.toNat / 2 ^ 8 = 0 := Nat.div_eq_of_lt c.toNat_lt
 have h := stepsC_xor p 8 s c.toNat
 rw [h0, Nat.xor_zero] at h
 rw [h]
 exact ⟨stepsR_rv hp 8 s _ hs, stepsB_lt hp 8 s _ hs⟩
theorem div_rv {m p : Nat} (hp : p < 2 ^ (m + 1)) : ∀ (l : List UInt8) (s : Nat), s < 2 ^ (m + 1) -> divR (2 ^ (m + 1)) (rv (m + 1) p) (rv (m + 1) s) l = rv (m + 1) (divC p s l) /\ divC p s l < 2 ^ (m + 1)
 | [], s, h => ⟨rfl, h⟩
 | c :: l, s, h => by
  have hb := byte_rv hp h c
  have ih := div_rv hp l _ hb.2
  unfold divR divC at ih ⊢
  simp only [List.foldl_cons]
  rw [hb.1]
  exact ih
theorem not_xor {n x : Nat} (h : x < 2 ^ n) : 2 ^ n - 1 - x = (2 ^ n - 1) ^^^ x := by
 apply Nat.eq_of_testBit_eq
 intro i
 have e : 2 ^ n - 1 - x = 2 ^ n - (x + 1) := by omega
 rw [e, Nat.testBit_two_pow_sub_succ h, Nat.testBit_xor, Nat.testBit_two_pow_sub_one]
 by_cases hi : i < n
 . simp [hi]
 .
  have : x < 2 ^ i := Nat.lt_of_lt_of_le h (Nat.pow_le_pow_right (by omega) (by omega))
  simp [hi, Nat.testBit_lt_two_pow this]
theorem rv_ones (n : Nat) : rv n (2 ^ n - 1) = 2 ^ n - 1 := by
 apply Nat.eq_of_testBit_eq
 intro i
 rw [rv_bit, Nat.testBit_two_pow_sub_one, Nat.testBit_two_pow_sub_one]
 by_cases hi : i < n
 .
  have : n - 1 - i < n := by omega
  simp [hi, this]
 . simp [hi]
theorem sums {m p : Nat} (hp : p < 2 ^ (m + 1)) (l : List UInt8) :
  rv (m + 1) (2 ^ (m + 1) - 1 - divR (2 ^ (m + 1)) (rv (m + 1) p) (2 ^ (m + 1) - 1) l) = 2 ^ (m + 1) - 1 - divC p (2 ^ (m + 1) - 1) l := by
 have h0 : 2 ^ (m + 1) - 1 < 2 ^ (m + 1) := by have := Nat.two_pow_pos (m + 1); omega
 have h := div_rv hp l (2 ^ (m + 1) - 1) h0
 rw [rv_ones] at h
 rw [h.1, not_xor (rv_lt _ _), rv_xor, rv_ones, rv_rv _ _ h.2, <- not_xor h.2]
end Crc
theorem cell_row8 (w : World) (l : List UInt8) (cap t : Nat) (fz : Nat × Nat) (j : Nat) (h : j < l.length) :
  (w.alloc (.cells (bytesRow ⟨l.toArray⟩ cap) t fz)).cell? ⟨w.heap.size, j, none⟩ = some (.int .u8 (l[j].toNat : Int)) := by
 rw [World.cell?_alloc_mark]
 simp only [bytesRow]
 rw [Array.getElem?_append_left (by simpa using h)]
 simp [h]
theorem Crc.stepC_lt {p s m : Nat} (hp : p < 2 ^ m) (hs : s < 2 ^ m) : Crc.stepC p s < 2 ^ m := by
 unfold Crc.stepC
 split
 . exact Nat.xor_lt_two_pow (by omega) hp
 . omega
theorem Crc.stepsC_lt {p m : Nat} (hp : p < 2 ^ m) : ∀ (k s : Nat), s < 2 ^ m -> Crc.stepsC p k s < 2 ^ m
 | 0, s, h => h
 | k + 1, s, h => Crc.stepsC_lt hp k _ (Crc.stepC_lt hp h)
theorem Crc.divC_lt {p m : Nat} (hp : p < 2 ^ m) : ∀ (l : List UInt8) (s : Nat), s < 2 ^ m -> 8 <= m -> Crc.divC p s l < 2 ^ m
 | [], s, h, _ => h
 | c :: l, s, h, h8 => by
  have hc : c.toNat < 2 ^ m := Nat.lt_of_lt_of_le c.toNat_lt (Nat.pow_le_pow_right (by omega) h8)
  have := Crc.divC_lt hp l (Crc.stepsC p 8 (s ^^^ c.toNat)) (Crc.stepsC_lt hp 8 _ (Nat.xor_lt_two_pow h hc)) h8
  exact this
theorem and1_16 {s : Nat} (hs : s < 65536) : bits .and .u16 (s : Int) 1 = ((s % 2 : Nat) : Int) := by
 have := u16_and_nat s 1 hs (by omega)
 rw [Nat.and_one_is_mod] at this
 exact this
theorem xor_16 {s c : Nat} (hs : s < 65536) (hc : c < 65536) : bits .xor .u16 (s : Int) (c : Int) = ((s ^^^ c : Nat) : Int) := u16_xor_nat s c hs hc
set_option maxHeartbeats 400000 in
theorem divide16 (p s : Nat) (hp : Hid (p < 65536)) (hs : Hid (s < 65536)) (l : List UInt8) (hl : Hid (l.length < 1000000)) (w : World) :
  Calls Tryz.prog 173 #[.int .u16 (s : Int), .int .u16 (p : Int), str l] w (Ret (.int .u16 (Crc.divC p s l : Nat)) w) := by
 have hconv := fun (w : World) (s : ByteArray) => run_bytes_of_string (P := Tryz.prog) w 9 100 5 s vqD vqB vqE
 obtain ⟨T, hT⟩ : ∃ T, T = Crc.divC p s l := ⟨_, rfl⟩
 rw [<- hT]
 have HT := hid hT; clear hT
 go_enter Tryz.func173, Tryz.ntmps173
 go_wp2
 have hext : Ext w (w.alloc (Obj.cells (bytesRow { data := l.toArray } (grownCap w l.length 0 5)) 5 ((bytesRow { data := l.toArray } (grownCap w l.length 0 5)).size, (bytesRow { data := l.toArray } (grownCap w l.length 0 5)).size + 1))).drew := ((Mod.refl _ _).alloc _).drew
 have hcell : ∀ j (h : j < l.length), (w.alloc (Obj.cells (bytesRow { data := l.toArray } (grownCap w l.length 0 5)) 5 ((bytesRow { data := l.toArray } (grownCap w l.length 0 5)).size, (bytesRow { data := l.toArray } (grownCap w l.length 0 5)).size + 1))).drew.cell? ⟨w.heap.size, j, none⟩ = some (.int .u8 (l[j].toNat : Int)) := fun j h => by rw [World.cell?_drew]; exact cell_row8 w l _ _ _ j h
 generalize hW : World.drew (World.alloc w _) = W at *
 have HW := hid hW; clear hW
 have HC := hid hcell; clear hcell
 have HL := hid hl.out
 go_loop [0, 12] (fun n i => ∃ j c : Nat, j <= l.length /\ c < 65536 /\ i = .int .i64 j /\ n = .int .u16 (c : Int) /\ Hid (T = Crc.divC p c (l.drop j))) (fun _ i => l.length - (intOf i).toNat)
 case atStart => exact ⟨0, s, Nat.zero_le _, hs.out, rfl, rfl, HT⟩
 case round =>
  obtain ⟨j, c, hj, hc, rfl, rfl, HR⟩ := hrel
  by_cases hlt : j < l.length
  .
   have hcc := HC.out j hlt
   generalize hx : l[j] = x at *
   have HX := hid hx; clear hx
   have hx8 := x.toNat_lt
   have tx : IntKind.u16.wrap (x.toNat : Int) = (x.toNat : Int) := IntWalk.u16_in _ (by omega)
   have t2 := xor_16 (s := c) (c := x.toNat) hc (by omega)
   have hcx : c ^^^ x.toNat < 65536 := Nat.xor_lt_two_pow (n := 16) hc (by omega)
   have HS : Hid (T = Crc.divC p (Crc.stepsC p 8 (c ^^^ x.toNat)) (l.drop (j + 1))) := by
    have h1 := HR.out
    rw [List.drop_eq_getElem_cons hlt, HX.out] at h1
    exact h1
   clear HR
   go_wp2
   generalize c ^^^ x.toNat = y at *
   go_loop [0, 20] (fun n i => ∃ k c : Nat, k <= 8 /\ c < 65536 /\ i = .int .i64 k /\ n = .int .u16 (c : Int) /\ Hid (Crc.stepsC p (8 - k) c = Crc.stepsC p 8 y)) (fun _ i => 8 - (intOf i).toNat)
   case atStart => exact ⟨0, y, by omega, hcx, rfl, rfl, rfl⟩
   case round =>
    obtain ⟨k, c, hk, hc, rfl, rfl, HR⟩ := hrel
    by_cases hlt : k < 8
    .
     have tA := and1_16 hc
     have HN : Hid (Crc.stepsC p (8 - (k + 1)) (Crc.stepC p c) = Crc.stepsC p 8 y) := by
      have h1 := HR.out
      rw [show 8 - k = (8 - (k + 1)) + 1 by omega] at h1
      exact h1
     have hL := Crc.stepC_lt (m := 16) hp.out hc
     clear HR
     rcases Nat.mod_two_eq_zero_or_one c with e | e
     .
      have hS : Crc.stepC p c = c / 2 := by unfold Crc.stepC; rw [if_neg (by omega)]
      rw [hS] at HN hL
      rw [e] at tA
      go_wp2
      go_round
      case rel => exact ⟨k + 1, c / 2, by omega, hL, by go_num, by simp, HN⟩
      case measure => simp [intOf]; omega
     .
      have hS : Crc.stepC p c = c / 2 ^^^ p := by unfold Crc.stepC; rw [if_pos e]
      have tX := xor_16 (s := c / 2) (c := p) (by omega) hp.out
      rw [hS] at HN hL
      rw [e] at tA
      go_wp2
      go_round
      case rel => exact ⟨k + 1, c / 2 ^^^ p, by omega, hL, by go_num, by rw [<- tX]; simp, HN⟩
      case measure => simp [intOf]; omega
    .
     obtain rfl : k = 8 := by omega
     have h1 : c = Crc.stepsC p 8 y := HR.out
     have hl2 : l.length < 1000000 := hl.out
     subst h1
     clear HR
     go_wp2
     go_round
     case rel => exact ⟨j + 1, _, by omega, hc, by go_num, rfl, HS⟩
     case measure => simp [intOf]; omega
  .
   obtain rfl : j = l.length := by omega
   have h1 := HR.out
   rw [List.drop_length] at h1
   have h2 : T = c := h1
   subst h2
   clear HR h1
   go_wp2
   go_ret
   exact ⟨rfl, hext⟩
theorem and1_32 {s : Nat} (hs : s < 4294967296) : bits .and .u32 (s : Int) 1 = ((s % 2 : Nat) : Int) := by
 have := u32_and_nat s 1 hs (by omega)
 rw [Nat.and_one_is_mod] at this
 exact this
theorem xor_32 {s c : Nat} (hs : s < 4294967296) (hc : c < 4294967296) : bits .xor .u32 (s : Int) (c : Int) = ((s ^^^ c : Nat) : Int) := u32_xor_nat s c hs hc
set_option maxHeartbeats 400000 in
theorem divide32 (p s : Nat) (hp : Hid (p < 4294967296)) (hs : Hid (s < 4294967296)) (l : List UInt8) (hl : Hid (l.length < 1000000)) (w : World) :
  Calls Tryz.prog 174 #[.int .u32 (s : Int), .int .u32 (p : Int), str l] w (Ret (.int .u32 (Crc.divC p s l : Nat)) w) := by
 have hconv := fun (w : World) (s : ByteArray) => run_bytes_of_string (P := Tryz.prog) w 9 100 5 s vqD vqB vqE
 obtain ⟨T, hT⟩ : ∃ T, T = Crc.divC p s l := ⟨_, rfl⟩
 rw [<- hT]
 have HT := hid hT; clear hT
 go_enter Tryz.func174, Tryz.ntmps174
 go_wp2
 have hext : Ext w (w.alloc (Obj.cells (bytesRow { data := l.toArray } (grownCap w l.length 0 5)) 5 ((bytesRow { data := l.toArray } (grownCap w l.length 0 5)).size, (bytesRow { data := l.toArray } (grownCap w l.length 0 5)).size + 1))).drew := ((Mod.refl _ _).alloc _).drew
 have hcell : ∀ j (h : j < l.length), (w.alloc (Obj.cells (bytesRow { data := l.toArray } (grownCap w l.length 0 5)) 5 ((bytesRow { data := l.toArray } (grownCap w l.length 0 5)).size, (bytesRow { data := l.toArray } (grownCap w l.length 0 5)).size + 1))).drew.cell? ⟨w.heap.size, j, none⟩ = some (.int .u8 (l[j].toNat : Int)) := fun j h => by rw [World.cell?_drew]; exact cell_row8 w l _ _ _ j h
 generalize hW : World.drew (World.alloc w _) = W at *
 have HW := hid hW; clear hW
 have HC := hid hcell; clear hcell
 have HL := hid hl.out
 go_loop [0, 12] (fun n i => ∃ j c : Nat, j <= l.length /\ c < 4294967296 /\ i = .int .i64 j /\ n = .int .u32 (c : Int) /\ Hid (T = Crc.divC p c (l.drop j))) (fun _ i => l.length - (intOf i).toNat)
 case atStart => exact ⟨0, s, Nat.zero_le _, hs.out, rfl, rfl, HT⟩
 case round =>
  obtain ⟨j, c, hj, hc, rfl, rfl, HR⟩ := hrel
  by_cases hlt : j < l.length
  .
   have hcc := HC.out j hlt
   generalize hx : l[j] = x at *
   have HX := hid hx; clear hx
   have hx8 := x.toNat_lt
   have tx : IntKind.u32.wrap (x.toNat : Int) = (x.toNat : Int) := IntWalk.u32_in _ (by omega)
   have t2 := xor_32 (s := c) (c := x.toNat) hc (by omega)
   have hcx : c ^^^ x.toNat < 4294967296 := Nat.xor_lt_two_pow (n := 32) hc (by omega)
   have HS : Hid (T = Crc.divC p (Crc.stepsC p 8 (c ^^^ x.toNat)) (l.drop (j + 1))) := by
    have h1 := HR.out
    rw [List.drop_eq_getElem_cons hlt, HX.out] at h1
    exact h1
   clear HR
   go_wp2
   generalize c ^^^ x.toNat = y at *
   go_loop [0, 20] (fun n i => ∃ k c : Nat, k <= 8 /\ c < 4294967296 /\ i = .int .i64 k /\ n = .int .u32 (c : Int) /\ Hid (Crc.stepsC p (8 - k) c = Crc.stepsC p 8 y)) (fun _ i => 8 - (intOf i).toNat)
   case atStart => exact ⟨0, y, by omega, hcx, rfl, rfl, rfl⟩
   case round =>
    obtain ⟨k, c, hk, hc, rfl, rfl, HR⟩ := hrel
    by_cases hlt : k < 8
    .
     have tA := and1_32 hc
     have HN : Hid (Crc.stepsC p (8 - (k + 1)) (Crc.stepC p c) = Crc.stepsC p 8 y) := by
      have h1 := HR.out
      rw [show 8 - k = (8 - (k + 1)) + 1 by omega] at h1
      exact h1
     have hL := Crc.stepC_lt (m := 32) hp.out hc
     clear HR
     rcases Nat.mod_two_eq_zero_or_one c with e | e
     .
      have hS : Crc.stepC p c = c / 2 := by unfold Crc.stepC; rw [if_neg (by omega)]
      rw [hS] at HN hL
      rw [e] at tA
      go_wp2
      go_round
      case rel => exact ⟨k + 1, c / 2, by omega, hL, by go_num, by simp, HN⟩
      case measure => simp [intOf]; omega
     .
      have hS : Crc.stepC p c = c / 2 ^^^ p := by unfold Crc.stepC; rw [if_pos e]
      have tX := xor_32 (s := c / 2) (c := p) (by omega) hp.out
      rw [hS] at HN hL
      rw [e] at tA
      go_wp2
      go_round
      case rel => exact ⟨k + 1, c / 2 ^^^ p, by omega, hL, by go_num, by rw [<- tX]; simp, HN⟩
      case measure => simp [intOf]; omega
    .
     obtain rfl : k = 8 := by omega
     have h1 : c = Crc.stepsC p 8 y := HR.out
     have hl2 : l.length < 1000000 := hl.out
     subst h1
     clear HR
     go_wp2
     go_round
     case rel => exact ⟨j + 1, _, by omega, hc, by go_num, rfl, HS⟩
     case measure => simp [intOf]; omega
  .
   obtain rfl : j = l.length := by omega
   have h1 := HR.out
   rw [List.drop_length] at h1
   have h2 : T = c := h1
   subst h2
   clear HR h1
   go_wp2
   go_ret
   exact ⟨rfl, hext⟩
end Go.Proofs.YthecmnbkjchjmaaGreat
