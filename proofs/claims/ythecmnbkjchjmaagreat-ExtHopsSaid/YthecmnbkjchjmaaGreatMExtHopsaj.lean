/-
 A right name's item, by the code and by the reference.
-/
import Derived.Test.YthecmnbkjchjmaaGreatMExtHopsah
import Derived.Test.YthecmnbkjchjmaaGreatMExtHopsai
import Derived.Shelf.Strings.Repeat
namespace Go.Proofs.YthecmnbkjchjmaaGreat
open Go.RowKit
set_option linter.unusedVariables false
set_option linter.unusedSimpArgs false
theorem EV.ok_cases {e : EV} (h : e.ok = true) : (e = ⟨1, [110, 111, 110, 101], 0, 0⟩) \/ (∃ name, e = ⟨1, name, 0, 0⟩ /\ name ≠ [110, 111, 110, 101] /\ name.length <= 60) \/ (∃ node svc, e = ⟨2, [], node, svc⟩ /\ node <= 4294967295 /\ svc <= 4294967295) := by
 obtain ⟨sch, name, node, svc⟩ := e
 unfold EV.ok at h
 simp only [] at h
 by_cases h1 : sch = 1
 .
  rw [if_pos h1] at h
  simp only [Bool.and_eq_true, decide_eq_true_eq] at h
  obtain ⟨⟨rfl, rfl⟩, hn⟩ := h
  subst h1
  by_cases h0 : name = [110, 111, 110, 101]
  . subst h0; exact .inl rfl
  .
   refine .inr (.inl ⟨name, rfl, h0, ?_⟩)
   have h00 : ¬ name = noneL := h0
   simp only [namedL, h00, decide_false, Bool.false_or, Bool.and_eq_true, decide_eq_true_eq] at hn
   by_cases hl : name.length <= 60
   . exact hl
   .
    exfalso
    apply hn.1
    unfold nodeN
    rw [if_neg (fun h => hl h.2)]
 .
  rw [if_neg h1] at h
  by_cases h2 : sch = 2
  .
   rw [if_pos h2] at h
   simp only [Bool.and_eq_true, decide_eq_true_eq] at h
   obtain ⟨⟨rfl, ha⟩, hb⟩ := h
   subst h2
   exact .inr (.inr ⟨node, svc, rfl, ha, hb⟩)
  .
   rw [if_neg h2] at h
   cases h
theorem eidItem_ok (e : EV) (ho : e.ok = true) (w : World) : Calls Tryz.prog 58 #[e.v] w (fun r w' => ∃ A, r = .returned (.tuple #[itemV (eidT e) A 2, .int .i64 0]) /\ Ext w w' /\ IsL w' (fun b => w.heap.size <= b) (eidT e) A) := by
 rcases EV.ok_cases ho with rfl | ⟨name, rfl, hn, hl⟩ | ⟨node, svc, rfl, ha, hb⟩
 . exact eidItem_none w
 . exact eidItem_dtn name (by unfold Hid; omega) hn ho w
 .
  have e1 : eidT ⟨2, [], node, svc⟩ = ipnT node svc := rfl
  rw [e1]
  exact eidItem_ipn node svc ha hb w
theorem text_ok {s : List UInt8} (h : s.length < 4611686018427387904) : (textT s).ok := by unfold textT T.ok; exact ⟨by omega, by omega, h, by omega, fun i hi => by omega⟩
theorem eidT_ok {e : EV} (ho : e.ok = true) : (eidT e).ok /\ (∀ d, 3 <= d -> (eidT e).right d = true) /\ (eidT e).plain = true /\ (eidT e).size <= 100000 := by
 rcases EV.ok_cases ho with rfl | ⟨name, rfl, hn, hl⟩ | ⟨node, svc, rfl, ha, hb⟩
 .
  refine ⟨?_, fun d hd => ?_, by decide, by decide⟩
  .
   unfold eidT T.ok
   exact ⟨by omega, by omega, by simp, by omega, fun i hi => by dsimp only; split; exact num_ok (by decide); exact num_ok (by decide)⟩
  .
   have h1 : ¬ d < 1 := by omega
   have h2 : ¬ d - 1 < 1 := by omega
   simp [eidT, twoT, noneL, T.right, h1, h2, T.node, T.all, numT]
 .
  have h0 : ¬ name = noneL := hn
  have e1 : twoT ⟨1, name, 0, 0⟩ = textT name := by simp [twoT, h0]
  refine ⟨?_, fun d hd => ?_, ?_, ?_⟩
  .
   unfold eidT T.ok
   exact ⟨by omega, by omega, by simp, by omega, fun i hi => by dsimp only; split; exact num_ok (by decide); rw [e1]; exact text_ok (by omega)⟩
  .
   have h1 : ¬ d < 1 := by omega
   have h2 : ¬ d - 1 < 1 := by omega
   simp [eidT, e1, T.right, h1, h2, T.node, T.all, numT, textT]
  . simp [eidT, e1, T.plain, T.node, T.all, numT, textT]
  . simp [eidT, e1, T.size, T.sum, numT, textT]; omega
 .
  refine ⟨?_, fun d hd => ?_, ?_, ?_⟩
  .
   unfold eidT T.ok
   refine ⟨by omega, by omega, by simp, by omega, fun i hi => ?_⟩
   dsimp only
   split
   . exact num_ok (by decide)
   .
    show (T.mk 4 0 [] false 2 (fun j => if j = 0 then numT node else numT svc)).ok
    unfold T.ok
    exact ⟨by omega, by omega, by simp, by omega, fun i hi => by dsimp only; split; exact num_ok (by omega); exact num_ok (by omega)⟩
  .
   have h1 : ¬ d < 1 := by omega
   have h2 : ¬ d - 1 < 1 := by omega
   have h3 : ¬ d - 1 - 1 < 1 := by omega
   simp [eidT, twoT, T.right, h1, h2, h3, T.node, T.all, numT]
  . simp [eidT, twoT, T.plain, T.node, T.all, numT]
  . simp [eidT, twoT, T.size, T.sum, numT]
theorem two_IsL {W : World} {Q : Nat -> Prop} {g : Nat} (t0 t1 : T) (A0 A1 : Option Addr) (c0 c1 : Nat) (q : Q g)
  (h : Blk W g 86 #[.int .i64 t0.kind, .int .u64 (t0.n : Int), str t0.s, .slice A0 t0.k c0, .bool t0.op, .int .i64 t1.kind, .int .u64 (t1.n : Int), str t1.s, .slice A1 t1.k c1, .bool t1.op]) (h0 : IsL W Q t0 A0) (h1 : IsL W Q t1 A1) : IsL W Q (T.mk 4 0 [] false 2 fun i => if i = 0 then t0 else t1) (some ⟨g, 0, none⟩) := fun _ => ⟨g, 0, rfl, h.lt, q, fun i hi => by
 have hi2 : i = 0 \/ i = 1 := by omega
 rcases hi2 with rfl | rfl
 . exact ⟨A0, c0, ⟨h.cell 0, h.cell 1, h.cell 2, h.cell 3, h.cell 4⟩, h0⟩
 . exact ⟨A1, c1, ⟨h.cell 5, h.cell 6, h.cell 7, h.cell 8, h.cell 9⟩, h1⟩⟩
theorem leaf_IsL {W : World} {Q : Nat -> Prop} {t : T} {A : Option Addr} (h : t.k = 0) (hn : t ≠ T.nil) : IsL W Q t A := by
 cases t with
 | nil => exact absurd rfl hn
 | mk kind n s op k ch => intro h0; have : k = 0 := h; omega
set_option maxRecDepth 20000 in
set_option maxHeartbeats 1600000 in
theorem r10Item_none (w : World) : Calls Tryz.prog 73 #[EV.v ⟨1, [110, 111, 110, 101], 0, 0⟩] w (fun r w' => ∃ A, r = .returned (itemV (eidT ⟨1, [110, 111, 110, 101], 0, 0⟩) A 2) /\ Ext w w' /\ IsL w' (fun b => w.heap.size <= b) (eidT ⟨1, [110, 111, 110, 101], 0, 0⟩) A) := by
 go_enter Tryz.func73, Tryz.ntmps73
 go_wp2_with fail
 refine bodyPost_ret (v := itemV (eidT ⟨1, [110, 111, 110, 101], 0, 0⟩) (some ⟨w.heap.size + 1 + 1 + 1, 0, none⟩) 2) (by simp [results, Tryz.results73, go_sem]; exact ⟨rfl, rfl, rfl, rfl, rfl⟩) rfl ?_
 refine ⟨_, rfl, ((((Mod.refl _ _).alloc _).alloc _).alloc _).alloc _, ?_⟩
 exact two_IsL (numT 1) (numT 0) none none 0 0 (show w.heap.size <= w.heap.size + 1 + 1 + 1 by omega) (Blk.new' _ _ _ (by simp)) (leaf_IsL rfl (by simp [numT])) (leaf_IsL rfl (by simp [numT]))
set_option maxRecDepth 20000 in
set_option maxHeartbeats 1600000 in
theorem r10Item_dtn (name : List UInt8) (hn : name ≠ [110, 111, 110, 101]) (w : World) : Calls Tryz.prog 73 #[EV.v ⟨1, name, 0, 0⟩] w (fun r w' => ∃ A, r = .returned (itemV (eidT ⟨1, name, 0, 0⟩) A 2) /\ Ext w w' /\ IsL w' (fun b => w.heap.size <= b) (eidT ⟨1, name, 0, 0⟩) A) := by
 have h0 : ¬ name = noneL := hn
 have e1 : eidT ⟨1, name, 0, 0⟩ = T.mk 4 0 [] false 2 fun i => if i = 0 then numT 1 else textT name := by simp [eidT, twoT, h0]
 rw [e1]
 have n1 : (name == [110, 111, 110, 101]) = false := by simpa using hn
 have n2 : (name = [110, 111, 110, 101]) = False := by simpa using hn
 have n3 : (name != [110, 111, 110, 101]) = true := by simpa using hn
 clear e1 h0 hn
 go_enter Tryz.func73, Tryz.ntmps73
 go_wp2_with fail
 refine bodyPost_ret (v := itemV (T.mk 4 0 [] false 2 fun i => if i = 0 then numT 1 else textT name) (some ⟨w.heap.size + 1 + 1 + 1, 0, none⟩) 2) (by simp [results, Tryz.results73, go_sem]; exact ⟨rfl, rfl, rfl, rfl, rfl⟩) rfl ?_
 refine ⟨_, rfl, ((((Mod.refl _ _).alloc _).alloc _).alloc _).alloc _, ?_⟩
 exact two_IsL (numT 1) (textT name) none none 0 0 (show w.heap.size <= w.heap.size + 1 + 1 + 1 by omega) (Blk.new' _ _ _ (by simp)) (leaf_IsL rfl (by simp [numT])) (leaf_IsL rfl (by simp [textT]))
set_option maxRecDepth 20000 in
set_option maxHeartbeats 1600000 in
theorem r10Item_ipn (node svc : Nat) (w : World) : Calls Tryz.prog 73 #[EV.v ⟨2, [], node, svc⟩] w (fun r w' => ∃ A, r = .returned (itemV (eidT ⟨2, [], node, svc⟩) A 2) /\ Ext w w' /\ IsL w' (fun b => w.heap.size <= b) (eidT ⟨2, [], node, svc⟩) A) := by
 go_enter Tryz.func73, Tryz.ntmps73
 go_wp2_with fail
 refine bodyPost_ret (v := itemV (eidT ⟨2, [], node, svc⟩) (some ⟨w.heap.size + 1 + 1 + 1 + 1, 0, none⟩) 2) (by simp [results, Tryz.results73, go_sem]; exact ⟨rfl, rfl, rfl, rfl, rfl⟩) rfl ?_
 refine ⟨_, rfl, (((((Mod.refl _ _).alloc _).alloc _).alloc _).alloc _).alloc _, ?_⟩
 refine two_IsL (numT 2) (T.mk 4 0 [] false 2 (fun j => if j = 0 then numT node else numT svc)) none (some ⟨w.heap.size + 1 + 1 + 1, 0, none⟩) 0 2 (show w.heap.size <= w.heap.size + 1 + 1 + 1 + 1 by omega) (Blk.new' _ _ _ (by simp)) (leaf_IsL rfl (by simp [numT])) ?_
 exact two_IsL (numT node) (numT svc) none none 0 0 (show w.heap.size <= w.heap.size + 1 + 1 + 1 by omega) ((Blk.new' _ _ _ (by simp)).alloc _) (leaf_IsL rfl (by simp [numT])) (leaf_IsL rfl (by simp [numT]))
theorem r10Item_ok (e : EV) (ho : e.ok = true) (w : World) : Calls Tryz.prog 73 #[e.v] w (fun r w' => ∃ A, r = .returned (itemV (eidT e) A 2) /\ Ext w w' /\ IsL w' (fun b => w.heap.size <= b) (eidT e) A) := by
 rcases EV.ok_cases ho with rfl | ⟨name, rfl, hn, hl⟩ | ⟨node, svc, rfl, ha, hb⟩
 . exact r10Item_none w
 . exact r10Item_dtn name hn w
 . exact r10Item_ipn node svc w
def listT (L : List T) : T := T.mk 4 0 [] false L.length fun i => (L[i]?).getD T.nil
theorem catR_list (g : T -> List UInt8) : ∀ L : List T, T.catR (fun i => g ((L[i]?).getD T.nil)) L.length = (L.map g).flatten
 | [] => rfl
 | x :: L => by
  rw [List.length_cons, T.catR, List.map_cons, List.flatten_cons, <- catR_list g L]
  rfl
theorem listT_bytes (L : List T) : (listT L).bytes = headL 4 L.length ++ (L.map T.bytes).flatten := by
 unfold listT
 rw [T.bytes, if_neg (by decide), if_neg (by decide), T.cat_eq, catR_list]
 simp
theorem getD_mem {L : List T} {i : Nat} (h : i < L.length) : (L[i]?).getD T.nil ∈ L := by
 rw [List.getElem?_eq_getElem h]; exact List.getElem_mem h
theorem listT_ok {L : List T} (hl : L.length < 4611686018427387904) (h : ∀ t ∈ L, t.ok) : (listT L).ok := by
 unfold listT T.ok
 exact ⟨by omega, by omega, by simp, hl, fun i hi => h _ (getD_mem hi)⟩
theorem listT_right {L : List T} {d : Nat} (hd : 1 <= d) (hl : L.length <= 1000) (h : ∀ t ∈ L, t.right (d - 1) = true) : (listT L).right d = true := by
 unfold listT T.right
 rw [if_neg (by omega), Bool.and_eq_true, T.all_iff]
 refine ⟨?_, fun i hi => h _ (getD_mem hi)⟩
 simp [T.node, hl]
theorem sum_le_each {f : Nat -> Nat} {B k : Nat} (h : ∀ i, i < k -> f i <= B) : T.sum f k <= k * B := by
 induction k with
 | zero => simp [T.sum]
 | succ k ih =>
  have := ih (fun i hi => h i (by omega))
  have := h k (by omega)
  rw [T.sum, Nat.succ_mul]; omega
theorem listT_size {L : List T} {B : Nat} (h : ∀ t ∈ L, t.size <= B) : (listT L).size <= 1 + L.length * B := by
 unfold listT T.size
 have := sum_le_each (f := fun i => ((L[i]?).getD T.nil).size) (B := B) (k := L.length) (fun i hi => h _ (getD_mem hi))
 simp; omega
theorem numT_all (n : Nat) (h : n < 18446744073709551616) : (numT n).ok /\ (∀ d, 1 <= d -> (numT n).right d = true) /\ (numT n).size <= 100 /\ (numT n).bytes = headL 0 n := by
 refine ⟨num_ok h, fun d hd => ?_, by simp [numT, T.size, T.sum], rfl⟩
 unfold numT T.right
 rw [if_neg (by omega)]
 simp [T.node, T.all]
theorem strT_all {s : List UInt8} (h : s.length <= 90) : (strT s).ok /\ (∀ d, 1 <= d -> (strT s).right d = true) /\ (strT s).size <= 100 /\ (strT s).bytes = headL 2 s.length ++ s := by
 refine ⟨str_ok (by omega), fun d hd => ?_, ?_, rfl⟩
 .
  unfold strT T.right
  rw [if_neg (by omega)]
  simp [T.node, T.all]
 . simp [strT, T.size, T.sum]; omega
theorem eidT_small {e : EV} (ho : e.ok = true) : (eidT e).size <= 100 := by
 rcases EV.ok_cases ho with rfl | ⟨name, rfl, hn, hl⟩ | ⟨node, svc, rfl, ha, hb⟩
 . decide
 .
  have h0 : ¬ name = noneL := hn
  have e1 : twoT ⟨1, name, 0, 0⟩ = textT name := by simp [twoT, h0]
  simp [eidT, e1, T.size, T.sum, numT, textT]; omega
 . simp [eidT, twoT, T.size, T.sum, numT]
/- A primary. -/
def PV.ranged (p : PV) : Bool := p.d.ok && (p.s.ok && (p.r.ok && decide (0 <= p.crc /\ p.crc <= 2 /\ p.fl < 2097152 /\ p.t <= 1099511627776 /\ p.q <= 1099511627776 /\ p.l <= 1099511627776 /\ p.o <= 1099511627776 /\ p.n <= 1099511627776)))
def PV.none (p : PV) : Prop := p.s.sch = 1 /\ p.s.name = noneL
instance (p : PV) : Decidable p.none := by unfold PV.none; infer_instance
def PV.right (p : PV) : Int :=
 if p.ranged = false then 1
 else if (p.fl % 2 = 1 /\ (p.fl / 4 % 2 = 1 \/ p.n <= p.o)) \/ (¬ p.fl % 2 = 1 /\ (0 < p.o \/ 0 < p.n)) then 8
 else if ((p.fl / 16384 % 2 = 1 \/ p.fl / 262144 % 2 = 1) /\ (p.none \/ p.fl / 2 % 2 = 1)) \/ (p.none /\ ¬ p.fl / 4 % 2 = 1) then 8
 else 0
theorem PV.ranged_spec {p : PV} (h : p.ranged = true) : p.d.ok = true /\ p.s.ok = true /\ p.r.ok = true /\ 0 <= p.crc /\ p.crc <= 2 /\ p.fl < 2097152 /\ p.t <= 1099511627776 /\ p.q <= 1099511627776 /\ p.l <= 1099511627776 /\ p.o <= 1099511627776 /\ p.n <= 1099511627776 := by
 unfold PV.ranged at h
 simp only [Bool.and_eq_true, decide_eq_true_eq] at h
 exact ⟨h.1, h.2.1, h.2.2.1, h.2.2.2⟩
theorem PV.right_ranged {p : PV} (h : p.right = 0) : p.ranged = true := by
 unfold PV.right at h
 cases hr : p.ranged with
 | true => rfl
 | false => rw [hr, if_pos rfl] at h; exact absurd h (by decide)
def priL (p : PV) (k : Nat) (sum : List UInt8) : List T :=
 [numT 7, numT p.fl, numT k, eidT p.d, eidT p.s, eidT p.r, listT [numT p.t, numT p.q], numT p.l] ++ ((if p.fl % 2 = 1 then [numT p.o, numT p.n] else []) ++ (if k = 0 then [] else [strT sum]))
def priT (p : PV) (k : Nat) (sum : List UInt8) : T := listT (priL p k sum)
def priN (p : PV) (k : Nat) : Nat := 8 + ((if p.fl % 2 = 1 then 2 else 0) + (if k = 0 then 0 else 1))
theorem priL_length (p : PV) (k : Nat) (sum : List UInt8) : (priL p k sum).length = priN p k := by
 unfold priL priN
 split <;> split <;> simp
def priB (p : PV) (k : Nat) (sum : List UInt8) : List UInt8 :=
 headL 4 (priN p k) ++ (headL 0 7 ++ (headL 0 p.fl ++ (headL 0 k ++ ((eidT p.d).bytes ++ ((eidT p.s).bytes ++ ((eidT p.r).bytes ++ (headL 4 2 ++ (headL 0 p.t ++ (headL 0 p.q ++ (headL 0 p.l ++
 ((if p.fl % 2 = 1 then headL 0 p.o ++ headL 0 p.n else []) ++ (if k = 0 then [] else headL 2 sum.length ++ sum))))))))))))
theorem priT_bytes (p : PV) (k : Nat) (sum : List UInt8) : (priT p k sum).bytes = priB p k sum := by
 unfold priT
 rw [listT_bytes, priL_length]
 unfold priL priB
 have e : (listT [numT p.t, numT p.q]).bytes = headL 4 2 ++ (headL 0 p.t ++ headL 0 p.q) := by
  rw [listT_bytes]; simp [show ∀ n, (numT n).bytes = headL 0 n from fun n => rfl]
 by_cases h1 : p.fl % 2 = 1 <;> by_cases h2 : k = 0 <;>
  simp [h1, h2, e, show ∀ n, (numT n).bytes = headL 0 n from fun n => rfl, show ∀ s, (strT s).bytes = headL 2 s.length ++ s from fun s => rfl]
theorem priT_all {p : PV} (h : p.ranged = true) {k : Nat} (hk : k <= 2) {sum : List UInt8} (hs : sum.length <= 90) : (priT p k sum).ok /\ (∀ d, 4 <= d -> (priT p k sum).right d = true) /\ (priT p k sum).size <= 4000 := by
 obtain ⟨h1, h2, h3, h4, h5, h6, h7, h8, h9, h10, h11⟩ := PV.ranged_spec h
 have hm : ∀ t ∈ priL p k sum, t.ok /\ (∀ d, 3 <= d -> t.right d = true) /\ t.size <= 350 := by
  intro t ht
  have num : ∀ n, n < 18446744073709551616 -> (numT n).ok /\ (∀ d, 3 <= d -> (numT n).right d = true) /\ (numT n).size <= 350 := fun n hn => by
   obtain ⟨a, b, c, _⟩ := numT_all n hn
   exact ⟨a, fun d hd => b d (by omega), by omega⟩
  have eid : ∀ e : EV, e.ok = true -> (eidT e).ok /\ (∀ d, 3 <= d -> (eidT e).right d = true) /\ (eidT e).size <= 350 := fun e he => by
   obtain ⟨a, b, _, _⟩ := eidT_ok he
   exact ⟨a, b, by have := eidT_small he; omega⟩
  unfold priL at ht
  rw [List.mem_append, List.mem_append] at ht
  rcases ht with ht | ht | ht
  .
   simp only [List.mem_cons, List.not_mem_nil, or_false] at ht
   rcases ht with rfl | rfl | rfl | rfl | rfl | rfl | rfl | rfl
   . exact num 7 (by decide)
   . exact num _ (by omega)
   . exact num _ (by omega)
   . exact eid _ h1
   . exact eid _ h2
   . exact eid _ h3
   .
    have a := numT_all p.t (by omega)
    have b := numT_all p.q (by omega)
    refine ⟨listT_ok (by simp) ?_, fun d hd => listT_right (by omega) (by simp) ?_, ?_⟩
    .
     intro t ht
     simp only [List.mem_cons, List.not_mem_nil, or_false] at ht
     rcases ht with rfl | rfl
     . exact a.1
     . exact b.1
    .
     intro t ht
     simp only [List.mem_cons, List.not_mem_nil, or_false] at ht
     rcases ht with rfl | rfl
     . exact a.2.1 _ (by omega)
     . exact b.2.1 _ (by omega)
    .
     have := listT_size (L := [numT p.t, numT p.q]) (B := 100) (by
      intro t ht
      simp only [List.mem_cons, List.not_mem_nil, or_false] at ht
      rcases ht with rfl | rfl
      . exact a.2.2.1
      . exact b.2.2.1)
     simp at this
     omega
   . exact num _ (by omega)
  .
   split at ht
   .
    simp only [List.mem_cons, List.not_mem_nil, or_false] at ht
    rcases ht with rfl | rfl
    . exact num _ (by omega)
    . exact num _ (by omega)
   . cases ht
  .
   split at ht
   . cases ht
   .
    simp only [List.mem_cons, List.not_mem_nil, or_false] at ht
    subst ht
    obtain ⟨a, b, c, _⟩ := strT_all hs
    exact ⟨a, fun d hd => b d (by omega), by omega⟩
 have hl : (priL p k sum).length <= 11 := by rw [priL_length]; unfold priN; split <;> split <;> omega
 refine ⟨listT_ok (by omega) fun t ht => (hm t ht).1, fun d hd => listT_right (by omega) (by omega) fun t ht => (hm t ht).2.1 _ (by omega), ?_⟩
 have := listT_size (L := priL p k sum) (B := 350) fun t ht => (hm t ht).2.2
 have h2 : (priL p k sum).length * 350 <= 11 * 350 := Nat.mul_le_mul_right _ hl
 show (listT (priL p k sum)).size <= 4000
 omega
def layRep_ren : Shelf.Ren where
 f := fun x => match x with
  | 105 => 150
  | 212 => 161
  | 99 => 162
  | 165 => 163
  | 166 => 164
  | 170 => 165
  | 169 => 166
  | 263 => 169
  | 264 => 170
  | 206 => 157
  | 240 => 171
  | 241 => 172
  | 276 => 175
  | 277 => 176
  | n => n
 t := fun x => match x with
  | 9 => 9
  | 3 => 3
  | 4 => 4
  | 20 => 20
  | 0 => 0
  | 46 => 155
  | 109 => 184
  | 5 => 5
  | 72 => 188
  | 76 => 192
  | 51 => 47
  | 146 => 197
  | 53 => 22
  | 148 => 199
  | 70 => 186
  | 37 => 100
  | 75 => 191
  | 127 => 201
  | 164 => 204
  | 80 => 194
  | n => n
 g := fun n => n
theorem layRep : Lays.n105 Tryz.prog layRep_ren where
 mixed := by kernel_rfl
 f105 := Tryz.func150.trans (by kernel_rfl)
 f212 := Tryz.func161.trans (by kernel_rfl)
 f99 := Tryz.func162.trans (by kernel_rfl)
 f165 := Tryz.func163.trans (by kernel_rfl)
 f166 := Tryz.func164.trans (by kernel_rfl)
 f170 := Tryz.func165.trans (by kernel_rfl)
 f169 := Tryz.func166.trans (by kernel_rfl)
 f263 := Tryz.func169.trans (by kernel_rfl)
 f264 := Tryz.func170.trans (by kernel_rfl)
 f206 := Tryz.func157.trans (by kernel_rfl)
 f240 := Tryz.func171.trans (by kernel_rfl)
 f241 := Tryz.func172.trans (by kernel_rfl)
 f276 := Tryz.func175.trans (by kernel_rfl)
 f277 := Tryz.func176.trans (by kernel_rfl)
 t9 := vqD
 a9 := Tryz.isAgg9
 z9 := Tryz.sizeOf9
 v9 := Tryz.zeroValue9
 t3 := vqH
 a3 := Tryz.isAgg3
 z3 := Tryz.sizeOf3
 v3 := Tryz.zeroValue3
 t4 := Tryz.underlying4
 a4 := Tryz.isAgg4
 z4 := Tryz.sizeOf4
 v4 := Tryz.zeroValue4
 t20 := Tryz.underlying20
 a20 := Tryz.isAgg20
 z20 := Tryz.sizeOf20
 v20 := Tryz.zeroValue20
 t0 := Tryz.underlying0
 a0 := Tryz.isAgg0
 z0 := Tryz.sizeOf0
 v0 := Tryz.zeroValue0
 t46 := Tryz.underlying155
 a46 := Tryz.isAgg155
 z46 := Tryz.sizeOf155
 v46 := Tryz.zeroValue155
 t109 := Tryz.underlying184
 a109 := Tryz.isAgg184
 z109 := Tryz.sizeOf184
 v109 := Tryz.zeroValue184
 t5 := vqE
 a5 := Tryz.isAgg5
 z5 := Tryz.sizeOf5
 v5 := Tryz.zeroValue5
 t72 := Tryz.underlying188
 a72 := Tryz.isAgg188
 z72 := Tryz.sizeOf188
 v72 := Tryz.zeroValue188
 t76 := Tryz.underlying192
 a76 := Tryz.isAgg192
 z76 := Tryz.sizeOf192
 v76 := Tryz.zeroValue192
 t51 := Tryz.underlying47
 a51 := Tryz.isAgg47
 z51 := Tryz.sizeOf47
 v51 := Tryz.zeroValue47
 t146 := Tryz.underlying197
 a146 := Tryz.isAgg197
 z146 := Tryz.sizeOf197
 v146 := Tryz.zeroValue197
 t53 := Tryz.underlying22
 a53 := Tryz.isAgg22
 z53 := Tryz.sizeOf22
 v53 := Tryz.zeroValue22
 t148 := Tryz.underlying199
 a148 := Tryz.isAgg199
 z148 := Tryz.sizeOf199
 v148 := Tryz.zeroValue199
 t70 := Tryz.underlying186
 a70 := Tryz.isAgg186
 z70 := Tryz.sizeOf186
 v70 := Tryz.zeroValue186
 t37 := vqB
 a37 := Tryz.isAgg100
 z37 := Tryz.sizeOf100
 v37 := Tryz.zeroValue100
 t75 := Tryz.underlying191
 a75 := Tryz.isAgg191
 z75 := Tryz.sizeOf191
 v75 := Tryz.zeroValue191
 t127 := Tryz.underlying201
 a127 := Tryz.isAgg201
 z127 := Tryz.sizeOf201
 v127 := Tryz.zeroValue201
 t164 := Tryz.underlying204
 a164 := Tryz.isAgg204
 z164 := Tryz.sizeOf204
 v164 := Tryz.zeroValue204
theorem layRepX : Builder.Extra Tryz.prog layRep_ren where
 sizeBuilder := by kernel_rfl
 liesBuilder := by kernel_rfl
 t5 := vqE
 a5 := Tryz.isAgg5
 z5 := Tryz.sizeOf5
 v5 := Tryz.zeroValue5
 infoByte := by kernel_rfl
 cellsByte := by kernel_rfl
 sizeByte := by kernel_rfl
 neB5 := by decide
theorem repeat0 (k : Nat) : Lib.repeatL [0] k = List.replicate k (0 : UInt8) := by
 induction k with
 | zero => rfl
 | succ k ih => rw [Lib.repeatL, ih, List.replicate_succ]; rfl
theorem Repeat_zero (k : Nat) (hk : k <= 1000) (w : World) : Calls Tryz.prog 150 #[.string ⟨#[0]⟩, .int .i64 (k : Int)] w (Ret (str (List.replicate k 0)) w) := by
 refine (Any.strings_Repeat layRep layRepX ⟨#[0]⟩ k w (by omega) (by show 1 * k <= _; omega)).mono fun e w' ⟨he, hb⟩ => ⟨?_, Mod.of_below hb⟩
 rw [he]
 show Ending.returned (.string ⟨(Lib.repeatL [0] k).toArray⟩) = _
 rw [repeat0]
set_option maxRecDepth 20000 in
set_option maxHeartbeats 1600000 in
theorem Same_any (a b : T) (hoa : a.ok) (hob : b.ok) (A B : Option Addr) (c d : Nat) (w : World) (ha : IsL w (fun _ => True) a A) (hb : IsL w (fun _ => True) b B) :
  Calls Tryz.prog 139 #[itemV a A c, itemV b B d] w (Ret (.bool (a.right 8 && b.right 8 && a.same b)) w) := by
 have H := hid ha; have H' := hid hb; have HO := hid hoa; have HO' := hid hob
 have HBa : Hid (Blk ((w.alloc (.cells (itemC a A c) 86)).alloc (.cells (itemC b B d) 86)) w.heap.size 86 (itemC a A c)) := (Blk.new _ _ _).alloc _
 have HBb : Hid (Blk ((w.alloc (.cells (itemC a A c) 86)).alloc (.cells (itemC b B d) 86)) (w.heap.size + 1) 86 (itemC b B d)) := Blk.new' _ _ _ (by simp)
 have HE0 := hid (((Mod.refl [] w).alloc (.cells (itemC a A c) 86)).alloc (.cells (itemC b B d) 86))
 clear ha hb hoa hob
 go_enter Tryz.func139, Tryz.ntmps139
 go_wp2_with fail
 refine (iRight_any a HO.out A c _ (H.out.ext HE0.out)).mono ?_
 rintro e w2 ⟨rfl, hb2⟩
 have HE2 := hid (HE0.out.trans hb2)
 have hBa2 := HBa.out.ext hb2
 have hBb2 := HBb.out.ext hb2
 have ca0 : w2.cell? ⟨w.heap.size, 0, none⟩ = some (.int .i64 a.kind) := hBa2.cell 0
 have ca1 : w2.cell? ⟨w.heap.size, 1, none⟩ = some (.int .u64 (a.n : Int)) := hBa2.cell 1
 have ca2 : w2.cell? ⟨w.heap.size, 2, none⟩ = some (str a.s) := hBa2.cell 2
 have ca3 : w2.cell? ⟨w.heap.size, 3, none⟩ = some (.slice A a.k c) := hBa2.cell 3
 have ca4 : w2.cell? ⟨w.heap.size, 4, none⟩ = some (.bool a.op) := hBa2.cell 4
 have cb0 : w2.cell? ⟨w.heap.size + 1, 0, none⟩ = some (.int .i64 b.kind) := hBb2.cell 0
 have cb1 : w2.cell? ⟨w.heap.size + 1, 1, none⟩ = some (.int .u64 (b.n : Int)) := hBb2.cell 1
 have cb2 : w2.cell? ⟨w.heap.size + 1, 2, none⟩ = some (str b.s) := hBb2.cell 2
 have cb3 : w2.cell? ⟨w.heap.size + 1, 3, none⟩ = some (.slice B b.k d) := hBb2.cell 3
 have cb4 : w2.cell? ⟨w.heap.size + 1, 4, none⟩ = some (.bool b.op) := hBb2.cell 4
 have HA2 := hid hBa2; have HB2 := hid hBb2
 clear hBa2 hBb2 hb2
 cases hr : a.right 8
 .
  have HR := hid hr
  clear hr
  go_wp2_with fail
  go_ret
  exact Ret.mk (by simp [show a.right 8 = false from HR.out]) HE2.out
 .
  have HR := hid hr
  clear hr
  go_wp2_with fail
  refine (iRight_any b HO'.out B d _ (H'.out.ext HE2.out)).mono ?_
  rintro e w3 ⟨rfl, hb3⟩
  have HE3 := hid (HE2.out.trans hb3)
  have hBa2 := HA2.out.ext hb3
  have hBb2 := HB2.out.ext hb3
  clear ca0 ca1 ca2 ca3 ca4 cb0 cb1 cb2 cb3 cb4
  have ca0 : w3.cell? ⟨w.heap.size, 0, none⟩ = some (.int .i64 a.kind) := hBa2.cell 0
  have ca1 : w3.cell? ⟨w.heap.size, 1, none⟩ = some (.int .u64 (a.n : Int)) := hBa2.cell 1
  have ca2 : w3.cell? ⟨w.heap.size, 2, none⟩ = some (str a.s) := hBa2.cell 2
  have ca3 : w3.cell? ⟨w.heap.size, 3, none⟩ = some (.slice A a.k c) := hBa2.cell 3
  have ca4 : w3.cell? ⟨w.heap.size, 4, none⟩ = some (.bool a.op) := hBa2.cell 4
  have cb0 : w3.cell? ⟨w.heap.size + 1, 0, none⟩ = some (.int .i64 b.kind) := hBb2.cell 0
  have cb1 : w3.cell? ⟨w.heap.size + 1, 1, none⟩ = some (.int .u64 (b.n : Int)) := hBb2.cell 1
  have cb2 : w3.cell? ⟨w.heap.size + 1, 2, none⟩ = some (str b.s) := hBb2.cell 2
  have cb3 : w3.cell? ⟨w.heap.size + 1, 3, none⟩ = some (.slice B b.k d) := hBb2.cell 3
  have cb4 : w3.cell? ⟨w.heap.size + 1, 4, none⟩ = some (.bool b.op) := hBb2.cell 4
  clear hBa2 hBb2 hb3
  cases hr : b.right 8
  .
   have HR2 := hid hr
   clear hr
   go_wp2_with fail
   go_ret
   exact Ret.mk (by simp [show b.right 8 = false from HR2.out]) HE3.out
  .
   have HR2 := hid hr
   clear hr
   go_wp2_with fail
   refine (same_any a b HO.out HO'.out A c B d _ (H.out.ext HE3.out) (H'.out.ext HE3.out)).mono ?_
   rintro e w4 ⟨rfl, hb4⟩
   go_wp2_with fail
   go_ret
   exact Ret.mk (by simp [show a.right 8 = true from HR.out, show b.right 8 = true from HR2.out]) (HE3.out.trans hb4)
structure Two (W : World) (g : Nat) (a b : T) (A B : Option Addr) (c d : Nat) : Prop where
 a0 : W.cell? ⟨g, 0, none⟩ = some (.int .i64 a.kind)
 a1 : W.cell? ⟨g, 1, none⟩ = some (.int .u64 (a.n : Int))
 a2 : W.cell? ⟨g, 2, none⟩ = some (str a.s)
 a3 : W.cell? ⟨g, 3, none⟩ = some (.slice A a.k c)
 a4 : W.cell? ⟨g, 4, none⟩ = some (.bool a.op)
 b0 : W.cell? ⟨g + 1, 0, none⟩ = some (.int .i64 b.kind)
 b1 : W.cell? ⟨g + 1, 1, none⟩ = some (.int .u64 (b.n : Int))
 b2 : W.cell? ⟨g + 1, 2, none⟩ = some (str b.s)
 b3 : W.cell? ⟨g + 1, 3, none⟩ = some (.slice B b.k d)
 b4 : W.cell? ⟨g + 1, 4, none⟩ = some (.bool b.op)
theorem Two.new (w : World) (a b : T) (A B : Option Addr) (c d : Nat) : Hid (∀ W, Ext ((w.alloc (.cells (itemC a A c) 86)).alloc (.cells (itemC b B d) 86)) W -> Two W w.heap.size a b A B c d) := fun W hW => by
 have h1 : Blk W w.heap.size 86 (itemC a A c) := ((Blk.new _ _ _).alloc _).ext hW
 have h2 : Blk W (w.heap.size + 1) 86 (itemC b B d) := (Blk.new' _ _ _ (by simp)).ext hW
 exact ⟨h1.cell 0, h1.cell 1, h1.cell 2, h1.cell 3, h1.cell 4, h2.cell 0, h2.cell 1, h2.cell 2, h2.cell 3, h2.cell 4⟩
set_option maxRecDepth 20000 in
theorem build_yes (t : T) (hok : t.ok) (hsz : t.size <= 100000) (hr : t.right 8 = true) (A : Option Addr) (c : Nat) (w : World) (h : IsL w (fun _ => True) t A) : Calls Tryz.prog 44 #[itemV t A c, .bool true] w (Ret (.tuple #[str t.bytes, .int .i64 0]) w) := by
 have K : Hid (∀ W, IsL W (fun _ => True) t A -> Calls Tryz.prog 70 #[itemV t A c] W (Ret (.tuple #[str t.bytes, .int .i64 0]) W)) := fun W hW => by
  have := iBuild_any t hok hsz A c W hW
  rw [buildV, hr] at this
  exact this
 have H := hid h
 clear hok hsz hr h
 go_enter Tryz.func44, Tryz.ntmps44
 go_wp2_with fail
 refine (K.out _ (H.out.ext ((Mod.refl _ _).alloc _))).mono ?_
 rintro e w1 ⟨rfl, hb1⟩
 have HE1 := hid (((Mod.refl [] w).alloc (.cells (itemC t A c) 86)).trans hb1)
 clear hb1
 go_wp2_with fail
 refine bodyPost_ret (v := .tuple #[str t.bytes, .int .i64 0]) (by simp [results, Tryz.results44, go_sem]) rfl (Ret.mk rfl HE1.out)
theorem numT_facts (n : Nat) : (numT n).size <= 100000 /\ (numT n).right 8 = true /\ (numT n).bytes = headL 0 n := by
 refine ⟨by simp [numT, T.size, T.sum], by simp [numT, T.right, T.node, T.all], by simp [numT, T.bytes]⟩
set_option maxRecDepth 20000 in
set_option maxHeartbeats 800000 in
theorem Age_yes (n : Nat) (h : n <= 1099511627776) (w : World) : Calls Tryz.prog 65 #[.int .u64 (n : Int)] w (Ret (.tuple #[str (headL 0 n), .int .i64 0]) w) := by
 have t1 : decide ((n : Int) <= 1099511627776) = true := by simp; omega
 have K := hid (fun W => build_yes (numT n) (num_ok (by omega)) (numT_facts n).1 (numT_facts n).2.1 none 0 W (leaf_IsL rfl (by simp [numT])))
 rw [(numT_facts n).2.2] at K
 clear h
 go_enter Tryz.func65, Tryz.ntmps65
 go_wp2_with fail
 refine (NumI_any _ _).mono ?_
 rintro e w1 ⟨rfl, hb1⟩
 go_wp2_with fail
 refine (K.out _).mono ?_
 rintro e w2 ⟨rfl, hb2⟩
 go_wp2_with fail
 refine bodyPost_ret (v := .tuple #[str (headL 0 n), .int .i64 0]) (by simp [results, Tryz.results65, go_sem]) rfl (Ret.mk rfl (hb1.trans hb2))
def mayB (l c : Int) : Bool := decide (1 <= l) && decide (l <= 255) && decide (0 <= c) && decide (c <= 255)
theorem may_any (l c : Int) (w : World) : Calls Tryz.prog 47 #[.agg #[.int .i64 l, .int .i64 c]] w (Ret (.bool (mayB l c)) w) := by
 unfold mayB
 go_enter Tryz.func47, Tryz.ntmps47
 go_wp2
 all_goals go_ret
 all_goals refine Ret.mk ?_ ((Mod.refl _ _).alloc _)
 all_goals simp
 all_goals (intros; omega)
def pairT2 (a b : Nat) : T := T.mk 4 0 [] false 2 fun i => if i = 0 then numT a else numT b
theorem pairT2_facts (a b : Nat) (ha : a < 18446744073709551616) (hb : b < 18446744073709551616) : (pairT2 a b).ok /\ (pairT2 a b).size <= 100000 /\ (pairT2 a b).right 8 = true /\ (pairT2 a b).bytes = 130 :: (headL 0 a ++ headL 0 b) := by
 refine ⟨?_, by simp [pairT2, numT, T.size, T.sum], by simp [pairT2, numT, T.right, T.node, T.all], ?_⟩
 .
  unfold pairT2 T.ok
  exact ⟨by omega, by omega, by simp, by omega, fun i hi => by dsimp only; split; exact num_ok ha; exact num_ok hb⟩
 .
  have : headL 4 2 = [130] := by decide
  simp [pairT2, numT, T.bytes, T.cat, this]
set_option maxRecDepth 20000 in
set_option maxHeartbeats 800000 in
theorem Hops_yes (l c : Nat) (h : mayB l c = true) (w : World) : Calls Tryz.prog 16 #[.int .i64 (l : Int), .int .i64 (c : Int)] w (Ret (.tuple #[str (130 :: (headL 0 l ++ headL 0 c)), .int .i64 0]) w) := by
 have KM := hid (fun W => may_any l c W)
 rw [h] at KM
 have hb : l <= 255 /\ c <= 255 := by simp [mayB] at h; omega
 obtain ⟨f1, f2, f3, f4⟩ := pairT2_facts l c (by omega) (by omega)
 have KB : Hid (∀ (A : Option Addr) (W : World), IsL W (fun _ => True) (pairT2 l c) A -> Calls Tryz.prog 44 #[.agg #[.int .i64 4, .int .u64 0, str [], .slice A 2 2, .bool false], .bool true] W (Ret (.tuple #[str (130 :: (headL 0 l ++ headL 0 c)), .int .i64 0]) W)) := fun A W hW => by
  have := build_yes (pairT2 l c) f1 f2 f3 A 2 W hW
  rw [f4] at this
  exact this
 have t1 : IntKind.u64.wrap (l : Int) = (l : Int) := IntWalk.u64_in _ (by omega)
 have t2 : IntKind.u64.wrap (c : Int) = (c : Int) := IntWalk.u64_in _ (by omega)
 clear h f1 f2 f3 f4
 go_enter Tryz.func16, Tryz.ntmps16
 go_wp2_with fail
 refine (NumI_any _ _).mono ?_
 rintro e w1 ⟨rfl, hb1⟩
 go_wp2_with fail
 refine (NumI_any _ _).mono ?_
 rintro e w2 ⟨rfl, hb2⟩
 have HE2 := hid (hb1.trans hb2)
 clear hb1 hb2
 go_wp2_with fail
 refine (ListV_any 2 _ 2 _).mono ?_
 rintro e w3 ⟨rfl, hb3⟩
 have HE3 := hid ((HE2.out.alloc _).trans hb3)
 have HL3 : Hid (IsL w3 (fun _ => True) (pairT2 l c) (some ⟨w2.heap.size, 0, none⟩)) := two_IsL (numT l) (numT c) none none 0 0 trivial ((Blk.new w2 86 #[.int .i64 0, .int .u64 (l : Int), str [], .slice none 0 0, .bool false, .int .i64 0, .int .u64 (c : Int), str [], .slice none 0 0, .bool false]).ext hb3) (leaf_IsL rfl (by simp [numT])) (leaf_IsL rfl (by simp [numT]))
 clear hb3 HE2
 go_wp2_with fail
 refine (KM.out _).mono ?_
 rintro e w4 ⟨rfl, hb4⟩
 have HE4 := hid (HE3.out.trans hb4)
 have HL4 := hid (HL3.out.ext hb4)
 clear hb4 HE3
 go_wp2_with fail
 refine (KB.out _ _ HL4.out).mono ?_
 rintro e w5 ⟨rfl, hb5⟩
 have HE5 := hid (HE4.out.trans hb5)
 clear hb5
 go_wp2_with fail
 refine bodyPost_ret (v := .tuple #[str (130 :: (headL 0 l ++ headL 0 c)), .int .i64 0]) (by simp [results, Tryz.results16, go_sem]) rfl (Ret.mk rfl HE5.out)
set_option maxRecDepth 20000 in
theorem Prev_yes (e : EV) (ho : e.ok = true) (w : World) : Calls Tryz.prog 31 #[e.v] w (Ret (.tuple #[str (eidT e).bytes, .int .i64 0]) w) := by
 have K := hid (fun W => eidItem_ok e ho W)
 obtain ⟨g1, g2, g3, g4⟩ := eidT_ok ho
 have KB := hid (fun A W => build_yes (eidT e) g1 g4 (g2 8 (by omega)) A 2 W)
 obtain ⟨sch, name, node, svc⟩ := e
 have HE := hid ((Mod.refl [] w).alloc (.cells (EV.c ⟨sch, name, node, svc⟩) 24))
 generalize eidT ⟨sch, name, node, svc⟩ = t at *
 clear g1 g2 g3 g4
 go_enter Tryz.func31, Tryz.ntmps31
 go_wp2_with fail
 refine (K.out _).mono ?_
 rintro e w1 ⟨A, rfl, hb1, hl1⟩
 have HE1 := hid (HE.out.trans hb1)
 have HL1 := hid hl1
 clear hb1 hl1
 go_wp2_with fail
 refine (KB.out A _ (IsL.weak (fun _ _ _ => trivial) _ (by first | exact HL1.out | exact HL1.out.ext ((Mod.refl _ _).alloc _)))).mono ?_
 rintro e w2 ⟨rfl, hb2⟩
 have HE2 := hid (Mod.trans (by first | exact HE1.out | exact HE1.out.alloc _) hb2)
 clear hb2
 go_wp2_with fail
 refine bodyPost_ret (v := .tuple #[str t.bytes, .int .i64 0]) (by simp [results, Tryz.results31, go_sem]) rfl (Ret.mk rfl HE2.out)
set_option maxRecDepth 20000 in
theorem r14Hops (l c : Nat) (hl : l <= 255) (hc : c <= 255) (w : World) : Calls Tryz.prog 11 #[.int .i64 (l : Int), .int .i64 (c : Int)] w (Ret (str (130 :: (headL 0 l ++ headL 0 c))) w) := by
 have K1 : Hid (∀ W, Calls Tryz.prog 28 #[.int .i64 0, .int .u64 (l : Int)] W (Ret (str (headL 0 l)) W)) := fun W => by simpa using rhead_in 0 (l : Int) (by omega) (by omega) (by omega) (by omega) W
 have K2 : Hid (∀ W, Calls Tryz.prog 28 #[.int .i64 0, .int .u64 (c : Int)] W (Ret (str (headL 0 c)) W)) := fun W => by simpa using rhead_in 0 (c : Int) (by omega) (by omega) (by omega) (by omega) W
 have t1 : IntKind.u64.wrap (l : Int) = (l : Int) := IntWalk.u64_in _ (by omega)
 have t2 : IntKind.u64.wrap (c : Int) = (c : Int) := IntWalk.u64_in _ (by omega)
 have g1 := headL_le 0 l
 have g2 := headL_le 0 c
 generalize headL 0 l = x at *
 generalize headL 0 c = y at *
 go_enter Tryz.func11, Tryz.ntmps11
 go_wp2_with fail
 refine (K1.out _).mono ?_
 rintro e w1 ⟨rfl, hb1⟩
 have hx1 : ¬ 9223372036854775807 < 1 + x.length := by omega
 go_wp2_with fail
 refine (K2.out _).mono ?_
 rintro e w2 ⟨rfl, hb2⟩
 have e1 : Value.string ((⟨#[130]⟩ : ByteArray) ++ ⟨x.toArray⟩) = str (130 :: x) := str_app [130] x
 rw [e1]
 have hx2 : ¬ 9223372036854775807 < (130 :: x).length + y.length := by simp; omega
 generalize hz : (130 : UInt8) :: x = z at *
 have HZ := hid hz; clear hz e1
 go_wp2_with fail
 go_ret
 exact Ret.mk (by rw [<- List.cons_append, HZ.out]; exact str_app _ _) (hb1.trans hb2)
theorem Find_none (w : World) : Calls Tryz.prog 42 #[.agg #[.int .u64 0, .int .i64 0, .int .i64 0, str [], .int .u64 0, .int .u64 0, .int .i64 0, str [], .int .u64 0, .int .u64 0, .int .i64 0, str [], .int .u64 0, .int .u64 0, .int .u64 0, .int .u64 0, .int .u64 0, .int .u64 0, .int .u64 0, .slice none 0 0], .int .i64 7] w (Ret (.tuple #[.agg #[.int .i64 0, .int .i64 0, .int .u64 0, .int .i64 0, str []], .bool false]) w) := by
 go_enter Tryz.func42, Tryz.ntmps42
 go_wp2_with fail
 go_loop [11] (fun i => i = .int .i64 0) (fun i => 0)
 case atStart => rfl
 case round =>
  subst hrel
  go_wp2_with fail
  refine bodyPost_ret (v := .tuple #[.agg #[.int .i64 0, .int .i64 0, .int .u64 0, .int .i64 0, str []], .bool false]) (by simp [results, Tryz.results42, go_sem]) rfl (Ret.mk rfl (((Mod.refl _ _).alloc _).alloc _))
end Go.Proofs.YthecmnbkjchjmaaGreat
