/-
 A right name's item, by the code and by the reference.
-/
import Derived.Test.YthecmnbkjchjmaaGreatMExtAgesai
import Derived.Test.YthecmnbkjchjmaaGreatMExtAgesaj

namespace Go.Proofs.YthecmnbkjchjmaaGreat
open Go.RowKit
set_option linter.unusedVariables false
set_option linter.unusedSimpArgs false

theorem EV.ok_cases {e : EV} (h : e.ok = true) : (e = ⟨1, [110, 111, 110, 101], 0, 0⟩) \/ (∃ name, e = ⟨1, name, 0, 0⟩ /\ name ≠ [110, 111, 110, 101] /\ name.length <= 60) \/ (∃ node svc, e = ⟨2, [], node, svc⟩ /\ node <= 4294967295 /\ svc <= 4294967295) := by
 obtain ⟨sch, name, node, svc⟩ := e
 unfold EV.ok at h
 simp only [] at h
 by_cases h1 : sch = 1
 .
  rw [if_pos h1] at h
  simp only [Bool.and_eq_true, decide_eq_true_eq] at h
  obtain ⟨⟨rfl, rfl⟩, hn⟩ := h
  subst h1
  by_cases h0 : name = [110, 111, 110, 101]
  . subst h0; exact .inl rfl
  .
   refine .inr (.inl ⟨name, rfl, h0, ?_⟩)
   have h00 : ¬ name = noneL := h0
   simp only [namedL, h00, decide_false, Bool.false_or, Bool.and_eq_true, decide_eq_true_eq] at hn
   by_cases hl : name.length <= 60
   . exact hl
   .
    exfalso
    apply hn.1
    unfold nodeN
    rw [if_neg (fun h => hl h.2)]
 .
  rw [if_neg h1] at h
  by_cases h2 : sch = 2
  .
   rw [if_pos h2] at h
   simp only [Bool.and_eq_true, decide_eq_true_eq] at h
   obtain ⟨⟨rfl, ha⟩, hb⟩ := h
   subst h2
   exact .inr (.inr ⟨node, svc, rfl, ha, hb⟩)
  .
   rw [if_neg h2] at h
   cases h
theorem eidItem_ok (e : EV) (ho : e.ok = true) (w : World) : Calls Tryz.prog 58 #[e.v] w (fun r w' => ∃ A, r = .returned (.tuple #[itemV (eidT e) A 2, .int .i64 0]) /\ Ext w w' /\ IsL w' (fun b => w.heap.size <= b) (eidT e) A) := by
 rcases EV.ok_cases ho with rfl | ⟨name, rfl, hn, hl⟩ | ⟨node, svc, rfl, ha, hb⟩
 . exact eidItem_none w
 . exact eidItem_dtn name (by unfold Hid; omega) hn ho w
 .
  have e1 : eidT ⟨2, [], node, svc⟩ = ipnT node svc := rfl
  rw [e1]
  exact eidItem_ipn node svc ha hb w
theorem text_ok {s : List UInt8} (h : s.length < 4611686018427387904) : (textT s).ok := by unfold textT T.ok; exact ⟨by omega, by omega, h, by omega, fun i hi => by omega⟩
theorem eidT_ok {e : EV} (ho : e.ok = true) : (eidT e).ok /\ (∀ d, 3 <= d -> (eidT e).right d = true) /\ (eidT e).plain = true /\ (eidT e).size <= 100000 := by
 rcases EV.ok_cases ho with rfl | ⟨name, rfl, hn, hl⟩ | ⟨node, svc, rfl, ha, hb⟩
 .
  refine ⟨?_, fun d hd => ?_, by decide, by decide⟩
  .
   unfold eidT T.ok
   exact ⟨by omega, by omega, by simp, by omega, fun i hi => by dsimp only; split; exact num_ok (by decide); exact num_ok (by decide)⟩
  .
   have h1 : ¬ d < 1 := by omega
   have h2 : ¬ d - 1 < 1 := by omega
   simp [eidT, twoT, noneL, T.right, h1, h2, T.node, T.all, numT]
 .
  have h0 : ¬ name = noneL := hn
  have e1 : twoT ⟨1, name, 0, 0⟩ = textT name := by simp [twoT, h0]
  refine ⟨?_, fun d hd => ?_, ?_, ?_⟩
  .
   unfold eidT T.ok
   exact ⟨by omega, by omega, by simp, by omega, fun i hi => by dsimp only; split; exact num_ok (by decide); rw [e1]; exact text_ok (by omega)⟩
  .
   have h1 : ¬ d < 1 := by omega
   have h2 : ¬ d - 1 < 1 := by omega
   simp [eidT, e1, T.right, h1, h2, T.node, T.all, numT, textT]
  . simp [eidT, e1, T.plain, T.node, T.all, numT, textT]
  . simp [eidT, e1, T.size, T.sum, numT, textT]; omega
 .
  refine ⟨?_, fun d hd => ?_, ?_, ?_⟩
  .
   unfold eidT T.ok
   refine ⟨by omega, by omega, by simp, by omega, fun i hi => ?_⟩
   dsimp only
   split
   . exact num_ok (by decide)
   .
    show (T.mk 4 0 [] false 2 (fun j => if j = 0 then numT node else numT svc)).ok
    unfold T.ok
    exact ⟨by omega, by omega, by simp, by omega, fun i hi => by dsimp only; split; exact num_ok (by omega); exact num_ok (by omega)⟩
  .
   have h1 : ¬ d < 1 := by omega
   have h2 : ¬ d - 1 < 1 := by omega
   have h3 : ¬ d - 1 - 1 < 1 := by omega
   simp [eidT, twoT, T.right, h1, h2, h3, T.node, T.all, numT]
  . simp [eidT, twoT, T.plain, T.node, T.all, numT]
  . simp [eidT, twoT, T.size, T.sum, numT]

theorem two_IsL {W : World} {Q : Nat -> Prop} {g : Nat} (t0 t1 : T) (A0 A1 : Option Addr) (c0 c1 : Nat) (q : Q g)
  (h : Blk W g 86 #[.int .i64 t0.kind, .int .u64 (t0.n : Int), str t0.s, .slice A0 t0.k c0, .bool t0.op, .int .i64 t1.kind, .int .u64 (t1.n : Int), str t1.s, .slice A1 t1.k c1, .bool t1.op]) (h0 : IsL W Q t0 A0) (h1 : IsL W Q t1 A1) : IsL W Q (T.mk 4 0 [] false 2 fun i => if i = 0 then t0 else t1) (some ⟨g, 0, none⟩) := fun _ => ⟨g, 0, rfl, h.lt, q, fun i hi => by
 have hi2 : i = 0 \/ i = 1 := by omega
 rcases hi2 with rfl | rfl
 . exact ⟨A0, c0, ⟨h.cell 0, h.cell 1, h.cell 2, h.cell 3, h.cell 4⟩, h0⟩
 . exact ⟨A1, c1, ⟨h.cell 5, h.cell 6, h.cell 7, h.cell 8, h.cell 9⟩, h1⟩⟩
theorem leaf_IsL {W : World} {Q : Nat -> Prop} {t : T} {A : Option Addr} (h : t.k = 0) (hn : t ≠ T.nil) : IsL W Q t A := by
 cases t with
 | nil => exact absurd rfl hn
 | mk kind n s op k ch => intro h0; have : k = 0 := h; omega

set_option maxRecDepth 20000 in
set_option maxHeartbeats 1600000 in
theorem r10Item_none (w : World) : Calls Tryz.prog 73 #[EV.v ⟨1, [110, 111, 110, 101], 0, 0⟩] w (fun r w' => ∃ A, r = .returned (itemV (eidT ⟨1, [110, 111, 110, 101], 0, 0⟩) A 2) /\ Ext w w' /\ IsL w' (fun b => w.heap.size <= b) (eidT ⟨1, [110, 111, 110, 101], 0, 0⟩) A) := by
 go_enter Tryz.func73, Tryz.ntmps73
 go_wp2_with fail
 refine bodyPost_ret (v := itemV (eidT ⟨1, [110, 111, 110, 101], 0, 0⟩) (some ⟨w.heap.size + 1 + 1 + 1, 0, none⟩) 2) (by simp [results, Tryz.results73, go_sem]; exact ⟨rfl, rfl, rfl, rfl, rfl⟩) rfl ?_
 refine ⟨_, rfl, ((((Mod.refl _ _).alloc _).alloc _).alloc _).alloc _, ?_⟩
 exact two_IsL (numT 1) (numT 0) none none 0 0 (show w.heap.size <= w.heap.size + 1 + 1 + 1 by omega) (Blk.new' _ _ _ (by simp)) (leaf_IsL rfl (by simp [numT])) (leaf_IsL rfl (by simp [numT]))
set_option maxRecDepth 20000 in
set_option maxHeartbeats 1600000 in
theorem r10Item_dtn (name : List UInt8) (hn : name ≠ [110, 111, 110, 101]) (w : World) : Calls Tryz.prog 73 #[EV.v ⟨1, name, 0, 0⟩] w (fun r w' => ∃ A, r = .returned (itemV (eidT ⟨1, name, 0, 0⟩) A 2) /\ Ext w w' /\ IsL w' (fun b => w.heap.size <= b) (eidT ⟨1, name, 0, 0⟩) A) := by
 have h0 : ¬ name = noneL := hn
 have e1 : eidT ⟨1, name, 0, 0⟩ = T.mk 4 0 [] false 2 fun i => if i = 0 then numT 1 else textT name := by simp [eidT, twoT, h0]
 rw [e1]
 have n1 : (name == [110, 111, 110, 101]) = false := by simpa using hn
 have n2 : (name = [110, 111, 110, 101]) = False := by simpa using hn
 have n3 : (name != [110, 111, 110, 101]) = true := by simpa using hn
 clear e1 h0 hn
 go_enter Tryz.func73, Tryz.ntmps73
 go_wp2_with fail
 refine bodyPost_ret (v := itemV (T.mk 4 0 [] false 2 fun i => if i = 0 then numT 1 else textT name) (some ⟨w.heap.size + 1 + 1 + 1, 0, none⟩) 2) (by simp [results, Tryz.results73, go_sem]; exact ⟨rfl, rfl, rfl, rfl, rfl⟩) rfl ?_
 refine ⟨_, rfl, ((((Mod.refl _ _).alloc _).alloc _).alloc _).alloc _, ?_⟩
 exact two_IsL (numT 1) (textT name) none none 0 0 (show w.heap.size <= w.heap.size + 1 + 1 + 1 by omega) (Blk.new' _ _ _ (by simp)) (leaf_IsL rfl (by simp [numT])) (leaf_IsL rfl (by simp [textT]))
set_option maxRecDepth 20000 in
set_option maxHeartbeats 1600000 in
theorem r10Item_ipn (node svc : Nat) (w : World) : Calls Tryz.prog 73 #[EV.v ⟨2, [], node, svc⟩] w (fun r w' => ∃ A, r = .returned (itemV (eidT ⟨2, [], node, svc⟩) A 2) /\ Ext w w' /\ IsL w' (fun b => w.heap.size <= b) (eidT ⟨2, [], node, svc⟩) A) := by
 go_enter Tryz.func73, Tryz.ntmps73
 go_wp2_with fail
 refine bodyPost_ret (v := itemV (eidT ⟨2, [], node, svc⟩) (some ⟨w.heap.size + 1 + 1 + 1 + 1, 0, none⟩) 2) (by simp [results, Tryz.results73, go_sem]; exact ⟨rfl, rfl, rfl, rfl, rfl⟩) rfl ?_
 refine ⟨_, rfl, (((((Mod.refl _ _).alloc _).alloc _).alloc _).alloc _).alloc _, ?_⟩
 refine two_IsL (numT 2) (T.mk 4 0 [] false 2 (fun j => if j = 0 then numT node else numT svc)) none (some ⟨w.heap.size + 1 + 1 + 1, 0, none⟩) 0 2 (show w.heap.size <= w.heap.size + 1 + 1 + 1 + 1 by omega) (Blk.new' _ _ _ (by simp)) (leaf_IsL rfl (by simp [numT])) ?_
 exact two_IsL (numT node) (numT svc) none none 0 0 (show w.heap.size <= w.heap.size + 1 + 1 + 1 by omega) ((Blk.new' _ _ _ (by simp)).alloc _) (leaf_IsL rfl (by simp [numT])) (leaf_IsL rfl (by simp [numT]))
theorem r10Item_ok (e : EV) (ho : e.ok = true) (w : World) : Calls Tryz.prog 73 #[e.v] w (fun r w' => ∃ A, r = .returned (itemV (eidT e) A 2) /\ Ext w w' /\ IsL w' (fun b => w.heap.size <= b) (eidT e) A) := by
 rcases EV.ok_cases ho with rfl | ⟨name, rfl, hn, hl⟩ | ⟨node, svc, rfl, ha, hb⟩
 . exact r10Item_none w
 . exact r10Item_dtn name hn w
 . exact r10Item_ipn node svc w
end Go.Proofs.YthecmnbkjchjmaaGreat


namespace Go.Proofs.YthecmnbkjchjmaaGreat
open Go.RowKit
set_option linter.unusedVariables false
set_option linter.unusedSimpArgs false

def listT (L : List T) : T := T.mk 4 0 [] false L.length fun i => (L[i]?).getD T.nil
theorem catR_list (g : T -> List UInt8) : ∀ L : List T, T.catR (fun i => g ((L[i]?).getD T.nil)) L.length = (L.map g).flatten
 | [] => rfl
 | x :: L => by
  rw [List.length_cons, T.catR, List.map_cons, List.flatten_cons, <- catR_list g L]
  rfl
theorem listT_bytes (L : List T) : (listT L).bytes = headL 4 L.length ++ (L.map T.bytes).flatten := by
 unfold listT
 rw [T.bytes, if_neg (by decide), if_neg (by decide), T.cat_eq, catR_list]
 simp
theorem getD_mem {L : List T} {i : Nat} (h : i < L.length) : (L[i]?).getD T.nil ∈ L := by
 rw [List.getElem?_eq_getElem h]; exact List.getElem_mem h
theorem listT_ok {L : List T} (hl : L.length < 4611686018427387904) (h : ∀ t ∈ L, t.ok) : (listT L).ok := by
 unfold listT T.ok
 exact ⟨by omega, by omega, by simp, hl, fun i hi => h _ (getD_mem hi)⟩
theorem listT_right {L : List T} {d : Nat} (hd : 1 <= d) (hl : L.length <= 1000) (h : ∀ t ∈ L, t.right (d - 1) = true) : (listT L).right d = true := by
 unfold listT T.right
 rw [if_neg (by omega), Bool.and_eq_true, T.all_iff]
 refine ⟨?_, fun i hi => h _ (getD_mem hi)⟩
 simp [T.node, hl]
theorem sum_le_each {f : Nat -> Nat} {B k : Nat} (h : ∀ i, i < k -> f i <= B) : T.sum f k <= k * B := by
 induction k with
 | zero => simp [T.sum]
 | succ k ih =>
  have := ih (fun i hi => h i (by omega))
  have := h k (by omega)
  rw [T.sum, Nat.succ_mul]; omega
theorem listT_size {L : List T} {B : Nat} (h : ∀ t ∈ L, t.size <= B) : (listT L).size <= 1 + L.length * B := by
 unfold listT T.size
 have := sum_le_each (f := fun i => ((L[i]?).getD T.nil).size) (B := B) (k := L.length) (fun i hi => h _ (getD_mem hi))
 simp; omega
theorem numT_all (n : Nat) (h : n < 18446744073709551616) : (numT n).ok /\ (∀ d, 1 <= d -> (numT n).right d = true) /\ (numT n).size <= 100 /\ (numT n).bytes = headL 0 n := by
 refine ⟨num_ok h, fun d hd => ?_, by simp [numT, T.size, T.sum], rfl⟩
 unfold numT T.right
 rw [if_neg (by omega)]
 simp [T.node, T.all]
theorem strT_all {s : List UInt8} (h : s.length <= 90) : (strT s).ok /\ (∀ d, 1 <= d -> (strT s).right d = true) /\ (strT s).size <= 100 /\ (strT s).bytes = headL 2 s.length ++ s := by
 refine ⟨str_ok (by omega), fun d hd => ?_, ?_, rfl⟩
 .
  unfold strT T.right
  rw [if_neg (by omega)]
  simp [T.node, T.all]
 . simp [strT, T.size, T.sum]; omega
theorem eidT_small {e : EV} (ho : e.ok = true) : (eidT e).size <= 100 := by
 rcases EV.ok_cases ho with rfl | ⟨name, rfl, hn, hl⟩ | ⟨node, svc, rfl, ha, hb⟩
 . decide
 .
  have h0 : ¬ name = noneL := hn
  have e1 : twoT ⟨1, name, 0, 0⟩ = textT name := by simp [twoT, h0]
  simp [eidT, e1, T.size, T.sum, numT, textT]; omega
 . simp [eidT, twoT, T.size, T.sum, numT]

/- A primary. -/
def PV.ranged (p : PV) : Bool := p.d.ok && (p.s.ok && (p.r.ok && decide (0 <= p.crc /\ p.crc <= 2 /\ p.fl < 2097152 /\ p.t <= 1099511627776 /\ p.q <= 1099511627776 /\ p.l <= 1099511627776 /\ p.o <= 1099511627776 /\ p.n <= 1099511627776)))
def PV.none (p : PV) : Prop := p.s.sch = 1 /\ p.s.name = noneL
instance (p : PV) : Decidable p.none := by unfold PV.none; infer_instance
def PV.right (p : PV) : Int :=
 if p.ranged = false then 1
 else if (p.fl % 2 = 1 /\ (p.fl / 4 % 2 = 1 \/ p.n <= p.o)) \/ (¬ p.fl % 2 = 1 /\ (0 < p.o \/ 0 < p.n)) then 8
 else if ((p.fl / 16384 % 2 = 1 \/ p.fl / 262144 % 2 = 1) /\ (p.none \/ p.fl / 2 % 2 = 1)) \/ (p.none /\ ¬ p.fl / 4 % 2 = 1) then 8
 else 0
theorem PV.ranged_spec {p : PV} (h : p.ranged = true) : p.d.ok = true /\ p.s.ok = true /\ p.r.ok = true /\ 0 <= p.crc /\ p.crc <= 2 /\ p.fl < 2097152 /\ p.t <= 1099511627776 /\ p.q <= 1099511627776 /\ p.l <= 1099511627776 /\ p.o <= 1099511627776 /\ p.n <= 1099511627776 := by
 unfold PV.ranged at h
 simp only [Bool.and_eq_true, decide_eq_true_eq] at h
 exact ⟨h.1, h.2.1, h.2.2.1, h.2.2.2⟩
theorem PV.right_ranged {p : PV} (h : p.right = 0) : p.ranged = true := by
 unfold PV.right at h
 cases hr : p.ranged with
 | true => rfl
 | false => rw [hr, if_pos rfl] at h; exact absurd h (by decide)
def priL (p : PV) (k : Nat) (sum : List UInt8) : List T :=
 [numT 7, numT p.fl, numT k, eidT p.d, eidT p.s, eidT p.r, listT [numT p.t, numT p.q], numT p.l] ++ ((if p.fl % 2 = 1 then [numT p.o, numT p.n] else []) ++ (if k = 0 then [] else [strT sum]))
def priT (p : PV) (k : Nat) (sum : List UInt8) : T := listT (priL p k sum)
def priN (p : PV) (k : Nat) : Nat := 8 + ((if p.fl % 2 = 1 then 2 else 0) + (if k = 0 then 0 else 1))
theorem priL_length (p : PV) (k : Nat) (sum : List UInt8) : (priL p k sum).length = priN p k := by
 unfold priL priN
 split <;> split <;> simp
def priB (p : PV) (k : Nat) (sum : List UInt8) : List UInt8 :=
 headL 4 (priN p k) ++ (headL 0 7 ++ (headL 0 p.fl ++ (headL 0 k ++ ((eidT p.d).bytes ++ ((eidT p.s).bytes ++ ((eidT p.r).bytes ++ (headL 4 2 ++ (headL 0 p.t ++ (headL 0 p.q ++ (headL 0 p.l ++
 ((if p.fl % 2 = 1 then headL 0 p.o ++ headL 0 p.n else []) ++ (if k = 0 then [] else headL 2 sum.length ++ sum))))))))))))
theorem priT_bytes (p : PV) (k : Nat) (sum : List UInt8) : (priT p k sum).bytes = priB p k sum := by
 unfold priT
 rw [listT_bytes, priL_length]
 unfold priL priB
 have e : (listT [numT p.t, numT p.q]).bytes = headL 4 2 ++ (headL 0 p.t ++ headL 0 p.q) := by
  rw [listT_bytes]; simp [show ∀ n, (numT n).bytes = headL 0 n from fun n => rfl]
 by_cases h1 : p.fl % 2 = 1 <;> by_cases h2 : k = 0 <;>
  simp [h1, h2, e, show ∀ n, (numT n).bytes = headL 0 n from fun n => rfl, show ∀ s, (strT s).bytes = headL 2 s.length ++ s from fun s => rfl]
theorem priT_all {p : PV} (h : p.ranged = true) {k : Nat} (hk : k <= 2) {sum : List UInt8} (hs : sum.length <= 90) : (priT p k sum).ok /\ (∀ d, 4 <= d -> (priT p k sum).right d = true) /\ (priT p k sum).size <= 4000 := by
 obtain ⟨h1, h2, h3, h4, h5, h6, h7, h8, h9, h10, h11⟩ := PV.ranged_spec h
 have hm : ∀ t ∈ priL p k sum, t.ok /\ (∀ d, 3 <= d -> t.right d = true) /\ t.size <= 350 := by
  intro t ht
  have num : ∀ n, n < 18446744073709551616 -> (numT n).ok /\ (∀ d, 3 <= d -> (numT n).right d = true) /\ (numT n).size <= 350 := fun n hn => by
   obtain ⟨a, b, c, _⟩ := numT_all n hn
   exact ⟨a, fun d hd => b d (by omega), by omega⟩
  have eid : ∀ e : EV, e.ok = true -> (eidT e).ok /\ (∀ d, 3 <= d -> (eidT e).right d = true) /\ (eidT e).size <= 350 := fun e he => by
   obtain ⟨a, b, _, _⟩ := eidT_ok he
   exact ⟨a, b, by have := eidT_small he; omega⟩
  unfold priL at ht
  rw [List.mem_append, List.mem_append] at ht
  rcases ht with ht | ht | ht
  .
   simp only [List.mem_cons, List.not_mem_nil, or_false] at ht
   rcases ht with rfl | rfl | rfl | rfl | rfl | rfl | rfl | rfl
   . exact num 7 (by decide)
   . exact num _ (by omega)
   . exact num _ (by omega)
   . exact eid _ h1
   . exact eid _ h2
   . exact eid _ h3
   .
    have a := numT_all p.t (by omega)
    have b := numT_all p.q (by omega)
    refine ⟨listT_ok (by simp) ?_, fun d hd => listT_right (by omega) (by simp) ?_, ?_⟩
    .
     intro t ht
     simp only [List.mem_cons, List.not_mem_nil, or_false] at ht
     rcases ht with rfl | rfl
     . exact a.1
     . exact b.1
    .
     intro t ht
     simp only [List.mem_cons, List.not_mem_nil, or_false] at ht
     rcases ht with rfl | rfl
     . exact a.2.1 _ (by omega)
     . exact b.2.1 _ (by omega)
    .
     have := listT_size (L := [numT p.t, numT p.q]) (B := 100) (by
      intro t ht
      simp only [List.mem_cons, List.not_mem_nil, or_false] at ht
      rcases ht with rfl | rfl
      . exact a.2.2.1
      . exact b.2.2.1)
     simp at this
     omega
   . exact num _ (by omega)
  .
   split at ht
   .
    simp only [List.mem_cons, List.not_mem_nil, or_false] at ht
    rcases ht with rfl | rfl
    . exact num _ (by omega)
    . exact num _ (by omega)
   . cases ht
  .
   split at ht
   . cases ht
   .
    simp only [List.mem_cons, List.not_mem_nil, or_false] at ht
    subst ht
    obtain ⟨a, b, c, _⟩ := strT_all hs
    exact ⟨a, fun d hd => b d (by omega), by omega⟩
 have hl : (priL p k sum).length <= 11 := by rw [priL_length]; unfold priN; split <;> split <;> omega
 refine ⟨listT_ok (by omega) fun t ht => (hm t ht).1, fun d hd => listT_right (by omega) (by omega) fun t ht => (hm t ht).2.1 _ (by omega), ?_⟩
 have := listT_size (L := priL p k sum) (B := 350) fun t ht => (hm t ht).2.2
 have h2 : (priL p k sum).length * 350 <= 11 * 350 := Nat.mul_le_mul_right _ hl
 show (listT (priL p k sum)).size <= 4000
 omega
end Go.Proofs.YthecmnbkjchjmaaGreat
