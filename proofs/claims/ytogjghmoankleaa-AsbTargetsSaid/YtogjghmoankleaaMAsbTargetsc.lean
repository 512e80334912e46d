/-
  Lists of items, plainly; a primary's items and bytes; why it is not right.
  Primaries: flags; why one is not right, as the reference tells it.
  Primaries: why one is not right, as the code tells it.
  Bundles: the first block of a type, as the code finds it.
  Rows of blocks of the call's own: their cells; what is appended to them.
  A struct in the midst of a block, loaded in a region whose operations are held.
  Security texts, plainly: what is right; their items.
  Rows of elements of a fixed number of cells, plainly.
  Security texts: rows of numbers and of pairs in memory; numbers that are coded, and unlike.
  Security texts: numbers that are unlike; pairs that may be.
-/
import Derived.Test.YtogjghmoankleaaMAsbTargetsb
import Derived.Laws.BitsAllLaws
import Derived.Deep.AppendLies
import Derived.Deep.RegionLaw
import Derived.Laws.OwnMore
import Derived.OwnWalk
import Derived.OneCell

namespace Go.Proofs.Ytogjghmoankleaa
open Go.RowKit
set_option linter.unusedVariables false
set_option linter.unusedSimpArgs false

/-- An array of these items. -/
def listT (L : List T) : T := T.mk 4 0 [] false L.length fun i => (L[i]?).getD T.nil
theorem catR_list (g : T → List UInt8) : ∀ L : List T, T.catR (fun i => g ((L[i]?).getD T.nil)) L.length = (L.map g).flatten
  | [] => rfl
  | x :: L => by
    rw [List.length_cons, T.catR, List.map_cons, List.flatten_cons, ← catR_list g L]
    rfl
theorem listT_bytes (L : List T) : (listT L).bytes = headL 4 L.length ++ (L.map T.bytes).flatten := by
  unfold listT
  rw [T.bytes, if_neg (by decide), if_neg (by decide), T.cat_eq, catR_list]
  simp
theorem getD_mem {L : List T} {i : Nat} (h : i < L.length) : (L[i]?).getD T.nil ∈ L := by
  rw [List.getElem?_eq_getElem h]; exact List.getElem_mem h
theorem listT_ok {L : List T} (hl : L.length < 4611686018427387904) (h : ∀ t ∈ L, t.ok) : (listT L).ok := by
  unfold listT T.ok
  exact ⟨by omega, by omega, by simp, hl, fun i hi => h _ (getD_mem hi)⟩
theorem listT_right {L : List T} {d : Nat} (hd : 1 ≤ d) (hl : L.length ≤ 1000) (h : ∀ t ∈ L, t.right (d - 1) = true) : (listT L).right d = true := by
  unfold listT T.right
  rw [if_neg (by omega), Bool.and_eq_true, T.all_iff]
  refine ⟨?_, fun i hi => h _ (getD_mem hi)⟩
  simp [T.node, hl]
theorem sum_le_each {f : Nat → Nat} {B k : Nat} (h : ∀ i, i < k → f i ≤ B) : T.sum f k ≤ k * B := by
  induction k with
  | zero => simp [T.sum]
  | succ k ih =>
    have := ih (fun i hi => h i (by omega))
    have := h k (by omega)
    rw [T.sum, Nat.succ_mul]; omega
theorem listT_size {L : List T} {B : Nat} (h : ∀ t ∈ L, t.size ≤ B) : (listT L).size ≤ 1 + L.length * B := by
  unfold listT T.size
  have := sum_le_each (f := fun i => ((L[i]?).getD T.nil).size) (B := B) (k := L.length) (fun i hi => h _ (getD_mem hi))
  simp; omega
theorem numT_all (n : Nat) (h : n < 18446744073709551616) : (numT n).ok ∧ (∀ d, 1 ≤ d → (numT n).right d = true) ∧ (numT n).size ≤ 100 ∧ (numT n).bytes = headL 0 n := by
  refine ⟨num_ok h, fun d hd => ?_, by simp [numT, T.size, T.sum], rfl⟩
  unfold numT T.right
  rw [if_neg (by omega)]
  simp [T.node, T.all]
theorem strT_all {s : List UInt8} (h : s.length ≤ 90) : (strT s).ok ∧ (∀ d, 1 ≤ d → (strT s).right d = true) ∧ (strT s).size ≤ 100 ∧ (strT s).bytes = headL 2 s.length ++ s := by
  refine ⟨str_ok (by omega), fun d hd => ?_, ?_, rfl⟩
  · unfold strT T.right
    rw [if_neg (by omega)]
    simp [T.node, T.all]
  · simp [strT, T.size, T.sum]; omega
theorem eidT_small {e : EV} (ho : e.ok = true) : (eidT e).size ≤ 100 := by
  rcases EV.ok_cases ho with rfl | ⟨name, rfl, hn, hl⟩ | ⟨node, svc, rfl, ha, hb⟩
  · decide
  · have h0 : ¬ name = noneL := hn
    have e1 : twoT ⟨1, name, 0, 0⟩ = textT name := by simp [twoT, h0]
    simp [eidT, e1, T.size, T.sum, numT, textT]; omega
  · simp [eidT, twoT, T.size, T.sum, numT]

/- A primary. -/
def PV.ranged (p : PV) : Bool := p.d.ok && (p.s.ok && (p.r.ok && decide (0 ≤ p.crc ∧ p.crc ≤ 2 ∧ p.fl < 2097152 ∧ p.t ≤ 1099511627776 ∧ p.q ≤ 1099511627776 ∧ p.l ≤ 1099511627776 ∧ p.o ≤ 1099511627776 ∧ p.n ≤ 1099511627776)))
def PV.none (p : PV) : Prop := p.s.sch = 1 ∧ p.s.name = noneL
instance (p : PV) : Decidable p.none := by unfold PV.none; infer_instance
def PV.right (p : PV) : Int :=
  if p.ranged = false then 1
  else if (p.fl % 2 = 1 ∧ (p.fl / 4 % 2 = 1 ∨ p.n ≤ p.o)) ∨ (¬ p.fl % 2 = 1 ∧ (0 < p.o ∨ 0 < p.n)) then 8
  else if ((p.fl / 16384 % 2 = 1 ∨ p.fl / 262144 % 2 = 1) ∧ (p.none ∨ p.fl / 2 % 2 = 1)) ∨ (p.none ∧ ¬ p.fl / 4 % 2 = 1) then 8
  else 0
theorem PV.ranged_spec {p : PV} (h : p.ranged = true) : p.d.ok = true ∧ p.s.ok = true ∧ p.r.ok = true ∧ 0 ≤ p.crc ∧ p.crc ≤ 2 ∧ p.fl < 2097152 ∧ p.t ≤ 1099511627776 ∧ p.q ≤ 1099511627776 ∧ p.l ≤ 1099511627776 ∧ p.o ≤ 1099511627776 ∧ p.n ≤ 1099511627776 := by
  unfold PV.ranged at h
  simp only [Bool.and_eq_true, decide_eq_true_eq] at h
  exact ⟨h.1, h.2.1, h.2.2.1, h.2.2.2⟩
theorem PV.right_ranged {p : PV} (h : p.right = 0) : p.ranged = true := by
  unfold PV.right at h
  cases hr : p.ranged with
  | true => rfl
  | false => rw [hr, if_pos rfl] at h; exact absurd h (by decide)
/-- Its items, with a sum. -/
def priL (p : PV) (k : Nat) (sum : List UInt8) : List T :=
  [numT 7, numT p.fl, numT k, eidT p.d, eidT p.s, eidT p.r, listT [numT p.t, numT p.q], numT p.l] ++ ((if p.fl % 2 = 1 then [numT p.o, numT p.n] else []) ++ (if k = 0 then [] else [strT sum]))
def priT (p : PV) (k : Nat) (sum : List UInt8) : T := listT (priL p k sum)
def priN (p : PV) (k : Nat) : Nat := 8 + ((if p.fl % 2 = 1 then 2 else 0) + (if k = 0 then 0 else 1))
theorem priL_length (p : PV) (k : Nat) (sum : List UInt8) : (priL p k sum).length = priN p k := by
  unfold priL priN
  split <;> split <;> simp
/-- Its bytes, with a sum. -/
def priB (p : PV) (k : Nat) (sum : List UInt8) : List UInt8 :=
  headL 4 (priN p k) ++ (headL 0 7 ++ (headL 0 p.fl ++ (headL 0 k ++ ((eidT p.d).bytes ++ ((eidT p.s).bytes ++ ((eidT p.r).bytes ++ (headL 4 2 ++ (headL 0 p.t ++ (headL 0 p.q ++ (headL 0 p.l ++
  ((if p.fl % 2 = 1 then headL 0 p.o ++ headL 0 p.n else []) ++ (if k = 0 then [] else headL 2 sum.length ++ sum))))))))))))
theorem priT_bytes (p : PV) (k : Nat) (sum : List UInt8) : (priT p k sum).bytes = priB p k sum := by
  unfold priT
  rw [listT_bytes, priL_length]
  unfold priL priB
  have e : (listT [numT p.t, numT p.q]).bytes = headL 4 2 ++ (headL 0 p.t ++ headL 0 p.q) := by
    rw [listT_bytes]; simp [show ∀ n, (numT n).bytes = headL 0 n from fun n => rfl]
  by_cases h1 : p.fl % 2 = 1 <;> by_cases h2 : k = 0 <;>
    simp [h1, h2, e, show ∀ n, (numT n).bytes = headL 0 n from fun n => rfl, show ∀ s, (strT s).bytes = headL 2 s.length ++ s from fun s => rfl]
theorem priT_all {p : PV} (h : p.ranged = true) {k : Nat} (hk : k ≤ 2) {sum : List UInt8} (hs : sum.length ≤ 90) : (priT p k sum).ok ∧ (∀ d, 4 ≤ d → (priT p k sum).right d = true) ∧ (priT p k sum).size ≤ 4000 := by
  obtain ⟨h1, h2, h3, h4, h5, h6, h7, h8, h9, h10, h11⟩ := PV.ranged_spec h
  have hm : ∀ t ∈ priL p k sum, t.ok ∧ (∀ d, 3 ≤ d → t.right d = true) ∧ t.size ≤ 350 := by
    intro t ht
    have num : ∀ n, n < 18446744073709551616 → (numT n).ok ∧ (∀ d, 3 ≤ d → (numT n).right d = true) ∧ (numT n).size ≤ 350 := fun n hn => by
      obtain ⟨a, b, c, _⟩ := numT_all n hn
      exact ⟨a, fun d hd => b d (by omega), by omega⟩
    have eid : ∀ e : EV, e.ok = true → (eidT e).ok ∧ (∀ d, 3 ≤ d → (eidT e).right d = true) ∧ (eidT e).size ≤ 350 := fun e he => by
      obtain ⟨a, b, _, _⟩ := eidT_ok he
      exact ⟨a, b, by have := eidT_small he; omega⟩
    unfold priL at ht
    rw [List.mem_append, List.mem_append] at ht
    rcases ht with ht | ht | ht
    · simp only [List.mem_cons, List.not_mem_nil, or_false] at ht
      rcases ht with rfl | rfl | rfl | rfl | rfl | rfl | rfl | rfl
      · exact num 7 (by decide)
      · exact num _ (by omega)
      · exact num _ (by omega)
      · exact eid _ h1
      · exact eid _ h2
      · exact eid _ h3
      · have a := numT_all p.t (by omega)
        have b := numT_all p.q (by omega)
        refine ⟨listT_ok (by simp) ?_, fun d hd => listT_right (by omega) (by simp) ?_, ?_⟩
        · intro t ht
          simp only [List.mem_cons, List.not_mem_nil, or_false] at ht
          rcases ht with rfl | rfl
          · exact a.1
          · exact b.1
        · intro t ht
          simp only [List.mem_cons, List.not_mem_nil, or_false] at ht
          rcases ht with rfl | rfl
          · exact a.2.1 _ (by omega)
          · exact b.2.1 _ (by omega)
        · have := listT_size (L := [numT p.t, numT p.q]) (B := 100) (by
            intro t ht
            simp only [List.mem_cons, List.not_mem_nil, or_false] at ht
            rcases ht with rfl | rfl
            · exact a.2.2.1
            · exact b.2.2.1)
          simp at this
          omega
      · exact num _ (by omega)
    · split at ht
      · simp only [List.mem_cons, List.not_mem_nil, or_false] at ht
        rcases ht with rfl | rfl
        · exact num _ (by omega)
        · exact num _ (by omega)
      · cases ht
    · split at ht
      · cases ht
      · simp only [List.mem_cons, List.not_mem_nil, or_false] at ht
        subst ht
        obtain ⟨a, b, c, _⟩ := strT_all hs
        exact ⟨a, fun d hd => b d (by omega), by omega⟩
  have hl : (priL p k sum).length ≤ 11 := by rw [priL_length]; unfold priN; split <;> split <;> omega
  refine ⟨listT_ok (by omega) fun t ht => (hm t ht).1, fun d hd => listT_right (by omega) (by omega) fun t ht => (hm t ht).2.1 _ (by omega), ?_⟩
  have := listT_size (L := priL p k sum) (B := 350) fun t ht => (hm t ht).2.2
  have h2 : (priL p k sum).length * 350 ≤ 11 * 350 := Nat.mul_le_mul_right _ hl
  show (listT (priL p k sum)).size ≤ 4000
  omega
/-- A number's bytes, as the first is the greatest. -/
def PV.sumK (f : Nat → List UInt8 → List UInt8) (p : PV) (k : Nat) : List UInt8 := if k = 0 then [] else f k (priB p k (List.replicate (2 * k) 0))
end Go.Proofs.Ytogjghmoankleaa


namespace Go.Proofs.Ytogjghmoankleaa
open Go.RowKit
set_option linter.unusedVariables false
set_option linter.unusedSimpArgs false

theorem quo_remP {f c x : Nat} (hf : f < 18446744073709551616) (h : f / c % 2 = x) : (IntKind.u64.wrap ((f : Int) / (c : Int))).tmod 2 = (x : Int) := by
  have h1 : (f : Int) / (c : Int) = ((f / c : Nat) : Int) := by simp
  have h2 : f / c ≤ f := Nat.div_le_self _ _
  rw [h1]
  generalize f / c = y at *
  rw [IntWalk.u64_in _ (by omega), Int.tmod_eq_emod_of_nonneg (by omega)]
  omega
def has (f c : Nat) : Bool := decide (f / c % 2 = 1)
set_option maxRecDepth 20000 in
theorem Has_any (f c : Nat) (hf : f < 18446744073709551616) (hc : 0 < c) (hc2 : c < 1000000) (w : World) : Calls Try.prog 65 #[.int .u64 (f : Int), .int .i64 (c : Int)] w (Ret (.bool (has f c)) w) := by
  have f0 : (0 : Int) ≤ (f : Int) := by omega
  have c0 : (0 : Int) ≤ (c : Int) := by omega
  have c1 : (c : Int) ≤ 1000000 := by omega
  have t1 : IntKind.u64.wrap (c : Int) = (c : Int) := IntWalk.u64_in _ (by omega)
  have z1 : ((c : Int) == 0) = false := by simp; omega
  have z2 : ((c : Int) = 0) = False := by simp; omega
  have z3 : (c = 0) = False := by simp; omega
  have hx : f / c % 2 = 0 ∨ f / c % 2 = 1 := by omega
  rcases hx with hx | hx
  · have a1 := quo_remP hf hx
    have HV : Hid (has f c = false) := by unfold Hid has; simp [hx]
    clear hx hf hc hc2
    go_enter Try.func65, Try.ntmps65
    go_wp2
    go_ret
    exact Ret.mk (by rw [HV.out]; simp) (Mod.refl _ _)
  · have a1 := quo_remP hf hx
    have HV : Hid (has f c = true) := by unfold Hid has; simp [hx]
    clear hx hf hc hc2
    go_enter Try.func65, Try.ntmps65
    go_wp2
    go_ret
    exact Ret.mk (by rw [HV.out]; simp) (Mod.refl _ _)
set_option maxRecDepth 20000 in
set_option maxHeartbeats 1600000 in
theorem r11Right_any (p : PV) (hf : p.fl < 18446744073709551616) (w : World) : Calls Try.prog 32 #[.agg p.c] w (Ret (.int .i64 p.right) w) := by
  have KD := hid (fun W => r10_any p.d W)
  have KS := hid (fun W => r10_any p.s W)
  have KR := hid (fun W => r10_any p.r W)
  have H1 : Hid (∀ W, Calls Try.prog 65 #[.int .u64 (p.fl : Int), .int .i64 1] W (Ret (.bool (has p.fl 1)) W)) := fun W => Has_any p.fl 1 hf (by omega) (by omega) W
  have H2 : Hid (∀ W, Calls Try.prog 65 #[.int .u64 (p.fl : Int), .int .i64 2] W (Ret (.bool (has p.fl 2)) W)) := fun W => Has_any p.fl 2 hf (by omega) (by omega) W
  have H4 : Hid (∀ W, Calls Try.prog 65 #[.int .u64 (p.fl : Int), .int .i64 4] W (Ret (.bool (has p.fl 4)) W)) := fun W => Has_any p.fl 4 hf (by omega) (by omega) W
  have HH : Hid (∀ W, Calls Try.prog 65 #[.int .u64 (p.fl : Int), .int .i64 16384] W (Ret (.bool (has p.fl 16384)) W)) := fun W => Has_any p.fl 16384 hf (by omega) (by omega) W
  have HG : Hid (∀ W, Calls Try.prog 65 #[.int .u64 (p.fl : Int), .int .i64 262144] W (Ret (.bool (has p.fl 262144)) W)) := fun W => Has_any p.fl 262144 hf (by omega) (by omega) W
  have HE := hid ((Mod.refl [] w).alloc (.cells p.c 68))
  have HB := hid (Blk.new w 68 p.c)
  have f0 : (0 : Int) ≤ (p.fl : Int) := by omega
  clear hf
  go_enter Try.func32, Try.ntmps32
  go_upto_region 1 with fail
  generalize w.alloc (.cells p.c 68) = V at *
  have b0 : ∀ e : Later V, e.x.cell? ⟨w.heap.size, 0, none⟩ = some (.int .u64 (p.fl : Int)) := HB.out.cellL 0 rfl
  have b1 : ∀ e : Later V, e.x.cell? ⟨w.heap.size, 1, none⟩ = some (.int .i64 p.crc) := HB.out.cellL 1 rfl
  have b2 : ∀ e : Later V, e.x.cell? ⟨w.heap.size, 2, none⟩ = some (.int .i64 p.d.sch) := HB.out.cellL 2 rfl
  have b3 : ∀ e : Later V, e.x.cell? ⟨w.heap.size, 3, none⟩ = some (str p.d.name) := HB.out.cellL 3 rfl
  have b4 : ∀ e : Later V, e.x.cell? ⟨w.heap.size, 4, none⟩ = some (.int .u64 (p.d.node : Int)) := HB.out.cellL 4 rfl
  have b5 : ∀ e : Later V, e.x.cell? ⟨w.heap.size, 5, none⟩ = some (.int .u64 (p.d.svc : Int)) := HB.out.cellL 5 rfl
  have b6 : ∀ e : Later V, e.x.cell? ⟨w.heap.size, 6, none⟩ = some (.int .i64 p.s.sch) := HB.out.cellL 6 rfl
  have b7 : ∀ e : Later V, e.x.cell? ⟨w.heap.size, 7, none⟩ = some (str p.s.name) := HB.out.cellL 7 rfl
  have b8 : ∀ e : Later V, e.x.cell? ⟨w.heap.size, 8, none⟩ = some (.int .u64 (p.s.node : Int)) := HB.out.cellL 8 rfl
  have b9 : ∀ e : Later V, e.x.cell? ⟨w.heap.size, 9, none⟩ = some (.int .u64 (p.s.svc : Int)) := HB.out.cellL 9 rfl
  have b10 : ∀ e : Later V, e.x.cell? ⟨w.heap.size, 10, none⟩ = some (.int .i64 p.r.sch) := HB.out.cellL 10 rfl
  have b11 : ∀ e : Later V, e.x.cell? ⟨w.heap.size, 11, none⟩ = some (str p.r.name) := HB.out.cellL 11 rfl
  have b12 : ∀ e : Later V, e.x.cell? ⟨w.heap.size, 12, none⟩ = some (.int .u64 (p.r.node : Int)) := HB.out.cellL 12 rfl
  have b13 : ∀ e : Later V, e.x.cell? ⟨w.heap.size, 13, none⟩ = some (.int .u64 (p.r.svc : Int)) := HB.out.cellL 13 rfl
  have b14 : ∀ e : Later V, e.x.cell? ⟨w.heap.size, 14, none⟩ = some (.int .u64 (p.t : Int)) := HB.out.cellL 14 rfl
  have b15 : ∀ e : Later V, e.x.cell? ⟨w.heap.size, 15, none⟩ = some (.int .u64 (p.q : Int)) := HB.out.cellL 15 rfl
  have b16 : ∀ e : Later V, e.x.cell? ⟨w.heap.size, 16, none⟩ = some (.int .u64 (p.l : Int)) := HB.out.cellL 16 rfl
  have b17 : ∀ e : Later V, e.x.cell? ⟨w.heap.size, 17, none⟩ = some (.int .u64 (p.o : Int)) := HB.out.cellL 17 rfl
  have b18 : ∀ e : Later V, e.x.cell? ⟨w.heap.size, 18, none⟩ = some (.int .u64 (p.n : Int)) := HB.out.cellL 18 rfl
  obtain ⟨e, he0⟩ := Later.self V
  rw [he0]
  clear he0
  cases hx : p.d.ok with
  | false =>
    rw [hx] at KD
    have HR : Hid (p.ranged = false) := by unfold Hid PV.ranged; simp [hx]
    clear hx
    have HS : Hid (p.right = 1) := by
      unfold Hid PV.right
      rw [if_pos HR.out]
    go_wp2_with (first | (go_at_call 50; first | ((with_reducible refine (Ret.later (KD.out _)).mono ?_); rintro x _ ⟨rfl, e, rfl⟩) | ((with_reducible refine (Ret.later (KS.out _)).mono ?_); rintro x _ ⟨rfl, e, rfl⟩) | ((with_reducible refine (Ret.later (KR.out _)).mono ?_); rintro x _ ⟨rfl, e, rfl⟩)) | (go_at_call 65; first | ((with_reducible refine (Ret.later (H1.out _)).mono ?_); rintro x _ ⟨rfl, e, rfl⟩) | ((with_reducible refine (Ret.later (H2.out _)).mono ?_); rintro x _ ⟨rfl, e, rfl⟩) | ((with_reducible refine (Ret.later (H4.out _)).mono ?_); rintro x _ ⟨rfl, e, rfl⟩) | ((with_reducible refine (Ret.later (HH.out _)).mono ?_); rintro x _ ⟨rfl, e, rfl⟩) | ((with_reducible refine (Ret.later (HG.out _)).mono ?_); rintro x _ ⟨rfl, e, rfl⟩)))
    go_ret
    exact Ret.mk (by rw [HS.out]; rfl) (HE.out.trans e.h)
  | true =>
    rw [hx] at KD
    have Xd := hid hx
    clear hx
    cases hx : p.s.ok with
    | false =>
      rw [hx] at KS
      have HR : Hid (p.ranged = false) := by unfold Hid PV.ranged; simp [hx]
      clear hx
      have HS : Hid (p.right = 1) := by
        unfold Hid PV.right
        rw [if_pos HR.out]
      go_wp2_with (first | (go_at_call 50; first | ((with_reducible refine (Ret.later (KD.out _)).mono ?_); rintro x _ ⟨rfl, e, rfl⟩) | ((with_reducible refine (Ret.later (KS.out _)).mono ?_); rintro x _ ⟨rfl, e, rfl⟩) | ((with_reducible refine (Ret.later (KR.out _)).mono ?_); rintro x _ ⟨rfl, e, rfl⟩)) | (go_at_call 65; first | ((with_reducible refine (Ret.later (H1.out _)).mono ?_); rintro x _ ⟨rfl, e, rfl⟩) | ((with_reducible refine (Ret.later (H2.out _)).mono ?_); rintro x _ ⟨rfl, e, rfl⟩) | ((with_reducible refine (Ret.later (H4.out _)).mono ?_); rintro x _ ⟨rfl, e, rfl⟩) | ((with_reducible refine (Ret.later (HH.out _)).mono ?_); rintro x _ ⟨rfl, e, rfl⟩) | ((with_reducible refine (Ret.later (HG.out _)).mono ?_); rintro x _ ⟨rfl, e, rfl⟩)))
      go_ret
      exact Ret.mk (by rw [HS.out]; rfl) (HE.out.trans e.h)
    | true =>
      rw [hx] at KS
      have Xs := hid hx
      clear hx
      cases hx : p.r.ok with
      | false =>
        rw [hx] at KR
        have HR : Hid (p.ranged = false) := by unfold Hid PV.ranged; simp [hx]
        clear hx
        have HS : Hid (p.right = 1) := by
          unfold Hid PV.right
          rw [if_pos HR.out]
        go_wp2_with (first | (go_at_call 50; first | ((with_reducible refine (Ret.later (KD.out _)).mono ?_); rintro x _ ⟨rfl, e, rfl⟩) | ((with_reducible refine (Ret.later (KS.out _)).mono ?_); rintro x _ ⟨rfl, e, rfl⟩) | ((with_reducible refine (Ret.later (KR.out _)).mono ?_); rintro x _ ⟨rfl, e, rfl⟩)) | (go_at_call 65; first | ((with_reducible refine (Ret.later (H1.out _)).mono ?_); rintro x _ ⟨rfl, e, rfl⟩) | ((with_reducible refine (Ret.later (H2.out _)).mono ?_); rintro x _ ⟨rfl, e, rfl⟩) | ((with_reducible refine (Ret.later (H4.out _)).mono ?_); rintro x _ ⟨rfl, e, rfl⟩) | ((with_reducible refine (Ret.later (HH.out _)).mono ?_); rintro x _ ⟨rfl, e, rfl⟩) | ((with_reducible refine (Ret.later (HG.out _)).mono ?_); rintro x _ ⟨rfl, e, rfl⟩)))
        go_ret
        exact Ret.mk (by rw [HS.out]; rfl) (HE.out.trans e.h)
      | true =>
        rw [hx] at KR
        have Xr := hid hx
        clear hx
        by_cases hx : p.crc < 0
        · have ua : decide (p.crc < 0) = true := decide_eq_true (by omega)
          have ub : (p.crc < 0) = True := eq_true (by omega)
          have HR : Hid (p.ranged = false) := by unfold Hid PV.ranged; simp; omega
          clear hx
          have HS : Hid (p.right = 1) := by
            unfold Hid PV.right
            rw [if_pos HR.out]
          go_wp2_with (first | (go_at_call 50; first | ((with_reducible refine (Ret.later (KD.out _)).mono ?_); rintro x _ ⟨rfl, e, rfl⟩) | ((with_reducible refine (Ret.later (KS.out _)).mono ?_); rintro x _ ⟨rfl, e, rfl⟩) | ((with_reducible refine (Ret.later (KR.out _)).mono ?_); rintro x _ ⟨rfl, e, rfl⟩)) | (go_at_call 65; first | ((with_reducible refine (Ret.later (H1.out _)).mono ?_); rintro x _ ⟨rfl, e, rfl⟩) | ((with_reducible refine (Ret.later (H2.out _)).mono ?_); rintro x _ ⟨rfl, e, rfl⟩) | ((with_reducible refine (Ret.later (H4.out _)).mono ?_); rintro x _ ⟨rfl, e, rfl⟩) | ((with_reducible refine (Ret.later (HH.out _)).mono ?_); rintro x _ ⟨rfl, e, rfl⟩) | ((with_reducible refine (Ret.later (HG.out _)).mono ?_); rintro x _ ⟨rfl, e, rfl⟩)))
          go_ret
          exact Ret.mk (by rw [HS.out]; rfl) (HE.out.trans e.h)
        have ua : decide (p.crc < 0) = false := decide_eq_false (by omega)
        have ub : (p.crc < 0) = False := eq_false (by omega)
        have X1 := hid hx
        clear hx
        by_cases hx : 2 < p.crc
        · have va : decide (2 < p.crc) = true := decide_eq_true (by omega)
          have vb : (2 < p.crc) = True := eq_true (by omega)
          have HR : Hid (p.ranged = false) := by unfold Hid PV.ranged; simp; omega
          clear hx
          have HS : Hid (p.right = 1) := by
            unfold Hid PV.right
            rw [if_pos HR.out]
          go_wp2_with (first | (go_at_call 50; first | ((with_reducible refine (Ret.later (KD.out _)).mono ?_); rintro x _ ⟨rfl, e, rfl⟩) | ((with_reducible refine (Ret.later (KS.out _)).mono ?_); rintro x _ ⟨rfl, e, rfl⟩) | ((with_reducible refine (Ret.later (KR.out _)).mono ?_); rintro x _ ⟨rfl, e, rfl⟩)) | (go_at_call 65; first | ((with_reducible refine (Ret.later (H1.out _)).mono ?_); rintro x _ ⟨rfl, e, rfl⟩) | ((with_reducible refine (Ret.later (H2.out _)).mono ?_); rintro x _ ⟨rfl, e, rfl⟩) | ((with_reducible refine (Ret.later (H4.out _)).mono ?_); rintro x _ ⟨rfl, e, rfl⟩) | ((with_reducible refine (Ret.later (HH.out _)).mono ?_); rintro x _ ⟨rfl, e, rfl⟩) | ((with_reducible refine (Ret.later (HG.out _)).mono ?_); rintro x _ ⟨rfl, e, rfl⟩)))
          go_ret
          exact Ret.mk (by rw [HS.out]; rfl) (HE.out.trans e.h)
        have va : decide (2 < p.crc) = false := decide_eq_false (by omega)
        have vb : (2 < p.crc) = False := eq_false (by omega)
        have X2 := hid hx
        clear hx
        by_cases hx : 2097152 ≤ p.fl
        · have xa : decide ((2097152 : Int) ≤ (p.fl : Int)) = true := decide_eq_true (by omega)
          have xb : ((2097152 : Int) ≤ (p.fl : Int)) = True := eq_true (by omega)
          have HR : Hid (p.ranged = false) := by unfold Hid PV.ranged; simp; omega
          clear hx
          have HS : Hid (p.right = 1) := by
            unfold Hid PV.right
            rw [if_pos HR.out]
          go_wp2_with (first | (go_at_call 50; first | ((with_reducible refine (Ret.later (KD.out _)).mono ?_); rintro x _ ⟨rfl, e, rfl⟩) | ((with_reducible refine (Ret.later (KS.out _)).mono ?_); rintro x _ ⟨rfl, e, rfl⟩) | ((with_reducible refine (Ret.later (KR.out _)).mono ?_); rintro x _ ⟨rfl, e, rfl⟩)) | (go_at_call 65; first | ((with_reducible refine (Ret.later (H1.out _)).mono ?_); rintro x _ ⟨rfl, e, rfl⟩) | ((with_reducible refine (Ret.later (H2.out _)).mono ?_); rintro x _ ⟨rfl, e, rfl⟩) | ((with_reducible refine (Ret.later (H4.out _)).mono ?_); rintro x _ ⟨rfl, e, rfl⟩) | ((with_reducible refine (Ret.later (HH.out _)).mono ?_); rintro x _ ⟨rfl, e, rfl⟩) | ((with_reducible refine (Ret.later (HG.out _)).mono ?_); rintro x _ ⟨rfl, e, rfl⟩)))
          go_ret
          exact Ret.mk (by rw [HS.out]; rfl) (HE.out.trans e.h)
        have xa : decide ((2097152 : Int) ≤ (p.fl : Int)) = false := decide_eq_false (by omega)
        have xb : ((2097152 : Int) ≤ (p.fl : Int)) = False := eq_false (by omega)
        have X3 := hid hx
        clear hx
        go_upto_region 4 with (first | (go_at_call 50; first | ((with_reducible refine (Ret.later (KD.out _)).mono ?_); rintro x _ ⟨rfl, e, rfl⟩) | ((with_reducible refine (Ret.later (KS.out _)).mono ?_); rintro x _ ⟨rfl, e, rfl⟩) | ((with_reducible refine (Ret.later (KR.out _)).mono ?_); rintro x _ ⟨rfl, e, rfl⟩)) | (go_at_call 65; first | ((with_reducible refine (Ret.later (H1.out _)).mono ?_); rintro x _ ⟨rfl, e, rfl⟩) | ((with_reducible refine (Ret.later (H2.out _)).mono ?_); rintro x _ ⟨rfl, e, rfl⟩) | ((with_reducible refine (Ret.later (H4.out _)).mono ?_); rintro x _ ⟨rfl, e, rfl⟩) | ((with_reducible refine (Ret.later (HH.out _)).mono ?_); rintro x _ ⟨rfl, e, rfl⟩) | ((with_reducible refine (Ret.later (HG.out _)).mono ?_); rintro x _ ⟨rfl, e, rfl⟩)))
        have HA := hid (Blk.new e.x 107 #[.int .u64 (p.t : Int), .int .u64 (p.q : Int), .int .u64 (p.l : Int), .int .u64 (p.o : Int), .int .u64 (p.n : Int)])
        have HB2 := hid ((HB.out.later e).alloc (.cells #[.int .u64 (p.t : Int), .int .u64 (p.q : Int), .int .u64 (p.l : Int), .int .u64 (p.o : Int), .int .u64 (p.n : Int)] 107))
        have HE2 := hid ((HE.out.trans e.h).alloc (.cells #[.int .u64 (p.t : Int), .int .u64 (p.q : Int), .int .u64 (p.l : Int), .int .u64 (p.o : Int), .int .u64 (p.n : Int)] 107))
        clear b0 b1 b2 b3 b4 b5 b6 b7 b8 b9 b10 b11 b12 b13 b14 b15 b16 b17 b18 HB HE ua ub va vb xa xb
        generalize e.x.alloc (.cells #[.int .u64 (p.t : Int), .int .u64 (p.q : Int), .int .u64 (p.l : Int), .int .u64 (p.o : Int), .int .u64 (p.n : Int)] 107) = V2 at *
        generalize e.x.heap.size = G at *
        clear e
        have b0 : ∀ e : Later V2, e.x.cell? ⟨w.heap.size, 0, none⟩ = some (.int .u64 (p.fl : Int)) := HB2.out.cellL 0 rfl
        have b1 : ∀ e : Later V2, e.x.cell? ⟨w.heap.size, 1, none⟩ = some (.int .i64 p.crc) := HB2.out.cellL 1 rfl
        have b2 : ∀ e : Later V2, e.x.cell? ⟨w.heap.size, 2, none⟩ = some (.int .i64 p.d.sch) := HB2.out.cellL 2 rfl
        have b3 : ∀ e : Later V2, e.x.cell? ⟨w.heap.size, 3, none⟩ = some (str p.d.name) := HB2.out.cellL 3 rfl
        have b4 : ∀ e : Later V2, e.x.cell? ⟨w.heap.size, 4, none⟩ = some (.int .u64 (p.d.node : Int)) := HB2.out.cellL 4 rfl
        have b5 : ∀ e : Later V2, e.x.cell? ⟨w.heap.size, 5, none⟩ = some (.int .u64 (p.d.svc : Int)) := HB2.out.cellL 5 rfl
        have b6 : ∀ e : Later V2, e.x.cell? ⟨w.heap.size, 6, none⟩ = some (.int .i64 p.s.sch) := HB2.out.cellL 6 rfl
        have b7 : ∀ e : Later V2, e.x.cell? ⟨w.heap.size, 7, none⟩ = some (str p.s.name) := HB2.out.cellL 7 rfl
        have b8 : ∀ e : Later V2, e.x.cell? ⟨w.heap.size, 8, none⟩ = some (.int .u64 (p.s.node : Int)) := HB2.out.cellL 8 rfl
        have b9 : ∀ e : Later V2, e.x.cell? ⟨w.heap.size, 9, none⟩ = some (.int .u64 (p.s.svc : Int)) := HB2.out.cellL 9 rfl
        have b10 : ∀ e : Later V2, e.x.cell? ⟨w.heap.size, 10, none⟩ = some (.int .i64 p.r.sch) := HB2.out.cellL 10 rfl
        have b11 : ∀ e : Later V2, e.x.cell? ⟨w.heap.size, 11, none⟩ = some (str p.r.name) := HB2.out.cellL 11 rfl
        have b12 : ∀ e : Later V2, e.x.cell? ⟨w.heap.size, 12, none⟩ = some (.int .u64 (p.r.node : Int)) := HB2.out.cellL 12 rfl
        have b13 : ∀ e : Later V2, e.x.cell? ⟨w.heap.size, 13, none⟩ = some (.int .u64 (p.r.svc : Int)) := HB2.out.cellL 13 rfl
        have b14 : ∀ e : Later V2, e.x.cell? ⟨w.heap.size, 14, none⟩ = some (.int .u64 (p.t : Int)) := HB2.out.cellL 14 rfl
        have b15 : ∀ e : Later V2, e.x.cell? ⟨w.heap.size, 15, none⟩ = some (.int .u64 (p.q : Int)) := HB2.out.cellL 15 rfl
        have b16 : ∀ e : Later V2, e.x.cell? ⟨w.heap.size, 16, none⟩ = some (.int .u64 (p.l : Int)) := HB2.out.cellL 16 rfl
        have b17 : ∀ e : Later V2, e.x.cell? ⟨w.heap.size, 17, none⟩ = some (.int .u64 (p.o : Int)) := HB2.out.cellL 17 rfl
        have b18 : ∀ e : Later V2, e.x.cell? ⟨w.heap.size, 18, none⟩ = some (.int .u64 (p.n : Int)) := HB2.out.cellL 18 rfl
        go_wp2_with fail
        obtain ⟨e0, he0⟩ := Later.self V2
        have HAJ : Hid (∀ (e : Later V2) (i : Nat), i < 5 → e.x.cell? ⟨G, i, none⟩ = some (.int .u64 ((([p.t, p.q, p.l, p.o, p.n][i]?).getD 0 : Nat) : Int))) := fun e i hi => by
          rw [(HA.out.later e).cell i]
          match i, hi with
          | 0, _ => rfl
          | 1, _ => rfl
          | 2, _ => rfl
          | 3, _ => rfl
          | 4, _ => rfl
        go_loopw [4] (fun s4 wr => ∃ i : Nat, s4 = .int .i64 (i : Int) ∧ Hid (i ≤ 5 ∧ ∀ j, j < i → ([p.t, p.q, p.l, p.o, p.n][j]?).getD 0 ≤ 1099511627776) ∧ ∃ e : Later V2, wr = e.x) (fun s4 _ => 5 - (intOf s4).toNat)
        case atStart => exact ⟨0, rfl, (show Hid _ from ⟨by omega, fun j hj => by omega⟩), e0, he0⟩
        case round =>
          clear he0 e0
          obtain ⟨i, rfl, hi, e, rfl⟩ := hrel
          have i0 : (0 : Int) ≤ (i : Int) := by omega
          have i5 : (i : Int) ≤ 5 := by have := hi.out.1; omega
          by_cases hlt : i < 5
          · have tc : decide ((i : Int) < 5) = true := decide_eq_true (by omega)
            have i1 : (i : Int) < 5 := by omega
            have HJ := fun e => HAJ.out e i hlt
            obtain ⟨x, hx⟩ : ∃ x, ([p.t, p.q, p.l, p.o, p.n][i]?).getD 0 = x := ⟨_, rfl⟩
            rw [hx] at HJ
            have HX := hid hx
            have HLT := hid hlt
            clear hx hlt
            by_cases hx : 1099511627776 < x
            · have ya : decide ((1099511627776 : Int) < (x : Int)) = true := decide_eq_true (by omega)
              have yb : ((1099511627776 : Int) < (x : Int)) = True := eq_true (by omega)
              have HR : Hid (p.ranged = false) := by
                unfold Hid PV.ranged
                have h5 := HLT.out
                have hX := HX.out
                match i, h5 with
                | 0, _ => have hX : p.t = x := hX; simp; omega
                | 1, _ => have hX : p.q = x := hX; simp; omega
                | 2, _ => have hX : p.l = x := hX; simp; omega
                | 3, _ => have hX : p.o = x := hX; simp; omega
                | 4, _ => have hX : p.n = x := hX; simp; omega
              clear hx
              have HS : Hid (p.right = 1) := by
                unfold Hid PV.right
                rw [if_pos HR.out]
              go_wp2_with (first | (go_at_call 50; first | ((with_reducible refine (Ret.later (KD.out _)).mono ?_); rintro x _ ⟨rfl, e, rfl⟩) | ((with_reducible refine (Ret.later (KS.out _)).mono ?_); rintro x _ ⟨rfl, e, rfl⟩) | ((with_reducible refine (Ret.later (KR.out _)).mono ?_); rintro x _ ⟨rfl, e, rfl⟩)) | (go_at_call 65; first | ((with_reducible refine (Ret.later (H1.out _)).mono ?_); rintro x _ ⟨rfl, e, rfl⟩) | ((with_reducible refine (Ret.later (H2.out _)).mono ?_); rintro x _ ⟨rfl, e, rfl⟩) | ((with_reducible refine (Ret.later (H4.out _)).mono ?_); rintro x _ ⟨rfl, e, rfl⟩) | ((with_reducible refine (Ret.later (HH.out _)).mono ?_); rintro x _ ⟨rfl, e, rfl⟩) | ((with_reducible refine (Ret.later (HG.out _)).mono ?_); rintro x _ ⟨rfl, e, rfl⟩)))
              go_ret
              exact Ret.mk (by rw [HS.out]; rfl) (HE2.out.trans e.h)
            · have ya : decide ((1099511627776 : Int) < (x : Int)) = false := decide_eq_false (by omega)
              have yb : ((1099511627776 : Int) < (x : Int)) = False := eq_false (by omega)
              have HN := hid hx
              clear hx
              go_wp2_with fail
              go_roundw
              case rel => exact ⟨i + 1, by go_num, (show Hid _ from ⟨HLT.out, fun j hj => by
                by_cases hji : j = i
                · subst hji; rw [HX.out]; have := HN.out; omega
                · exact hi.out.2 j (by omega)⟩), e, rfl⟩
              case measure => have := HLT.out; simp [intOf]; omega
          · obtain rfl : i = 5 := by have := hi.out.1; omega
            have HR : Hid (p.ranged = true) := by
              have h := hi.out.2
              have a0 : p.t ≤ _ := h 0 (by omega)
              have a1 : p.q ≤ _ := h 1 (by omega)
              have a2 : p.l ≤ _ := h 2 (by omega)
              have a3 : p.o ≤ _ := h 3 (by omega)
              have a4 : p.n ≤ _ := h 4 (by omega)
              have := X1.out; have := X2.out; have := X3.out
              unfold Hid PV.ranged
              rw [Xd.out, Xs.out, Xr.out]
              simp; omega
            have HE := HE2
            clear hlt HAJ i0 i5 hi
            have HTB : Hid ((has p.fl 16384 || has p.fl 262144) = true ↔ (p.fl / 16384 % 2 = 1 ∨ p.fl / 262144 % 2 = 1)) := by unfold Hid has; simp
            cases hx1 : has p.fl 1 with
            | true =>
              rw [hx1] at H1
              have F1 : Hid (p.fl % 2 = 1) := by unfold has at hx1; unfold Hid; simpa using hx1
              clear hx1
              go_upto_region 10 with (first | (go_at_call 50; first | ((with_reducible refine (Ret.later (KD.out _)).mono ?_); rintro x _ ⟨rfl, e, rfl⟩) | ((with_reducible refine (Ret.later (KS.out _)).mono ?_); rintro x _ ⟨rfl, e, rfl⟩) | ((with_reducible refine (Ret.later (KR.out _)).mono ?_); rintro x _ ⟨rfl, e, rfl⟩)) | (go_at_call 65; first | ((with_reducible refine (Ret.later (H1.out _)).mono ?_); rintro x _ ⟨rfl, e, rfl⟩) | ((with_reducible refine (Ret.later (H2.out _)).mono ?_); rintro x _ ⟨rfl, e, rfl⟩) | ((with_reducible refine (Ret.later (H4.out _)).mono ?_); rintro x _ ⟨rfl, e, rfl⟩) | ((with_reducible refine (Ret.later (HH.out _)).mono ?_); rintro x _ ⟨rfl, e, rfl⟩) | ((with_reducible refine (Ret.later (HG.out _)).mono ?_); rintro x _ ⟨rfl, e, rfl⟩)))
              go_cut [6] (fun s6 wx => s6 = .bool (has p.fl 16384 || has p.fl 262144) ∧ ∃ e : Later V2, wx = e.x)
              case first =>
                cases h1 : has p.fl 16384
                all_goals rw [h1] at HH
                all_goals cases h2 : has p.fl 262144
                all_goals rw [h2] at HG
                all_goals have Q1 := hid h1
                all_goals have Q2 := hid h2
                all_goals clear h1 h2
                all_goals go_wp2_with (first | (go_at_call 50; first | ((with_reducible refine (Ret.later (KD.out _)).mono ?_); rintro x _ ⟨rfl, e, rfl⟩) | ((with_reducible refine (Ret.later (KS.out _)).mono ?_); rintro x _ ⟨rfl, e, rfl⟩) | ((with_reducible refine (Ret.later (KR.out _)).mono ?_); rintro x _ ⟨rfl, e, rfl⟩)) | (go_at_call 65; first | ((with_reducible refine (Ret.later (H1.out _)).mono ?_); rintro x _ ⟨rfl, e, rfl⟩) | ((with_reducible refine (Ret.later (H2.out _)).mono ?_); rintro x _ ⟨rfl, e, rfl⟩) | ((with_reducible refine (Ret.later (H4.out _)).mono ?_); rintro x _ ⟨rfl, e, rfl⟩) | ((with_reducible refine (Ret.later (HH.out _)).mono ?_); rintro x _ ⟨rfl, e, rfl⟩) | ((with_reducible refine (Ret.later (HG.out _)).mono ?_); rintro x _ ⟨rfl, e, rfl⟩)))
                all_goals go_meet
                all_goals exact ⟨by rw [Q1.out, Q2.out]; rfl, e, rfl⟩
              obtain ⟨rfl, e, rfl⟩ := hcut
              generalize (has p.fl 16384 || has p.fl 262144) = TB at *
              by_cases hx : p.fl / 4 % 2 = 1
              · rw [show has p.fl 4 = true by unfold has; simp [hx]] at H4
                have X4 := hid hx
                clear hx
                have HS : Hid (p.right = 8) := by
                  unfold Hid PV.right
                  rw [if_neg (by rw [HR.out]; decide), if_pos (.inl ⟨F1.out, .inl X4.out⟩)]
                go_wp2_with (first | (go_at_call 50; first | ((with_reducible refine (Ret.later (KD.out _)).mono ?_); rintro x _ ⟨rfl, e, rfl⟩) | ((with_reducible refine (Ret.later (KS.out _)).mono ?_); rintro x _ ⟨rfl, e, rfl⟩) | ((with_reducible refine (Ret.later (KR.out _)).mono ?_); rintro x _ ⟨rfl, e, rfl⟩)) | (go_at_call 65; first | ((with_reducible refine (Ret.later (H1.out _)).mono ?_); rintro x _ ⟨rfl, e, rfl⟩) | ((with_reducible refine (Ret.later (H2.out _)).mono ?_); rintro x _ ⟨rfl, e, rfl⟩) | ((with_reducible refine (Ret.later (H4.out _)).mono ?_); rintro x _ ⟨rfl, e, rfl⟩) | ((with_reducible refine (Ret.later (HH.out _)).mono ?_); rintro x _ ⟨rfl, e, rfl⟩) | ((with_reducible refine (Ret.later (HG.out _)).mono ?_); rintro x _ ⟨rfl, e, rfl⟩)))
                go_ret
                exact Ret.mk (by rw [HS.out]; rfl) (HE.out.trans e.h)
              rw [show has p.fl 4 = false by unfold has; simp; omega] at H4
              have X4 := hid hx
              clear hx
              by_cases hy : p.n ≤ p.o
              · have za : decide (p.n ≤ p.o) = true := decide_eq_true (by omega)
                have zb : (p.n ≤ p.o) = True := eq_true (by omega)
                have Y := hid hy
                clear hy
                have HS : Hid (p.right = 8) := by
                  unfold Hid PV.right
                  rw [if_neg (by rw [HR.out]; decide), if_pos (.inl ⟨F1.out, .inr Y.out⟩)]
                go_wp2_with (first | (go_at_call 50; first | ((with_reducible refine (Ret.later (KD.out _)).mono ?_); rintro x _ ⟨rfl, e, rfl⟩) | ((with_reducible refine (Ret.later (KS.out _)).mono ?_); rintro x _ ⟨rfl, e, rfl⟩) | ((with_reducible refine (Ret.later (KR.out _)).mono ?_); rintro x _ ⟨rfl, e, rfl⟩)) | (go_at_call 65; first | ((with_reducible refine (Ret.later (H1.out _)).mono ?_); rintro x _ ⟨rfl, e, rfl⟩) | ((with_reducible refine (Ret.later (H2.out _)).mono ?_); rintro x _ ⟨rfl, e, rfl⟩) | ((with_reducible refine (Ret.later (H4.out _)).mono ?_); rintro x _ ⟨rfl, e, rfl⟩) | ((with_reducible refine (Ret.later (HH.out _)).mono ?_); rintro x _ ⟨rfl, e, rfl⟩) | ((with_reducible refine (Ret.later (HG.out _)).mono ?_); rintro x _ ⟨rfl, e, rfl⟩)))
                go_ret
                exact Ret.mk (by rw [HS.out]; rfl) (HE.out.trans e.h)
              have za : decide (p.n ≤ p.o) = false := decide_eq_false (by omega)
              have zb : (p.n ≤ p.o) = False := eq_false (by omega)
              have G0 : Hid (¬ ((p.fl % 2 = 1 ∧ (p.fl / 4 % 2 = 1 ∨ p.n ≤ p.o)) ∨ (¬ p.fl % 2 = 1 ∧ (0 < p.o ∨ 0 < p.n)))) := by have := F1.out; have := X4.out; unfold Hid; omega
              clear hy
              by_cases hN : p.none
              · have n1 : p.s.sch = 1 := hN.1
                have n2 : p.s.name = [110, 111, 110, 101] := hN.2
                rw [n1] at b6
                rw [n2] at b7
                clear n1 n2
                have HN := hid hN
                clear hN
                cases hT : TB with
                | true =>
                  have XT : Hid (p.fl / 16384 % 2 = 1 ∨ p.fl / 262144 % 2 = 1) := HTB.out.1 hT
                  subst hT
                  have HS : Hid (p.right = 8) := by
                    unfold Hid PV.right
                    rw [if_neg (by rw [HR.out]; decide), if_neg (by have := G0.out; omega), if_pos (.inl ⟨XT.out, .inl HN.out⟩)]
                  go_wp2_with (first | (go_at_call 50; first | ((with_reducible refine (Ret.later (KD.out _)).mono ?_); rintro x _ ⟨rfl, e, rfl⟩) | ((with_reducible refine (Ret.later (KS.out _)).mono ?_); rintro x _ ⟨rfl, e, rfl⟩) | ((with_reducible refine (Ret.later (KR.out _)).mono ?_); rintro x _ ⟨rfl, e, rfl⟩)) | (go_at_call 65; first | ((with_reducible refine (Ret.later (H1.out _)).mono ?_); rintro x _ ⟨rfl, e, rfl⟩) | ((with_reducible refine (Ret.later (H2.out _)).mono ?_); rintro x _ ⟨rfl, e, rfl⟩) | ((with_reducible refine (Ret.later (H4.out _)).mono ?_); rintro x _ ⟨rfl, e, rfl⟩) | ((with_reducible refine (Ret.later (HH.out _)).mono ?_); rintro x _ ⟨rfl, e, rfl⟩) | ((with_reducible refine (Ret.later (HG.out _)).mono ?_); rintro x _ ⟨rfl, e, rfl⟩)))
                  go_ret
                  exact Ret.mk (by rw [HS.out]; rfl) (HE.out.trans e.h)
                | false =>
                  have XT : Hid (¬ (p.fl / 16384 % 2 = 1 ∨ p.fl / 262144 % 2 = 1)) := fun h => by have := HTB.out.2 h; rw [hT] at this; cases this
                  subst hT
                  have HS : Hid (p.right = 8) := by
                    unfold Hid PV.right
                    rw [if_neg (by rw [HR.out]; decide), if_neg (by have := G0.out; omega), if_pos (.inr ⟨HN.out, X4.out⟩)]
                  go_wp2_with (first | (go_at_call 50; first | ((with_reducible refine (Ret.later (KD.out _)).mono ?_); rintro x _ ⟨rfl, e, rfl⟩) | ((with_reducible refine (Ret.later (KS.out _)).mono ?_); rintro x _ ⟨rfl, e, rfl⟩) | ((with_reducible refine (Ret.later (KR.out _)).mono ?_); rintro x _ ⟨rfl, e, rfl⟩)) | (go_at_call 65; first | ((with_reducible refine (Ret.later (H1.out _)).mono ?_); rintro x _ ⟨rfl, e, rfl⟩) | ((with_reducible refine (Ret.later (H2.out _)).mono ?_); rintro x _ ⟨rfl, e, rfl⟩) | ((with_reducible refine (Ret.later (H4.out _)).mono ?_); rintro x _ ⟨rfl, e, rfl⟩) | ((with_reducible refine (Ret.later (HH.out _)).mono ?_); rintro x _ ⟨rfl, e, rfl⟩) | ((with_reducible refine (Ret.later (HG.out _)).mono ?_); rintro x _ ⟨rfl, e, rfl⟩)))
                  go_ret
                  exact Ret.mk (by rw [HS.out]; rfl) (HE.out.trans e.h)
              · have HN := hid hN
                by_cases hS : p.s.sch = 1
                · have hM : ¬ p.s.name = [110, 111, 110, 101] := fun h => hN ⟨hS, h⟩
                  rw [hS] at b6
                  have ma : ((p.s.name) == ([110, 111, 110, 101])) = false := by rw [beq_eq_false_iff_ne]; exact hM
                  have mb : ((p.s.name) = ([110, 111, 110, 101])) = False := eq_false (by exact hM)
                  have mc : ((p.s.name) != ([110, 111, 110, 101])) = true := by rw [bne_iff_ne]; exact hM
                  clear hM hS hN
                  cases hT : TB with
                  | true =>
                    have XT : Hid (p.fl / 16384 % 2 = 1 ∨ p.fl / 262144 % 2 = 1) := HTB.out.1 hT
                    subst hT
                    by_cases hx : p.fl / 2 % 2 = 1
                    · rw [show has p.fl 2 = true by unfold has; simp [hx]] at H2
                      have X2 := hid hx
                      clear hx
                      have HS : Hid (p.right = 8) := by
                        unfold Hid PV.right
                        rw [if_neg (by rw [HR.out]; decide), if_neg (by have := G0.out; omega), if_pos (.inl ⟨XT.out, .inr X2.out⟩)]
                      go_wp2_with (first | (go_at_call 50; first | ((with_reducible refine (Ret.later (KD.out _)).mono ?_); rintro x _ ⟨rfl, e, rfl⟩) | ((with_reducible refine (Ret.later (KS.out _)).mono ?_); rintro x _ ⟨rfl, e, rfl⟩) | ((with_reducible refine (Ret.later (KR.out _)).mono ?_); rintro x _ ⟨rfl, e, rfl⟩)) | (go_at_call 65; first | ((with_reducible refine (Ret.later (H1.out _)).mono ?_); rintro x _ ⟨rfl, e, rfl⟩) | ((with_reducible refine (Ret.later (H2.out _)).mono ?_); rintro x _ ⟨rfl, e, rfl⟩) | ((with_reducible refine (Ret.later (H4.out _)).mono ?_); rintro x _ ⟨rfl, e, rfl⟩) | ((with_reducible refine (Ret.later (HH.out _)).mono ?_); rintro x _ ⟨rfl, e, rfl⟩) | ((with_reducible refine (Ret.later (HG.out _)).mono ?_); rintro x _ ⟨rfl, e, rfl⟩)))
                      go_ret
                      exact Ret.mk (by rw [HS.out]; rfl) (HE.out.trans e.h)
                    · rw [show has p.fl 2 = false by unfold has; simp; omega] at H2
                      have X2 := hid hx
                      clear hx
                      have HS : Hid (p.right = 0) := by
                        unfold Hid PV.right
                        rw [if_neg (by rw [HR.out]; decide), if_neg (by have := G0.out; omega), if_neg (fun h => h.elim (fun h => h.2.elim HN.out X2.out) (fun h => HN.out h.1))]
                      go_wp2_with (first | (go_at_call 50; first | ((with_reducible refine (Ret.later (KD.out _)).mono ?_); rintro x _ ⟨rfl, e, rfl⟩) | ((with_reducible refine (Ret.later (KS.out _)).mono ?_); rintro x _ ⟨rfl, e, rfl⟩) | ((with_reducible refine (Ret.later (KR.out _)).mono ?_); rintro x _ ⟨rfl, e, rfl⟩)) | (go_at_call 65; first | ((with_reducible refine (Ret.later (H1.out _)).mono ?_); rintro x _ ⟨rfl, e, rfl⟩) | ((with_reducible refine (Ret.later (H2.out _)).mono ?_); rintro x _ ⟨rfl, e, rfl⟩) | ((with_reducible refine (Ret.later (H4.out _)).mono ?_); rintro x _ ⟨rfl, e, rfl⟩) | ((with_reducible refine (Ret.later (HH.out _)).mono ?_); rintro x _ ⟨rfl, e, rfl⟩) | ((with_reducible refine (Ret.later (HG.out _)).mono ?_); rintro x _ ⟨rfl, e, rfl⟩)))
                      go_ret
                      exact Ret.mk (by rw [HS.out]; rfl) (HE.out.trans e.h)
                  | false =>
                    have XT : Hid (¬ (p.fl / 16384 % 2 = 1 ∨ p.fl / 262144 % 2 = 1)) := fun h => by have := HTB.out.2 h; rw [hT] at this; cases this
                    subst hT
                    have HS : Hid (p.right = 0) := by
                      unfold Hid PV.right
                      rw [if_neg (by rw [HR.out]; decide), if_neg (by have := G0.out; omega), if_neg (fun h => h.elim (fun h => XT.out h.1) (fun h => HN.out h.1))]
                    go_wp2_with (first | (go_at_call 50; first | ((with_reducible refine (Ret.later (KD.out _)).mono ?_); rintro x _ ⟨rfl, e, rfl⟩) | ((with_reducible refine (Ret.later (KS.out _)).mono ?_); rintro x _ ⟨rfl, e, rfl⟩) | ((with_reducible refine (Ret.later (KR.out _)).mono ?_); rintro x _ ⟨rfl, e, rfl⟩)) | (go_at_call 65; first | ((with_reducible refine (Ret.later (H1.out _)).mono ?_); rintro x _ ⟨rfl, e, rfl⟩) | ((with_reducible refine (Ret.later (H2.out _)).mono ?_); rintro x _ ⟨rfl, e, rfl⟩) | ((with_reducible refine (Ret.later (H4.out _)).mono ?_); rintro x _ ⟨rfl, e, rfl⟩) | ((with_reducible refine (Ret.later (HH.out _)).mono ?_); rintro x _ ⟨rfl, e, rfl⟩) | ((with_reducible refine (Ret.later (HG.out _)).mono ?_); rintro x _ ⟨rfl, e, rfl⟩)))
                    go_ret
                    exact Ret.mk (by rw [HS.out]; rfl) (HE.out.trans e.h)
                · have ma : ((p.s.sch) == (1)) = false := by rw [beq_eq_false_iff_ne]; omega
                  have mb : ((p.s.sch) = (1)) = False := eq_false (by omega)
                  have mc : ((p.s.sch) != (1)) = true := by rw [bne_iff_ne]; omega
                  clear hS hN
                  cases hT : TB with
                  | true =>
                    have XT : Hid (p.fl / 16384 % 2 = 1 ∨ p.fl / 262144 % 2 = 1) := HTB.out.1 hT
                    subst hT
                    by_cases hx : p.fl / 2 % 2 = 1
                    · rw [show has p.fl 2 = true by unfold has; simp [hx]] at H2
                      have X2 := hid hx
                      clear hx
                      have HS : Hid (p.right = 8) := by
                        unfold Hid PV.right
                        rw [if_neg (by rw [HR.out]; decide), if_neg (by have := G0.out; omega), if_pos (.inl ⟨XT.out, .inr X2.out⟩)]
                      go_wp2_with (first | (go_at_call 50; first | ((with_reducible refine (Ret.later (KD.out _)).mono ?_); rintro x _ ⟨rfl, e, rfl⟩) | ((with_reducible refine (Ret.later (KS.out _)).mono ?_); rintro x _ ⟨rfl, e, rfl⟩) | ((with_reducible refine (Ret.later (KR.out _)).mono ?_); rintro x _ ⟨rfl, e, rfl⟩)) | (go_at_call 65; first | ((with_reducible refine (Ret.later (H1.out _)).mono ?_); rintro x _ ⟨rfl, e, rfl⟩) | ((with_reducible refine (Ret.later (H2.out _)).mono ?_); rintro x _ ⟨rfl, e, rfl⟩) | ((with_reducible refine (Ret.later (H4.out _)).mono ?_); rintro x _ ⟨rfl, e, rfl⟩) | ((with_reducible refine (Ret.later (HH.out _)).mono ?_); rintro x _ ⟨rfl, e, rfl⟩) | ((with_reducible refine (Ret.later (HG.out _)).mono ?_); rintro x _ ⟨rfl, e, rfl⟩)))
                      go_ret
                      exact Ret.mk (by rw [HS.out]; rfl) (HE.out.trans e.h)
                    · rw [show has p.fl 2 = false by unfold has; simp; omega] at H2
                      have X2 := hid hx
                      clear hx
                      have HS : Hid (p.right = 0) := by
                        unfold Hid PV.right
                        rw [if_neg (by rw [HR.out]; decide), if_neg (by have := G0.out; omega), if_neg (fun h => h.elim (fun h => h.2.elim HN.out X2.out) (fun h => HN.out h.1))]
                      go_wp2_with (first | (go_at_call 50; first | ((with_reducible refine (Ret.later (KD.out _)).mono ?_); rintro x _ ⟨rfl, e, rfl⟩) | ((with_reducible refine (Ret.later (KS.out _)).mono ?_); rintro x _ ⟨rfl, e, rfl⟩) | ((with_reducible refine (Ret.later (KR.out _)).mono ?_); rintro x _ ⟨rfl, e, rfl⟩)) | (go_at_call 65; first | ((with_reducible refine (Ret.later (H1.out _)).mono ?_); rintro x _ ⟨rfl, e, rfl⟩) | ((with_reducible refine (Ret.later (H2.out _)).mono ?_); rintro x _ ⟨rfl, e, rfl⟩) | ((with_reducible refine (Ret.later (H4.out _)).mono ?_); rintro x _ ⟨rfl, e, rfl⟩) | ((with_reducible refine (Ret.later (HH.out _)).mono ?_); rintro x _ ⟨rfl, e, rfl⟩) | ((with_reducible refine (Ret.later (HG.out _)).mono ?_); rintro x _ ⟨rfl, e, rfl⟩)))
                      go_ret
                      exact Ret.mk (by rw [HS.out]; rfl) (HE.out.trans e.h)
                  | false =>
                    have XT : Hid (¬ (p.fl / 16384 % 2 = 1 ∨ p.fl / 262144 % 2 = 1)) := fun h => by have := HTB.out.2 h; rw [hT] at this; cases this
                    subst hT
                    have HS : Hid (p.right = 0) := by
                      unfold Hid PV.right
                      rw [if_neg (by rw [HR.out]; decide), if_neg (by have := G0.out; omega), if_neg (fun h => h.elim (fun h => XT.out h.1) (fun h => HN.out h.1))]
                    go_wp2_with (first | (go_at_call 50; first | ((with_reducible refine (Ret.later (KD.out _)).mono ?_); rintro x _ ⟨rfl, e, rfl⟩) | ((with_reducible refine (Ret.later (KS.out _)).mono ?_); rintro x _ ⟨rfl, e, rfl⟩) | ((with_reducible refine (Ret.later (KR.out _)).mono ?_); rintro x _ ⟨rfl, e, rfl⟩)) | (go_at_call 65; first | ((with_reducible refine (Ret.later (H1.out _)).mono ?_); rintro x _ ⟨rfl, e, rfl⟩) | ((with_reducible refine (Ret.later (H2.out _)).mono ?_); rintro x _ ⟨rfl, e, rfl⟩) | ((with_reducible refine (Ret.later (H4.out _)).mono ?_); rintro x _ ⟨rfl, e, rfl⟩) | ((with_reducible refine (Ret.later (HH.out _)).mono ?_); rintro x _ ⟨rfl, e, rfl⟩) | ((with_reducible refine (Ret.later (HG.out _)).mono ?_); rintro x _ ⟨rfl, e, rfl⟩)))
                    go_ret
                    exact Ret.mk (by rw [HS.out]; rfl) (HE.out.trans e.h)
            | false =>
              rw [hx1] at H1
              have F1 : Hid (¬ p.fl % 2 = 1) := by unfold has at hx1; unfold Hid; simpa using hx1
              clear hx1
              go_upto_region 10 with (first | (go_at_call 50; first | ((with_reducible refine (Ret.later (KD.out _)).mono ?_); rintro x _ ⟨rfl, e, rfl⟩) | ((with_reducible refine (Ret.later (KS.out _)).mono ?_); rintro x _ ⟨rfl, e, rfl⟩) | ((with_reducible refine (Ret.later (KR.out _)).mono ?_); rintro x _ ⟨rfl, e, rfl⟩)) | (go_at_call 65; first | ((with_reducible refine (Ret.later (H1.out _)).mono ?_); rintro x _ ⟨rfl, e, rfl⟩) | ((with_reducible refine (Ret.later (H2.out _)).mono ?_); rintro x _ ⟨rfl, e, rfl⟩) | ((with_reducible refine (Ret.later (H4.out _)).mono ?_); rintro x _ ⟨rfl, e, rfl⟩) | ((with_reducible refine (Ret.later (HH.out _)).mono ?_); rintro x _ ⟨rfl, e, rfl⟩) | ((with_reducible refine (Ret.later (HG.out _)).mono ?_); rintro x _ ⟨rfl, e, rfl⟩)))
              go_cut [6] (fun s6 wx => s6 = .bool (has p.fl 16384 || has p.fl 262144) ∧ ∃ e : Later V2, wx = e.x)
              case first =>
                cases h1 : has p.fl 16384
                all_goals rw [h1] at HH
                all_goals cases h2 : has p.fl 262144
                all_goals rw [h2] at HG
                all_goals have Q1 := hid h1
                all_goals have Q2 := hid h2
                all_goals clear h1 h2
                all_goals go_wp2_with (first | (go_at_call 50; first | ((with_reducible refine (Ret.later (KD.out _)).mono ?_); rintro x _ ⟨rfl, e, rfl⟩) | ((with_reducible refine (Ret.later (KS.out _)).mono ?_); rintro x _ ⟨rfl, e, rfl⟩) | ((with_reducible refine (Ret.later (KR.out _)).mono ?_); rintro x _ ⟨rfl, e, rfl⟩)) | (go_at_call 65; first | ((with_reducible refine (Ret.later (H1.out _)).mono ?_); rintro x _ ⟨rfl, e, rfl⟩) | ((with_reducible refine (Ret.later (H2.out _)).mono ?_); rintro x _ ⟨rfl, e, rfl⟩) | ((with_reducible refine (Ret.later (H4.out _)).mono ?_); rintro x _ ⟨rfl, e, rfl⟩) | ((with_reducible refine (Ret.later (HH.out _)).mono ?_); rintro x _ ⟨rfl, e, rfl⟩) | ((with_reducible refine (Ret.later (HG.out _)).mono ?_); rintro x _ ⟨rfl, e, rfl⟩)))
                all_goals go_meet
                all_goals exact ⟨by rw [Q1.out, Q2.out]; rfl, e, rfl⟩
              obtain ⟨rfl, e, rfl⟩ := hcut
              generalize (has p.fl 16384 || has p.fl 262144) = TB at *
              by_cases hx : 0 < p.o
              · have za : decide ((0 : Int) < (p.o : Int)) = true := decide_eq_true (by omega)
                have zb : ((0 : Int) < (p.o : Int)) = True := eq_true (by omega)
                have ka : decide (0 < p.o) = true := decide_eq_true (by omega)
                have kb : (0 < p.o) = True := eq_true (by omega)
                have Y := hid hx
                clear hx
                have HS : Hid (p.right = 8) := by
                  unfold Hid PV.right
                  rw [if_neg (by rw [HR.out]; decide), if_pos (.inr ⟨F1.out, .inl Y.out⟩)]
                go_wp2_with (first | (go_at_call 50; first | ((with_reducible refine (Ret.later (KD.out _)).mono ?_); rintro x _ ⟨rfl, e, rfl⟩) | ((with_reducible refine (Ret.later (KS.out _)).mono ?_); rintro x _ ⟨rfl, e, rfl⟩) | ((with_reducible refine (Ret.later (KR.out _)).mono ?_); rintro x _ ⟨rfl, e, rfl⟩)) | (go_at_call 65; first | ((with_reducible refine (Ret.later (H1.out _)).mono ?_); rintro x _ ⟨rfl, e, rfl⟩) | ((with_reducible refine (Ret.later (H2.out _)).mono ?_); rintro x _ ⟨rfl, e, rfl⟩) | ((with_reducible refine (Ret.later (H4.out _)).mono ?_); rintro x _ ⟨rfl, e, rfl⟩) | ((with_reducible refine (Ret.later (HH.out _)).mono ?_); rintro x _ ⟨rfl, e, rfl⟩) | ((with_reducible refine (Ret.later (HG.out _)).mono ?_); rintro x _ ⟨rfl, e, rfl⟩)))
                go_ret
                exact Ret.mk (by rw [HS.out]; rfl) (HE.out.trans e.h)
              by_cases hy : 0 < p.n
              · have za : decide ((0 : Int) < (p.o : Int)) = false := decide_eq_false (by omega)
                have zb : ((0 : Int) < (p.o : Int)) = False := eq_false (by omega)
                have ka : decide (0 < p.o) = false := decide_eq_false (by omega)
                have kb : (0 < p.o) = False := eq_false (by omega)
                have sa : decide ((0 : Int) < (p.n : Int)) = true := decide_eq_true (by omega)
                have sb : ((0 : Int) < (p.n : Int)) = True := eq_true (by omega)
                have ga : decide (0 < p.n) = true := decide_eq_true (by omega)
                have gb : (0 < p.n) = True := eq_true (by omega)
                have Y := hid hy
                clear hy hx
                have HS : Hid (p.right = 8) := by
                  unfold Hid PV.right
                  rw [if_neg (by rw [HR.out]; decide), if_pos (.inr ⟨F1.out, .inr Y.out⟩)]
                go_wp2_with (first | (go_at_call 50; first | ((with_reducible refine (Ret.later (KD.out _)).mono ?_); rintro x _ ⟨rfl, e, rfl⟩) | ((with_reducible refine (Ret.later (KS.out _)).mono ?_); rintro x _ ⟨rfl, e, rfl⟩) | ((with_reducible refine (Ret.later (KR.out _)).mono ?_); rintro x _ ⟨rfl, e, rfl⟩)) | (go_at_call 65; first | ((with_reducible refine (Ret.later (H1.out _)).mono ?_); rintro x _ ⟨rfl, e, rfl⟩) | ((with_reducible refine (Ret.later (H2.out _)).mono ?_); rintro x _ ⟨rfl, e, rfl⟩) | ((with_reducible refine (Ret.later (H4.out _)).mono ?_); rintro x _ ⟨rfl, e, rfl⟩) | ((with_reducible refine (Ret.later (HH.out _)).mono ?_); rintro x _ ⟨rfl, e, rfl⟩) | ((with_reducible refine (Ret.later (HG.out _)).mono ?_); rintro x _ ⟨rfl, e, rfl⟩)))
                go_ret
                exact Ret.mk (by rw [HS.out]; rfl) (HE.out.trans e.h)
              have G0 : Hid (¬ ((p.fl % 2 = 1 ∧ (p.fl / 4 % 2 = 1 ∨ p.n ≤ p.o)) ∨ (¬ p.fl % 2 = 1 ∧ (0 < p.o ∨ 0 < p.n)))) := by have := F1.out; unfold Hid; omega
              have ho : p.o = 0 := by omega
              have hn : p.n = 0 := by omega
              rw [ho] at b17
              rw [hn] at b18
              clear hx hy ho hn
              by_cases hN : p.none
              · have n1 : p.s.sch = 1 := hN.1
                have n2 : p.s.name = [110, 111, 110, 101] := hN.2
                rw [n1] at b6
                rw [n2] at b7
                clear n1 n2
                have HN := hid hN
                clear hN
                cases hT : TB with
                | true =>
                  have XT : Hid (p.fl / 16384 % 2 = 1 ∨ p.fl / 262144 % 2 = 1) := HTB.out.1 hT
                  subst hT
                  have HS : Hid (p.right = 8) := by
                    unfold Hid PV.right
                    rw [if_neg (by rw [HR.out]; decide), if_neg (by have := G0.out; omega), if_pos (.inl ⟨XT.out, .inl HN.out⟩)]
                  go_wp2_with (first | (go_at_call 50; first | ((with_reducible refine (Ret.later (KD.out _)).mono ?_); rintro x _ ⟨rfl, e, rfl⟩) | ((with_reducible refine (Ret.later (KS.out _)).mono ?_); rintro x _ ⟨rfl, e, rfl⟩) | ((with_reducible refine (Ret.later (KR.out _)).mono ?_); rintro x _ ⟨rfl, e, rfl⟩)) | (go_at_call 65; first | ((with_reducible refine (Ret.later (H1.out _)).mono ?_); rintro x _ ⟨rfl, e, rfl⟩) | ((with_reducible refine (Ret.later (H2.out _)).mono ?_); rintro x _ ⟨rfl, e, rfl⟩) | ((with_reducible refine (Ret.later (H4.out _)).mono ?_); rintro x _ ⟨rfl, e, rfl⟩) | ((with_reducible refine (Ret.later (HH.out _)).mono ?_); rintro x _ ⟨rfl, e, rfl⟩) | ((with_reducible refine (Ret.later (HG.out _)).mono ?_); rintro x _ ⟨rfl, e, rfl⟩)))
                  go_ret
                  exact Ret.mk (by rw [HS.out]; rfl) (HE.out.trans e.h)
                | false =>
                  have XT : Hid (¬ (p.fl / 16384 % 2 = 1 ∨ p.fl / 262144 % 2 = 1)) := fun h => by have := HTB.out.2 h; rw [hT] at this; cases this
                  subst hT
                  by_cases hx : p.fl / 4 % 2 = 1
                  · rw [show has p.fl 4 = true by unfold has; simp [hx]] at H4
                    have X4 := hid hx
                    clear hx
                    have HS : Hid (p.right = 0) := by
                      unfold Hid PV.right
                      rw [if_neg (by rw [HR.out]; decide), if_neg (by have := G0.out; omega), if_neg (fun h => h.elim (fun h => XT.out h.1) (fun h => h.2 X4.out))]
                    go_wp2_with (first | (go_at_call 50; first | ((with_reducible refine (Ret.later (KD.out _)).mono ?_); rintro x _ ⟨rfl, e, rfl⟩) | ((with_reducible refine (Ret.later (KS.out _)).mono ?_); rintro x _ ⟨rfl, e, rfl⟩) | ((with_reducible refine (Ret.later (KR.out _)).mono ?_); rintro x _ ⟨rfl, e, rfl⟩)) | (go_at_call 65; first | ((with_reducible refine (Ret.later (H1.out _)).mono ?_); rintro x _ ⟨rfl, e, rfl⟩) | ((with_reducible refine (Ret.later (H2.out _)).mono ?_); rintro x _ ⟨rfl, e, rfl⟩) | ((with_reducible refine (Ret.later (H4.out _)).mono ?_); rintro x _ ⟨rfl, e, rfl⟩) | ((with_reducible refine (Ret.later (HH.out _)).mono ?_); rintro x _ ⟨rfl, e, rfl⟩) | ((with_reducible refine (Ret.later (HG.out _)).mono ?_); rintro x _ ⟨rfl, e, rfl⟩)))
                    go_ret
                    exact Ret.mk (by rw [HS.out]; rfl) (HE.out.trans e.h)
                  · rw [show has p.fl 4 = false by unfold has; simp; omega] at H4
                    have X4 := hid hx
                    clear hx
                    have HS : Hid (p.right = 8) := by
                      unfold Hid PV.right
                      rw [if_neg (by rw [HR.out]; decide), if_neg (by have := G0.out; omega), if_pos (.inr ⟨HN.out, X4.out⟩)]
                    go_wp2_with (first | (go_at_call 50; first | ((with_reducible refine (Ret.later (KD.out _)).mono ?_); rintro x _ ⟨rfl, e, rfl⟩) | ((with_reducible refine (Ret.later (KS.out _)).mono ?_); rintro x _ ⟨rfl, e, rfl⟩) | ((with_reducible refine (Ret.later (KR.out _)).mono ?_); rintro x _ ⟨rfl, e, rfl⟩)) | (go_at_call 65; first | ((with_reducible refine (Ret.later (H1.out _)).mono ?_); rintro x _ ⟨rfl, e, rfl⟩) | ((with_reducible refine (Ret.later (H2.out _)).mono ?_); rintro x _ ⟨rfl, e, rfl⟩) | ((with_reducible refine (Ret.later (H4.out _)).mono ?_); rintro x _ ⟨rfl, e, rfl⟩) | ((with_reducible refine (Ret.later (HH.out _)).mono ?_); rintro x _ ⟨rfl, e, rfl⟩) | ((with_reducible refine (Ret.later (HG.out _)).mono ?_); rintro x _ ⟨rfl, e, rfl⟩)))
                    go_ret
                    exact Ret.mk (by rw [HS.out]; rfl) (HE.out.trans e.h)
              · have HN := hid hN
                by_cases hS : p.s.sch = 1
                · have hM : ¬ p.s.name = [110, 111, 110, 101] := fun h => hN ⟨hS, h⟩
                  rw [hS] at b6
                  have ma : ((p.s.name) == ([110, 111, 110, 101])) = false := by rw [beq_eq_false_iff_ne]; exact hM
                  have mb : ((p.s.name) = ([110, 111, 110, 101])) = False := eq_false (by exact hM)
                  have mc : ((p.s.name) != ([110, 111, 110, 101])) = true := by rw [bne_iff_ne]; exact hM
                  clear hM hS hN
                  cases hT : TB with
                  | true =>
                    have XT : Hid (p.fl / 16384 % 2 = 1 ∨ p.fl / 262144 % 2 = 1) := HTB.out.1 hT
                    subst hT
                    by_cases hx : p.fl / 2 % 2 = 1
                    · rw [show has p.fl 2 = true by unfold has; simp [hx]] at H2
                      have X2 := hid hx
                      clear hx
                      have HS : Hid (p.right = 8) := by
                        unfold Hid PV.right
                        rw [if_neg (by rw [HR.out]; decide), if_neg (by have := G0.out; omega), if_pos (.inl ⟨XT.out, .inr X2.out⟩)]
                      go_wp2_with (first | (go_at_call 50; first | ((with_reducible refine (Ret.later (KD.out _)).mono ?_); rintro x _ ⟨rfl, e, rfl⟩) | ((with_reducible refine (Ret.later (KS.out _)).mono ?_); rintro x _ ⟨rfl, e, rfl⟩) | ((with_reducible refine (Ret.later (KR.out _)).mono ?_); rintro x _ ⟨rfl, e, rfl⟩)) | (go_at_call 65; first | ((with_reducible refine (Ret.later (H1.out _)).mono ?_); rintro x _ ⟨rfl, e, rfl⟩) | ((with_reducible refine (Ret.later (H2.out _)).mono ?_); rintro x _ ⟨rfl, e, rfl⟩) | ((with_reducible refine (Ret.later (H4.out _)).mono ?_); rintro x _ ⟨rfl, e, rfl⟩) | ((with_reducible refine (Ret.later (HH.out _)).mono ?_); rintro x _ ⟨rfl, e, rfl⟩) | ((with_reducible refine (Ret.later (HG.out _)).mono ?_); rintro x _ ⟨rfl, e, rfl⟩)))
                      go_ret
                      exact Ret.mk (by rw [HS.out]; rfl) (HE.out.trans e.h)
                    · rw [show has p.fl 2 = false by unfold has; simp; omega] at H2
                      have X2 := hid hx
                      clear hx
                      have HS : Hid (p.right = 0) := by
                        unfold Hid PV.right
                        rw [if_neg (by rw [HR.out]; decide), if_neg (by have := G0.out; omega), if_neg (fun h => h.elim (fun h => h.2.elim HN.out X2.out) (fun h => HN.out h.1))]
                      go_wp2_with (first | (go_at_call 50; first | ((with_reducible refine (Ret.later (KD.out _)).mono ?_); rintro x _ ⟨rfl, e, rfl⟩) | ((with_reducible refine (Ret.later (KS.out _)).mono ?_); rintro x _ ⟨rfl, e, rfl⟩) | ((with_reducible refine (Ret.later (KR.out _)).mono ?_); rintro x _ ⟨rfl, e, rfl⟩)) | (go_at_call 65; first | ((with_reducible refine (Ret.later (H1.out _)).mono ?_); rintro x _ ⟨rfl, e, rfl⟩) | ((with_reducible refine (Ret.later (H2.out _)).mono ?_); rintro x _ ⟨rfl, e, rfl⟩) | ((with_reducible refine (Ret.later (H4.out _)).mono ?_); rintro x _ ⟨rfl, e, rfl⟩) | ((with_reducible refine (Ret.later (HH.out _)).mono ?_); rintro x _ ⟨rfl, e, rfl⟩) | ((with_reducible refine (Ret.later (HG.out _)).mono ?_); rintro x _ ⟨rfl, e, rfl⟩)))
                      go_ret
                      exact Ret.mk (by rw [HS.out]; rfl) (HE.out.trans e.h)
                  | false =>
                    have XT : Hid (¬ (p.fl / 16384 % 2 = 1 ∨ p.fl / 262144 % 2 = 1)) := fun h => by have := HTB.out.2 h; rw [hT] at this; cases this
                    subst hT
                    have HS : Hid (p.right = 0) := by
                      unfold Hid PV.right
                      rw [if_neg (by rw [HR.out]; decide), if_neg (by have := G0.out; omega), if_neg (fun h => h.elim (fun h => XT.out h.1) (fun h => HN.out h.1))]
                    go_wp2_with (first | (go_at_call 50; first | ((with_reducible refine (Ret.later (KD.out _)).mono ?_); rintro x _ ⟨rfl, e, rfl⟩) | ((with_reducible refine (Ret.later (KS.out _)).mono ?_); rintro x _ ⟨rfl, e, rfl⟩) | ((with_reducible refine (Ret.later (KR.out _)).mono ?_); rintro x _ ⟨rfl, e, rfl⟩)) | (go_at_call 65; first | ((with_reducible refine (Ret.later (H1.out _)).mono ?_); rintro x _ ⟨rfl, e, rfl⟩) | ((with_reducible refine (Ret.later (H2.out _)).mono ?_); rintro x _ ⟨rfl, e, rfl⟩) | ((with_reducible refine (Ret.later (H4.out _)).mono ?_); rintro x _ ⟨rfl, e, rfl⟩) | ((with_reducible refine (Ret.later (HH.out _)).mono ?_); rintro x _ ⟨rfl, e, rfl⟩) | ((with_reducible refine (Ret.later (HG.out _)).mono ?_); rintro x _ ⟨rfl, e, rfl⟩)))
                    go_ret
                    exact Ret.mk (by rw [HS.out]; rfl) (HE.out.trans e.h)
                · have ma : ((p.s.sch) == (1)) = false := by rw [beq_eq_false_iff_ne]; omega
                  have mb : ((p.s.sch) = (1)) = False := eq_false (by omega)
                  have mc : ((p.s.sch) != (1)) = true := by rw [bne_iff_ne]; omega
                  clear hS hN
                  cases hT : TB with
                  | true =>
                    have XT : Hid (p.fl / 16384 % 2 = 1 ∨ p.fl / 262144 % 2 = 1) := HTB.out.1 hT
                    subst hT
                    by_cases hx : p.fl / 2 % 2 = 1
                    · rw [show has p.fl 2 = true by unfold has; simp [hx]] at H2
                      have X2 := hid hx
                      clear hx
                      have HS : Hid (p.right = 8) := by
                        unfold Hid PV.right
                        rw [if_neg (by rw [HR.out]; decide), if_neg (by have := G0.out; omega), if_pos (.inl ⟨XT.out, .inr X2.out⟩)]
                      go_wp2_with (first | (go_at_call 50; first | ((with_reducible refine (Ret.later (KD.out _)).mono ?_); rintro x _ ⟨rfl, e, rfl⟩) | ((with_reducible refine (Ret.later (KS.out _)).mono ?_); rintro x _ ⟨rfl, e, rfl⟩) | ((with_reducible refine (Ret.later (KR.out _)).mono ?_); rintro x _ ⟨rfl, e, rfl⟩)) | (go_at_call 65; first | ((with_reducible refine (Ret.later (H1.out _)).mono ?_); rintro x _ ⟨rfl, e, rfl⟩) | ((with_reducible refine (Ret.later (H2.out _)).mono ?_); rintro x _ ⟨rfl, e, rfl⟩) | ((with_reducible refine (Ret.later (H4.out _)).mono ?_); rintro x _ ⟨rfl, e, rfl⟩) | ((with_reducible refine (Ret.later (HH.out _)).mono ?_); rintro x _ ⟨rfl, e, rfl⟩) | ((with_reducible refine (Ret.later (HG.out _)).mono ?_); rintro x _ ⟨rfl, e, rfl⟩)))
                      go_ret
                      exact Ret.mk (by rw [HS.out]; rfl) (HE.out.trans e.h)
                    · rw [show has p.fl 2 = false by unfold has; simp; omega] at H2
                      have X2 := hid hx
                      clear hx
                      have HS : Hid (p.right = 0) := by
                        unfold Hid PV.right
                        rw [if_neg (by rw [HR.out]; decide), if_neg (by have := G0.out; omega), if_neg (fun h => h.elim (fun h => h.2.elim HN.out X2.out) (fun h => HN.out h.1))]
                      go_wp2_with (first | (go_at_call 50; first | ((with_reducible refine (Ret.later (KD.out _)).mono ?_); rintro x _ ⟨rfl, e, rfl⟩) | ((with_reducible refine (Ret.later (KS.out _)).mono ?_); rintro x _ ⟨rfl, e, rfl⟩) | ((with_reducible refine (Ret.later (KR.out _)).mono ?_); rintro x _ ⟨rfl, e, rfl⟩)) | (go_at_call 65; first | ((with_reducible refine (Ret.later (H1.out _)).mono ?_); rintro x _ ⟨rfl, e, rfl⟩) | ((with_reducible refine (Ret.later (H2.out _)).mono ?_); rintro x _ ⟨rfl, e, rfl⟩) | ((with_reducible refine (Ret.later (H4.out _)).mono ?_); rintro x _ ⟨rfl, e, rfl⟩) | ((with_reducible refine (Ret.later (HH.out _)).mono ?_); rintro x _ ⟨rfl, e, rfl⟩) | ((with_reducible refine (Ret.later (HG.out _)).mono ?_); rintro x _ ⟨rfl, e, rfl⟩)))
                      go_ret
                      exact Ret.mk (by rw [HS.out]; rfl) (HE.out.trans e.h)
                  | false =>
                    have XT : Hid (¬ (p.fl / 16384 % 2 = 1 ∨ p.fl / 262144 % 2 = 1)) := fun h => by have := HTB.out.2 h; rw [hT] at this; cases this
                    subst hT
                    have HS : Hid (p.right = 0) := by
                      unfold Hid PV.right
                      rw [if_neg (by rw [HR.out]; decide), if_neg (by have := G0.out; omega), if_neg (fun h => h.elim (fun h => XT.out h.1) (fun h => HN.out h.1))]
                    go_wp2_with (first | (go_at_call 50; first | ((with_reducible refine (Ret.later (KD.out _)).mono ?_); rintro x _ ⟨rfl, e, rfl⟩) | ((with_reducible refine (Ret.later (KS.out _)).mono ?_); rintro x _ ⟨rfl, e, rfl⟩) | ((with_reducible refine (Ret.later (KR.out _)).mono ?_); rintro x _ ⟨rfl, e, rfl⟩)) | (go_at_call 65; first | ((with_reducible refine (Ret.later (H1.out _)).mono ?_); rintro x _ ⟨rfl, e, rfl⟩) | ((with_reducible refine (Ret.later (H2.out _)).mono ?_); rintro x _ ⟨rfl, e, rfl⟩) | ((with_reducible refine (Ret.later (H4.out _)).mono ?_); rintro x _ ⟨rfl, e, rfl⟩) | ((with_reducible refine (Ret.later (HH.out _)).mono ?_); rintro x _ ⟨rfl, e, rfl⟩) | ((with_reducible refine (Ret.later (HG.out _)).mono ?_); rintro x _ ⟨rfl, e, rfl⟩)))
                    go_ret
                    exact Ret.mk (by rw [HS.out]; rfl) (HE.out.trans e.h)
end Go.Proofs.Ytogjghmoankleaa


namespace Go.Proofs.Ytogjghmoankleaa
open Go.RowKit
set_option linter.unusedVariables false
set_option linter.unusedSimpArgs false

set_option maxRecDepth 20000 in
theorem eidNoneP_any (w : World) : Calls Try.prog 97 #[] w (Ret (.agg #[.int .i64 1, str [110, 111, 110, 101], .int .u64 0, .int .u64 0]) w) := by
  go_enter Try.func97, Try.ntmps97
  go_wp2
  refine bodyPost_ret (v := .agg #[.int .i64 1, str [110, 111, 110, 101], .int .u64 0, .int .u64 0]) ?_ rfl (Ret.mk rfl ((Mod.refl _ _).alloc _))
  simp [results, Try.results97, go_sem]
theorem and_powP (f k : Nat) : f &&& 2 ^ k = if f.testBit k = true then 2 ^ k else 0 := by
  apply Nat.eq_of_testBit_eq
  intro i
  rw [Nat.testBit_and, Nat.testBit_two_pow]
  by_cases h : k = i
  · subst h
    cases f.testBit k <;> simp
  · cases f.testBit k <;> simp [h]
theorem u64_and_powP (f k : Nat) (hf : f < 18446744073709551616) (hk : k < 64) : bits .and .u64 (f : Int) ((2 ^ k : Nat) : Int) = if f / 2 ^ k % 2 = 1 then ((2 ^ k : Nat) : Int) else 0 := by
  have h2 : 2 ^ k < 18446744073709551616 := by
    have : 2 ^ k < 2 ^ 64 := Nat.pow_lt_pow_right (by omega) hk
    omega
  have h1 : bits .and .u64 (f : Int) ((2 ^ k : Nat) : Int) = ((f &&& 2 ^ k : Nat) : Int) := u64_and_nat f (2 ^ k) hf h2
  rw [h1, and_powP, Nat.testBit_eq_decide_div_mod_eq]
  by_cases h : f / 2 ^ k % 2 = 1 <;> simp [h]
theorem andP_no {f k : Nat} (hf : f < 18446744073709551616) (hk : k < 64) (h : f / 2 ^ k % 2 = 0) : bits .and .u64 (f : Int) ((2 ^ k : Nat) : Int) = 0 := by rw [u64_and_powP f k hf hk, if_neg (by omega)]
theorem andP_yes {f k : Nat} (hf : f < 18446744073709551616) (hk : k < 64) (h : f / 2 ^ k % 2 = 1) : bits .and .u64 (f : Int) ((2 ^ k : Nat) : Int) = ((2 ^ k : Nat) : Int) := by rw [u64_and_powP f k hf hk, if_pos h]
/-- Either of the two flags that ask for reports. -/
theorem and_tells {f : Nat} (hf : f < 18446744073709551616) : ∃ r : Int, bits .and .u64 (f : Int) 278528 = r ∧ (r = 0 ↔ ¬ (f / 16384 % 2 = 1 ∨ f / 262144 % 2 = 1)) := by
  refine ⟨_, rfl, ?_⟩
  have h := u64_and_nat f 278528 hf (by omega)
  have e : f &&& 278528 = (f &&& 2 ^ 14) ||| (f &&& 2 ^ 18) := by rw [← Nat.and_or_distrib_left]; rfl
  rw [e, and_powP, and_powP, Nat.testBit_eq_decide_div_mod_eq, Nat.testBit_eq_decide_div_mod_eq] at h
  have h2 : bits .and .u64 (f : Int) 278528 = bits .and .u64 (f : Int) ((278528 : Nat) : Int) := rfl
  rw [h2, h]
  by_cases a : f / 16384 % 2 = 1 <;> by_cases b : f / 262144 % 2 = 1 <;> simp [a, b]
set_option maxRecDepth 20000 in
set_option maxHeartbeats 1600000 in
theorem ranged_any (p : PV) (hnl : Hid (p.d.name.length < 4611686018427387904 ∧ p.s.name.length < 4611686018427387904 ∧ p.r.name.length < 4611686018427387904)) (w : World) : Calls Try.prog 96 #[.agg p.c] w (Ret (.bool p.ranged) w) := by
  have KD := hid (fun W => eidRight_any p.d hnl.out.1 W)
  have KS := hid (fun W => eidRight_any p.s hnl.out.2.1 W)
  have KR := hid (fun W => eidRight_any p.r hnl.out.2.2 W)
  have HE := hid ((Mod.refl [] w).alloc (.cells p.c 68))
  have HB := hid (Blk.new w 68 p.c)
  go_enter Try.func96, Try.ntmps96
  go_upto_region 1 with fail
  have HA := hid (Blk.new (w.alloc (.cells p.c 68)) 24 #[.int .u64 (p.t : Int), .int .u64 (p.q : Int), .int .u64 (p.l : Int), .int .u64 (p.o : Int), .int .u64 (p.n : Int)])
  go_wp2_with fail
  have HB2 := hid (HB.out.alloc (.cells #[.int .u64 (p.t : Int), .int .u64 (p.q : Int), .int .u64 (p.l : Int), .int .u64 (p.o : Int), .int .u64 (p.n : Int)] 24))
  have HE2 := hid (HE.out.alloc (.cells #[.int .u64 (p.t : Int), .int .u64 (p.q : Int), .int .u64 (p.l : Int), .int .u64 (p.o : Int), .int .u64 (p.n : Int)] 24))
  have HG : Hid ((w.alloc (.cells p.c 68)).heap.size = w.heap.size + 1) := hid (by simp)
  rw [HG.out] at HA
  generalize (w.alloc (.cells p.c 68)).alloc (.cells #[.int .u64 (p.t : Int), .int .u64 (p.q : Int), .int .u64 (p.l : Int), .int .u64 (p.o : Int), .int .u64 (p.n : Int)] 24) = V2 at *
  clear HB HE HG
  have b0 : ∀ e : Later V2, e.x.cell? ⟨w.heap.size, 0, none⟩ = some (.int .u64 (p.fl : Int)) := HB2.out.cellL 0 rfl
  have b1 : ∀ e : Later V2, e.x.cell? ⟨w.heap.size, 1, none⟩ = some (.int .i64 p.crc) := HB2.out.cellL 1 rfl
  have b2 : ∀ e : Later V2, e.x.cell? ⟨w.heap.size, 2, none⟩ = some (.int .i64 p.d.sch) := HB2.out.cellL 2 rfl
  have b3 : ∀ e : Later V2, e.x.cell? ⟨w.heap.size, 3, none⟩ = some (str p.d.name) := HB2.out.cellL 3 rfl
  have b4 : ∀ e : Later V2, e.x.cell? ⟨w.heap.size, 4, none⟩ = some (.int .u64 (p.d.node : Int)) := HB2.out.cellL 4 rfl
  have b5 : ∀ e : Later V2, e.x.cell? ⟨w.heap.size, 5, none⟩ = some (.int .u64 (p.d.svc : Int)) := HB2.out.cellL 5 rfl
  have b6 : ∀ e : Later V2, e.x.cell? ⟨w.heap.size, 6, none⟩ = some (.int .i64 p.s.sch) := HB2.out.cellL 6 rfl
  have b7 : ∀ e : Later V2, e.x.cell? ⟨w.heap.size, 7, none⟩ = some (str p.s.name) := HB2.out.cellL 7 rfl
  have b8 : ∀ e : Later V2, e.x.cell? ⟨w.heap.size, 8, none⟩ = some (.int .u64 (p.s.node : Int)) := HB2.out.cellL 8 rfl
  have b9 : ∀ e : Later V2, e.x.cell? ⟨w.heap.size, 9, none⟩ = some (.int .u64 (p.s.svc : Int)) := HB2.out.cellL 9 rfl
  have b10 : ∀ e : Later V2, e.x.cell? ⟨w.heap.size, 10, none⟩ = some (.int .i64 p.r.sch) := HB2.out.cellL 10 rfl
  have b11 : ∀ e : Later V2, e.x.cell? ⟨w.heap.size, 11, none⟩ = some (str p.r.name) := HB2.out.cellL 11 rfl
  have b12 : ∀ e : Later V2, e.x.cell? ⟨w.heap.size, 12, none⟩ = some (.int .u64 (p.r.node : Int)) := HB2.out.cellL 12 rfl
  have b13 : ∀ e : Later V2, e.x.cell? ⟨w.heap.size, 13, none⟩ = some (.int .u64 (p.r.svc : Int)) := HB2.out.cellL 13 rfl
  have b14 : ∀ e : Later V2, e.x.cell? ⟨w.heap.size, 14, none⟩ = some (.int .u64 (p.t : Int)) := HB2.out.cellL 14 rfl
  have b15 : ∀ e : Later V2, e.x.cell? ⟨w.heap.size, 15, none⟩ = some (.int .u64 (p.q : Int)) := HB2.out.cellL 15 rfl
  have b16 : ∀ e : Later V2, e.x.cell? ⟨w.heap.size, 16, none⟩ = some (.int .u64 (p.l : Int)) := HB2.out.cellL 16 rfl
  have b17 : ∀ e : Later V2, e.x.cell? ⟨w.heap.size, 17, none⟩ = some (.int .u64 (p.o : Int)) := HB2.out.cellL 17 rfl
  have b18 : ∀ e : Later V2, e.x.cell? ⟨w.heap.size, 18, none⟩ = some (.int .u64 (p.n : Int)) := HB2.out.cellL 18 rfl
  obtain ⟨e0, he0⟩ := Later.self V2
  have HAJ : Hid (∀ (e : Later V2) (i : Nat), i < 5 → e.x.cell? ⟨w.heap.size + 1, i, none⟩ = some (.int .u64 ((([p.t, p.q, p.l, p.o, p.n][i]?).getD 0 : Nat) : Int))) := fun e i hi => by
    rw [(HA.out.later e).cell i]
    match i, hi with
    | 0, _ => rfl
    | 1, _ => rfl
    | 2, _ => rfl
    | 3, _ => rfl
    | 4, _ => rfl
  go_loopw [17] (fun s17 wr => ∃ i : Nat, s17 = .int .i64 (i : Int) ∧ Hid (i ≤ 5 ∧ ∀ j, j < i → ([p.t, p.q, p.l, p.o, p.n][j]?).getD 0 ≤ 1099511627776) ∧ ∃ e : Later V2, wr = e.x) (fun s17 _ => 5 - (intOf s17).toNat)
  case atStart => exact ⟨0, rfl, (show Hid _ from ⟨by omega, fun j hj => by omega⟩), e0, he0⟩
  case round =>
    clear he0 e0
    obtain ⟨i, rfl, hi, e, rfl⟩ := hrel
    have HE := HE2
    have i0 : (0 : Int) ≤ (i : Int) := by omega
    have i5 : (i : Int) ≤ 5 := by have := hi.out.1; omega
    by_cases hlt : i < 5
    · have tc : decide ((i : Int) < 5) = true := decide_eq_true (by omega)
      have i1 : (i : Int) < 5 := by omega
      have HJ := fun e => HAJ.out e i hlt
      obtain ⟨x, hx⟩ : ∃ x, ([p.t, p.q, p.l, p.o, p.n][i]?).getD 0 = x := ⟨_, rfl⟩
      rw [hx] at HJ
      have HX := hid hx
      have HLT := hid hlt
      clear hx hlt
      by_cases hx : 1099511627776 < x
      · have ya : decide ((1099511627776 : Int) < (x : Int)) = true := decide_eq_true (by omega)
        have yb : ((1099511627776 : Int) < (x : Int)) = True := eq_true (by omega)
        have HR : Hid (p.ranged = false) := by
          unfold Hid PV.ranged
          have h5 := HLT.out
          have hX := HX.out
          match i, h5 with
          | 0, _ => have hX : p.t = x := hX; simp; omega
          | 1, _ => have hX : p.q = x := hX; simp; omega
          | 2, _ => have hX : p.l = x := hX; simp; omega
          | 3, _ => have hX : p.o = x := hX; simp; omega
          | 4, _ => have hX : p.n = x := hX; simp; omega
        clear hx
        go_wp2_with fail
        go_ret
        exact Ret.mk (by rw [HR.out]; rfl) (HE.out.trans e.h)
      · have ya : decide ((1099511627776 : Int) < (x : Int)) = false := decide_eq_false (by omega)
        have yb : ((1099511627776 : Int) < (x : Int)) = False := eq_false (by omega)
        have HN := hid hx
        clear hx
        go_wp2_with fail
        go_roundw
        case rel => exact ⟨i + 1, by go_num, (show Hid _ from ⟨HLT.out, fun j hj => by
          by_cases hji : j = i
          · subst hji; rw [HX.out]; have := HN.out; omega
          · exact hi.out.2 j (by omega)⟩), e, rfl⟩
        case measure => have := HLT.out; simp [intOf]; omega
    · obtain rfl : i = 5 := by have := hi.out.1; omega
      have HL : Hid (p.t ≤ 1099511627776 ∧ p.q ≤ 1099511627776 ∧ p.l ≤ 1099511627776 ∧ p.o ≤ 1099511627776 ∧ p.n ≤ 1099511627776) := by
        have h := hi.out.2
        have a0 : p.t ≤ _ := h 0 (by omega)
        have a1 : p.q ≤ _ := h 1 (by omega)
        have a2 : p.l ≤ _ := h 2 (by omega)
        have a3 : p.o ≤ _ := h 3 (by omega)
        have a4 : p.n ≤ _ := h 4 (by omega)
        exact ⟨a0, a1, a2, a3, a4⟩
      clear hlt HAJ i0 i5 hi
      go_upto_region 7 with fail
      cases hx : p.d.ok with
      | false =>
        rw [hx] at KD
        have HX := hid hx
        clear hx
        have HS : Hid (p.ranged = false) := by
          unfold Hid PV.ranged
          rw [HX.out]; simp
        go_wp2_with (go_at_call 90; first | ((with_reducible refine (Ret.later (KD.out _)).mono ?_); rintro x _ ⟨rfl, e, rfl⟩) | ((with_reducible refine (Ret.later (KS.out _)).mono ?_); rintro x _ ⟨rfl, e, rfl⟩) | ((with_reducible refine (Ret.later (KR.out _)).mono ?_); rintro x _ ⟨rfl, e, rfl⟩))
        go_ret
        exact Ret.mk (by rw [HS.out]; rfl) (HE.out.trans e.h)
      | true =>
        rw [hx] at KD
        have Xd := hid hx
        clear hx
        cases hx : p.s.ok with
        | false =>
          rw [hx] at KS
          have HX := hid hx
          clear hx
          have HS : Hid (p.ranged = false) := by
            unfold Hid PV.ranged
            rw [HX.out]; simp
          go_wp2_with (go_at_call 90; first | ((with_reducible refine (Ret.later (KD.out _)).mono ?_); rintro x _ ⟨rfl, e, rfl⟩) | ((with_reducible refine (Ret.later (KS.out _)).mono ?_); rintro x _ ⟨rfl, e, rfl⟩) | ((with_reducible refine (Ret.later (KR.out _)).mono ?_); rintro x _ ⟨rfl, e, rfl⟩))
          go_ret
          exact Ret.mk (by rw [HS.out]; rfl) (HE.out.trans e.h)
        | true =>
          rw [hx] at KS
          have Xs := hid hx
          clear hx
          cases hx : p.r.ok with
          | false =>
            rw [hx] at KR
            have HX := hid hx
            clear hx
            have HS : Hid (p.ranged = false) := by
              unfold Hid PV.ranged
              rw [HX.out]; simp
            go_wp2_with (go_at_call 90; first | ((with_reducible refine (Ret.later (KD.out _)).mono ?_); rintro x _ ⟨rfl, e, rfl⟩) | ((with_reducible refine (Ret.later (KS.out _)).mono ?_); rintro x _ ⟨rfl, e, rfl⟩) | ((with_reducible refine (Ret.later (KR.out _)).mono ?_); rintro x _ ⟨rfl, e, rfl⟩))
            go_ret
            exact Ret.mk (by rw [HS.out]; rfl) (HE.out.trans e.h)
          | true =>
            rw [hx] at KR
            have Xr := hid hx
            clear hx
            by_cases hx : p.crc < 0
            · have ua : decide (0 ≤ p.crc) = false := decide_eq_false (by omega)
              have ub : (0 ≤ p.crc) = False := eq_false (by omega)
              have HX := hid hx
              clear hx
              have HS : Hid (p.ranged = false) := by
                unfold Hid PV.ranged
                have := HX.out; simp; omega
              go_wp2_with (go_at_call 90; first | ((with_reducible refine (Ret.later (KD.out _)).mono ?_); rintro x _ ⟨rfl, e, rfl⟩) | ((with_reducible refine (Ret.later (KS.out _)).mono ?_); rintro x _ ⟨rfl, e, rfl⟩) | ((with_reducible refine (Ret.later (KR.out _)).mono ?_); rintro x _ ⟨rfl, e, rfl⟩))
              go_ret
              exact Ret.mk (by rw [HS.out]; rfl) (HE.out.trans e.h)
            have ua : decide (0 ≤ p.crc) = true := decide_eq_true (by omega)
            have ub : (0 ≤ p.crc) = True := eq_true (by omega)
            have X1 := hid hx
            clear hx
            by_cases hx : 2 < p.crc
            · have va : decide (p.crc ≤ 2) = false := decide_eq_false (by omega)
              have vb : (p.crc ≤ 2) = False := eq_false (by omega)
              have HX := hid hx
              clear hx
              have HS : Hid (p.ranged = false) := by
                unfold Hid PV.ranged
                have := HX.out; simp; omega
              go_wp2_with (go_at_call 90; first | ((with_reducible refine (Ret.later (KD.out _)).mono ?_); rintro x _ ⟨rfl, e, rfl⟩) | ((with_reducible refine (Ret.later (KS.out _)).mono ?_); rintro x _ ⟨rfl, e, rfl⟩) | ((with_reducible refine (Ret.later (KR.out _)).mono ?_); rintro x _ ⟨rfl, e, rfl⟩))
              go_ret
              exact Ret.mk (by rw [HS.out]; rfl) (HE.out.trans e.h)
            have va : decide (p.crc ≤ 2) = true := decide_eq_true (by omega)
            have vb : (p.crc ≤ 2) = True := eq_true (by omega)
            have X2 := hid hx
            clear hx
            by_cases hx : 2097152 ≤ p.fl
            · have xa : decide ((p.fl : Int) < 2097152) = false := decide_eq_false (by omega)
              have xb : ((p.fl : Int) < 2097152) = False := eq_false (by omega)
              have HX := hid hx
              clear hx
              have HS : Hid (p.ranged = false) := by
                unfold Hid PV.ranged
                have := HX.out; simp; omega
              go_wp2_with (go_at_call 90; first | ((with_reducible refine (Ret.later (KD.out _)).mono ?_); rintro x _ ⟨rfl, e, rfl⟩) | ((with_reducible refine (Ret.later (KS.out _)).mono ?_); rintro x _ ⟨rfl, e, rfl⟩) | ((with_reducible refine (Ret.later (KR.out _)).mono ?_); rintro x _ ⟨rfl, e, rfl⟩))
              go_ret
              exact Ret.mk (by rw [HS.out]; rfl) (HE.out.trans e.h)
            have xa : decide ((p.fl : Int) < 2097152) = true := decide_eq_true (by omega)
            have xb : ((p.fl : Int) < 2097152) = True := eq_true (by omega)
            have X3 := hid hx
            clear hx
            have HS : Hid (p.ranged = true) := by
              unfold Hid PV.ranged
              rw [Xd.out, Xs.out, Xr.out]; have := X1.out; have := X2.out; have := X3.out; have := HL.out; simp; omega
            go_wp2_with (go_at_call 90; first | ((with_reducible refine (Ret.later (KD.out _)).mono ?_); rintro x _ ⟨rfl, e, rfl⟩) | ((with_reducible refine (Ret.later (KS.out _)).mono ?_); rintro x _ ⟨rfl, e, rfl⟩) | ((with_reducible refine (Ret.later (KR.out _)).mono ?_); rintro x _ ⟨rfl, e, rfl⟩))
            go_ret
            exact Ret.mk (by rw [HS.out]; rfl) (HE.out.trans e.h)
set_option maxRecDepth 20000 in
set_option maxHeartbeats 1600000 in
theorem cPriRight_any (p : PV) (hnl : Hid (p.d.name.length < 4611686018427387904 ∧ p.s.name.length < 4611686018427387904 ∧ p.r.name.length < 4611686018427387904)) (hf : p.fl < 18446744073709551616) (w : World) : Calls Try.prog 64 #[.agg p.c] w (Ret (.int .i64 p.right) w) := by
  have KR := hid (fun W => ranged_any p hnl W)
  have hfl := hid hf
  have HNZ : Hid (p.ranged = true → p.none → p.s.node = 0 ∧ p.s.svc = 0) := fun hr hn => by
    have ho := (PV.ranged_spec hr).2.1
    unfold EV.ok at ho
    rw [if_pos hn.1] at ho
    simp only [Bool.and_eq_true, decide_eq_true_eq] at ho
    exact ⟨ho.1.1, ho.1.2⟩
  have HE := hid ((Mod.refl [] w).alloc (.cells p.c 68))
  have HB := hid (Blk.new w 68 p.c)
  have f0 : (0 : Int) ≤ (p.fl : Int) := by omega
  clear hf
  go_enter Try.func64, Try.ntmps64
  go_upto_region 1 with fail
  generalize w.alloc (.cells p.c 68) = V at *
  have b0 : ∀ e : Later V, e.x.cell? ⟨w.heap.size, 0, none⟩ = some (.int .u64 (p.fl : Int)) := HB.out.cellL 0 rfl
  have b1 : ∀ e : Later V, e.x.cell? ⟨w.heap.size, 1, none⟩ = some (.int .i64 p.crc) := HB.out.cellL 1 rfl
  have b2 : ∀ e : Later V, e.x.cell? ⟨w.heap.size, 2, none⟩ = some (.int .i64 p.d.sch) := HB.out.cellL 2 rfl
  have b3 : ∀ e : Later V, e.x.cell? ⟨w.heap.size, 3, none⟩ = some (str p.d.name) := HB.out.cellL 3 rfl
  have b4 : ∀ e : Later V, e.x.cell? ⟨w.heap.size, 4, none⟩ = some (.int .u64 (p.d.node : Int)) := HB.out.cellL 4 rfl
  have b5 : ∀ e : Later V, e.x.cell? ⟨w.heap.size, 5, none⟩ = some (.int .u64 (p.d.svc : Int)) := HB.out.cellL 5 rfl
  have b6 : ∀ e : Later V, e.x.cell? ⟨w.heap.size, 6, none⟩ = some (.int .i64 p.s.sch) := HB.out.cellL 6 rfl
  have b7 : ∀ e : Later V, e.x.cell? ⟨w.heap.size, 7, none⟩ = some (str p.s.name) := HB.out.cellL 7 rfl
  have b8 : ∀ e : Later V, e.x.cell? ⟨w.heap.size, 8, none⟩ = some (.int .u64 (p.s.node : Int)) := HB.out.cellL 8 rfl
  have b9 : ∀ e : Later V, e.x.cell? ⟨w.heap.size, 9, none⟩ = some (.int .u64 (p.s.svc : Int)) := HB.out.cellL 9 rfl
  have b10 : ∀ e : Later V, e.x.cell? ⟨w.heap.size, 10, none⟩ = some (.int .i64 p.r.sch) := HB.out.cellL 10 rfl
  have b11 : ∀ e : Later V, e.x.cell? ⟨w.heap.size, 11, none⟩ = some (str p.r.name) := HB.out.cellL 11 rfl
  have b12 : ∀ e : Later V, e.x.cell? ⟨w.heap.size, 12, none⟩ = some (.int .u64 (p.r.node : Int)) := HB.out.cellL 12 rfl
  have b13 : ∀ e : Later V, e.x.cell? ⟨w.heap.size, 13, none⟩ = some (.int .u64 (p.r.svc : Int)) := HB.out.cellL 13 rfl
  have b14 : ∀ e : Later V, e.x.cell? ⟨w.heap.size, 14, none⟩ = some (.int .u64 (p.t : Int)) := HB.out.cellL 14 rfl
  have b15 : ∀ e : Later V, e.x.cell? ⟨w.heap.size, 15, none⟩ = some (.int .u64 (p.q : Int)) := HB.out.cellL 15 rfl
  have b16 : ∀ e : Later V, e.x.cell? ⟨w.heap.size, 16, none⟩ = some (.int .u64 (p.l : Int)) := HB.out.cellL 16 rfl
  have b17 : ∀ e : Later V, e.x.cell? ⟨w.heap.size, 17, none⟩ = some (.int .u64 (p.o : Int)) := HB.out.cellL 17 rfl
  have b18 : ∀ e : Later V, e.x.cell? ⟨w.heap.size, 18, none⟩ = some (.int .u64 (p.n : Int)) := HB.out.cellL 18 rfl
  have HBL : Hid (∀ e : Later V, Blk e.x w.heap.size 68 p.c) := fun e => HB.out.later e
  obtain ⟨e, he0⟩ := Later.self V
  rw [he0]
  clear he0
  obtain ⟨r, hr, hrT⟩ := and_tells hfl.out
  have HTB : Hid ((r != 0) = true ↔ (p.fl / 16384 % 2 = 1 ∨ p.fl / 262144 % 2 = 1)) := by unfold Hid; rw [bne_iff_ne, Ne, hrT, Classical.not_not]
  clear hrT
  by_cases hx : p.fl % 2 = 1
  all_goals first | (have a1 : bits .and .u64 (p.fl : Int) 1 = 1 := by (have h := andP_yes (k := 0) hfl.out (by omega) (by simpa using hx); simpa using h)) | (have a1 : bits .and .u64 (p.fl : Int) 1 = 0 := by (have h := andP_no (k := 0) hfl.out (by omega) (by have : p.fl % 2 = 0 := (by omega); simpa using this); simpa using h))
  all_goals have F1 := hid hx
  all_goals clear hx
  all_goals refine wp_region_later (by kernel_rfl) (by kernel_rfl) ?_
  all_goals repeat (go_big_quiet_step (fail))
  all_goals refine wpQuiet_nil ?_
  all_goals rintro _ ⟨e, rfl⟩
  all_goals generalize (r != 0) = TB at *
  all_goals clear hr
  all_goals cases hR : p.ranged
  all_goals rw [hR] at KR
  all_goals have HR := hid hR
  all_goals clear hR
  all_goals go_upto_if 13 with (first | (refine wpList_row (by rfl) 68 _ rfl _ rfl (HBL.out _) Try.underlying68 rfl (by kernel_rfl) ?_) | (go_at_call 96; (with_reducible refine (Ret.later (KR.out _)).mono ?_); rintro x _ ⟨rfl, e, rfl⟩))
  · have HS : Hid (p.right = 1) := by
      unfold Hid PV.right
      rw [if_pos HR.out]
    go_wp2_with fail
    go_ret
    exact Ret.mk (by rw [HS.out]; rfl) (HE.out.trans e.h)
  · have HNZ := hid (HNZ.out HR.out)
    by_cases hx : p.fl / 4 % 2 = 1
    · have a4 : bits .and .u64 (p.fl : Int) 4 = 4 := by have h := andP_yes (k := 2) hfl.out (by omega) (by simpa using hx); simpa using h
      have X4 := hid hx
      clear hx
      have HS : Hid (p.right = 8) := by
        unfold Hid PV.right
        rw [if_neg (by rw [HR.out]; decide), if_pos (.inl ⟨F1.out, .inl X4.out⟩)]
      go_wp2_with fail
      go_ret
      exact Ret.mk (by rw [HS.out]; rfl) (HE.out.trans e.h)
    have a4 : bits .and .u64 (p.fl : Int) 4 = 0 := by have h := andP_no (k := 2) hfl.out (by omega) (by have : p.fl / 4 % 2 = 0 := (by omega); simpa using this); simpa using h
    have X4 := hid hx
    clear hx
    by_cases hy : p.n ≤ p.o
    · have za : decide (p.n ≤ p.o) = true := decide_eq_true (by omega)
      have zb : (p.n ≤ p.o) = True := eq_true (by omega)
      have Y := hid hy
      clear hy
      have HS : Hid (p.right = 8) := by
        unfold Hid PV.right
        rw [if_neg (by rw [HR.out]; decide), if_pos (.inl ⟨F1.out, .inr Y.out⟩)]
      go_wp2_with fail
      go_ret
      exact Ret.mk (by rw [HS.out]; rfl) (HE.out.trans e.h)
    have za : decide (p.n ≤ p.o) = false := decide_eq_false (by omega)
    have zb : (p.n ≤ p.o) = False := eq_false (by omega)
    have G0 : Hid (¬ ((p.fl % 2 = 1 ∧ (p.fl / 4 % 2 = 1 ∨ p.n ≤ p.o)) ∨ (¬ p.fl % 2 = 1 ∧ (0 < p.o ∨ 0 < p.n)))) := by have := F1.out; have := X4.out; unfold Hid; omega
    clear hy
    go_upto_region 9 with fail
    by_cases hN : p.none
    · have n1 : p.s.sch = 1 := hN.1
      have n2 : p.s.name = [110, 111, 110, 101] := hN.2
      obtain ⟨n3, n4⟩ := HNZ.out hN
      rw [n1] at b6
      rw [n2] at b7
      rw [n3] at b8
      rw [n4] at b9
      clear n1 n2 n3 n4
      have HN := hid hN
      clear hN
      cases hT : TB with
      | true =>
        have XT : Hid (p.fl / 16384 % 2 = 1 ∨ p.fl / 262144 % 2 = 1) := HTB.out.1 hT
        subst hT
        refine wp_region_later (by kernel_rfl) (by kernel_rfl) ?_
        repeat (go_big_quiet_step ((go_at_call 97; exact Ret.later (eidNoneP_any _))))
        refine wpQuiet_nil ?_
        rintro _ ⟨e, rfl⟩
        have HS : Hid (p.right = 8) := by
          unfold Hid PV.right
          rw [if_neg (by rw [HR.out]; decide), if_neg (by have := G0.out; omega), if_pos (.inl ⟨XT.out, .inl HN.out⟩)]
        go_wp2_with fail
        go_ret
        exact Ret.mk (by rw [HS.out]; rfl) (HE.out.trans e.h)
      | false =>
        have XT : Hid (¬ (p.fl / 16384 % 2 = 1 ∨ p.fl / 262144 % 2 = 1)) := fun h => by have := HTB.out.2 h; rw [hT] at this; cases this
        subst hT
        refine wp_region_later (by kernel_rfl) (by kernel_rfl) ?_
        repeat (go_big_quiet_step ((go_at_call 97; exact Ret.later (eidNoneP_any _))))
        refine wpQuiet_nil ?_
        rintro _ ⟨e, rfl⟩
        have HS : Hid (p.right = 8) := by
          unfold Hid PV.right
          rw [if_neg (by rw [HR.out]; decide), if_neg (by have := G0.out; omega), if_pos (.inr ⟨HN.out, X4.out⟩)]
        go_wp2_with fail
        go_ret
        exact Ret.mk (by rw [HS.out]; rfl) (HE.out.trans e.h)
    · have HN := hid hN
      by_cases hS : p.s.sch = 1
      · have hM : ¬ p.s.name = [110, 111, 110, 101] := fun h => hN ⟨hS, h⟩
        rw [hS] at b6
        have ma : ((p.s.name) == ([110, 111, 110, 101])) = false := by rw [beq_eq_false_iff_ne]; exact hM
        have mb : ((p.s.name) = ([110, 111, 110, 101])) = False := eq_false (by exact hM)
        have mc : ((p.s.name) != ([110, 111, 110, 101])) = true := by rw [bne_iff_ne]; exact hM
        clear hM hS hN
        refine wp_region_later (by kernel_rfl) (by kernel_rfl) ?_
        repeat (go_big_quiet_step ((go_at_call 97; exact Ret.later (eidNoneP_any _))))
        refine wpQuiet_nil ?_
        rintro _ ⟨e, rfl⟩
        cases hT : TB with
        | true =>
          have XT : Hid (p.fl / 16384 % 2 = 1 ∨ p.fl / 262144 % 2 = 1) := HTB.out.1 hT
          subst hT
          by_cases hx : p.fl / 2 % 2 = 1
          · have a2 : bits .and .u64 (p.fl : Int) 2 = 2 := by have h := andP_yes (k := 1) hfl.out (by omega) (by simpa using hx); simpa using h
            have X2 := hid hx
            clear hx
            have HS : Hid (p.right = 8) := by
              unfold Hid PV.right
              rw [if_neg (by rw [HR.out]; decide), if_neg (by have := G0.out; omega), if_pos (.inl ⟨XT.out, .inr X2.out⟩)]
            go_wp2_with fail
            go_ret
            exact Ret.mk (by rw [HS.out]; rfl) (HE.out.trans e.h)
          · have a2 : bits .and .u64 (p.fl : Int) 2 = 0 := by have h := andP_no (k := 1) hfl.out (by omega) (by have : p.fl / 2 % 2 = 0 := (by omega); simpa using this); simpa using h
            have X2 := hid hx
            clear hx
            have HS : Hid (p.right = 0) := by
              unfold Hid PV.right
              rw [if_neg (by rw [HR.out]; decide), if_neg (by have := G0.out; omega), if_neg (fun h => h.elim (fun h => h.2.elim HN.out X2.out) (fun h => HN.out h.1))]
            go_wp2_with fail
            go_ret
            exact Ret.mk (by rw [HS.out]; rfl) (HE.out.trans e.h)
        | false =>
          have XT : Hid (¬ (p.fl / 16384 % 2 = 1 ∨ p.fl / 262144 % 2 = 1)) := fun h => by have := HTB.out.2 h; rw [hT] at this; cases this
          subst hT
          have HS : Hid (p.right = 0) := by
            unfold Hid PV.right
            rw [if_neg (by rw [HR.out]; decide), if_neg (by have := G0.out; omega), if_neg (fun h => h.elim (fun h => XT.out h.1) (fun h => HN.out h.1))]
          go_wp2_with fail
          go_ret
          exact Ret.mk (by rw [HS.out]; rfl) (HE.out.trans e.h)
      · have ma : ((p.s.sch) == (1)) = false := by rw [beq_eq_false_iff_ne]; omega
        have mb : ((p.s.sch) = (1)) = False := eq_false (by omega)
        have mc : ((p.s.sch) != (1)) = true := by rw [bne_iff_ne]; omega
        clear hS hN
        refine wp_region_later (by kernel_rfl) (by kernel_rfl) ?_
        repeat (go_big_quiet_step ((go_at_call 97; exact Ret.later (eidNoneP_any _))))
        refine wpQuiet_nil ?_
        rintro _ ⟨e, rfl⟩
        cases hT : TB with
        | true =>
          have XT : Hid (p.fl / 16384 % 2 = 1 ∨ p.fl / 262144 % 2 = 1) := HTB.out.1 hT
          subst hT
          by_cases hx : p.fl / 2 % 2 = 1
          · have a2 : bits .and .u64 (p.fl : Int) 2 = 2 := by have h := andP_yes (k := 1) hfl.out (by omega) (by simpa using hx); simpa using h
            have X2 := hid hx
            clear hx
            have HS : Hid (p.right = 8) := by
              unfold Hid PV.right
              rw [if_neg (by rw [HR.out]; decide), if_neg (by have := G0.out; omega), if_pos (.inl ⟨XT.out, .inr X2.out⟩)]
            go_wp2_with fail
            go_ret
            exact Ret.mk (by rw [HS.out]; rfl) (HE.out.trans e.h)
          · have a2 : bits .and .u64 (p.fl : Int) 2 = 0 := by have h := andP_no (k := 1) hfl.out (by omega) (by have : p.fl / 2 % 2 = 0 := (by omega); simpa using this); simpa using h
            have X2 := hid hx
            clear hx
            have HS : Hid (p.right = 0) := by
              unfold Hid PV.right
              rw [if_neg (by rw [HR.out]; decide), if_neg (by have := G0.out; omega), if_neg (fun h => h.elim (fun h => h.2.elim HN.out X2.out) (fun h => HN.out h.1))]
            go_wp2_with fail
            go_ret
            exact Ret.mk (by rw [HS.out]; rfl) (HE.out.trans e.h)
        | false =>
          have XT : Hid (¬ (p.fl / 16384 % 2 = 1 ∨ p.fl / 262144 % 2 = 1)) := fun h => by have := HTB.out.2 h; rw [hT] at this; cases this
          subst hT
          have HS : Hid (p.right = 0) := by
            unfold Hid PV.right
            rw [if_neg (by rw [HR.out]; decide), if_neg (by have := G0.out; omega), if_neg (fun h => h.elim (fun h => XT.out h.1) (fun h => HN.out h.1))]
          go_wp2_with fail
          go_ret
          exact Ret.mk (by rw [HS.out]; rfl) (HE.out.trans e.h)
  · have HS : Hid (p.right = 1) := by
      unfold Hid PV.right
      rw [if_pos HR.out]
    go_wp2_with fail
    go_ret
    exact Ret.mk (by rw [HS.out]; rfl) (HE.out.trans e.h)
  · have HNZ := hid (HNZ.out HR.out)
    by_cases hx : p.o = 0
    · by_cases hy : p.n = 0
      · have G0 : Hid (¬ ((p.fl % 2 = 1 ∧ (p.fl / 4 % 2 = 1 ∨ p.n ≤ p.o)) ∨ (¬ p.fl % 2 = 1 ∧ (0 < p.o ∨ 0 < p.n)))) := by have := F1.out; unfold Hid; omega
        rw [hx] at b17
        rw [hy] at b18
        clear hx hy
        go_upto_region 9 with fail
        by_cases hN : p.none
        · have n1 : p.s.sch = 1 := hN.1
          have n2 : p.s.name = [110, 111, 110, 101] := hN.2
          obtain ⟨n3, n4⟩ := HNZ.out hN
          rw [n1] at b6
          rw [n2] at b7
          rw [n3] at b8
          rw [n4] at b9
          clear n1 n2 n3 n4
          have HN := hid hN
          clear hN
          cases hT : TB with
          | true =>
            have XT : Hid (p.fl / 16384 % 2 = 1 ∨ p.fl / 262144 % 2 = 1) := HTB.out.1 hT
            subst hT
            refine wp_region_later (by kernel_rfl) (by kernel_rfl) ?_
            repeat (go_big_quiet_step ((go_at_call 97; exact Ret.later (eidNoneP_any _))))
            refine wpQuiet_nil ?_
            rintro _ ⟨e, rfl⟩
            have HS : Hid (p.right = 8) := by
              unfold Hid PV.right
              rw [if_neg (by rw [HR.out]; decide), if_neg (by have := G0.out; omega), if_pos (.inl ⟨XT.out, .inl HN.out⟩)]
            go_wp2_with fail
            go_ret
            exact Ret.mk (by rw [HS.out]; rfl) (HE.out.trans e.h)
          | false =>
            have XT : Hid (¬ (p.fl / 16384 % 2 = 1 ∨ p.fl / 262144 % 2 = 1)) := fun h => by have := HTB.out.2 h; rw [hT] at this; cases this
            subst hT
            by_cases hx : p.fl / 4 % 2 = 1
            · have a4 : bits .and .u64 (p.fl : Int) 4 = 4 := by have h := andP_yes (k := 2) hfl.out (by omega) (by simpa using hx); simpa using h
              have X4 := hid hx
              clear hx
              refine wp_region_later (by kernel_rfl) (by kernel_rfl) ?_
              repeat (go_big_quiet_step ((go_at_call 97; exact Ret.later (eidNoneP_any _))))
              refine wpQuiet_nil ?_
              rintro _ ⟨e, rfl⟩
              have HS : Hid (p.right = 0) := by
                unfold Hid PV.right
                rw [if_neg (by rw [HR.out]; decide), if_neg (by have := G0.out; omega), if_neg (fun h => h.elim (fun h => XT.out h.1) (fun h => h.2 X4.out))]
              go_wp2_with fail
              go_ret
              exact Ret.mk (by rw [HS.out]; rfl) (HE.out.trans e.h)
            · have a4 : bits .and .u64 (p.fl : Int) 4 = 0 := by have h := andP_no (k := 2) hfl.out (by omega) (by have : p.fl / 4 % 2 = 0 := (by omega); simpa using this); simpa using h
              have X4 := hid hx
              clear hx
              refine wp_region_later (by kernel_rfl) (by kernel_rfl) ?_
              repeat (go_big_quiet_step ((go_at_call 97; exact Ret.later (eidNoneP_any _))))
              refine wpQuiet_nil ?_
              rintro _ ⟨e, rfl⟩
              have HS : Hid (p.right = 8) := by
                unfold Hid PV.right
                rw [if_neg (by rw [HR.out]; decide), if_neg (by have := G0.out; omega), if_pos (.inr ⟨HN.out, X4.out⟩)]
              go_wp2_with fail
              go_ret
              exact Ret.mk (by rw [HS.out]; rfl) (HE.out.trans e.h)
        · have HN := hid hN
          by_cases hS : p.s.sch = 1
          · have hM : ¬ p.s.name = [110, 111, 110, 101] := fun h => hN ⟨hS, h⟩
            rw [hS] at b6
            have ma : ((p.s.name) == ([110, 111, 110, 101])) = false := by rw [beq_eq_false_iff_ne]; exact hM
            have mb : ((p.s.name) = ([110, 111, 110, 101])) = False := eq_false (by exact hM)
            have mc : ((p.s.name) != ([110, 111, 110, 101])) = true := by rw [bne_iff_ne]; exact hM
            clear hM hS hN
            refine wp_region_later (by kernel_rfl) (by kernel_rfl) ?_
            repeat (go_big_quiet_step ((go_at_call 97; exact Ret.later (eidNoneP_any _))))
            refine wpQuiet_nil ?_
            rintro _ ⟨e, rfl⟩
            cases hT : TB with
            | true =>
              have XT : Hid (p.fl / 16384 % 2 = 1 ∨ p.fl / 262144 % 2 = 1) := HTB.out.1 hT
              subst hT
              by_cases hx : p.fl / 2 % 2 = 1
              · have a2 : bits .and .u64 (p.fl : Int) 2 = 2 := by have h := andP_yes (k := 1) hfl.out (by omega) (by simpa using hx); simpa using h
                have X2 := hid hx
                clear hx
                have HS : Hid (p.right = 8) := by
                  unfold Hid PV.right
                  rw [if_neg (by rw [HR.out]; decide), if_neg (by have := G0.out; omega), if_pos (.inl ⟨XT.out, .inr X2.out⟩)]
                go_wp2_with fail
                go_ret
                exact Ret.mk (by rw [HS.out]; rfl) (HE.out.trans e.h)
              · have a2 : bits .and .u64 (p.fl : Int) 2 = 0 := by have h := andP_no (k := 1) hfl.out (by omega) (by have : p.fl / 2 % 2 = 0 := (by omega); simpa using this); simpa using h
                have X2 := hid hx
                clear hx
                have HS : Hid (p.right = 0) := by
                  unfold Hid PV.right
                  rw [if_neg (by rw [HR.out]; decide), if_neg (by have := G0.out; omega), if_neg (fun h => h.elim (fun h => h.2.elim HN.out X2.out) (fun h => HN.out h.1))]
                go_wp2_with fail
                go_ret
                exact Ret.mk (by rw [HS.out]; rfl) (HE.out.trans e.h)
            | false =>
              have XT : Hid (¬ (p.fl / 16384 % 2 = 1 ∨ p.fl / 262144 % 2 = 1)) := fun h => by have := HTB.out.2 h; rw [hT] at this; cases this
              subst hT
              have HS : Hid (p.right = 0) := by
                unfold Hid PV.right
                rw [if_neg (by rw [HR.out]; decide), if_neg (by have := G0.out; omega), if_neg (fun h => h.elim (fun h => XT.out h.1) (fun h => HN.out h.1))]
              go_wp2_with fail
              go_ret
              exact Ret.mk (by rw [HS.out]; rfl) (HE.out.trans e.h)
          · have ma : ((p.s.sch) == (1)) = false := by rw [beq_eq_false_iff_ne]; omega
            have mb : ((p.s.sch) = (1)) = False := eq_false (by omega)
            have mc : ((p.s.sch) != (1)) = true := by rw [bne_iff_ne]; omega
            clear hS hN
            refine wp_region_later (by kernel_rfl) (by kernel_rfl) ?_
            repeat (go_big_quiet_step ((go_at_call 97; exact Ret.later (eidNoneP_any _))))
            refine wpQuiet_nil ?_
            rintro _ ⟨e, rfl⟩
            cases hT : TB with
            | true =>
              have XT : Hid (p.fl / 16384 % 2 = 1 ∨ p.fl / 262144 % 2 = 1) := HTB.out.1 hT
              subst hT
              by_cases hx : p.fl / 2 % 2 = 1
              · have a2 : bits .and .u64 (p.fl : Int) 2 = 2 := by have h := andP_yes (k := 1) hfl.out (by omega) (by simpa using hx); simpa using h
                have X2 := hid hx
                clear hx
                have HS : Hid (p.right = 8) := by
                  unfold Hid PV.right
                  rw [if_neg (by rw [HR.out]; decide), if_neg (by have := G0.out; omega), if_pos (.inl ⟨XT.out, .inr X2.out⟩)]
                go_wp2_with fail
                go_ret
                exact Ret.mk (by rw [HS.out]; rfl) (HE.out.trans e.h)
              · have a2 : bits .and .u64 (p.fl : Int) 2 = 0 := by have h := andP_no (k := 1) hfl.out (by omega) (by have : p.fl / 2 % 2 = 0 := (by omega); simpa using this); simpa using h
                have X2 := hid hx
                clear hx
                have HS : Hid (p.right = 0) := by
                  unfold Hid PV.right
                  rw [if_neg (by rw [HR.out]; decide), if_neg (by have := G0.out; omega), if_neg (fun h => h.elim (fun h => h.2.elim HN.out X2.out) (fun h => HN.out h.1))]
                go_wp2_with fail
                go_ret
                exact Ret.mk (by rw [HS.out]; rfl) (HE.out.trans e.h)
            | false =>
              have XT : Hid (¬ (p.fl / 16384 % 2 = 1 ∨ p.fl / 262144 % 2 = 1)) := fun h => by have := HTB.out.2 h; rw [hT] at this; cases this
              subst hT
              have HS : Hid (p.right = 0) := by
                unfold Hid PV.right
                rw [if_neg (by rw [HR.out]; decide), if_neg (by have := G0.out; omega), if_neg (fun h => h.elim (fun h => XT.out h.1) (fun h => HN.out h.1))]
              go_wp2_with fail
              go_ret
              exact Ret.mk (by rw [HS.out]; rfl) (HE.out.trans e.h)
      · have Y := hid hy
        rw [hx] at b17
        have ga : (((p.n : Int)) == (0)) = false := by rw [beq_eq_false_iff_ne]; omega
        have gb : (((p.n : Int)) = (0)) = False := eq_false (by omega)
        have gc : (((p.n : Int)) != (0)) = true := by rw [bne_iff_ne]; omega
        have ha : decide (p.n = 0) = false := decide_eq_false (by omega)
        have hb : (p.n = 0) = False := eq_false (by omega)
        clear hx hy
        have HS : Hid (p.right = 8) := by
          unfold Hid PV.right
          rw [if_neg (by rw [HR.out]; decide), if_pos (.inr ⟨F1.out, by have := Y.out; omega⟩)]
        go_wp2_with fail
        go_ret
        exact Ret.mk (by rw [HS.out]; rfl) (HE.out.trans e.h)
    · have Y := hid hx
      have ga : (((p.o : Int)) == (0)) = false := by rw [beq_eq_false_iff_ne]; omega
      have gb : (((p.o : Int)) = (0)) = False := eq_false (by omega)
      have gc : (((p.o : Int)) != (0)) = true := by rw [bne_iff_ne]; omega
      have ha : decide (p.o = 0) = false := decide_eq_false (by omega)
      have hb : (p.o = 0) = False := eq_false (by omega)
      clear hx
      have HS : Hid (p.right = 8) := by
        unfold Hid PV.right
        rw [if_neg (by rw [HR.out]; decide), if_pos (.inr ⟨F1.out, by have := Y.out; omega⟩)]
      go_wp2_with fail
      go_ret
      exact Ret.mk (by rw [HS.out]; rfl) (HE.out.trans e.h)
end Go.Proofs.Ytogjghmoankleaa


namespace Go.Proofs.Ytogjghmoankleaa
open Go.RowKit
set_option linter.unusedVariables false
set_option linter.unusedSimpArgs false

def tyB (bs : Nat → BV) (typ : Int) (i : Nat) : Bool := decide ((bs i).ty = typ)
theorem tyB_no {bs : Nat → BV} {typ : Int} {i : Nat} (h : (bs i).ty ≠ typ) : tyB bs typ i = false := by unfold tyB; simp [h]
theorem tyB_yes {bs : Nat → BV} {typ : Int} {i : Nat} (h : (bs i).ty = typ) : tyB bs typ i = true := by unfold tyB; simp [h]
/-- A block's five cells, stored anew. -/
def setB (W : World) (g : Nat) (b : BV) : World := ((((W.setCell ⟨g, 0, none⟩ (.int .i64 b.ty)).setCell ⟨g, 1, none⟩ (.int .i64 b.num)).setCell ⟨g, 2, none⟩ (.int .u64 (b.fl : Int))).setCell ⟨g, 3, none⟩ (.int .i64 b.crc)).setCell ⟨g, 4, none⟩ (str b.data)
section
variable {W : World} {g : Nat} {b0 b : BV}
theorem setB_mod {w : World} {S : List Nat} (h : Mod S w W) (hb : w.heap.size ≤ g) : Mod S w (setB W g b) :=
  ((((h.setCell (.inr hb) _).setCell (.inr hb) _).setCell (.inr hb) _).setCell (.inr hb) _).setCell (.inr hb) _
end
/-- What Find hands back. -/
def findV (bs : Nat → BV) (typ : Int) (k : Nat) : Value := match firstOf (tyB bs typ) k with | some i => .tuple #[(bs i).v, .bool true] | none => .tuple #[zeroB.v, .bool false]
end Go.Proofs.Ytogjghmoankleaa


namespace Go.Proofs.Ytogjghmoankleaa
open Go.RowKit
set_option linter.unusedVariables false
set_option linter.unusedSimpArgs false

/-- The row's cells: the first i blocks'. -/
def flatB (bs : Nat → BV) : Nat → List Value
  | 0 => []
  | i + 1 => flatB bs i ++ [.int .i64 (bs i).ty, .int .i64 (bs i).num, .int .u64 ((bs i).fl : Int), .int .i64 (bs i).crc, str (bs i).data]
theorem flatB_length (bs : Nat → BV) (i : Nat) : (flatB bs i).length = i * 5 := by
  induction i with
  | zero => rfl
  | succ i ih => rw [flatB, List.length_append, ih]; simp; omega
theorem flatB_congr {bs bs' : Nat → BV} {i : Nat} (h : ∀ j, j < i → bs j = bs' j) : flatB bs i = flatB bs' i := by
  induction i with
  | zero => rfl
  | succ i ih => rw [flatB, flatB, ih (fun j hj => h j (by omega)), h i (by omega)]
theorem flatB_get (bs : Nat → BV) (i : Nat) : ∀ j, j < i → (flatB bs i)[j * 5]? = some (.int .i64 (bs j).ty) ∧ (flatB bs i)[j * 5 + 1]? = some (.int .i64 (bs j).num) ∧ (flatB bs i)[j * 5 + 2]? = some (.int .u64 ((bs j).fl : Int)) ∧
    (flatB bs i)[j * 5 + 3]? = some (.int .i64 (bs j).crc) ∧ (flatB bs i)[j * 5 + 4]? = some (str (bs j).data) := by
  induction i with
  | zero => intro j hj; omega
  | succ i ih =>
    intro j hj
    have hl := flatB_length bs i
    rw [flatB]
    by_cases e : j = i
    · subst e
      refine ⟨?_, ?_, ?_, ?_, ?_⟩ <;> (rw [List.getElem?_append_right (by omega), hl]; simp)
    · have := ih j (by omega)
      refine ⟨?_, ?_, ?_, ?_, ?_⟩ <;> rw [List.getElem?_append_left (by omega)]
      · exact this.1
      · exact this.2.1
      · exact this.2.2.1
      · exact this.2.2.2.1
      · exact this.2.2.2.2
theorem flatB_idx (bs : Nat → BV) (k : Nat) {j : Nat} {u : Value} (h : (flatB bs k)[j]? = some u) : ∃ i r, i < k ∧ r < 5 ∧ j = i * 5 + r := by
  have := (List.getElem?_eq_some_iff.1 h).1
  rw [flatB_length] at this
  exact ⟨j / 5, j % 5, by omega, by omega, by omega⟩
theorem flatB_news {W : World} {b o : Nat} {bs : Nat → BV} {k : Nat} (h : ∀ i, i < k → BAt W b (o + i * 5) (bs i)) : ∀ j u, (flatB bs k)[j]? = some u → W.cell? ((⟨b, o, none⟩ : Addr).add j) = some u := by
  intro j u hj
  obtain ⟨i, r, hi, hr, rfl⟩ := flatB_idx bs k hj
  obtain ⟨g0, g1, g2, g3, g4⟩ := flatB_get bs k i hi
  obtain ⟨a0, a1, a2, a3, a4⟩ := h i hi
  rw [addr_add, ← Nat.add_assoc]
  have h5 : r = 0 ∨ r = 1 ∨ r = 2 ∨ r = 3 ∨ r = 4 := by omega
  rcases h5 with rfl | rfl | rfl | rfl | rfl
  · rw [← hj, Nat.add_zero, Nat.add_zero, g0]; exact a0
  · rw [← hj, g1]; exact a1
  · rw [← hj, g2]; exact a2
  · rw [← hj, g3]; exact a3
  · rw [← hj, g4]; exact a4
theorem flatB_one (bs : Nat → BV) (k : Nat) : ∀ u ∈ flatB bs k, u.oneCell' = true := by
  intro u hu
  obtain ⟨j, hj⟩ := List.getElem?_of_mem hu
  obtain ⟨i, r, hi, hr, rfl⟩ := flatB_idx bs k hj
  obtain ⟨g0, g1, g2, g3, g4⟩ := flatB_get bs k i hi
  have h5 : r = 0 ∨ r = 1 ∨ r = 2 ∨ r = 3 ∨ r = 4 := by omega
  rcases h5 with rfl | rfl | rfl | rfl | rfl
  · rw [Nat.add_zero, g0] at hj; cases hj; rfl
  · rw [g1] at hj; cases hj; rfl
  · rw [g2] at hj; cases hj; rfl
  · rw [g3] at hj; cases hj; rfl
  · rw [g4] at hj; cases hj; rfl
theorem oneB (b : BV) : ∀ u ∈ [Value.int .i64 b.ty, .int .i64 b.num, .int .u64 (b.fl : Int), .int .i64 b.crc, str b.data], u.oneCell' = true := by
  intro u hu
  simp at hu
  rcases hu with rfl | rfl | rfl | rfl | rfl <;> rfl
/-- Which blocks an append turns: the row's own. -/
theorem own_turned {w2 w4 : World} {base n size : Nat} {e : TypeId} {v : Value} {xs : List Value} (h : w2.ownsRow base e size v n xs) {w : World} {S : List Nat} (hw : Mod S w w2) (hgr : w2.grownBy w4 v.ownBlock) (hb : w.heap.size ≤ base) : Mod S w w4 :=
  hw.grown hgr (fun k hk => .inr (Nat.le_trans hb (h.lt k hk).1))
theorem own_far {w2 w4 : World} {base n size : Nat} {e : TypeId} {v : Value} {xs : List Value} (h : w2.ownsRow base e size v n xs) (hgr : w2.grownBy w4 v.ownBlock) {b : Nat} {ty : TypeId} {cs : Array Value} (hB : Blk w2 b ty cs) (hbN : b < base) : Blk w4 b ty cs :=
  (hgr.block b hB.lt (fun e => by have := (h.lt b e.symm).1; omega)).trans hB
end Go.Proofs.Ytogjghmoankleaa


namespace Go.Proofs.Ytogjghmoankleaa
open Go.RowKit
set_option linter.unusedVariables false
set_option linter.unusedSimpArgs false

theorem yieldsIf_mid {P : Program} {ops : Array Oper} {S : World → Prop} {op : Oper} {a : Act} (hw : Region.wanted op (yielded ops a.tmps) = true) (ty : TypeId) (x : Operand) (ho : op.op = .load ty x) (b o : Nat) (hx : a.eval x = .pointer (some ⟨b, o, none⟩))
    (cs : List Value) {d : TypeDesc} (hS : ∀ w, S w → w.rangeAt b o cs) (hu : P.underlying ty = some d) (hd : d.isRow = true)
    (hi : (P.info? ty).map (·.size) = some cs.length) : YieldsIf P ops S op (.agg cs.toArray) a :=
  .inl ⟨hw, fun w hw' => by
    unfold execOp
    simp only [ho, hx, Instr.loadAt, Instr.sureAddr, Sem.run_bind, Sem.run_pure, Result.andThen_ok, run_loadVar_mid w b o ty cs d (hS w hw') hu hd hi]⟩
theorem Blk.rangeE {w W : World} {g : Nat} {t : TypeId} {cs : Array Value} (h : Blk w g t cs) (hW : Ext w W) (o n : Nat) {l : List Value} (hl : (cs.extract o (o + n)).toList = l) : W.rangeAt g o l := hl ▸ World.rangeAt_of_block (h.ext hW) o n
end Go.Proofs.Ytogjghmoankleaa


namespace Go.Proofs.Ytogjghmoankleaa
set_option linter.unusedVariables false
set_option linter.unusedSimpArgs false

/-- An ID and a value; a list of them; a security text. -/
structure PR where
  id : Int
  t : T
structure PL where
  k : Nat
  a : Nat → PR
structure AV where
  tk : Nat
  tg : Nat → Int
  ctx : Int
  src : EV
  ps : PL
  rk : Nat
  rs : Nat → PL
def codedB (n : Int) : Bool := decide (0 ≤ n) && decide (n ≤ 65535)
def unlikeB (f : Nat → Int) (k : Nat) : Bool := T.all (fun i => codedB (f i) && T.all (fun j => decide (f j ≠ f i)) i) k
def valB (t : T) : Bool := (decide (t.kind = 0) || decide (t.kind = 2)) && t.right 8
def pairsB (p : PL) : Bool := T.all (fun i => valB (p.a i).t) p.k && unlikeB (fun i => (p.a i).id) p.k
def resB (p : PL) : Bool := decide (1 ≤ p.k) && decide (p.k ≤ 4) && pairsB p
def AV.shaped (a : AV) : Bool := (decide (1 ≤ a.tk) && decide (a.tk ≤ 16) && unlikeB a.tg a.tk && codedB a.ctx && a.src.ok) && (decide (a.ps.k ≤ 8) && pairsB a.ps && decide (a.rk = a.tk)) && T.all (fun i => resB (a.rs i)) a.rk
/-- The items. -/
def pairT (p : PR) : T := listT [numT p.id.toNat, p.t]
def plT (p : PL) : T := .mk 4 0 [] false p.k fun i => pairT (p.a i)
def tgT (k : Nat) (f : Nat → Int) : T := .mk 4 0 [] false k fun i => numT (f i).toNat
def rsT (k : Nat) (f : Nat → PL) : T := .mk 4 0 [] false k fun i => plT (f i)
def AV.items (a : AV) : List T := if a.ps.k = 0 then [tgT a.tk a.tg, numT a.ctx.toNat, numT 0, eidT a.src, rsT a.rk a.rs] else [tgT a.tk a.tg, numT a.ctx.toNat, numT 1, eidT a.src, plT a.ps, rsT a.rk a.rs]
def AV.bytes (a : AV) : List UInt8 := (a.items.map T.bytes).flatten
def AV.right (a : AV) : Bool := a.shaped && decide (a.bytes.length ≤ 4000)
/-- Numbers are a machine's; texts are not too long. -/
def PL.wf (p : PL) : Prop := p.k < 4611686018427387904 ∧ ∀ i, i < p.k → (p.a i).t.ok ∧ (-9223372036854775808 ≤ (p.a i).id ∧ (p.a i).id ≤ 9223372036854775807)
def AV.wf (a : AV) : Prop := (a.tk < 4611686018427387904 ∧ ∀ i, i < a.tk → -9223372036854775808 ≤ a.tg i ∧ a.tg i ≤ 9223372036854775807) ∧ (-9223372036854775808 ≤ a.ctx ∧ a.ctx ≤ 9223372036854775807) ∧ a.src.name.length < 4611686018427387904 ∧ a.ps.wf ∧ a.rk < 4611686018427387904 ∧ ∀ i, i < a.rk → (a.rs i).wf
def AV.small (a : AV) : Prop := (plT a.ps).size ≤ 100000 ∧ (rsT a.rk a.rs).size ≤ 100000

theorem codedB_iff {n : Int} : codedB n = true ↔ 0 ≤ n ∧ n ≤ 65535 := by simp [codedB]
theorem unlikeB_coded {f : Nat → Int} {k : Nat} (h : unlikeB f k = true) : ∀ i, i < k → 0 ≤ f i ∧ f i ≤ 65535 := fun i hi => by
  have := T.all_iff.1 h i hi
  rw [Bool.and_eq_true] at this
  exact codedB_iff.1 this.1
theorem valB_right {t : T} (h : valB t = true) : t.right 8 = true := by
  unfold valB at h
  rw [Bool.and_eq_true] at h
  exact h.2
/-- A right value has no items: it is right at any depth. -/
theorem valB_deep {t : T} (h : valB t = true) : ∀ d, 1 ≤ d → t.right d = true := by
  intro d hd
  unfold valB at h
  cases t with
  | nil => simp [T.right] at h
  | mk kind n s op k ch =>
    rw [Bool.and_eq_true, Bool.or_eq_true] at h
    obtain ⟨h1, h2⟩ := h
    have h1 : kind = 0 ∨ kind = 2 := h1.elim (fun h => .inl (of_decide_eq_true h)) (fun h => .inr (of_decide_eq_true h))
    unfold T.right at h2 ⊢
    rw [if_neg (by omega), Bool.and_eq_true] at h2
    rw [if_neg (by omega), Bool.and_eq_true]
    refine ⟨h2.1, ?_⟩
    have hk : k = 0 := by
      have h3 := h2.1
      unfold T.node at h3
      rcases h1 with rfl | rfl
      · simp at h3; omega
      · simp at h3; omega
    subst hk
    rfl
theorem pair_right {p : PR} {d : Nat} (hd : 2 ≤ d) (hi : 0 ≤ p.id ∧ p.id ≤ 65535) (h : valB p.t = true) : (pairT p).right d = true := by
  refine listT_right (by omega) (by simp) fun t ht => ?_
  simp only [List.mem_cons, List.not_mem_nil, or_false] at ht
  rcases ht with rfl | rfl
  · exact (numT_all _ (by omega)).2.1 _ (by omega)
  · exact valB_deep h _ (by omega)
theorem pair_ok {p : PR} (hi : 0 ≤ p.id ∧ p.id ≤ 65535) (h : p.t.ok) : (pairT p).ok := by
  refine listT_ok (by simp) fun t ht => ?_
  simp only [List.mem_cons, List.not_mem_nil, or_false] at ht
  rcases ht with rfl | rfl
  · exact num_ok (by omega)
  · exact h
theorem pairsB_iff {p : PL} : pairsB p = true ↔ (∀ i, i < p.k → valB (p.a i).t = true) ∧ unlikeB (fun i => (p.a i).id) p.k = true := by
  unfold pairsB
  rw [Bool.and_eq_true, T.all_iff]
theorem pl_right {p : PL} {d : Nat} (hd : 3 ≤ d) (hk : p.k ≤ 1000) (h : pairsB p = true) : (plT p).right d = true := by
  obtain ⟨h1, h2⟩ := pairsB_iff.1 h
  unfold plT T.right
  rw [if_neg (by omega), Bool.and_eq_true, T.all_iff]
  exact ⟨by simp [T.node, hk], fun i hi => pair_right (by omega) (unlikeB_coded h2 i hi) (h1 i hi)⟩
theorem pl_ok {p : PL} (hw : p.wf) (h : pairsB p = true) : (plT p).ok := by
  obtain ⟨h1, h2⟩ := pairsB_iff.1 h
  unfold plT T.ok
  exact ⟨by omega, by omega, by simp, hw.1, fun i hi => pair_ok (unlikeB_coded h2 i hi) (hw.2 i hi).1⟩
theorem tg_right {k : Nat} {f : Nat → Int} {d : Nat} (hd : 2 ≤ d) (hk : k ≤ 1000) (h : unlikeB f k = true) : (tgT k f).right d = true := by
  unfold tgT T.right
  rw [if_neg (by omega), Bool.and_eq_true, T.all_iff]
  exact ⟨by simp [T.node, hk], fun i hi => (numT_all _ (by have := unlikeB_coded h i hi; omega)).2.1 _ (by omega)⟩
theorem tg_ok {k : Nat} {f : Nat → Int} (hk : k ≤ 1000) (h : unlikeB f k = true) : (tgT k f).ok := by
  unfold tgT T.ok
  exact ⟨by omega, by omega, by simp, by omega, fun i hi => num_ok (by have := unlikeB_coded h i hi; omega)⟩
theorem tg_size {k : Nat} {f : Nat → Int} (hk : k ≤ 1000) : (tgT k f).size ≤ 2001 := by
  unfold tgT T.size
  have := sum_le_each (f := fun i => (numT (f i).toNat).size) (B := 1) (k := k) (fun i _ => by simp [numT, T.size, T.sum])
  simp; omega
theorem resB_iff {p : PL} : resB p = true ↔ (1 ≤ p.k ∧ p.k ≤ 4) ∧ pairsB p = true := by
  unfold resB; simp [and_assoc]
theorem rs_right {k : Nat} {f : Nat → PL} {d : Nat} (hd : 4 ≤ d) (hk : k ≤ 1000) (h : T.all (fun i => resB (f i)) k = true) : (rsT k f).right d = true := by
  unfold rsT T.right
  rw [if_neg (by omega), Bool.and_eq_true, T.all_iff]
  exact ⟨by simp [T.node, hk], fun i hi => by
    obtain ⟨h1, h2⟩ := resB_iff.1 (T.all_iff.1 h i hi)
    exact pl_right (by omega) (by omega) h2⟩
theorem rs_ok {k : Nat} {f : Nat → PL} (hk : k ≤ 1000) (hw : ∀ i, i < k → (f i).wf) (h : T.all (fun i => resB (f i)) k = true) : (rsT k f).ok := by
  unfold rsT T.ok
  exact ⟨by omega, by omega, by simp, by omega, fun i hi => pl_ok (hw i hi) (resB_iff.1 (T.all_iff.1 h i hi)).2⟩
theorem AV.shaped_iff {a : AV} : a.shaped = true ↔ (1 ≤ a.tk ∧ a.tk ≤ 16) ∧ unlikeB a.tg a.tk = true ∧ codedB a.ctx = true ∧ a.src.ok = true ∧ a.ps.k ≤ 8 ∧ pairsB a.ps = true ∧ a.rk = a.tk ∧ T.all (fun i => resB (a.rs i)) a.rk = true := by
  unfold AV.shaped
  simp only [Bool.and_eq_true, decide_eq_true_eq]
  constructor
  · rintro ⟨⟨⟨⟨⟨⟨h1, h2⟩, h3⟩, h4⟩, h5⟩, ⟨⟨h6, h7⟩, h8⟩⟩, h9⟩
    exact ⟨⟨h1, h2⟩, h3, h4, h5, h6, h7, h8, h9⟩
  · rintro ⟨⟨h1, h2⟩, h3, h4, h5, h6, h7, h8, h9⟩
    exact ⟨⟨⟨⟨⟨⟨h1, h2⟩, h3⟩, h4⟩, h5⟩, ⟨⟨h6, h7⟩, h8⟩⟩, h9⟩
/-- The items of one that is shaped may all be built. -/
theorem AV.items_all {a : AV} (hw : a.wf) (hs : a.small) (h : a.shaped = true) : ∀ t ∈ a.items, t.ok ∧ t.right 8 = true ∧ t.size ≤ 100000 := by
  obtain ⟨⟨h1, h2⟩, h3, h4, h5, h6, h7, h8, h9⟩ := AV.shaped_iff.1 h
  obtain ⟨w1, w2, w3, w4, w5, w6⟩ := hw
  have c := codedB_iff.1 h4
  have ntg : (tgT a.tk a.tg).ok ∧ (tgT a.tk a.tg).right 8 = true ∧ (tgT a.tk a.tg).size ≤ 100000 := ⟨tg_ok (by omega) h3, tg_right (by omega) (by omega) h3, by have := tg_size (k := a.tk) (f := a.tg) (by omega); omega⟩
  have nn : ∀ n, n ≤ 65535 → (numT n).ok ∧ (numT n).right 8 = true ∧ (numT n).size ≤ 100000 := fun n hn => by
    have := numT_all n (by omega)
    exact ⟨this.1, this.2.1 8 (by omega), by have := this.2.2.1; omega⟩
  have ne : (eidT a.src).ok ∧ (eidT a.src).right 8 = true ∧ (eidT a.src).size ≤ 100000 := by
    have := eidT_ok h5
    exact ⟨this.1, this.2.1 8 (by omega), this.2.2.2⟩
  have np : (plT a.ps).ok ∧ (plT a.ps).right 8 = true ∧ (plT a.ps).size ≤ 100000 := ⟨pl_ok w4 h7, pl_right (by omega) (by omega) h7, hs.1⟩
  have nr : (rsT a.rk a.rs).ok ∧ (rsT a.rk a.rs).right 8 = true ∧ (rsT a.rk a.rs).size ≤ 100000 := ⟨rs_ok (by omega) w6 h9, rs_right (by omega) (by omega) h9, hs.2⟩
  intro t ht
  unfold AV.items at ht
  split at ht
  · simp only [List.mem_cons, List.not_mem_nil, or_false] at ht
    rcases ht with rfl | rfl | rfl | rfl | rfl
    · exact ntg
    · exact nn _ (by omega)
    · exact nn _ (by omega)
    · exact ne
    · exact nr
  · simp only [List.mem_cons, List.not_mem_nil, or_false] at ht
    rcases ht with rfl | rfl | rfl | rfl | rfl | rfl
    · exact ntg
    · exact nn _ (by omega)
    · exact nn _ (by omega)
    · exact ne
    · exact np
    · exact nr
end Go.Proofs.Ytogjghmoankleaa


namespace Go.Proofs.Ytogjghmoankleaa
open Go.RowKit
set_option linter.unusedVariables false
set_option linter.unusedSimpArgs false

/-- The row's cells: the first i elements'. -/
def flatG (f : Nat → List Value) : Nat → List Value
  | 0 => []
  | i + 1 => flatG f i ++ f i
section
variable {f g : Nat → List Value} {z : Nat}
theorem flatG_length (hf : ∀ i, (f i).length = z) (i : Nat) : (flatG f i).length = i * z := by
  induction i with
  | zero => simp [flatG]
  | succ i ih => rw [flatG, List.length_append, ih, hf, Nat.succ_mul]
theorem flatG_congr {i : Nat} (h : ∀ j, j < i → f j = g j) : flatG f i = flatG g i := by
  induction i with
  | zero => rfl
  | succ i ih => rw [flatG, flatG, ih (fun j hj => h j (by omega)), h i (by omega)]
theorem flatG_get (hf : ∀ i, (f i).length = z) (k : Nat) : ∀ j, j < k → ∀ r, r < z → (flatG f k)[j * z + r]? = (f j)[r]? := by
  induction k with
  | zero => intro j hj; omega
  | succ k ih =>
    intro j hj r hr
    have hl := flatG_length hf k
    rw [flatG]
    by_cases e : j = k
    · subst e
      rw [List.getElem?_append_right (by omega), hl]
      congr 1; omega
    · have h1 : (j + 1) * z ≤ k * z := Nat.mul_le_mul_right z (by omega)
      rw [Nat.succ_mul] at h1
      rw [List.getElem?_append_left (by omega), ih j (by omega) r hr]
theorem flatG_idx (hz : 0 < z) (hf : ∀ i, (f i).length = z) (k : Nat) {j : Nat} {u : Value} (h : (flatG f k)[j]? = some u) : ∃ i r, i < k ∧ r < z ∧ j = i * z + r ∧ (f i)[r]? = some u := by
  have h1 := (List.getElem?_eq_some_iff.1 h).1
  rw [flatG_length hf] at h1
  have hi : j / z < k := Nat.div_lt_of_lt_mul (by rw [Nat.mul_comm]; exact h1)
  have hr : j % z < z := Nat.mod_lt _ hz
  have he : j = j / z * z + j % z := by have := Nat.div_add_mod j z; rw [Nat.mul_comm] at this; omega
  refine ⟨j / z, j % z, hi, hr, he, ?_⟩
  rw [← flatG_get hf k _ hi _ hr, ← he]; exact h
theorem flatG_one (hz : 0 < z) (hf : ∀ i, (f i).length = z) (h1 : ∀ i, ∀ u ∈ f i, u.oneCell' = true) (k : Nat) : ∀ u ∈ flatG f k, u.oneCell' = true := by
  intro u hu
  obtain ⟨j, hj⟩ := List.getElem?_of_mem hu
  obtain ⟨i, r, _, _, _, h⟩ := flatG_idx hz hf k hj
  exact h1 i u (List.mem_of_getElem? h)
theorem flatG_news (hz : 0 < z) (hf : ∀ i, (f i).length = z) {W : World} {b o k : Nat} (h : ∀ i, i < k → ∀ r u, (f i)[r]? = some u → W.cell? ⟨b, o + i * z + r, none⟩ = some u) : ∀ j u, (flatG f k)[j]? = some u → W.cell? ((⟨b, o, none⟩ : Addr).add j) = some u := by
  intro j u hj
  obtain ⟨i, r, hi, hr, rfl, hu⟩ := flatG_idx hz hf k hj
  rw [addr_add, ← Nat.add_assoc]
  exact h i hi r u hu
theorem flatG_own {W : World} {base b c k : Nat} {e : TypeId} (hf : ∀ i, (f i).length = z) (h : W.ownsRow base e z (.slice (some ⟨b, 0, none⟩) k c) k (flatG f k)) {i : Nat} (hi : i < k) {r : Nat} (hr : r < z) {u : Value} (hu : (f i)[r]? = some u) : W.cell? ⟨b, i * z + r, none⟩ = some u := by
  have := h.cells (g := b) rfl (i * z + r) u (by rw [flatG_get hf k i hi r hr]; exact hu)
  rw [addr_add, Nat.zero_add] at this
  exact this
end
theorem own_cap {w : World} {base size n c : Nat} {e : TypeId} {A : Option Addr} {xs : List Value} (h : w.ownsRow base e size (.slice A n c) n xs) : n ≤ c := by
  rcases h.2 with ⟨h1, h2⟩ | ⟨g, cap, cur, hv, hbg, hg, hnc, hcm, hcs, htake⟩
  · simp only [Value.slice.injEq] at h1; omega
  · simp only [Value.slice.injEq] at hv; omega
end Go.Proofs.Ytogjghmoankleaa


namespace Go.Proofs.Ytogjghmoankleaa
open Go.RowKit
set_option linter.unusedVariables false
set_option linter.unusedSimpArgs false

/-- A row of numbers in memory. -/
def NsL (w : World) (A : Option Addr) (k : Nat) (f : Nat → Int) : Prop := 0 < k → ∃ b o, A = some ⟨b, o, none⟩ ∧ b < w.heap.size ∧ ∀ i, i < k → w.cell? ⟨b, o + i, none⟩ = some (.int .i64 (f i))
/-- A pair's six cells; a row of pairs. -/
def At6 (w : World) (b o : Nat) (p : PR) (A : Option Addr) (c : Nat) : Prop := w.cell? ⟨b, o, none⟩ = some (.int .i64 p.id) ∧ w.cell? ⟨b, o + 1, none⟩ = some (.int .i64 p.t.kind) ∧ w.cell? ⟨b, o + 2, none⟩ = some (.int .u64 (p.t.n : Int)) ∧ w.cell? ⟨b, o + 3, none⟩ = some (str p.t.s) ∧ w.cell? ⟨b, o + 4, none⟩ = some (.slice A p.t.k c) ∧ w.cell? ⟨b, o + 5, none⟩ = some (.bool p.t.op)
theorem At6.five {w : World} {b o : Nat} {p : PR} {A : Option Addr} {c : Nat} (h : At6 w b o p A c) : At5 w b (o + 1) p.t A c := ⟨h.2.1, h.2.2.1, h.2.2.2.1, h.2.2.2.2.1, h.2.2.2.2.2⟩
def PsL (w : World) (Q : Nat → Prop) (A : Option Addr) (p : PL) : Prop := 0 < p.k → ∃ b o, A = some ⟨b, o, none⟩ ∧ b < w.heap.size ∧ Q b ∧ ∀ i, i < p.k → ∃ Ai ci, At6 w b (o + i * 6) (p.a i) Ai ci ∧ IsL w Q (p.a i).t Ai
/-- A row of rows of pairs. -/
def RsL (w : World) (Q : Nat → Prop) (A : Option Addr) (k : Nat) (f : Nat → PL) : Prop := 0 < k → ∃ b o, A = some ⟨b, o, none⟩ ∧ b < w.heap.size ∧ Q b ∧ ∀ i, i < k → ∃ Ai ci, w.cell? ⟨b, o + i, none⟩ = some (.slice Ai (f i).k ci) ∧ (f i).k ≤ ci ∧ PsL w Q Ai (f i)
abbrev anyQ : Nat → Prop := fun _ => True
theorem NsL.mod {S : List Nat} {w w' : World} {A : Option Addr} {k : Nat} {f : Nat → Int} (h : NsL w A k f) (hm : Mod S w w') (hs : ∀ b o, A = some ⟨b, o, none⟩ → b < w.heap.size → b ∉ S) : NsL w' A k f := fun h0 => by
  obtain ⟨b, o, hA, hb, hc⟩ := h h0
  exact ⟨b, o, hA, Nat.lt_of_lt_of_le hb hm.size, fun i hi => (hm.cell hb (hs b o hA hb)).trans (hc i hi)⟩
theorem NsL.ext {w w' : World} {A : Option Addr} {k : Nat} {f : Nat → Int} (h : NsL w A k f) (hm : Ext w w') : NsL w' A k f := h.mod hm (by simp)
theorem At6.mod {S : List Nat} {w w' : World} {b o : Nat} {p : PR} {A : Option Addr} {c : Nat} (h : At6 w b o p A c) (hm : Mod S w w') (hb : b < w.heap.size) (hs : b ∉ S) : At6 w' b o p A c := by
  obtain ⟨h0, h1, h2, h3, h4, h5⟩ := h
  exact ⟨(hm.cell hb hs).trans h0, (hm.cell hb hs).trans h1, (hm.cell hb hs).trans h2, (hm.cell hb hs).trans h3, (hm.cell hb hs).trans h4, (hm.cell hb hs).trans h5⟩
theorem PsL.mod {S : List Nat} {Q : Nat → Prop} {w w' : World} {A : Option Addr} {p : PL} (h : PsL w Q A p) (hm : Mod S w w') (hs : ∀ k, Q k → k < w.heap.size → k ∉ S) : PsL w' Q A p := fun h0 => by
  obtain ⟨b, o, hA, hb, hq, hc⟩ := h h0
  refine ⟨b, o, hA, Nat.lt_of_lt_of_le hb hm.size, hq, fun i hi => ?_⟩
  obtain ⟨Ai, ci, h1, h2⟩ := hc i hi
  exact ⟨Ai, ci, h1.mod hm hb (hs b hq hb), IsL.mod hm hs _ h2⟩
theorem PsL.ext {Q : Nat → Prop} {w w' : World} {A : Option Addr} {p : PL} (h : PsL w Q A p) (hm : Ext w w') : PsL w' Q A p := h.mod hm (by simp)
theorem PsL.weak {Q R : Nat → Prop} {w : World} {A : Option Addr} {p : PL} (h : PsL w Q A p) (hq : ∀ k, k < w.heap.size → Q k → R k) : PsL w R A p := fun h0 => by
  obtain ⟨b, o, hA, hb, hqb, hc⟩ := h h0
  refine ⟨b, o, hA, hb, hq b hb hqb, fun i hi => ?_⟩
  obtain ⟨Ai, ci, h1, h2⟩ := hc i hi
  exact ⟨Ai, ci, h1, IsL.weak hq _ h2⟩
theorem RsL.mod {S : List Nat} {Q : Nat → Prop} {w w' : World} {A : Option Addr} {k : Nat} {f : Nat → PL} (h : RsL w Q A k f) (hm : Mod S w w') (hs : ∀ k, Q k → k < w.heap.size → k ∉ S) : RsL w' Q A k f := fun h0 => by
  obtain ⟨b, o, hA, hb, hq, hc⟩ := h h0
  refine ⟨b, o, hA, Nat.lt_of_lt_of_le hb hm.size, hq, fun i hi => ?_⟩
  obtain ⟨Ai, ci, h1, hkc, h2⟩ := hc i hi
  exact ⟨Ai, ci, (hm.cell hb (hs b hq hb)).trans h1, hkc, h2.mod hm hs⟩
theorem RsL.ext {Q : Nat → Prop} {w w' : World} {A : Option Addr} {k : Nat} {f : Nat → PL} (h : RsL w Q A k f) (hm : Ext w w') : RsL w' Q A k f := h.mod hm (by simp)
theorem RsL.weak {Q R : Nat → Prop} {w : World} {A : Option Addr} {k : Nat} {f : Nat → PL} (h : RsL w Q A k f) (hq : ∀ k, k < w.heap.size → Q k → R k) : RsL w R A k f := fun h0 => by
  obtain ⟨b, o, hA, hb, hqb, hc⟩ := h h0
  refine ⟨b, o, hA, hb, hq b hb hqb, fun i hi => ?_⟩
  obtain ⟨Ai, ci, h1, hkc, h2⟩ := hc i hi
  exact ⟨Ai, ci, h1, hkc, h2.weak hq⟩
/-- A pair's cells, as values. -/
abbrev prC (p : PR) (A : Option Addr) (c : Nat) : Array Value := #[.int .i64 p.id, .int .i64 p.t.kind, .int .u64 (p.t.n : Int), str p.t.s, .slice A p.t.k c, .bool p.t.op]
/-- A security text's cells. -/
structure AA where
  t : Option Addr
  tc : Nat
  p : Option Addr
  pc : Nat
  r : Option Addr
  rc : Nat
abbrev asbC (a : AV) (m : AA) : Array Value := #[.slice m.t a.tk m.tc, .int .i64 a.ctx, .int .i64 a.src.sch, str a.src.name, .int .u64 (a.src.node : Int), .int .u64 (a.src.svc : Int), .slice m.p a.ps.k m.pc, .slice m.r a.rk m.rc]
abbrev asbV (a : AV) (m : AA) : Value := .agg (asbC a m)
/-- It lies in memory, in blocks of Q alone. -/
structure AsL (w : World) (Q : Nat → Prop) (a : AV) (m : AA) : Prop where
  t : NsL w m.t a.tk a.tg
  tq : ∀ b o, m.t = some ⟨b, o, none⟩ → 0 < a.tk → Q b
  p : PsL w Q m.p a.ps
  r : RsL w Q m.r a.rk a.rs
theorem AsL.mod {S : List Nat} {Q : Nat → Prop} {w w' : World} {a : AV} {m : AA} (h : AsL w Q a m) (hm : Mod S w w') (hs : ∀ k, Q k → k < w.heap.size → k ∉ S) : AsL w' Q a m :=
  ⟨fun h0 => by
    obtain ⟨b, o, hA, hb, hc⟩ := h.t h0
    exact ⟨b, o, hA, Nat.lt_of_lt_of_le hb hm.size, fun i hi => (hm.cell hb (hs b (h.tq b o hA h0) hb)).trans (hc i hi)⟩, h.tq, h.p.mod hm hs, h.r.mod hm hs⟩
theorem AsL.ext {Q : Nat → Prop} {w w' : World} {a : AV} {m : AA} (h : AsL w Q a m) (hm : Ext w w') : AsL w' Q a m := h.mod hm (by simp)

theorem coded_any (n : Int) (w : World) : Calls Try.prog 121 #[.int .i64 n] w (fun e w' => e = .returned (.bool (codedB n)) ∧ w' = w) := by
  go_enter Try.func121, Try.ntmps121
  go_wp2
  all_goals go_ret
  all_goals exact ⟨ret_bool (by unfold codedB; rw [Bool.eq_iff_iff]; simp [*]; try omega), rfl⟩
/-- Where a number is. -/
def isN (f : Nat → Int) (x : Int) (i : Nat) : Bool := x == f i
set_option maxHeartbeats 800000 in
theorem IndexN_any (A : Option Addr) (f : Nat → Int) (k c : Nat) (x : Int) (hk : k < 4611686018427387904) (w : World) (h : NsL w A k f) :
    Calls Try.prog 41 #[.slice A k c, .int .i64 x] w (Ret (.int .i64 (firstI (isN f x) k)) w) := by
  have H := hid h; have HK := hid hk
  clear h hk
  have k1 : (k : Int) < 4611686018427387904 := by have := HK.out; omega
  go_enter Try.func41, Try.ntmps41
  go_upto_region 2 with fail
  go_loopw [8] (fun s8 wr => ∃ j : Nat, j ≤ k ∧ s8 = .int .i64 (j : Int) ∧ wr = w ∧ Hid (∀ i, i < j → isN f x i = false)) (fun s8 _ => k - (intOf s8).toNat)
  case atStart => exact ⟨0, Nat.zero_le _, rfl, rfl, fun i h => absurd h (Nat.not_lt_zero _)⟩
  case round =>
    obtain ⟨j, hj, rfl, rfl, hno⟩ := hrel
    have j0 : (0 : Int) ≤ (j : Int) := by omega
    by_cases hlt : j < k
    · obtain ⟨b, o, rfl, hb, hc⟩ := H.out (by omega)
      have c0 := hc j hlt
      have j1 : (j : Int) < (k : Int) := by omega
      have tc : decide (j < k) = true := by simp [hlt]
      clear hc
      cases hq : isN f x j with
      | true =>
        have HQ := hid hq
        have tq : (x == f j) = true := hq
        have tq2 : (x = f j) = True := by rw [beq_iff_eq] at tq; exact eq_true tq
        clear hq
        go_wp2_with fail
        go_ret
        refine Ret.mk ?_ (Mod.refl _ _)
        unfold firstI
        rw [firstOf_some hlt HQ.out hno.out]; rfl
      | false =>
        have HQ := hid hq
        have tq : (x == f j) = false := hq
        have tq2 : (x = f j) = False := by rw [beq_eq_false_iff_ne] at tq; exact eq_false tq
        clear hq
        go_wp2_with fail
        go_roundw
        case rel =>
          refine ⟨j + 1, by omega, by go_num, by trivial, (show Hid _ from fun i hi => ?_)⟩
          by_cases e : i = j
          · subst e; exact HQ.out
          · exact hno.out i (by omega)
        case measure => simp [intOf]; omega
    · obtain rfl : j = k := by omega
      have tc : decide (j < j) = false := by simp
      go_wp2_with fail
      go_ret
      refine Ret.mk ?_ (Mod.refl _ _)
      unfold firstI
      rw [firstOf_none hno.out]; rfl
theorem firstI_is {p : Nat → Bool} {k : Nat} : decide (0 ≤ firstI p k) = (firstOf p k).isSome := by
  unfold firstI
  cases firstOf p k <;> simp
set_option maxHeartbeats 800000 in
theorem ContainsN_any (A : Option Addr) (f : Nat → Int) (k c : Nat) (x : Int) (hk : k < 4611686018427387904) (w : World) (h : NsL w A k f) :
    Calls Try.prog 147 #[.slice A k c, .int .i64 x] w (Ret (.bool (firstOf (isN f x) k).isSome) w) := by
  have K := hid (IndexN_any A f k c x hk w h)
  have hX := hid (firstI_is (p := isN f x) (k := k))
  generalize firstI (isN f x) k = X at *
  generalize (firstOf (isN f x) k).isSome = B at *
  clear h
  go_enter Try.func147, Try.ntmps147
  go_wp2_with (go_at_call 41; refine K.out.mono ?_; rintro e w' ⟨rfl, hb'⟩)
  go_ret
  exact Ret.mk (congrArg Value.bool hX.out) hb'
theorem contains_all {f : Nat → Int} {x : Int} {k : Nat} : (firstOf (isN f x) k).isSome = !(T.all (fun j => decide (f j ≠ x)) k) := by
  cases h : firstOf (isN f x) k with
  | none =>
    have := firstOf_no h
    have h2 : T.all (fun j => decide (f j ≠ x)) k = true := T.all_iff.2 fun i hi => by
      have := this i hi
      unfold isN at this
      rw [beq_eq_false_iff_ne] at this
      simpa using fun e => this e.symm
    rw [h2]; rfl
  | some i =>
    obtain ⟨h1, h2, _⟩ := firstOf_spec h
    have h3 : T.all (fun j => decide (f j ≠ x)) k = false := by
      cases hh : T.all (fun j => decide (f j ≠ x)) k with
      | false => rfl
      | true =>
        have := T.all_iff.1 hh i h1
        unfold isN at h2
        rw [beq_iff_eq] at h2
        simp [h2] at this
    rw [h3]; rfl
end Go.Proofs.Ytogjghmoankleaa


namespace Go.Proofs.Ytogjghmoankleaa
open Go.RowKit
set_option linter.unusedVariables false
set_option linter.unusedSimpArgs false

def fitB (f : Nat → Int) (i : Nat) : Bool := codedB (f i) && !(firstOf (isN f (f i)) i).isSome
theorem unlike_fit (f : Nat → Int) (k : Nat) : unlikeB f k = T.all (fitB f) k := by
  unfold unlikeB fitB
  congr 1
  funext i
  rw [contains_all, Bool.not_not]
theorem all_no {f : Nat → Bool} {k i : Nat} (hi : i < k) (h : f i = false) : T.all f k = false := by
  cases hh : T.all f k with
  | false => rfl
  | true => have := T.all_iff.1 hh i hi; rw [h] at this; cases this
theorem NsL.take {w : World} {A : Option Addr} {k : Nat} {f : Nat → Int} (h : NsL w A k f) {i : Nat} (hi : i ≤ k) : NsL w A i f := fun h0 => by
  obtain ⟨b, o, hA, hb, hc⟩ := h (by omega)
  exact ⟨b, o, hA, hb, fun j hj => hc j (by omega)⟩
set_option maxHeartbeats 1600000 in
set_option maxRecDepth 20000 in
theorem unlike_any (A : Option Addr) (f : Nat → Int) (k c : Nat) (hk : k < 4611686018427387904) (hkc : k ≤ c) (w : World) (h : NsL w A k f) :
    Calls Try.prog 120 #[.slice A k c] w (Ret (.bool (unlikeB f k)) w) := by
  rw [unlike_fit]
  have HL := hid h
  have HK := hid hk
  have HKC := hid hkc
  have k1 : (k : Int) < 4611686018427387904 := by omega
  clear h hk hkc
  obtain ⟨e0, he0⟩ := Later.self w
  go_enter Try.func120, Try.ntmps120
  go_wp2_with fail
  go_loopw [7] (fun s7 wr => ∃ i : Nat, s7 = .int .i64 (i : Int) ∧ Hid (i ≤ k ∧ T.all (fitB f) i = true) ∧ ∃ e : Later w, wr = e.x) (fun s7 _ => k - (intOf s7).toNat)
  case atStart => exact ⟨0, rfl, (show Hid _ from ⟨Nat.zero_le _, rfl⟩), e0, (by first | exact he0 | rfl)⟩
  case round =>
    clear he0 e0
    obtain ⟨i, rfl, hi, e, rfl⟩ := hrel
    have i0 : (0 : Int) ≤ (i : Int) := by omega
    by_cases hlt : i < k
    · obtain ⟨b, o, rfl, hb, hc⟩ := HL.out (by omega)
      have c0 : e.x.cell? ⟨b, o + i, none⟩ = some (.int .i64 (f i)) := (e.h.cell hb (by simp)).trans (hc i hlt)
      have tc : decide (i < k) = true := by simp [hlt]
      have i1 : (i : Int) < (k : Int) := by omega
      have i2 : (i : Int) ≤ (c : Int) := by have := HKC.out; omega
      have i3 : i ≤ c := by have := HKC.out; omega
      have HLT := hid hlt
      have KC := hid (fun W => coded_any (f i) W)
      have KN := hid (fun e : Later w => ContainsN_any (some ⟨b, o, none⟩) f i c (f i) (by have := HK.out; omega) e.x ((HL.out.ext e.h).take (by omega)))
      clear hlt hc hb
      cases hcd : codedB (f i) with
      | false =>
        rw [hcd] at KC
        have HN := hid (all_no HLT.out (show fitB f i = false by unfold fitB; rw [hcd]; rfl))
        clear hcd KN
        go_wp2_with (go_at_call 121; refine (KC.out _).mono ?_; rintro e' w' ⟨rfl, rfl⟩)
        go_ret
        exact Ret.mk (by rw [HN.out]; rfl) e.h
      | true =>
        rw [hcd] at KC
        have HCD := hid hcd
        clear hcd
        cases hf : (firstOf (isN f (f i)) i).isSome with
        | true =>
          rw [hf] at KN
          have HN := hid (all_no HLT.out (show fitB f i = false by unfold fitB; rw [hf, Bool.and_comm]; rfl))
          clear hf
          go_wp2_with (first | (go_at_call 121; refine (KC.out _).mono ?_; rintro e' w' ⟨rfl, rfl⟩) | (go_at_call 147; refine (Ret.later (KN.out _)).mono ?_; rintro x _ ⟨rfl, e, rfl⟩))
          go_ret
          exact Ret.mk (by rw [HN.out]; rfl) e.h
        | false =>
          rw [hf] at KN
          have HN : Hid (fitB f i = true) := hid (by unfold fitB; rw [hf, HCD.out]; rfl)
          clear hf
          go_wp2_with (first | (go_at_call 121; refine (KC.out _).mono ?_; rintro e' w' ⟨rfl, rfl⟩) | (go_at_call 147; refine (Ret.later (KN.out _)).mono ?_; rintro x _ ⟨rfl, e, rfl⟩))
          go_roundw
          case rel => exact ⟨i + 1, by go_num, (show Hid _ from ⟨HLT.out, by rw [T.all, hi.out.2, HN.out]; rfl⟩), e, rfl⟩
          case measure => have := HLT.out; simp [intOf]; omega
    · obtain rfl : i = k := by have := hi.out.1; omega
      have tc : decide (i < i) = false := by simp
      go_wp2_with fail
      go_ret
      exact Ret.mk (by rw [hi.out.2]; rfl) e.h
theorem infoInt : (Try.prog.info? 3).map (fun i => (i.zero, i.size, i.bytes)) = some (some (.int .i64 0), 1, 8) := by kernel_rfl
/-- Numbers, as a row's cells. -/
abbrev numsF (f : Nat → Int) (i : Nat) : List Value := [.int .i64 (f i)]
theorem numsF_len (f : Nat → Int) (i : Nat) : (numsF f i).length = 1 := rfl
theorem own_NsL {W : World} {base k c : Nat} {A : Option Addr} {f : Nat → Int} (h : W.ownsRow base 3 1 (.slice A k c) k (flatG (numsF f) k)) : NsL W A k f := by
  intro h0
  obtain ⟨k', rfl⟩ : ∃ k', k = k' + 1 := ⟨k - 1, by omega⟩
  obtain ⟨g, c', hv, hb, hlt⟩ := own_form h
  simp only [Value.slice.injEq] at hv
  obtain ⟨rfl, _, rfl⟩ := hv
  refine ⟨g, 0, rfl, hlt, fun i hi => ?_⟩
  have := flatG_own (z := 1) (numsF_len f) h hi (r := 0) (by omega) (u := .int .i64 (f i)) rfl
  rw [Nat.mul_one, Nat.add_zero] at this
  rw [Nat.zero_add]; exact this
end Go.Proofs.Ytogjghmoankleaa
