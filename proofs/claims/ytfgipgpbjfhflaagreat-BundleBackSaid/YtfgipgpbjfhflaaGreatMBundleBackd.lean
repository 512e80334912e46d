/-
 Primaries: their items, made.
 slices.Clone of items.
 The code's sums: divide, X25, Castagnoli, Size, Sum.
 The code's sums' bytes.
 strings.Repeat: the library's contract, at this program.
 Primaries: the sum put in.
 Primaries: the item and the bytes, as the code makes them.
 The reference's sums.
 The reference's sums, whole.
 A block's item, without a sum.
 A block without a sum: its item, its bytes; the block that the laws wake the program by.
 A block's bytes; the block that the laws wake the program by.
-/
import Derived.Test.YtfgipgpbjfhflaaGreatMBundleBackc
import Derived.Deep.AppendLies
import Derived.Deep.RegionLaw
import Derived.Lib.SliceRun
import Derived.Laws.BitsAllLaws
import Derived.Shelf.Strings.Repeat

namespace Go.Proofs.YtfgipgpbjfhflaaGreat
open Go.RowKit
set_option linter.unusedVariables false
set_option linter.unusedSimpArgs false

/-- A list's items by number; where what hangs on them lies. -/
def chL (L : List T) (i : Nat) : T := (L[i]?).getD T.nil
def acL (a : List (Option Addr × Nat)) (i : Nat) : Option Addr × Nat := (a[i]?).getD (none, 0)
theorem list_IsL {W : World} {Q : Nat → Prop} {base g c : Nat} {L : List T} {a : List (Option Addr × Nat)} (hlt : g < W.heap.size) (q : Q g) (h : W.ownsRow base 52 5 (.slice (some ⟨g, 0, none⟩) L.length c) L.length (flatC (chL L) (acL a) L.length)) (hI : ∀ i, i < L.length → IsL W Q (chL L i) (acL a i).1) : IsL W Q (listT L) (some ⟨g, 0, none⟩) := own_IsL hlt q h hI
theorem num_IsL {W : World} {Q : Nat → Prop} {n : Nat} {A : Option Addr} : IsL W Q (numT n) A := IsL.leaf
theorem str_IsL {W : World} {Q : Nat → Prop} {s : List UInt8} {A : Option Addr} : IsL W Q (strT s) A := IsL.leaf
set_option maxRecDepth 20000 in
set_option maxHeartbeats 3200000 in
theorem parts_cap (p : PV) (k : Nat) (hc : p.crc = (k : Int)) (hk : k ≤ 2) (hr : p.ranged = true) (sum : List UInt8) (w : World) : Calls Tryz.prog 115 #[.agg p.c, str sum] w (fun e w' => ∃ A c, e = .returned (itemV (priT p k sum) A c) ∧ Ext w w' ∧ IsL w' (fun b => w.heap.size ≤ b) (priT p k sum) A ∧ (priT p k sum).k ≤ c) := by
 obtain ⟨h1, h2, h3, _, _, hfl, ht, hq, hl, ho, hn⟩ := PV.ranged_spec hr
 have KD := hid (fun W => eidItem_ok p.d h1 W)
 have KS := hid (fun W => eidItem_ok p.s h2 W)
 have KR := hid (fun W => eidItem_ok p.r h3 W)
 have HE := hid (((Mod.refl [] w).alloc (.cells p.c 26)).alloc (.cells #[.int .i64 0, .int .u64 0, .string ⟨#[]⟩, .slice none 0 0, .bool false] 52))
 have HB := hid ((Blk.new w 26 p.c).alloc (.cells #[.int .i64 0, .int .u64 0, .string ⟨#[]⟩, .slice none 0 0, .bool false] 52))
 have HR : Hid (Blk ((w.alloc (.cells p.c 26)).alloc (.cells #[.int .i64 0, .int .u64 0, .string ⟨#[]⟩, .slice none 0 0, .bool false] 52)) (w.heap.size + 1) 52 (itemC (numT 0) none 0)) := Blk.newL _ _ _ (by simp)
 have f0 : (0 : Int) ≤ (p.fl : Int) := by omega
 have HFL : Hid (p.fl < 18446744073709551616) := by unfold Hid; omega
 have t1 : IntKind.u64.wrap (k : Int) = (k : Int) := IntWalk.u64_in _ (by omega)
 have HK := hid hk
 have HC := hid hc
 clear h1 h2 h3 hfl ht hq hl ho hn hr hc hk
 go_enter Tryz.func115, Tryz.ntmps115
 go_upto_region 1 with fail
 generalize (w.alloc (.cells p.c 26)).alloc (.cells #[.int .i64 0, .int .u64 0, .string ⟨#[]⟩, .slice none 0 0, .bool false] 52) = V at *
 have HV : Hid (w.heap.size + 2 ≤ V.heap.size) := Nat.succ_le_of_lt HR.out.lt
 have c0 : V.cell? ⟨w.heap.size, 2, none⟩ = some (.int .i64 p.d.sch) := HB.out.cell 2
 have c1 : V.cell? ⟨w.heap.size, 3, none⟩ = some (str p.d.name) := HB.out.cell 3
 have c2 : V.cell? ⟨w.heap.size, 4, none⟩ = some (.int .u64 (p.d.node : Int)) := HB.out.cell 4
 have c3 : V.cell? ⟨w.heap.size, 5, none⟩ = some (.int .u64 (p.d.svc : Int)) := HB.out.cell 5
 go_upto_region 2 with (go_at_call 132; refine (KD.out _).mono ?_; rintro x wd ⟨Ad, rfl, hb, hl⟩)
 clear c0 c1 c2 c3
 have HE := hid ((HE.out.trans hb).alloc (.cells (itemC (eidT p.d) Ad 2) 52))
 have HB := hid ((HB.out.ext hb).alloc (.cells (itemC (eidT p.d) Ad 2) 52))
 have HR := hid ((HR.out.ext hb).alloc (.cells (itemC (eidT p.d) Ad 2) 52))
 have Dd := hid (Blk.new wd 52 (itemC (eidT p.d) Ad 2))
 have Nd : Hid (V.heap.size ≤ wd.heap.size) := hb.size
 have hl := IsL.weak (R := fun b => w.heap.size + 2 ≤ b ∧ b < wd.heap.size) (fun b h1 h2 => ⟨by have := HV.out; have h2 : V.heap.size ≤ b := h2; omega, h1⟩) _ hl
 have Ld := hid (IsL.ext hl ((Mod.refl [] wd).alloc (.cells (itemC (eidT p.d) Ad 2) 52)))
 clear hb hl
 generalize hGd : wd.alloc (.cells (itemC (eidT p.d) Ad 2) 52) = Vd at *
 have hSd : Hid (wd.heap.size < Vd.heap.size) := hid (by rw [← hGd]; simp)
 clear hGd
 have c0 : Vd.cell? ⟨w.heap.size, 6, none⟩ = some (.int .i64 p.s.sch) := HB.out.cell 6
 have c1 : Vd.cell? ⟨w.heap.size, 7, none⟩ = some (str p.s.name) := HB.out.cell 7
 have c2 : Vd.cell? ⟨w.heap.size, 8, none⟩ = some (.int .u64 (p.s.node : Int)) := HB.out.cell 8
 have c3 : Vd.cell? ⟨w.heap.size, 9, none⟩ = some (.int .u64 (p.s.svc : Int)) := HB.out.cell 9
 go_upto_region 3 with (go_at_call 132; refine (KS.out _).mono ?_; rintro x ws ⟨As, rfl, hb, hl⟩)
 clear c0 c1 c2 c3
 have HE := hid ((HE.out.trans hb).alloc (.cells (itemC (eidT p.s) As 2) 52))
 have HB := hid ((HB.out.ext hb).alloc (.cells (itemC (eidT p.s) As 2) 52))
 have HR := hid ((HR.out.ext hb).alloc (.cells (itemC (eidT p.s) As 2) 52))
 have Ds := hid (Blk.new ws 52 (itemC (eidT p.s) As 2))
 have Ns : Hid (Vd.heap.size ≤ ws.heap.size) := hb.size
 have hl := IsL.weak (R := fun b => w.heap.size + 2 ≤ b ∧ b < ws.heap.size) (fun b h1 h2 => ⟨by have := HV.out; have h2 : Vd.heap.size ≤ b := h2; have := hSd.out; have := Nd.out; omega, h1⟩) _ hl
 have Ls := hid (IsL.ext hl ((Mod.refl [] ws).alloc (.cells (itemC (eidT p.s) As 2) 52)))
 have Dd := hid ((Dd.out.ext hb).alloc (.cells (itemC (eidT p.s) As 2) 52))
 have Ld := hid (IsL.ext (Ld.out.ext hb) ((Mod.refl [] ws).alloc (.cells (itemC (eidT p.s) As 2) 52)))
 clear hb hl
 generalize hGs : ws.alloc (.cells (itemC (eidT p.s) As 2) 52) = Vs at *
 have hSs : Hid (ws.heap.size < Vs.heap.size) := hid (by rw [← hGs]; simp)
 clear hGs
 have c0 : Vs.cell? ⟨w.heap.size, 10, none⟩ = some (.int .i64 p.r.sch) := HB.out.cell 10
 have c1 : Vs.cell? ⟨w.heap.size, 11, none⟩ = some (str p.r.name) := HB.out.cell 11
 have c2 : Vs.cell? ⟨w.heap.size, 12, none⟩ = some (.int .u64 (p.r.node : Int)) := HB.out.cell 12
 have c3 : Vs.cell? ⟨w.heap.size, 13, none⟩ = some (.int .u64 (p.r.svc : Int)) := HB.out.cell 13
 go_upto_region 4 with (go_at_call 132; refine (KR.out _).mono ?_; rintro x wr ⟨Ar, rfl, hb, hl⟩)
 clear c0 c1 c2 c3
 have HE := hid ((HE.out.trans hb).alloc (.cells (itemC (eidT p.r) Ar 2) 52))
 have HB := hid ((HB.out.ext hb).alloc (.cells (itemC (eidT p.r) Ar 2) 52))
 have HR := hid ((HR.out.ext hb).alloc (.cells (itemC (eidT p.r) Ar 2) 52))
 have Dr := hid (Blk.new wr 52 (itemC (eidT p.r) Ar 2))
 have Nr : Hid (Vs.heap.size ≤ wr.heap.size) := hb.size
 have hl := IsL.weak (R := fun b => w.heap.size + 2 ≤ b ∧ b < wr.heap.size) (fun b h1 h2 => ⟨by have := HV.out; have h2 : Vs.heap.size ≤ b := h2; have := hSd.out; have := Nd.out; have := hSs.out; have := Ns.out; omega, h1⟩) _ hl
 have Lr := hid (IsL.ext hl ((Mod.refl [] wr).alloc (.cells (itemC (eidT p.r) Ar 2) 52)))
 have Dd := hid ((Dd.out.ext hb).alloc (.cells (itemC (eidT p.r) Ar 2) 52))
 have Ld := hid (IsL.ext (Ld.out.ext hb) ((Mod.refl [] wr).alloc (.cells (itemC (eidT p.r) Ar 2) 52)))
 have Ds := hid ((Ds.out.ext hb).alloc (.cells (itemC (eidT p.r) Ar 2) 52))
 have Ls := hid (IsL.ext (Ls.out.ext hb) ((Mod.refl [] wr).alloc (.cells (itemC (eidT p.r) Ar 2) 52)))
 clear hb hl
 generalize hGr : wr.alloc (.cells (itemC (eidT p.r) Ar 2) 52) = Vr at *
 have hSr : Hid (wr.heap.size < Vr.heap.size) := hid (by rw [← hGr]; simp)
 clear hGr
 have xf : ∀ e : Later Vr, e.x.cell? ⟨w.heap.size, 0, none⟩ = some (.int .u64 (p.fl : Int)) := HB.out.cellL 0 rfl
 have xg : ∀ e : Later Vr, e.x.cell? ⟨w.heap.size, 1, none⟩ = some (.int .i64 (k : Int)) := HB.out.cellL 1 (by show some (Value.int .i64 p.crc) = _; rw [HC.out])
 have xt : ∀ e : Later Vr, e.x.cell? ⟨w.heap.size, 14, none⟩ = some (.int .u64 (p.t : Int)) := HB.out.cellL 14 rfl
 have xq : ∀ e : Later Vr, e.x.cell? ⟨w.heap.size, 15, none⟩ = some (.int .u64 (p.q : Int)) := HB.out.cellL 15 rfl
 have xl : ∀ e : Later Vr, e.x.cell? ⟨w.heap.size, 16, none⟩ = some (.int .u64 (p.l : Int)) := HB.out.cellL 16 rfl
 have xd0 : ∀ e : Later Vr, e.x.cell? ⟨wd.heap.size, 0, none⟩ = some (.int .i64 (eidT p.d).kind) := Dd.out.cellL 0 rfl
 have xd1 : ∀ e : Later Vr, e.x.cell? ⟨wd.heap.size, 1, none⟩ = some (.int .u64 ((eidT p.d).n : Int)) := Dd.out.cellL 1 rfl
 have xd2 : ∀ e : Later Vr, e.x.cell? ⟨wd.heap.size, 2, none⟩ = some (str (eidT p.d).s) := Dd.out.cellL 2 rfl
 have xd3 : ∀ e : Later Vr, e.x.cell? ⟨wd.heap.size, 3, none⟩ = some (.slice Ad (eidT p.d).k 2) := Dd.out.cellL 3 rfl
 have xd4 : ∀ e : Later Vr, e.x.cell? ⟨wd.heap.size, 4, none⟩ = some (.bool (eidT p.d).op) := Dd.out.cellL 4 rfl
 have xs0 : ∀ e : Later Vr, e.x.cell? ⟨ws.heap.size, 0, none⟩ = some (.int .i64 (eidT p.s).kind) := Ds.out.cellL 0 rfl
 have xs1 : ∀ e : Later Vr, e.x.cell? ⟨ws.heap.size, 1, none⟩ = some (.int .u64 ((eidT p.s).n : Int)) := Ds.out.cellL 1 rfl
 have xs2 : ∀ e : Later Vr, e.x.cell? ⟨ws.heap.size, 2, none⟩ = some (str (eidT p.s).s) := Ds.out.cellL 2 rfl
 have xs3 : ∀ e : Later Vr, e.x.cell? ⟨ws.heap.size, 3, none⟩ = some (.slice As (eidT p.s).k 2) := Ds.out.cellL 3 rfl
 have xs4 : ∀ e : Later Vr, e.x.cell? ⟨ws.heap.size, 4, none⟩ = some (.bool (eidT p.s).op) := Ds.out.cellL 4 rfl
 have xr0 : ∀ e : Later Vr, e.x.cell? ⟨wr.heap.size, 0, none⟩ = some (.int .i64 (eidT p.r).kind) := Dr.out.cellL 0 rfl
 have xr1 : ∀ e : Later Vr, e.x.cell? ⟨wr.heap.size, 1, none⟩ = some (.int .u64 ((eidT p.r).n : Int)) := Dr.out.cellL 1 rfl
 have xr2 : ∀ e : Later Vr, e.x.cell? ⟨wr.heap.size, 2, none⟩ = some (str (eidT p.r).s) := Dr.out.cellL 2 rfl
 have xr3 : ∀ e : Later Vr, e.x.cell? ⟨wr.heap.size, 3, none⟩ = some (.slice Ar (eidT p.r).k 2) := Dr.out.cellL 3 rfl
 have xr4 : ∀ e : Later Vr, e.x.cell? ⟨wr.heap.size, 4, none⟩ = some (.bool (eidT p.r).op) := Dr.out.cellL 4 rfl
 obtain ⟨e, he⟩ := Later.self Vr
 have HTC : Hid (∀ L : List T, (listT L).k = L.length) := fun L => rfl
 rw [he]
 clear he
 go_region_held3 (fun w' => w'.cell? ⟨w.heap.size, 0, none⟩ = some (.int .u64 (p.fl : Int)) ∧ w'.cell? ⟨w.heap.size, 1, none⟩ = some (.int .i64 (k : Int)) ∧ w'.cell? ⟨w.heap.size, 14, none⟩ = some (.int .u64 (p.t : Int)) ∧ w'.cell? ⟨w.heap.size, 15, none⟩ = some (.int .u64 (p.q : Int)) ∧ w'.cell? ⟨w.heap.size, 16, none⟩ = some (.int .u64 (p.l : Int)) ∧ w'.cell? ⟨wd.heap.size, 0, none⟩ = some (.int .i64 (eidT p.d).kind) ∧ w'.cell? ⟨wd.heap.size, 1, none⟩ = some (.int .u64 ((eidT p.d).n : Int)) ∧ w'.cell? ⟨wd.heap.size, 2, none⟩ = some (str (eidT p.d).s) ∧ w'.cell? ⟨wd.heap.size, 3, none⟩ = some (.slice Ad (eidT p.d).k 2) ∧ w'.cell? ⟨wd.heap.size, 4, none⟩ = some (.bool (eidT p.d).op) ∧ w'.cell? ⟨ws.heap.size, 0, none⟩ = some (.int .i64 (eidT p.s).kind) ∧ w'.cell? ⟨ws.heap.size, 1, none⟩ = some (.int .u64 ((eidT p.s).n : Int)) ∧ w'.cell? ⟨ws.heap.size, 2, none⟩ = some (str (eidT p.s).s) ∧ w'.cell? ⟨ws.heap.size, 3, none⟩ = some (.slice As (eidT p.s).k 2) ∧ w'.cell? ⟨ws.heap.size, 4, none⟩ = some (.bool (eidT p.s).op) ∧ w'.cell? ⟨wr.heap.size, 0, none⟩ = some (.int .i64 (eidT p.r).kind) ∧ w'.cell? ⟨wr.heap.size, 1, none⟩ = some (.int .u64 ((eidT p.r).n : Int)) ∧ w'.cell? ⟨wr.heap.size, 2, none⟩ = some (str (eidT p.r).s) ∧ w'.cell? ⟨wr.heap.size, 3, none⟩ = some (.slice Ar (eidT p.r).k 2) ∧ w'.cell? ⟨wr.heap.size, 4, none⟩ = some (.bool (eidT p.r).op)) (go_keep)
  (first
   | (go_at_call 57; (try rw [t1]); refine (NumI_any _ _).mono ?_; rintro x w3 ⟨rfl, hb3⟩; (try have HP := hid (Blk.ext HP.out hb3)); obtain ⟨e, rfl⟩ : ∃ e' : Later Vr, w3 = e'.x := ⟨⟨w3, Mod.trans (by first | exact Later.h _ | exact (Later.h _).drew | exact (Later.h _).alloc _) hb3⟩, rfl⟩)
   | (go_at_call 67; have HP := hid (Blk.new e.x 52 #[.int .i64 0, .int .u64 (p.t : Int), str [], .slice none 0 0, .bool false, .int .i64 0, .int .u64 (p.q : Int), str [], .slice none 0 0, .bool false]); have HG2 : Hid (w.heap.size + 2 ≤ e.x.heap.size) := Nat.le_trans (Nat.succ_le_of_lt HR.out.lt) e.h.size; generalize e.x.heap.size = g2 at *; refine (ListV_any _ _ _ _).mono ?_; rintro x w3 ⟨rfl, hb3⟩; have HP := hid (Blk.ext HP.out hb3); obtain ⟨e, rfl⟩ : ∃ e' : Later Vr, w3 = e'.x := ⟨⟨w3, Mod.trans (by first | exact Later.h _ | exact (Later.h _).drew | exact (Later.h _).alloc _) hb3⟩, rfl⟩))
 go_upto_region 5 with fail
 clear xf xg xt xq xl xd0 xd1 xd2 xd3 xd4 xs0 xs1 xs2 xs3 xs4 xr0 xr1 xr2 xr3 xr4
 generalize hV8 : World.alloc e.x _ = V8
 have HE : Hid (Ext w V8) := hid (by rw [← hV8]; exact (HE.out.trans e.h).alloc _)
 have HB : Hid (Blk V8 w.heap.size 26 p.c) := hid (by rw [← hV8]; exact (HB.out.later e).alloc _)
 have HR : Hid (Blk V8 (w.heap.size + 1) 52 (itemC (numT 0) none 0)) := hid (by rw [← hV8]; exact (HR.out.later e).alloc _)
 have H8 : Hid (Blk V8 e.x.heap.size 52 #[.int .i64 0, .int .u64 7, str [], .slice none 0 0, .bool false, .int .i64 0, .int .u64 (p.fl : Int), str [], .slice none 0 0, .bool false, .int .i64 0, .int .u64 (k : Int), str [], .slice none 0 0, .bool false, .int .i64 (eidT p.d).kind, .int .u64 ((eidT p.d).n : Int), str (eidT p.d).s, .slice Ad (eidT p.d).k 2, .bool (eidT p.d).op, .int .i64 (eidT p.s).kind, .int .u64 ((eidT p.s).n : Int), str (eidT p.s).s, .slice As (eidT p.s).k 2, .bool (eidT p.s).op, .int .i64 (eidT p.r).kind, .int .u64 ((eidT p.r).n : Int), str (eidT p.r).s, .slice Ar (eidT p.r).k 2, .bool (eidT p.r).op, .int .i64 4, .int .u64 0, str [], .slice (some ⟨g2, 0, none⟩) 2 2, .bool false, .int .i64 0, .int .u64 (p.l : Int), str [], .slice none 0 0, .bool false]) := hid (by rw [← hV8]; exact Blk.new _ _ _)
 have HPG := hid HP.out.lt
 have HP : Hid (Blk V8 g2 52 #[.int .i64 0, .int .u64 (p.t : Int), str [], .slice none 0 0, .bool false, .int .i64 0, .int .u64 (p.q : Int), str [], .slice none 0 0, .bool false]) := hid (by rw [← hV8]; exact HP.out.alloc _)
 have Ld : Hid (IsL V8 (fun b => w.heap.size + 2 ≤ b ∧ b < wd.heap.size) (eidT p.d) Ad) := hid (by rw [← hV8]; exact IsL.ext (Ld.out.ext e.h) ((Mod.refl [] e.x).alloc _))
 have Ls : Hid (IsL V8 (fun b => w.heap.size + 2 ≤ b ∧ b < ws.heap.size) (eidT p.s) As) := hid (by rw [← hV8]; exact IsL.ext (Ls.out.ext e.h) ((Mod.refl [] e.x).alloc _))
 have Lr : Hid (IsL V8 (fun b => w.heap.size + 2 ≤ b ∧ b < wr.heap.size) (eidT p.r) Ar) := hid (by rw [← hV8]; exact IsL.ext (Lr.out.ext e.h) ((Mod.refl [] e.x).alloc _))
 have HG8 : Hid (Vr.heap.size ≤ e.x.heap.size) := e.h.size
 clear hV8 hb3
 generalize e.x.heap.size = g8 at *
 have HO : Hid (V8.ownsRow (w.heap.size + 2) 52 5 (.slice (some ⟨g8, 0, none⟩) 8 8) 8 (flatC (chL [numT 7, numT p.fl, numT k, eidT p.d, eidT p.s, eidT p.r, listT [numT p.t, numT p.q], numT p.l]) (acL [(none, 0), (none, 0), (none, 0), (Ad, 2), (As, 2), (Ar, 2), (some ⟨g2, 0, none⟩, 2), (none, 0)]) 8)) := own_of_blk H8.out (by have := HG8.out; have := hSr.out; have := Nr.out; have := hSs.out; have := Ns.out; have := hSd.out; have := Nd.out; have := HV.out; omega) (by decide) rfl
 have HGG : Hid (g8 ≤ g8) := Nat.le_refl _
 have HG8b : Hid (w.heap.size + 2 ≤ g8) := by have := HG8.out; have := hSr.out; have := Nr.out; have := hSs.out; have := Ns.out; have := hSd.out; have := Nd.out; have := HV.out; unfold Hid; omega
 have HLT8 := hid H8.out.lt
 have CH : Hid (∀ i, i < 8 → IsL V8 (fun b => w.heap.size + 2 ≤ b ∧ b < g8) (chL [numT 7, numT p.fl, numT k, eidT p.d, eidT p.s, eidT p.r, listT [numT p.t, numT p.q], numT p.l] i) (acL [(none, 0), (none, 0), (none, 0), (Ad, 2), (As, 2), (Ar, 2), (some ⟨g2, 0, none⟩, 2), (none, 0)] i).1) := fun i hi => by
  have q1 := HG8.out; have q2 := hSr.out; have q3 := Nr.out; have q4 := hSs.out; have q5 := Ns.out; have q6 := hSd.out; have q7 := Nd.out; have q8 := HV.out
  match i, hi with
  | 0, _ => exact num_IsL
  | 1, _ => exact num_IsL
  | 2, _ => exact num_IsL
  | 3, _ => exact IsL.weak (fun b _ h => ⟨h.1, by have := h.2; omega⟩) (eidT p.d) Ld.out
  | 4, _ => exact IsL.weak (fun b _ h => ⟨h.1, by have := h.2; omega⟩) (eidT p.s) Ls.out
  | 5, _ => exact IsL.weak (fun b _ h => ⟨h.1, by have := h.2; omega⟩) (eidT p.r) Lr.out
  | 6, _ => exact fun _ => ⟨g2, 0, rfl, HP.out.lt, ⟨HG2.out, HPG.out⟩, fun j hj => by
    have hj : j = 0 ∨ j = 1 := by have : j < 2 := hj; omega
    rcases hj with rfl | rfl
    · exact ⟨none, 0, ⟨HP.out.cell 0, HP.out.cell 1, HP.out.cell 2, HP.out.cell 3, HP.out.cell 4⟩, num_IsL⟩
    · exact ⟨none, 0, ⟨HP.out.cell 5, HP.out.cell 6, HP.out.cell 7, HP.out.cell 8, HP.out.cell 9⟩, num_IsL⟩⟩
  | 7, _ => exact num_IsL
 clear H8 HP Ld Ls Lr HG8 HPG hSr Nr hSs Ns hSd Nd KD KS KR Dd Ds Dr HG2
 have HW8 : Hid (w.heap.size + 2 ≤ g8) := by have := HG8b.out; unfold Hid; omega
 obtain ⟨i0, hi, hz0, hz1, hz2⟩ := info_parts infoItem
 have HINF := hid (And.intro hi (And.intro hz0 (And.intro hz1 hz2)))
 clear hi hz0 hz1 hz2
 have HLG := HLT8
 have y0 : ∀ e : Later V8, e.x.cell? ⟨w.heap.size, 0, none⟩ = some (.int .u64 (p.fl : Int)) := HB.out.cellL 0 rfl
 obtain ⟨e, he⟩ := Later.self V8
 rw [he]
 clear he
 by_cases hx : p.fl % 2 = 1
 ·
  have a1 : bits .and .u64 (p.fl : Int) 1 = 1 := by have h := andP_yes (k := 0) HFL.out (by omega) (by simpa using hx); simpa using h
  have HX := hid hx
  clear hx
  have y17 : ∀ e : Later V8, e.x.cell? ⟨w.heap.size, 17, none⟩ = some (.int .u64 (p.o : Int)) := HB.out.cellL 17 rfl
  have y18 : ∀ e : Later V8, e.x.cell? ⟨w.heap.size, 18, none⟩ = some (.int .u64 (p.n : Int)) := HB.out.cellL 18 rfl
  have y18a : ∀ (e : Later V8) (ob : Obj), (e.x.alloc ob).cell? ⟨w.heap.size, 18, none⟩ = some (.int .u64 (p.n : Int)) := fun e ob => ((HB.out.later e).alloc ob).cell 18
  have y17a : ∀ (e : Later V8) (ob : Obj), (e.x.alloc ob).cell? ⟨w.heap.size, 17, none⟩ = some (.int .u64 (p.o : Int)) := fun e ob => ((HB.out.later e).alloc ob).cell 17
  have HOE : Hid (∀ e : Later V8, e.x.ownsRow (w.heap.size + 2) 52 5 (.slice (some ⟨g8, 0, none⟩) 8 8) 8 (flatC (chL [numT 7, numT p.fl, numT k, eidT p.d, eidT p.s, eidT p.r, listT [numT p.t, numT p.q], numT p.l]) (acL [(none, 0), (none, 0), (none, 0), (Ad, 2), (As, 2), (Ar, 2), (some ⟨g2, 0, none⟩, 2), (none, 0)]) 8)) := fun e => ownsRow_mod HO.out e.h (fun _ _ => by simp)
  obtain ⟨hi, hz0, hz1, hz2⟩ := HINF.out
  go_upto_region 6 with fail
  go_region_held3 (fun w' => w'.cell? ⟨w.heap.size, 17, none⟩ = some (.int .u64 (p.o : Int)) ∧ w'.cell? ⟨w.heap.size, 18, none⟩ = some (.int .u64 (p.n : Int))) (go_keep)
   (first
    | (go_at_call 57; refine (NumI_any _ _).mono ?_; rintro x w3 ⟨rfl, hb3⟩; obtain ⟨e, rfl⟩ : ∃ e' : Later V8, w3 = e'.x := ⟨⟨w3, Mod.trans (by first | exact Later.h _ | exact (Later.h _).drew | exact (Later.h _).alloc _) hb3⟩, rfl⟩)
    | (refine step_append_lies _ (by rfl) _ _ 50 (by rfl) (w.heap.size + 2) 52 i0 _ 5 64 Tryz.underlying50 hi hz0 hz1 hz2 (by rfl) (by decide) _ 8 _ (by rfl) ((HOE.out e).alloc _) ⟨e.x.heap.size, 0, none⟩ 2 2 [.int .i64 0, .int .u64 (p.o : Int), str [], .slice none 0 0, .bool false, .int .i64 0, .int .u64 (p.n : Int), str [], .slice none 0 0, .bool false] (by rfl) (by rfl) (World.news_of_block (heap_alloc_new _ _)) (fun u hu => by simp only [List.mem_cons, List.not_mem_nil, or_false] at hu; rcases hu with h | h | h | h | h | h | h | h | h | h <;> (subst h; rfl)) (by decide) (by decide) (by decide) (by have := HW8.out; have := HLT8.out; have := e.h.size; simp; omega) (e.x.heap.size + 1) (by simp) ?_; intro g9 c9 w9 hown hgrow hat hlt; have z17 : w9.cell? ⟨w.heap.size, 17, none⟩ = some (.int .u64 (p.o : Int)) := (hgrow.cell_far _ (by have := HW8.out; have := HLT8.out; have := e.h.size; simp; omega) (by simp [Value.ownBlock]; have := HW8.out; omega)).trans (y17a e _); have z18 : w9.cell? ⟨w.heap.size, 18, none⟩ = some (.int .u64 (p.n : Int)) := (hgrow.cell_far _ (by have := HW8.out; have := HLT8.out; have := e.h.size; simp; omega) (by simp [Value.ownBlock]; have := HW8.out; omega)).trans (y18a e _)))
  go_upto_region 7 with fail
  clear y17 y18 y17a y18a z17 z18 hi hz0 hz1 hz2 HOE y0
  have hm : Mod [g8] V8 w9 := Mod.grown (by first | exact (Mod.of_ext e.h).alloc _ | exact ((Mod.of_ext e.h).alloc _).drew | exact ((Mod.of_ext e.h).drew).alloc _) hgrow (fun b hb => by simp [Value.ownBlock] at hb; subst hb; exact .inl (by simp))
  have HGE : Hid (g8 ≤ g9) := by
   have h1 := HGG.out
   have h2 := HLT8.out
   have h3 := e.h.size
   rcases hat with h | h
   · simp [Value.ownBlock] at h; unfold Hid; omega
   · unfold Hid; omega
  have HO : Hid (w9.ownsRow (w.heap.size + 2) 52 5 (.slice (some ⟨g9, 0, none⟩) 10 c9) 10 (flatC (chL [numT 7, numT p.fl, numT k, eidT p.d, eidT p.s, eidT p.r, listT [numT p.t, numT p.q], numT p.l, numT p.o, numT p.n]) (acL [(none, 0), (none, 0), (none, 0), (Ad, 2), (As, 2), (Ar, 2), (some ⟨g2, 0, none⟩, 2), (none, 0), (none, 0), (none, 0)]) 10)) := hown
  have HE : Hid (Ext w w9) := (HE.out.of_ext.trans hm).new (fun b hb => .inr (by rw [List.mem_singleton] at hb; subst hb; have := HGG.out; have := HW8.out; omega))
  have HB : Hid (Blk w9 w.heap.size 26 p.c) := HB.out.mod hm (by have := HGG.out; have := HW8.out; simp; omega)
  have HR : Hid (Blk w9 (w.heap.size + 1) 52 (itemC (numT 0) none 0)) := HR.out.mod hm (by have := HGG.out; have := HW8.out; simp; omega)
  have CH : Hid (∀ i, i < 10 → IsL w9 (fun b => w.heap.size + 2 ≤ b ∧ b < g8) (chL [numT 7, numT p.fl, numT k, eidT p.d, eidT p.s, eidT p.r, listT [numT p.t, numT p.q], numT p.l, numT p.o, numT p.n] i) (acL [(none, 0), (none, 0), (none, 0), (Ad, 2), (As, 2), (Ar, 2), (some ⟨g2, 0, none⟩, 2), (none, 0), (none, 0), (none, 0)] i).1) := fun i hi => by
   by_cases h : i < 8
   ·
    have q := IsL.mod hm (fun b hb _ hs => by rw [List.mem_singleton] at hs; subst hs; have := HGG.out; have := hb.2; omega) _ (CH.out i h)
    match i, h with
    | 0, _ => exact q
    | 1, _ => exact q
    | 2, _ => exact q
    | 3, _ => exact q
    | 4, _ => exact q
    | 5, _ => exact q
    | 6, _ => exact q
    | 7, _ => exact q
   ·
    obtain ⟨j, rfl⟩ : ∃ j, i = 8 + j := ⟨i - 8, by omega⟩
    match j, hi with
    | 0, _ => exact num_IsL
    | 1, _ => exact num_IsL
    | j + 2, h => exact absurd h (by omega)
  have HLT8 : Hid (g8 < w9.heap.size) := by have := hm.size; have := HLT8.out; unfold Hid; omega
  have HLG := hid hlt
  clear hown hgrow hat hlt hm HGG
  have HGG := HGE
  clear HGE
  obtain ⟨e, he⟩ := Later.self w9
  rw [he]
  clear he
  have y1 : ∀ e : Later w9, e.x.cell? ⟨w.heap.size, 1, none⟩ = some (.int .i64 (k : Int)) := HB.out.cellL 1 (by show some (Value.int .i64 p.crc) = _; rw [HC.out])
  by_cases hk0 : k = 0
  ·
   have kka : (((k : Int)) == (0)) = true := by rw [beq_iff_eq]; omega
   have kkb : (((k : Int)) = (0)) = True := eq_true (by omega)
   have kkc : (((k : Int)) != (0)) = false := by rw [bne_eq_false_iff_eq]; omega
   have kza : decide (k = 0) = true := decide_eq_true (by omega)
   have kzb : (k = 0) = True := eq_true (by omega)
   have HK0 := hid hk0
   clear hk0
   go_upto_region 9 with fail
   have HLL : Hid (priT p k sum = listT [numT 7, numT p.fl, numT k, eidT p.d, eidT p.s, eidT p.r, listT [numT p.t, numT p.q], numT p.l, numT p.o, numT p.n]) := by unfold Hid priT priL; rw [if_pos HX.out, if_pos HK0.out]; rfl
   go_wp2_with (go_at_call 67; refine (ListV_any _ _ _ _).mono ?_; rintro x w3 ⟨rfl, hb3⟩; obtain ⟨e, rfl⟩ : ∃ e' : Later w9, w3 = e'.x := ⟨⟨w3, Mod.trans (by first | exact Later.h _ | exact (Later.h _).drew | exact (Later.h _).alloc _) hb3⟩, rfl⟩; obtain ⟨c0, c1, c2, c3, c4⟩ := cells5 (HR.out.later e); have f0 := (HR.out.later e).frozen 0; have f1 := (HR.out.later e).frozen 1; have f2 := (HR.out.later e).frozen 2; have f3 := (HR.out.later e).frozen 3; have f4 := (HR.out.later e).frozen 4)
   obtain ⟨d0, d1, d2, d3, d4⟩ := cells5 (set5_blk (t := listT [numT 7, numT p.fl, numT k, eidT p.d, eidT p.s, eidT p.r, listT [numT p.t, numT p.q], numT p.l, numT p.o, numT p.n]) (A := some ⟨g9, 0, none⟩) (c := c9) (HR.out.later e))
   clear c0 c1 c2 c3 c4 f0 f1 f2 f3 f4
   show bodyPost _ _ _ _ _ (set5 e.x (w.heap.size + 1) (listT [numT 7, numT p.fl, numT k, eidT p.d, eidT p.s, eidT p.r, listT [numT p.t, numT p.q], numT p.l, numT p.o, numT p.n]) (some ⟨g9, 0, none⟩) c9)
   refine bodyPost_ret (v := itemV (listT [numT 7, numT p.fl, numT k, eidT p.d, eidT p.s, eidT p.r, listT [numT p.t, numT p.q], numT p.l, numT p.o, numT p.n]) (some ⟨g9, 0, none⟩) c9) (by simp [results, Tryz.results115, go_sem, d0, d1, d2, d3, d4]) rfl ⟨some ⟨g9, 0, none⟩, c9, by rw [HLL.out], set5_mod (HE.out.trans e.h) (by omega), ?_⟩
   rw [HLL.out]
   refine ⟨?_, room_cap HO.out⟩
   refine IsL.weak (fun _ _ h => by have : w.heap.size + 2 ≤ _ := h; omega) _ (IsL.mod (Q := fun b => w.heap.size + 2 ≤ b) set5_modb (fun b hb _ hs => by rw [List.mem_singleton] at hs; have : w.heap.size + 2 ≤ b := hb; omega) _ ?_)
   exact list_IsL (base := w.heap.size + 2) (c := c9) (by have := HLG.out; have := e.h.size; omega) (by have := HGG.out; have := HW8.out; omega) (ownsRow_mod HO.out e.h (fun _ _ => by simp)) (fun i hi => IsL.weak (fun b _ h => h.1) _ ((CH.out i hi).ext e.h))
  ·
   have kka : (((k : Int)) == (0)) = false := by rw [beq_eq_false_iff_ne]; omega
   have kkb : (((k : Int)) = (0)) = False := eq_false (by omega)
   have kkc : (((k : Int)) != (0)) = true := by rw [bne_iff_ne]; omega
   have kza : decide (k = 0) = false := decide_eq_false (by omega)
   have kzb : (k = 0) = False := eq_false (by omega)
   have HK0 := hid hk0
   clear hk0
   have HOE : Hid (∀ e : Later w9, e.x.ownsRow (w.heap.size + 2) 52 5 (.slice (some ⟨g9, 0, none⟩) 10 c9) 10 (flatC (chL [numT 7, numT p.fl, numT k, eidT p.d, eidT p.s, eidT p.r, listT [numT p.t, numT p.q], numT p.l, numT p.o, numT p.n]) (acL [(none, 0), (none, 0), (none, 0), (Ad, 2), (As, 2), (Ar, 2), (some ⟨g2, 0, none⟩, 2), (none, 0), (none, 0), (none, 0)]) 10)) := fun e => ownsRow_mod HO.out e.h (fun _ _ => by simp)
   obtain ⟨hi, hz0, hz1, hz2⟩ := HINF.out
   go_upto_region 9 with (first | (go_at_call 63; refine (StrV_any _ _).mono ?_; rintro x w3 ⟨rfl, hb3⟩; obtain ⟨e, rfl⟩ : ∃ e' : Later w9, w3 = e'.x := ⟨⟨w3, Mod.trans (by first | exact Later.h _ | exact (Later.h _).drew | exact (Later.h _).alloc _) hb3⟩, rfl⟩) | (at_builtin; refine wpList_append_lies _ rfl _ _ 50 (by rfl) (w.heap.size + 2) 52 i0 _ 5 64 Tryz.underlying50 hi hz0 hz1 hz2 (by rfl) (by decide) _ 10 _ (by rfl) ((HOE.out e).alloc _) ⟨e.x.heap.size, 0, none⟩ 1 1 [.int .i64 (strT sum).kind, .int .u64 ((strT sum).n : Int), str (strT sum).s, .slice none (strT sum).k 0, .bool (strT sum).op] (by rfl) (by rfl) (World.news_of_block (heap_alloc_new _ _)) (fun u hu => by simp only [List.mem_cons, List.not_mem_nil, or_false] at hu; rcases hu with h | h | h | h | h <;> (subst h; rfl)) (by decide) (by decide) (by decide) (by have := HW8.out; have := HLT8.out; have := e.h.size; simp; omega) (e.x.heap.size + 1) (by simp) ?_; intro g' c' w' hown hgrow hat hlt))
   clear hi hz0 hz1 hz2 HOE y1
   have hm : Mod [g9] w9 w' := Mod.grown (by first | exact (Mod.of_ext e.h).alloc _ | exact ((Mod.of_ext e.h).alloc _).drew | exact ((Mod.of_ext e.h).drew).alloc _) hgrow (fun b hb => by simp [Value.ownBlock] at hb; subst hb; exact .inl (by simp))
   have HGE : Hid (g8 ≤ g') := by
    have h1 := HGG.out
    have h2 := HLT8.out
    have h3 := e.h.size
    rcases hat with h | h
    · simp [Value.ownBlock] at h; unfold Hid; omega
    · unfold Hid; omega
   have HO : Hid (w'.ownsRow (w.heap.size + 2) 52 5 (.slice (some ⟨g', 0, none⟩) 11 c') 11 (flatC (chL [numT 7, numT p.fl, numT k, eidT p.d, eidT p.s, eidT p.r, listT [numT p.t, numT p.q], numT p.l, numT p.o, numT p.n, strT sum]) (acL [(none, 0), (none, 0), (none, 0), (Ad, 2), (As, 2), (Ar, 2), (some ⟨g2, 0, none⟩, 2), (none, 0), (none, 0), (none, 0), (none, 0)]) 11)) := hown
   have HE : Hid (Ext w w') := (HE.out.of_ext.trans hm).new (fun b hb => .inr (by rw [List.mem_singleton] at hb; subst hb; have := HGG.out; have := HW8.out; omega))
   have HB : Hid (Blk w' w.heap.size 26 p.c) := HB.out.mod hm (by have := HGG.out; have := HW8.out; simp; omega)
   have HR : Hid (Blk w' (w.heap.size + 1) 52 (itemC (numT 0) none 0)) := HR.out.mod hm (by have := HGG.out; have := HW8.out; simp; omega)
   have CH : Hid (∀ i, i < 11 → IsL w' (fun b => w.heap.size + 2 ≤ b ∧ b < g8) (chL [numT 7, numT p.fl, numT k, eidT p.d, eidT p.s, eidT p.r, listT [numT p.t, numT p.q], numT p.l, numT p.o, numT p.n, strT sum] i) (acL [(none, 0), (none, 0), (none, 0), (Ad, 2), (As, 2), (Ar, 2), (some ⟨g2, 0, none⟩, 2), (none, 0), (none, 0), (none, 0), (none, 0)] i).1) := fun i hi => by
    by_cases h : i < 10
    ·
     have q := IsL.mod hm (fun b hb _ hs => by rw [List.mem_singleton] at hs; subst hs; have := HGG.out; have := hb.2; omega) _ (CH.out i h)
     match i, h with
     | 0, _ => exact q
     | 1, _ => exact q
     | 2, _ => exact q
     | 3, _ => exact q
     | 4, _ => exact q
     | 5, _ => exact q
     | 6, _ => exact q
     | 7, _ => exact q
     | 8, _ => exact q
     | 9, _ => exact q
    ·
     obtain ⟨j, rfl⟩ : ∃ j, i = 10 + j := ⟨i - 10, by omega⟩
     match j, hi with
     | 0, _ => exact str_IsL
     | j + 1, h => exact absurd h (by omega)
   have HLT8 : Hid (g8 < w'.heap.size) := by have := hm.size; have := HLT8.out; unfold Hid; omega
   have HLG := hid hlt
   clear hown hgrow hat hlt hm HGG
   have HGG := HGE
   clear HGE
   obtain ⟨e, he⟩ := Later.self w'
   rw [he]
   clear he
   have HLL : Hid (priT p k sum = listT [numT 7, numT p.fl, numT k, eidT p.d, eidT p.s, eidT p.r, listT [numT p.t, numT p.q], numT p.l, numT p.o, numT p.n, strT sum]) := by unfold Hid priT priL; rw [if_pos HX.out, if_neg HK0.out]; rfl
   go_wp2_with (go_at_call 67; refine (ListV_any _ _ _ _).mono ?_; rintro x w3 ⟨rfl, hb3⟩; obtain ⟨e, rfl⟩ : ∃ e' : Later w', w3 = e'.x := ⟨⟨w3, Mod.trans (by first | exact Later.h _ | exact (Later.h _).drew | exact (Later.h _).alloc _) hb3⟩, rfl⟩; obtain ⟨c0, c1, c2, c3, c4⟩ := cells5 (HR.out.later e); have f0 := (HR.out.later e).frozen 0; have f1 := (HR.out.later e).frozen 1; have f2 := (HR.out.later e).frozen 2; have f3 := (HR.out.later e).frozen 3; have f4 := (HR.out.later e).frozen 4)
   obtain ⟨d0, d1, d2, d3, d4⟩ := cells5 (set5_blk (t := listT [numT 7, numT p.fl, numT k, eidT p.d, eidT p.s, eidT p.r, listT [numT p.t, numT p.q], numT p.l, numT p.o, numT p.n, strT sum]) (A := some ⟨g', 0, none⟩) (c := c') (HR.out.later e))
   clear c0 c1 c2 c3 c4 f0 f1 f2 f3 f4
   show bodyPost _ _ _ _ _ (set5 e.x (w.heap.size + 1) (listT [numT 7, numT p.fl, numT k, eidT p.d, eidT p.s, eidT p.r, listT [numT p.t, numT p.q], numT p.l, numT p.o, numT p.n, strT sum]) (some ⟨g', 0, none⟩) c')
   refine bodyPost_ret (v := itemV (listT [numT 7, numT p.fl, numT k, eidT p.d, eidT p.s, eidT p.r, listT [numT p.t, numT p.q], numT p.l, numT p.o, numT p.n, strT sum]) (some ⟨g', 0, none⟩) c') (by simp [results, Tryz.results115, go_sem, d0, d1, d2, d3, d4]) rfl ⟨some ⟨g', 0, none⟩, c', by rw [HLL.out], set5_mod (HE.out.trans e.h) (by omega), ?_⟩
   rw [HLL.out]
   refine ⟨?_, room_cap HO.out⟩
   refine IsL.weak (fun _ _ h => by have : w.heap.size + 2 ≤ _ := h; omega) _ (IsL.mod (Q := fun b => w.heap.size + 2 ≤ b) set5_modb (fun b hb _ hs => by rw [List.mem_singleton] at hs; have : w.heap.size + 2 ≤ b := hb; omega) _ ?_)
   exact list_IsL (base := w.heap.size + 2) (c := c') (by have := HLG.out; have := e.h.size; omega) (by have := HGG.out; have := HW8.out; omega) (ownsRow_mod HO.out e.h (fun _ _ => by simp)) (fun i hi => IsL.weak (fun b _ h => h.1) _ ((CH.out i hi).ext e.h))
 ·
  have a1 : bits .and .u64 (p.fl : Int) 1 = 0 := by have h := andP_no (k := 0) HFL.out (by omega) (by have : p.fl % 2 = 0 := (by omega); simpa using this); simpa using h
  have HX := hid hx
  clear hx
  go_upto_region 7 with fail
  have y1 : ∀ e : Later V8, e.x.cell? ⟨w.heap.size, 1, none⟩ = some (.int .i64 (k : Int)) := HB.out.cellL 1 (by show some (Value.int .i64 p.crc) = _; rw [HC.out])
  by_cases hk0 : k = 0
  ·
   have kka : (((k : Int)) == (0)) = true := by rw [beq_iff_eq]; omega
   have kkb : (((k : Int)) = (0)) = True := eq_true (by omega)
   have kkc : (((k : Int)) != (0)) = false := by rw [bne_eq_false_iff_eq]; omega
   have kza : decide (k = 0) = true := decide_eq_true (by omega)
   have kzb : (k = 0) = True := eq_true (by omega)
   have HK0 := hid hk0
   clear hk0
   go_upto_region 9 with fail
   have HLL : Hid (priT p k sum = listT [numT 7, numT p.fl, numT k, eidT p.d, eidT p.s, eidT p.r, listT [numT p.t, numT p.q], numT p.l]) := by unfold Hid priT priL; rw [if_neg HX.out, if_pos HK0.out]; rfl
   go_wp2_with (go_at_call 67; refine (ListV_any _ _ _ _).mono ?_; rintro x w3 ⟨rfl, hb3⟩; obtain ⟨e, rfl⟩ : ∃ e' : Later V8, w3 = e'.x := ⟨⟨w3, Mod.trans (by first | exact Later.h _ | exact (Later.h _).drew | exact (Later.h _).alloc _) hb3⟩, rfl⟩; obtain ⟨c0, c1, c2, c3, c4⟩ := cells5 (HR.out.later e); have f0 := (HR.out.later e).frozen 0; have f1 := (HR.out.later e).frozen 1; have f2 := (HR.out.later e).frozen 2; have f3 := (HR.out.later e).frozen 3; have f4 := (HR.out.later e).frozen 4)
   obtain ⟨d0, d1, d2, d3, d4⟩ := cells5 (set5_blk (t := listT [numT 7, numT p.fl, numT k, eidT p.d, eidT p.s, eidT p.r, listT [numT p.t, numT p.q], numT p.l]) (A := some ⟨g8, 0, none⟩) (c := 8) (HR.out.later e))
   clear c0 c1 c2 c3 c4 f0 f1 f2 f3 f4
   show bodyPost _ _ _ _ _ (set5 e.x (w.heap.size + 1) (listT [numT 7, numT p.fl, numT k, eidT p.d, eidT p.s, eidT p.r, listT [numT p.t, numT p.q], numT p.l]) (some ⟨g8, 0, none⟩) 8)
   refine bodyPost_ret (v := itemV (listT [numT 7, numT p.fl, numT k, eidT p.d, eidT p.s, eidT p.r, listT [numT p.t, numT p.q], numT p.l]) (some ⟨g8, 0, none⟩) 8) (by simp [results, Tryz.results115, go_sem, d0, d1, d2, d3, d4]) rfl ⟨some ⟨g8, 0, none⟩, 8, by rw [HLL.out], set5_mod (HE.out.trans e.h) (by omega), ?_⟩
   rw [HLL.out]
   refine ⟨?_, room_cap HO.out⟩
   refine IsL.weak (fun _ _ h => by have : w.heap.size + 2 ≤ _ := h; omega) _ (IsL.mod (Q := fun b => w.heap.size + 2 ≤ b) set5_modb (fun b hb _ hs => by rw [List.mem_singleton] at hs; have : w.heap.size + 2 ≤ b := hb; omega) _ ?_)
   exact list_IsL (base := w.heap.size + 2) (c := 8) (by have := HLG.out; have := e.h.size; omega) (by have := HGG.out; have := HW8.out; omega) (ownsRow_mod HO.out e.h (fun _ _ => by simp)) (fun i hi => IsL.weak (fun b _ h => h.1) _ ((CH.out i hi).ext e.h))
  ·
   have kka : (((k : Int)) == (0)) = false := by rw [beq_eq_false_iff_ne]; omega
   have kkb : (((k : Int)) = (0)) = False := eq_false (by omega)
   have kkc : (((k : Int)) != (0)) = true := by rw [bne_iff_ne]; omega
   have kza : decide (k = 0) = false := decide_eq_false (by omega)
   have kzb : (k = 0) = False := eq_false (by omega)
   have HK0 := hid hk0
   clear hk0
   have HOE : Hid (∀ e : Later V8, e.x.ownsRow (w.heap.size + 2) 52 5 (.slice (some ⟨g8, 0, none⟩) 8 8) 8 (flatC (chL [numT 7, numT p.fl, numT k, eidT p.d, eidT p.s, eidT p.r, listT [numT p.t, numT p.q], numT p.l]) (acL [(none, 0), (none, 0), (none, 0), (Ad, 2), (As, 2), (Ar, 2), (some ⟨g2, 0, none⟩, 2), (none, 0)]) 8)) := fun e => ownsRow_mod HO.out e.h (fun _ _ => by simp)
   obtain ⟨hi, hz0, hz1, hz2⟩ := HINF.out
   go_upto_region 9 with (first | (go_at_call 63; refine (StrV_any _ _).mono ?_; rintro x w3 ⟨rfl, hb3⟩; obtain ⟨e, rfl⟩ : ∃ e' : Later V8, w3 = e'.x := ⟨⟨w3, Mod.trans (by first | exact Later.h _ | exact (Later.h _).drew | exact (Later.h _).alloc _) hb3⟩, rfl⟩) | (at_builtin; refine wpList_append_lies _ rfl _ _ 50 (by rfl) (w.heap.size + 2) 52 i0 _ 5 64 Tryz.underlying50 hi hz0 hz1 hz2 (by rfl) (by decide) _ 8 _ (by rfl) ((HOE.out e).alloc _) ⟨e.x.heap.size, 0, none⟩ 1 1 [.int .i64 (strT sum).kind, .int .u64 ((strT sum).n : Int), str (strT sum).s, .slice none (strT sum).k 0, .bool (strT sum).op] (by rfl) (by rfl) (World.news_of_block (heap_alloc_new _ _)) (fun u hu => by simp only [List.mem_cons, List.not_mem_nil, or_false] at hu; rcases hu with h | h | h | h | h <;> (subst h; rfl)) (by decide) (by decide) (by decide) (by have := HW8.out; have := HLT8.out; have := e.h.size; simp; omega) (e.x.heap.size + 1) (by simp) ?_; intro g' c' w' hown hgrow hat hlt))
   clear hi hz0 hz1 hz2 HOE y1
   have hm : Mod [g8] V8 w' := Mod.grown (by first | exact (Mod.of_ext e.h).alloc _ | exact ((Mod.of_ext e.h).alloc _).drew | exact ((Mod.of_ext e.h).drew).alloc _) hgrow (fun b hb => by simp [Value.ownBlock] at hb; subst hb; exact .inl (by simp))
   have HGE : Hid (g8 ≤ g') := by
    have h1 := HGG.out
    have h2 := HLT8.out
    have h3 := e.h.size
    rcases hat with h | h
    · simp [Value.ownBlock] at h; unfold Hid; omega
    · unfold Hid; omega
   have HO : Hid (w'.ownsRow (w.heap.size + 2) 52 5 (.slice (some ⟨g', 0, none⟩) 9 c') 9 (flatC (chL [numT 7, numT p.fl, numT k, eidT p.d, eidT p.s, eidT p.r, listT [numT p.t, numT p.q], numT p.l, strT sum]) (acL [(none, 0), (none, 0), (none, 0), (Ad, 2), (As, 2), (Ar, 2), (some ⟨g2, 0, none⟩, 2), (none, 0), (none, 0)]) 9)) := hown
   have HE : Hid (Ext w w') := (HE.out.of_ext.trans hm).new (fun b hb => .inr (by rw [List.mem_singleton] at hb; subst hb; have := HGG.out; have := HW8.out; omega))
   have HB : Hid (Blk w' w.heap.size 26 p.c) := HB.out.mod hm (by have := HGG.out; have := HW8.out; simp; omega)
   have HR : Hid (Blk w' (w.heap.size + 1) 52 (itemC (numT 0) none 0)) := HR.out.mod hm (by have := HGG.out; have := HW8.out; simp; omega)
   have CH : Hid (∀ i, i < 9 → IsL w' (fun b => w.heap.size + 2 ≤ b ∧ b < g8) (chL [numT 7, numT p.fl, numT k, eidT p.d, eidT p.s, eidT p.r, listT [numT p.t, numT p.q], numT p.l, strT sum] i) (acL [(none, 0), (none, 0), (none, 0), (Ad, 2), (As, 2), (Ar, 2), (some ⟨g2, 0, none⟩, 2), (none, 0), (none, 0)] i).1) := fun i hi => by
    by_cases h : i < 8
    ·
     have q := IsL.mod hm (fun b hb _ hs => by rw [List.mem_singleton] at hs; subst hs; have := HGG.out; have := hb.2; omega) _ (CH.out i h)
     match i, h with
     | 0, _ => exact q
     | 1, _ => exact q
     | 2, _ => exact q
     | 3, _ => exact q
     | 4, _ => exact q
     | 5, _ => exact q
     | 6, _ => exact q
     | 7, _ => exact q
    ·
     obtain ⟨j, rfl⟩ : ∃ j, i = 8 + j := ⟨i - 8, by omega⟩
     match j, hi with
     | 0, _ => exact str_IsL
     | j + 1, h => exact absurd h (by omega)
   have HLT8 : Hid (g8 < w'.heap.size) := by have := hm.size; have := HLT8.out; unfold Hid; omega
   have HLG := hid hlt
   clear hown hgrow hat hlt hm HGG
   have HGG := HGE
   clear HGE
   obtain ⟨e, he⟩ := Later.self w'
   rw [he]
   clear he
   have HLL : Hid (priT p k sum = listT [numT 7, numT p.fl, numT k, eidT p.d, eidT p.s, eidT p.r, listT [numT p.t, numT p.q], numT p.l, strT sum]) := by unfold Hid priT priL; rw [if_neg HX.out, if_neg HK0.out]; rfl
   go_wp2_with (go_at_call 67; refine (ListV_any _ _ _ _).mono ?_; rintro x w3 ⟨rfl, hb3⟩; obtain ⟨e, rfl⟩ : ∃ e' : Later w', w3 = e'.x := ⟨⟨w3, Mod.trans (by first | exact Later.h _ | exact (Later.h _).drew | exact (Later.h _).alloc _) hb3⟩, rfl⟩; obtain ⟨c0, c1, c2, c3, c4⟩ := cells5 (HR.out.later e); have f0 := (HR.out.later e).frozen 0; have f1 := (HR.out.later e).frozen 1; have f2 := (HR.out.later e).frozen 2; have f3 := (HR.out.later e).frozen 3; have f4 := (HR.out.later e).frozen 4)
   obtain ⟨d0, d1, d2, d3, d4⟩ := cells5 (set5_blk (t := listT [numT 7, numT p.fl, numT k, eidT p.d, eidT p.s, eidT p.r, listT [numT p.t, numT p.q], numT p.l, strT sum]) (A := some ⟨g', 0, none⟩) (c := c') (HR.out.later e))
   clear c0 c1 c2 c3 c4 f0 f1 f2 f3 f4
   show bodyPost _ _ _ _ _ (set5 e.x (w.heap.size + 1) (listT [numT 7, numT p.fl, numT k, eidT p.d, eidT p.s, eidT p.r, listT [numT p.t, numT p.q], numT p.l, strT sum]) (some ⟨g', 0, none⟩) c')
   refine bodyPost_ret (v := itemV (listT [numT 7, numT p.fl, numT k, eidT p.d, eidT p.s, eidT p.r, listT [numT p.t, numT p.q], numT p.l, strT sum]) (some ⟨g', 0, none⟩) c') (by simp [results, Tryz.results115, go_sem, d0, d1, d2, d3, d4]) rfl ⟨some ⟨g', 0, none⟩, c', by rw [HLL.out], set5_mod (HE.out.trans e.h) (by omega), ?_⟩
   rw [HLL.out]
   refine ⟨?_, room_cap HO.out⟩
   refine IsL.weak (fun _ _ h => by have : w.heap.size + 2 ≤ _ := h; omega) _ (IsL.mod (Q := fun b => w.heap.size + 2 ≤ b) set5_modb (fun b hb _ hs => by rw [List.mem_singleton] at hs; have : w.heap.size + 2 ≤ b := hb; omega) _ ?_)
   exact list_IsL (base := w.heap.size + 2) (c := c') (by have := HLG.out; have := e.h.size; omega) (by have := HGG.out; have := HW8.out; omega) (ownsRow_mod HO.out e.h (fun _ _ => by simp)) (fun i hi => IsL.weak (fun b _ h => h.1) _ ((CH.out i hi).ext e.h))
end Go.Proofs.YtfgipgpbjfhflaaGreat


namespace Go.Proofs.YtfgipgpbjfhflaaGreat
open Go.RowKit
set_option linter.unusedVariables false
set_option linter.unusedSimpArgs false

set_option maxHeartbeats 800000 in
theorem CloneI_any {Q : Nat → Prop} {kind : Int} {n : Nat} {s : List UInt8} {op : Bool} (ch : Nat → T) (k : Nat) (hk : Hid (0 < k ∧ k ≤ 1000)) (A : Option Addr) (c : Nat) (w : World) (h : IsL w Q (T.mk kind n s op k ch) A) :
  Calls Tryz.prog 62 #[.slice A k c] w (fun e w' => ∃ (g c' : Nat) (ac : Nat → Option Addr × Nat), e = .returned (.slice (some ⟨g, 0, none⟩) k c') ∧ Ext w w' ∧ w.heap.size ≤ g ∧ g < w'.heap.size ∧ w'.ownsRow w.heap.size 52 5 (.slice (some ⟨g, 0, none⟩) k c') k (flatC ch ac k) ∧ ∀ i, i < k → IsL w' Q (ch i) (ac i).1) := by
 have he := Lib.run_eql_slice_nil (P := Tryz.prog)
 obtain ⟨i0, hi, hz0, hz1, hz2⟩ := info_parts infoItem
 obtain ⟨b, o, ac, rfl, hb, hq, hc⟩ := h.rows hk.out.1
 have hl := World.ownsRow_lit (base := w.heap.size) (e := 52) (size := 5) w #[] 0 (Nat.le_refl _) (Nat.zero_le _) rfl
 have hnews : Hid (∀ j u, (flatC ch ac k)[j]? = some u → (w.alloc (.cells #[] 52)).cell? ((⟨b, o, none⟩ : Addr).add j) = some u) := flatC_news fun i hi => (hc i hi).1.mod (S := []) ((Mod.refl _ _).alloc _) hb (by simp)
 have hfl := hid (flatC_length ch ac k)
 have hfc := hid (flatC_one ch ac k)
 have HC := hid hc
 clear hc h
 go_enter Tryz.func62, Tryz.ntmps62
 go_wp2_with (at_builtin; refine wpList_append_own _ rfl _ _ 50 rfl w.heap.size 52 i0 _ 5 64 Tryz.underlying50 hi hz0 hz1 hz2 rfl (by decide) _ _ _ rfl hl ⟨b, o, none⟩ k c (flatC ch ac k) rfl hfl.out hnews.out hfc.out (by have := hk.out; unfold maxLen; omega) (by have := hk.out; omega) (by simp) ?_; intro v' w1 hown' hgrow hnil)
 have hg2 : (w.alloc (.cells #[] 52)).grownBy w1 (some w.heap.size) := hgrow
 have hm : Ext w w1 := ((Mod.refl [] w).alloc (.cells #[] 52)).grown hg2 (fun k hk => .inr (by cases hk; exact Nat.le_refl _))
 have hown2 : w1.ownsRow w.heap.size 52 5 v' k (flatC ch ac k) := by simpa using hown'
 obtain ⟨m, rfl⟩ : ∃ m, k = m + 1 := ⟨k - 1, by have := hk.out.1; omega⟩
 obtain ⟨g, c', rfl, hg, hlt⟩ := own_form hown2
 go_wp2
 go_ret
 exact ⟨g, c', rfl, hm, hg, hlt, ac, hown2, fun i hi => (HC.out i hi).2.ext hm⟩

end Go.Proofs.YtfgipgpbjfhflaaGreat


namespace Go.Proofs.YtfgipgpbjfhflaaGreat
open Go.RowKit
set_option linter.unusedVariables false
set_option linter.unusedSimpArgs false

theorem cell_row8 (w : World) (l : List UInt8) (cap t : Nat) (fz : Nat × Nat) (j : Nat) (h : j < l.length) :
  (w.alloc (.cells (bytesRow ⟨l.toArray⟩ cap) t fz)).cell? ⟨w.heap.size, j, none⟩ = some (.int .u8 (l[j].toNat : Int)) := by
 rw [World.cell?_alloc_mark]
 simp only [bytesRow]
 rw [Array.getElem?_append_left (by simpa using h)]
 simp [h]
theorem Crc.stepC_lt {p s m : Nat} (hp : p < 2 ^ m) (hs : s < 2 ^ m) : Crc.stepC p s < 2 ^ m := by
 unfold Crc.stepC
 split
 · exact Nat.xor_lt_two_pow (by omega) hp
 · omega
theorem Crc.stepsC_lt {p m : Nat} (hp : p < 2 ^ m) : ∀ (k s : Nat), s < 2 ^ m → Crc.stepsC p k s < 2 ^ m
 | 0, s, h => h
 | k + 1, s, h => Crc.stepsC_lt hp k _ (Crc.stepC_lt hp h)
theorem Crc.divC_lt {p m : Nat} (hp : p < 2 ^ m) : ∀ (l : List UInt8) (s : Nat), s < 2 ^ m → 8 ≤ m → Crc.divC p s l < 2 ^ m
 | [], s, h, _ => h
 | c :: l, s, h, h8 => by
  have hc : c.toNat < 2 ^ m := Nat.lt_of_lt_of_le c.toNat_lt (Nat.pow_le_pow_right (by omega) h8)
  have := Crc.divC_lt hp l (Crc.stepsC p 8 (s ^^^ c.toNat)) (Crc.stepsC_lt hp 8 _ (Nat.xor_lt_two_pow h hc)) h8
  exact this

theorem and1_16 {s : Nat} (hs : s < 65536) : bits .and .u16 (s : Int) 1 = ((s % 2 : Nat) : Int) := by
 have := u16_and_nat s 1 hs (by omega)
 rw [Nat.and_one_is_mod] at this
 exact this
theorem xor_16 {s c : Nat} (hs : s < 65536) (hc : c < 65536) : bits .xor .u16 (s : Int) (c : Int) = ((s ^^^ c : Nat) : Int) := u16_xor_nat s c hs hc

set_option maxHeartbeats 400000 in
theorem divide16 (p s : Nat) (hp : Hid (p < 65536)) (hs : Hid (s < 65536)) (l : List UInt8) (hl : Hid (l.length < 1000000)) (w : World) :
  Calls Tryz.prog 136 #[.int .u16 (s : Int), .int .u16 (p : Int), str l] w (Ret (.int .u16 (Crc.divC p s l : Nat)) w) := by
 have hconv := fun (w : World) (s : ByteArray) => run_bytes_of_string (P := Tryz.prog) w 9 77 5 s Tryz.underlying9 Tryz.underlying77 Tryz.underlying5
 obtain ⟨T, hT⟩ : ∃ T, T = Crc.divC p s l := ⟨_, rfl⟩
 rw [← hT]
 have HT := hid hT; clear hT
 go_enter Tryz.func136, Tryz.ntmps136
 go_wp2
 have hext : Ext w (w.alloc (Obj.cells (bytesRow { data := l.toArray } (grownCap w l.length 0 5)) 5 ((bytesRow { data := l.toArray } (grownCap w l.length 0 5)).size, (bytesRow { data := l.toArray } (grownCap w l.length 0 5)).size + 1))).drew := ((Mod.refl _ _).alloc _).drew
 have hcell : ∀ j (h : j < l.length), (w.alloc (Obj.cells (bytesRow { data := l.toArray } (grownCap w l.length 0 5)) 5 ((bytesRow { data := l.toArray } (grownCap w l.length 0 5)).size, (bytesRow { data := l.toArray } (grownCap w l.length 0 5)).size + 1))).drew.cell? ⟨w.heap.size, j, none⟩ = some (.int .u8 (l[j].toNat : Int)) := fun j h => by rw [World.cell?_drew]; exact cell_row8 w l _ _ _ j h
 generalize hW : World.drew (World.alloc w _) = W at *
 have HW := hid hW; clear hW
 have HC := hid hcell; clear hcell
 have HL := hid hl.out
 go_loop [0, 12] (fun n i => ∃ j c : Nat, j ≤ l.length ∧ c < 65536 ∧ i = .int .i64 j ∧ n = .int .u16 (c : Int) ∧ Hid (T = Crc.divC p c (l.drop j))) (fun _ i => l.length - (intOf i).toNat)
 case atStart => exact ⟨0, s, Nat.zero_le _, hs.out, rfl, rfl, HT⟩
 case round =>
  obtain ⟨j, c, hj, hc, rfl, rfl, HR⟩ := hrel
  by_cases hlt : j < l.length
  ·
   have hcc := HC.out j hlt
   generalize hx : l[j] = x at *
   have HX := hid hx; clear hx
   have hx8 := x.toNat_lt
   have tx : IntKind.u16.wrap (x.toNat : Int) = (x.toNat : Int) := IntWalk.u16_in _ (by omega)
   have t2 := xor_16 (s := c) (c := x.toNat) hc (by omega)
   have hcx : c ^^^ x.toNat < 65536 := Nat.xor_lt_two_pow (n := 16) hc (by omega)
   have HS : Hid (T = Crc.divC p (Crc.stepsC p 8 (c ^^^ x.toNat)) (l.drop (j + 1))) := by
    have h1 := HR.out
    rw [List.drop_eq_getElem_cons hlt, HX.out] at h1
    exact h1
   clear HR
   go_wp2
   generalize c ^^^ x.toNat = y at *
   go_loop [0, 20] (fun n i => ∃ k c : Nat, k ≤ 8 ∧ c < 65536 ∧ i = .int .i64 k ∧ n = .int .u16 (c : Int) ∧ Hid (Crc.stepsC p (8 - k) c = Crc.stepsC p 8 y)) (fun _ i => 8 - (intOf i).toNat)
   case atStart => exact ⟨0, y, by omega, hcx, rfl, rfl, rfl⟩
   case round =>
    obtain ⟨k, c, hk, hc, rfl, rfl, HR⟩ := hrel
    by_cases hlt : k < 8
    ·
     have tA := and1_16 hc
     have HN : Hid (Crc.stepsC p (8 - (k + 1)) (Crc.stepC p c) = Crc.stepsC p 8 y) := by
      have h1 := HR.out
      rw [show 8 - k = (8 - (k + 1)) + 1 by omega] at h1
      exact h1
     have hL := Crc.stepC_lt (m := 16) hp.out hc
     clear HR
     rcases Nat.mod_two_eq_zero_or_one c with e | e
     ·
      have hS : Crc.stepC p c = c / 2 := by unfold Crc.stepC; rw [if_neg (by omega)]
      rw [hS] at HN hL
      rw [e] at tA
      go_wp2
      go_round
      case rel => exact ⟨k + 1, c / 2, by omega, hL, by go_num, by simp, HN⟩
      case measure => simp [intOf]; omega
     ·
      have hS : Crc.stepC p c = c / 2 ^^^ p := by unfold Crc.stepC; rw [if_pos e]
      have tX := xor_16 (s := c / 2) (c := p) (by omega) hp.out
      rw [hS] at HN hL
      rw [e] at tA
      go_wp2
      go_round
      case rel => exact ⟨k + 1, c / 2 ^^^ p, by omega, hL, by go_num, by rw [← tX]; simp, HN⟩
      case measure => simp [intOf]; omega
    ·
     obtain rfl : k = 8 := by omega
     have h1 : c = Crc.stepsC p 8 y := HR.out
     have hl2 : l.length < 1000000 := hl.out
     subst h1
     clear HR
     go_wp2
     go_round
     case rel => exact ⟨j + 1, _, by omega, hc, by go_num, rfl, HS⟩
     case measure => simp [intOf]; omega
  ·
   obtain rfl : j = l.length := by omega
   have h1 := HR.out
   rw [List.drop_length] at h1
   have h2 : T = c := h1
   subst h2
   clear HR h1
   go_wp2
   go_ret
   exact ⟨rfl, hext⟩

theorem and1_32 {s : Nat} (hs : s < 4294967296) : bits .and .u32 (s : Int) 1 = ((s % 2 : Nat) : Int) := by
 have := u32_and_nat s 1 hs (by omega)
 rw [Nat.and_one_is_mod] at this
 exact this
theorem xor_32 {s c : Nat} (hs : s < 4294967296) (hc : c < 4294967296) : bits .xor .u32 (s : Int) (c : Int) = ((s ^^^ c : Nat) : Int) := u32_xor_nat s c hs hc

set_option maxHeartbeats 400000 in
theorem divide32 (p s : Nat) (hp : Hid (p < 4294967296)) (hs : Hid (s < 4294967296)) (l : List UInt8) (hl : Hid (l.length < 1000000)) (w : World) :
  Calls Tryz.prog 137 #[.int .u32 (s : Int), .int .u32 (p : Int), str l] w (Ret (.int .u32 (Crc.divC p s l : Nat)) w) := by
 have hconv := fun (w : World) (s : ByteArray) => run_bytes_of_string (P := Tryz.prog) w 9 77 5 s Tryz.underlying9 Tryz.underlying77 Tryz.underlying5
 obtain ⟨T, hT⟩ : ∃ T, T = Crc.divC p s l := ⟨_, rfl⟩
 rw [← hT]
 have HT := hid hT; clear hT
 go_enter Tryz.func137, Tryz.ntmps137
 go_wp2
 have hext : Ext w (w.alloc (Obj.cells (bytesRow { data := l.toArray } (grownCap w l.length 0 5)) 5 ((bytesRow { data := l.toArray } (grownCap w l.length 0 5)).size, (bytesRow { data := l.toArray } (grownCap w l.length 0 5)).size + 1))).drew := ((Mod.refl _ _).alloc _).drew
 have hcell : ∀ j (h : j < l.length), (w.alloc (Obj.cells (bytesRow { data := l.toArray } (grownCap w l.length 0 5)) 5 ((bytesRow { data := l.toArray } (grownCap w l.length 0 5)).size, (bytesRow { data := l.toArray } (grownCap w l.length 0 5)).size + 1))).drew.cell? ⟨w.heap.size, j, none⟩ = some (.int .u8 (l[j].toNat : Int)) := fun j h => by rw [World.cell?_drew]; exact cell_row8 w l _ _ _ j h
 generalize hW : World.drew (World.alloc w _) = W at *
 have HW := hid hW; clear hW
 have HC := hid hcell; clear hcell
 have HL := hid hl.out
 go_loop [0, 12] (fun n i => ∃ j c : Nat, j ≤ l.length ∧ c < 4294967296 ∧ i = .int .i64 j ∧ n = .int .u32 (c : Int) ∧ Hid (T = Crc.divC p c (l.drop j))) (fun _ i => l.length - (intOf i).toNat)
 case atStart => exact ⟨0, s, Nat.zero_le _, hs.out, rfl, rfl, HT⟩
 case round =>
  obtain ⟨j, c, hj, hc, rfl, rfl, HR⟩ := hrel
  by_cases hlt : j < l.length
  ·
   have hcc := HC.out j hlt
   generalize hx : l[j] = x at *
   have HX := hid hx; clear hx
   have hx8 := x.toNat_lt
   have tx : IntKind.u32.wrap (x.toNat : Int) = (x.toNat : Int) := IntWalk.u32_in _ (by omega)
   have t2 := xor_32 (s := c) (c := x.toNat) hc (by omega)
   have hcx : c ^^^ x.toNat < 4294967296 := Nat.xor_lt_two_pow (n := 32) hc (by omega)
   have HS : Hid (T = Crc.divC p (Crc.stepsC p 8 (c ^^^ x.toNat)) (l.drop (j + 1))) := by
    have h1 := HR.out
    rw [List.drop_eq_getElem_cons hlt, HX.out] at h1
    exact h1
   clear HR
   go_wp2
   generalize c ^^^ x.toNat = y at *
   go_loop [0, 20] (fun n i => ∃ k c : Nat, k ≤ 8 ∧ c < 4294967296 ∧ i = .int .i64 k ∧ n = .int .u32 (c : Int) ∧ Hid (Crc.stepsC p (8 - k) c = Crc.stepsC p 8 y)) (fun _ i => 8 - (intOf i).toNat)
   case atStart => exact ⟨0, y, by omega, hcx, rfl, rfl, rfl⟩
   case round =>
    obtain ⟨k, c, hk, hc, rfl, rfl, HR⟩ := hrel
    by_cases hlt : k < 8
    ·
     have tA := and1_32 hc
     have HN : Hid (Crc.stepsC p (8 - (k + 1)) (Crc.stepC p c) = Crc.stepsC p 8 y) := by
      have h1 := HR.out
      rw [show 8 - k = (8 - (k + 1)) + 1 by omega] at h1
      exact h1
     have hL := Crc.stepC_lt (m := 32) hp.out hc
     clear HR
     rcases Nat.mod_two_eq_zero_or_one c with e | e
     ·
      have hS : Crc.stepC p c = c / 2 := by unfold Crc.stepC; rw [if_neg (by omega)]
      rw [hS] at HN hL
      rw [e] at tA
      go_wp2
      go_round
      case rel => exact ⟨k + 1, c / 2, by omega, hL, by go_num, by simp, HN⟩
      case measure => simp [intOf]; omega
     ·
      have hS : Crc.stepC p c = c / 2 ^^^ p := by unfold Crc.stepC; rw [if_pos e]
      have tX := xor_32 (s := c / 2) (c := p) (by omega) hp.out
      rw [hS] at HN hL
      rw [e] at tA
      go_wp2
      go_round
      case rel => exact ⟨k + 1, c / 2 ^^^ p, by omega, hL, by go_num, by rw [← tX]; simp, HN⟩
      case measure => simp [intOf]; omega
    ·
     obtain rfl : k = 8 := by omega
     have h1 : c = Crc.stepsC p 8 y := HR.out
     have hl2 : l.length < 1000000 := hl.out
     subst h1
     clear HR
     go_wp2
     go_round
     case rel => exact ⟨j + 1, _, by omega, hc, by go_num, rfl, HS⟩
     case measure => simp [intOf]; omega
  ·
   obtain rfl : j = l.length := by omega
   have h1 := HR.out
   rw [List.drop_length] at h1
   have h2 : T = c := h1
   subst h2
   clear HR h1
   go_wp2
   go_ret
   exact ⟨rfl, hext⟩
end Go.Proofs.YtfgipgpbjfhflaaGreat


namespace Go.Proofs.YtfgipgpbjfhflaaGreat
open Go.RowKit
set_option linter.unusedVariables false
set_option linter.unusedSimpArgs false

def Crc.x25 (l : List UInt8) : Nat := 65535 - Crc.divC 33800 65535 l
def Crc.cast (l : List UInt8) : Nat := 4294967295 - Crc.divC 2197175160 4294967295 l
def Crc.sumL (kind : Nat) (l : List UInt8) : List UInt8 := if kind = 1 then be (Crc.x25 l) 2 else if kind = 2 then be (Crc.cast l) 4 else []

theorem Size_any (k : Nat) (hk : k ≤ 2) (w : World) : Calls Tryz.prog 105 #[.int .i64 (k : Int)] w (Ret (.int .i64 ((2 * k : Nat) : Int)) w) := by
 go_enter Tryz.func105, Tryz.ntmps105
 go_wp2
 go_ret
 exact Ret.mk (by simp) (Mod.refl _ _)

theorem X25_any (l : List UInt8) (hl : Hid (l.length < 1000000)) (w : World) : Calls Tryz.prog 125 #[str l] w (Ret (.int .u16 (Crc.x25 l : Nat)) w) := by
 have hd : Crc.divC 33800 65535 l < 65536 := Crc.divC_lt (m := 16) (by decide) l 65535 (by decide) (by decide)
 have tx : bits .xor .u16 IntKind.u16.max (Crc.divC 33800 65535 l : Int) = ((65535 - Crc.divC 33800 65535 l : Nat) : Int) := by
  rw [Crc.not_xor (n := 16) hd]
  exact u16_xor_nat 65535 _ (by decide) hd
 have K := hid (fun W => divide16 33800 65535 (by unfold Hid; decide) (by unfold Hid; decide) l hl W)
 unfold Crc.x25
 generalize Crc.divC 33800 65535 l = d at *
 go_enter Tryz.func125, Tryz.ntmps125
 go_wp2_with fail
 refine (K.out _).mono ?_
 rintro e w1 ⟨rfl, hb1⟩
 go_wp2_with fail
 go_ret
 exact Ret.mk (by simp) hb1
theorem Castagnoli_any (l : List UInt8) (hl : Hid (l.length < 1000000)) (w : World) : Calls Tryz.prog 126 #[str l] w (Ret (.int .u32 (Crc.cast l : Nat)) w) := by
 have hd : Crc.divC 2197175160 4294967295 l < 4294967296 := Crc.divC_lt (m := 32) (by decide) l 4294967295 (by decide) (by decide)
 have tx : bits .xor .u32 IntKind.u32.max (Crc.divC 2197175160 4294967295 l : Int) = ((4294967295 - Crc.divC 2197175160 4294967295 l : Nat) : Int) := by
  rw [Crc.not_xor (n := 32) hd]
  exact u32_xor_nat 4294967295 _ (by decide) hd
 have K := hid (fun W => divide32 2197175160 4294967295 (by unfold Hid; decide) (by unfold Hid; decide) l hl W)
 unfold Crc.cast
 generalize Crc.divC 2197175160 4294967295 l = d at *
 go_enter Tryz.func126, Tryz.ntmps126
 go_wp2_with fail
 refine (K.out _).mono ?_
 rintro e w1 ⟨rfl, hb1⟩
 go_wp2_with fail
 go_ret
 exact Ret.mk (by simp) hb1
theorem be2 {n : Nat} (h : n < 65536) : be n 2 = [b8 (n / 256), b8 (n % 256)] := by
 have e : n / 256 % 256 = n / 256 := by omega
 rw [be_succ, be_succ, be_zero]
 simp [e]
theorem be4 {n : Nat} (h : n < 4294967296) : be n 4 = [b8 (n / 16777216), b8 (n / 65536 % 256), b8 (n / 256 % 256), b8 (n % 256)] := by
 have e : n / 16777216 % 256 = n / 16777216 := by omega
 rw [be_succ, be_succ, be_succ, be_succ, be_zero]
 simp [e]
theorem b8_cast {n : Nat} (h : n < 256) : ((b8 n).toNat : Int) = (n : Int) := by
 simp [b8]
 omega
/-- Bytes laid in a new block, as a string. -/
theorem conv_new (l : List UInt8) (c : Nat) (W : World) : (convert 77 9 (.slice (some ⟨W.heap.size, 0, none⟩) l.length c)).run Tryz.prog (W.alloc (.cells (l.map fun b => Value.int .u8 (b.toNat : Int)).toArray 5)) = .ok (str l) (W.alloc (.cells (l.map fun b => Value.int .u8 (b.toNat : Int)).toArray 5)) := by
 refine run_convert_bytes_back (P := Tryz.prog) _ 77 9 5 _ c l Tryz.underlying77 Tryz.underlying5 Tryz.underlying9 (fun j hj => ?_)
 rw [addr_add, Nat.zero_add, (Blk.new W 5 _).cell j]
 simp [hj]
theorem Sum_1 (l : List UInt8) (hl : Hid (l.length < 1000000)) (w : World) : Calls Tryz.prog 102 #[.int .i64 1, str l] w (Ret (str (be (Crc.x25 l) 2)) w) := by
 have hd : Crc.x25 l < 65536 := by unfold Crc.x25; omega
 have K := hid (fun W => X25_any l hl W)
 generalize Crc.x25 l = d at *
 have hcv : ∀ W : World, (convert 77 9 (.slice (some ⟨W.heap.size, 0, none⟩) 2 2)).run Tryz.prog (W.alloc (.cells #[.int .u8 ((d : Int) / 256), .int .u8 ((d : Int) % 256)] 5)) = .ok (str (be d 2)) (W.alloc (.cells #[.int .u8 ((d : Int) / 256), .int .u8 ((d : Int) % 256)] 5)) := fun W => by
  have := conv_new (be d 2) 2 W
  rw [be_length, be2 hd] at this
  simpa [b8_cast (show d / 256 < 256 by omega), b8_cast (show d % 256 < 256 by omega), be2 hd] using this
 go_enter Tryz.func102, Tryz.ntmps102
 go_wp2_with fail
 refine (K.out _).mono ?_
 rintro e w1 ⟨rfl, hb1⟩
 go_wp2_with fail
 go_ret
 exact Ret.mk rfl (hb1.alloc _)
theorem Sum_2 (l : List UInt8) (hl : Hid (l.length < 1000000)) (w : World) : Calls Tryz.prog 102 #[.int .i64 2, str l] w (Ret (str (be (Crc.cast l) 4)) w) := by
 have hd : Crc.cast l < 4294967296 := by unfold Crc.cast; omega
 have K := hid (fun W => Castagnoli_any l hl W)
 generalize Crc.cast l = d at *
 have hcv : ∀ W : World, (convert 77 9 (.slice (some ⟨W.heap.size, 0, none⟩) 4 4)).run Tryz.prog (W.alloc (.cells #[.int .u8 ((d : Int) / 16777216), .int .u8 ((d : Int) / 65536 % 256), .int .u8 ((d : Int) / 256 % 256), .int .u8 ((d : Int) % 256)] 5)) = .ok (str (be d 4)) (W.alloc (.cells #[.int .u8 ((d : Int) / 16777216), .int .u8 ((d : Int) / 65536 % 256), .int .u8 ((d : Int) / 256 % 256), .int .u8 ((d : Int) % 256)] 5)) := fun W => by
  have := conv_new (be d 4) 4 W
  rw [be_length, be4 hd] at this
  simpa [b8_cast (show d / 16777216 < 256 by omega), b8_cast (show d / 65536 % 256 < 256 by omega), b8_cast (show d / 256 % 256 < 256 by omega), b8_cast (show d % 256 < 256 by omega), be4 hd] using this
 go_enter Tryz.func102, Tryz.ntmps102
 go_wp2_with fail
 refine (K.out _).mono ?_
 rintro e w1 ⟨rfl, hb1⟩
 go_wp2_with fail
 go_ret
 exact Ret.mk rfl (hb1.alloc _)
theorem Sum_any (k : Nat) (h1 : 1 ≤ k) (h2 : k ≤ 2) (l : List UInt8) (hl : Hid (l.length < 1000000)) (w : World) : Calls Tryz.prog 102 #[.int .i64 (k : Int), str l] w (Ret (str (Crc.sumL k l)) w) := by
 have : k = 1 ∨ k = 2 := by omega
 rcases this with rfl | rfl
 · exact Sum_1 l hl w
 · exact Sum_2 l hl w
theorem Crc.sumL_length {k : Nat} (h1 : 1 ≤ k) (h2 : k ≤ 2) (l : List UInt8) : (Crc.sumL k l).length = 2 * k := by
 have : k = 1 ∨ k = 2 := by omega
 rcases this with rfl | rfl
 · exact be_length _ _
 · exact be_length _ _
end Go.Proofs.YtfgipgpbjfhflaaGreat


namespace Go.Proofs.YtfgipgpbjfhflaaGreat
open Go.RowKit
set_option linter.unusedVariables false
set_option linter.unusedSimpArgs false

def layRep_ren : Shelf.Ren where
 f := fun x => match x with
  | 105 => 64
  | 212 => 95
  | 99 => 96
  | 165 => 97
  | 166 => 98
  | 170 => 99
  | 169 => 100
  | 263 => 120
  | 264 => 121
  | 206 => 122
  | 240 => 123
  | 241 => 124
  | 276 => 134
  | 277 => 135
  | n => n
 t := fun x => match x with
  | 9 => 9
  | 3 => 3
  | 4 => 4
  | 20 => 20
  | 0 => 0
  | 46 => 121
  | 109 => 132
  | 5 => 5
  | 72 => 137
  | 76 => 141
  | 51 => 159
  | 146 => 160
  | 53 => 22
  | 148 => 162
  | 70 => 135
  | 37 => 77
  | 75 => 140
  | 127 => 164
  | 164 => 175
  | 80 => 143
  | n => n
 g := fun n => n
theorem layRep : Lays.n105 Tryz.prog layRep_ren where
 mixed := by kernel_rfl
 f105 := Tryz.func64.trans (by kernel_rfl)
 f212 := Tryz.func95.trans (by kernel_rfl)
 f99 := Tryz.func96.trans (by kernel_rfl)
 f165 := Tryz.func97.trans (by kernel_rfl)
 f166 := Tryz.func98.trans (by kernel_rfl)
 f170 := Tryz.func99.trans (by kernel_rfl)
 f169 := Tryz.func100.trans (by kernel_rfl)
 f263 := Tryz.func120.trans (by kernel_rfl)
 f264 := Tryz.func121.trans (by kernel_rfl)
 f206 := Tryz.func122.trans (by kernel_rfl)
 f240 := Tryz.func123.trans (by kernel_rfl)
 f241 := Tryz.func124.trans (by kernel_rfl)
 f276 := Tryz.func134.trans (by kernel_rfl)
 f277 := Tryz.func135.trans (by kernel_rfl)
 t9 := Tryz.underlying9
 a9 := Tryz.isAgg9
 z9 := Tryz.sizeOf9
 v9 := Tryz.zeroValue9
 t3 := Tryz.underlying3
 a3 := Tryz.isAgg3
 z3 := Tryz.sizeOf3
 v3 := Tryz.zeroValue3
 t4 := Tryz.underlying4
 a4 := Tryz.isAgg4
 z4 := Tryz.sizeOf4
 v4 := Tryz.zeroValue4
 t20 := Tryz.underlying20
 a20 := Tryz.isAgg20
 z20 := Tryz.sizeOf20
 v20 := Tryz.zeroValue20
 t0 := Tryz.underlying0
 a0 := Tryz.isAgg0
 z0 := Tryz.sizeOf0
 v0 := Tryz.zeroValue0
 t46 := Tryz.underlying121
 a46 := Tryz.isAgg121
 z46 := Tryz.sizeOf121
 v46 := Tryz.zeroValue121
 t109 := Tryz.underlying132
 a109 := Tryz.isAgg132
 z109 := Tryz.sizeOf132
 v109 := Tryz.zeroValue132
 t5 := Tryz.underlying5
 a5 := Tryz.isAgg5
 z5 := Tryz.sizeOf5
 v5 := Tryz.zeroValue5
 t72 := Tryz.underlying137
 a72 := Tryz.isAgg137
 z72 := Tryz.sizeOf137
 v72 := Tryz.zeroValue137
 t76 := Tryz.underlying141
 a76 := Tryz.isAgg141
 z76 := Tryz.sizeOf141
 v76 := Tryz.zeroValue141
 t51 := Tryz.underlying159
 a51 := Tryz.isAgg159
 z51 := Tryz.sizeOf159
 v51 := Tryz.zeroValue159
 t146 := Tryz.underlying160
 a146 := Tryz.isAgg160
 z146 := Tryz.sizeOf160
 v146 := Tryz.zeroValue160
 t53 := Tryz.underlying22
 a53 := Tryz.isAgg22
 z53 := Tryz.sizeOf22
 v53 := Tryz.zeroValue22
 t148 := Tryz.underlying162
 a148 := Tryz.isAgg162
 z148 := Tryz.sizeOf162
 v148 := Tryz.zeroValue162
 t70 := Tryz.underlying135
 a70 := Tryz.isAgg135
 z70 := Tryz.sizeOf135
 v70 := Tryz.zeroValue135
 t37 := Tryz.underlying77
 a37 := Tryz.isAgg77
 z37 := Tryz.sizeOf77
 v37 := Tryz.zeroValue77
 t75 := Tryz.underlying140
 a75 := Tryz.isAgg140
 z75 := Tryz.sizeOf140
 v75 := Tryz.zeroValue140
 t127 := Tryz.underlying164
 a127 := Tryz.isAgg164
 z127 := Tryz.sizeOf164
 v127 := Tryz.zeroValue164
 t164 := Tryz.underlying175
 a164 := Tryz.isAgg175
 z164 := Tryz.sizeOf175
 v164 := Tryz.zeroValue175
theorem layRepX : Builder.Extra Tryz.prog layRep_ren where
 sizeBuilder := by kernel_rfl
 liesBuilder := by kernel_rfl
 t5 := Tryz.underlying5
 a5 := Tryz.isAgg5
 z5 := Tryz.sizeOf5
 v5 := Tryz.zeroValue5
 infoByte := by kernel_rfl
 cellsByte := by kernel_rfl
 sizeByte := by kernel_rfl
 neB5 := by decide

theorem repeat0 (k : Nat) : Lib.repeatL [0] k = List.replicate k (0 : UInt8) := by
 induction k with
 | zero => rfl
 | succ k ih => rw [Lib.repeatL, ih, List.replicate_succ]; rfl
theorem Repeat_zero (k : Nat) (hk : k ≤ 1000) (w : World) : Calls Tryz.prog 64 #[.string ⟨#[0]⟩, .int .i64 (k : Int)] w (Ret (str (List.replicate k 0)) w) := by
 refine (Any.strings_Repeat layRep layRepX ⟨#[0]⟩ k w (by omega) (by show 1 * k ≤ _; omega)).mono fun e w' ⟨he, hb⟩ => ⟨?_, Mod.of_below hb⟩
 rw [he]
 show Ending.returned (.string ⟨(Lib.repeatL [0] k).toArray⟩) = _
 rw [repeat0]
end Go.Proofs.YtfgipgpbjfhflaaGreat


namespace Go.Proofs.YtfgipgpbjfhflaaGreat
open Go.RowKit
set_option linter.unusedVariables false
set_option linter.unusedSimpArgs false

theorem chL_app {L : List T} {t : T} {i : Nat} (h : i < L.length) : chL (L ++ [t]) i = chL L i := by unfold chL; rw [List.getElem?_append_left h]
theorem chL_last (L : List T) (t : T) : chL (L ++ [t]) L.length = t := by unfold chL; simp
theorem listT_app (L : List T) (t : T) : listT (L ++ [t]) = T.mk 4 0 [] false (L.length + 1) (chL (L ++ [t])) := by
 unfold listT chL
 rw [List.length_append]; rfl
theorem last_ext (L : List T) (s t : T) : listT (L ++ [t]) = T.mk 4 0 [] false (L.length + 1) (fun i => if i = L.length then t else chL (L ++ [s]) i) := by
 rw [listT_app]
 congr 1
 funext i
 by_cases h : i = L.length
 · rw [if_pos h, h, chL_last]
 ·
  rw [if_neg h]
  by_cases h2 : i < L.length
  · rw [chL_app h2, chL_app h2]
  ·
   unfold chL
   rw [List.getElem?_eq_none (by simp; omega), List.getElem?_eq_none (by simp; omega)]
set_option maxRecDepth 20000 in
theorem psummed_0 (t : T) (A : Option Addr) (c : Nat) (w : World) : Calls Tryz.prog 66 #[.int .i64 0, itemV t A c] w (Ret (itemV t A c) w) := by
 have HB := hid (Blk.new w 52 (itemC t A c))
 go_enter Tryz.func66, Tryz.ntmps66
 go_wp2_with fail
 refine bodyPost_ret (v := itemV t A c) (by simp [results, Tryz.results66, go_sem]) rfl (Ret.mk rfl (((Mod.refl _ _).alloc _).alloc _))
set_option maxRecDepth 20000 in
set_option maxHeartbeats 1600000 in
theorem psummed_cap (L : List T) (Z : List UInt8) (kind : Nat) (k1 : 1 ≤ kind) (k2 : kind ≤ 2) (hn : L.length ≤ 20) (hok : (listT (L ++ [strT Z])).ok) (hsz : (listT (L ++ [strT Z])).size ≤ 100000) (hr : (listT (L ++ [strT Z])).right 8 = true) (hbl : (listT (L ++ [strT Z])).bytes.length < 1000000) (N : Nat) (A : Option Addr) (c : Nat) (w : World) (hN : N ≤ w.heap.size) (h : IsL w (fun b => N ≤ b) (listT (L ++ [strT Z])) A) :
  Calls Tryz.prog 66 #[.int .i64 (kind : Int), itemV (listT (L ++ [strT Z])) A c] w (fun e w' => ∃ A c, e = .returned (itemV (listT (L ++ [strT (Crc.sumL kind (listT (L ++ [strT Z])).bytes)])) A c) ∧ Ext w w' ∧ IsL w' (fun b => N ≤ b) (listT (L ++ [strT (Crc.sumL kind (listT (L ++ [strT Z])).bytes)])) A ∧ (listT (L ++ [strT (Crc.sumL kind (listT (L ++ [strT Z])).bytes)])).k ≤ c) := by
 have e1 : ((kind : Int) = 0) = False := by simp; omega
 have e2 : ((kind : Int) == 0) = false := by simp; omega
 have HI : Hid (IsL w (fun b => N ≤ b ∧ b < w.heap.size) (listT (L ++ [strT Z])) A) := IsL.weak (fun k hk hq => ⟨hq, hk⟩) _ h
 have KB : Hid (∀ A c W, IsL W (fun _ => True) (listT (L ++ [strT Z])) A → Calls Tryz.prog 35 #[itemV (listT (L ++ [strT Z])) A c] W (Ret (.tuple #[str (listT (L ++ [strT Z])).bytes, .int .i64 0]) W)) := fun A c W hW => by
  have := iBuild_any _ hok hsz A c W hW
  unfold buildV at this
  rwa [if_pos hr] at this
 have KS := hid (fun W => Sum_any kind k1 k2 (listT (L ++ [strT Z])).bytes hbl W)
 have HU := hid (last_ext L (strT Z) (strT (Crc.sumL kind (listT (L ++ [strT Z])).bytes)))
 rw [listT_app L (strT Z)] at KB KS HU HI ⊢
 have hK := CloneI_any (Q := fun b => N ≤ b ∧ b < w.heap.size) (kind := 4) (n := 0) (s := []) (op := false) (chL (L ++ [strT Z])) (L.length + 1) (by unfold Hid; omega) A c
 have KC := hid hK
 clear hK h hok hsz hr hbl
 generalize (T.mk 4 0 [] false (L.length + 1) (chL (L ++ [strT Z]))).bytes = B at *
 generalize listT (L ++ [strT (Crc.sumL kind B)]) = U at *
 generalize Crc.sumL kind B = S at *
 generalize chL (L ++ [strT Z]) = ch at *
 obtain ⟨n, hnn⟩ : ∃ n, n = L.length := ⟨_, rfl⟩
 rw [← hnn] at HI KB HU KC hn ⊢
 clear hnn
 have n0 : (0 : Int) ≤ (n : Int) := by omega
 have n1 : (n : Int) ≤ 20 := by omega
 have HN1 := hid hn
 have HNW := hid hN
 clear hn hN k1 k2
 have HE := hid (((Mod.refl [] w).alloc (.cells (itemC (T.mk 4 0 [] false (n + 1) ch) A c) 52)).alloc (.cells #[.int .i64 0, .int .u64 0, .string ⟨#[]⟩, .slice none 0 0, .bool false] 52))
 have HX := hid ((Blk.new w 52 (itemC (T.mk 4 0 [] false (n + 1) ch) A c)).alloc (.cells #[.int .i64 0, .int .u64 0, .string ⟨#[]⟩, .slice none 0 0, .bool false] 52))
 have HR : Hid (Blk ((w.alloc (.cells (itemC (T.mk 4 0 [] false (n + 1) ch) A c) 52)).alloc (.cells #[.int .i64 0, .int .u64 0, .string ⟨#[]⟩, .slice none 0 0, .bool false] 52)) (w.heap.size + 1) 52 (itemC (numT 0) none 0)) := Blk.newL _ _ _ (by simp)
 go_enter Tryz.func66, Tryz.ntmps66
 go_upto_region 3 with fail
 generalize hV : World.alloc _ _ = V
 rw [hV] at HE HX HR
 clear hV
 have HIV : Hid (∀ e : Later V, IsL e.x (fun b => N ≤ b ∧ b < w.heap.size) (T.mk 4 0 [] false (n + 1) ch) A) := fun e => HI.out.ext (HE.out.trans e.h)
 have q0 : ∀ e : Later V, e.x.cell? ⟨w.heap.size, 0, none⟩ = some (.int .i64 4) := HX.out.cellL 0 rfl
 have q1 : ∀ e : Later V, e.x.cell? ⟨w.heap.size, 1, none⟩ = some (.int .u64 0) := HX.out.cellL 1 rfl
 have q2 : ∀ e : Later V, e.x.cell? ⟨w.heap.size, 2, none⟩ = some (str []) := HX.out.cellL 2 rfl
 have q3 : ∀ e : Later V, e.x.cell? ⟨w.heap.size, 3, none⟩ = some (.slice A (n + 1) c) := HX.out.cellL 3 rfl
 have q4 : ∀ e : Later V, e.x.cell? ⟨w.heap.size, 4, none⟩ = some (.bool false) := HX.out.cellL 4 rfl
 obtain ⟨e, he⟩ := Later.self V
 rw [he]
 clear he
 have HVS : Hid (w.heap.size + 2 ≤ V.heap.size) := Nat.succ_le_of_lt HR.out.lt
 go_upto_region 5 with (first | (go_at_call 35; refine (Ret.later (KB.out _ _ _ (IsL.weak (fun _ _ _ => trivial) _ (HIV.out _)))).mono ?_; rintro x _ ⟨rfl, e, rfl⟩) | (go_at_call 62; refine (KC.out _ (HIV.out _)).mono ?_; rintro x w1 ⟨g, c', ac, rfl, hb1, hg1, hlt1, hown1, hk1⟩))
 have HO1 := hid hown1
 have HK1 := hid hk1
 have HG : Hid (w.heap.size + 2 ≤ g) := by have := HVS.out; have := e.h.size; unfold Hid; omega
 have HE1 := hid (HE.out.trans (e.h.trans hb1))
 have HR1 := hid (HR.out.ext (e.h.trans hb1))
 have HL1 := hid hlt1
 clear hb1 hg1 hlt1 hown1 hk1 HE HR HI q0 q1 q2 q3 q4 HIV HX HVS
 obtain ⟨x0, x1, x2, x3, x4⟩ := flatC_get ch ac (n + 1) n (by omega)
 have y0 : ∀ e : Later w1, e.x.cell? ⟨g, n * 5, none⟩ = _ := cellL (own_cells HO1.out x0)
 have y1 : ∀ e : Later w1, e.x.cell? ⟨g, n * 5 + 1, none⟩ = _ := cellL (own_cells HO1.out x1)
 have y2 : ∀ e : Later w1, e.x.cell? ⟨g, n * 5 + 2, none⟩ = _ := cellL (own_cells HO1.out x2)
 have y3 : ∀ e : Later w1, e.x.cell? ⟨g, n * 5 + 3, none⟩ = _ := cellL (own_cells HO1.out x3)
 have y4 : ∀ e : Later w1, e.x.cell? ⟨g, n * 5 + 4, none⟩ = _ := cellL (own_cells HO1.out x4)
 have HOE : Hid (∀ e : Later w1, e.x.ownsRow _ 52 5 (.slice (some ⟨g, 0, none⟩) (n + 1) c') (n + 1) (flatC ch ac (n + 1))) := fun e => ownsRow_mod HO1.out e.h (fun _ _ => by simp)
 have z : ∀ (e : Later w1) (j : Nat), e.x.frozen? ⟨g, j, none⟩ = false := fun e j => (HOE.out e).frozenAt j
 clear x0 x1 x2 x3 x4
 obtain ⟨e, he⟩ := Later.self w1
 rw [he]
 clear he
 go_upto_region 6 with (first | (go_at_call 102; refine (Ret.later (KS.out _)).mono ?_; rintro x _ ⟨rfl, e, rfl⟩) | (go_at_call 63; refine (Ret.later (StrV_any _ _)).mono ?_; rintro x _ ⟨rfl, e, rfl⟩))
 generalize hW : World.setCell _ _ _ = W2
 have HO2 : Hid (W2.ownsRow _ 52 5 (.slice (some ⟨g, 0, none⟩) (n + 1) c') (n + 1) (flatC (fun i => if i = n then strT S else ch i) (fun i => if i = n then ((none : Option Addr), 0) else ac i) (n + 1))) := hid (by rw [← hW]; exact own_last (n := n) (strT S) none 0 (HOE.out e))
 have HM : Hid (Mod [g] e.x W2) := hid (by rw [← hW]; exact (((((Mod.refl [g] e.x).setCell (.inl (by simp)) _).setCell (.inl (by simp)) _).setCell (.inl (by simp)) _).setCell (.inl (by simp)) _).setCell (.inl (by simp)) _)
 clear hW y0 y1 y2 y3 y4 z
 have HE2 : Hid (Ext w W2) := (((HE1.out.trans e.h).of_ext).trans HM.out).new (fun b hb => .inr (by rw [List.mem_singleton] at hb; subst hb; have := HG.out; omega))
 have HR2 : Hid (Blk W2 (w.heap.size + 1) 52 (itemC (numT 0) none 0)) := (HR1.out.later e).mod HM.out (by have := HG.out; simp; omega)
 have HK2 : Hid (∀ i, i < n + 1 → IsL W2 (fun b => N ≤ b ∧ b < w.heap.size) ((fun i => if i = n then strT S else ch i) i) ((fun i => if i = n then ((none : Option Addr), 0) else ac i) i).1) := fun i hi => by
  by_cases h : i = n
  · subst h; simp only [if_true]; exact str_IsL
  ·
   simp only [if_neg h]
   exact (IsL.mod HM.out (fun b hb _ hs => by rw [List.mem_singleton] at hs; subst hs; have := hb.2; have := HG.out; omega) _ ((HK1.out i hi).ext e.h))
 have HL2 : Hid (g < W2.heap.size) := by have := HL1.out; have := e.h.size; have := HM.out.size; unfold Hid; omega
 obtain ⟨e, he⟩ := Later.self W2
 rw [he]
 clear he
 go_wp2_with (go_at_call 67; refine (Ret.later (ListV_any _ _ _ _)).mono ?_; rintro x _ ⟨rfl, e, rfl⟩; obtain ⟨c0, c1, c2, c3, c4⟩ := cells5 (HR2.out.later e); have f0 := (HR2.out.later e).frozen 0; have f1 := (HR2.out.later e).frozen 1; have f2 := (HR2.out.later e).frozen 2; have f3 := (HR2.out.later e).frozen 3; have f4 := (HR2.out.later e).frozen 4)
 obtain ⟨d0, d1, d2, d3, d4⟩ := cells5 (set5_blk (t := T.mk 4 0 [] false (n + 1) (fun i => if i = n then strT S else ch i)) (A := some ⟨g, 0, none⟩) (c := c') (HR2.out.later e))
 clear c0 c1 c2 c3 c4 f0 f1 f2 f3 f4
 show bodyPost _ _ _ _ _ (set5 e.x (w.heap.size + 1) (T.mk 4 0 [] false (n + 1) (fun i => if i = n then strT S else ch i)) (some ⟨g, 0, none⟩) c')
 refine bodyPost_ret (v := itemV (T.mk 4 0 [] false (n + 1) (fun i => if i = n then strT S else ch i)) (some ⟨g, 0, none⟩) c') (by simp [results, Tryz.results66, go_sem, d0, d1, d2, d3, d4]) rfl ⟨some ⟨g, 0, none⟩, c', by rw [HU.out], set5_mod (HE2.out.trans e.h) (by omega), ?_⟩
 rw [HU.out]
 refine ⟨?_, room_cap HO2.out⟩
 refine IsL.weak (fun _ _ h => h.1) _ (IsL.mod (Q := fun b => N ≤ b ∧ b ≠ w.heap.size + 1) set5_modb (fun b hb _ hs => by rw [List.mem_singleton] at hs; exact hb.2 hs) _ ?_)
 refine own_IsL (by have := HL2.out; have := e.h.size; omega) (by have := HG.out; have := HNW.out; exact ⟨by omega, by omega⟩) (ownsRow_mod HO2.out e.h (fun _ _ => by simp)) (fun i hi => IsL.weak (fun b _ hb => ⟨hb.1, by have := hb.2; omega⟩) _ ((HK2.out i hi).ext e.h))
end Go.Proofs.YtfgipgpbjfhflaaGreat


namespace Go.Proofs.YtfgipgpbjfhflaaGreat
open Go.RowKit
set_option linter.unusedVariables false
set_option linter.unusedSimpArgs false

theorem priL_last (p : PV) {k : Nat} (hk : k ≠ 0) (s : List UInt8) : priL p k s = ([numT 7, numT p.fl, numT k, eidT p.d, eidT p.s, eidT p.r, listT [numT p.t, numT p.q], numT p.l] ++ (if p.fl % 2 = 1 then [numT p.o, numT p.n] else [])) ++ [strT s] := by
 unfold priL; rw [if_neg hk, List.append_assoc]
/-- The sum; the whole bytes. -/
def priSum (p : PV) (k : Nat) : List UInt8 := if k = 0 then [] else Crc.sumL k (priB p k (List.replicate (2 * k) 0))
def PV.bytes (p : PV) : List UInt8 := priB p p.crc.toNat (priSum p p.crc.toNat)
def PV.tree (p : PV) : T := priT p p.crc.toNat (priSum p p.crc.toNat)
theorem priSum_length (p : PV) {k : Nat} (hk : k ≤ 2) : (priSum p k).length = 2 * k := by
 unfold priSum
 by_cases h : k = 0
 · rw [if_pos h, h]; rfl
 · rw [if_neg h]; exact Crc.sumL_length (by omega) hk _
theorem PV.tree_all {p : PV} (h : p.ranged = true) : p.tree.ok ∧ (∀ d, 4 ≤ d → p.tree.right d = true) ∧ p.tree.size ≤ 4000 ∧ p.tree.bytes = p.bytes := by
 have hr := PV.ranged_spec h
 have hk : p.crc.toNat ≤ 2 := by omega
 obtain ⟨a, b, c⟩ := priT_all h hk (sum := priSum p p.crc.toNat) (by rw [priSum_length p hk]; omega)
 exact ⟨a, b, c, priT_bytes _ _ _⟩
theorem PV.bytes_length {p : PV} (h : p.ranged = true) : p.bytes.length ≤ 40000 := by
 obtain ⟨_, _, c, d⟩ := PV.tree_all h
 rw [← d]
 have := T.bytes_le p.tree
 omega
theorem psum_cap (p : PV) (h : p.ranged = true) (k : Nat) (hc : p.crc = (k : Int)) (N : Nat) (A : Option Addr) (c : Nat) (w : World) (hN : N ≤ w.heap.size) (hl : IsL w (fun b => N ≤ b) (priT p k (List.replicate (2 * k) 0)) A) (hkc : (priT p k (List.replicate (2 * k) 0)).k ≤ c) :
  Calls Tryz.prog 66 #[.int .i64 (k : Int), itemV (priT p k (List.replicate (2 * k) 0)) A c] w (fun e w' => ∃ A c, e = .returned (itemV p.tree A c) ∧ Ext w w' ∧ IsL w' (fun b => N ≤ b) p.tree A ∧ p.tree.k ≤ c) := by
 have hr := PV.ranged_spec h
 have hk : k ≤ 2 := by omega
 have ht : p.crc.toNat = k := by omega
 unfold PV.tree
 rw [ht]
 by_cases h0 : k = 0
 ·
  subst h0
  have e : priT p 0 (priSum p 0) = priT p 0 (List.replicate (2 * 0) 0) := rfl
  rw [e]
  exact (psummed_0 _ A c w).mono fun x w' ⟨hx, hm⟩ => ⟨A, c, hx, hm, hl.ext hm, hkc⟩
 ·
  obtain ⟨a, b, cc⟩ := priT_all h hk (sum := List.replicate (2 * k) 0) (by simp; omega)
  have hb : (priT p k (List.replicate (2 * k) 0)).bytes.length < 1000000 := by have := T.bytes_le (priT p k (List.replicate (2 * k) 0)); omega
  have hb2 : (priT p k (List.replicate (2 * k) 0)).bytes = priB p k (List.replicate (2 * k) 0) := priT_bytes _ _ _
  have hs : priSum p k = Crc.sumL k (priB p k (List.replicate (2 * k) 0)) := by unfold priSum; rw [if_neg h0]
  rw [hs, ← hb2]
  clear hkc
  unfold priT at a b cc hb hl ⊢
  rw [priL_last p h0] at a b cc hb hl ⊢
  rw [priL_last p h0 (Crc.sumL _ _)]
  refine psummed_cap _ _ k (by omega) hk ?_ a (by omega) (b 8 (by omega)) hb N A c w hN hl
  split <;> simp
set_option maxRecDepth 20000 in
set_option maxHeartbeats 800000 in
theorem cPriItem_cap (p : PV) (hnl : Hid (p.d.name.length < 4611686018427387904 ∧ p.s.name.length < 4611686018427387904 ∧ p.r.name.length < 4611686018427387904)) (hf : p.fl < 18446744073709551616) (hb : p.right = 0) (w : World) : Calls Tryz.prog 81 #[.agg p.c] w (fun e w' => ∃ A c, e = .returned (.tuple #[itemV p.tree A c, .int .i64 0]) ∧ Ext w w' ∧ IsL w' (fun b => w.heap.size ≤ b) p.tree A ∧ p.tree.k ≤ c) := by
 have KR := hid (fun W => cPriRight_any p hnl hf W)
 have hr := PV.right_ranged hb
 have hrs := PV.ranged_spec hr
 rw [hb] at KR
 obtain ⟨k, hc⟩ := Int.eq_ofNat_of_zero_le hrs.2.2.2.1
 have hk : k ≤ 2 := by omega
 have KP := hid (fun W => parts_cap p k hc hk hr (List.replicate (2 * k) 0) W)
 have KZ : Hid (∀ W, Calls Tryz.prog 105 #[.int .i64 p.crc] W (Ret (.int .i64 (2 * (k : Int))) W)) := fun W => by rw [hc]; have := Size_any k hk W; simpa using this
 have KT : Hid (∀ W, Calls Tryz.prog 64 #[.string ⟨#[0]⟩, .int .i64 (2 * (k : Int))] W (Ret (str (List.replicate (2 * k) 0)) W)) := fun W => by have := Repeat_zero (2 * k) (by omega) W; simpa using this
 have KS : Hid (∀ N A c W, N ≤ W.heap.size → IsL W (fun b => N ≤ b) (priT p k (List.replicate (2 * k) 0)) A → (priT p k (List.replicate (2 * k) 0)).k ≤ c → Calls Tryz.prog 66 #[.int .i64 p.crc, itemV (priT p k (List.replicate (2 * k) 0)) A c] W (fun e w' => ∃ A c, e = .returned (itemV p.tree A c) ∧ Ext W w' ∧ IsL w' (fun b => N ≤ b) p.tree A ∧ p.tree.k ≤ c)) := fun N A c W h1 h2 h3 => by rw [hc]; exact psum_cap p hr k hc N A c W h1 h2 h3
 generalize List.replicate (2 * k) (0 : UInt8) = Z at *
 generalize priT p k Z = Y at *
 have k0 : (0 : Int) ≤ (k : Int) := by omega
 have k1 : (k : Int) ≤ 2 := by omega
 have HC := hid hc
 have HE := hid (((Mod.refl [] w).alloc (.cells p.c 26)).alloc (.cells #[.int .i64 0, .int .u64 0, .string ⟨#[]⟩, .slice none 0 0, .bool false] 52))
 have HB := hid ((Blk.new w 26 p.c).alloc (.cells #[.int .i64 0, .int .u64 0, .string ⟨#[]⟩, .slice none 0 0, .bool false] 52))
 have HR : Hid (Blk ((w.alloc (.cells p.c 26)).alloc (.cells #[.int .i64 0, .int .u64 0, .string ⟨#[]⟩, .slice none 0 0, .bool false] 52)) (w.heap.size + 1) 52 (itemC (numT 0) none 0)) := Blk.newL _ _ _ (by simp)
 clear hf hb hr hrs hc hk
 go_enter Tryz.func81, Tryz.ntmps81
 go_upto_region 1 with fail
 generalize (w.alloc (.cells p.c 26)).alloc (.cells #[.int .i64 0, .int .u64 0, .string ⟨#[]⟩, .slice none 0 0, .bool false] 52) = V at *
 have HBL : Hid (∀ e : Later V, Blk e.x w.heap.size 26 p.c) := fun e => HB.out.later e
 have HVS : Hid (w.heap.size + 2 ≤ V.heap.size) := Nat.succ_le_of_lt HR.out.lt
 obtain ⟨e, he⟩ := Later.self V
 rw [he]
 clear he
 go_upto_region 4 with (first | (refine wpList_row (by rfl) 26 _ rfl _ rfl (HBL.out _) Tryz.underlying26 rfl (by kernel_rfl) ?_) | (go_at_call 44; refine (Ret.later (KR.out _)).mono ?_; rintro x _ ⟨rfl, e, rfl⟩))
 have HS : Hid (∀ W, Mod [w.heap.size + 1] V W → W.cell? ⟨w.heap.size, 1, none⟩ = some (.int .i64 p.crc)) := fun W hW => (HB.out.mod hW (by simp)).cell 1
 have HRow : Hid (∀ W, Mod [w.heap.size + 1] V W → Blk W w.heap.size 26 p.c) := fun W hW => HB.out.mod hW (by simp)
 have g2 : max ((2 : Int) * (k : Int)) 0 = (2 * k : Int) := by omega
 refine wp_region_held_drew (S := fun w' => Mod [w.heap.size + 1] V w' ∧ ∃ t A c, Blk w' (w.heap.size + 1) 52 (itemC t A c)) (by kernel_rfl) ⟨((Later.h e).of_ext).drew, _, _, _, (HR.out.later e).drew⟩ (fun hHeld => ?_)
 refine' wpAnyH_take (i := 0) (v := _) rfl (by kernel_rfl) (by kernel_rfl) (by kernel_rfl) (fun _ _ _ h => h) (Or.inl ⟨by rfl, ?hy⟩) hHeld ?rest
 case hy => (rintro W ⟨hM, _⟩; go_simp; (try with_reducible rfl))
 case rest =>
 (try simp only [Act.put, sTl, s0l, sSl])
 refine' wpAnyH_take (i := 1) (v := _) rfl (by kernel_rfl) (by kernel_rfl) (by kernel_rfl) (fun _ _ _ h => h) (Or.inl ⟨by rfl, ?hy⟩) hHeld ?rest
 case hy => (rintro W ⟨hM, _⟩; have x1 := HS.out W hM; go_simp; (try with_reducible rfl))
 case rest =>
 (try simp only [Act.put, sTl, s0l, sSl])
 refine wpAnyH_take (i := 2) rfl (by kernel_rfl) (by kernel_rfl) (by kernel_rfl) (fun _ _ _ h => h) (yieldsIf_row (by rfl) 26 _ rfl _ rfl (fun W h => HRow.out W h.1) Tryz.underlying26 rfl (by kernel_rfl)) hHeld ?_
 (try simp only [Act.put, sTl, s0l, sSl])
 refine' wpAnyH_take (i := 3) (v := _) rfl (by kernel_rfl) (by kernel_rfl) (by kernel_rfl) (fun _ _ _ h => h) (Or.inl ⟨by rfl, ?hy⟩) hHeld ?rest
 case hy => (rintro W ⟨hM, _⟩; go_simp; (try with_reducible rfl))
 case rest =>
 (try simp only [Act.put, sTl, s0l, sSl])
 refine' wpAnyH_take (i := 4) (v := _) rfl (by kernel_rfl) (by kernel_rfl) (by kernel_rfl) (fun _ _ _ h => h) (Or.inl ⟨by rfl, ?hy⟩) hHeld ?rest
 case hy => (rintro W ⟨hM, _⟩; have x1 := HS.out W hM; go_simp; (try with_reducible rfl))
 case rest =>
 (try simp only [Act.put, sTl, s0l, sSl])
 refine wpAnyH_ready (rs := [5]) (by kernel_rfl) (by simp) ?_
 refine AllReadyH.cons rfl (fun K hK => ?_) AllReadyH.nil
 go_simp
 (go_at_call 105; refine (KZ.out _).mono ?_; rintro x w1 ⟨rfl, hb3⟩)
 refine hK.out _ _ ⟨hHeld.1.trans (Mod.of_ext hb3), let ⟨t, A, c, hb⟩ := hHeld.2; ⟨t, A, c, hb.ext hb3⟩⟩ (fun hHeld => ?_)
 clear hK K
 (try simp only [Act.put, sTl, s0l, sSl])
 refine' wpAnyH_take (i := 6) (v := _) rfl (by kernel_rfl) (by kernel_rfl) (by kernel_rfl) (fun _ _ _ h => h) (Or.inl ⟨by rfl, ?hy⟩) hHeld ?rest
 case hy => (rintro W ⟨hM, _⟩; go_simp; (try with_reducible rfl))
 case rest =>
 (try simp only [Act.put, sTl, s0l, sSl])
 refine wpAnyH_ready (rs := [7]) (by kernel_rfl) (by simp) ?_
 refine AllReadyH.cons rfl (fun K hK => ?_) AllReadyH.nil
 go_simp
 (go_at_call 64; refine (KT.out _).mono ?_; rintro x w2 ⟨rfl, hb3⟩)
 refine hK.out _ _ ⟨hHeld.1.trans (Mod.of_ext hb3), let ⟨t, A, c, hb⟩ := hHeld.2; ⟨t, A, c, hb.ext hb3⟩⟩ (fun hHeld => ?_)
 clear hK K
 (try simp only [Act.put, sTl, s0l, sSl])
 refine wpAnyH_ready (rs := [8]) (by kernel_rfl) (by simp) ?_
 refine AllReadyH.cons rfl (fun K hK => ?_) AllReadyH.nil
 go_simp
 (go_at_call 115; refine (KP.out _).mono ?_; rintro x w3 ⟨A, c, rfl, hb3, hl3, hc3⟩; have HL3 := hid hl3; have HC3 := hid hc3; clear hc3; have HN3 : Hid (w.heap.size + 2 ≤ w2.heap.size) := Nat.le_trans HVS.out hHeld.1.size)
 refine hK.out _ _ ⟨hHeld.1.trans (Mod.of_ext hb3), let ⟨t, A, c, hb⟩ := hHeld.2; ⟨t, A, c, hb.ext hb3⟩⟩ (fun hHeld => ?_)
 clear hK K
 (try simp only [Act.put, sTl, s0l, sSl])
 refine wpAnyH_ready (rs := [9]) (by kernel_rfl) (by simp) ?_
 refine AllReadyH.cons rfl (fun K hK => ?_) AllReadyH.nil
 go_simp
 (go_at_call 66; refine (KS.out (w.heap.size + 2) _ _ _ (Nat.le_trans HN3.out hb3.size) (IsL.weak (fun b _ hb => Nat.le_trans HN3.out hb) _ HL3.out) HC3.out).mono ?_; rintro x w4 ⟨A2, c2, rfl, hb4, hl4, hc4⟩; have HL4 := hid hl4; have HC4 := hid hc4; clear hc4)
 refine hK.out _ _ ⟨hHeld.1.trans (Mod.of_ext hb4), let ⟨t, A, c, hb⟩ := hHeld.2; ⟨t, A, c, hb.ext hb4⟩⟩ (fun hHeld => ?_)
 clear hK K
 (try simp only [Act.put, sTl, s0l, sSl])
 refine wpAnyH_ready (rs := [10]) (by kernel_rfl) (by simp) ?_
 refine AllReadyH.cons rfl (fun K hK => ?_) AllReadyH.nil
 obtain ⟨t0, A0, c0, hb0⟩ := hHeld.2
 obtain ⟨q0, q1, q2, q3, q4⟩ := cells5 hb0
 have f0 := hb0.frozen 0
 have f1 := hb0.frozen 1
 have f2 := hb0.frozen 2
 have f3 := hb0.frozen 3
 have f4 := hb0.frozen 4
 go_simp
 refine hK.out _ _ ⟨set5_modR hHeld.1, p.tree, A2, c2, set5_blk hb0⟩ (fun hHeld => ?_)
 clear hK K
 (try simp only [Act.put, sTl, s0l, sSl])
 refine wpAnyH_ready (rs := [11]) (by kernel_rfl) (by simp) ?_
 refine AllReadyH.cons rfl (fun K hK => ?_) AllReadyH.nil
 go_simp
 refine hK.out _ _ hHeld (fun hHeld => ?_)
 clear hK K
 (try simp only [Act.put, sTl, s0l, sSl])
 refine wpAnyH_done (by kernel_rfl) ?_ _
 go_wp2_with fail
 obtain ⟨d0, d1, d2, d3, d4⟩ := cells5 (set5_blk (t := p.tree) (A := A2) (c := c2) hb0)
 clear q0 q1 q2 q3 q4 f0 f1 f2 f3 f4
 show bodyPost _ _ _ _ _ (set5 w4 (w.heap.size + 1) p.tree A2 c2)
 refine bodyPost_ret (v := .tuple #[itemV p.tree A2 c2, .int .i64 0]) (by simp [results, Tryz.results81, go_sem, d0, d1, d2, d3, d4]) rfl ⟨A2, c2, rfl, (HE.out.of_ext.trans hHeld.1).new (fun b hb => .inr (by rw [List.mem_singleton] at hb; omega)), ?_, HC4.out⟩
 exact IsL.weak (fun _ _ h => by have : w.heap.size + 2 ≤ _ := h; omega) _ (IsL.mod (Q := fun b => w.heap.size + 2 ≤ b) set5_modb (fun b hb _ hs => by rw [List.mem_singleton] at hs; have : w.heap.size + 2 ≤ b := hb; omega) _ HL4.out)
theorem cPriItem_ok (p : PV) (hnl : Hid (p.d.name.length < 4611686018427387904 ∧ p.s.name.length < 4611686018427387904 ∧ p.r.name.length < 4611686018427387904)) (hf : p.fl < 18446744073709551616) (hb : p.right = 0) (w : World) : Calls Tryz.prog 81 #[.agg p.c] w (fun e w' => ∃ A c, e = .returned (.tuple #[itemV p.tree A c, .int .i64 0]) ∧ Ext w w' ∧ IsL w' (fun b => w.heap.size ≤ b) p.tree A) := (cPriItem_cap p hnl hf hb w).mono fun _ _ ⟨A, c, h1, h2, h3, _⟩ => ⟨A, c, h1, h2, h3⟩
set_option maxRecDepth 20000 in
theorem cPriBuild_ok (p : PV) (hnl : Hid (p.d.name.length < 4611686018427387904 ∧ p.s.name.length < 4611686018427387904 ∧ p.r.name.length < 4611686018427387904)) (hf : p.fl < 18446744073709551616) (hb : p.right = 0) (w : World) : Calls Tryz.prog 50 #[.agg p.c] w (Ret (.tuple #[str p.bytes, .int .i64 0]) w) := by
 have KI := hid (fun W => cPriItem_ok p hnl hf hb W)
 obtain ⟨t1, t2, t3, t4⟩ := PV.tree_all (PV.right_ranged hb)
 have KB : Hid (∀ A c W, IsL W (fun _ => True) p.tree A → Calls Tryz.prog 35 #[itemV p.tree A c] W (Ret (.tuple #[str p.bytes, .int .i64 0]) W)) := fun A c W hW => by
  have := iBuild_any p.tree t1 (by omega) A c W hW
  unfold buildV at this
  rwa [if_pos (t2 8 (by omega)), t4] at this
 generalize p.tree = Y at *
 generalize p.bytes = B at *
 have HE := hid ((Mod.refl [] w).alloc (.cells p.c 26))
 have HB := hid (Blk.new w 26 p.c)
 clear hb hf t1 t2 t3 t4
 go_enter Tryz.func50, Tryz.ntmps50
 go_upto_region 1 with fail
 generalize w.alloc (.cells p.c 26) = V at *
 have HBL : Hid (∀ e : Later V, Blk e.x w.heap.size 26 p.c) := fun e => HB.out.later e
 obtain ⟨e, he⟩ := Later.self V
 rw [he]
 clear he
 go_upto_region 2 with (first | (refine wpList_row (by rfl) 26 _ rfl _ rfl (HBL.out _) Tryz.underlying26 rfl (by kernel_rfl) ?_) | (go_at_call 81; refine (KI.out _).mono ?_; rintro x w1 ⟨A, c, rfl, hb1, hl1⟩))
 have HL1 := hid (IsL.ext (IsL.weak (R := fun _ => True) (fun _ _ _ => trivial) _ hl1) ((Mod.refl [] w1).alloc (.cells (itemC Y A c) 52)))
 have HX1 := hid (Blk.new w1 52 (itemC Y A c))
 have HE1 := hid ((HE.out.trans (e.h.trans hb1)).alloc (.cells (itemC Y A c) 52))
 obtain ⟨q0, q1, q2, q3, q4⟩ := cells5 HX1.out
 clear hb1 hl1
 go_wp2_with (go_at_call 35; refine (KB.out _ _ _ HL1.out).mono ?_; rintro x w2 ⟨rfl, hb2⟩)
 go_ret2
 exact Ret.mk rfl (HE1.out.trans hb2)
def PV.plain (p : PV) : PV := { p with crc := 0 }
end Go.Proofs.YtfgipgpbjfhflaaGreat


namespace Go.Proofs.YtfgipgpbjfhflaaGreat
open Go.RowKit
set_option linter.unusedVariables false
set_option linter.unusedSimpArgs false

theorem Crc.rv_succ : ∀ (i n : Nat), Crc.rv (i + 1) n = 2 * Crc.rv i n + n / 2 ^ i % 2
 | 0, n => by simp [Crc.rv]
 | i + 1, n => by
  have h := Crc.rv_succ i (n / 2)
  have e : n / 2 / 2 ^ i = n / 2 ^ (i + 1) := by rw [Nat.div_div_eq_div_mul, Nat.pow_succ, Nat.mul_comm]
  have e2 : 2 ^ (i + 1) * (n % 2) = 2 * (2 ^ i * (n % 2)) := by rw [Nat.pow_succ, Nat.mul_comm (2 ^ i) 2, Nat.mul_assoc]
  have e3 : Crc.rv (i + 1 + 1) n = 2 ^ (i + 1) * (n % 2) + Crc.rv (i + 1) (n / 2) := rfl
  have e4 : Crc.rv (i + 1) n = 2 ^ i * (n % 2) + Crc.rv i (n / 2) := rfl
  rw [e3, h, e4, e, e2]
  omega

set_option maxHeartbeats 400000 in
theorem turn_n (n : Nat) (hn : Hid (n < 4294967296)) (size : Nat) (hs : Hid (size ≤ 32)) (w : World) : Calls Tryz.prog 112 #[.int .u64 (n : Int), .int .i64 (size : Int)] w (Ret (.int .u64 (Crc.rv size n : Nat)) w) := by
 go_enter Tryz.func112, Tryz.ntmps112
 go_wp2
 go_loopw [0, 5, 6] (fun x o i wr => ∃ j : Nat, j ≤ size ∧ i = .int .i64 j ∧ o = .int .u64 ((Crc.rv j n : Nat) : Int) ∧ x = .int .u64 ((n / 2 ^ j : Nat) : Int) ∧ Ext w wr) (fun _ _ i _ => size - (intOf i).toNat)
 case atStart => exact ⟨0, Nat.zero_le _, rfl, rfl, by simp, Mod.refl _ _⟩
 case round =>
  obtain ⟨j, hj, rfl, rfl, rfl, hb⟩ := hrel
  by_cases hlt : j < size
  ·
   have h32 := hs.out
   have HS := hid (Crc.rv_succ j n)
   have hx : n / 2 ^ (j + 1) = n / 2 ^ j / 2 := by rw [Nat.div_div_eq_div_mul, Nat.pow_succ]
   have HX := hid hx; clear hx
   have hr : Crc.rv j n < 4294967296 := Nat.lt_of_lt_of_le (Crc.rv_lt j n) (show 2 ^ j ≤ 2 ^ 32 from Nat.pow_le_pow_right (by omega) (by omega))
   have hq : n / 2 ^ j < 4294967296 := Nat.lt_of_le_of_lt (Nat.div_le_self _ _) hn.out
   generalize Crc.rv j n = r at *
   generalize n / 2 ^ j = q at *
   go_wp2
   go_roundw
   case rel => exact ⟨j + 1, by omega, by go_num, by rw [HS.out]; go_num, by rw [HX.out]; go_num, hb⟩
   case measure => simp [intOf]; omega
  ·
   obtain rfl : j = size := by omega
   go_wp2
   go_ret
   exact ⟨rfl, hb⟩

set_option maxHeartbeats 400000 in
theorem divisor_16 (w : World) : Calls Tryz.prog 111 #[.int .i64 16] w (Ret (.int .u64 4129) w) := by
 go_enter Tryz.func111, Tryz.ntmps111
 go_wp2
 go_ret
 exact Ret.mk rfl (Mod.refl _ _)
def Crc.tab : List Nat := [28, 27, 26, 25, 23, 22, 20, 19, 18, 14, 13, 11, 10, 9, 8, 6, 0]
def Crc.dv (j : Nat) : Nat := ((Crc.tab.take j).map (2 ^ ·)).sum
theorem Crc.dv_succ : ∀ j : Fin 17, Crc.dv (j.val + 1) = Crc.dv j.val + 2 ^ (Crc.tab.getD j.val 0) ∧ Crc.dv j.val ≤ 517762881 ∧ Crc.tab.getD j.val 0 ≤ 28 := by decide
set_option maxHeartbeats 400000 in
theorem divisor_32 (w : World) : Calls Tryz.prog 111 #[.int .i64 32] w (Ret (.int .u64 517762881) w) := by
 go_enter Tryz.func111, Tryz.ntmps111
 go_wp2
 have hext := hid ((Mod.refl [] w).alloc (.cells ((Crc.tab.map fun (n : Nat) => Value.int .i64 (n : Int)).toArray) 171))
 have hcell : Hid (∀ j, j < 17 → (w.alloc (.cells ((Crc.tab.map fun (n : Nat) => Value.int .i64 (n : Int)).toArray) 171)).cell? ⟨w.heap.size, j, none⟩ = some (.int .i64 ((Crc.tab.getD j 0 : Nat) : Int))) := fun j hj => by
  rw [(Blk.new w 171 _).cell j]
  have h : j < Crc.tab.length := hj
  simp [h]
 have hW : ∃ W, W = w.alloc (.cells ((Crc.tab.map fun (n : Nat) => Value.int .i64 (n : Int)).toArray) 171) := ⟨_, rfl⟩
 obtain ⟨W, hW⟩ := hW
 rw [← hW] at hext hcell
 change Code.wp _ _ _ _ (w.alloc (.cells ((Crc.tab.map fun (n : Nat) => Value.int .i64 (n : Int)).toArray) 171))
 rw [← hW]
 clear hW
 go_loop [3, 5, 6, 7] (fun n i p k => ∃ j : Nat, j ≤ 17 ∧ i = .int .i64 j ∧ n = .int .u64 ((Crc.dv j : Nat) : Int)) (fun _ i _ _ => 17 - (intOf i).toNat)
 case atStart => exact ⟨0, Nat.zero_le _, rfl, rfl⟩
 case round =>
  obtain ⟨j, hj, rfl, rfl⟩ := hrel
  by_cases hlt : j < 17
  ·
   have hc := hcell.out j hlt
   obtain ⟨hd, hd2, ht⟩ := Crc.dv_succ ⟨j, hlt⟩
   simp only [] at hd hd2 ht
   have HD := hid hd; clear hd
   generalize Crc.tab.getD j 0 = t at *
   generalize Crc.dv j = d at *
   go_wp2
   go_loop [6, 7] (fun p k => ∃ i : Nat, i ≤ t ∧ k = .int .i64 i ∧ p = .int .u64 ((2 ^ i : Nat) : Int)) (fun _ k => t - (intOf k).toNat)
   case atStart => exact ⟨0, Nat.zero_le _, rfl, rfl⟩
   case round =>
    obtain ⟨i, hi, rfl, rfl⟩ := hrel
    have hp : 2 ^ i ≤ 268435456 := show 2 ^ i ≤ 2 ^ 28 from Nat.pow_le_pow_right (by omega) (by omega)
    by_cases hil : i < t
    ·
     have HS := hid (Nat.pow_succ 2 i)
     generalize 2 ^ i = x at *
     go_wp2
     go_round
     case rel => exact ⟨i + 1, by omega, by go_num, by rw [HS.out]; go_num⟩
     case measure => simp [intOf]; omega
    ·
     obtain rfl : i = t := by omega
     generalize 2 ^ i = x at *
     go_wp2
     go_round
     case rel => exact ⟨j + 1, by omega, by go_num, by rw [HD.out]; go_num⟩
     case measure => simp [intOf]; omega
  ·
   obtain rfl : j = 17 := by omega
   go_wp2
   go_ret
   have e : Crc.dv 17 = 517762881 := by decide
   refine ⟨?_, hext.out⟩
   show Ending.returned (.int .u64 ((Crc.dv 17 : Nat) : Int)) = _
   rw [e]; rfl
end Go.Proofs.YtfgipgpbjfhflaaGreat


namespace Go.Proofs.YtfgipgpbjfhflaaGreat
open Go.RowKit
set_option linter.unusedVariables false
set_option linter.unusedSimpArgs false

theorem Crc.stepR_lt {m d r b : Nat} (hd : d < 2 ^ m) : Crc.stepR (2 ^ m) d r b < 2 ^ m := by
 have := Nat.mod_lt (r * 2) (Nat.two_pow_pos m)
 unfold Crc.stepR
 split
 · exact this
 · exact Nat.xor_lt_two_pow this hd

theorem Crc.x_16 (l : List UInt8) : Crc.rv 16 (65535 - Crc.divR 65536 4129 65535 l) = Crc.x25 l := Crc.sums (m := 15) (p := 33800) (by decide) l
theorem Crc.r_16 {r c : Nat} : Crc.stepR 65536 4129 r c = if r / 32768 = c then r * 2 % 65536 else (r * 2 % 65536) ^^^ 4129 := rfl
set_option maxHeartbeats 800000 in
theorem Sum16 (l : List UInt8) (hl : Hid (l.length < 1000000)) (w : World) : Calls Tryz.prog 72 #[.int .i64 16, str l] w (Ret (.int .u64 (Crc.x25 l : Nat)) w) := by
 obtain ⟨T, hT⟩ : ∃ T, T = Crc.divR 65536 4129 65535 l := ⟨_, rfl⟩
 have hX := Crc.x_16 l
 rw [← hT] at hX
 rw [← hX]
 have HT := hid hT; clear hT hX
 go_enter Tryz.func72, Tryz.ntmps72
 go_wp2_with fail
 go_loop [5, 6] (fun t i => ∃ j : Nat, j ≤ 16 ∧ i = .int .i64 j ∧ t = .int .u64 ((2 ^ j : Nat) : Int)) (fun _ i => 16 - (intOf i).toNat)
 case atStart => exact ⟨0, Nat.zero_le _, rfl, rfl⟩
 case round =>
  obtain ⟨j, hj, rfl, rfl⟩ := hrel
  have hp : 2 ^ j ≤ 4294967296 := show 2 ^ j ≤ 2 ^ 32 from Nat.pow_le_pow_right (by omega) (by omega)
  by_cases hlt : j < 16
  ·
   have HS := hid (Nat.pow_succ 2 j)
   generalize 2 ^ j = x at *
   go_wp2_with fail
   go_round
   case rel => exact ⟨j + 1, by omega, by go_num, by rw [HS.out]; go_num⟩
   case measure => simp [intOf]; omega
  ·
   obtain rfl : j = 16 := by omega
   have e2 : (2 : Nat) ^ 16 = 65536 := by decide
   rw [e2]
   clear e2 hp
   go_wp2_with fail
   refine (divisor_16 _).mono ?_
   rintro e w1 ⟨rfl, hb1⟩
   go_wp2_with fail
   go_loop [7, 9, 10, 11, 12, 13] (fun r i c k bt h => ∃ j x : Nat, j ≤ l.length ∧ x < 65536 ∧ i = .int .i64 j ∧ r = .int .u64 (x : Int) ∧ Hid (T = Crc.divR 65536 4129 x (l.drop j))) (fun _ i _ _ _ _ => l.length - (intOf i).toNat)
   case atStart => exact ⟨0, 65535, Nat.zero_le _, by omega, rfl, rfl, HT⟩
   case round =>
    obtain ⟨j, x, hj, hx, rfl, rfl, HR⟩ := hrel
    have hl2 : l.length < 1000000 := hl.out
    by_cases hlt : j < l.length
    ·
     have HS : Hid (T = Crc.divR 65536 4129 (Crc.stepsR 65536 4129 8 x (l[j]).toNat) (l.drop (j + 1))) := by
      have h1 := HR.out
      rw [List.drop_eq_getElem_cons hlt] at h1
      exact h1
     clear HR
     have hc8 := (l[j]).toNat_lt
     go_wp2_with fail
     generalize hcn : (l[j]).toNat = cn at *
     have HCN := hid hcn; clear hcn
     go_loop [7, 10, 11, 12, 13] (fun r c k bt h => ∃ n y d : Nat, n ≤ 8 ∧ y < 65536 ∧ d < 256 ∧ k = .int .i64 n ∧ r = .int .u64 (y : Int) ∧ c = .int .i64 (d : Int) ∧ Hid (Crc.stepsR 65536 4129 (8 - n) y d = Crc.stepsR 65536 4129 8 x cn)) (fun _ _ k _ _ => 8 - (intOf k).toNat)
     case atStart => exact ⟨0, x, cn, by omega, hx, by omega, rfl, rfl, (by show Value.int .i64 (wrap64 ((l[j]).toNat : Int)) = _; rw [HCN.out]; congr 1; exact IntWalk.wrap64_in _ (by omega)), rfl⟩
     case round =>
      obtain ⟨n, y, d, hn, hy, hd, rfl, rfl, rfl, HQ⟩ := hrel
      by_cases hn8 : n < 8
      ·
       have HN : Hid (Crc.stepsR 65536 4129 (8 - (n + 1)) (Crc.stepR 65536 4129 y (d % 2)) (d / 2) = Crc.stepsR 65536 4129 8 x cn) := by
        have h1 := HQ.out
        rw [show 8 - n = (8 - (n + 1)) + 1 by omega] at h1
        exact h1
       have hL := Crc.stepR_lt (m := 16) (d := 4129) (r := y) (b := d % 2) (by decide)
       clear HQ
       by_cases hbit : y / 32768 = d % 2
       ·
        have hE : Crc.stepR 65536 4129 y (d % 2) = y * 2 % 65536 := by rw [Crc.r_16, if_pos hbit]
        rw [hE] at HN hL
        go_wp2_with fail
        go_round
        case rel => exact ⟨n + 1, _, d / 2, by omega, hL, by omega, by go_num, by simp, by simp, HN⟩
        case measure => simp [intOf]; omega
       ·
        have hE : Crc.stepR 65536 4129 y (d % 2) = (y * 2 % 65536) ^^^ 4129 := by rw [Crc.r_16, if_neg hbit]
        have tX := u64_xor_nat (y * 2 % 65536) 4129 (by omega) (by omega)
        rw [hE] at HN hL
        go_wp2_with fail
        go_round
        case rel => exact ⟨n + 1, _, d / 2, by omega, hL, by omega, by go_num, by rw [← tX]; simp, by simp, HN⟩
        case measure => simp [intOf]; omega
      ·
       obtain rfl : n = 8 := by omega
       have h1 : y = Crc.stepsR 65536 4129 8 x cn := HQ.out
       subst h1
       clear HQ
       go_wp2_with fail
       go_round
       case rel => exact ⟨j + 1, _, by omega, hy, by go_num, rfl, HS⟩
       case measure => simp [intOf]; omega
    ·
     obtain rfl : j = l.length := by omega
     have h1 := HR.out
     rw [List.drop_length] at h1
     have h2 : T = x := h1
     subst h2
     clear HR h1
     go_wp2_with fail
     have K := hid (fun W => turn_n (65535 - T) (by unfold Hid; omega) 16 (by unfold Hid; omega) W)
     have e5 : ((65535 - T : Nat) : Int) = 65535 - (T : Int) := by omega
     rw [e5] at K
     refine (K.out _).mono ?_
     rintro e w2 ⟨rfl, hb2⟩
     go_wp2_with fail
     go_ret
     exact Ret.mk rfl (hb1.trans hb2)

theorem Crc.x_32 (l : List UInt8) : Crc.rv 32 (4294967295 - Crc.divR 4294967296 517762881 4294967295 l) = Crc.cast l := Crc.sums (m := 31) (p := 2197175160) (by decide) l
theorem Crc.r_32 {r c : Nat} : Crc.stepR 4294967296 517762881 r c = if r / 2147483648 = c then r * 2 % 4294967296 else (r * 2 % 4294967296) ^^^ 517762881 := rfl
set_option maxHeartbeats 800000 in
theorem Sum32 (l : List UInt8) (hl : Hid (l.length < 1000000)) (w : World) : Calls Tryz.prog 72 #[.int .i64 32, str l] w (Ret (.int .u64 (Crc.cast l : Nat)) w) := by
 obtain ⟨T, hT⟩ : ∃ T, T = Crc.divR 4294967296 517762881 4294967295 l := ⟨_, rfl⟩
 have hX := Crc.x_32 l
 rw [← hT] at hX
 rw [← hX]
 have HT := hid hT; clear hT hX
 go_enter Tryz.func72, Tryz.ntmps72
 go_wp2_with fail
 go_loop [5, 6] (fun t i => ∃ j : Nat, j ≤ 32 ∧ i = .int .i64 j ∧ t = .int .u64 ((2 ^ j : Nat) : Int)) (fun _ i => 32 - (intOf i).toNat)
 case atStart => exact ⟨0, Nat.zero_le _, rfl, rfl⟩
 case round =>
  obtain ⟨j, hj, rfl, rfl⟩ := hrel
  have hp : 2 ^ j ≤ 4294967296 := show 2 ^ j ≤ 2 ^ 32 from Nat.pow_le_pow_right (by omega) (by omega)
  by_cases hlt : j < 32
  ·
   have HS := hid (Nat.pow_succ 2 j)
   generalize 2 ^ j = x at *
   go_wp2_with fail
   go_round
   case rel => exact ⟨j + 1, by omega, by go_num, by rw [HS.out]; go_num⟩
   case measure => simp [intOf]; omega
  ·
   obtain rfl : j = 32 := by omega
   have e2 : (2 : Nat) ^ 32 = 4294967296 := by decide
   rw [e2]
   clear e2 hp
   go_wp2_with fail
   refine (divisor_32 _).mono ?_
   rintro e w1 ⟨rfl, hb1⟩
   go_wp2_with fail
   go_loop [7, 9, 10, 11, 12, 13] (fun r i c k bt h => ∃ j x : Nat, j ≤ l.length ∧ x < 4294967296 ∧ i = .int .i64 j ∧ r = .int .u64 (x : Int) ∧ Hid (T = Crc.divR 4294967296 517762881 x (l.drop j))) (fun _ i _ _ _ _ => l.length - (intOf i).toNat)
   case atStart => exact ⟨0, 4294967295, Nat.zero_le _, by omega, rfl, rfl, HT⟩
   case round =>
    obtain ⟨j, x, hj, hx, rfl, rfl, HR⟩ := hrel
    have hl2 : l.length < 1000000 := hl.out
    by_cases hlt : j < l.length
    ·
     have HS : Hid (T = Crc.divR 4294967296 517762881 (Crc.stepsR 4294967296 517762881 8 x (l[j]).toNat) (l.drop (j + 1))) := by
      have h1 := HR.out
      rw [List.drop_eq_getElem_cons hlt] at h1
      exact h1
     clear HR
     have hc8 := (l[j]).toNat_lt
     go_wp2_with fail
     generalize hcn : (l[j]).toNat = cn at *
     have HCN := hid hcn; clear hcn
     go_loop [7, 10, 11, 12, 13] (fun r c k bt h => ∃ n y d : Nat, n ≤ 8 ∧ y < 4294967296 ∧ d < 256 ∧ k = .int .i64 n ∧ r = .int .u64 (y : Int) ∧ c = .int .i64 (d : Int) ∧ Hid (Crc.stepsR 4294967296 517762881 (8 - n) y d = Crc.stepsR 4294967296 517762881 8 x cn)) (fun _ _ k _ _ => 8 - (intOf k).toNat)
     case atStart => exact ⟨0, x, cn, by omega, hx, by omega, rfl, rfl, (by show Value.int .i64 (wrap64 ((l[j]).toNat : Int)) = _; rw [HCN.out]; congr 1; exact IntWalk.wrap64_in _ (by omega)), rfl⟩
     case round =>
      obtain ⟨n, y, d, hn, hy, hd, rfl, rfl, rfl, HQ⟩ := hrel
      by_cases hn8 : n < 8
      ·
       have HN : Hid (Crc.stepsR 4294967296 517762881 (8 - (n + 1)) (Crc.stepR 4294967296 517762881 y (d % 2)) (d / 2) = Crc.stepsR 4294967296 517762881 8 x cn) := by
        have h1 := HQ.out
        rw [show 8 - n = (8 - (n + 1)) + 1 by omega] at h1
        exact h1
       have hL := Crc.stepR_lt (m := 32) (d := 517762881) (r := y) (b := d % 2) (by decide)
       clear HQ
       by_cases hbit : y / 2147483648 = d % 2
       ·
        have hE : Crc.stepR 4294967296 517762881 y (d % 2) = y * 2 % 4294967296 := by rw [Crc.r_32, if_pos hbit]
        rw [hE] at HN hL
        go_wp2_with fail
        go_round
        case rel => exact ⟨n + 1, _, d / 2, by omega, hL, by omega, by go_num, by simp, by simp, HN⟩
        case measure => simp [intOf]; omega
       ·
        have hE : Crc.stepR 4294967296 517762881 y (d % 2) = (y * 2 % 4294967296) ^^^ 517762881 := by rw [Crc.r_32, if_neg hbit]
        have tX := u64_xor_nat (y * 2 % 4294967296) 517762881 (by omega) (by omega)
        rw [hE] at HN hL
        go_wp2_with fail
        go_round
        case rel => exact ⟨n + 1, _, d / 2, by omega, hL, by omega, by go_num, by rw [← tX]; simp, by simp, HN⟩
        case measure => simp [intOf]; omega
      ·
       obtain rfl : n = 8 := by omega
       have h1 : y = Crc.stepsR 4294967296 517762881 8 x cn := HQ.out
       subst h1
       clear HQ
       go_wp2_with fail
       go_round
       case rel => exact ⟨j + 1, _, by omega, hy, by go_num, rfl, HS⟩
       case measure => simp [intOf]; omega
    ·
     obtain rfl : j = l.length := by omega
     have h1 := HR.out
     rw [List.drop_length] at h1
     have h2 : T = x := h1
     subst h2
     clear HR h1
     go_wp2_with fail
     have K := hid (fun W => turn_n (4294967295 - T) (by unfold Hid; omega) 32 (by unfold Hid; omega) W)
     have e5 : ((4294967295 - T : Nat) : Int) = 4294967295 - (T : Int) := by omega
     rw [e5] at K
     refine (K.out _).mono ?_
     rintro e w2 ⟨rfl, hb2⟩
     go_wp2_with fail
     go_ret
     exact Ret.mk rfl (hb1.trans hb2)
end Go.Proofs.YtfgipgpbjfhflaaGreat


namespace Go.Proofs.YtfgipgpbjfhflaaGreat
open Go.RowKit
set_option linter.unusedVariables false
set_option linter.unusedSimpArgs false

/-- Its item: five parts, or six. -/
def blkT (ty num fl crc : Nat) (data sum : List UInt8) : T := T.mk 4 0 [] false (if crc = 0 then 5 else 6) fun i => if i = 0 then numT ty else if i = 1 then numT num else if i = 2 then numT fl else if i = 3 then numT crc else if i = 4 then strT data else if i = 5 then strT sum else T.nil

/-- The cells of its first five parts. -/
abbrev blk5 (ty num fl crc : Nat) (data : List UInt8) : Array Value := #[.int .i64 0, .int .u64 (ty : Int), str [], .slice none 0 0, .bool false, .int .i64 0, .int .u64 (num : Int), str [], .slice none 0 0, .bool false, .int .i64 0, .int .u64 (fl : Int), str [], .slice none 0 0, .bool false, .int .i64 0, .int .u64 (crc : Int), str [], .slice none 0 0, .bool false, .int .i64 2, .int .u64 0, str data, .slice none 0 0, .bool false]

theorem blk5_IsL {W : World} {Q : Nat → Prop} {g : Nat} {ty num fl : Nat} {data sum : List UInt8} (q : Q g) (h : Blk W g 52 (blk5 ty num fl 0 data)) : IsL W Q (blkT ty num fl 0 data sum) (some ⟨g, 0, none⟩) := fun _ => ⟨g, 0, rfl, h.lt, q, fun j hj => by
 have hj2 : j = 0 ∨ j = 1 ∨ j = 2 ∨ j = 3 ∨ j = 4 := by simp at hj; omega
 rcases hj2 with rfl | rfl | rfl | rfl | rfl
 · exact ⟨none, 0, ⟨h.cell 0, h.cell 1, h.cell 2, h.cell 3, h.cell 4⟩, fun h => absurd h (by decide)⟩
 · exact ⟨none, 0, ⟨h.cell 5, h.cell 6, h.cell 7, h.cell 8, h.cell 9⟩, fun h => absurd h (by decide)⟩
 · exact ⟨none, 0, ⟨h.cell 10, h.cell 11, h.cell 12, h.cell 13, h.cell 14⟩, fun h => absurd h (by decide)⟩
 · exact ⟨none, 0, ⟨h.cell 15, h.cell 16, h.cell 17, h.cell 18, h.cell 19⟩, fun h => absurd h (by decide)⟩
 · exact ⟨none, 0, ⟨h.cell 20, h.cell 21, h.cell 22, h.cell 23, h.cell 24⟩, fun h => absurd h (by decide)⟩⟩
theorem blk6_IsL {W : World} {Q : Nat → Prop} {base g c : Nat} {ty num fl crc : Nat} {data sum : List UInt8} (hc : ¬ crc = 0) (q : Q g) (hlt : g < W.heap.size) (h : W.ownsRow base 52 5 (.slice (some ⟨g, 0, none⟩) (5 + 1) c) (5 + 1) ((blk5 ty num fl crc data).toList ++ [Value.int .i64 (strT sum).kind, .int .u64 ((strT sum).n : Int), str (strT sum).s, .slice none (strT sum).k 0, .bool (strT sum).op])) : IsL W Q (blkT ty num fl crc data sum) (some ⟨g, 0, none⟩) := by
 unfold blkT
 rw [if_neg hc]
 refine fun _ => ⟨g, 0, rfl, hlt, q, fun j hj => ?_⟩
 have hj2 : j = 0 ∨ j = 1 ∨ j = 2 ∨ j = 3 ∨ j = 4 ∨ j = 5 := by omega
 rcases hj2 with rfl | rfl | rfl | rfl | rfl | rfl
 · exact ⟨none, 0, ⟨own_cells (j := 0) h rfl, own_cells (j := 1) h rfl, own_cells (j := 2) h rfl, own_cells (j := 3) h rfl, own_cells (j := 4) h rfl⟩, fun h => absurd h (by decide)⟩
 · exact ⟨none, 0, ⟨own_cells (j := 5) h rfl, own_cells (j := 6) h rfl, own_cells (j := 7) h rfl, own_cells (j := 8) h rfl, own_cells (j := 9) h rfl⟩, fun h => absurd h (by decide)⟩
 · exact ⟨none, 0, ⟨own_cells (j := 10) h rfl, own_cells (j := 11) h rfl, own_cells (j := 12) h rfl, own_cells (j := 13) h rfl, own_cells (j := 14) h rfl⟩, fun h => absurd h (by decide)⟩
 · exact ⟨none, 0, ⟨own_cells (j := 15) h rfl, own_cells (j := 16) h rfl, own_cells (j := 17) h rfl, own_cells (j := 18) h rfl, own_cells (j := 19) h rfl⟩, fun h => absurd h (by decide)⟩
 · exact ⟨none, 0, ⟨own_cells (j := 20) h rfl, own_cells (j := 21) h rfl, own_cells (j := 22) h rfl, own_cells (j := 23) h rfl, own_cells (j := 24) h rfl⟩, fun h => absurd h (by decide)⟩
 · exact ⟨none, 0, ⟨own_cells (j := 25) h rfl, own_cells (j := 26) h rfl, own_cells (j := 27) h rfl, own_cells (j := 28) h rfl, own_cells (j := 29) h rfl⟩, fun h => absurd h (by decide)⟩
set_option maxRecDepth 20000 in
set_option maxHeartbeats 800000 in
theorem with_any (ty num fl crc : Nat) (data sum : List UInt8) (h1 : ty ≤ 65535) (h2 : num ≤ 65535) (h3 : crc ≤ 2) (w : World) : Calls Tryz.prog 116 #[BV.v ⟨ty, num, fl, crc, data⟩, str sum] w (fun e w' => ∃ A c, e = .returned (itemV (blkT ty num fl crc data sum) A c) ∧ Ext w w' ∧ IsL w' (fun b => w.heap.size ≤ b) (blkT ty num fl crc data sum) A) := by
 have HB := hid ((Blk.new w 42 (BV.c ⟨ty, num, fl, crc, data⟩)).alloc (.cells #[.int .i64 0, .int .u64 0, .string ⟨#[]⟩, .slice none 0 0, .bool false] 52))
 have HR : Hid (Blk ((w.alloc (.cells (BV.c ⟨ty, num, fl, crc, data⟩) 42)).alloc (.cells #[.int .i64 0, .int .u64 0, .string ⟨#[]⟩, .slice none 0 0, .bool false] 52)) (w.heap.size + 1) 52 #[.int .i64 0, .int .u64 0, .string ⟨#[]⟩, .slice none 0 0, .bool false]) := by
  have := Blk.new (w.alloc (.cells (BV.c ⟨ty, num, fl, crc, data⟩) 42)) 52 #[.int .i64 0, .int .u64 0, .string ⟨#[]⟩, .slice none 0 0, .bool false]
  unfold Hid
  simpa using this
 have HE := hid (((Mod.refl [] w).alloc (.cells (BV.c ⟨ty, num, fl, crc, data⟩) 42)).alloc (.cells #[.int .i64 0, .int .u64 0, .string ⟨#[]⟩, .slice none 0 0, .bool false] 52))
 have t1 : IntKind.u64.wrap (ty : Int) = (ty : Int) := IntWalk.u64_in _ (by omega)
 have t2 : IntKind.u64.wrap (num : Int) = (num : Int) := IntWalk.u64_in _ (by omega)
 have t3 : IntKind.u64.wrap (crc : Int) = (crc : Int) := IntWalk.u64_in _ (by omega)
 go_enter Tryz.func116, Tryz.ntmps116
 go_upto_region 1 with fail
 generalize ((w.alloc (.cells (BV.c ⟨ty, num, fl, crc, data⟩) 42)).alloc (.cells #[.int .i64 0, .int .u64 0, .string ⟨#[]⟩, .slice none 0 0, .bool false] 52)) = V at *
 have HS : Hid (∀ w', Ext V w' → w'.cell? ⟨w.heap.size, 0, none⟩ = some (.int .i64 (ty : Int)) ∧ w'.cell? ⟨w.heap.size, 1, none⟩ = some (.int .i64 (num : Int)) ∧ w'.cell? ⟨w.heap.size, 2, none⟩ = some (.int .u64 (fl : Int)) ∧ w'.cell? ⟨w.heap.size, 3, none⟩ = some (.int .i64 (crc : Int)) ∧ w'.cell? ⟨w.heap.size, 4, none⟩ = some (str data)) := fun W hW => by
  have b1 := HB.out.ext hW
  exact ⟨b1.cell 0, b1.cell 1, b1.cell 2, b1.cell 3, b1.cell 4⟩
 obtain ⟨p0, p1, p2, p3, p4⟩ := HS.out V (Mod.refl _ _)
 go_cut [5] (fun s3 wx => ∃ g3, s3 = .slice (some ⟨g3, 0, none⟩) 5 5 ∧ Hid (Ext V wx ∧ Blk wx g3 52 (blk5 ty num fl crc data) ∧ w.heap.size + 2 ≤ g3))
 case first =>
  go_region_held3 (fun w' => w'.cell? ⟨w.heap.size, 0, none⟩ = some (.int .i64 (ty : Int)) ∧ w'.cell? ⟨w.heap.size, 1, none⟩ = some (.int .i64 (num : Int)) ∧ w'.cell? ⟨w.heap.size, 2, none⟩ = some (.int .u64 (fl : Int)) ∧ w'.cell? ⟨w.heap.size, 3, none⟩ = some (.int .i64 (crc : Int)) ∧ w'.cell? ⟨w.heap.size, 4, none⟩ = some (str data)) (go_keep)
    (first
     | (go_at_call 57; (try rw [t1]); (try rw [t2]); (try rw [t3]); refine (NumI_any _ _).mono ?_; rintro x w3 ⟨rfl, hb3⟩; have hx : Ext V w3 := (by (with_reducible refine Mod.trans ?_ hb3); (repeat (first | with_reducible assumption | with_reducible exact Mod.refl _ _ | with_reducible refine Mod.drew ?_ | with_reducible refine Mod.alloc ?_ _))); have z := HS.out w3 hx)
     | (go_at_call 63; refine (StrV_any _ _).mono ?_; rintro x w3 ⟨rfl, hb3⟩; have hx : Ext V w3 := (by (with_reducible refine Mod.trans ?_ hb3); (repeat (first | with_reducible assumption | with_reducible exact Mod.refl _ _ | with_reducible refine Mod.drew ?_ | with_reducible refine Mod.alloc ?_ _))); have z := HS.out w3 hx))
  all_goals go_wp2_with fail
  all_goals go_meet
  all_goals exact ⟨_, rfl, Mod.alloc hx _, Blk.new _ _ _, Nat.le_trans (Nat.succ_le_of_lt HR.out.lt) (Mod.size (S := []) (w := V) (by assumption))⟩
 obtain ⟨g3, rfl, hG⟩ := hcut
 have HE1 := hid (HE.out.trans hG.out.1)
 have HB1 := hid (HB.out.ext hG.out.1)
 have HR1 := hid (HR.out.ext hG.out.1)
 have q3 : wc.cell? ⟨w.heap.size, 3, none⟩ = some (.int .i64 (crc : Int)) := HB1.out.cell 3
 clear p0 p1 p2 p3 p4 HS t1 t2 t3 HE HB HR
 by_cases hc : crc = 0
 ·
  subst hc
  go_wp2_with fail
  refine (ListV_any 5 _ 5 _).mono ?_
  rintro e w8 ⟨rfl, hb8⟩
  have HE8 := hid (HE1.out.trans hb8)
  have HR8 : Hid (Blk w8 (w.heap.size + 1) 52 (itemC (T.mk 0 0 [] false 0 fun _ => T.nil) none 0)) := hid (HR1.out.ext hb8)
  have HG8 := hid (hG.out.2.1.ext hb8)
  obtain ⟨c0, c1, c2, c3, c4⟩ := cells5 HR8.out
  have f0 := Blk.frozen HR8.out 0
  have f1 := Blk.frozen HR8.out 1
  have f2 := Blk.frozen HR8.out 2
  have f3 := Blk.frozen HR8.out 3
  have f4 := Blk.frozen HR8.out 4
  clear hb8 q3
  go_wp2_with fail
  obtain ⟨d0, d1, d2, d3, d4⟩ := cells5 (set5_blk (t := blkT ty num fl 0 data sum) (A := some ⟨g3, 0, none⟩) (c := 5) HR8.out)
  clear c0 c1 c2 c3 c4 f0 f1 f2 f3 f4
  show bodyPost _ _ _ _ _ (set5 w8 (w.heap.size + 1) (blkT ty num fl 0 data sum) (some ⟨g3, 0, none⟩) 5)
  refine bodyPost_ret (v := itemV (blkT ty num fl 0 data sum) (some ⟨g3, 0, none⟩) 5) (by simp [results, Tryz.results116, go_sem, d0, d1, d2, d3, d4]) rfl ?_
  refine ⟨_, 5, rfl, set5_mod HE8.out (by omega), IsL.weak (fun _ _ h => by have : w.heap.size + 2 ≤ _ := h; omega) _ (IsL.mod (Q := fun b => w.heap.size + 2 ≤ b) set5_modb (fun k hq hk hm => by rw [List.mem_singleton] at hm; have : w.heap.size + 2 ≤ k := hq; omega) _ (blk5_IsL hG.out.2.2 HG8.out))⟩
 ·
  have hc2 : ((crc : Int) = 0) = False := by simp [hc]
  have hc3 : ((crc : Int) == 0) = false := by simp [hc]
  obtain ⟨i0, hi, hz0, hz1, hz2⟩ := info_parts infoItem
  go_wp2_with fail
  refine (StrV_any sum _).mono ?_
  rintro e w8 ⟨rfl, hb8⟩
  have HE8 := hid (HE1.out.trans hb8)
  have HR8 := hid (HR1.out.ext hb8)
  have hown8 := own_of_blk (base := w.heap.size + 2) (n := 5) (size := 5) (hG.out.2.1.ext hb8) hG.out.2.2 (by decide) rfl
  clear hb8 q3
  go_wp2_with (at_builtin; refine wpList_append_own _ rfl _ _ 50 rfl (w.heap.size + 2) 52 i0 _ 5 64 Tryz.underlying50 hi hz0 hz1 hz2 rfl (by decide) _ _ _ rfl (hown8.alloc _) ⟨w8.heap.size, 0, none⟩ 1 1 [Value.int .i64 (strT sum).kind, .int .u64 ((strT sum).n : Int), str (strT sum).s, .slice none (strT sum).k 0, .bool (strT sum).op] rfl rfl (news5 w8 (strT sum) none 0) (one5 (strT sum) none 0) (by decide) (by decide) (by have := HR8.out.lt; simp; omega) ?_; intro v' w9 hown' hgrow _)
  obtain ⟨g4, k4, rfl, hg4, hlt4⟩ := own_form hown'
  have HE9 := hid ((HE8.out.alloc _).grown hgrow (fun k hk => by obtain rfl : g3 = k := Option.some.inj hk; right; have := hG.out.2.2; omega))
  have HR9 := hid ((HR8.out.alloc _).mod (Mod.grown (S := [g3]) (Mod.refl _ _) hgrow (fun k hk => by obtain rfl : g3 = k := Option.some.inj hk; left; simp)) (by have := hG.out.2.2; simp; omega))
  have HL9 := hid (blk6_IsL (sum := sum) (Q := fun b => w.heap.size + 2 ≤ b) hc (show w.heap.size + 2 ≤ g4 by omega) hlt4 hown')
  clear hown8 hown' hgrow hlt4 hz0 hz1 hz2 hi
  go_wp2_with fail
  refine (ListV_any 6 _ k4 _).mono ?_
  rintro e wA ⟨rfl, hbA⟩
  have HEA := hid (HE9.out.trans hbA)
  have HRA : Hid (Blk wA (w.heap.size + 1) 52 (itemC (T.mk 0 0 [] false 0 fun _ => T.nil) none 0)) := hid (HR9.out.ext hbA)
  have HLA := hid (HL9.out.ext hbA)
  obtain ⟨c0, c1, c2, c3, c4⟩ := cells5 HRA.out
  have f0 := Blk.frozen HRA.out 0
  have f1 := Blk.frozen HRA.out 1
  have f2 := Blk.frozen HRA.out 2
  have f3 := Blk.frozen HRA.out 3
  have f4 := Blk.frozen HRA.out 4
  clear hbA
  go_wp2_with fail
  obtain ⟨d0, d1, d2, d3, d4⟩ := cells5 (set5_blk (t := T.mk 4 0 [] false 6 fun _ => T.nil) (A := some ⟨g4, 0, none⟩) (c := k4) HRA.out)
  clear c0 c1 c2 c3 c4 f0 f1 f2 f3 f4
  show bodyPost _ _ _ _ _ (set5 wA (w.heap.size + 1) (T.mk 4 0 [] false 6 fun _ => T.nil) (some ⟨g4, 0, none⟩) k4)
  refine bodyPost_ret (v := itemV (T.mk 4 0 [] false 6 fun _ => T.nil) (some ⟨g4, 0, none⟩) k4) (by simp [results, Tryz.results116, go_sem, d0, d1, d2, d3, d4]) rfl ?_
  refine ⟨some ⟨g4, 0, none⟩, k4, ?_, set5_mod HEA.out (by omega), IsL.weak (fun _ _ h => by have : w.heap.size + 2 ≤ _ := h; omega) _ (IsL.mod (Q := fun b => w.heap.size + 2 ≤ b) set5_modb (fun k hq hk hm => by rw [List.mem_singleton] at hm; have : w.heap.size + 2 ≤ k := hq; omega) _ HLA.out)⟩
  simp only [blkT, if_neg hc]
  rfl
end Go.Proofs.YtfgipgpbjfhflaaGreat


namespace Go.Proofs.YtfgipgpbjfhflaaGreat
open Go.RowKit
set_option linter.unusedVariables false
set_option linter.unusedSimpArgs false

theorem blkT_ok {ty num fl crc : Nat} {data sum : List UInt8} (h1 : ty ≤ 65535) (h2 : num ≤ 65535) (h3 : fl ≤ 255) (h4 : crc ≤ 2) (h5 : data.length ≤ 4000) (h6 : sum.length ≤ 4000) : (blkT ty num fl crc data sum).ok := by
 unfold blkT T.ok
 refine ⟨by omega, by omega, by simp, by split <;> omega, fun i hi => ?_⟩
 dsimp only
 split
 · exact num_ok (by omega)
 ·
  split
  · exact num_ok (by omega)
  ·
   split
   · exact num_ok (by omega)
   ·
    split
    · exact num_ok (by omega)
    ·
     split
     · exact str_ok (by omega)
     ·
      split
      · exact str_ok (by omega)
      ·
       have : i < 6 := by split at hi <;> omega
       omega

set_option maxRecDepth 20000 in
theorem summed_0 (t : T) (A : Option Addr) (c : Nat) (w : World) : Calls Tryz.prog 106 #[.int .i64 0, itemV t A c] w (Ret (itemV t A c) w) := by
 have HB := hid (Blk.new w 52 (itemC t A c))
 go_enter Tryz.func106, Tryz.ntmps106
 go_wp2_with fail
 refine bodyPost_ret (v := itemV t A c) (by simp [results, Tryz.results106, go_sem]) rfl (Ret.mk rfl (((Mod.refl _ _).alloc _).alloc _))

set_option maxRecDepth 20000 in
set_option maxHeartbeats 800000 in
theorem Item_ok (ty num fl crc : Nat) (data : List UInt8) (hb : BV.right ⟨ty, num, fl, crc, data⟩ = 0) (t : T) (KS : Hid (∀ N A c W, N ≤ W.heap.size → IsL W (fun b => N ≤ b) (blkT ty num fl crc data []) A → Calls Tryz.prog 106 #[.int .i64 (crc : Int), itemV (blkT ty num fl crc data []) A c] W (fun e w' => ∃ A c, e = .returned (itemV t A c) ∧ Ext W w' ∧ IsL w' (fun b => N ≤ b) t A))) (w : World) : Calls Tryz.prog 83 #[BV.v ⟨ty, num, fl, crc, data⟩] w (fun e w' => ∃ A c, e = .returned (.tuple #[itemV t A c, .int .i64 0]) ∧ Ext w w' ∧ IsL w' (fun b => w.heap.size ≤ b) t A) := by
 have h := BV.right_zero hb
 simp only [] at h
 have HB := hid ((Blk.new w 42 (BV.c ⟨ty, num, fl, crc, data⟩)).alloc (.cells #[.int .i64 0, .int .u64 0, .string ⟨#[]⟩, .slice none 0 0, .bool false] 52))
 have HE0 := hid (((Mod.refl [] w).alloc (.cells (BV.c ⟨ty, num, fl, crc, data⟩) 42)).alloc (.cells #[.int .i64 0, .int .u64 0, .string ⟨#[]⟩, .slice none 0 0, .bool false] 52))
 have HR : Hid (Blk ((w.alloc (.cells (BV.c ⟨ty, num, fl, crc, data⟩) 42)).alloc (.cells #[.int .i64 0, .int .u64 0, .string ⟨#[]⟩, .slice none 0 0, .bool false] 52)) (w.heap.size + 1) 52 (itemC (numT 0) none 0)) := by
  have := Blk.new (w.alloc (.cells (BV.c ⟨ty, num, fl, crc, data⟩) 42)) 52 (itemC (numT 0) none 0)
  unfold Hid
  simpa [itemC, numT, T.kind, T.n, T.s, T.k, T.op] using this
 have k1 : Hid (∀ W, Calls Tryz.prog 45 #[BV.v ⟨ty, num, fl, crc, data⟩] W (Ret (.int .i64 0) W)) := fun W => by have := cbRight_any ⟨ty, num, fl, crc, data⟩ W; rw [hb] at this; exact this
 go_enter Tryz.func83, Tryz.ntmps83
 go_wp2_with fail
 refine (k1.out _).mono ?_
 rintro e w1 ⟨rfl, hb1⟩
 have HE1 := hid (HE0.out.trans hb1)
 have HR1 := hid (HR.out.ext hb1)
 have HC := hid (HB.out.ext hb1)
 obtain ⟨c0, c1, c2, c3, c4⟩ : w1.cell? ⟨w.heap.size, 0, none⟩ = some (.int .i64 (ty : Int)) ∧ w1.cell? ⟨w.heap.size, 1, none⟩ = some (.int .i64 (num : Int)) ∧ w1.cell? ⟨w.heap.size, 2, none⟩ = some (.int .u64 (fl : Int)) ∧ w1.cell? ⟨w.heap.size, 3, none⟩ = some (.int .i64 (crc : Int)) ∧ w1.cell? ⟨w.heap.size, 4, none⟩ = some (str data) := ⟨HC.out.cell 0, HC.out.cell 1, HC.out.cell 2, HC.out.cell 3, HC.out.cell 4⟩
 clear hb1
 have HN : Hid (w.heap.size + 2 ≤ w1.heap.size) := Nat.succ_le_of_lt HR1.out.lt
 go_upto_region 4 with fail
 have HS : Hid (∀ w', Ext w1 w' → w'.cell? ⟨w.heap.size, 0, none⟩ = some (.int .i64 (ty : Int)) ∧ w'.cell? ⟨w.heap.size, 1, none⟩ = some (.int .i64 (num : Int)) ∧ w'.cell? ⟨w.heap.size, 2, none⟩ = some (.int .u64 (fl : Int)) ∧ w'.cell? ⟨w.heap.size, 3, none⟩ = some (.int .i64 (crc : Int)) ∧ w'.cell? ⟨w.heap.size, 4, none⟩ = some (str data)) := fun W hW => by
  have b1 := HC.out.ext hW
  exact ⟨b1.cell 0, b1.cell 1, b1.cell 2, b1.cell 3, b1.cell 4⟩
 obtain ⟨g0, g1, g2, g3, g4⟩ := cells5 HR1.out
 have f0 := Blk.frozen HR1.out 0
 have f1 := Blk.frozen HR1.out 1
 have f2 := Blk.frozen HR1.out 2
 have f3 := Blk.frozen HR1.out 3
 have f4 := Blk.frozen HR1.out 4
 go_region_held3 (fun w' => w'.cell? ⟨w.heap.size, 0, none⟩ = some (.int .i64 (ty : Int)) ∧ w'.cell? ⟨w.heap.size, 1, none⟩ = some (.int .i64 (num : Int)) ∧ w'.cell? ⟨w.heap.size, 2, none⟩ = some (.int .u64 (fl : Int)) ∧ w'.cell? ⟨w.heap.size, 3, none⟩ = some (.int .i64 (crc : Int)) ∧ w'.cell? ⟨w.heap.size, 4, none⟩ = some (str data)) (go_keep)
   (first
    | (go_at_call 116; refine (with_any ty num fl crc data [] (by omega) (by omega) (by omega) _).mono ?_; rintro x w3 ⟨A, c, rfl, hb3, hl3⟩; have hl3 := IsL.weak (R := fun b => w.heap.size + 2 ≤ b) (fun k _ hq => Nat.le_trans (Nat.le_trans HN.out (Mod.size (S := []) (by first | with_reducible exact Mod.refl _ _ | with_reducible exact (Mod.refl _ _).drew))) hq) _ hl3; have hx : Ext w1 w3 := (by (with_reducible refine Mod.trans ?_ hb3); (repeat (first | with_reducible assumption | with_reducible exact Mod.refl _ _ | with_reducible refine Mod.drew ?_ | with_reducible refine Mod.alloc ?_ _))); have z := HS.out w3 hx)
    | (go_at_call 106; refine (KS.out (w.heap.size + 2) _ _ _ (Nat.le_trans HN.out (Mod.size hx)) hl3).mono ?_; rintro x w4 ⟨A2, c2, rfl, hb4, hl4⟩; have hx : Ext w1 w4 := (by (with_reducible refine Mod.trans ?_ hb4); (repeat (first | with_reducible assumption | with_reducible exact Mod.refl _ _ | with_reducible refine Mod.drew ?_ | with_reducible refine Mod.alloc ?_ _))); have z := HS.out w4 hx; have HR4 := hid (HR1.out.ext hx); obtain ⟨g0, g1, g2, g3, g4⟩ := cells5 HR4.out; have f0 := Blk.frozen HR4.out 0; have f1 := Blk.frozen HR4.out 1; have f2 := Blk.frozen HR4.out 2; have f3 := Blk.frozen HR4.out 3; have f4 := Blk.frozen HR4.out 4))
 all_goals go_wp2_with fail
 all_goals obtain ⟨d0, d1, d2, d3, d4⟩ := cells5 (set5_blk (t := t) (A := A2) (c := c2) HR4.out)
 all_goals clear g0 g1 g2 g3 g4 f0 f1 f2 f3 f4
 all_goals show bodyPost _ _ _ _ _ (set5 w4 (w.heap.size + 1) t A2 c2)
 all_goals refine bodyPost_ret (v := .tuple #[itemV t A2 c2, .int .i64 0]) (by simp [results, Tryz.results83, go_sem, d0, d1, d2, d3, d4]) rfl ?_
 all_goals exact ⟨A2, c2, rfl, set5_mod (HE1.out.trans hx) (by omega), IsL.weak (fun _ _ h => by have : w.heap.size + 2 ≤ _ := h; omega) _ (IsL.mod (Q := fun b => w.heap.size + 2 ≤ b) set5_modb (fun k hq hk hm => by rw [List.mem_singleton] at hm; have : w.heap.size + 2 ≤ k := hq; omega) _ hl4)⟩
end Go.Proofs.YtfgipgpbjfhflaaGreat


namespace Go.Proofs.YtfgipgpbjfhflaaGreat
open Go.RowKit
set_option linter.unusedVariables false
set_option linter.unusedSimpArgs false

set_option maxRecDepth 20000 in
set_option maxHeartbeats 800000 in
theorem Build_ok (ty num fl crc : Nat) (data : List UInt8) (hb : BV.right ⟨ty, num, fl, crc, data⟩ = 0) (t : T) (hok : t.ok) (hsz : t.size ≤ 100000) (KS : Hid (∀ N A c W, N ≤ W.heap.size → IsL W (fun b => N ≤ b) (blkT ty num fl crc data []) A → Calls Tryz.prog 106 #[.int .i64 (crc : Int), itemV (blkT ty num fl crc data []) A c] W (fun e w' => ∃ A c, e = .returned (itemV t A c) ∧ Ext W w' ∧ IsL w' (fun b => N ≤ b) t A))) (w : World) : Calls Tryz.prog 52 #[BV.v ⟨ty, num, fl, crc, data⟩] w (Ret (buildV t) w) := by
 have HE0 := hid ((Mod.refl [] w).alloc (.cells (BV.c ⟨ty, num, fl, crc, data⟩) 42))
 go_enter Tryz.func52, Tryz.ntmps52
 go_wp2_with fail
 refine (Item_ok ty num fl crc data hb t KS _).mono ?_
 rintro e w1 ⟨A, c, rfl, hb1, hl1⟩
 have HE1 := hid (HE0.out.trans hb1)
 have HL1 := hid hl1
 clear hb1 hl1
 go_wp2_with fail
 refine (iBuild_any t hok hsz A c _ (IsL.ext (IsL.weak (fun _ _ _ => trivial) _ HL1.out) ((Mod.refl _ _).alloc _))).mono ?_
 rintro e w2 ⟨rfl, hb2⟩
 have HE2 := hid ((HE1.out.alloc _).trans hb2)
 clear hb2
 obtain ⟨s, E, hV⟩ : ∃ s E, buildV t = .tuple #[str s, .int .i64 E] := by unfold buildV; split; exact ⟨_, _, rfl⟩; exact ⟨_, _, rfl⟩
 rw [hV]
 go_wp2_with fail
 refine bodyPost_ret (v := .tuple #[str s, .int .i64 E]) (by simp [results, Tryz.results52, go_sem]) rfl (Ret.mk hV.symm HE2.out)

end Go.Proofs.YtfgipgpbjfhflaaGreat
