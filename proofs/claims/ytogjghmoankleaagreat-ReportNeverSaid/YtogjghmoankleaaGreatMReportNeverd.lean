/-
  Primaries: their items, made.
  Rows of elements of a fixed number of cells, plainly.
  Why a block is not right, as the code and the reference tell it.
  Bundles: the first block of a type, as the code finds it.
  Rows of blocks of the call's own: their cells; what is appended to them.
  A row of items of the call's own that grows; what hangs on its items lies elsewhere.
  A struct in the midst of a block, loaded in a region whose operations are held.
  Reports: their item.
-/
import Derived.Test.YtogjghmoankleaaGreatMReportNeverc
import Derived.Deep.AppendLies
import Derived.Deep.RegionLaw
import Derived.Laws.OwnMore
import Derived.OwnWalk
import Derived.OneCell

namespace Go.Proofs.YtogjghmoankleaaGreat
open Go.RowKit
set_option linter.unusedVariables false
set_option linter.unusedSimpArgs false

/-- A list's items by number; where what hangs on them lies. -/
def chL (L : List T) (i : Nat) : T := (L[i]?).getD T.nil
def acL (a : List (Option Addr × Nat)) (i : Nat) : Option Addr × Nat := (a[i]?).getD (none, 0)
theorem list_IsL {W : World} {Q : Nat → Prop} {base g c : Nat} {L : List T} {a : List (Option Addr × Nat)} (hlt : g < W.heap.size) (q : Q g) (h : W.ownsRow base 64 5 (.slice (some ⟨g, 0, none⟩) L.length c) L.length (flatC (chL L) (acL a) L.length)) (hI : ∀ i, i < L.length → IsL W Q (chL L i) (acL a i).1) : IsL W Q (listT L) (some ⟨g, 0, none⟩) := own_IsL hlt q h hI
theorem num_IsL {W : World} {Q : Nat → Prop} {n : Nat} {A : Option Addr} : IsL W Q (numT n) A := IsL.leaf
theorem str_IsL {W : World} {Q : Nat → Prop} {s : List UInt8} {A : Option Addr} : IsL W Q (strT s) A := IsL.leaf
set_option maxRecDepth 20000 in
set_option maxHeartbeats 3200000 in
theorem parts_any (p : PV) (k : Nat) (hc : p.crc = (k : Int)) (hk : k ≤ 2) (hr : p.ranged = true) (sum : List UInt8) (w : World) : Calls Tryz.prog 109 #[.agg p.c, str sum] w (fun e w' => ∃ A c, e = .returned (itemV (priT p k sum) A c) ∧ Ext w w' ∧ IsL w' (fun b => w.heap.size ≤ b) (priT p k sum) A) := by
  obtain ⟨h1, h2, h3, _, _, hfl, ht, hq, hl, ho, hn⟩ := PV.ranged_spec hr
  have KD := hid (fun W => eidItem_ok p.d h1 W)
  have KS := hid (fun W => eidItem_ok p.s h2 W)
  have KR := hid (fun W => eidItem_ok p.r h3 W)
  have HE := hid (((Mod.refl [] w).alloc (.cells p.c 34)).alloc (.cells #[.int .i64 0, .int .u64 0, .string ⟨#[]⟩, .slice none 0 0, .bool false] 64))
  have HB := hid ((Blk.new w 34 p.c).alloc (.cells #[.int .i64 0, .int .u64 0, .string ⟨#[]⟩, .slice none 0 0, .bool false] 64))
  have HR : Hid (Blk ((w.alloc (.cells p.c 34)).alloc (.cells #[.int .i64 0, .int .u64 0, .string ⟨#[]⟩, .slice none 0 0, .bool false] 64)) (w.heap.size + 1) 64 (itemC (numT 0) none 0)) := Blk.newL _ _ _ (by simp)
  have f0 : (0 : Int) ≤ (p.fl : Int) := by omega
  have HFL : Hid (p.fl < 18446744073709551616) := by unfold Hid; omega
  have t1 : IntKind.u64.wrap (k : Int) = (k : Int) := IntWalk.u64_in _ (by omega)
  have HK := hid hk
  have HC := hid hc
  clear h1 h2 h3 hfl ht hq hl ho hn hr hc hk
  go_enter Tryz.func109, Tryz.ntmps109
  go_upto_region 1 with fail
  generalize (w.alloc (.cells p.c 34)).alloc (.cells #[.int .i64 0, .int .u64 0, .string ⟨#[]⟩, .slice none 0 0, .bool false] 64) = V at *
  have HV : Hid (w.heap.size + 2 ≤ V.heap.size) := Nat.succ_le_of_lt HR.out.lt
  have c0 : V.cell? ⟨w.heap.size, 2, none⟩ = some (.int .i64 p.d.sch) := HB.out.cell 2
  have c1 : V.cell? ⟨w.heap.size, 3, none⟩ = some (str p.d.name) := HB.out.cell 3
  have c2 : V.cell? ⟨w.heap.size, 4, none⟩ = some (.int .u64 (p.d.node : Int)) := HB.out.cell 4
  have c3 : V.cell? ⟨w.heap.size, 5, none⟩ = some (.int .u64 (p.d.svc : Int)) := HB.out.cell 5
  go_upto_region 2 with (go_at_call 47; refine (KD.out _).mono ?_; rintro x wd ⟨Ad, rfl, hb, hl⟩)
  clear c0 c1 c2 c3
  have HE := hid ((HE.out.trans hb).alloc (.cells (itemC (eidT p.d) Ad 2) 64))
  have HB := hid ((HB.out.ext hb).alloc (.cells (itemC (eidT p.d) Ad 2) 64))
  have HR := hid ((HR.out.ext hb).alloc (.cells (itemC (eidT p.d) Ad 2) 64))
  have Dd := hid (Blk.new wd 64 (itemC (eidT p.d) Ad 2))
  have Nd : Hid (V.heap.size ≤ wd.heap.size) := hb.size
  have hl := IsL.weak (R := fun b => w.heap.size + 2 ≤ b ∧ b < wd.heap.size) (fun b h1 h2 => ⟨by have := HV.out; have h2 : V.heap.size ≤ b := h2; omega, h1⟩) _ hl
  have Ld := hid (IsL.ext hl ((Mod.refl [] wd).alloc (.cells (itemC (eidT p.d) Ad 2) 64)))
  clear hb hl
  generalize hGd : wd.alloc (.cells (itemC (eidT p.d) Ad 2) 64) = Vd at *
  have hSd : Hid (wd.heap.size < Vd.heap.size) := hid (by rw [← hGd]; simp)
  clear hGd
  have c0 : Vd.cell? ⟨w.heap.size, 6, none⟩ = some (.int .i64 p.s.sch) := HB.out.cell 6
  have c1 : Vd.cell? ⟨w.heap.size, 7, none⟩ = some (str p.s.name) := HB.out.cell 7
  have c2 : Vd.cell? ⟨w.heap.size, 8, none⟩ = some (.int .u64 (p.s.node : Int)) := HB.out.cell 8
  have c3 : Vd.cell? ⟨w.heap.size, 9, none⟩ = some (.int .u64 (p.s.svc : Int)) := HB.out.cell 9
  go_upto_region 3 with (go_at_call 47; refine (KS.out _).mono ?_; rintro x ws ⟨As, rfl, hb, hl⟩)
  clear c0 c1 c2 c3
  have HE := hid ((HE.out.trans hb).alloc (.cells (itemC (eidT p.s) As 2) 64))
  have HB := hid ((HB.out.ext hb).alloc (.cells (itemC (eidT p.s) As 2) 64))
  have HR := hid ((HR.out.ext hb).alloc (.cells (itemC (eidT p.s) As 2) 64))
  have Ds := hid (Blk.new ws 64 (itemC (eidT p.s) As 2))
  have Ns : Hid (Vd.heap.size ≤ ws.heap.size) := hb.size
  have hl := IsL.weak (R := fun b => w.heap.size + 2 ≤ b ∧ b < ws.heap.size) (fun b h1 h2 => ⟨by have := HV.out; have h2 : Vd.heap.size ≤ b := h2; have := hSd.out; have := Nd.out; omega, h1⟩) _ hl
  have Ls := hid (IsL.ext hl ((Mod.refl [] ws).alloc (.cells (itemC (eidT p.s) As 2) 64)))
  have Dd := hid ((Dd.out.ext hb).alloc (.cells (itemC (eidT p.s) As 2) 64))
  have Ld := hid (IsL.ext (Ld.out.ext hb) ((Mod.refl [] ws).alloc (.cells (itemC (eidT p.s) As 2) 64)))
  clear hb hl
  generalize hGs : ws.alloc (.cells (itemC (eidT p.s) As 2) 64) = Vs at *
  have hSs : Hid (ws.heap.size < Vs.heap.size) := hid (by rw [← hGs]; simp)
  clear hGs
  have c0 : Vs.cell? ⟨w.heap.size, 10, none⟩ = some (.int .i64 p.r.sch) := HB.out.cell 10
  have c1 : Vs.cell? ⟨w.heap.size, 11, none⟩ = some (str p.r.name) := HB.out.cell 11
  have c2 : Vs.cell? ⟨w.heap.size, 12, none⟩ = some (.int .u64 (p.r.node : Int)) := HB.out.cell 12
  have c3 : Vs.cell? ⟨w.heap.size, 13, none⟩ = some (.int .u64 (p.r.svc : Int)) := HB.out.cell 13
  go_upto_region 4 with (go_at_call 47; refine (KR.out _).mono ?_; rintro x wr ⟨Ar, rfl, hb, hl⟩)
  clear c0 c1 c2 c3
  have HE := hid ((HE.out.trans hb).alloc (.cells (itemC (eidT p.r) Ar 2) 64))
  have HB := hid ((HB.out.ext hb).alloc (.cells (itemC (eidT p.r) Ar 2) 64))
  have HR := hid ((HR.out.ext hb).alloc (.cells (itemC (eidT p.r) Ar 2) 64))
  have Dr := hid (Blk.new wr 64 (itemC (eidT p.r) Ar 2))
  have Nr : Hid (Vs.heap.size ≤ wr.heap.size) := hb.size
  have hl := IsL.weak (R := fun b => w.heap.size + 2 ≤ b ∧ b < wr.heap.size) (fun b h1 h2 => ⟨by have := HV.out; have h2 : Vs.heap.size ≤ b := h2; have := hSd.out; have := Nd.out; have := hSs.out; have := Ns.out; omega, h1⟩) _ hl
  have Lr := hid (IsL.ext hl ((Mod.refl [] wr).alloc (.cells (itemC (eidT p.r) Ar 2) 64)))
  have Dd := hid ((Dd.out.ext hb).alloc (.cells (itemC (eidT p.r) Ar 2) 64))
  have Ld := hid (IsL.ext (Ld.out.ext hb) ((Mod.refl [] wr).alloc (.cells (itemC (eidT p.r) Ar 2) 64)))
  have Ds := hid ((Ds.out.ext hb).alloc (.cells (itemC (eidT p.r) Ar 2) 64))
  have Ls := hid (IsL.ext (Ls.out.ext hb) ((Mod.refl [] wr).alloc (.cells (itemC (eidT p.r) Ar 2) 64)))
  clear hb hl
  generalize hGr : wr.alloc (.cells (itemC (eidT p.r) Ar 2) 64) = Vr at *
  have hSr : Hid (wr.heap.size < Vr.heap.size) := hid (by rw [← hGr]; simp)
  clear hGr
  have xf : ∀ e : Later Vr, e.x.cell? ⟨w.heap.size, 0, none⟩ = some (.int .u64 (p.fl : Int)) := HB.out.cellL 0 rfl
  have xg : ∀ e : Later Vr, e.x.cell? ⟨w.heap.size, 1, none⟩ = some (.int .i64 (k : Int)) := HB.out.cellL 1 (by show some (Value.int .i64 p.crc) = _; rw [HC.out])
  have xt : ∀ e : Later Vr, e.x.cell? ⟨w.heap.size, 14, none⟩ = some (.int .u64 (p.t : Int)) := HB.out.cellL 14 rfl
  have xq : ∀ e : Later Vr, e.x.cell? ⟨w.heap.size, 15, none⟩ = some (.int .u64 (p.q : Int)) := HB.out.cellL 15 rfl
  have xl : ∀ e : Later Vr, e.x.cell? ⟨w.heap.size, 16, none⟩ = some (.int .u64 (p.l : Int)) := HB.out.cellL 16 rfl
  have xd0 : ∀ e : Later Vr, e.x.cell? ⟨wd.heap.size, 0, none⟩ = some (.int .i64 (eidT p.d).kind) := Dd.out.cellL 0 rfl
  have xd1 : ∀ e : Later Vr, e.x.cell? ⟨wd.heap.size, 1, none⟩ = some (.int .u64 ((eidT p.d).n : Int)) := Dd.out.cellL 1 rfl
  have xd2 : ∀ e : Later Vr, e.x.cell? ⟨wd.heap.size, 2, none⟩ = some (str (eidT p.d).s) := Dd.out.cellL 2 rfl
  have xd3 : ∀ e : Later Vr, e.x.cell? ⟨wd.heap.size, 3, none⟩ = some (.slice Ad (eidT p.d).k 2) := Dd.out.cellL 3 rfl
  have xd4 : ∀ e : Later Vr, e.x.cell? ⟨wd.heap.size, 4, none⟩ = some (.bool (eidT p.d).op) := Dd.out.cellL 4 rfl
  have xs0 : ∀ e : Later Vr, e.x.cell? ⟨ws.heap.size, 0, none⟩ = some (.int .i64 (eidT p.s).kind) := Ds.out.cellL 0 rfl
  have xs1 : ∀ e : Later Vr, e.x.cell? ⟨ws.heap.size, 1, none⟩ = some (.int .u64 ((eidT p.s).n : Int)) := Ds.out.cellL 1 rfl
  have xs2 : ∀ e : Later Vr, e.x.cell? ⟨ws.heap.size, 2, none⟩ = some (str (eidT p.s).s) := Ds.out.cellL 2 rfl
  have xs3 : ∀ e : Later Vr, e.x.cell? ⟨ws.heap.size, 3, none⟩ = some (.slice As (eidT p.s).k 2) := Ds.out.cellL 3 rfl
  have xs4 : ∀ e : Later Vr, e.x.cell? ⟨ws.heap.size, 4, none⟩ = some (.bool (eidT p.s).op) := Ds.out.cellL 4 rfl
  have xr0 : ∀ e : Later Vr, e.x.cell? ⟨wr.heap.size, 0, none⟩ = some (.int .i64 (eidT p.r).kind) := Dr.out.cellL 0 rfl
  have xr1 : ∀ e : Later Vr, e.x.cell? ⟨wr.heap.size, 1, none⟩ = some (.int .u64 ((eidT p.r).n : Int)) := Dr.out.cellL 1 rfl
  have xr2 : ∀ e : Later Vr, e.x.cell? ⟨wr.heap.size, 2, none⟩ = some (str (eidT p.r).s) := Dr.out.cellL 2 rfl
  have xr3 : ∀ e : Later Vr, e.x.cell? ⟨wr.heap.size, 3, none⟩ = some (.slice Ar (eidT p.r).k 2) := Dr.out.cellL 3 rfl
  have xr4 : ∀ e : Later Vr, e.x.cell? ⟨wr.heap.size, 4, none⟩ = some (.bool (eidT p.r).op) := Dr.out.cellL 4 rfl
  obtain ⟨e, he⟩ := Later.self Vr
  have HTC : Hid (∀ L : List T, (listT L).k = L.length) := fun L => rfl
  rw [he]
  clear he
  go_region_held3 (fun w' => w'.cell? ⟨w.heap.size, 0, none⟩ = some (.int .u64 (p.fl : Int)) ∧ w'.cell? ⟨w.heap.size, 1, none⟩ = some (.int .i64 (k : Int)) ∧ w'.cell? ⟨w.heap.size, 14, none⟩ = some (.int .u64 (p.t : Int)) ∧ w'.cell? ⟨w.heap.size, 15, none⟩ = some (.int .u64 (p.q : Int)) ∧ w'.cell? ⟨w.heap.size, 16, none⟩ = some (.int .u64 (p.l : Int)) ∧ w'.cell? ⟨wd.heap.size, 0, none⟩ = some (.int .i64 (eidT p.d).kind) ∧ w'.cell? ⟨wd.heap.size, 1, none⟩ = some (.int .u64 ((eidT p.d).n : Int)) ∧ w'.cell? ⟨wd.heap.size, 2, none⟩ = some (str (eidT p.d).s) ∧ w'.cell? ⟨wd.heap.size, 3, none⟩ = some (.slice Ad (eidT p.d).k 2) ∧ w'.cell? ⟨wd.heap.size, 4, none⟩ = some (.bool (eidT p.d).op) ∧ w'.cell? ⟨ws.heap.size, 0, none⟩ = some (.int .i64 (eidT p.s).kind) ∧ w'.cell? ⟨ws.heap.size, 1, none⟩ = some (.int .u64 ((eidT p.s).n : Int)) ∧ w'.cell? ⟨ws.heap.size, 2, none⟩ = some (str (eidT p.s).s) ∧ w'.cell? ⟨ws.heap.size, 3, none⟩ = some (.slice As (eidT p.s).k 2) ∧ w'.cell? ⟨ws.heap.size, 4, none⟩ = some (.bool (eidT p.s).op) ∧ w'.cell? ⟨wr.heap.size, 0, none⟩ = some (.int .i64 (eidT p.r).kind) ∧ w'.cell? ⟨wr.heap.size, 1, none⟩ = some (.int .u64 ((eidT p.r).n : Int)) ∧ w'.cell? ⟨wr.heap.size, 2, none⟩ = some (str (eidT p.r).s) ∧ w'.cell? ⟨wr.heap.size, 3, none⟩ = some (.slice Ar (eidT p.r).k 2) ∧ w'.cell? ⟨wr.heap.size, 4, none⟩ = some (.bool (eidT p.r).op)) (go_keep)
    (first
      | (go_at_call 31; (try rw [t1]); refine (NumI_any _ _).mono ?_; rintro x w3 ⟨rfl, hb3⟩; (try have HP := hid (Blk.ext HP.out hb3)); obtain ⟨e, rfl⟩ : ∃ e' : Later Vr, w3 = e'.x := ⟨⟨w3, Mod.trans (by first | exact Later.h _ | exact (Later.h _).drew | exact (Later.h _).alloc _) hb3⟩, rfl⟩)
      | (go_at_call 48; have HP := hid (Blk.new e.x 64 #[.int .i64 0, .int .u64 (p.t : Int), str [], .slice none 0 0, .bool false, .int .i64 0, .int .u64 (p.q : Int), str [], .slice none 0 0, .bool false]); have HG2 : Hid (w.heap.size + 2 ≤ e.x.heap.size) := Nat.le_trans (Nat.succ_le_of_lt HR.out.lt) e.h.size; generalize e.x.heap.size = g2 at *; refine (ListV_any _ _ _ _).mono ?_; rintro x w3 ⟨rfl, hb3⟩; have HP := hid (Blk.ext HP.out hb3); obtain ⟨e, rfl⟩ : ∃ e' : Later Vr, w3 = e'.x := ⟨⟨w3, Mod.trans (by first | exact Later.h _ | exact (Later.h _).drew | exact (Later.h _).alloc _) hb3⟩, rfl⟩))
  go_upto_region 5 with fail
  clear xf xg xt xq xl xd0 xd1 xd2 xd3 xd4 xs0 xs1 xs2 xs3 xs4 xr0 xr1 xr2 xr3 xr4
  generalize hV8 : World.alloc e.x _ = V8
  have HE : Hid (Ext w V8) := hid (by rw [← hV8]; exact (HE.out.trans e.h).alloc _)
  have HB : Hid (Blk V8 w.heap.size 34 p.c) := hid (by rw [← hV8]; exact (HB.out.later e).alloc _)
  have HR : Hid (Blk V8 (w.heap.size + 1) 64 (itemC (numT 0) none 0)) := hid (by rw [← hV8]; exact (HR.out.later e).alloc _)
  have H8 : Hid (Blk V8 e.x.heap.size 64 #[.int .i64 0, .int .u64 7, str [], .slice none 0 0, .bool false, .int .i64 0, .int .u64 (p.fl : Int), str [], .slice none 0 0, .bool false, .int .i64 0, .int .u64 (k : Int), str [], .slice none 0 0, .bool false, .int .i64 (eidT p.d).kind, .int .u64 ((eidT p.d).n : Int), str (eidT p.d).s, .slice Ad (eidT p.d).k 2, .bool (eidT p.d).op, .int .i64 (eidT p.s).kind, .int .u64 ((eidT p.s).n : Int), str (eidT p.s).s, .slice As (eidT p.s).k 2, .bool (eidT p.s).op, .int .i64 (eidT p.r).kind, .int .u64 ((eidT p.r).n : Int), str (eidT p.r).s, .slice Ar (eidT p.r).k 2, .bool (eidT p.r).op, .int .i64 4, .int .u64 0, str [], .slice (some ⟨g2, 0, none⟩) 2 2, .bool false, .int .i64 0, .int .u64 (p.l : Int), str [], .slice none 0 0, .bool false]) := hid (by rw [← hV8]; exact Blk.new _ _ _)
  have HPG := hid HP.out.lt
  have HP : Hid (Blk V8 g2 64 #[.int .i64 0, .int .u64 (p.t : Int), str [], .slice none 0 0, .bool false, .int .i64 0, .int .u64 (p.q : Int), str [], .slice none 0 0, .bool false]) := hid (by rw [← hV8]; exact HP.out.alloc _)
  have Ld : Hid (IsL V8 (fun b => w.heap.size + 2 ≤ b ∧ b < wd.heap.size) (eidT p.d) Ad) := hid (by rw [← hV8]; exact IsL.ext (Ld.out.ext e.h) ((Mod.refl [] e.x).alloc _))
  have Ls : Hid (IsL V8 (fun b => w.heap.size + 2 ≤ b ∧ b < ws.heap.size) (eidT p.s) As) := hid (by rw [← hV8]; exact IsL.ext (Ls.out.ext e.h) ((Mod.refl [] e.x).alloc _))
  have Lr : Hid (IsL V8 (fun b => w.heap.size + 2 ≤ b ∧ b < wr.heap.size) (eidT p.r) Ar) := hid (by rw [← hV8]; exact IsL.ext (Lr.out.ext e.h) ((Mod.refl [] e.x).alloc _))
  have HG8 : Hid (Vr.heap.size ≤ e.x.heap.size) := e.h.size
  clear hV8 hb3
  generalize e.x.heap.size = g8 at *
  have HO : Hid (V8.ownsRow (w.heap.size + 2) 64 5 (.slice (some ⟨g8, 0, none⟩) 8 8) 8 (flatC (chL [numT 7, numT p.fl, numT k, eidT p.d, eidT p.s, eidT p.r, listT [numT p.t, numT p.q], numT p.l]) (acL [(none, 0), (none, 0), (none, 0), (Ad, 2), (As, 2), (Ar, 2), (some ⟨g2, 0, none⟩, 2), (none, 0)]) 8)) := own_of_blk H8.out (by have := HG8.out; have := hSr.out; have := Nr.out; have := hSs.out; have := Ns.out; have := hSd.out; have := Nd.out; have := HV.out; omega) (by decide) rfl
  have HGG : Hid (g8 ≤ g8) := Nat.le_refl _
  have HG8b : Hid (w.heap.size + 2 ≤ g8) := by have := HG8.out; have := hSr.out; have := Nr.out; have := hSs.out; have := Ns.out; have := hSd.out; have := Nd.out; have := HV.out; unfold Hid; omega
  have HLT8 := hid H8.out.lt
  have CH : Hid (∀ i, i < 8 → IsL V8 (fun b => w.heap.size + 2 ≤ b ∧ b < g8) (chL [numT 7, numT p.fl, numT k, eidT p.d, eidT p.s, eidT p.r, listT [numT p.t, numT p.q], numT p.l] i) (acL [(none, 0), (none, 0), (none, 0), (Ad, 2), (As, 2), (Ar, 2), (some ⟨g2, 0, none⟩, 2), (none, 0)] i).1) := fun i hi => by
    have q1 := HG8.out; have q2 := hSr.out; have q3 := Nr.out; have q4 := hSs.out; have q5 := Ns.out; have q6 := hSd.out; have q7 := Nd.out; have q8 := HV.out
    match i, hi with
    | 0, _ => exact num_IsL
    | 1, _ => exact num_IsL
    | 2, _ => exact num_IsL
    | 3, _ => exact IsL.weak (fun b _ h => ⟨h.1, by have := h.2; omega⟩) (eidT p.d) Ld.out
    | 4, _ => exact IsL.weak (fun b _ h => ⟨h.1, by have := h.2; omega⟩) (eidT p.s) Ls.out
    | 5, _ => exact IsL.weak (fun b _ h => ⟨h.1, by have := h.2; omega⟩) (eidT p.r) Lr.out
    | 6, _ => exact fun _ => ⟨g2, 0, rfl, HP.out.lt, ⟨HG2.out, HPG.out⟩, fun j hj => by
        have hj : j = 0 ∨ j = 1 := by have : j < 2 := hj; omega
        rcases hj with rfl | rfl
        · exact ⟨none, 0, ⟨HP.out.cell 0, HP.out.cell 1, HP.out.cell 2, HP.out.cell 3, HP.out.cell 4⟩, num_IsL⟩
        · exact ⟨none, 0, ⟨HP.out.cell 5, HP.out.cell 6, HP.out.cell 7, HP.out.cell 8, HP.out.cell 9⟩, num_IsL⟩⟩
    | 7, _ => exact num_IsL
  clear H8 HP Ld Ls Lr HG8 HPG hSr Nr hSs Ns hSd Nd KD KS KR Dd Ds Dr HG2
  have HW8 : Hid (w.heap.size + 2 ≤ g8) := by have := HG8b.out; unfold Hid; omega
  obtain ⟨i0, hi, hz0, hz1, hz2⟩ := info_parts infoItem
  have HINF := hid (And.intro hi (And.intro hz0 (And.intro hz1 hz2)))
  clear hi hz0 hz1 hz2
  have HLG := HLT8
  have y0 : ∀ e : Later V8, e.x.cell? ⟨w.heap.size, 0, none⟩ = some (.int .u64 (p.fl : Int)) := HB.out.cellL 0 rfl
  obtain ⟨e, he⟩ := Later.self V8
  rw [he]
  clear he
  by_cases hx : p.fl % 2 = 1
  · have a1 : bits .and .u64 (p.fl : Int) 1 = 1 := by have h := andP_yes (k := 0) HFL.out (by omega) (by simpa using hx); simpa using h
    have HX := hid hx
    clear hx
    have y17 : ∀ e : Later V8, e.x.cell? ⟨w.heap.size, 17, none⟩ = some (.int .u64 (p.o : Int)) := HB.out.cellL 17 rfl
    have y18 : ∀ e : Later V8, e.x.cell? ⟨w.heap.size, 18, none⟩ = some (.int .u64 (p.n : Int)) := HB.out.cellL 18 rfl
    have y18a : ∀ (e : Later V8) (ob : Obj), (e.x.alloc ob).cell? ⟨w.heap.size, 18, none⟩ = some (.int .u64 (p.n : Int)) := fun e ob => ((HB.out.later e).alloc ob).cell 18
    have y17a : ∀ (e : Later V8) (ob : Obj), (e.x.alloc ob).cell? ⟨w.heap.size, 17, none⟩ = some (.int .u64 (p.o : Int)) := fun e ob => ((HB.out.later e).alloc ob).cell 17
    have HOE : Hid (∀ e : Later V8, e.x.ownsRow (w.heap.size + 2) 64 5 (.slice (some ⟨g8, 0, none⟩) 8 8) 8 (flatC (chL [numT 7, numT p.fl, numT k, eidT p.d, eidT p.s, eidT p.r, listT [numT p.t, numT p.q], numT p.l]) (acL [(none, 0), (none, 0), (none, 0), (Ad, 2), (As, 2), (Ar, 2), (some ⟨g2, 0, none⟩, 2), (none, 0)]) 8)) := fun e => ownsRow_mod HO.out e.h (fun _ _ => by simp)
    obtain ⟨hi, hz0, hz1, hz2⟩ := HINF.out
    go_upto_region 6 with fail
    go_region_held3 (fun w' => w'.cell? ⟨w.heap.size, 17, none⟩ = some (.int .u64 (p.o : Int)) ∧ w'.cell? ⟨w.heap.size, 18, none⟩ = some (.int .u64 (p.n : Int))) (go_keep)
      (first
        | (go_at_call 31; refine (NumI_any _ _).mono ?_; rintro x w3 ⟨rfl, hb3⟩; obtain ⟨e, rfl⟩ : ∃ e' : Later V8, w3 = e'.x := ⟨⟨w3, Mod.trans (by first | exact Later.h _ | exact (Later.h _).drew | exact (Later.h _).alloc _) hb3⟩, rfl⟩)
        | (refine step_append_lies _ (by rfl) _ _ 62 (by rfl) (w.heap.size + 2) 64 i0 _ 5 64 Tryz.underlying62 hi hz0 hz1 hz2 (by rfl) (by decide) _ 8 _ (by rfl) ((HOE.out e).alloc _) ⟨e.x.heap.size, 0, none⟩ 2 2 [.int .i64 0, .int .u64 (p.o : Int), str [], .slice none 0 0, .bool false, .int .i64 0, .int .u64 (p.n : Int), str [], .slice none 0 0, .bool false] (by rfl) (by rfl) (World.news_of_block (heap_alloc_new _ _)) (fun u hu => by simp only [List.mem_cons, List.not_mem_nil, or_false] at hu; rcases hu with h | h | h | h | h | h | h | h | h | h <;> (subst h; rfl)) (by decide) (by decide) (by decide) (by have := HW8.out; have := HLT8.out; have := e.h.size; simp; omega) (e.x.heap.size + 1) (by simp) ?_; intro g9 c9 w9 hown hgrow hat hlt; have z17 : w9.cell? ⟨w.heap.size, 17, none⟩ = some (.int .u64 (p.o : Int)) := (hgrow.cell_far _ (by have := HW8.out; have := HLT8.out; have := e.h.size; simp; omega) (by simp [Value.ownBlock]; have := HW8.out; omega)).trans (y17a e _); have z18 : w9.cell? ⟨w.heap.size, 18, none⟩ = some (.int .u64 (p.n : Int)) := (hgrow.cell_far _ (by have := HW8.out; have := HLT8.out; have := e.h.size; simp; omega) (by simp [Value.ownBlock]; have := HW8.out; omega)).trans (y18a e _)))
    go_upto_region 7 with fail
    clear y17 y18 y17a y18a z17 z18 hi hz0 hz1 hz2 HOE y0
    have hm : Mod [g8] V8 w9 := Mod.grown (by first | exact (Mod.of_ext e.h).alloc _ | exact ((Mod.of_ext e.h).alloc _).drew | exact ((Mod.of_ext e.h).drew).alloc _) hgrow (fun b hb => by simp [Value.ownBlock] at hb; subst hb; exact .inl (by simp))
    have HGE : Hid (g8 ≤ g9) := by
      have h1 := HGG.out
      have h2 := HLT8.out
      have h3 := e.h.size
      rcases hat with h | h
      · simp [Value.ownBlock] at h; unfold Hid; omega
      · unfold Hid; omega
    have HO : Hid (w9.ownsRow (w.heap.size + 2) 64 5 (.slice (some ⟨g9, 0, none⟩) 10 c9) 10 (flatC (chL [numT 7, numT p.fl, numT k, eidT p.d, eidT p.s, eidT p.r, listT [numT p.t, numT p.q], numT p.l, numT p.o, numT p.n]) (acL [(none, 0), (none, 0), (none, 0), (Ad, 2), (As, 2), (Ar, 2), (some ⟨g2, 0, none⟩, 2), (none, 0), (none, 0), (none, 0)]) 10)) := hown
    have HE : Hid (Ext w w9) := (HE.out.of_ext.trans hm).new (fun b hb => .inr (by rw [List.mem_singleton] at hb; subst hb; have := HGG.out; have := HW8.out; omega))
    have HB : Hid (Blk w9 w.heap.size 34 p.c) := HB.out.mod hm (by have := HGG.out; have := HW8.out; simp; omega)
    have HR : Hid (Blk w9 (w.heap.size + 1) 64 (itemC (numT 0) none 0)) := HR.out.mod hm (by have := HGG.out; have := HW8.out; simp; omega)
    have CH : Hid (∀ i, i < 10 → IsL w9 (fun b => w.heap.size + 2 ≤ b ∧ b < g8) (chL [numT 7, numT p.fl, numT k, eidT p.d, eidT p.s, eidT p.r, listT [numT p.t, numT p.q], numT p.l, numT p.o, numT p.n] i) (acL [(none, 0), (none, 0), (none, 0), (Ad, 2), (As, 2), (Ar, 2), (some ⟨g2, 0, none⟩, 2), (none, 0), (none, 0), (none, 0)] i).1) := fun i hi => by
      by_cases h : i < 8
      · have q := IsL.mod hm (fun b hb _ hs => by rw [List.mem_singleton] at hs; subst hs; have := HGG.out; have := hb.2; omega) _ (CH.out i h)
        match i, h with
        | 0, _ => exact q
        | 1, _ => exact q
        | 2, _ => exact q
        | 3, _ => exact q
        | 4, _ => exact q
        | 5, _ => exact q
        | 6, _ => exact q
        | 7, _ => exact q
      · obtain ⟨j, rfl⟩ : ∃ j, i = 8 + j := ⟨i - 8, by omega⟩
        match j, hi with
        | 0, _ => exact num_IsL
        | 1, _ => exact num_IsL
        | j + 2, h => exact absurd h (by omega)
    have HLT8 : Hid (g8 < w9.heap.size) := by have := hm.size; have := HLT8.out; unfold Hid; omega
    have HLG := hid hlt
    clear hown hgrow hat hlt hm HGG
    have HGG := HGE
    clear HGE
    obtain ⟨e, he⟩ := Later.self w9
    rw [he]
    clear he
    have y1 : ∀ e : Later w9, e.x.cell? ⟨w.heap.size, 1, none⟩ = some (.int .i64 (k : Int)) := HB.out.cellL 1 (by show some (Value.int .i64 p.crc) = _; rw [HC.out])
    by_cases hk0 : k = 0
    · have kka : (((k : Int)) == (0)) = true := by rw [beq_iff_eq]; omega
      have kkb : (((k : Int)) = (0)) = True := eq_true (by omega)
      have kkc : (((k : Int)) != (0)) = false := by rw [bne_eq_false_iff_eq]; omega
      have kza : decide (k = 0) = true := decide_eq_true (by omega)
      have kzb : (k = 0) = True := eq_true (by omega)
      have HK0 := hid hk0
      clear hk0
      go_upto_region 9 with fail
      have HLL : Hid (priT p k sum = listT [numT 7, numT p.fl, numT k, eidT p.d, eidT p.s, eidT p.r, listT [numT p.t, numT p.q], numT p.l, numT p.o, numT p.n]) := by unfold Hid priT priL; rw [if_pos HX.out, if_pos HK0.out]; rfl
      go_wp2_with (go_at_call 48; refine (ListV_any _ _ _ _).mono ?_; rintro x w3 ⟨rfl, hb3⟩; obtain ⟨e, rfl⟩ : ∃ e' : Later w9, w3 = e'.x := ⟨⟨w3, Mod.trans (by first | exact Later.h _ | exact (Later.h _).drew | exact (Later.h _).alloc _) hb3⟩, rfl⟩; obtain ⟨c0, c1, c2, c3, c4⟩ := cells5 (HR.out.later e); have f0 := (HR.out.later e).frozen 0; have f1 := (HR.out.later e).frozen 1; have f2 := (HR.out.later e).frozen 2; have f3 := (HR.out.later e).frozen 3; have f4 := (HR.out.later e).frozen 4)
      obtain ⟨d0, d1, d2, d3, d4⟩ := cells5 (set5_blk (t := listT [numT 7, numT p.fl, numT k, eidT p.d, eidT p.s, eidT p.r, listT [numT p.t, numT p.q], numT p.l, numT p.o, numT p.n]) (A := some ⟨g9, 0, none⟩) (c := c9) (HR.out.later e))
      clear c0 c1 c2 c3 c4 f0 f1 f2 f3 f4
      show bodyPost _ _ _ _ _ (set5 e.x (w.heap.size + 1) (listT [numT 7, numT p.fl, numT k, eidT p.d, eidT p.s, eidT p.r, listT [numT p.t, numT p.q], numT p.l, numT p.o, numT p.n]) (some ⟨g9, 0, none⟩) c9)
      refine bodyPost_ret (v := itemV (listT [numT 7, numT p.fl, numT k, eidT p.d, eidT p.s, eidT p.r, listT [numT p.t, numT p.q], numT p.l, numT p.o, numT p.n]) (some ⟨g9, 0, none⟩) c9) (by simp [results, Tryz.results109, go_sem, d0, d1, d2, d3, d4]) rfl ⟨some ⟨g9, 0, none⟩, c9, by rw [HLL.out], set5_mod (HE.out.trans e.h) (by omega), ?_⟩
      rw [HLL.out]
      refine IsL.weak (fun _ _ h => by have : w.heap.size + 2 ≤ _ := h; omega) _ (IsL.mod (Q := fun b => w.heap.size + 2 ≤ b) set5_modb (fun b hb _ hs => by rw [List.mem_singleton] at hs; have : w.heap.size + 2 ≤ b := hb; omega) _ ?_)
      exact list_IsL (base := w.heap.size + 2) (c := c9) (by have := HLG.out; have := e.h.size; omega) (by have := HGG.out; have := HW8.out; omega) (ownsRow_mod HO.out e.h (fun _ _ => by simp)) (fun i hi => IsL.weak (fun b _ h => h.1) _ ((CH.out i hi).ext e.h))
    · have kka : (((k : Int)) == (0)) = false := by rw [beq_eq_false_iff_ne]; omega
      have kkb : (((k : Int)) = (0)) = False := eq_false (by omega)
      have kkc : (((k : Int)) != (0)) = true := by rw [bne_iff_ne]; omega
      have kza : decide (k = 0) = false := decide_eq_false (by omega)
      have kzb : (k = 0) = False := eq_false (by omega)
      have HK0 := hid hk0
      clear hk0
      have HOE : Hid (∀ e : Later w9, e.x.ownsRow (w.heap.size + 2) 64 5 (.slice (some ⟨g9, 0, none⟩) 10 c9) 10 (flatC (chL [numT 7, numT p.fl, numT k, eidT p.d, eidT p.s, eidT p.r, listT [numT p.t, numT p.q], numT p.l, numT p.o, numT p.n]) (acL [(none, 0), (none, 0), (none, 0), (Ad, 2), (As, 2), (Ar, 2), (some ⟨g2, 0, none⟩, 2), (none, 0), (none, 0), (none, 0)]) 10)) := fun e => ownsRow_mod HO.out e.h (fun _ _ => by simp)
      obtain ⟨hi, hz0, hz1, hz2⟩ := HINF.out
      go_upto_region 9 with (first | (go_at_call 117; refine (StrV_any _ _).mono ?_; rintro x w3 ⟨rfl, hb3⟩; obtain ⟨e, rfl⟩ : ∃ e' : Later w9, w3 = e'.x := ⟨⟨w3, Mod.trans (by first | exact Later.h _ | exact (Later.h _).drew | exact (Later.h _).alloc _) hb3⟩, rfl⟩) | (at_builtin; refine wpList_append_lies _ rfl _ _ 62 (by rfl) (w.heap.size + 2) 64 i0 _ 5 64 Tryz.underlying62 hi hz0 hz1 hz2 (by rfl) (by decide) _ 10 _ (by rfl) ((HOE.out e).alloc _) ⟨e.x.heap.size, 0, none⟩ 1 1 [.int .i64 (strT sum).kind, .int .u64 ((strT sum).n : Int), str (strT sum).s, .slice none (strT sum).k 0, .bool (strT sum).op] (by rfl) (by rfl) (World.news_of_block (heap_alloc_new _ _)) (fun u hu => by simp only [List.mem_cons, List.not_mem_nil, or_false] at hu; rcases hu with h | h | h | h | h <;> (subst h; rfl)) (by decide) (by decide) (by decide) (by have := HW8.out; have := HLT8.out; have := e.h.size; simp; omega) (e.x.heap.size + 1) (by simp) ?_; intro g' c' w' hown hgrow hat hlt))
      clear hi hz0 hz1 hz2 HOE y1
      have hm : Mod [g9] w9 w' := Mod.grown (by first | exact (Mod.of_ext e.h).alloc _ | exact ((Mod.of_ext e.h).alloc _).drew | exact ((Mod.of_ext e.h).drew).alloc _) hgrow (fun b hb => by simp [Value.ownBlock] at hb; subst hb; exact .inl (by simp))
      have HGE : Hid (g8 ≤ g') := by
        have h1 := HGG.out
        have h2 := HLT8.out
        have h3 := e.h.size
        rcases hat with h | h
        · simp [Value.ownBlock] at h; unfold Hid; omega
        · unfold Hid; omega
      have HO : Hid (w'.ownsRow (w.heap.size + 2) 64 5 (.slice (some ⟨g', 0, none⟩) 11 c') 11 (flatC (chL [numT 7, numT p.fl, numT k, eidT p.d, eidT p.s, eidT p.r, listT [numT p.t, numT p.q], numT p.l, numT p.o, numT p.n, strT sum]) (acL [(none, 0), (none, 0), (none, 0), (Ad, 2), (As, 2), (Ar, 2), (some ⟨g2, 0, none⟩, 2), (none, 0), (none, 0), (none, 0), (none, 0)]) 11)) := hown
      have HE : Hid (Ext w w') := (HE.out.of_ext.trans hm).new (fun b hb => .inr (by rw [List.mem_singleton] at hb; subst hb; have := HGG.out; have := HW8.out; omega))
      have HB : Hid (Blk w' w.heap.size 34 p.c) := HB.out.mod hm (by have := HGG.out; have := HW8.out; simp; omega)
      have HR : Hid (Blk w' (w.heap.size + 1) 64 (itemC (numT 0) none 0)) := HR.out.mod hm (by have := HGG.out; have := HW8.out; simp; omega)
      have CH : Hid (∀ i, i < 11 → IsL w' (fun b => w.heap.size + 2 ≤ b ∧ b < g8) (chL [numT 7, numT p.fl, numT k, eidT p.d, eidT p.s, eidT p.r, listT [numT p.t, numT p.q], numT p.l, numT p.o, numT p.n, strT sum] i) (acL [(none, 0), (none, 0), (none, 0), (Ad, 2), (As, 2), (Ar, 2), (some ⟨g2, 0, none⟩, 2), (none, 0), (none, 0), (none, 0), (none, 0)] i).1) := fun i hi => by
        by_cases h : i < 10
        · have q := IsL.mod hm (fun b hb _ hs => by rw [List.mem_singleton] at hs; subst hs; have := HGG.out; have := hb.2; omega) _ (CH.out i h)
          match i, h with
          | 0, _ => exact q
          | 1, _ => exact q
          | 2, _ => exact q
          | 3, _ => exact q
          | 4, _ => exact q
          | 5, _ => exact q
          | 6, _ => exact q
          | 7, _ => exact q
          | 8, _ => exact q
          | 9, _ => exact q
        · obtain ⟨j, rfl⟩ : ∃ j, i = 10 + j := ⟨i - 10, by omega⟩
          match j, hi with
          | 0, _ => exact str_IsL
          | j + 1, h => exact absurd h (by omega)
      have HLT8 : Hid (g8 < w'.heap.size) := by have := hm.size; have := HLT8.out; unfold Hid; omega
      have HLG := hid hlt
      clear hown hgrow hat hlt hm HGG
      have HGG := HGE
      clear HGE
      obtain ⟨e, he⟩ := Later.self w'
      rw [he]
      clear he
      have HLL : Hid (priT p k sum = listT [numT 7, numT p.fl, numT k, eidT p.d, eidT p.s, eidT p.r, listT [numT p.t, numT p.q], numT p.l, numT p.o, numT p.n, strT sum]) := by unfold Hid priT priL; rw [if_pos HX.out, if_neg HK0.out]; rfl
      go_wp2_with (go_at_call 48; refine (ListV_any _ _ _ _).mono ?_; rintro x w3 ⟨rfl, hb3⟩; obtain ⟨e, rfl⟩ : ∃ e' : Later w', w3 = e'.x := ⟨⟨w3, Mod.trans (by first | exact Later.h _ | exact (Later.h _).drew | exact (Later.h _).alloc _) hb3⟩, rfl⟩; obtain ⟨c0, c1, c2, c3, c4⟩ := cells5 (HR.out.later e); have f0 := (HR.out.later e).frozen 0; have f1 := (HR.out.later e).frozen 1; have f2 := (HR.out.later e).frozen 2; have f3 := (HR.out.later e).frozen 3; have f4 := (HR.out.later e).frozen 4)
      obtain ⟨d0, d1, d2, d3, d4⟩ := cells5 (set5_blk (t := listT [numT 7, numT p.fl, numT k, eidT p.d, eidT p.s, eidT p.r, listT [numT p.t, numT p.q], numT p.l, numT p.o, numT p.n, strT sum]) (A := some ⟨g', 0, none⟩) (c := c') (HR.out.later e))
      clear c0 c1 c2 c3 c4 f0 f1 f2 f3 f4
      show bodyPost _ _ _ _ _ (set5 e.x (w.heap.size + 1) (listT [numT 7, numT p.fl, numT k, eidT p.d, eidT p.s, eidT p.r, listT [numT p.t, numT p.q], numT p.l, numT p.o, numT p.n, strT sum]) (some ⟨g', 0, none⟩) c')
      refine bodyPost_ret (v := itemV (listT [numT 7, numT p.fl, numT k, eidT p.d, eidT p.s, eidT p.r, listT [numT p.t, numT p.q], numT p.l, numT p.o, numT p.n, strT sum]) (some ⟨g', 0, none⟩) c') (by simp [results, Tryz.results109, go_sem, d0, d1, d2, d3, d4]) rfl ⟨some ⟨g', 0, none⟩, c', by rw [HLL.out], set5_mod (HE.out.trans e.h) (by omega), ?_⟩
      rw [HLL.out]
      refine IsL.weak (fun _ _ h => by have : w.heap.size + 2 ≤ _ := h; omega) _ (IsL.mod (Q := fun b => w.heap.size + 2 ≤ b) set5_modb (fun b hb _ hs => by rw [List.mem_singleton] at hs; have : w.heap.size + 2 ≤ b := hb; omega) _ ?_)
      exact list_IsL (base := w.heap.size + 2) (c := c') (by have := HLG.out; have := e.h.size; omega) (by have := HGG.out; have := HW8.out; omega) (ownsRow_mod HO.out e.h (fun _ _ => by simp)) (fun i hi => IsL.weak (fun b _ h => h.1) _ ((CH.out i hi).ext e.h))
  · have a1 : bits .and .u64 (p.fl : Int) 1 = 0 := by have h := andP_no (k := 0) HFL.out (by omega) (by have : p.fl % 2 = 0 := (by omega); simpa using this); simpa using h
    have HX := hid hx
    clear hx
    go_upto_region 7 with fail
    have y1 : ∀ e : Later V8, e.x.cell? ⟨w.heap.size, 1, none⟩ = some (.int .i64 (k : Int)) := HB.out.cellL 1 (by show some (Value.int .i64 p.crc) = _; rw [HC.out])
    by_cases hk0 : k = 0
    · have kka : (((k : Int)) == (0)) = true := by rw [beq_iff_eq]; omega
      have kkb : (((k : Int)) = (0)) = True := eq_true (by omega)
      have kkc : (((k : Int)) != (0)) = false := by rw [bne_eq_false_iff_eq]; omega
      have kza : decide (k = 0) = true := decide_eq_true (by omega)
      have kzb : (k = 0) = True := eq_true (by omega)
      have HK0 := hid hk0
      clear hk0
      go_upto_region 9 with fail
      have HLL : Hid (priT p k sum = listT [numT 7, numT p.fl, numT k, eidT p.d, eidT p.s, eidT p.r, listT [numT p.t, numT p.q], numT p.l]) := by unfold Hid priT priL; rw [if_neg HX.out, if_pos HK0.out]; rfl
      go_wp2_with (go_at_call 48; refine (ListV_any _ _ _ _).mono ?_; rintro x w3 ⟨rfl, hb3⟩; obtain ⟨e, rfl⟩ : ∃ e' : Later V8, w3 = e'.x := ⟨⟨w3, Mod.trans (by first | exact Later.h _ | exact (Later.h _).drew | exact (Later.h _).alloc _) hb3⟩, rfl⟩; obtain ⟨c0, c1, c2, c3, c4⟩ := cells5 (HR.out.later e); have f0 := (HR.out.later e).frozen 0; have f1 := (HR.out.later e).frozen 1; have f2 := (HR.out.later e).frozen 2; have f3 := (HR.out.later e).frozen 3; have f4 := (HR.out.later e).frozen 4)
      obtain ⟨d0, d1, d2, d3, d4⟩ := cells5 (set5_blk (t := listT [numT 7, numT p.fl, numT k, eidT p.d, eidT p.s, eidT p.r, listT [numT p.t, numT p.q], numT p.l]) (A := some ⟨g8, 0, none⟩) (c := 8) (HR.out.later e))
      clear c0 c1 c2 c3 c4 f0 f1 f2 f3 f4
      show bodyPost _ _ _ _ _ (set5 e.x (w.heap.size + 1) (listT [numT 7, numT p.fl, numT k, eidT p.d, eidT p.s, eidT p.r, listT [numT p.t, numT p.q], numT p.l]) (some ⟨g8, 0, none⟩) 8)
      refine bodyPost_ret (v := itemV (listT [numT 7, numT p.fl, numT k, eidT p.d, eidT p.s, eidT p.r, listT [numT p.t, numT p.q], numT p.l]) (some ⟨g8, 0, none⟩) 8) (by simp [results, Tryz.results109, go_sem, d0, d1, d2, d3, d4]) rfl ⟨some ⟨g8, 0, none⟩, 8, by rw [HLL.out], set5_mod (HE.out.trans e.h) (by omega), ?_⟩
      rw [HLL.out]
      refine IsL.weak (fun _ _ h => by have : w.heap.size + 2 ≤ _ := h; omega) _ (IsL.mod (Q := fun b => w.heap.size + 2 ≤ b) set5_modb (fun b hb _ hs => by rw [List.mem_singleton] at hs; have : w.heap.size + 2 ≤ b := hb; omega) _ ?_)
      exact list_IsL (base := w.heap.size + 2) (c := 8) (by have := HLG.out; have := e.h.size; omega) (by have := HGG.out; have := HW8.out; omega) (ownsRow_mod HO.out e.h (fun _ _ => by simp)) (fun i hi => IsL.weak (fun b _ h => h.1) _ ((CH.out i hi).ext e.h))
    · have kka : (((k : Int)) == (0)) = false := by rw [beq_eq_false_iff_ne]; omega
      have kkb : (((k : Int)) = (0)) = False := eq_false (by omega)
      have kkc : (((k : Int)) != (0)) = true := by rw [bne_iff_ne]; omega
      have kza : decide (k = 0) = false := decide_eq_false (by omega)
      have kzb : (k = 0) = False := eq_false (by omega)
      have HK0 := hid hk0
      clear hk0
      have HOE : Hid (∀ e : Later V8, e.x.ownsRow (w.heap.size + 2) 64 5 (.slice (some ⟨g8, 0, none⟩) 8 8) 8 (flatC (chL [numT 7, numT p.fl, numT k, eidT p.d, eidT p.s, eidT p.r, listT [numT p.t, numT p.q], numT p.l]) (acL [(none, 0), (none, 0), (none, 0), (Ad, 2), (As, 2), (Ar, 2), (some ⟨g2, 0, none⟩, 2), (none, 0)]) 8)) := fun e => ownsRow_mod HO.out e.h (fun _ _ => by simp)
      obtain ⟨hi, hz0, hz1, hz2⟩ := HINF.out
      go_upto_region 9 with (first | (go_at_call 117; refine (StrV_any _ _).mono ?_; rintro x w3 ⟨rfl, hb3⟩; obtain ⟨e, rfl⟩ : ∃ e' : Later V8, w3 = e'.x := ⟨⟨w3, Mod.trans (by first | exact Later.h _ | exact (Later.h _).drew | exact (Later.h _).alloc _) hb3⟩, rfl⟩) | (at_builtin; refine wpList_append_lies _ rfl _ _ 62 (by rfl) (w.heap.size + 2) 64 i0 _ 5 64 Tryz.underlying62 hi hz0 hz1 hz2 (by rfl) (by decide) _ 8 _ (by rfl) ((HOE.out e).alloc _) ⟨e.x.heap.size, 0, none⟩ 1 1 [.int .i64 (strT sum).kind, .int .u64 ((strT sum).n : Int), str (strT sum).s, .slice none (strT sum).k 0, .bool (strT sum).op] (by rfl) (by rfl) (World.news_of_block (heap_alloc_new _ _)) (fun u hu => by simp only [List.mem_cons, List.not_mem_nil, or_false] at hu; rcases hu with h | h | h | h | h <;> (subst h; rfl)) (by decide) (by decide) (by decide) (by have := HW8.out; have := HLT8.out; have := e.h.size; simp; omega) (e.x.heap.size + 1) (by simp) ?_; intro g' c' w' hown hgrow hat hlt))
      clear hi hz0 hz1 hz2 HOE y1
      have hm : Mod [g8] V8 w' := Mod.grown (by first | exact (Mod.of_ext e.h).alloc _ | exact ((Mod.of_ext e.h).alloc _).drew | exact ((Mod.of_ext e.h).drew).alloc _) hgrow (fun b hb => by simp [Value.ownBlock] at hb; subst hb; exact .inl (by simp))
      have HGE : Hid (g8 ≤ g') := by
        have h1 := HGG.out
        have h2 := HLT8.out
        have h3 := e.h.size
        rcases hat with h | h
        · simp [Value.ownBlock] at h; unfold Hid; omega
        · unfold Hid; omega
      have HO : Hid (w'.ownsRow (w.heap.size + 2) 64 5 (.slice (some ⟨g', 0, none⟩) 9 c') 9 (flatC (chL [numT 7, numT p.fl, numT k, eidT p.d, eidT p.s, eidT p.r, listT [numT p.t, numT p.q], numT p.l, strT sum]) (acL [(none, 0), (none, 0), (none, 0), (Ad, 2), (As, 2), (Ar, 2), (some ⟨g2, 0, none⟩, 2), (none, 0), (none, 0)]) 9)) := hown
      have HE : Hid (Ext w w') := (HE.out.of_ext.trans hm).new (fun b hb => .inr (by rw [List.mem_singleton] at hb; subst hb; have := HGG.out; have := HW8.out; omega))
      have HB : Hid (Blk w' w.heap.size 34 p.c) := HB.out.mod hm (by have := HGG.out; have := HW8.out; simp; omega)
      have HR : Hid (Blk w' (w.heap.size + 1) 64 (itemC (numT 0) none 0)) := HR.out.mod hm (by have := HGG.out; have := HW8.out; simp; omega)
      have CH : Hid (∀ i, i < 9 → IsL w' (fun b => w.heap.size + 2 ≤ b ∧ b < g8) (chL [numT 7, numT p.fl, numT k, eidT p.d, eidT p.s, eidT p.r, listT [numT p.t, numT p.q], numT p.l, strT sum] i) (acL [(none, 0), (none, 0), (none, 0), (Ad, 2), (As, 2), (Ar, 2), (some ⟨g2, 0, none⟩, 2), (none, 0), (none, 0)] i).1) := fun i hi => by
        by_cases h : i < 8
        · have q := IsL.mod hm (fun b hb _ hs => by rw [List.mem_singleton] at hs; subst hs; have := HGG.out; have := hb.2; omega) _ (CH.out i h)
          match i, h with
          | 0, _ => exact q
          | 1, _ => exact q
          | 2, _ => exact q
          | 3, _ => exact q
          | 4, _ => exact q
          | 5, _ => exact q
          | 6, _ => exact q
          | 7, _ => exact q
        · obtain ⟨j, rfl⟩ : ∃ j, i = 8 + j := ⟨i - 8, by omega⟩
          match j, hi with
          | 0, _ => exact str_IsL
          | j + 1, h => exact absurd h (by omega)
      have HLT8 : Hid (g8 < w'.heap.size) := by have := hm.size; have := HLT8.out; unfold Hid; omega
      have HLG := hid hlt
      clear hown hgrow hat hlt hm HGG
      have HGG := HGE
      clear HGE
      obtain ⟨e, he⟩ := Later.self w'
      rw [he]
      clear he
      have HLL : Hid (priT p k sum = listT [numT 7, numT p.fl, numT k, eidT p.d, eidT p.s, eidT p.r, listT [numT p.t, numT p.q], numT p.l, strT sum]) := by unfold Hid priT priL; rw [if_neg HX.out, if_neg HK0.out]; rfl
      go_wp2_with (go_at_call 48; refine (ListV_any _ _ _ _).mono ?_; rintro x w3 ⟨rfl, hb3⟩; obtain ⟨e, rfl⟩ : ∃ e' : Later w', w3 = e'.x := ⟨⟨w3, Mod.trans (by first | exact Later.h _ | exact (Later.h _).drew | exact (Later.h _).alloc _) hb3⟩, rfl⟩; obtain ⟨c0, c1, c2, c3, c4⟩ := cells5 (HR.out.later e); have f0 := (HR.out.later e).frozen 0; have f1 := (HR.out.later e).frozen 1; have f2 := (HR.out.later e).frozen 2; have f3 := (HR.out.later e).frozen 3; have f4 := (HR.out.later e).frozen 4)
      obtain ⟨d0, d1, d2, d3, d4⟩ := cells5 (set5_blk (t := listT [numT 7, numT p.fl, numT k, eidT p.d, eidT p.s, eidT p.r, listT [numT p.t, numT p.q], numT p.l, strT sum]) (A := some ⟨g', 0, none⟩) (c := c') (HR.out.later e))
      clear c0 c1 c2 c3 c4 f0 f1 f2 f3 f4
      show bodyPost _ _ _ _ _ (set5 e.x (w.heap.size + 1) (listT [numT 7, numT p.fl, numT k, eidT p.d, eidT p.s, eidT p.r, listT [numT p.t, numT p.q], numT p.l, strT sum]) (some ⟨g', 0, none⟩) c')
      refine bodyPost_ret (v := itemV (listT [numT 7, numT p.fl, numT k, eidT p.d, eidT p.s, eidT p.r, listT [numT p.t, numT p.q], numT p.l, strT sum]) (some ⟨g', 0, none⟩) c') (by simp [results, Tryz.results109, go_sem, d0, d1, d2, d3, d4]) rfl ⟨some ⟨g', 0, none⟩, c', by rw [HLL.out], set5_mod (HE.out.trans e.h) (by omega), ?_⟩
      rw [HLL.out]
      refine IsL.weak (fun _ _ h => by have : w.heap.size + 2 ≤ _ := h; omega) _ (IsL.mod (Q := fun b => w.heap.size + 2 ≤ b) set5_modb (fun b hb _ hs => by rw [List.mem_singleton] at hs; have : w.heap.size + 2 ≤ b := hb; omega) _ ?_)
      exact list_IsL (base := w.heap.size + 2) (c := c') (by have := HLG.out; have := e.h.size; omega) (by have := HGG.out; have := HW8.out; omega) (ownsRow_mod HO.out e.h (fun _ _ => by simp)) (fun i hi => IsL.weak (fun b _ h => h.1) _ ((CH.out i hi).ext e.h))
end Go.Proofs.YtogjghmoankleaaGreat


namespace Go.Proofs.YtogjghmoankleaaGreat
open Go.RowKit
set_option linter.unusedVariables false
set_option linter.unusedSimpArgs false

/-- The row's cells: the first i elements'. -/
def flatG (f : Nat → List Value) : Nat → List Value
  | 0 => []
  | i + 1 => flatG f i ++ f i
section
variable {f g : Nat → List Value} {z : Nat}
theorem flatG_length (hf : ∀ i, (f i).length = z) (i : Nat) : (flatG f i).length = i * z := by
  induction i with
  | zero => simp [flatG]
  | succ i ih => rw [flatG, List.length_append, ih, hf, Nat.succ_mul]
theorem flatG_congr {i : Nat} (h : ∀ j, j < i → f j = g j) : flatG f i = flatG g i := by
  induction i with
  | zero => rfl
  | succ i ih => rw [flatG, flatG, ih (fun j hj => h j (by omega)), h i (by omega)]
theorem flatG_get (hf : ∀ i, (f i).length = z) (k : Nat) : ∀ j, j < k → ∀ r, r < z → (flatG f k)[j * z + r]? = (f j)[r]? := by
  induction k with
  | zero => intro j hj; omega
  | succ k ih =>
    intro j hj r hr
    have hl := flatG_length hf k
    rw [flatG]
    by_cases e : j = k
    · subst e
      rw [List.getElem?_append_right (by omega), hl]
      congr 1; omega
    · have h1 : (j + 1) * z ≤ k * z := Nat.mul_le_mul_right z (by omega)
      rw [Nat.succ_mul] at h1
      rw [List.getElem?_append_left (by omega), ih j (by omega) r hr]
theorem flatG_idx (hz : 0 < z) (hf : ∀ i, (f i).length = z) (k : Nat) {j : Nat} {u : Value} (h : (flatG f k)[j]? = some u) : ∃ i r, i < k ∧ r < z ∧ j = i * z + r ∧ (f i)[r]? = some u := by
  have h1 := (List.getElem?_eq_some_iff.1 h).1
  rw [flatG_length hf] at h1
  have hi : j / z < k := Nat.div_lt_of_lt_mul (by rw [Nat.mul_comm]; exact h1)
  have hr : j % z < z := Nat.mod_lt _ hz
  have he : j = j / z * z + j % z := by have := Nat.div_add_mod j z; rw [Nat.mul_comm] at this; omega
  refine ⟨j / z, j % z, hi, hr, he, ?_⟩
  rw [← flatG_get hf k _ hi _ hr, ← he]; exact h
theorem flatG_one (hz : 0 < z) (hf : ∀ i, (f i).length = z) (h1 : ∀ i, ∀ u ∈ f i, u.oneCell' = true) (k : Nat) : ∀ u ∈ flatG f k, u.oneCell' = true := by
  intro u hu
  obtain ⟨j, hj⟩ := List.getElem?_of_mem hu
  obtain ⟨i, r, _, _, _, h⟩ := flatG_idx hz hf k hj
  exact h1 i u (List.mem_of_getElem? h)
theorem flatG_news (hz : 0 < z) (hf : ∀ i, (f i).length = z) {W : World} {b o k : Nat} (h : ∀ i, i < k → ∀ r u, (f i)[r]? = some u → W.cell? ⟨b, o + i * z + r, none⟩ = some u) : ∀ j u, (flatG f k)[j]? = some u → W.cell? ((⟨b, o, none⟩ : Addr).add j) = some u := by
  intro j u hj
  obtain ⟨i, r, hi, hr, rfl, hu⟩ := flatG_idx hz hf k hj
  rw [addr_add, ← Nat.add_assoc]
  exact h i hi r u hu
theorem flatG_own {W : World} {base b c k : Nat} {e : TypeId} (hf : ∀ i, (f i).length = z) (h : W.ownsRow base e z (.slice (some ⟨b, 0, none⟩) k c) k (flatG f k)) {i : Nat} (hi : i < k) {r : Nat} (hr : r < z) {u : Value} (hu : (f i)[r]? = some u) : W.cell? ⟨b, i * z + r, none⟩ = some u := by
  have := h.cells (g := b) rfl (i * z + r) u (by rw [flatG_get hf k i hi r hr]; exact hu)
  rw [addr_add, Nat.zero_add] at this
  exact this
end
theorem own_cap {w : World} {base size n c : Nat} {e : TypeId} {A : Option Addr} {xs : List Value} (h : w.ownsRow base e size (.slice A n c) n xs) : n ≤ c := by
  rcases h.2 with ⟨h1, h2⟩ | ⟨g, cap, cur, hv, hbg, hg, hnc, hcm, hcs, htake⟩
  · simp only [Value.slice.injEq] at h1; omega
  · simp only [Value.slice.injEq] at hv; omega
end Go.Proofs.YtogjghmoankleaaGreat


namespace Go.Proofs.YtogjghmoankleaaGreat
open Go.RowKit
set_option linter.unusedVariables false
set_option linter.unusedSimpArgs false

abbrev BV.c (b : BV) : Array Value := #[.int .i64 b.ty, .int .i64 b.num, .int .u64 (b.fl : Int), .int .i64 b.crc, str b.data]
abbrev BV.v (b : BV) : Value := .agg b.c
set_option maxRecDepth 20000 in
theorem cRight_0 (ty : Int) (num : Int) (fl : Nat) (crc : Int) (data : List UInt8) (h : ty < 1) (w : World) : Calls Tryz.prog 76 #[BV.v ⟨ty, num, fl, crc, data⟩] w (Ret (.int .i64 1) w) := by
  have t0 : decide (ty < 1) = true := by simp; omega
  have t1 : decide (1 ≤ ty) = false := by simp; omega
  clear h
  go_enter Tryz.func76, Tryz.ntmps76
  go_wp2
  go_ret
  exact Ret.mk rfl ((Mod.refl _ _).alloc _)
set_option maxRecDepth 20000 in
theorem cRight_1 (ty : Int) (num : Int) (fl : Nat) (crc : Int) (data : List UInt8) (a1 : 1 ≤ ty) (h : 65535 < ty) (w : World) : Calls Tryz.prog 76 #[BV.v ⟨ty, num, fl, crc, data⟩] w (Ret (.int .i64 1) w) := by
  have t0 : decide (ty < 1) = false := by simp; omega
  have t1 : decide (1 ≤ ty) = true := by simp; omega
  have t2 : decide (65535 < ty) = true := by simp; omega
  have t3 : decide (ty ≤ 65535) = false := by simp; omega
  clear a1 h
  go_enter Tryz.func76, Tryz.ntmps76
  go_wp2
  go_ret
  exact Ret.mk rfl ((Mod.refl _ _).alloc _)
set_option maxRecDepth 20000 in
theorem cRight_2 (ty : Int) (num : Int) (fl : Nat) (crc : Int) (data : List UInt8) (a1 : 1 ≤ ty) (a2 : ty ≤ 65535) (h : num < 1) (w : World) : Calls Tryz.prog 76 #[BV.v ⟨ty, num, fl, crc, data⟩] w (Ret (.int .i64 1) w) := by
  have t0 : decide (ty < 1) = false := by simp; omega
  have t1 : decide (1 ≤ ty) = true := by simp; omega
  have t2 : decide (65535 < ty) = false := by simp; omega
  have t3 : decide (ty ≤ 65535) = true := by simp; omega
  have t4 : decide (num < 1) = true := by simp; omega
  have t5 : decide (1 ≤ num) = false := by simp; omega
  clear a1 a2 h
  go_enter Tryz.func76, Tryz.ntmps76
  go_wp2
  go_ret
  exact Ret.mk rfl ((Mod.refl _ _).alloc _)
set_option maxRecDepth 20000 in
theorem cRight_3 (ty : Int) (num : Int) (fl : Nat) (crc : Int) (data : List UInt8) (a1 : 1 ≤ ty) (a2 : ty ≤ 65535) (a3 : 1 ≤ num) (h : 65535 < num) (w : World) : Calls Tryz.prog 76 #[BV.v ⟨ty, num, fl, crc, data⟩] w (Ret (.int .i64 1) w) := by
  have t0 : decide (ty < 1) = false := by simp; omega
  have t1 : decide (1 ≤ ty) = true := by simp; omega
  have t2 : decide (65535 < ty) = false := by simp; omega
  have t3 : decide (ty ≤ 65535) = true := by simp; omega
  have t4 : decide (num < 1) = false := by simp; omega
  have t5 : decide (1 ≤ num) = true := by simp; omega
  have t6 : decide (65535 < num) = true := by simp; omega
  have t7 : decide (num ≤ 65535) = false := by simp; omega
  clear a1 a2 a3 h
  go_enter Tryz.func76, Tryz.ntmps76
  go_wp2
  go_ret
  exact Ret.mk rfl ((Mod.refl _ _).alloc _)
set_option maxRecDepth 20000 in
theorem cRight_4 (ty : Int) (num : Int) (fl : Nat) (crc : Int) (data : List UInt8) (a1 : 1 ≤ ty) (a2 : ty ≤ 65535) (a3 : 1 ≤ num) (a4 : num ≤ 65535) (h : 255 < fl) (w : World) : Calls Tryz.prog 76 #[BV.v ⟨ty, num, fl, crc, data⟩] w (Ret (.int .i64 1) w) := by
  have t0 : decide (ty < 1) = false := by simp; omega
  have t1 : decide (1 ≤ ty) = true := by simp; omega
  have t2 : decide (65535 < ty) = false := by simp; omega
  have t3 : decide (ty ≤ 65535) = true := by simp; omega
  have t4 : decide (num < 1) = false := by simp; omega
  have t5 : decide (1 ≤ num) = true := by simp; omega
  have t6 : decide (65535 < num) = false := by simp; omega
  have t7 : decide (num ≤ 65535) = true := by simp; omega
  have t8 : decide (255 < (fl : Int)) = true := by simp; omega
  have t9 : decide ((fl : Int) ≤ 255) = false := by simp; omega
  clear a1 a2 a3 a4 h
  go_enter Tryz.func76, Tryz.ntmps76
  go_wp2
  go_ret
  exact Ret.mk rfl ((Mod.refl _ _).alloc _)
set_option maxRecDepth 20000 in
theorem cRight_5 (ty : Int) (num : Int) (fl : Nat) (crc : Int) (data : List UInt8) (a1 : 1 ≤ ty) (a2 : ty ≤ 65535) (a3 : 1 ≤ num) (a4 : num ≤ 65535) (a5 : fl ≤ 255) (h : crc < 0) (w : World) : Calls Tryz.prog 76 #[BV.v ⟨ty, num, fl, crc, data⟩] w (Ret (.int .i64 1) w) := by
  have t0 : decide (ty < 1) = false := by simp; omega
  have t1 : decide (1 ≤ ty) = true := by simp; omega
  have t2 : decide (65535 < ty) = false := by simp; omega
  have t3 : decide (ty ≤ 65535) = true := by simp; omega
  have t4 : decide (num < 1) = false := by simp; omega
  have t5 : decide (1 ≤ num) = true := by simp; omega
  have t6 : decide (65535 < num) = false := by simp; omega
  have t7 : decide (num ≤ 65535) = true := by simp; omega
  have t8 : decide (255 < (fl : Int)) = false := by simp; omega
  have t9 : decide ((fl : Int) ≤ 255) = true := by simp; omega
  have t10 : decide (crc < 0) = true := by simp; omega
  have t11 : decide (0 ≤ crc) = false := by simp; omega
  clear a1 a2 a3 a4 a5 h
  go_enter Tryz.func76, Tryz.ntmps76
  go_wp2
  go_ret
  exact Ret.mk rfl ((Mod.refl _ _).alloc _)
set_option maxRecDepth 20000 in
theorem cRight_6 (ty : Int) (num : Int) (fl : Nat) (crc : Int) (data : List UInt8) (a1 : 1 ≤ ty) (a2 : ty ≤ 65535) (a3 : 1 ≤ num) (a4 : num ≤ 65535) (a5 : fl ≤ 255) (a6 : 0 ≤ crc) (h : 2 < crc) (w : World) : Calls Tryz.prog 76 #[BV.v ⟨ty, num, fl, crc, data⟩] w (Ret (.int .i64 1) w) := by
  have t0 : decide (ty < 1) = false := by simp; omega
  have t1 : decide (1 ≤ ty) = true := by simp; omega
  have t2 : decide (65535 < ty) = false := by simp; omega
  have t3 : decide (ty ≤ 65535) = true := by simp; omega
  have t4 : decide (num < 1) = false := by simp; omega
  have t5 : decide (1 ≤ num) = true := by simp; omega
  have t6 : decide (65535 < num) = false := by simp; omega
  have t7 : decide (num ≤ 65535) = true := by simp; omega
  have t8 : decide (255 < (fl : Int)) = false := by simp; omega
  have t9 : decide ((fl : Int) ≤ 255) = true := by simp; omega
  have t10 : decide (crc < 0) = false := by simp; omega
  have t11 : decide (0 ≤ crc) = true := by simp; omega
  have t12 : decide (2 < crc) = true := by simp; omega
  have t13 : decide (crc ≤ 2) = false := by simp; omega
  clear a1 a2 a3 a4 a5 a6 h
  go_enter Tryz.func76, Tryz.ntmps76
  go_wp2
  go_ret
  exact Ret.mk rfl ((Mod.refl _ _).alloc _)
set_option maxRecDepth 20000 in
theorem cRight_7 (ty : Int) (num : Int) (fl : Nat) (crc : Int) (data : List UInt8) (a1 : 1 ≤ ty) (a2 : ty ≤ 65535) (a3 : 1 ≤ num) (a4 : num ≤ 65535) (a5 : fl ≤ 255) (a6 : 0 ≤ crc) (a7 : crc ≤ 2) (h : 4000 < data.length) (w : World) : Calls Tryz.prog 76 #[BV.v ⟨ty, num, fl, crc, data⟩] w (Ret (.int .i64 4) w) := by
  have t0 : decide (ty < 1) = false := by simp; omega
  have t1 : decide (1 ≤ ty) = true := by simp; omega
  have t2 : decide (65535 < ty) = false := by simp; omega
  have t3 : decide (ty ≤ 65535) = true := by simp; omega
  have t4 : decide (num < 1) = false := by simp; omega
  have t5 : decide (1 ≤ num) = true := by simp; omega
  have t6 : decide (65535 < num) = false := by simp; omega
  have t7 : decide (num ≤ 65535) = true := by simp; omega
  have t8 : decide (255 < (fl : Int)) = false := by simp; omega
  have t9 : decide ((fl : Int) ≤ 255) = true := by simp; omega
  have t10 : decide (crc < 0) = false := by simp; omega
  have t11 : decide (0 ≤ crc) = true := by simp; omega
  have t12 : decide (2 < crc) = false := by simp; omega
  have t13 : decide (crc ≤ 2) = true := by simp; omega
  have t14 : decide (4000 < (data.length : Int)) = true := by simp; omega
  have t15 : decide ((data.length : Int) ≤ 4000) = false := by simp; omega
  clear a1 a2 a3 a4 a5 a6 a7 h
  go_enter Tryz.func76, Tryz.ntmps76
  go_wp2
  go_ret
  exact Ret.mk rfl ((Mod.refl _ _).alloc _)
set_option maxRecDepth 20000 in
theorem cRight_8 (num : Int) (fl : Nat) (crc : Int) (data : List UInt8) (a3 : 1 ≤ num) (a4 : num ≤ 65535) (a5 : fl ≤ 255) (a6 : 0 ≤ crc) (a7 : crc ≤ 2) (a8 : data.length ≤ 4000) (b2 : num ≠ 1) (w : World) : Calls Tryz.prog 76 #[BV.v ⟨1, num, fl, crc, data⟩] w (Ret (.int .i64 8) w) := by
  have t0 : decide (num < 1) = false := by simp; omega
  have t1 : decide (1 ≤ num) = true := by simp; omega
  have t2 : decide (65535 < num) = false := by simp; omega
  have t3 : decide (num ≤ 65535) = true := by simp; omega
  have t4 : decide (255 < (fl : Int)) = false := by simp; omega
  have t5 : decide ((fl : Int) ≤ 255) = true := by simp; omega
  have t6 : decide (crc < 0) = false := by simp; omega
  have t7 : decide (0 ≤ crc) = true := by simp; omega
  have t8 : decide (2 < crc) = false := by simp; omega
  have t9 : decide (crc ≤ 2) = true := by simp; omega
  have t10 : decide (4000 < (data.length : Int)) = false := by simp; omega
  have t11 : decide ((data.length : Int) ≤ 4000) = true := by simp; omega
  have e3 : (num = 1) = False := by simp [b2]
  have e4 : (num == 1) = false := by simp [b2]
  clear a3 a4 a5 a6 a7 a8 b2
  go_enter Tryz.func76, Tryz.ntmps76
  go_wp2
  go_ret
  exact Ret.mk rfl ((Mod.refl _ _).alloc _)
set_option maxRecDepth 20000 in
theorem cRight_9 (ty : Int) (fl : Nat) (crc : Int) (data : List UInt8) (a1 : 1 ≤ ty) (a2 : ty ≤ 65535) (a5 : fl ≤ 255) (a6 : 0 ≤ crc) (a7 : crc ≤ 2) (a8 : data.length ≤ 4000) (b1 : ty ≠ 1) (w : World) : Calls Tryz.prog 76 #[BV.v ⟨ty, 1, fl, crc, data⟩] w (Ret (.int .i64 8) w) := by
  have t0 : decide (ty < 1) = false := by simp; omega
  have t1 : decide (1 ≤ ty) = true := by simp; omega
  have t2 : decide (65535 < ty) = false := by simp; omega
  have t3 : decide (ty ≤ 65535) = true := by simp; omega
  have t4 : decide (255 < (fl : Int)) = false := by simp; omega
  have t5 : decide ((fl : Int) ≤ 255) = true := by simp; omega
  have t6 : decide (crc < 0) = false := by simp; omega
  have t7 : decide (0 ≤ crc) = true := by simp; omega
  have t8 : decide (2 < crc) = false := by simp; omega
  have t9 : decide (crc ≤ 2) = true := by simp; omega
  have t10 : decide (4000 < (data.length : Int)) = false := by simp; omega
  have t11 : decide ((data.length : Int) ≤ 4000) = true := by simp; omega
  have e1 : (ty = 1) = False := by simp [b1]
  have e2 : (ty == 1) = false := by simp [b1]
  clear a1 a2 a5 a6 a7 a8 b1
  go_enter Tryz.func76, Tryz.ntmps76
  go_wp2
  go_ret
  exact Ret.mk rfl ((Mod.refl _ _).alloc _)
set_option maxRecDepth 20000 in
theorem cRight_10  (fl : Nat) (crc : Int) (data : List UInt8) (a5 : fl ≤ 255) (a6 : 0 ≤ crc) (a7 : crc ≤ 2) (a8 : data.length ≤ 4000) (w : World) : Calls Tryz.prog 76 #[BV.v ⟨1, 1, fl, crc, data⟩] w (Ret (.int .i64 0) w) := by
  have t0 : decide (255 < (fl : Int)) = false := by simp; omega
  have t1 : decide ((fl : Int) ≤ 255) = true := by simp; omega
  have t2 : decide (crc < 0) = false := by simp; omega
  have t3 : decide (0 ≤ crc) = true := by simp; omega
  have t4 : decide (2 < crc) = false := by simp; omega
  have t5 : decide (crc ≤ 2) = true := by simp; omega
  have t6 : decide (4000 < (data.length : Int)) = false := by simp; omega
  have t7 : decide ((data.length : Int) ≤ 4000) = true := by simp; omega
  clear a5 a6 a7 a8
  go_enter Tryz.func76, Tryz.ntmps76
  go_wp2
  go_ret
  exact Ret.mk rfl ((Mod.refl _ _).alloc _)
set_option maxRecDepth 20000 in
theorem cRight_11 (ty : Int) (num : Int) (fl : Nat) (crc : Int) (data : List UInt8) (a1 : 1 ≤ ty) (a2 : ty ≤ 65535) (a3 : 1 ≤ num) (a4 : num ≤ 65535) (a5 : fl ≤ 255) (a6 : 0 ≤ crc) (a7 : crc ≤ 2) (a8 : data.length ≤ 4000) (b1 : ty ≠ 1) (b2 : num ≠ 1) (w : World) : Calls Tryz.prog 76 #[BV.v ⟨ty, num, fl, crc, data⟩] w (Ret (.int .i64 0) w) := by
  have t0 : decide (ty < 1) = false := by simp; omega
  have t1 : decide (1 ≤ ty) = true := by simp; omega
  have t2 : decide (65535 < ty) = false := by simp; omega
  have t3 : decide (ty ≤ 65535) = true := by simp; omega
  have t4 : decide (num < 1) = false := by simp; omega
  have t5 : decide (1 ≤ num) = true := by simp; omega
  have t6 : decide (65535 < num) = false := by simp; omega
  have t7 : decide (num ≤ 65535) = true := by simp; omega
  have t8 : decide (255 < (fl : Int)) = false := by simp; omega
  have t9 : decide ((fl : Int) ≤ 255) = true := by simp; omega
  have t10 : decide (crc < 0) = false := by simp; omega
  have t11 : decide (0 ≤ crc) = true := by simp; omega
  have t12 : decide (2 < crc) = false := by simp; omega
  have t13 : decide (crc ≤ 2) = true := by simp; omega
  have t14 : decide (4000 < (data.length : Int)) = false := by simp; omega
  have t15 : decide ((data.length : Int) ≤ 4000) = true := by simp; omega
  have e1 : (ty = 1) = False := by simp [b1]
  have e2 : (ty == 1) = false := by simp [b1]
  have e3 : (num = 1) = False := by simp [b2]
  have e4 : (num == 1) = false := by simp [b2]
  clear a1 a2 a3 a4 a5 a6 a7 a8 b1 b2
  go_enter Tryz.func76, Tryz.ntmps76
  go_wp2
  go_ret
  exact Ret.mk rfl ((Mod.refl _ _).alloc _)
set_option maxRecDepth 20000 in
theorem rRight_0 (ty : Int) (num : Int) (fl : Nat) (crc : Int) (data : List UInt8) (h : ty < 1) (w : World) : Calls Tryz.prog 20 #[BV.v ⟨ty, num, fl, crc, data⟩] w (Ret (.int .i64 1) w) := by
  have t0 : decide (ty < 1) = true := by simp; omega
  have t1 : decide (1 ≤ ty) = false := by simp; omega
  clear h
  go_enter Tryz.func20, Tryz.ntmps20
  go_wp2
  go_ret
  exact Ret.mk rfl ((Mod.refl _ _).alloc _)
set_option maxRecDepth 20000 in
theorem rRight_1 (ty : Int) (num : Int) (fl : Nat) (crc : Int) (data : List UInt8) (a1 : 1 ≤ ty) (h : 65535 < ty) (w : World) : Calls Tryz.prog 20 #[BV.v ⟨ty, num, fl, crc, data⟩] w (Ret (.int .i64 1) w) := by
  have t0 : decide (ty < 1) = false := by simp; omega
  have t1 : decide (1 ≤ ty) = true := by simp; omega
  have t2 : decide (65535 < ty) = true := by simp; omega
  have t3 : decide (ty ≤ 65535) = false := by simp; omega
  clear a1 h
  go_enter Tryz.func20, Tryz.ntmps20
  go_wp2
  go_ret
  exact Ret.mk rfl ((Mod.refl _ _).alloc _)
set_option maxRecDepth 20000 in
theorem rRight_2 (ty : Int) (num : Int) (fl : Nat) (crc : Int) (data : List UInt8) (a1 : 1 ≤ ty) (a2 : ty ≤ 65535) (h : num < 1) (w : World) : Calls Tryz.prog 20 #[BV.v ⟨ty, num, fl, crc, data⟩] w (Ret (.int .i64 1) w) := by
  have t0 : decide (ty < 1) = false := by simp; omega
  have t1 : decide (1 ≤ ty) = true := by simp; omega
  have t2 : decide (65535 < ty) = false := by simp; omega
  have t3 : decide (ty ≤ 65535) = true := by simp; omega
  have t4 : decide (num < 1) = true := by simp; omega
  have t5 : decide (1 ≤ num) = false := by simp; omega
  clear a1 a2 h
  go_enter Tryz.func20, Tryz.ntmps20
  go_wp2
  go_ret
  exact Ret.mk rfl ((Mod.refl _ _).alloc _)
set_option maxRecDepth 20000 in
theorem rRight_3 (ty : Int) (num : Int) (fl : Nat) (crc : Int) (data : List UInt8) (a1 : 1 ≤ ty) (a2 : ty ≤ 65535) (a3 : 1 ≤ num) (h : 65535 < num) (w : World) : Calls Tryz.prog 20 #[BV.v ⟨ty, num, fl, crc, data⟩] w (Ret (.int .i64 1) w) := by
  have t0 : decide (ty < 1) = false := by simp; omega
  have t1 : decide (1 ≤ ty) = true := by simp; omega
  have t2 : decide (65535 < ty) = false := by simp; omega
  have t3 : decide (ty ≤ 65535) = true := by simp; omega
  have t4 : decide (num < 1) = false := by simp; omega
  have t5 : decide (1 ≤ num) = true := by simp; omega
  have t6 : decide (65535 < num) = true := by simp; omega
  have t7 : decide (num ≤ 65535) = false := by simp; omega
  clear a1 a2 a3 h
  go_enter Tryz.func20, Tryz.ntmps20
  go_wp2
  go_ret
  exact Ret.mk rfl ((Mod.refl _ _).alloc _)
set_option maxRecDepth 20000 in
theorem rRight_4 (ty : Int) (num : Int) (fl : Nat) (crc : Int) (data : List UInt8) (a1 : 1 ≤ ty) (a2 : ty ≤ 65535) (a3 : 1 ≤ num) (a4 : num ≤ 65535) (h : 255 < fl) (w : World) : Calls Tryz.prog 20 #[BV.v ⟨ty, num, fl, crc, data⟩] w (Ret (.int .i64 1) w) := by
  have t0 : decide (ty < 1) = false := by simp; omega
  have t1 : decide (1 ≤ ty) = true := by simp; omega
  have t2 : decide (65535 < ty) = false := by simp; omega
  have t3 : decide (ty ≤ 65535) = true := by simp; omega
  have t4 : decide (num < 1) = false := by simp; omega
  have t5 : decide (1 ≤ num) = true := by simp; omega
  have t6 : decide (65535 < num) = false := by simp; omega
  have t7 : decide (num ≤ 65535) = true := by simp; omega
  have t8 : decide (255 < (fl : Int)) = true := by simp; omega
  have t9 : decide ((fl : Int) ≤ 255) = false := by simp; omega
  clear a1 a2 a3 a4 h
  go_enter Tryz.func20, Tryz.ntmps20
  go_wp2
  go_ret
  exact Ret.mk rfl ((Mod.refl _ _).alloc _)
set_option maxRecDepth 20000 in
theorem rRight_5 (ty : Int) (num : Int) (fl : Nat) (crc : Int) (data : List UInt8) (a1 : 1 ≤ ty) (a2 : ty ≤ 65535) (a3 : 1 ≤ num) (a4 : num ≤ 65535) (a5 : fl ≤ 255) (h : crc < 0) (w : World) : Calls Tryz.prog 20 #[BV.v ⟨ty, num, fl, crc, data⟩] w (Ret (.int .i64 1) w) := by
  have t0 : decide (ty < 1) = false := by simp; omega
  have t1 : decide (1 ≤ ty) = true := by simp; omega
  have t2 : decide (65535 < ty) = false := by simp; omega
  have t3 : decide (ty ≤ 65535) = true := by simp; omega
  have t4 : decide (num < 1) = false := by simp; omega
  have t5 : decide (1 ≤ num) = true := by simp; omega
  have t6 : decide (65535 < num) = false := by simp; omega
  have t7 : decide (num ≤ 65535) = true := by simp; omega
  have t8 : decide (255 < (fl : Int)) = false := by simp; omega
  have t9 : decide ((fl : Int) ≤ 255) = true := by simp; omega
  have t10 : decide (crc < 0) = true := by simp; omega
  have t11 : decide (0 ≤ crc) = false := by simp; omega
  clear a1 a2 a3 a4 a5 h
  go_enter Tryz.func20, Tryz.ntmps20
  go_wp2
  go_ret
  exact Ret.mk rfl ((Mod.refl _ _).alloc _)
set_option maxRecDepth 20000 in
theorem rRight_6 (ty : Int) (num : Int) (fl : Nat) (crc : Int) (data : List UInt8) (a1 : 1 ≤ ty) (a2 : ty ≤ 65535) (a3 : 1 ≤ num) (a4 : num ≤ 65535) (a5 : fl ≤ 255) (a6 : 0 ≤ crc) (h : 2 < crc) (w : World) : Calls Tryz.prog 20 #[BV.v ⟨ty, num, fl, crc, data⟩] w (Ret (.int .i64 1) w) := by
  have t0 : decide (ty < 1) = false := by simp; omega
  have t1 : decide (1 ≤ ty) = true := by simp; omega
  have t2 : decide (65535 < ty) = false := by simp; omega
  have t3 : decide (ty ≤ 65535) = true := by simp; omega
  have t4 : decide (num < 1) = false := by simp; omega
  have t5 : decide (1 ≤ num) = true := by simp; omega
  have t6 : decide (65535 < num) = false := by simp; omega
  have t7 : decide (num ≤ 65535) = true := by simp; omega
  have t8 : decide (255 < (fl : Int)) = false := by simp; omega
  have t9 : decide ((fl : Int) ≤ 255) = true := by simp; omega
  have t10 : decide (crc < 0) = false := by simp; omega
  have t11 : decide (0 ≤ crc) = true := by simp; omega
  have t12 : decide (2 < crc) = true := by simp; omega
  have t13 : decide (crc ≤ 2) = false := by simp; omega
  clear a1 a2 a3 a4 a5 a6 h
  go_enter Tryz.func20, Tryz.ntmps20
  go_wp2
  go_ret
  exact Ret.mk rfl ((Mod.refl _ _).alloc _)
set_option maxRecDepth 20000 in
theorem rRight_7 (ty : Int) (num : Int) (fl : Nat) (crc : Int) (data : List UInt8) (a1 : 1 ≤ ty) (a2 : ty ≤ 65535) (a3 : 1 ≤ num) (a4 : num ≤ 65535) (a5 : fl ≤ 255) (a6 : 0 ≤ crc) (a7 : crc ≤ 2) (h : 4000 < data.length) (w : World) : Calls Tryz.prog 20 #[BV.v ⟨ty, num, fl, crc, data⟩] w (Ret (.int .i64 4) w) := by
  have t0 : decide (ty < 1) = false := by simp; omega
  have t1 : decide (1 ≤ ty) = true := by simp; omega
  have t2 : decide (65535 < ty) = false := by simp; omega
  have t3 : decide (ty ≤ 65535) = true := by simp; omega
  have t4 : decide (num < 1) = false := by simp; omega
  have t5 : decide (1 ≤ num) = true := by simp; omega
  have t6 : decide (65535 < num) = false := by simp; omega
  have t7 : decide (num ≤ 65535) = true := by simp; omega
  have t8 : decide (255 < (fl : Int)) = false := by simp; omega
  have t9 : decide ((fl : Int) ≤ 255) = true := by simp; omega
  have t10 : decide (crc < 0) = false := by simp; omega
  have t11 : decide (0 ≤ crc) = true := by simp; omega
  have t12 : decide (2 < crc) = false := by simp; omega
  have t13 : decide (crc ≤ 2) = true := by simp; omega
  have t14 : decide (4000 < (data.length : Int)) = true := by simp; omega
  have t15 : decide ((data.length : Int) ≤ 4000) = false := by simp; omega
  clear a1 a2 a3 a4 a5 a6 a7 h
  go_enter Tryz.func20, Tryz.ntmps20
  go_wp2
  go_ret
  exact Ret.mk rfl ((Mod.refl _ _).alloc _)
set_option maxRecDepth 20000 in
theorem rRight_8 (num : Int) (fl : Nat) (crc : Int) (data : List UInt8) (a3 : 1 ≤ num) (a4 : num ≤ 65535) (a5 : fl ≤ 255) (a6 : 0 ≤ crc) (a7 : crc ≤ 2) (a8 : data.length ≤ 4000) (b2 : num ≠ 1) (w : World) : Calls Tryz.prog 20 #[BV.v ⟨1, num, fl, crc, data⟩] w (Ret (.int .i64 8) w) := by
  have t0 : decide (num < 1) = false := by simp; omega
  have t1 : decide (1 ≤ num) = true := by simp; omega
  have t2 : decide (65535 < num) = false := by simp; omega
  have t3 : decide (num ≤ 65535) = true := by simp; omega
  have t4 : decide (255 < (fl : Int)) = false := by simp; omega
  have t5 : decide ((fl : Int) ≤ 255) = true := by simp; omega
  have t6 : decide (crc < 0) = false := by simp; omega
  have t7 : decide (0 ≤ crc) = true := by simp; omega
  have t8 : decide (2 < crc) = false := by simp; omega
  have t9 : decide (crc ≤ 2) = true := by simp; omega
  have t10 : decide (4000 < (data.length : Int)) = false := by simp; omega
  have t11 : decide ((data.length : Int) ≤ 4000) = true := by simp; omega
  have e3 : (num = 1) = False := by simp [b2]
  have e4 : (num == 1) = false := by simp [b2]
  clear a3 a4 a5 a6 a7 a8 b2
  go_enter Tryz.func20, Tryz.ntmps20
  go_wp2
  go_ret
  exact Ret.mk rfl ((Mod.refl _ _).alloc _)
set_option maxRecDepth 20000 in
theorem rRight_9 (ty : Int) (fl : Nat) (crc : Int) (data : List UInt8) (a1 : 1 ≤ ty) (a2 : ty ≤ 65535) (a5 : fl ≤ 255) (a6 : 0 ≤ crc) (a7 : crc ≤ 2) (a8 : data.length ≤ 4000) (b1 : ty ≠ 1) (w : World) : Calls Tryz.prog 20 #[BV.v ⟨ty, 1, fl, crc, data⟩] w (Ret (.int .i64 8) w) := by
  have t0 : decide (ty < 1) = false := by simp; omega
  have t1 : decide (1 ≤ ty) = true := by simp; omega
  have t2 : decide (65535 < ty) = false := by simp; omega
  have t3 : decide (ty ≤ 65535) = true := by simp; omega
  have t4 : decide (255 < (fl : Int)) = false := by simp; omega
  have t5 : decide ((fl : Int) ≤ 255) = true := by simp; omega
  have t6 : decide (crc < 0) = false := by simp; omega
  have t7 : decide (0 ≤ crc) = true := by simp; omega
  have t8 : decide (2 < crc) = false := by simp; omega
  have t9 : decide (crc ≤ 2) = true := by simp; omega
  have t10 : decide (4000 < (data.length : Int)) = false := by simp; omega
  have t11 : decide ((data.length : Int) ≤ 4000) = true := by simp; omega
  have e1 : (ty = 1) = False := by simp [b1]
  have e2 : (ty == 1) = false := by simp [b1]
  clear a1 a2 a5 a6 a7 a8 b1
  go_enter Tryz.func20, Tryz.ntmps20
  go_wp2
  go_ret
  exact Ret.mk rfl ((Mod.refl _ _).alloc _)
set_option maxRecDepth 20000 in
theorem rRight_10  (fl : Nat) (crc : Int) (data : List UInt8) (a5 : fl ≤ 255) (a6 : 0 ≤ crc) (a7 : crc ≤ 2) (a8 : data.length ≤ 4000) (w : World) : Calls Tryz.prog 20 #[BV.v ⟨1, 1, fl, crc, data⟩] w (Ret (.int .i64 0) w) := by
  have t0 : decide (255 < (fl : Int)) = false := by simp; omega
  have t1 : decide ((fl : Int) ≤ 255) = true := by simp; omega
  have t2 : decide (crc < 0) = false := by simp; omega
  have t3 : decide (0 ≤ crc) = true := by simp; omega
  have t4 : decide (2 < crc) = false := by simp; omega
  have t5 : decide (crc ≤ 2) = true := by simp; omega
  have t6 : decide (4000 < (data.length : Int)) = false := by simp; omega
  have t7 : decide ((data.length : Int) ≤ 4000) = true := by simp; omega
  clear a5 a6 a7 a8
  go_enter Tryz.func20, Tryz.ntmps20
  go_wp2
  go_ret
  exact Ret.mk rfl ((Mod.refl _ _).alloc _)
set_option maxRecDepth 20000 in
theorem rRight_11 (ty : Int) (num : Int) (fl : Nat) (crc : Int) (data : List UInt8) (a1 : 1 ≤ ty) (a2 : ty ≤ 65535) (a3 : 1 ≤ num) (a4 : num ≤ 65535) (a5 : fl ≤ 255) (a6 : 0 ≤ crc) (a7 : crc ≤ 2) (a8 : data.length ≤ 4000) (b1 : ty ≠ 1) (b2 : num ≠ 1) (w : World) : Calls Tryz.prog 20 #[BV.v ⟨ty, num, fl, crc, data⟩] w (Ret (.int .i64 0) w) := by
  have t0 : decide (ty < 1) = false := by simp; omega
  have t1 : decide (1 ≤ ty) = true := by simp; omega
  have t2 : decide (65535 < ty) = false := by simp; omega
  have t3 : decide (ty ≤ 65535) = true := by simp; omega
  have t4 : decide (num < 1) = false := by simp; omega
  have t5 : decide (1 ≤ num) = true := by simp; omega
  have t6 : decide (65535 < num) = false := by simp; omega
  have t7 : decide (num ≤ 65535) = true := by simp; omega
  have t8 : decide (255 < (fl : Int)) = false := by simp; omega
  have t9 : decide ((fl : Int) ≤ 255) = true := by simp; omega
  have t10 : decide (crc < 0) = false := by simp; omega
  have t11 : decide (0 ≤ crc) = true := by simp; omega
  have t12 : decide (2 < crc) = false := by simp; omega
  have t13 : decide (crc ≤ 2) = true := by simp; omega
  have t14 : decide (4000 < (data.length : Int)) = false := by simp; omega
  have t15 : decide ((data.length : Int) ≤ 4000) = true := by simp; omega
  have e1 : (ty = 1) = False := by simp [b1]
  have e2 : (ty == 1) = false := by simp [b1]
  have e3 : (num = 1) = False := by simp [b2]
  have e4 : (num == 1) = false := by simp [b2]
  clear a1 a2 a3 a4 a5 a6 a7 a8 b1 b2
  go_enter Tryz.func20, Tryz.ntmps20
  go_wp2
  go_ret
  exact Ret.mk rfl ((Mod.refl _ _).alloc _)
theorem cbRight_any (b : BV) (w : World) : Calls Tryz.prog 76 #[b.v] w (Ret (.int .i64 b.right) w) := by
  obtain ⟨ty, num, fl, crc, data⟩ := b
  have go : ∀ (k : Int), Calls Tryz.prog 76 #[BV.v ⟨ty, num, fl, crc, data⟩] w (Ret (.int .i64 k) w) → BV.right ⟨ty, num, fl, crc, data⟩ = k → Calls Tryz.prog 76 #[BV.v ⟨ty, num, fl, crc, data⟩] w (Ret (.int .i64 (BV.right ⟨ty, num, fl, crc, data⟩)) w) := fun k h e => by rw [e]; exact h
  by_cases h0 : ty < 1
  · exact go _ (cRight_0 ty num fl crc data (by omega) w) (by unfold BV.right; simp only []; rw [if_pos (by omega)])
  by_cases h1 : 65535 < ty
  · exact go _ (cRight_1 ty num fl crc data (by omega) (by omega) w) (by unfold BV.right; simp only []; rw [if_pos (by omega)])
  by_cases h2 : num < 1
  · exact go _ (cRight_2 ty num fl crc data (by omega) (by omega) (by omega) w) (by unfold BV.right; simp only []; rw [if_pos (by omega)])
  by_cases h3 : 65535 < num
  · exact go _ (cRight_3 ty num fl crc data (by omega) (by omega) (by omega) (by omega) w) (by unfold BV.right; simp only []; rw [if_pos (by omega)])
  by_cases h4 : 255 < fl
  · exact go _ (cRight_4 ty num fl crc data (by omega) (by omega) (by omega) (by omega) (by omega) w) (by unfold BV.right; simp only []; rw [if_pos (by omega)])
  by_cases h5 : crc < 0
  · exact go _ (cRight_5 ty num fl crc data (by omega) (by omega) (by omega) (by omega) (by omega) (by omega) w) (by unfold BV.right; simp only []; rw [if_pos (by omega)])
  by_cases h6 : 2 < crc
  · exact go _ (cRight_6 ty num fl crc data (by omega) (by omega) (by omega) (by omega) (by omega) (by omega) (by omega) w) (by unfold BV.right; simp only []; rw [if_pos (by omega)])
  by_cases h7 : 4000 < data.length
  · exact go _ (cRight_7 ty num fl crc data (by omega) (by omega) (by omega) (by omega) (by omega) (by omega) (by omega) (by omega) w) (by unfold BV.right; simp only []; rw [if_neg (by omega), if_pos (by omega)])
  by_cases k1 : ty = 1
  · subst k1
    by_cases k2 : num = 1
    · subst k2
      exact go _ (cRight_10 fl crc data (by omega) (by omega) (by omega) (by omega) w) (by unfold BV.right; simp only []; rw [if_neg (by omega), if_neg (by omega), if_neg (by omega)])
    · exact go _ (cRight_8 num fl crc data (by omega) (by omega) (by omega) (by omega) (by omega) (by omega) k2 w) (by unfold BV.right; simp only []; rw [if_neg (by omega), if_neg (by omega), if_pos (by simp [k2])])
  · by_cases k2 : num = 1
    · subst k2
      exact go _ (cRight_9 ty fl crc data (by omega) (by omega) (by omega) (by omega) (by omega) (by omega) k1 w) (by unfold BV.right; simp only []; rw [if_neg (by omega), if_neg (by omega), if_pos (by simp [k1])])
    · exact go _ (cRight_11 ty num fl crc data (by omega) (by omega) (by omega) (by omega) (by omega) (by omega) (by omega) (by omega) k1 k2 w) (by unfold BV.right; simp only []; rw [if_neg (by omega), if_neg (by omega), if_neg (by omega)])
theorem rbRight_any (b : BV) (w : World) : Calls Tryz.prog 20 #[b.v] w (Ret (.int .i64 b.right) w) := by
  obtain ⟨ty, num, fl, crc, data⟩ := b
  have go : ∀ (k : Int), Calls Tryz.prog 20 #[BV.v ⟨ty, num, fl, crc, data⟩] w (Ret (.int .i64 k) w) → BV.right ⟨ty, num, fl, crc, data⟩ = k → Calls Tryz.prog 20 #[BV.v ⟨ty, num, fl, crc, data⟩] w (Ret (.int .i64 (BV.right ⟨ty, num, fl, crc, data⟩)) w) := fun k h e => by rw [e]; exact h
  by_cases h0 : ty < 1
  · exact go _ (rRight_0 ty num fl crc data (by omega) w) (by unfold BV.right; simp only []; rw [if_pos (by omega)])
  by_cases h1 : 65535 < ty
  · exact go _ (rRight_1 ty num fl crc data (by omega) (by omega) w) (by unfold BV.right; simp only []; rw [if_pos (by omega)])
  by_cases h2 : num < 1
  · exact go _ (rRight_2 ty num fl crc data (by omega) (by omega) (by omega) w) (by unfold BV.right; simp only []; rw [if_pos (by omega)])
  by_cases h3 : 65535 < num
  · exact go _ (rRight_3 ty num fl crc data (by omega) (by omega) (by omega) (by omega) w) (by unfold BV.right; simp only []; rw [if_pos (by omega)])
  by_cases h4 : 255 < fl
  · exact go _ (rRight_4 ty num fl crc data (by omega) (by omega) (by omega) (by omega) (by omega) w) (by unfold BV.right; simp only []; rw [if_pos (by omega)])
  by_cases h5 : crc < 0
  · exact go _ (rRight_5 ty num fl crc data (by omega) (by omega) (by omega) (by omega) (by omega) (by omega) w) (by unfold BV.right; simp only []; rw [if_pos (by omega)])
  by_cases h6 : 2 < crc
  · exact go _ (rRight_6 ty num fl crc data (by omega) (by omega) (by omega) (by omega) (by omega) (by omega) (by omega) w) (by unfold BV.right; simp only []; rw [if_pos (by omega)])
  by_cases h7 : 4000 < data.length
  · exact go _ (rRight_7 ty num fl crc data (by omega) (by omega) (by omega) (by omega) (by omega) (by omega) (by omega) (by omega) w) (by unfold BV.right; simp only []; rw [if_neg (by omega), if_pos (by omega)])
  by_cases k1 : ty = 1
  · subst k1
    by_cases k2 : num = 1
    · subst k2
      exact go _ (rRight_10 fl crc data (by omega) (by omega) (by omega) (by omega) w) (by unfold BV.right; simp only []; rw [if_neg (by omega), if_neg (by omega), if_neg (by omega)])
    · exact go _ (rRight_8 num fl crc data (by omega) (by omega) (by omega) (by omega) (by omega) (by omega) k2 w) (by unfold BV.right; simp only []; rw [if_neg (by omega), if_neg (by omega), if_pos (by simp [k2])])
  · by_cases k2 : num = 1
    · subst k2
      exact go _ (rRight_9 ty fl crc data (by omega) (by omega) (by omega) (by omega) (by omega) (by omega) k1 w) (by unfold BV.right; simp only []; rw [if_neg (by omega), if_neg (by omega), if_pos (by simp [k1])])
    · exact go _ (rRight_11 ty num fl crc data (by omega) (by omega) (by omega) (by omega) (by omega) (by omega) (by omega) (by omega) k1 k2 w) (by unfold BV.right; simp only []; rw [if_neg (by omega), if_neg (by omega), if_neg (by omega)])
end Go.Proofs.YtogjghmoankleaaGreat


namespace Go.Proofs.YtogjghmoankleaaGreat
open Go.RowKit
set_option linter.unusedVariables false
set_option linter.unusedSimpArgs false

def tyB (bs : Nat → BV) (typ : Int) (i : Nat) : Bool := decide ((bs i).ty = typ)
theorem tyB_no {bs : Nat → BV} {typ : Int} {i : Nat} (h : (bs i).ty ≠ typ) : tyB bs typ i = false := by unfold tyB; simp [h]
theorem tyB_yes {bs : Nat → BV} {typ : Int} {i : Nat} (h : (bs i).ty = typ) : tyB bs typ i = true := by unfold tyB; simp [h]
/-- A block's five cells, stored anew. -/
def setB (W : World) (g : Nat) (b : BV) : World := ((((W.setCell ⟨g, 0, none⟩ (.int .i64 b.ty)).setCell ⟨g, 1, none⟩ (.int .i64 b.num)).setCell ⟨g, 2, none⟩ (.int .u64 (b.fl : Int))).setCell ⟨g, 3, none⟩ (.int .i64 b.crc)).setCell ⟨g, 4, none⟩ (str b.data)
section
variable {W : World} {g : Nat} {b0 b : BV}
theorem setB_blk (h : Blk W g 49 b0.c) : Blk (setB W g b) g 49 b.c := by
  have := ((((h.set_ 0 (.int .i64 b.ty)).set_ 1 (.int .i64 b.num)).set_ 2 (.int .u64 (b.fl : Int))).set_ 3 (.int .i64 b.crc)).set_ 4 (str b.data)
  unfold setB
  simpa using this
theorem setB_mod {w : World} {S : List Nat} (h : Mod S w W) (hb : w.heap.size ≤ g) : Mod S w (setB W g b) :=
  ((((h.setCell (.inr hb) _).setCell (.inr hb) _).setCell (.inr hb) _).setCell (.inr hb) _).setCell (.inr hb) _
theorem cellsB (h : Blk W g 49 b.c) : W.cell? ⟨g, 0, none⟩ = some (.int .i64 b.ty) ∧ W.cell? ⟨g, 1, none⟩ = some (.int .i64 b.num) ∧ W.cell? ⟨g, 2, none⟩ = some (.int .u64 (b.fl : Int)) ∧
    W.cell? ⟨g, 3, none⟩ = some (.int .i64 b.crc) ∧ W.cell? ⟨g, 4, none⟩ = some (str b.data) := ⟨h.cell 0, h.cell 1, h.cell 2, h.cell 3, h.cell 4⟩
end
/-- What Find hands back. -/
def findV (bs : Nat → BV) (typ : Int) (k : Nat) : Value := match firstOf (tyB bs typ) k with | some i => .tuple #[(bs i).v, .bool true] | none => .tuple #[zeroB.v, .bool false]
set_option maxRecDepth 20000 in
set_option maxHeartbeats 800000 in
theorem Find_any (p : PV) (bs : Nat → BV) (k c : Nat) (A : Option Addr) (typ : Int) (hk : k < 4611686018427387904) (w : World) (h : BsL w A k bs) : Calls Tryz.prog 77 #[bunV p A k c, .int .i64 typ] w (Ret (findV bs typ k) w) := by
  have HE := hid (((Mod.refl [] w).alloc (.cells (bunC p A k c) 37)).alloc (.cells #[.int .i64 0, .int .i64 0, .int .u64 0, .int .i64 0, .string ⟨#[]⟩] 49))
  have HB := hid ((Blk.new w 37 (bunC p A k c)).alloc (.cells #[.int .i64 0, .int .i64 0, .int .u64 0, .int .i64 0, .string ⟨#[]⟩] 49))
  have HR : Hid (Blk ((w.alloc (.cells (bunC p A k c) 37)).alloc (.cells #[.int .i64 0, .int .i64 0, .int .u64 0, .int .i64 0, .string ⟨#[]⟩] 49)) (w.heap.size + 1) 49 zeroB.c) := Blk.newL _ _ _ (by simp)
  have HL := hid (BsL.ext h HE.out)
  have k1 : (k : Int) < 4611686018427387904 := by omega
  have HK := hid hk
  clear h hk
  go_enter Tryz.func77, Tryz.ntmps77
  go_upto_region 1 with fail
  generalize (w.alloc (.cells (bunC p A k c) 37)).alloc (.cells #[.int .i64 0, .int .i64 0, .int .u64 0, .int .i64 0, .string ⟨#[]⟩] 49) = V at *
  have b19 : ∀ e : Later V, e.x.cell? ⟨w.heap.size, 19, none⟩ = some (.slice A k c) := HB.out.cellL 19 rfl
  have b19v : V.cell? ⟨w.heap.size, 19, none⟩ = some (.slice A k c) := HB.out.cell 19
  go_wp2_with fail
  clear b19v
  obtain ⟨e0, he0⟩ := Later.self V
  go_loopw [11] (fun s11 wr => ∃ i : Nat, s11 = .int .i64 (i : Int) ∧ Hid (i ≤ k ∧ ∀ j, j < i → tyB bs typ j = false) ∧ ∃ e : Later V, wr = e.x) (fun s11 _ => k - (intOf s11).toNat)
  case atStart => exact ⟨0, rfl, (show Hid _ from ⟨by omega, fun j hj => by omega⟩), e0, he0⟩
  case round =>
    clear he0 e0
    obtain ⟨i, rfl, hi, e, rfl⟩ := hrel
    have i0 : (0 : Int) ≤ (i : Int) := by omega
    by_cases hlt : i < k
    · obtain ⟨b, o, rfl, hb, q0, q1, q2, q3, q4⟩ := HL.out.cells hlt
      have tc : decide (i < k) = true := by simp [hlt]
      have i1 : (i : Int) < (k : Int) := by omega
      have HLT := hid hlt
      have HRA := hid ((HR.out.later e).alloc (.cells (BV.c (bs i)) 49))
      have HEA := hid (HE.out.trans ((Later.h e).alloc (.cells (BV.c (bs i)) 49)))
      clear hlt
      by_cases ht : (bs i).ty = typ
      · have HF : Hid (findV bs typ k = .tuple #[(bs i).v, .bool true]) := by unfold Hid findV; rw [firstOf_some HLT.out (tyB_yes ht) hi.out.2]
        have t1 : ((bs i).ty == typ) = true := by simpa using ht
        have t2 : ((bs i).ty = typ) = True := by simpa using ht
        clear ht
        obtain ⟨c0, c1, c2, c3, c4⟩ := cellsB (b := zeroB) HRA.out
        have f0 := HRA.out.frozen 0
        have f1 := HRA.out.frozen 1
        have f2 := HRA.out.frozen 2
        have f3 := HRA.out.frozen 3
        have f4 := HRA.out.frozen 4
        go_wp2_with fail
        obtain ⟨d0, d1, d2, d3, d4⟩ := cellsB (setB_blk (b := bs i) HRA.out)
        clear c0 c1 c2 c3 c4 f0 f1 f2 f3 f4
        show bodyPost _ _ _ _ _ (setB (e.x.alloc (.cells (BV.c (bs i)) 49)) (w.heap.size + 1) (bs i))
        refine bodyPost_ret (v := .tuple #[(bs i).v, .bool true]) (by simp [results, Tryz.results77, go_sem, d0, d1, d2, d3, d4]) rfl (Ret.mk HF.out.symm (setB_mod HEA.out (by omega)))
      · have HN := hid (tyB_no ht)
        have t1 : ((bs i).ty == typ) = false := by simpa using ht
        have t2 : ((bs i).ty = typ) = False := by simpa using ht
        clear ht
        go_wp2_with fail
        go_roundw
        case rel => exact ⟨i + 1, by go_num, (show Hid _ from ⟨HLT.out, fun j hj => by
          by_cases hji : j = i
          · subst hji; exact HN.out
          · exact hi.out.2 j (by omega)⟩), Later.go e ((Mod.refl [] _).alloc _)⟩
        case measure => have := HLT.out; simp [intOf]; omega
    · obtain rfl : i = k := by have := hi.out.1; omega
      have tc : decide (i < i) = false := by simp
      have HF : Hid (findV bs typ i = .tuple #[zeroB.v, .bool false]) := by unfold Hid findV; rw [firstOf_none hi.out.2]
      have HRA := hid (HR.out.later e)
      obtain ⟨c0, c1, c2, c3, c4⟩ := cellsB (b := zeroB) HRA.out
      have f0 := HRA.out.frozen 0
      have f1 := HRA.out.frozen 1
      have f2 := HRA.out.frozen 2
      have f3 := HRA.out.frozen 3
      have f4 := HRA.out.frozen 4
      go_wp2_with fail
      obtain ⟨d0, d1, d2, d3, d4⟩ := cellsB (setB_blk (b := zeroB) HRA.out)
      clear c0 c1 c2 c3 c4 f0 f1 f2 f3 f4
      show bodyPost _ _ _ _ _ (setB e.x (w.heap.size + 1) zeroB)
      refine bodyPost_ret (v := .tuple #[zeroB.v, .bool false]) (by simp [results, Tryz.results77, go_sem, d0, d1, d2, d3, d4]) rfl (Ret.mk HF.out.symm (setB_mod (HE.out.trans e.h) (by omega)))
end Go.Proofs.YtogjghmoankleaaGreat


namespace Go.Proofs.YtogjghmoankleaaGreat
open Go.RowKit
set_option linter.unusedVariables false
set_option linter.unusedSimpArgs false

theorem infoBlock : (Tryz.prog.info? 49).map (fun i => (i.zero, i.size, i.bytes)) = some (some (.agg #[.int .i64 0, .int .i64 0, .int .u64 0, .int .i64 0, .string ⟨#[]⟩]), 5, 48) := by kernel_rfl
/-- The row's cells: the first i blocks'. -/
def flatB (bs : Nat → BV) : Nat → List Value
  | 0 => []
  | i + 1 => flatB bs i ++ [.int .i64 (bs i).ty, .int .i64 (bs i).num, .int .u64 ((bs i).fl : Int), .int .i64 (bs i).crc, str (bs i).data]
theorem flatB_length (bs : Nat → BV) (i : Nat) : (flatB bs i).length = i * 5 := by
  induction i with
  | zero => rfl
  | succ i ih => rw [flatB, List.length_append, ih]; simp; omega
theorem flatB_congr {bs bs' : Nat → BV} {i : Nat} (h : ∀ j, j < i → bs j = bs' j) : flatB bs i = flatB bs' i := by
  induction i with
  | zero => rfl
  | succ i ih => rw [flatB, flatB, ih (fun j hj => h j (by omega)), h i (by omega)]
theorem flatB_get (bs : Nat → BV) (i : Nat) : ∀ j, j < i → (flatB bs i)[j * 5]? = some (.int .i64 (bs j).ty) ∧ (flatB bs i)[j * 5 + 1]? = some (.int .i64 (bs j).num) ∧ (flatB bs i)[j * 5 + 2]? = some (.int .u64 ((bs j).fl : Int)) ∧
    (flatB bs i)[j * 5 + 3]? = some (.int .i64 (bs j).crc) ∧ (flatB bs i)[j * 5 + 4]? = some (str (bs j).data) := by
  induction i with
  | zero => intro j hj; omega
  | succ i ih =>
    intro j hj
    have hl := flatB_length bs i
    rw [flatB]
    by_cases e : j = i
    · subst e
      refine ⟨?_, ?_, ?_, ?_, ?_⟩ <;> (rw [List.getElem?_append_right (by omega), hl]; simp)
    · have := ih j (by omega)
      refine ⟨?_, ?_, ?_, ?_, ?_⟩ <;> rw [List.getElem?_append_left (by omega)]
      · exact this.1
      · exact this.2.1
      · exact this.2.2.1
      · exact this.2.2.2.1
      · exact this.2.2.2.2
theorem flatB_idx (bs : Nat → BV) (k : Nat) {j : Nat} {u : Value} (h : (flatB bs k)[j]? = some u) : ∃ i r, i < k ∧ r < 5 ∧ j = i * 5 + r := by
  have := (List.getElem?_eq_some_iff.1 h).1
  rw [flatB_length] at this
  exact ⟨j / 5, j % 5, by omega, by omega, by omega⟩
theorem flatB_news {W : World} {b o : Nat} {bs : Nat → BV} {k : Nat} (h : ∀ i, i < k → BAt W b (o + i * 5) (bs i)) : ∀ j u, (flatB bs k)[j]? = some u → W.cell? ((⟨b, o, none⟩ : Addr).add j) = some u := by
  intro j u hj
  obtain ⟨i, r, hi, hr, rfl⟩ := flatB_idx bs k hj
  obtain ⟨g0, g1, g2, g3, g4⟩ := flatB_get bs k i hi
  obtain ⟨a0, a1, a2, a3, a4⟩ := h i hi
  rw [addr_add, ← Nat.add_assoc]
  have h5 : r = 0 ∨ r = 1 ∨ r = 2 ∨ r = 3 ∨ r = 4 := by omega
  rcases h5 with rfl | rfl | rfl | rfl | rfl
  · rw [← hj, Nat.add_zero, Nat.add_zero, g0]; exact a0
  · rw [← hj, g1]; exact a1
  · rw [← hj, g2]; exact a2
  · rw [← hj, g3]; exact a3
  · rw [← hj, g4]; exact a4
theorem flatB_one (bs : Nat → BV) (k : Nat) : ∀ u ∈ flatB bs k, u.oneCell' = true := by
  intro u hu
  obtain ⟨j, hj⟩ := List.getElem?_of_mem hu
  obtain ⟨i, r, hi, hr, rfl⟩ := flatB_idx bs k hj
  obtain ⟨g0, g1, g2, g3, g4⟩ := flatB_get bs k i hi
  have h5 : r = 0 ∨ r = 1 ∨ r = 2 ∨ r = 3 ∨ r = 4 := by omega
  rcases h5 with rfl | rfl | rfl | rfl | rfl
  · rw [Nat.add_zero, g0] at hj; cases hj; rfl
  · rw [g1] at hj; cases hj; rfl
  · rw [g2] at hj; cases hj; rfl
  · rw [g3] at hj; cases hj; rfl
  · rw [g4] at hj; cases hj; rfl
/-- One block's cells, just made. -/
theorem newsB (W : World) (b : BV) : ∀ j u, [Value.int .i64 b.ty, .int .i64 b.num, .int .u64 (b.fl : Int), .int .i64 b.crc, str b.data][j]? = some u →
    (W.alloc (.cells (BV.c b) 49)).cell? ((⟨W.heap.size, 0, none⟩ : Addr).add j) = some u := by
  intro j u hj
  rw [addr_add, Nat.zero_add]
  rw [(Blk.new W 49 (BV.c b)).cell j]
  simpa using hj
theorem oneB (b : BV) : ∀ u ∈ [Value.int .i64 b.ty, .int .i64 b.num, .int .u64 (b.fl : Int), .int .i64 b.crc, str b.data], u.oneCell' = true := by
  intro u hu
  simp at hu
  rcases hu with rfl | rfl | rfl | rfl | rfl <;> rfl
/-- A row of one's own lies in memory as a bundle's blocks do. -/
theorem own_BsL {W : World} {base k c : Nat} {A : Option Addr} {bs : Nat → BV} (h : W.ownsRow base 49 5 (.slice A k c) k (flatB bs k)) : BsL W A k bs := by
  intro h0
  obtain ⟨k', rfl⟩ : ∃ k', k = k' + 1 := ⟨k - 1, by omega⟩
  obtain ⟨g, c', hv, hb, hlt⟩ := own_form h
  simp only [Value.slice.injEq] at hv
  obtain ⟨rfl, _, rfl⟩ := hv
  refine ⟨g, 0, rfl, hlt, fun i hi => ?_⟩
  obtain ⟨g0, g1, g2, g3, g4⟩ := flatB_get bs (k' + 1) i hi
  refine ⟨?_, ?_, ?_, ?_, ?_⟩ <;> rw [Nat.zero_add]
  · exact own_cells h g0
  · exact own_cells h g1
  · exact own_cells h g2
  · exact own_cells h g3
  · exact own_cells h g4
/-- Which blocks an append turns: the row's own. -/
theorem own_turned {w2 w4 : World} {base n size : Nat} {e : TypeId} {v : Value} {xs : List Value} (h : w2.ownsRow base e size v n xs) {w : World} {S : List Nat} (hw : Mod S w w2) (hgr : w2.grownBy w4 v.ownBlock) (hb : w.heap.size ≤ base) : Mod S w w4 :=
  hw.grown hgr (fun k hk => .inr (Nat.le_trans hb (h.lt k hk).1))
theorem own_far {w2 w4 : World} {base n size : Nat} {e : TypeId} {v : Value} {xs : List Value} (h : w2.ownsRow base e size v n xs) (hgr : w2.grownBy w4 v.ownBlock) {b : Nat} {ty : TypeId} {cs : Array Value} (hB : Blk w2 b ty cs) (hbN : b < base) : Blk w4 b ty cs :=
  (hgr.block b hB.lt (fun e => by have := (h.lt b e.symm).1; omega)).trans hB
end Go.Proofs.YtogjghmoankleaaGreat


namespace Go.Proofs.YtogjghmoankleaaGreat
open Go.RowKit
set_option linter.unusedVariables false
set_option linter.unusedSimpArgs false

abbrev offA (A : Option Addr) : Nat → Prop := fun b => ∀ g, A = some g → b ≠ g.block
def obs : Option Addr → List Nat
  | some g => [g.block]
  | none => []
theorem offA_obs {A : Option Addr} {b : Nat} (h : offA A b) : b ∉ obs A := by
  cases A with
  | none => simp [obs]
  | some g => have := h g rfl; simp [obs, this]
structure Rw (W : World) (Q : Nat → Prop) (base : Nat) (A : Option Addr) (c n : Nat) (ch : Nat → T) (ac : Nat → Option Addr × Nat) : Prop where
  own : W.ownsRow base 64 5 (.slice A n c) n (flatC ch ac n)
  kid : ∀ j, j < n → IsL W (fun b => Q b ∧ offA A b) (ch j) (ac j).1
section
variable {W W' : World} {Q : Nat → Prop} {base c n : Nat} {A : Option Addr} {ch : Nat → T} {ac : Nat → Option Addr × Nat}
theorem Rw.nil : Rw W Q base none 0 0 ch ac := ⟨World.ownsRow_nil _ _ _ _, fun j hj => by omega⟩
theorem Rw.mod {S : List Nat} (h : Rw W Q base A c n ch ac) (hm : Mod S W W') (hs : ∀ k, k < W.heap.size → k ∉ S) : Rw W' Q base A c n ch ac :=
  ⟨ownsRow_mod h.own hm (fun k hk => hs k ((h.own.lt k hk).2)), fun j hj => IsL.mod hm (fun k _ hk => hs k hk) _ (h.kid j hj)⟩
theorem Rw.ext (h : Rw W Q base A c n ch ac) (hm : Ext W W') : Rw W' Q base A c n ch ac := h.mod hm (by simp)
/-- Where other blocks turn: its own block, and what hangs on its items, in Q. -/
theorem Rw.isL (h : Rw W Q base A c n ch ac) (hq : ∀ b, base ≤ b → Q b) : IsL W Q (T.mk 4 0 [] false n ch) A := fun h0 => by
  obtain ⟨m, rfl⟩ : ∃ m, n = m + 1 := ⟨n - 1, by omega⟩
  obtain ⟨g, c', hv, hb, hlt⟩ := own_form h.own
  simp only [Value.slice.injEq] at hv
  obtain ⟨rfl, _, rfl⟩ := hv
  exact own_IsL hlt (hq _ hb) h.own (fun i hi => IsL.weak (fun _ _ h => h.1) _ (h.kid i hi)) (by omega)
theorem obs_own : (Value.slice A n c).ownBlock = A.map (·.block) := by cases A <;> rfl
theorem grown_obs (hgr : W.grownBy W' (Value.slice A n c).ownBlock) : Mod (obs A) W W' := by
  refine (Mod.refl _ _).grown hgr (fun k hk => .inl ?_)
  cases A with
  | none => cases hk
  | some g =>
    have : g.block = k := by simpa [Value.ownBlock] using hk
    simp [obs, this]
theorem Rw.append (h : Rw W Q base A c n ch ac) {t : T} {At : Option Addr} {ct : Nat} (hI : IsL W (fun b => Q b ∧ offA A b) t At) (ht : ch n = t) {g cap : Nat}
    (hown : W'.ownsRow base 64 5 (.slice (some ⟨g, 0, none⟩) (n + 1) cap) (n + 1) (flatC ch ac n ++ [.int .i64 t.kind, .int .u64 (t.n : Int), str t.s, .slice At t.k ct, .bool t.op]))
    (hgr : W.grownBy W' (Value.slice A n c).ownBlock) (hat : (Value.slice A n c).ownBlock = some g ∨ g = W.heap.size) : ∃ ac', Rw W' Q base (some ⟨g, 0, none⟩) cap (n + 1) ch ac' := by
  subst ht
  have hm : Mod (obs A) W W' := grown_obs hgr
  have key : ∀ {x : T} {Ax : Option Addr}, IsL W (fun b => Q b ∧ offA A b) x Ax → IsL W' (fun b => Q b ∧ offA (some ⟨g, 0, none⟩) b) x Ax := by
    intro x Ax hx
    have h1 := IsL.weak (R := fun b => (Q b ∧ offA A b) ∧ b ≠ g) (fun b hb hq => ⟨hq, by
      rcases hat with hat | hat
      · cases A with
        | none => cases hat
        | some a =>
          have : a.block = g := by simpa [Value.ownBlock] using hat
          rw [← this]; exact hq.2 a rfl
      · omega⟩) _ hx
    have h2 := IsL.mod hm (fun k hk _ => offA_obs hk.1.2) _ h1
    exact IsL.weak (fun b _ hq => ⟨hq.1.1, fun g' hg' => by cases hg'; exact hq.2⟩) _ h2
  refine ⟨fun j => if j = n then (At, ct) else ac j, ?_, fun j hj => ?_⟩
  · rw [flatC, flatC_congr (ch' := ch) (ac' := ac) (fun j hj => ⟨rfl, by rw [if_neg (by omega)]⟩)]
    simpa using hown
  · by_cases e : j = n
    · subst e
      simpa using key hI
    · simpa [e] using key (h.kid j (by omega))
theorem Rw.weak {R : Nat → Prop} (h : Rw W Q base A c n ch ac) (hq : ∀ k, k < W.heap.size → Q k → R k) : Rw W R base A c n ch ac :=
  ⟨h.own, fun j hj => IsL.weak (fun b hb hh => ⟨hq b hb hh.1, hh.2⟩) _ (h.kid j hj)⟩
theorem Rw.modQ {S : List Nat} (h : Rw W Q base A c n ch ac) (hm : Mod S W W') (ho : ∀ g, A = some g → g.block ∉ S) (hs : ∀ k, Q k → k < W.heap.size → k ∉ S) : Rw W' Q base A c n ch ac :=
  ⟨ownsRow_mod h.own hm (fun k hk => by
    cases A with
    | none => cases hk
    | some g =>
      have : g.block = k := by simpa [Value.ownBlock] using hk
      rw [← this]; exact ho g rfl), fun j hj => IsL.mod hm (fun k hk hlt => hs k hk.1 hlt) _ (h.kid j hj)⟩
/-- Two rows: the first grows. -/
theorem two_first {A1 : Option Addr} {n1 c1 g1 : Nat} (h : Rw W (offA A1) base A c n ch ac) (hap : ∀ g, A = some g → offA A1 g.block)
    (hgr : W.grownBy W' (Value.slice A1 n1 c1).ownBlock) (hat : (Value.slice A1 n1 c1).ownBlock = some g1 ∨ g1 = W.heap.size) :
    Rw W' (offA (some ⟨g1, 0, none⟩)) base A c n ch ac ∧ ∀ g, A = some g → offA (some ⟨g1, 0, none⟩) g.block := by
  have key : ∀ b, b < W.heap.size → offA A1 b → offA A1 b ∧ b ≠ g1 := fun b hb hq => ⟨hq, by
    rcases hat with hat | hat
    · cases A1 with
      | none => cases hat
      | some a =>
        have : a.block = g1 := by simpa [Value.ownBlock] using hat
        rw [← this]; exact hq a rfl
    · omega⟩
  have hlt : ∀ g, A = some g → g.block < W.heap.size := fun g hg => (h.own.lt g.block (by subst hg; rfl)).2
  refine ⟨?_, fun g hg g' hg' => by cases hg'; exact (key g.block (hlt g hg) (hap g hg)).2⟩
  refine Rw.weak ((h.weak key).modQ (grown_obs hgr) (fun g hg => offA_obs (hap g hg)) (fun k hk _ => offA_obs hk.1)) fun k _ hk g' hg' => ?_
  cases hg'; exact hk.2
/-- Two rows: the second grows. -/
theorem two_second {A1 : Option Addr} {n1 c1 g2 : Nat} {xs : List Value} (h1 : W.ownsRow base 64 5 (.slice A1 n1 c1) n1 xs) (hap : ∀ g, A = some g → offA A1 g.block)
    (hgr : W.grownBy W' (Value.slice A n c).ownBlock) (hat : (Value.slice A n c).ownBlock = some g2 ∨ g2 = W.heap.size) :
    W'.ownsRow base 64 5 (.slice A1 n1 c1) n1 xs ∧ ∀ g, (some ⟨g2, 0, none⟩ : Option Addr) = some g → offA A1 g.block := by
  constructor
  · refine ownsRow_mod h1 (grown_obs hgr) (fun k hk => ?_)
    cases A1 with
    | none => cases hk
    | some a =>
      have e : a.block = k := by simpa [Value.ownBlock] using hk
      rw [← e]
      cases A with
      | none => simp [obs]
      | some g =>
        have := hap g rfl a rfl
        simp [obs]; omega
  · intro g hg a ha
    cases hg
    have hlt := (h1.lt a.block (by subst ha; rfl)).2
    rcases hat with hat | hat
    · cases A with
      | none => cases hat
      | some g =>
        have e : g.block = g2 := by simpa [Value.ownBlock] using hat
        have := hap g rfl a ha
        show g2 ≠ a.block
        omega
    · show g2 ≠ a.block
      omega
end
end Go.Proofs.YtogjghmoankleaaGreat


namespace Go.Proofs.YtogjghmoankleaaGreat
open Go.RowKit
set_option linter.unusedVariables false
set_option linter.unusedSimpArgs false

theorem yieldsIf_mid {P : Program} {ops : Array Oper} {S : World → Prop} {op : Oper} {a : Act} (hw : Region.wanted op (yielded ops a.tmps) = true) (ty : TypeId) (x : Operand) (ho : op.op = .load ty x) (b o : Nat) (hx : a.eval x = .pointer (some ⟨b, o, none⟩))
    (cs : List Value) {d : TypeDesc} (hS : ∀ w, S w → w.rangeAt b o cs) (hu : P.underlying ty = some d) (hd : d.isRow = true)
    (hi : (P.info? ty).map (·.size) = some cs.length) : YieldsIf P ops S op (.agg cs.toArray) a :=
  .inl ⟨hw, fun w hw' => by
    unfold execOp
    simp only [ho, hx, Instr.loadAt, Instr.sureAddr, Sem.run_bind, Sem.run_pure, Result.andThen_ok, run_loadVar_mid w b o ty cs d (hS w hw') hu hd hi]⟩
theorem Blk.rangeE {w W : World} {g : Nat} {t : TypeId} {cs : Array Value} (h : Blk w g t cs) (hW : Ext w W) (o n : Nat) {l : List Value} (hl : (cs.extract o (o + n)).toList = l) : W.rangeAt g o l := hl ▸ World.rangeAt_of_block (h.ext hW) o n
end Go.Proofs.YtogjghmoankleaaGreat


namespace Go.Proofs.YtogjghmoankleaaGreat
open Go.RowKit
set_option linter.unusedVariables false
set_option linter.unusedSimpArgs false

theorem blk_list {W : World} {Q : Nat → Prop} {g : Nat} {L : List T} {al : List (Option Addr × Nat)} {cs : Array Value} (h : Blk W g 64 cs) (hn : L.length ≤ maxLen) (hs : cs.size = L.length * 5) (hcs : cs.toList = flatC (chL L) (acL al) L.length) (q : Q g) (hI : ∀ i, i < L.length → IsL W Q (chL L i) (acL al i).1) : IsL W Q (listT L) (some ⟨g, 0, none⟩) :=
  list_IsL (base := 0) (c := L.length) h.lt q (hcs ▸ own_of_blk h (Nat.zero_le _) hn hs) hI
theorem two_list {W : World} {Q : Nat → Prop} {g : Nat} {x y : T} {Ax Ay : Option Addr} {cx cy : Nat} (h : Blk W g 64 #[.int .i64 x.kind, .int .u64 (x.n : Int), str x.s, .slice Ax x.k cx, .bool x.op, .int .i64 y.kind, .int .u64 (y.n : Int), str y.s, .slice Ay y.k cy, .bool y.op]) (q : Q g) (hx : IsL W Q x Ax) (hy : IsL W Q y Ay) : IsL W Q (listT [x, y]) (some ⟨g, 0, none⟩) :=
  blk_list (al := [(Ax, cx), (Ay, cy)]) h (by show 2 ≤ maxLen; decide) rfl rfl q (fun i hi => by match i, hi with | 0, _ => exact hx | 1, _ => exact hy)
set_option maxRecDepth 20000 in
set_option maxHeartbeats 8000000 in
theorem toItem_any (r : RV) (hr : r.right = true) (w : World) : Calls Tryz.prog 29 #[repV r] w (fun e w' => ∃ A c, e = .returned (itemV r.tree A c) ∧ Ext w w' ∧ IsL w' (fun b => w.heap.size ≤ b) r.tree A) := by
  have hr' := hr
  unfold RV.right at hr'
  simp only [Bool.and_eq_true, decide_eq_true_eq] at hr'
  obtain ⟨⟨⟨h1, h2⟩, h3⟩, h4⟩ := hr'
  unfold IDV.named at h4
  simp only [Bool.and_eq_true] at h4
  obtain ⟨h5, h6, h7⟩ := h4
  obtain ⟨rn, hrn⟩ := Int.eq_ofNat_of_zero_le h2
  have hrn : r.reason = (rn : Int) := hrn
  have trs : IntKind.u64.wrap (rn : Int) = (rn : Int) := IntWalk.u64_in _ (by omega)
  have HRN := hid hrn
  have KE := hid (fun W => eidItem_ok r.of.src h6 W)
  have HE := hid (((Mod.refl [] w).alloc (.cells (repC r) 29)).alloc (.cells #[.int .i64 0, .int .u64 0, .string ⟨#[]⟩, .slice none 0 0, .bool false] 64))
  have HB0 := hid ((Blk.new w 29 (repC r)).alloc (.cells #[.int .i64 0, .int .u64 0, .string ⟨#[]⟩, .slice none 0 0, .bool false] 64))
  have HB1 : Hid (Blk ((w.alloc (.cells (repC r) 29)).alloc (.cells #[.int .i64 0, .int .u64 0, .string ⟨#[]⟩, .slice none 0 0, .bool false] 64)) (w.heap.size + 1) 64 (itemC (numT 0) none 0)) := Blk.newL _ _ _ (by simp)
  have HTREE : Hid (r.tree = listT [numT 1, listT r.body]) := rfl
  have HBODY : Hid (r.body = [listT [bitT r.here, bitT r.gone], numT rn, eidT r.of.src, listT [numT r.of.t, numT r.of.q]] ++ (if r.of.fr then [numT r.of.o, numT r.of.n] else [])) := hid (by unfold RV.body; rw [hrn]; rfl)
  clear hr h1 h2 h3 h5 h6 h7 hrn
  go_enter Tryz.func29, Tryz.ntmps29
  go_upto_region 1 with fail
  show Code.wp _ _ _ _ ((w.alloc (.cells (repC r) 29)).alloc (.cells #[.int .i64 0, .int .u64 0, .string ⟨#[]⟩, .slice none 0 0, .bool false] 64))
  have HVS : Hid (w.heap.size + 2 = ((w.alloc (.cells (repC r) 29)).alloc (.cells #[.int .i64 0, .int .u64 0, .string ⟨#[]⟩, .slice none 0 0, .bool false] 64)).heap.size) := hid (by simp)
  generalize (w.alloc (.cells (repC r) 29)).alloc (.cells #[.int .i64 0, .int .u64 0, .string ⟨#[]⟩, .slice none 0 0, .bool false] 64) = V at *
  have HRE : Hid (∀ e : Later V, e.x.rangeAt w.heap.size 3 [.int .i64 r.of.src.sch, str r.of.src.name, .int .u64 (r.of.src.node : Int), .int .u64 (r.of.src.svc : Int)]) := HB0.out.range 3 4 (by rfl)
  obtain ⟨e, he⟩ := Later.self V
  rw [he]
  clear he
  go_upto_region 2 with (first | (refine wpList_mid (by rfl) 24 _ rfl _ 3 rfl _ _ (HRE.out _) Tryz.underlying24 rfl (by kernel_rfl) ?_) | (go_at_call 47; refine (KE.out _).mono ?_; rintro x w6 ⟨As, rfl, hb6, hl6⟩; have H6 := hid (e.h.trans hb6); have HI6 := hid (IsL.weak (R := fun b => V.heap.size ≤ b) (fun b _ hb => Nat.le_trans e.h.size hb) _ hl6); clear hb6 hl6))
  generalize hG : World.alloc w6 _ = W9
  have HN : Hid (Blk W9 w6.heap.size 64 (itemC (eidT r.of.src) As 2)) := hid (by rw [← hG]; exact Blk.new _ _ _)
  have HX9 : Hid (Ext V W9) := hid (by rw [← hG]; exact H6.out.alloc _)
  have LS : Hid (IsL W9 (fun b => V.heap.size ≤ b) (eidT r.of.src) As) := hid (by rw [← hG]; exact HI6.out.ext ((Mod.refl [] w6).alloc _))
  have HV9 : Hid (V.heap.size ≤ W9.heap.size) := hid HX9.out.size
  clear hG H6 HI6 HRE
  generalize w6.heap.size = g6 at *
  have b0 : ∀ W, Ext W9 W → W.cell? ⟨w.heap.size, 0, none⟩ = some (.bool r.here) := fun W hW => (HB0.out.ext (HX9.out.trans hW)).cell 0
  have b1 : ∀ W, Ext W9 W → W.cell? ⟨w.heap.size, 1, none⟩ = some (.bool r.gone) := fun W hW => (HB0.out.ext (HX9.out.trans hW)).cell 1
  have b2 : ∀ W, Ext W9 W → W.cell? ⟨w.heap.size, 2, none⟩ = some (.int .i64 (rn : Int)) := fun W hW => by rw [← HRN.out]; exact (HB0.out.ext (HX9.out.trans hW)).cell 2
  have b7 : ∀ W, Ext W9 W → W.cell? ⟨w.heap.size, 7, none⟩ = some (.int .u64 (r.of.t : Int)) := fun W hW => (HB0.out.ext (HX9.out.trans hW)).cell 7
  have b8 : ∀ W, Ext W9 W → W.cell? ⟨w.heap.size, 8, none⟩ = some (.int .u64 (r.of.q : Int)) := fun W hW => (HB0.out.ext (HX9.out.trans hW)).cell 8
  have b9 : ∀ W, Ext W9 W → W.cell? ⟨w.heap.size, 9, none⟩ = some (.bool r.of.fr) := fun W hW => (HB0.out.ext (HX9.out.trans hW)).cell 9
  have b10 : ∀ W, Ext W9 W → W.cell? ⟨w.heap.size, 10, none⟩ = some (.int .u64 (r.of.o : Int)) := fun W hW => (HB0.out.ext (HX9.out.trans hW)).cell 10
  have b11 : ∀ W, Ext W9 W → W.cell? ⟨w.heap.size, 11, none⟩ = some (.int .u64 (r.of.n : Int)) := fun W hW => (HB0.out.ext (HX9.out.trans hW)).cell 11
  refine wp_region_held_drew (S := fun w' => Ext W9 w') (by kernel_rfl) (Mod.refl _ _).drew (fun hHeld => ?_)
  generalize W9.drew = v0 at *
  refine' wpAnyH_take (i := 0) (v := _) rfl (by kernel_rfl) (by kernel_rfl) (by kernel_rfl) (fun _ _ _ h => h) (Or.inl ⟨by rfl, ?hy1⟩) hHeld ?rest1
  case hy1 => (rintro W hM; go_simp; (try with_reducible rfl))
  case rest1 =>
  (try simp only [Act.put, List.getElem_toArray, List.getElem_cons_zero, List.getElem_cons_succ, List.setIfInBounds_toArray, List.set_cons_zero, List.set_cons_succ])
  refine' wpAnyH_take (i := 1) (v := _) rfl (by kernel_rfl) (by kernel_rfl) (by kernel_rfl) (fun _ _ _ h => h) (Or.inl ⟨by rfl, ?hy2⟩) hHeld ?rest2
  case hy2 => (rintro W hM; have q := b0 W hM; go_simp; (try with_reducible rfl))
  case rest2 =>
  (try simp only [Act.put, List.getElem_toArray, List.getElem_cons_zero, List.getElem_cons_succ, List.setIfInBounds_toArray, List.set_cons_zero, List.set_cons_succ])
  refine' wpAnyH_take (i := 3) (v := _) rfl (by kernel_rfl) (by kernel_rfl) (by kernel_rfl) (fun _ _ _ h => h) (Or.inl ⟨by rfl, ?hy3⟩) hHeld ?rest3
  case hy3 => (rintro W hM; go_simp; (try with_reducible rfl))
  case rest3 =>
  (try simp only [Act.put, List.getElem_toArray, List.getElem_cons_zero, List.getElem_cons_succ, List.setIfInBounds_toArray, List.set_cons_zero, List.set_cons_succ])
  refine' wpAnyH_take (i := 4) (v := _) rfl (by kernel_rfl) (by kernel_rfl) (by kernel_rfl) (fun _ _ _ h => h) (Or.inl ⟨by rfl, ?hy4⟩) hHeld ?rest4
  case hy4 => (rintro W hM; have q := b1 W hM; go_simp; (try with_reducible rfl))
  case rest4 =>
  (try simp only [Act.put, List.getElem_toArray, List.getElem_cons_zero, List.getElem_cons_succ, List.setIfInBounds_toArray, List.set_cons_zero, List.set_cons_succ])
  refine' wpAnyH_take (i := 8) (v := _) rfl (by kernel_rfl) (by kernel_rfl) (by kernel_rfl) (fun _ _ _ h => h) (Or.inl ⟨by rfl, ?hy5⟩) hHeld ?rest5
  case hy5 => (rintro W hM; go_simp; (try with_reducible rfl))
  case rest5 =>
  (try simp only [Act.put, List.getElem_toArray, List.getElem_cons_zero, List.getElem_cons_succ, List.setIfInBounds_toArray, List.set_cons_zero, List.set_cons_succ])
  refine' wpAnyH_take (i := 9) (v := _) rfl (by kernel_rfl) (by kernel_rfl) (by kernel_rfl) (fun _ _ _ h => h) (Or.inl ⟨by rfl, ?hy6⟩) hHeld ?rest6
  case hy6 => (rintro W hM; have q := b2 W hM; go_simp; (try with_reducible rfl))
  case rest6 =>
  (try simp only [Act.put, List.getElem_toArray, List.getElem_cons_zero, List.getElem_cons_succ, List.setIfInBounds_toArray, List.set_cons_zero, List.set_cons_succ])
  refine' wpAnyH_take (i := 10) (v := _) rfl (by kernel_rfl) (by kernel_rfl) (by kernel_rfl) (fun _ _ _ h => h) (Or.inl ⟨by rfl, ?hy7⟩) hHeld ?rest7
  case hy7 => (rintro W hM; go_simp; (try with_reducible rfl))
  case rest7 =>
  (try simp only [Act.put, List.getElem_toArray, List.getElem_cons_zero, List.getElem_cons_succ, List.setIfInBounds_toArray, List.set_cons_zero, List.set_cons_succ])
  refine' wpAnyH_take (i := 13) (v := _) rfl (by kernel_rfl) (by kernel_rfl) (by kernel_rfl) (fun _ _ _ h => h) (Or.inl ⟨by rfl, ?hy8⟩) hHeld ?rest8
  case hy8 => (rintro W hM; go_simp; (try with_reducible rfl))
  case rest8 =>
  (try simp only [Act.put, List.getElem_toArray, List.getElem_cons_zero, List.getElem_cons_succ, List.setIfInBounds_toArray, List.set_cons_zero, List.set_cons_succ])
  refine' wpAnyH_take (i := 14) (v := _) rfl (by kernel_rfl) (by kernel_rfl) (by kernel_rfl) (fun _ _ _ h => h) (Or.inl ⟨by rfl, ?hy9⟩) hHeld ?rest9
  case hy9 => (rintro W hM; go_simp; (try with_reducible rfl))
  case rest9 =>
  (try simp only [Act.put, List.getElem_toArray, List.getElem_cons_zero, List.getElem_cons_succ, List.setIfInBounds_toArray, List.set_cons_zero, List.set_cons_succ])
  refine' wpAnyH_take (i := 15) (v := _) rfl (by kernel_rfl) (by kernel_rfl) (by kernel_rfl) (fun _ _ _ h => h) (Or.inl ⟨by rfl, ?hy10⟩) hHeld ?rest10
  case hy10 => (rintro W hM; have q := b7 W hM; go_simp; (try with_reducible rfl))
  case rest10 =>
  (try simp only [Act.put, List.getElem_toArray, List.getElem_cons_zero, List.getElem_cons_succ, List.setIfInBounds_toArray, List.set_cons_zero, List.set_cons_succ])
  refine' wpAnyH_take (i := 17) (v := _) rfl (by kernel_rfl) (by kernel_rfl) (by kernel_rfl) (fun _ _ _ h => h) (Or.inl ⟨by rfl, ?hy11⟩) hHeld ?rest11
  case hy11 => (rintro W hM; go_simp; (try with_reducible rfl))
  case rest11 =>
  (try simp only [Act.put, List.getElem_toArray, List.getElem_cons_zero, List.getElem_cons_succ, List.setIfInBounds_toArray, List.set_cons_zero, List.set_cons_succ])
  refine' wpAnyH_take (i := 18) (v := _) rfl (by kernel_rfl) (by kernel_rfl) (by kernel_rfl) (fun _ _ _ h => h) (Or.inl ⟨by rfl, ?hy12⟩) hHeld ?rest12
  case hy12 => (rintro W hM; go_simp; (try with_reducible rfl))
  case rest12 =>
  (try simp only [Act.put, List.getElem_toArray, List.getElem_cons_zero, List.getElem_cons_succ, List.setIfInBounds_toArray, List.set_cons_zero, List.set_cons_succ])
  refine' wpAnyH_take (i := 19) (v := _) rfl (by kernel_rfl) (by kernel_rfl) (by kernel_rfl) (fun _ _ _ h => h) (Or.inl ⟨by rfl, ?hy13⟩) hHeld ?rest13
  case hy13 => (rintro W hM; have q := b8 W hM; go_simp; (try with_reducible rfl))
  case rest13 =>
  (try simp only [Act.put, List.getElem_toArray, List.getElem_cons_zero, List.getElem_cons_succ, List.setIfInBounds_toArray, List.set_cons_zero, List.set_cons_succ])
  refine wpAnyH_take (i := 12) rfl (by kernel_rfl) (by kernel_rfl) (by kernel_rfl) (fun _ _ _ h => h) (yieldsIf_row (by rfl) 64 _ rfl _ rfl (fun W hM => HN.out.ext hM) Tryz.underlying64 rfl (by kernel_rfl)) hHeld ?_
  (try simp only [Act.put, List.getElem_toArray, List.getElem_cons_zero, List.getElem_cons_succ, List.setIfInBounds_toArray, List.set_cons_zero, List.set_cons_succ])
  refine wpAnyH_ready (rs := [2]) (by kernel_rfl) (by simp) ?_
  refine AllReadyH.cons rfl (fun K hK => ?_) AllReadyH.nil
  go_simp
  go_at_call 49
  refine (bit_any r.here _).mono ?_
  rintro x v1 ⟨rfl, hb⟩
  
  refine hK.out _ _ (hHeld.trans hb) (fun hHeld => ?_)
  clear hK K
  (try simp only [Act.put, List.getElem_toArray, List.getElem_cons_zero, List.getElem_cons_succ, List.setIfInBounds_toArray, List.set_cons_zero, List.set_cons_succ])
  refine wpAnyH_ready (rs := [5]) (by kernel_rfl) (by simp) ?_
  refine AllReadyH.cons rfl (fun K hK => ?_) AllReadyH.nil
  go_simp
  go_at_call 49
  refine (bit_any r.gone _).mono ?_
  rintro x v2 ⟨rfl, hb⟩
  
  refine hK.out _ _ (hHeld.trans hb) (fun hHeld => ?_)
  clear hK K
  (try simp only [Act.put, List.getElem_toArray, List.getElem_cons_zero, List.getElem_cons_succ, List.setIfInBounds_toArray, List.set_cons_zero, List.set_cons_succ])
  refine wpAnyH_ready (rs := [6]) (by kernel_rfl) (by simp) ?_
  refine AllReadyH.cons rfl (fun K hK => ?_) AllReadyH.nil
  go_simp
  have HP1 : Blk (World.alloc v2 (.cells #[.int .i64 (bitT r.here).kind, .int .u64 ((bitT r.here).n : Int), str (bitT r.here).s, .slice none (bitT r.here).k 0, .bool (bitT r.here).op, .int .i64 (bitT r.gone).kind, .int .u64 ((bitT r.gone).n : Int), str (bitT r.gone).s, .slice none (bitT r.gone).k 0, .bool (bitT r.gone).op] 64)) v2.heap.size 64 #[.int .i64 (bitT r.here).kind, .int .u64 ((bitT r.here).n : Int), str (bitT r.here).s, .slice none (bitT r.here).k 0, .bool (bitT r.here).op, .int .i64 (bitT r.gone).kind, .int .u64 ((bitT r.gone).n : Int), str (bitT r.gone).s, .slice none (bitT r.gone).k 0, .bool (bitT r.gone).op] := Blk.new _ _ _
  have g1_l : W9.heap.size ≤ v2.heap.size := hHeld.size
  have hXX : Ext v2 (World.alloc v2 (.cells #[.int .i64 (bitT r.here).kind, .int .u64 ((bitT r.here).n : Int), str (bitT r.here).s, .slice none (bitT r.here).k 0, .bool (bitT r.here).op, .int .i64 (bitT r.gone).kind, .int .u64 ((bitT r.gone).n : Int), str (bitT r.gone).s, .slice none (bitT r.gone).k 0, .bool (bitT r.gone).op] 64)) := (Mod.refl [] _).alloc _
  generalize World.alloc v2 (.cells #[.int .i64 (bitT r.here).kind, .int .u64 ((bitT r.here).n : Int), str (bitT r.here).s, .slice none (bitT r.here).k 0, .bool (bitT r.here).op, .int .i64 (bitT r.gone).kind, .int .u64 ((bitT r.gone).n : Int), str (bitT r.gone).s, .slice none (bitT r.gone).k 0, .bool (bitT r.gone).op] 64) = v3 at *
  refine hK.out _ _ (hHeld.trans hXX) (fun hHeld => ?_)
  clear hK K
  (try simp only [Act.put, List.getElem_toArray, List.getElem_cons_zero, List.getElem_cons_succ, List.setIfInBounds_toArray, List.set_cons_zero, List.set_cons_succ])
  generalize g1_e : v2.heap.size = g1 at *
  clear g1_e
  refine wpAnyH_ready (rs := [7]) (by kernel_rfl) (by simp) ?_
  refine AllReadyH.cons rfl (fun K hK => ?_) AllReadyH.nil
  go_simp
  go_at_call 48
  refine (ListV_any _ _ _ _).mono ?_
  rintro x v4 ⟨rfl, hb⟩
  have HP1 := HP1.ext hb
  refine hK.out _ _ (hHeld.trans hb) (fun hHeld => ?_)
  clear hK K
  (try simp only [Act.put, List.getElem_toArray, List.getElem_cons_zero, List.getElem_cons_succ, List.setIfInBounds_toArray, List.set_cons_zero, List.set_cons_succ])
  (try rw [trs])
  refine wpAnyH_ready (rs := [11]) (by kernel_rfl) (by simp) ?_
  refine AllReadyH.cons rfl (fun K hK => ?_) AllReadyH.nil
  go_simp
  go_at_call 31
  refine (NumI_any _ _).mono ?_
  rintro x v5 ⟨rfl, hb⟩
  have HP1 := HP1.ext hb
  refine hK.out _ _ (hHeld.trans hb) (fun hHeld => ?_)
  clear hK K
  (try simp only [Act.put, List.getElem_toArray, List.getElem_cons_zero, List.getElem_cons_succ, List.setIfInBounds_toArray, List.set_cons_zero, List.set_cons_succ])
  refine wpAnyH_ready (rs := [16]) (by kernel_rfl) (by simp) ?_
  refine AllReadyH.cons rfl (fun K hK => ?_) AllReadyH.nil
  go_simp
  go_at_call 31
  refine (NumI_any _ _).mono ?_
  rintro x v6 ⟨rfl, hb⟩
  have HP1 := HP1.ext hb
  refine hK.out _ _ (hHeld.trans hb) (fun hHeld => ?_)
  clear hK K
  (try simp only [Act.put, List.getElem_toArray, List.getElem_cons_zero, List.getElem_cons_succ, List.setIfInBounds_toArray, List.set_cons_zero, List.set_cons_succ])
  refine wpAnyH_ready (rs := [20]) (by kernel_rfl) (by simp) ?_
  refine AllReadyH.cons rfl (fun K hK => ?_) AllReadyH.nil
  go_simp
  go_at_call 31
  refine (NumI_any _ _).mono ?_
  rintro x v7 ⟨rfl, hb⟩
  have HP1 := HP1.ext hb
  refine hK.out _ _ (hHeld.trans hb) (fun hHeld => ?_)
  clear hK K
  (try simp only [Act.put, List.getElem_toArray, List.getElem_cons_zero, List.getElem_cons_succ, List.setIfInBounds_toArray, List.set_cons_zero, List.set_cons_succ])
  refine wpAnyH_ready (rs := [21]) (by kernel_rfl) (by simp) ?_
  refine AllReadyH.cons rfl (fun K hK => ?_) AllReadyH.nil
  go_simp
  have HP2 : Blk (World.alloc v7 (.cells #[.int .i64 0, .int .u64 (r.of.t : Int), str [], .slice none 0 0, .bool false, .int .i64 0, .int .u64 (r.of.q : Int), str [], .slice none 0 0, .bool false] 64)) v7.heap.size 64 #[.int .i64 0, .int .u64 (r.of.t : Int), str [], .slice none 0 0, .bool false, .int .i64 0, .int .u64 (r.of.q : Int), str [], .slice none 0 0, .bool false] := Blk.new _ _ _
  have g2_l : W9.heap.size ≤ v7.heap.size := hHeld.size
  have hXX : Ext v7 (World.alloc v7 (.cells #[.int .i64 0, .int .u64 (r.of.t : Int), str [], .slice none 0 0, .bool false, .int .i64 0, .int .u64 (r.of.q : Int), str [], .slice none 0 0, .bool false] 64)) := (Mod.refl [] _).alloc _
  generalize World.alloc v7 (.cells #[.int .i64 0, .int .u64 (r.of.t : Int), str [], .slice none 0 0, .bool false, .int .i64 0, .int .u64 (r.of.q : Int), str [], .slice none 0 0, .bool false] 64) = v8 at *
  have HP1 := HP1.ext hXX
  refine hK.out _ _ (hHeld.trans hXX) (fun hHeld => ?_)
  clear hK K
  (try simp only [Act.put, List.getElem_toArray, List.getElem_cons_zero, List.getElem_cons_succ, List.setIfInBounds_toArray, List.set_cons_zero, List.set_cons_succ])
  generalize g2_e : v7.heap.size = g2 at *
  clear g2_e
  refine wpAnyH_ready (rs := [22]) (by kernel_rfl) (by simp) ?_
  refine AllReadyH.cons rfl (fun K hK => ?_) AllReadyH.nil
  go_simp
  go_at_call 48
  refine (ListV_any _ _ _ _).mono ?_
  rintro x v9 ⟨rfl, hb⟩
  have HP1 := HP1.ext hb
  have HP2 := HP2.ext hb
  refine hK.out _ _ (hHeld.trans hb) (fun hHeld => ?_)
  clear hK K
  (try simp only [Act.put, List.getElem_toArray, List.getElem_cons_zero, List.getElem_cons_succ, List.setIfInBounds_toArray, List.set_cons_zero, List.set_cons_succ])
  have g1_u := HP1.lt
  have g2_u := HP2.lt
  have LSV := LS.out.ext hHeld
  refine wpAnyH_ready (rs := [23]) (by kernel_rfl) (by simp) ?_
  refine AllReadyH.cons rfl (fun K hK => ?_) AllReadyH.nil
  go_simp
  have HP3 : Blk (World.alloc v9 (.cells #[.int .i64 4, .int .u64 0, str [], .slice (some ⟨g1, 0, none⟩) 2 2, .bool false, .int .i64 0, .int .u64 (rn : Int), str [], .slice none 0 0, .bool false, .int .i64 (eidT r.of.src).kind, .int .u64 ((eidT r.of.src).n : Int), str (eidT r.of.src).s, .slice As (eidT r.of.src).k 2, .bool (eidT r.of.src).op, .int .i64 4, .int .u64 0, str [], .slice (some ⟨g2, 0, none⟩) 2 2, .bool false] 64)) v9.heap.size 64 #[.int .i64 4, .int .u64 0, str [], .slice (some ⟨g1, 0, none⟩) 2 2, .bool false, .int .i64 0, .int .u64 (rn : Int), str [], .slice none 0 0, .bool false, .int .i64 (eidT r.of.src).kind, .int .u64 ((eidT r.of.src).n : Int), str (eidT r.of.src).s, .slice As (eidT r.of.src).k 2, .bool (eidT r.of.src).op, .int .i64 4, .int .u64 0, str [], .slice (some ⟨g2, 0, none⟩) 2 2, .bool false] := Blk.new _ _ _
  have g3_l : W9.heap.size ≤ v9.heap.size := hHeld.size
  have hXX : Ext v9 (World.alloc v9 (.cells #[.int .i64 4, .int .u64 0, str [], .slice (some ⟨g1, 0, none⟩) 2 2, .bool false, .int .i64 0, .int .u64 (rn : Int), str [], .slice none 0 0, .bool false, .int .i64 (eidT r.of.src).kind, .int .u64 ((eidT r.of.src).n : Int), str (eidT r.of.src).s, .slice As (eidT r.of.src).k 2, .bool (eidT r.of.src).op, .int .i64 4, .int .u64 0, str [], .slice (some ⟨g2, 0, none⟩) 2 2, .bool false] 64)) := (Mod.refl [] _).alloc _
  generalize World.alloc v9 (.cells #[.int .i64 4, .int .u64 0, str [], .slice (some ⟨g1, 0, none⟩) 2 2, .bool false, .int .i64 0, .int .u64 (rn : Int), str [], .slice none 0 0, .bool false, .int .i64 (eidT r.of.src).kind, .int .u64 ((eidT r.of.src).n : Int), str (eidT r.of.src).s, .slice As (eidT r.of.src).k 2, .bool (eidT r.of.src).op, .int .i64 4, .int .u64 0, str [], .slice (some ⟨g2, 0, none⟩) 2 2, .bool false] 64) = v10 at *
  have HP1 := HP1.ext hXX
  have HP2 := HP2.ext hXX
  refine hK.out _ _ (hHeld.trans hXX) (fun hHeld => ?_)
  clear hK K
  (try simp only [Act.put, List.getElem_toArray, List.getElem_cons_zero, List.getElem_cons_succ, List.setIfInBounds_toArray, List.set_cons_zero, List.set_cons_succ])
  generalize g3_e : v9.heap.size = g3 at *
  refine' wpAnyH_take (i := 24) (v := _) rfl (by kernel_rfl) (by kernel_rfl) (by kernel_rfl) (fun _ _ _ h => h) (Or.inl ⟨by rfl, ?hy14⟩) hHeld ?rest14
  case hy14 => (rintro W hM; go_simp; (try with_reducible rfl))
  case rest14 =>
  (try simp only [Act.put, List.getElem_toArray, List.getElem_cons_zero, List.getElem_cons_succ, List.setIfInBounds_toArray, List.set_cons_zero, List.set_cons_succ])
  refine wpAnyH_done (by kernel_rfl) ?_ _
  have HX10 : Hid (Ext W9 v10) := hid hHeld
  have HG3 : Hid (W9.heap.size ≤ g3 ∧ g3 < v10.heap.size) := hid ⟨g3_l, HP3.lt⟩
  have HG12 : Hid (g1 < g3 ∧ g2 < g3 ∧ W9.heap.size ≤ g1 ∧ W9.heap.size ≤ g2) := hid ⟨g1_u, g2_u, g1_l, g2_l⟩
  have K0 : Hid (IsL v10 (fun b => V.heap.size ≤ b ∧ b < g3) (listT [bitT r.here, bitT r.gone]) (some ⟨g1, 0, none⟩)) := hid (two_list HP1 ⟨Nat.le_trans HV9.out g1_l, g1_u⟩ num_IsL num_IsL)
  have K3 : Hid (IsL v10 (fun b => V.heap.size ≤ b ∧ b < g3) (listT [numT r.of.t, numT r.of.q]) (some ⟨g2, 0, none⟩)) := hid (two_list (x := numT r.of.t) (y := numT r.of.q) HP2 ⟨Nat.le_trans HV9.out g2_l, g2_u⟩ num_IsL num_IsL)
  have K2 : Hid (IsL v10 (fun b => V.heap.size ≤ b ∧ b < g3) (eidT r.of.src) As) := hid (IsL.ext (IsL.weak (fun b hb h => ⟨h, g3_e ▸ hb⟩) _ LSV) hXX)
  have HR4 : Hid (v10.ownsRow W9.heap.size 64 5 (.slice (some ⟨g3, 0, none⟩) 4 4) 4 (flatC (chL [listT [bitT r.here, bitT r.gone], numT rn, eidT r.of.src, listT [numT r.of.t, numT r.of.q]]) (acL [(some ⟨g1, 0, none⟩, 2), (none, 0), (As, 2), (some ⟨g2, 0, none⟩, 2)]) 4)) := hid (own_of_blk HP3 g3_l (by decide) rfl)
  have KID : Hid (∀ i, i < 4 → IsL v10 (fun b => V.heap.size ≤ b ∧ b < g3) (chL [listT [bitT r.here, bitT r.gone], numT rn, eidT r.of.src, listT [numT r.of.t, numT r.of.q]] i) (acL [(some ⟨g1, 0, none⟩, 2), (none, 0), (As, 2), (some ⟨g2, 0, none⟩, 2)] i).1) := hid (fun i hi => by
    match i, hi with
    | 0, _ => exact K0.out
    | 1, _ => exact num_IsL
    | 2, _ => exact K2.out
    | 3, _ => exact K3.out)
  clear hHeld g3_e HP1 HP2 HP3 LSV g1_l g2_l g3_l g1_u g2_u hXX K0 K2 K3 LS HN KE
  have tk1 : True := trivial
  have b9v := b9 v10 HX10.out
  have hvv := HV9.out
  cases hfr : r.of.fr with
  | false =>
    rw [hfr] at b9v
    have HBB : Hid (r.body = [listT [bitT r.here, bitT r.gone], numT rn, eidT r.of.src, listT [numT r.of.t, numT r.of.q]]) := hid (by rw [HBODY.out, hfr]; rfl)
    have HLB : Hid (∀ e : Later v10, IsL e.x (fun b => V.heap.size ≤ b) (listT [listT [bitT r.here, bitT r.gone], numT rn, eidT r.of.src, listT [numT r.of.t, numT r.of.q]]) (some ⟨g3, 0, none⟩)) := hid (fun e => IsL.ext (list_IsL (base := W9.heap.size) (c := 4) HG3.out.2 (by have := HG3.out.1; show V.heap.size ≤ g3; omega) HR4.out (fun i hi => IsL.weak (fun _ _ h => h.1) _ (KID.out i hi))) e.h)
    have HBR := hid (HB1.out.ext (HX9.out.trans HX10.out))
    have HVW : Hid (Ext V v10) := hid (HX9.out.trans HX10.out)
    clear hfr
    go_upto_region 5 with fail
    obtain ⟨e, he⟩ := Later.self v10
    rw [he]
    clear he
    go_wp2_with (first | (go_at_call 31; refine (Ret.later (NumI_any _ _)).mono ?_; rintro x _ ⟨rfl, e, rfl⟩) | (go_at_call 48; clear tk1; refine (Ret.later (ListV_any _ _ _ _)).mono ?_; rintro x _ ⟨rfl, e, rfl⟩) | (go_at_call 48; go_loud (have HPF := hid (Blk.new e.x 64 #[.int .i64 0, .int .u64 1, str [], .slice none 0 0, .bool false, .int .i64 4, .int .u64 0, str [], .slice (some ⟨g3, 0, none⟩) 4 4, .bool false]); have HLF := hid (IsL.ext (HLB.out e) ((Mod.refl [] e.x).alloc (.cells #[.int .i64 0, .int .u64 1, str [], .slice none 0 0, .bool false, .int .i64 4, .int .u64 0, str [], .slice (some ⟨g3, 0, none⟩) 4 4, .bool false] 64))); have HEF := hid ((HVW.out.trans e.h).alloc (.cells #[.int .i64 0, .int .u64 1, str [], .slice none 0 0, .bool false, .int .i64 4, .int .u64 0, str [], .slice (some ⟨g3, 0, none⟩) 4 4, .bool false] 64)); have HSF := hid (HVW.out.trans e.h).size; refine (ListV_any _ _ _ _).mono ?_; rintro x w3 ⟨rfl, hb3⟩; have HRF := hid ((HBR.out.later e).ext (((Mod.refl [] e.x).alloc _).trans hb3)); obtain ⟨c0, c1, c2, c3, c4⟩ := cells5 HRF.out; have f0 := HRF.out.frozen 0; have f1 := HRF.out.frozen 1; have f2 := HRF.out.frozen 2; have f3 := HRF.out.frozen 3; have f4 := HRF.out.frozen 4)))
    clear c0 c1 c2 c3 c4 f0 f1 f2 f3 f4
    show bodyPost _ _ _ _ _ (set5 w3 (w.heap.size + 1) (listT [numT 1, listT [listT [bitT r.here, bitT r.gone], numT rn, eidT r.of.src, listT [numT r.of.t, numT r.of.q]]]) (some ⟨e.x.heap.size, 0, none⟩) 2)
    have HBF := hid (set5_blk (t := listT [numT 1, listT [listT [bitT r.here, bitT r.gone], numT rn, eidT r.of.src, listT [numT r.of.t, numT r.of.q]]]) (A := some ⟨e.x.heap.size, 0, none⟩) (c := 2) HRF.out)
    refine bodyPost_ret (results_cell rfl _ (by rfl) HBF.out Tryz.underlying64 rfl (by kernel_rfl)) rfl ⟨some ⟨e.x.heap.size, 0, none⟩, 2, by rw [HTREE.out, HBB.out], set5_mod (HE.out.trans (HEF.out.trans hb3)) (by omega), ?_⟩
    rw [HTREE.out, HBB.out]
    have hv := HVS.out
    refine IsL.weak (fun b _ h => by have h : V.heap.size ≤ b := h; show w.heap.size ≤ b; omega) _ (IsL.mod (Q := fun b => V.heap.size ≤ b) set5_modb (fun b hb _ hs => by rw [List.mem_singleton] at hs; have hb : V.heap.size ≤ b := hb; omega) _ ?_)
    exact IsL.ext (two_list (x := numT 1) (y := listT [listT [bitT r.here, bitT r.gone], numT rn, eidT r.of.src, listT [numT r.of.t, numT r.of.q]]) (Ax := none) (cx := 0) (Ay := some ⟨g3, 0, none⟩) (cy := 4) HPF.out HSF.out num_IsL HLF.out) hb3
  | true =>
    rw [hfr] at b9v
    have HFR := hid hfr
    clear hfr
    go_upto_region 4 with fail
    clear b9v
    have hN3 : w.heap.size ∉ [g3] := by have := HG3.out.1; have := HVS.out; simp; omega
    have q10 : Hid (∀ W, Mod [g3] v10 W → W.cell? ⟨w.heap.size, 10, none⟩ = some (.int .u64 (r.of.o : Int))) := hid (fun W hW => ((HB0.out.ext (HX9.out.trans HX10.out)).mod hW hN3).cell 10)
    have q11 : Hid (∀ W, Mod [g3] v10 W → W.cell? ⟨w.heap.size, 11, none⟩ = some (.int .u64 (r.of.n : Int))) := hid (fun W hW => ((HB0.out.ext (HX9.out.trans HX10.out)).mod hW hN3).cell 11)
    refine wp_region_held_drew (S := fun w' => Mod [g3] v10 w') (by kernel_rfl) (Mod.refl _ _).drew (fun hHeld => ?_)
    have hR4 := (HR4.out.drew)
    generalize v10.drew = y0 at *
    refine' wpAnyH_take (i := 0) (v := _) rfl (by kernel_rfl) (by kernel_rfl) (by kernel_rfl) (fun _ _ _ h => h) (Or.inl ⟨by rfl, ?hy15⟩) hHeld ?rest15
    case hy15 => (rintro W hM; go_simp; (try with_reducible rfl))
    case rest15 =>
    (try simp only [Act.put, List.getElem_toArray, List.getElem_cons_zero, List.getElem_cons_succ, List.setIfInBounds_toArray, List.set_cons_zero, List.set_cons_succ])
    refine' wpAnyH_take (i := 1) (v := _) rfl (by kernel_rfl) (by kernel_rfl) (by kernel_rfl) (fun _ _ _ h => h) (Or.inl ⟨by rfl, ?hy16⟩) hHeld ?rest16
    case hy16 => (rintro W hM; go_simp; (try with_reducible rfl))
    case rest16 =>
    (try simp only [Act.put, List.getElem_toArray, List.getElem_cons_zero, List.getElem_cons_succ, List.setIfInBounds_toArray, List.set_cons_zero, List.set_cons_succ])
    refine' wpAnyH_take (i := 2) (v := _) rfl (by kernel_rfl) (by kernel_rfl) (by kernel_rfl) (fun _ _ _ h => h) (Or.inl ⟨by rfl, ?hy17⟩) hHeld ?rest17
    case hy17 => (rintro W hM; go_simp; (try with_reducible rfl))
    case rest17 =>
    (try simp only [Act.put, List.getElem_toArray, List.getElem_cons_zero, List.getElem_cons_succ, List.setIfInBounds_toArray, List.set_cons_zero, List.set_cons_succ])
    refine' wpAnyH_take (i := 3) (v := _) rfl (by kernel_rfl) (by kernel_rfl) (by kernel_rfl) (fun _ _ _ h => h) (Or.inl ⟨by rfl, ?hy18⟩) hHeld ?rest18
    case hy18 => (rintro W hM; have q := q10.out W hM; go_simp; (try with_reducible rfl))
    case rest18 =>
    (try simp only [Act.put, List.getElem_toArray, List.getElem_cons_zero, List.getElem_cons_succ, List.setIfInBounds_toArray, List.set_cons_zero, List.set_cons_succ])
    refine' wpAnyH_take (i := 5) (v := _) rfl (by kernel_rfl) (by kernel_rfl) (by kernel_rfl) (fun _ _ _ h => h) (Or.inl ⟨by rfl, ?hy19⟩) hHeld ?rest19
    case hy19 => (rintro W hM; go_simp; (try with_reducible rfl))
    case rest19 =>
    (try simp only [Act.put, List.getElem_toArray, List.getElem_cons_zero, List.getElem_cons_succ, List.setIfInBounds_toArray, List.set_cons_zero, List.set_cons_succ])
    refine' wpAnyH_take (i := 6) (v := _) rfl (by kernel_rfl) (by kernel_rfl) (by kernel_rfl) (fun _ _ _ h => h) (Or.inl ⟨by rfl, ?hy20⟩) hHeld ?rest20
    case hy20 => (rintro W hM; go_simp; (try with_reducible rfl))
    case rest20 =>
    (try simp only [Act.put, List.getElem_toArray, List.getElem_cons_zero, List.getElem_cons_succ, List.setIfInBounds_toArray, List.set_cons_zero, List.set_cons_succ])
    refine' wpAnyH_take (i := 7) (v := _) rfl (by kernel_rfl) (by kernel_rfl) (by kernel_rfl) (fun _ _ _ h => h) (Or.inl ⟨by rfl, ?hy21⟩) hHeld ?rest21
    case hy21 => (rintro W hM; have q := q11.out W hM; go_simp; (try with_reducible rfl))
    case rest21 =>
    (try simp only [Act.put, List.getElem_toArray, List.getElem_cons_zero, List.getElem_cons_succ, List.setIfInBounds_toArray, List.set_cons_zero, List.set_cons_succ])
    refine wpAnyH_ready (rs := [4]) (by kernel_rfl) (by simp) ?_
    refine AllReadyH.cons rfl (fun K hK => ?_) AllReadyH.nil
    go_simp
    go_at_call 31
    refine (NumI_any _ _).mono ?_
    rintro x y1 ⟨rfl, hb⟩
    have hR4 := ownsRow_mod hR4 hb (fun _ _ => by simp)
    refine hK.out _ _ (hHeld.trans (hb.mono (by simp))) (fun hHeld => ?_)
    clear hK K
    (try simp only [Act.put, List.getElem_toArray, List.getElem_cons_zero, List.getElem_cons_succ, List.setIfInBounds_toArray, List.set_cons_zero, List.set_cons_succ])
    refine wpAnyH_ready (rs := [8]) (by kernel_rfl) (by simp) ?_
    refine AllReadyH.cons rfl (fun K hK => ?_) AllReadyH.nil
    go_simp
    go_at_call 31
    refine (NumI_any _ _).mono ?_
    rintro x y2 ⟨rfl, hb⟩
    have hR4 := ownsRow_mod hR4 hb (fun _ _ => by simp)
    refine hK.out _ _ (hHeld.trans (hb.mono (by simp))) (fun hHeld => ?_)
    clear hK K
    (try simp only [Act.put, List.getElem_toArray, List.getElem_cons_zero, List.getElem_cons_succ, List.setIfInBounds_toArray, List.set_cons_zero, List.set_cons_succ])
    refine wpAnyH_ready (rs := [9]) (by kernel_rfl) (by simp) ?_
    refine AllReadyH.cons rfl (fun K hK => ?_) AllReadyH.nil
    go_simp
    have HQ2 : Blk (World.alloc y2 (.cells #[.int .i64 0, .int .u64 (r.of.o : Int), str [], .slice none 0 0, .bool false, .int .i64 0, .int .u64 (r.of.n : Int), str [], .slice none 0 0, .bool false] 64)) y2.heap.size 64 #[.int .i64 0, .int .u64 (r.of.o : Int), str [], .slice none 0 0, .bool false, .int .i64 0, .int .u64 (r.of.n : Int), str [], .slice none 0 0, .bool false] := Blk.new _ _ _
    have hXX : Ext y2 (World.alloc y2 (.cells #[.int .i64 0, .int .u64 (r.of.o : Int), str [], .slice none 0 0, .bool false, .int .i64 0, .int .u64 (r.of.n : Int), str [], .slice none 0 0, .bool false] 64)) := (Mod.refl [] _).alloc _
    generalize World.alloc y2 (.cells #[.int .i64 0, .int .u64 (r.of.o : Int), str [], .slice none 0 0, .bool false, .int .i64 0, .int .u64 (r.of.n : Int), str [], .slice none 0 0, .bool false] 64) = y3 at *
    have hR4 := ownsRow_mod hR4 hXX (fun _ _ => by simp)
    refine hK.out _ _ (hHeld.trans (hXX.mono (by simp))) (fun hHeld => ?_)
    clear hK K
    (try simp only [Act.put, List.getElem_toArray, List.getElem_cons_zero, List.getElem_cons_succ, List.setIfInBounds_toArray, List.set_cons_zero, List.set_cons_succ])
    generalize y2.heap.size = gq at *
    refine wpAnyH_ready (rs := [10]) (by kernel_rfl) (by simp) ?_
    refine AllReadyH.cons rfl (fun K hK => ?_) AllReadyH.nil
    obtain ⟨ib, hi, hz0, hz1, hz2⟩ := info_parts infoItem
    refine wp_append_lies _ _ _ 62 (by rfl) W9.heap.size 64 ib _ 5 64 Tryz.underlying62 hi hz0 hz1 hz2 (by rfl) (by decide) _ 4 _ (by rfl) hR4 ⟨gq, 0, none⟩ 2 2 [.int .i64 0, .int .u64 (r.of.o : Int), str [], .slice none 0 0, .bool false, .int .i64 0, .int .u64 (r.of.n : Int), str [], .slice none 0 0, .bool false] (by rfl) (by rfl) ?gnew ?gone (by decide) (by decide) (by decide) ?gbase (y3.heap.size) rfl ?gk
    case gnew =>
      intro j u hu
      rw [addr_add, Nat.zero_add, HQ2.cell j]
      simpa using hu
    case gone => intro u hu; simp only [List.mem_cons, List.not_mem_nil, or_false] at hu; rcases hu with h | h | h | h | h | h | h | h | h | h <;> (subst h; rfl)
    case gbase => have := HG3.out.1; have := HG3.out.2; have := hHeld.size; omega
    intro g4 c4 y4 hown' hgr' hat' hlt'
    have hM4 : Mod [g3] y3 y4 := (Mod.refl _ _).grown hgr' (fun k hk => .inl (by simp [Value.ownBlock] at hk; simp [hk]))
    refine hK.out _ _ (hHeld.trans hM4) (fun hHeld => ?_)
    clear hK K
    (try simp only [Act.put, List.getElem_toArray, List.getElem_cons_zero, List.getElem_cons_succ, List.setIfInBounds_toArray, List.set_cons_zero, List.set_cons_succ])
    refine' wpAnyH_take (i := 11) (v := _) rfl (by kernel_rfl) (by kernel_rfl) (by kernel_rfl) (fun _ _ _ h => h) (Or.inl ⟨by rfl, ?hy22⟩) hHeld ?rest22
    case hy22 => (rintro W hM; go_simp; (try with_reducible rfl))
    case rest22 =>
    (try simp only [Act.put, List.getElem_toArray, List.getElem_cons_zero, List.getElem_cons_succ, List.setIfInBounds_toArray, List.set_cons_zero, List.set_cons_succ])
    refine wpAnyH_done (by kernel_rfl) ?_ _
    have HM := hid hHeld
    have HR6 : Hid (y4.ownsRow W9.heap.size 64 5 (.slice (some ⟨g4, 0, none⟩) 6 c4) 6 (flatC (chL [listT [bitT r.here, bitT r.gone], numT rn, eidT r.of.src, listT [numT r.of.t, numT r.of.q], numT r.of.o, numT r.of.n]) (acL [(some ⟨g1, 0, none⟩, 2), (none, 0), (As, 2), (some ⟨g2, 0, none⟩, 2), (none, 0), (none, 0)]) 6)) := hid hown'
    have KID6 : Hid (∀ i, i < 6 → IsL y4 (fun b => V.heap.size ≤ b ∧ b < g3) (chL [listT [bitT r.here, bitT r.gone], numT rn, eidT r.of.src, listT [numT r.of.t, numT r.of.q], numT r.of.o, numT r.of.n] i) (acL [(some ⟨g1, 0, none⟩, 2), (none, 0), (As, 2), (some ⟨g2, 0, none⟩, 2), (none, 0), (none, 0)] i).1) := hid (fun i hi => by
      have mv : ∀ {t : T} {A : Option Addr}, IsL v10 (fun b => V.heap.size ≤ b ∧ b < g3) t A → IsL y4 (fun b => V.heap.size ≤ b ∧ b < g3) t A := fun h => IsL.mod HM.out (fun k hk _ => by have := hk.2; simp; omega) _ h
      match i, hi with
      | 0, _ => exact mv (KID.out 0 (by decide))
      | 1, _ => exact num_IsL
      | 2, _ => exact mv (KID.out 2 (by decide))
      | 3, _ => exact mv (KID.out 3 (by decide))
      | 4, _ => exact num_IsL
      | 5, _ => exact num_IsL)
    have HLT4 := hid hlt'
    have HG4 : Hid (W9.heap.size ≤ g4) := hid (HR6.out.lt g4 rfl).1
    have HXV : Hid (Ext V y4) := hid (((Mod.of_ext (S := [g3]) (HX9.out.trans HX10.out)).trans HM.out).new (fun k hk => .inr (by rw [List.mem_singleton] at hk; have := HG3.out.1; omega)))
    have hfr := HFR.out
    clear hHeld hown' hgr' hat' hlt' hM4 hR4 HQ2 hXX HR4 KID q10 q11
    have HBB : Hid (r.body = [listT [bitT r.here, bitT r.gone], numT rn, eidT r.of.src, listT [numT r.of.t, numT r.of.q], numT r.of.o, numT r.of.n]) := hid (by rw [HBODY.out, hfr]; rfl)
    have HLB : Hid (∀ e : Later y4, IsL e.x (fun b => V.heap.size ≤ b) (listT [listT [bitT r.here, bitT r.gone], numT rn, eidT r.of.src, listT [numT r.of.t, numT r.of.q], numT r.of.o, numT r.of.n]) (some ⟨g4, 0, none⟩)) := hid (fun e => IsL.ext (list_IsL (base := W9.heap.size) (c := c4) HLT4.out (by have := HG4.out; show V.heap.size ≤ g4; omega) HR6.out (fun i hi => IsL.weak (fun _ _ h => h.1) _ (KID6.out i hi))) e.h)
    have HBR := hid (HB1.out.ext HXV.out)
    have HVW : Hid (Ext V y4) := hid HXV.out
    clear hfr
    go_upto_region 5 with fail
    obtain ⟨e, he⟩ := Later.self y4
    rw [he]
    clear he
    go_wp2_with (first | (go_at_call 31; refine (Ret.later (NumI_any _ _)).mono ?_; rintro x _ ⟨rfl, e, rfl⟩) | (go_at_call 48; clear tk1; refine (Ret.later (ListV_any _ _ _ _)).mono ?_; rintro x _ ⟨rfl, e, rfl⟩) | (go_at_call 48; go_loud (have HPF := hid (Blk.new e.x 64 #[.int .i64 0, .int .u64 1, str [], .slice none 0 0, .bool false, .int .i64 4, .int .u64 0, str [], .slice (some ⟨g4, 0, none⟩) 6 c4, .bool false]); have HLF := hid (IsL.ext (HLB.out e) ((Mod.refl [] e.x).alloc (.cells #[.int .i64 0, .int .u64 1, str [], .slice none 0 0, .bool false, .int .i64 4, .int .u64 0, str [], .slice (some ⟨g4, 0, none⟩) 6 c4, .bool false] 64))); have HEF := hid ((HVW.out.trans e.h).alloc (.cells #[.int .i64 0, .int .u64 1, str [], .slice none 0 0, .bool false, .int .i64 4, .int .u64 0, str [], .slice (some ⟨g4, 0, none⟩) 6 c4, .bool false] 64)); have HSF := hid (HVW.out.trans e.h).size; refine (ListV_any _ _ _ _).mono ?_; rintro x w3 ⟨rfl, hb3⟩; have HRF := hid ((HBR.out.later e).ext (((Mod.refl [] e.x).alloc _).trans hb3)); obtain ⟨c0, c1, c2, c3, c4⟩ := cells5 HRF.out; have f0 := HRF.out.frozen 0; have f1 := HRF.out.frozen 1; have f2 := HRF.out.frozen 2; have f3 := HRF.out.frozen 3; have f4 := HRF.out.frozen 4)))
    clear c0 c1 c2 c3 c4 f0 f1 f2 f3 f4
    show bodyPost _ _ _ _ _ (set5 w3 (w.heap.size + 1) (listT [numT 1, listT [listT [bitT r.here, bitT r.gone], numT rn, eidT r.of.src, listT [numT r.of.t, numT r.of.q], numT r.of.o, numT r.of.n]]) (some ⟨e.x.heap.size, 0, none⟩) 2)
    have HBF := hid (set5_blk (t := listT [numT 1, listT [listT [bitT r.here, bitT r.gone], numT rn, eidT r.of.src, listT [numT r.of.t, numT r.of.q], numT r.of.o, numT r.of.n]]) (A := some ⟨e.x.heap.size, 0, none⟩) (c := 2) HRF.out)
    refine bodyPost_ret (results_cell rfl _ (by rfl) HBF.out Tryz.underlying64 rfl (by kernel_rfl)) rfl ⟨some ⟨e.x.heap.size, 0, none⟩, 2, by rw [HTREE.out, HBB.out], set5_mod (HE.out.trans (HEF.out.trans hb3)) (by omega), ?_⟩
    rw [HTREE.out, HBB.out]
    have hv := HVS.out
    refine IsL.weak (fun b _ h => by have h : V.heap.size ≤ b := h; show w.heap.size ≤ b; omega) _ (IsL.mod (Q := fun b => V.heap.size ≤ b) set5_modb (fun b hb _ hs => by rw [List.mem_singleton] at hs; have hb : V.heap.size ≤ b := hb; omega) _ ?_)
    exact IsL.ext (two_list (x := numT 1) (y := listT [listT [bitT r.here, bitT r.gone], numT rn, eidT r.of.src, listT [numT r.of.t, numT r.of.q], numT r.of.o, numT r.of.n]) (Ax := none) (cx := 0) (Ay := some ⟨g4, 0, none⟩) (cy := c4) HPF.out HSF.out num_IsL HLF.out) hb3
end Go.Proofs.YtogjghmoankleaaGreat
