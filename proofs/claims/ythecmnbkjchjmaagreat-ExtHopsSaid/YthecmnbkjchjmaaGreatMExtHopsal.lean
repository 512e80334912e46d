/-
 Primaries: their items, made.
-/
import Derived.Test.YthecmnbkjchjmaaGreatMExtHopsak
import Derived.Deep.AppendLies
import Derived.Deep.RegionLaw
namespace Go.Proofs.YthecmnbkjchjmaaGreat
open Go.RowKit
set_option linter.unusedVariables false
set_option linter.unusedSimpArgs false
def chL (L : List T) (i : Nat) : T := (L[i]?).getD T.nil
def acL (a : List (Option Addr × Nat)) (i : Nat) : Option Addr × Nat := (a[i]?).getD (none, 0)
theorem list_IsL {W : World} {Q : Nat -> Prop} {base g c : Nat} {L : List T} {a : List (Option Addr × Nat)} (hlt : g < W.heap.size) (q : Q g) (h : W.ownsRow base 86 5 (.slice (some ⟨g, 0, none⟩) L.length c) L.length (flatC (chL L) (acL a) L.length)) (hI : ∀ i, i < L.length -> IsL W Q (chL L i) (acL a i).1) : IsL W Q (listT L) (some ⟨g, 0, none⟩) := own_IsL hlt q h hI
theorem num_IsL {W : World} {Q : Nat -> Prop} {n : Nat} {A : Option Addr} : IsL W Q (numT n) A := IsL.leaf
theorem str_IsL {W : World} {Q : Nat -> Prop} {s : List UInt8} {A : Option Addr} : IsL W Q (strT s) A := IsL.leaf
set_option maxRecDepth 20000 in
set_option maxHeartbeats 3200000 in
theorem parts_cap (p : PV) (k : Nat) (hc : p.crc = (k : Int)) (hk : k <= 2) (hr : p.ranged = true) (sum : List UInt8) (w : World) : Calls Tryz.prog 149 #[.agg p.c, str sum] w (fun e w' => ∃ A c, e = .returned (itemV (priT p k sum) A c) /\ Ext w w' /\ IsL w' (fun b => w.heap.size <= b) (priT p k sum) A /\ (priT p k sum).k <= c) := by
 obtain ⟨h1, h2, h3, _, _, hfl, ht, hq, hl, ho, hn⟩ := PV.ranged_spec hr
 have KD := hid (fun W => eidItem_ok p.d h1 W)
 have KS := hid (fun W => eidItem_ok p.s h2 W)
 have KR := hid (fun W => eidItem_ok p.r h3 W)
 have HE := hid (((Mod.refl [] w).alloc (.cells p.c 26)).alloc (.cells #[.int .i64 0, .int .u64 0, .string ⟨#[]⟩, .slice none 0 0, .bool false] 86))
 have HB := hid ((Blk.new w 26 p.c).alloc (.cells #[.int .i64 0, .int .u64 0, .string ⟨#[]⟩, .slice none 0 0, .bool false] 86))
 have HR : Hid (Blk ((w.alloc (.cells p.c 26)).alloc (.cells #[.int .i64 0, .int .u64 0, .string ⟨#[]⟩, .slice none 0 0, .bool false] 86)) (w.heap.size + 1) 86 (itemC (numT 0) none 0)) := Blk.newL _ _ _ (by simp)
 have f0 : (0 : Int) <= (p.fl : Int) := by omega
 have HFL : Hid (p.fl < 18446744073709551616) := by unfold Hid; omega
 have t1 : IntKind.u64.wrap (k : Int) = (k : Int) := IntWalk.u64_in _ (by omega)
 have HK := hid hk
 have HC := hid hc
 clear h1 h2 h3 hfl ht hq hl ho hn hr hc hk
 go_enter Tryz.func149, Tryz.ntmps149
 go_upto_region 1 with fail
 generalize (w.alloc (.cells p.c 26)).alloc (.cells #[.int .i64 0, .int .u64 0, .string ⟨#[]⟩, .slice none 0 0, .bool false] 86) = V at *
 have HV : Hid (w.heap.size + 2 <= V.heap.size) := Nat.succ_le_of_lt HR.out.lt
 have c0 : V.cell? ⟨w.heap.size, 2, none⟩ = some (.int .i64 p.d.sch) := HB.out.cell 2
 have c1 : V.cell? ⟨w.heap.size, 3, none⟩ = some (str p.d.name) := HB.out.cell 3
 have c2 : V.cell? ⟨w.heap.size, 4, none⟩ = some (.int .u64 (p.d.node : Int)) := HB.out.cell 4
 have c3 : V.cell? ⟨w.heap.size, 5, none⟩ = some (.int .u64 (p.d.svc : Int)) := HB.out.cell 5
 go_upto_region 2 with (go_at_call 58; refine (KD.out _).mono ?_; rintro x wd ⟨Ad, rfl, hb, hl⟩)
 clear c0 c1 c2 c3
 have HE := hid ((HE.out.trans hb).alloc (.cells (itemC (eidT p.d) Ad 2) 86))
 have HB := hid ((HB.out.ext hb).alloc (.cells (itemC (eidT p.d) Ad 2) 86))
 have HR := hid ((HR.out.ext hb).alloc (.cells (itemC (eidT p.d) Ad 2) 86))
 have Dd := hid (Blk.new wd 86 (itemC (eidT p.d) Ad 2))
 have Nd : Hid (V.heap.size <= wd.heap.size) := hb.size
 have hl := IsL.weak (R := fun b => w.heap.size + 2 <= b /\ b < wd.heap.size) (fun b h1 h2 => ⟨by have := HV.out; have h2 : V.heap.size <= b := h2; omega, h1⟩) _ hl
 have Ld := hid (IsL.ext hl ((Mod.refl [] wd).alloc (.cells (itemC (eidT p.d) Ad 2) 86)))
 clear hb hl
 generalize hGd : wd.alloc (.cells (itemC (eidT p.d) Ad 2) 86) = Vd at *
 have hSd : Hid (wd.heap.size < Vd.heap.size) := hid (by rw [<- hGd]; simp)
 clear hGd
 have c0 : Vd.cell? ⟨w.heap.size, 6, none⟩ = some (.int .i64 p.s.sch) := HB.out.cell 6
 have c1 : Vd.cell? ⟨w.heap.size, 7, none⟩ = some (str p.s.name) := HB.out.cell 7
 have c2 : Vd.cell? ⟨w.heap.size, 8, none⟩ = some (.int .u64 (p.s.node : Int)) := HB.out.cell 8
 have c3 : Vd.cell? ⟨w.heap.size, 9, none⟩ = some (.int .u64 (p.s.svc : Int)) := HB.out.cell 9
 go_upto_region 3 with (go_at_call 58; refine (KS.out _).mono ?_; rintro x ws ⟨As, rfl, hb, hl⟩)
 clear c0 c1 c2 c3
 have HE := hid ((HE.out.trans hb).alloc (.cells (itemC (eidT p.s) As 2) 86))
 have HB := hid ((HB.out.ext hb).alloc (.cells (itemC (eidT p.s) As 2) 86))
 have HR := hid ((HR.out.ext hb).alloc (.cells (itemC (eidT p.s) As 2) 86))
 have Ds := hid (Blk.new ws 86 (itemC (eidT p.s) As 2))
 have Ns : Hid (Vd.heap.size <= ws.heap.size) := hb.size
 have hl := IsL.weak (R := fun b => w.heap.size + 2 <= b /\ b < ws.heap.size) (fun b h1 h2 => ⟨by have := HV.out; have h2 : Vd.heap.size <= b := h2; have := hSd.out; have := Nd.out; omega, h1⟩) _ hl
 have Ls := hid (IsL.ext hl ((Mod.refl [] ws).alloc (.cells (itemC (eidT p.s) As 2) 86)))
 have Dd := hid ((Dd.out.ext hb).alloc (.cells (itemC (eidT p.s) As 2) 86))
 have Ld := hid (IsL.ext (Ld.out.ext hb) ((Mod.refl [] ws).alloc (.cells (itemC (eidT p.s) As 2) 86)))
 clear hb hl
 generalize hGs : ws.alloc (.cells (itemC (eidT p.s) As 2) 86) = Vs at *
 have hSs : Hid (ws.heap.size < Vs.heap.size) := hid (by rw [<- hGs]; simp)
 clear hGs
 have c0 : Vs.cell? ⟨w.heap.size, 10, none⟩ = some (.int .i64 p.r.sch) := HB.out.cell 10
 have c1 : Vs.cell? ⟨w.heap.size, 11, none⟩ = some (str p.r.name) := HB.out.cell 11
 have c2 : Vs.cell? ⟨w.heap.size, 12, none⟩ = some (.int .u64 (p.r.node : Int)) := HB.out.cell 12
 have c3 : Vs.cell? ⟨w.heap.size, 13, none⟩ = some (.int .u64 (p.r.svc : Int)) := HB.out.cell 13
 go_upto_region 4 with (go_at_call 58; refine (KR.out _).mono ?_; rintro x wr ⟨Ar, rfl, hb, hl⟩)
 clear c0 c1 c2 c3
 have HE := hid ((HE.out.trans hb).alloc (.cells (itemC (eidT p.r) Ar 2) 86))
 have HB := hid ((HB.out.ext hb).alloc (.cells (itemC (eidT p.r) Ar 2) 86))
 have HR := hid ((HR.out.ext hb).alloc (.cells (itemC (eidT p.r) Ar 2) 86))
 have Dr := hid (Blk.new wr 86 (itemC (eidT p.r) Ar 2))
 have Nr : Hid (Vs.heap.size <= wr.heap.size) := hb.size
 have hl := IsL.weak (R := fun b => w.heap.size + 2 <= b /\ b < wr.heap.size) (fun b h1 h2 => ⟨by have := HV.out; have h2 : Vs.heap.size <= b := h2; have := hSd.out; have := Nd.out; have := hSs.out; have := Ns.out; omega, h1⟩) _ hl
 have Lr := hid (IsL.ext hl ((Mod.refl [] wr).alloc (.cells (itemC (eidT p.r) Ar 2) 86)))
 have Dd := hid ((Dd.out.ext hb).alloc (.cells (itemC (eidT p.r) Ar 2) 86))
 have Ld := hid (IsL.ext (Ld.out.ext hb) ((Mod.refl [] wr).alloc (.cells (itemC (eidT p.r) Ar 2) 86)))
 have Ds := hid ((Ds.out.ext hb).alloc (.cells (itemC (eidT p.r) Ar 2) 86))
 have Ls := hid (IsL.ext (Ls.out.ext hb) ((Mod.refl [] wr).alloc (.cells (itemC (eidT p.r) Ar 2) 86)))
 clear hb hl
 generalize hGr : wr.alloc (.cells (itemC (eidT p.r) Ar 2) 86) = Vr at *
 have hSr : Hid (wr.heap.size < Vr.heap.size) := hid (by rw [<- hGr]; simp)
 clear hGr
 have xf : ∀ e : Later Vr, e.x.cell? ⟨w.heap.size, 0, none⟩ = some (.int .u64 (p.fl : Int)) := HB.out.cellL 0 rfl
 have xg : ∀ e : Later Vr, e.x.cell? ⟨w.heap.size, 1, none⟩ = some (.int .i64 (k : Int)) := HB.out.cellL 1 (by show some (Value.int .i64 p.crc) = _; rw [HC.out])
 have xt : ∀ e : Later Vr, e.x.cell? ⟨w.heap.size, 14, none⟩ = some (.int .u64 (p.t : Int)) := HB.out.cellL 14 rfl
 have xq : ∀ e : Later Vr, e.x.cell? ⟨w.heap.size, 15, none⟩ = some (.int .u64 (p.q : Int)) := HB.out.cellL 15 rfl
 have xl : ∀ e : Later Vr, e.x.cell? ⟨w.heap.size, 16, none⟩ = some (.int .u64 (p.l : Int)) := HB.out.cellL 16 rfl
 have xd0 : ∀ e : Later Vr, e.x.cell? ⟨wd.heap.size, 0, none⟩ = some (.int .i64 (eidT p.d).kind) := Dd.out.cellL 0 rfl
 have xd1 : ∀ e : Later Vr, e.x.cell? ⟨wd.heap.size, 1, none⟩ = some (.int .u64 ((eidT p.d).n : Int)) := Dd.out.cellL 1 rfl
 have xd2 : ∀ e : Later Vr, e.x.cell? ⟨wd.heap.size, 2, none⟩ = some (str (eidT p.d).s) := Dd.out.cellL 2 rfl
 have xd3 : ∀ e : Later Vr, e.x.cell? ⟨wd.heap.size, 3, none⟩ = some (.slice Ad (eidT p.d).k 2) := Dd.out.cellL 3 rfl
 have xd4 : ∀ e : Later Vr, e.x.cell? ⟨wd.heap.size, 4, none⟩ = some (.bool (eidT p.d).op) := Dd.out.cellL 4 rfl
 have xs0 : ∀ e : Later Vr, e.x.cell? ⟨ws.heap.size, 0, none⟩ = some (.int .i64 (eidT p.s).kind) := Ds.out.cellL 0 rfl
 have xs1 : ∀ e : Later Vr, e.x.cell? ⟨ws.heap.size, 1, none⟩ = some (.int .u64 ((eidT p.s).n : Int)) := Ds.out.cellL 1 rfl
 have xs2 : ∀ e : Later Vr, e.x.cell? ⟨ws.heap.size, 2, none⟩ = some (str (eidT p.s).s) := Ds.out.cellL 2 rfl
 have xs3 : ∀ e : Later Vr, e.x.cell? ⟨ws.heap.size, 3, none⟩ = some (.slice As (eidT p.s).k 2) := Ds.out.cellL 3 rfl
 have xs4 : ∀ e : Later Vr, e.x.cell? ⟨ws.heap.size, 4, none⟩ = some (.bool (eidT p.s).op) := Ds.out.cellL 4 rfl
 have xr0 : ∀ e : Later Vr, e.x.cell? ⟨wr.heap.size, 0, none⟩ = some (.int .i64 (eidT p.r).kind) := Dr.out.cellL 0 rfl
 have xr1 : ∀ e : Later Vr, e.x.cell? ⟨wr.heap.size, 1, none⟩ = some (.int .u64 ((eidT p.r).n : Int)) := Dr.out.cellL 1 rfl
 have xr2 : ∀ e : Later Vr, e.x.cell? ⟨wr.heap.size, 2, none⟩ = some (str (eidT p.r).s) := Dr.out.cellL 2 rfl
 have xr3 : ∀ e : Later Vr, e.x.cell? ⟨wr.heap.size, 3, none⟩ = some (.slice Ar (eidT p.r).k 2) := Dr.out.cellL 3 rfl
 have xr4 : ∀ e : Later Vr, e.x.cell? ⟨wr.heap.size, 4, none⟩ = some (.bool (eidT p.r).op) := Dr.out.cellL 4 rfl
 obtain ⟨e, he⟩ := Later.self Vr
 have HTC : Hid (∀ L : List T, (listT L).k = L.length) := fun L => rfl
 rw [he]
 clear he
 go_region_held3 (fun w' => w'.cell? ⟨w.heap.size, 0, none⟩ = some (.int .u64 (p.fl : Int)) /\ w'.cell? ⟨w.heap.size, 1, none⟩ = some (.int .i64 (k : Int)) /\ w'.cell? ⟨w.heap.size, 14, none⟩ = some (.int .u64 (p.t : Int)) /\ w'.cell? ⟨w.heap.size, 15, none⟩ = some (.int .u64 (p.q : Int)) /\ w'.cell? ⟨w.heap.size, 16, none⟩ = some (.int .u64 (p.l : Int)) /\ w'.cell? ⟨wd.heap.size, 0, none⟩ = some (.int .i64 (eidT p.d).kind) /\ w'.cell? ⟨wd.heap.size, 1, none⟩ = some (.int .u64 ((eidT p.d).n : Int)) /\ w'.cell? ⟨wd.heap.size, 2, none⟩ = some (str (eidT p.d).s) /\ w'.cell? ⟨wd.heap.size, 3, none⟩ = some (.slice Ad (eidT p.d).k 2) /\ w'.cell? ⟨wd.heap.size, 4, none⟩ = some (.bool (eidT p.d).op) /\ w'.cell? ⟨ws.heap.size, 0, none⟩ = some (.int .i64 (eidT p.s).kind) /\ w'.cell? ⟨ws.heap.size, 1, none⟩ = some (.int .u64 ((eidT p.s).n : Int)) /\ w'.cell? ⟨ws.heap.size, 2, none⟩ = some (str (eidT p.s).s) /\ w'.cell? ⟨ws.heap.size, 3, none⟩ = some (.slice As (eidT p.s).k 2) /\ w'.cell? ⟨ws.heap.size, 4, none⟩ = some (.bool (eidT p.s).op) /\ w'.cell? ⟨wr.heap.size, 0, none⟩ = some (.int .i64 (eidT p.r).kind) /\ w'.cell? ⟨wr.heap.size, 1, none⟩ = some (.int .u64 ((eidT p.r).n : Int)) /\ w'.cell? ⟨wr.heap.size, 2, none⟩ = some (str (eidT p.r).s) /\ w'.cell? ⟨wr.heap.size, 3, none⟩ = some (.slice Ar (eidT p.r).k 2) /\ w'.cell? ⟨wr.heap.size, 4, none⟩ = some (.bool (eidT p.r).op)) (go_keep)
  (first
   | (go_at_call 46; (try rw [t1]); refine (NumI_any _ _).mono ?_; rintro x w3 ⟨rfl, hb3⟩; (try have HP := hid (Blk.ext HP.out hb3)); obtain ⟨e, rfl⟩ : ∃ e' : Later Vr, w3 = e'.x := ⟨⟨w3, Mod.trans (by first | exact Later.h _ | exact (Later.h _).drew | exact (Later.h _).alloc _) hb3⟩, rfl⟩)
   | (go_at_call 45; have HP := hid (Blk.new e.x 86 #[.int .i64 0, .int .u64 (p.t : Int), str [], .slice none 0 0, .bool false, .int .i64 0, .int .u64 (p.q : Int), str [], .slice none 0 0, .bool false]); have HG2 : Hid (w.heap.size + 2 <= e.x.heap.size) := Nat.le_trans (Nat.succ_le_of_lt HR.out.lt) e.h.size; generalize e.x.heap.size = g2 at *; refine (ListV_any _ _ _ _).mono ?_; rintro x w3 ⟨rfl, hb3⟩; have HP := hid (Blk.ext HP.out hb3); obtain ⟨e, rfl⟩ : ∃ e' : Later Vr, w3 = e'.x := ⟨⟨w3, Mod.trans (by first | exact Later.h _ | exact (Later.h _).drew | exact (Later.h _).alloc _) hb3⟩, rfl⟩))
 go_upto_region 5 with fail
 clear xf xg xt xq xl xd0 xd1 xd2 xd3 xd4 xs0 xs1 xs2 xs3 xs4 xr0 xr1 xr2 xr3 xr4
 generalize hV8 : World.alloc e.x _ = V8
 have HE : Hid (Ext w V8) := hid (by rw [<- hV8]; exact (HE.out.trans e.h).alloc _)
 have HB : Hid (Blk V8 w.heap.size 26 p.c) := hid (by rw [<- hV8]; exact (HB.out.later e).alloc _)
 have HR : Hid (Blk V8 (w.heap.size + 1) 86 (itemC (numT 0) none 0)) := hid (by rw [<- hV8]; exact (HR.out.later e).alloc _)
 have H8 : Hid (Blk V8 e.x.heap.size 86 #[.int .i64 0, .int .u64 7, str [], .slice none 0 0, .bool false, .int .i64 0, .int .u64 (p.fl : Int), str [], .slice none 0 0, .bool false, .int .i64 0, .int .u64 (k : Int), str [], .slice none 0 0, .bool false, .int .i64 (eidT p.d).kind, .int .u64 ((eidT p.d).n : Int), str (eidT p.d).s, .slice Ad (eidT p.d).k 2, .bool (eidT p.d).op, .int .i64 (eidT p.s).kind, .int .u64 ((eidT p.s).n : Int), str (eidT p.s).s, .slice As (eidT p.s).k 2, .bool (eidT p.s).op, .int .i64 (eidT p.r).kind, .int .u64 ((eidT p.r).n : Int), str (eidT p.r).s, .slice Ar (eidT p.r).k 2, .bool (eidT p.r).op, .int .i64 4, .int .u64 0, str [], .slice (some ⟨g2, 0, none⟩) 2 2, .bool false, .int .i64 0, .int .u64 (p.l : Int), str [], .slice none 0 0, .bool false]) := hid (by rw [<- hV8]; exact Blk.new _ _ _)
 have HPG := hid HP.out.lt
 have HP : Hid (Blk V8 g2 86 #[.int .i64 0, .int .u64 (p.t : Int), str [], .slice none 0 0, .bool false, .int .i64 0, .int .u64 (p.q : Int), str [], .slice none 0 0, .bool false]) := hid (by rw [<- hV8]; exact HP.out.alloc _)
 have Ld : Hid (IsL V8 (fun b => w.heap.size + 2 <= b /\ b < wd.heap.size) (eidT p.d) Ad) := hid (by rw [<- hV8]; exact IsL.ext (Ld.out.ext e.h) ((Mod.refl [] e.x).alloc _))
 have Ls : Hid (IsL V8 (fun b => w.heap.size + 2 <= b /\ b < ws.heap.size) (eidT p.s) As) := hid (by rw [<- hV8]; exact IsL.ext (Ls.out.ext e.h) ((Mod.refl [] e.x).alloc _))
 have Lr : Hid (IsL V8 (fun b => w.heap.size + 2 <= b /\ b < wr.heap.size) (eidT p.r) Ar) := hid (by rw [<- hV8]; exact IsL.ext (Lr.out.ext e.h) ((Mod.refl [] e.x).alloc _))
 have HG8 : Hid (Vr.heap.size <= e.x.heap.size) := e.h.size
 clear hV8 hb3
 generalize e.x.heap.size = g8 at *
 have HO : Hid (V8.ownsRow (w.heap.size + 2) 86 5 (.slice (some ⟨g8, 0, none⟩) 8 8) 8 (flatC (chL [numT 7, numT p.fl, numT k, eidT p.d, eidT p.s, eidT p.r, listT [numT p.t, numT p.q], numT p.l]) (acL [(none, 0), (none, 0), (none, 0), (Ad, 2), (As, 2), (Ar, 2), (some ⟨g2, 0, none⟩, 2), (none, 0)]) 8)) := own_of_blk H8.out (by have := HG8.out; have := hSr.out; have := Nr.out; have := hSs.out; have := Ns.out; have := hSd.out; have := Nd.out; have := HV.out; omega) (by decide) rfl
 have HGG : Hid (g8 <= g8) := Nat.le_refl _
 have HG8b : Hid (w.heap.size + 2 <= g8) := by have := HG8.out; have := hSr.out; have := Nr.out; have := hSs.out; have := Ns.out; have := hSd.out; have := Nd.out; have := HV.out; unfold Hid; omega
 have HLT8 := hid H8.out.lt
 have CH : Hid (∀ i, i < 8 -> IsL V8 (fun b => w.heap.size + 2 <= b /\ b < g8) (chL [numT 7, numT p.fl, numT k, eidT p.d, eidT p.s, eidT p.r, listT [numT p.t, numT p.q], numT p.l] i) (acL [(none, 0), (none, 0), (none, 0), (Ad, 2), (As, 2), (Ar, 2), (some ⟨g2, 0, none⟩, 2), (none, 0)] i).1) := fun i hi => by
  have q1 := HG8.out; have q2 := hSr.out; have q3 := Nr.out; have q4 := hSs.out; have q5 := Ns.out; have q6 := hSd.out; have q7 := Nd.out; have q8 := HV.out
  match i, hi with
  | 0, _ => exact num_IsL
  | 1, _ => exact num_IsL
  | 2, _ => exact num_IsL
  | 3, _ => exact IsL.weak (fun b _ h => ⟨h.1, by have := h.2; omega⟩) (eidT p.d) Ld.out
  | 4, _ => exact IsL.weak (fun b _ h => ⟨h.1, by have := h.2; omega⟩) (eidT p.s) Ls.out
  | 5, _ => exact IsL.weak (fun b _ h => ⟨h.1, by have := h.2; omega⟩) (eidT p.r) Lr.out
  | 6, _ => exact fun _ => ⟨g2, 0, rfl, HP.out.lt, ⟨HG2.out, HPG.out⟩, fun j hj => by
    have hj : j = 0 \/ j = 1 := by have : j < 2 := hj; omega
    rcases hj with rfl | rfl
    . exact ⟨none, 0, ⟨HP.out.cell 0, HP.out.cell 1, HP.out.cell 2, HP.out.cell 3, HP.out.cell 4⟩, num_IsL⟩
    . exact ⟨none, 0, ⟨HP.out.cell 5, HP.out.cell 6, HP.out.cell 7, HP.out.cell 8, HP.out.cell 9⟩, num_IsL⟩⟩
  | 7, _ => exact num_IsL
 clear H8 HP Ld Ls Lr HG8 HPG hSr Nr hSs Ns hSd Nd KD KS KR Dd Ds Dr HG2
 have HW8 : Hid (w.heap.size + 2 <= g8) := by have := HG8b.out; unfold Hid; omega
 obtain ⟨i0, hi, hz0, hz1, hz2⟩ := info_parts infoItem
 have HINF := hid (And.intro hi (And.intro hz0 (And.intro hz1 hz2)))
 clear hi hz0 hz1 hz2
 have HLG := HLT8
 have y0 : ∀ e : Later V8, e.x.cell? ⟨w.heap.size, 0, none⟩ = some (.int .u64 (p.fl : Int)) := HB.out.cellL 0 rfl
 obtain ⟨e, he⟩ := Later.self V8
 rw [he]
 clear he
 by_cases hx : p.fl % 2 = 1
 .
  have a1 : bits .and .u64 (p.fl : Int) 1 = 1 := by have h := andP_yes (k := 0) HFL.out (by omega) (by simpa using hx); simpa using h
  have HX := hid hx
  clear hx
  have y17 : ∀ e : Later V8, e.x.cell? ⟨w.heap.size, 17, none⟩ = some (.int .u64 (p.o : Int)) := HB.out.cellL 17 rfl
  have y18 : ∀ e : Later V8, e.x.cell? ⟨w.heap.size, 18, none⟩ = some (.int .u64 (p.n : Int)) := HB.out.cellL 18 rfl
  have y18a : ∀ (e : Later V8) (ob : Obj), (e.x.alloc ob).cell? ⟨w.heap.size, 18, none⟩ = some (.int .u64 (p.n : Int)) := fun e ob => ((HB.out.later e).alloc ob).cell 18
  have y17a : ∀ (e : Later V8) (ob : Obj), (e.x.alloc ob).cell? ⟨w.heap.size, 17, none⟩ = some (.int .u64 (p.o : Int)) := fun e ob => ((HB.out.later e).alloc ob).cell 17
  have HOE : Hid (∀ e : Later V8, e.x.ownsRow (w.heap.size + 2) 86 5 (.slice (some ⟨g8, 0, none⟩) 8 8) 8 (flatC (chL [numT 7, numT p.fl, numT k, eidT p.d, eidT p.s, eidT p.r, listT [numT p.t, numT p.q], numT p.l]) (acL [(none, 0), (none, 0), (none, 0), (Ad, 2), (As, 2), (Ar, 2), (some ⟨g2, 0, none⟩, 2), (none, 0)]) 8)) := fun e => ownsRow_mod HO.out e.h (fun _ _ => by simp)
  obtain ⟨hi, hz0, hz1, hz2⟩ := HINF.out
  go_upto_region 6 with fail
  go_region_held3 (fun w' => w'.cell? ⟨w.heap.size, 17, none⟩ = some (.int .u64 (p.o : Int)) /\ w'.cell? ⟨w.heap.size, 18, none⟩ = some (.int .u64 (p.n : Int))) (go_keep)
   (first
    | (go_at_call 46; refine (NumI_any _ _).mono ?_; rintro x w3 ⟨rfl, hb3⟩; obtain ⟨e, rfl⟩ : ∃ e' : Later V8, w3 = e'.x := ⟨⟨w3, Mod.trans (by first | exact Later.h _ | exact (Later.h _).drew | exact (Later.h _).alloc _) hb3⟩, rfl⟩)
    | (refine step_append_lies _ (by rfl) _ _ 84 (by rfl) (w.heap.size + 2) 86 i0 _ 5 64 vqG hi hz0 hz1 hz2 (by rfl) (by decide) _ 8 _ (by rfl) ((HOE.out e).alloc _) ⟨e.x.heap.size, 0, none⟩ 2 2 [.int .i64 0, .int .u64 (p.o : Int), str [], .slice none 0 0, .bool false, .int .i64 0, .int .u64 (p.n : Int), str [], .slice none 0 0, .bool false] (by rfl) (by rfl) (World.news_of_block (heap_alloc_new _ _)) (fun u hu => by simp only [List.mem_cons, List.not_mem_nil, or_false] at hu; rcases hu with h | h | h | h | h | h | h | h | h | h <;> (subst h; rfl)) (by decide) (by decide) (by decide) (by have := HW8.out; have := HLT8.out; have := e.h.size; simp; omega) (e.x.heap.size + 1) (by simp) ?_; intro g9 c9 w9 hown hgrow hat hlt; have z17 : w9.cell? ⟨w.heap.size, 17, none⟩ = some (.int .u64 (p.o : Int)) := (hgrow.cell_far _ (by have := HW8.out; have := HLT8.out; have := e.h.size; simp; omega) (by simp [Value.ownBlock]; have := HW8.out; omega)).trans (y17a e _); have z18 : w9.cell? ⟨w.heap.size, 18, none⟩ = some (.int .u64 (p.n : Int)) := (hgrow.cell_far _ (by have := HW8.out; have := HLT8.out; have := e.h.size; simp; omega) (by simp [Value.ownBlock]; have := HW8.out; omega)).trans (y18a e _)))
  go_upto_region 7 with fail
  clear y17 y18 y17a y18a z17 z18 hi hz0 hz1 hz2 HOE y0
  have hm : Mod [g8] V8 w9 := Mod.grown (by first | exact (Mod.of_ext e.h).alloc _ | exact ((Mod.of_ext e.h).alloc _).drew | exact ((Mod.of_ext e.h).drew).alloc _) hgrow (fun b hb => by simp [Value.ownBlock] at hb; subst hb; exact .inl (by simp))
  have HGE : Hid (g8 <= g9) := by
   have h1 := HGG.out
   have h2 := HLT8.out
   have h3 := e.h.size
   rcases hat with h | h
   . simp [Value.ownBlock] at h; unfold Hid; omega
   . unfold Hid; omega
  have HO : Hid (w9.ownsRow (w.heap.size + 2) 86 5 (.slice (some ⟨g9, 0, none⟩) 10 c9) 10 (flatC (chL [numT 7, numT p.fl, numT k, eidT p.d, eidT p.s, eidT p.r, listT [numT p.t, numT p.q], numT p.l, numT p.o, numT p.n]) (acL [(none, 0), (none, 0), (none, 0), (Ad, 2), (As, 2), (Ar, 2), (some ⟨g2, 0, none⟩, 2), (none, 0), (none, 0), (none, 0)]) 10)) := hown
  have HE : Hid (Ext w w9) := (HE.out.of_ext.trans hm).new (fun b hb => .inr (by rw [List.mem_singleton] at hb; subst hb; have := HGG.out; have := HW8.out; omega))
  have HB : Hid (Blk w9 w.heap.size 26 p.c) := HB.out.mod hm (by have := HGG.out; have := HW8.out; simp; omega)
  have HR : Hid (Blk w9 (w.heap.size + 1) 86 (itemC (numT 0) none 0)) := HR.out.mod hm (by have := HGG.out; have := HW8.out; simp; omega)
  have CH : Hid (∀ i, i < 10 -> IsL w9 (fun b => w.heap.size + 2 <= b /\ b < g8) (chL [numT 7, numT p.fl, numT k, eidT p.d, eidT p.s, eidT p.r, listT [numT p.t, numT p.q], numT p.l, numT p.o, numT p.n] i) (acL [(none, 0), (none, 0), (none, 0), (Ad, 2), (As, 2), (Ar, 2), (some ⟨g2, 0, none⟩, 2), (none, 0), (none, 0), (none, 0)] i).1) := fun i hi => by
   by_cases h : i < 8
   .
    have q := IsL.mod hm (fun b hb _ hs => by rw [List.mem_singleton] at hs; subst hs; have := HGG.out; have := hb.2; omega) _ (CH.out i h)
    match i, h with
    | 0, _ => exact q
    | 1, _ => exact q
    | 2, _ => exact q
    | 3, _ => exact q
    | 4, _ => exact q
    | 5, _ => exact q
    | 6, _ => exact q
    | 7, _ => exact q
   .
    obtain ⟨j, rfl⟩ : ∃ j, i = 8 + j := ⟨i - 8, by omega⟩
    match j, hi with
    | 0, _ => exact num_IsL
    | 1, _ => exact num_IsL
    | j + 2, h => exact absurd h (by omega)
  have HLT8 : Hid (g8 < w9.heap.size) := by have := hm.size; have := HLT8.out; unfold Hid; omega
  have HLG := hid hlt
  clear hown hgrow hat hlt hm HGG
  have HGG := HGE
  clear HGE
  obtain ⟨e, he⟩ := Later.self w9
  rw [he]
  clear he
  have y1 : ∀ e : Later w9, e.x.cell? ⟨w.heap.size, 1, none⟩ = some (.int .i64 (k : Int)) := HB.out.cellL 1 (by show some (Value.int .i64 p.crc) = _; rw [HC.out])
  by_cases hk0 : k = 0
  .
   have kka : (((k : Int)) == (0)) = true := by rw [beq_iff_eq]; omega
   have kkb : (((k : Int)) = (0)) = True := eq_true (by omega)
   have kkc : (((k : Int)) != (0)) = false := by rw [bne_eq_false_iff_eq]; omega
   have kza : decide (k = 0) = true := decide_eq_true (by omega)
   have kzb : (k = 0) = True := eq_true (by omega)
   have HK0 := hid hk0
   clear hk0
   go_upto_region 9 with fail
   have HLL : Hid (priT p k sum = listT [numT 7, numT p.fl, numT k, eidT p.d, eidT p.s, eidT p.r, listT [numT p.t, numT p.q], numT p.l, numT p.o, numT p.n]) := by unfold Hid priT priL; rw [if_pos HX.out, if_pos HK0.out]; rfl
   go_wp2_with (go_at_call 45; refine (ListV_any _ _ _ _).mono ?_; rintro x w3 ⟨rfl, hb3⟩; obtain ⟨e, rfl⟩ : ∃ e' : Later w9, w3 = e'.x := ⟨⟨w3, Mod.trans (by first | exact Later.h _ | exact (Later.h _).drew | exact (Later.h _).alloc _) hb3⟩, rfl⟩; obtain ⟨c0, c1, c2, c3, c4⟩ := cells5 (HR.out.later e); have f0 := (HR.out.later e).frozen 0; have f1 := (HR.out.later e).frozen 1; have f2 := (HR.out.later e).frozen 2; have f3 := (HR.out.later e).frozen 3; have f4 := (HR.out.later e).frozen 4)
   obtain ⟨d0, d1, d2, d3, d4⟩ := cells5 (set5_blk (t := listT [numT 7, numT p.fl, numT k, eidT p.d, eidT p.s, eidT p.r, listT [numT p.t, numT p.q], numT p.l, numT p.o, numT p.n]) (A := some ⟨g9, 0, none⟩) (c := c9) (HR.out.later e))
   clear c0 c1 c2 c3 c4 f0 f1 f2 f3 f4
   show bodyPost _ _ _ _ _ (set5 e.x (w.heap.size + 1) (listT [numT 7, numT p.fl, numT k, eidT p.d, eidT p.s, eidT p.r, listT [numT p.t, numT p.q], numT p.l, numT p.o, numT p.n]) (some ⟨g9, 0, none⟩) c9)
   refine bodyPost_ret (v := itemV (listT [numT 7, numT p.fl, numT k, eidT p.d, eidT p.s, eidT p.r, listT [numT p.t, numT p.q], numT p.l, numT p.o, numT p.n]) (some ⟨g9, 0, none⟩) c9) (by simp [results, Tryz.results149, go_sem, d0, d1, d2, d3, d4]) rfl ⟨some ⟨g9, 0, none⟩, c9, by rw [HLL.out], set5_mod (HE.out.trans e.h) (by omega), ?_⟩
   rw [HLL.out]
   refine ⟨?_, room_cap HO.out⟩
   refine IsL.weak (fun _ _ h => by have : w.heap.size + 2 <= _ := h; omega) _ (IsL.mod (Q := fun b => w.heap.size + 2 <= b) set5_modb (fun b hb _ hs => by rw [List.mem_singleton] at hs; have : w.heap.size + 2 <= b := hb; omega) _ ?_)
   exact list_IsL (base := w.heap.size + 2) (c := c9) (by have := HLG.out; have := e.h.size; omega) (by have := HGG.out; have := HW8.out; omega) (ownsRow_mod HO.out e.h (fun _ _ => by simp)) (fun i hi => IsL.weak (fun b _ h => h.1) _ ((CH.out i hi).ext e.h))
  .
   have kka : (((k : Int)) == (0)) = false := by rw [beq_eq_false_iff_ne]; omega
   have kkb : (((k : Int)) = (0)) = False := eq_false (by omega)
   have kkc : (((k : Int)) != (0)) = true := by rw [bne_iff_ne]; omega
   have kza : decide (k = 0) = false := decide_eq_false (by omega)
   have kzb : (k = 0) = False := eq_false (by omega)
   have HK0 := hid hk0
   clear hk0
   have HOE : Hid (∀ e : Later w9, e.x.ownsRow (w.heap.size + 2) 86 5 (.slice (some ⟨g9, 0, none⟩) 10 c9) 10 (flatC (chL [numT 7, numT p.fl, numT k, eidT p.d, eidT p.s, eidT p.r, listT [numT p.t, numT p.q], numT p.l, numT p.o, numT p.n]) (acL [(none, 0), (none, 0), (none, 0), (Ad, 2), (As, 2), (Ar, 2), (some ⟨g2, 0, none⟩, 2), (none, 0), (none, 0), (none, 0)]) 10)) := fun e => ownsRow_mod HO.out e.h (fun _ _ => by simp)
   obtain ⟨hi, hz0, hz1, hz2⟩ := HINF.out
   go_upto_region 9 with (first | (go_at_call 159; refine (StrV_any _ _).mono ?_; rintro x w3 ⟨rfl, hb3⟩; obtain ⟨e, rfl⟩ : ∃ e' : Later w9, w3 = e'.x := ⟨⟨w3, Mod.trans (by first | exact Later.h _ | exact (Later.h _).drew | exact (Later.h _).alloc _) hb3⟩, rfl⟩) | (at_builtin; refine wpList_append_lies _ rfl _ _ 84 (by rfl) (w.heap.size + 2) 86 i0 _ 5 64 vqG hi hz0 hz1 hz2 (by rfl) (by decide) _ 10 _ (by rfl) ((HOE.out e).alloc _) ⟨e.x.heap.size, 0, none⟩ 1 1 [.int .i64 (strT sum).kind, .int .u64 ((strT sum).n : Int), str (strT sum).s, .slice none (strT sum).k 0, .bool (strT sum).op] (by rfl) (by rfl) (World.news_of_block (heap_alloc_new _ _)) (fun u hu => by simp only [List.mem_cons, List.not_mem_nil, or_false] at hu; rcases hu with h | h | h | h | h <;> (subst h; rfl)) (by decide) (by decide) (by decide) (by have := HW8.out; have := HLT8.out; have := e.h.size; simp; omega) (e.x.heap.size + 1) (by simp) ?_; intro g' c' w' hown hgrow hat hlt))
   clear hi hz0 hz1 hz2 HOE y1
   have hm : Mod [g9] w9 w' := Mod.grown (by first | exact (Mod.of_ext e.h).alloc _ | exact ((Mod.of_ext e.h).alloc _).drew | exact ((Mod.of_ext e.h).drew).alloc _) hgrow (fun b hb => by simp [Value.ownBlock] at hb; subst hb; exact .inl (by simp))
   have HGE : Hid (g8 <= g') := by
    have h1 := HGG.out
    have h2 := HLT8.out
    have h3 := e.h.size
    rcases hat with h | h
    . simp [Value.ownBlock] at h; unfold Hid; omega
    . unfold Hid; omega
   have HO : Hid (w'.ownsRow (w.heap.size + 2) 86 5 (.slice (some ⟨g', 0, none⟩) 11 c') 11 (flatC (chL [numT 7, numT p.fl, numT k, eidT p.d, eidT p.s, eidT p.r, listT [numT p.t, numT p.q], numT p.l, numT p.o, numT p.n, strT sum]) (acL [(none, 0), (none, 0), (none, 0), (Ad, 2), (As, 2), (Ar, 2), (some ⟨g2, 0, none⟩, 2), (none, 0), (none, 0), (none, 0), (none, 0)]) 11)) := hown
   have HE : Hid (Ext w w') := (HE.out.of_ext.trans hm).new (fun b hb => .inr (by rw [List.mem_singleton] at hb; subst hb; have := HGG.out; have := HW8.out; omega))
   have HB : Hid (Blk w' w.heap.size 26 p.c) := HB.out.mod hm (by have := HGG.out; have := HW8.out; simp; omega)
   have HR : Hid (Blk w' (w.heap.size + 1) 86 (itemC (numT 0) none 0)) := HR.out.mod hm (by have := HGG.out; have := HW8.out; simp; omega)
   have CH : Hid (∀ i, i < 11 -> IsL w' (fun b => w.heap.size + 2 <= b /\ b < g8) (chL [numT 7, numT p.fl, numT k, eidT p.d, eidT p.s, eidT p.r, listT [numT p.t, numT p.q], numT p.l, numT p.o, numT p.n, strT sum] i) (acL [(none, 0), (none, 0), (none, 0), (Ad, 2), (As, 2), (Ar, 2), (some ⟨g2, 0, none⟩, 2), (none, 0), (none, 0), (none, 0), (none, 0)] i).1) := fun i hi => by
    by_cases h : i < 10
    .
     have q := IsL.mod hm (fun b hb _ hs => by rw [List.mem_singleton] at hs; subst hs; have := HGG.out; have := hb.2; omega) _ (CH.out i h)
     match i, h with
     | 0, _ => exact q
     | 1, _ => exact q
     | 2, _ => exact q
     | 3, _ => exact q
     | 4, _ => exact q
     | 5, _ => exact q
     | 6, _ => exact q
     | 7, _ => exact q
     | 8, _ => exact q
     | 9, _ => exact q
    .
     obtain ⟨j, rfl⟩ : ∃ j, i = 10 + j := ⟨i - 10, by omega⟩
     match j, hi with
     | 0, _ => exact str_IsL
     | j + 1, h => exact absurd h (by omega)
   have HLT8 : Hid (g8 < w'.heap.size) := by have := hm.size; have := HLT8.out; unfold Hid; omega
   have HLG := hid hlt
   clear hown hgrow hat hlt hm HGG
   have HGG := HGE
   clear HGE
   obtain ⟨e, he⟩ := Later.self w'
   rw [he]
   clear he
   have HLL : Hid (priT p k sum = listT [numT 7, numT p.fl, numT k, eidT p.d, eidT p.s, eidT p.r, listT [numT p.t, numT p.q], numT p.l, numT p.o, numT p.n, strT sum]) := by unfold Hid priT priL; rw [if_pos HX.out, if_neg HK0.out]; rfl
   go_wp2_with (go_at_call 45; refine (ListV_any _ _ _ _).mono ?_; rintro x w3 ⟨rfl, hb3⟩; obtain ⟨e, rfl⟩ : ∃ e' : Later w', w3 = e'.x := ⟨⟨w3, Mod.trans (by first | exact Later.h _ | exact (Later.h _).drew | exact (Later.h _).alloc _) hb3⟩, rfl⟩; obtain ⟨c0, c1, c2, c3, c4⟩ := cells5 (HR.out.later e); have f0 := (HR.out.later e).frozen 0; have f1 := (HR.out.later e).frozen 1; have f2 := (HR.out.later e).frozen 2; have f3 := (HR.out.later e).frozen 3; have f4 := (HR.out.later e).frozen 4)
   obtain ⟨d0, d1, d2, d3, d4⟩ := cells5 (set5_blk (t := listT [numT 7, numT p.fl, numT k, eidT p.d, eidT p.s, eidT p.r, listT [numT p.t, numT p.q], numT p.l, numT p.o, numT p.n, strT sum]) (A := some ⟨g', 0, none⟩) (c := c') (HR.out.later e))
   clear c0 c1 c2 c3 c4 f0 f1 f2 f3 f4
   show bodyPost _ _ _ _ _ (set5 e.x (w.heap.size + 1) (listT [numT 7, numT p.fl, numT k, eidT p.d, eidT p.s, eidT p.r, listT [numT p.t, numT p.q], numT p.l, numT p.o, numT p.n, strT sum]) (some ⟨g', 0, none⟩) c')
   refine bodyPost_ret (v := itemV (listT [numT 7, numT p.fl, numT k, eidT p.d, eidT p.s, eidT p.r, listT [numT p.t, numT p.q], numT p.l, numT p.o, numT p.n, strT sum]) (some ⟨g', 0, none⟩) c') (by simp [results, Tryz.results149, go_sem, d0, d1, d2, d3, d4]) rfl ⟨some ⟨g', 0, none⟩, c', by rw [HLL.out], set5_mod (HE.out.trans e.h) (by omega), ?_⟩
   rw [HLL.out]
   refine ⟨?_, room_cap HO.out⟩
   refine IsL.weak (fun _ _ h => by have : w.heap.size + 2 <= _ := h; omega) _ (IsL.mod (Q := fun b => w.heap.size + 2 <= b) set5_modb (fun b hb _ hs => by rw [List.mem_singleton] at hs; have : w.heap.size + 2 <= b := hb; omega) _ ?_)
   exact list_IsL (base := w.heap.size + 2) (c := c') (by have := HLG.out; have := e.h.size; omega) (by have := HGG.out; have := HW8.out; omega) (ownsRow_mod HO.out e.h (fun _ _ => by simp)) (fun i hi => IsL.weak (fun b _ h => h.1) _ ((CH.out i hi).ext e.h))
 .
  have a1 : bits .and .u64 (p.fl : Int) 1 = 0 := by have h := andP_no (k := 0) HFL.out (by omega) (by have : p.fl % 2 = 0 := (by omega); simpa using this); simpa using h
  have HX := hid hx
  clear hx
  go_upto_region 7 with fail
  have y1 : ∀ e : Later V8, e.x.cell? ⟨w.heap.size, 1, none⟩ = some (.int .i64 (k : Int)) := HB.out.cellL 1 (by show some (Value.int .i64 p.crc) = _; rw [HC.out])
  by_cases hk0 : k = 0
  .
   have kka : (((k : Int)) == (0)) = true := by rw [beq_iff_eq]; omega
   have kkb : (((k : Int)) = (0)) = True := eq_true (by omega)
   have kkc : (((k : Int)) != (0)) = false := by rw [bne_eq_false_iff_eq]; omega
   have kza : decide (k = 0) = true := decide_eq_true (by omega)
   have kzb : (k = 0) = True := eq_true (by omega)
   have HK0 := hid hk0
   clear hk0
   go_upto_region 9 with fail
   have HLL : Hid (priT p k sum = listT [numT 7, numT p.fl, numT k, eidT p.d, eidT p.s, eidT p.r, listT [numT p.t, numT p.q], numT p.l]) := by unfold Hid priT priL; rw [if_neg HX.out, if_pos HK0.out]; rfl
   go_wp2_with (go_at_call 45; refine (ListV_any _ _ _ _).mono ?_; rintro x w3 ⟨rfl, hb3⟩; obtain ⟨e, rfl⟩ : ∃ e' : Later V8, w3 = e'.x := ⟨⟨w3, Mod.trans (by first | exact Later.h _ | exact (Later.h _).drew | exact (Later.h _).alloc _) hb3⟩, rfl⟩; obtain ⟨c0, c1, c2, c3, c4⟩ := cells5 (HR.out.later e); have f0 := (HR.out.later e).frozen 0; have f1 := (HR.out.later e).frozen 1; have f2 := (HR.out.later e).frozen 2; have f3 := (HR.out.later e).frozen 3; have f4 := (HR.out.later e).frozen 4)
   obtain ⟨d0, d1, d2, d3, d4⟩ := cells5 (set5_blk (t := listT [numT 7, numT p.fl, numT k, eidT p.d, eidT p.s, eidT p.r, listT [numT p.t, numT p.q], numT p.l]) (A := some ⟨g8, 0, none⟩) (c := 8) (HR.out.later e))
   clear c0 c1 c2 c3 c4 f0 f1 f2 f3 f4
   show bodyPost _ _ _ _ _ (set5 e.x (w.heap.size + 1) (listT [numT 7, numT p.fl, numT k, eidT p.d, eidT p.s, eidT p.r, listT [numT p.t, numT p.q], numT p.l]) (some ⟨g8, 0, none⟩) 8)
   refine bodyPost_ret (v := itemV (listT [numT 7, numT p.fl, numT k, eidT p.d, eidT p.s, eidT p.r, listT [numT p.t, numT p.q], numT p.l]) (some ⟨g8, 0, none⟩) 8) (by simp [results, Tryz.results149, go_sem, d0, d1, d2, d3, d4]) rfl ⟨some ⟨g8, 0, none⟩, 8, by rw [HLL.out], set5_mod (HE.out.trans e.h) (by omega), ?_⟩
   rw [HLL.out]
   refine ⟨?_, room_cap HO.out⟩
   refine IsL.weak (fun _ _ h => by have : w.heap.size + 2 <= _ := h; omega) _ (IsL.mod (Q := fun b => w.heap.size + 2 <= b) set5_modb (fun b hb _ hs => by rw [List.mem_singleton] at hs; have : w.heap.size + 2 <= b := hb; omega) _ ?_)
   exact list_IsL (base := w.heap.size + 2) (c := 8) (by have := HLG.out; have := e.h.size; omega) (by have := HGG.out; have := HW8.out; omega) (ownsRow_mod HO.out e.h (fun _ _ => by simp)) (fun i hi => IsL.weak (fun b _ h => h.1) _ ((CH.out i hi).ext e.h))
  .
   have kka : (((k : Int)) == (0)) = false := by rw [beq_eq_false_iff_ne]; omega
   have kkb : (((k : Int)) = (0)) = False := eq_false (by omega)
   have kkc : (((k : Int)) != (0)) = true := by rw [bne_iff_ne]; omega
   have kza : decide (k = 0) = false := decide_eq_false (by omega)
   have kzb : (k = 0) = False := eq_false (by omega)
   have HK0 := hid hk0
   clear hk0
   have HOE : Hid (∀ e : Later V8, e.x.ownsRow (w.heap.size + 2) 86 5 (.slice (some ⟨g8, 0, none⟩) 8 8) 8 (flatC (chL [numT 7, numT p.fl, numT k, eidT p.d, eidT p.s, eidT p.r, listT [numT p.t, numT p.q], numT p.l]) (acL [(none, 0), (none, 0), (none, 0), (Ad, 2), (As, 2), (Ar, 2), (some ⟨g2, 0, none⟩, 2), (none, 0)]) 8)) := fun e => ownsRow_mod HO.out e.h (fun _ _ => by simp)
   obtain ⟨hi, hz0, hz1, hz2⟩ := HINF.out
   go_upto_region 9 with (first | (go_at_call 159; refine (StrV_any _ _).mono ?_; rintro x w3 ⟨rfl, hb3⟩; obtain ⟨e, rfl⟩ : ∃ e' : Later V8, w3 = e'.x := ⟨⟨w3, Mod.trans (by first | exact Later.h _ | exact (Later.h _).drew | exact (Later.h _).alloc _) hb3⟩, rfl⟩) | (at_builtin; refine wpList_append_lies _ rfl _ _ 84 (by rfl) (w.heap.size + 2) 86 i0 _ 5 64 vqG hi hz0 hz1 hz2 (by rfl) (by decide) _ 8 _ (by rfl) ((HOE.out e).alloc _) ⟨e.x.heap.size, 0, none⟩ 1 1 [.int .i64 (strT sum).kind, .int .u64 ((strT sum).n : Int), str (strT sum).s, .slice none (strT sum).k 0, .bool (strT sum).op] (by rfl) (by rfl) (World.news_of_block (heap_alloc_new _ _)) (fun u hu => by simp only [List.mem_cons, List.not_mem_nil, or_false] at hu; rcases hu with h | h | h | h | h <;> (subst h; rfl)) (by decide) (by decide) (by decide) (by have := HW8.out; have := HLT8.out; have := e.h.size; simp; omega) (e.x.heap.size + 1) (by simp) ?_; intro g' c' w' hown hgrow hat hlt))
   clear hi hz0 hz1 hz2 HOE y1
   have hm : Mod [g8] V8 w' := Mod.grown (by first | exact (Mod.of_ext e.h).alloc _ | exact ((Mod.of_ext e.h).alloc _).drew | exact ((Mod.of_ext e.h).drew).alloc _) hgrow (fun b hb => by simp [Value.ownBlock] at hb; subst hb; exact .inl (by simp))
   have HGE : Hid (g8 <= g') := by
    have h1 := HGG.out
    have h2 := HLT8.out
    have h3 := e.h.size
    rcases hat with h | h
    . simp [Value.ownBlock] at h; unfold Hid; omega
    . unfold Hid; omega
   have HO : Hid (w'.ownsRow (w.heap.size + 2) 86 5 (.slice (some ⟨g', 0, none⟩) 9 c') 9 (flatC (chL [numT 7, numT p.fl, numT k, eidT p.d, eidT p.s, eidT p.r, listT [numT p.t, numT p.q], numT p.l, strT sum]) (acL [(none, 0), (none, 0), (none, 0), (Ad, 2), (As, 2), (Ar, 2), (some ⟨g2, 0, none⟩, 2), (none, 0), (none, 0)]) 9)) := hown
   have HE : Hid (Ext w w') := (HE.out.of_ext.trans hm).new (fun b hb => .inr (by rw [List.mem_singleton] at hb; subst hb; have := HGG.out; have := HW8.out; omega))
   have HB : Hid (Blk w' w.heap.size 26 p.c) := HB.out.mod hm (by have := HGG.out; have := HW8.out; simp; omega)
   have HR : Hid (Blk w' (w.heap.size + 1) 86 (itemC (numT 0) none 0)) := HR.out.mod hm (by have := HGG.out; have := HW8.out; simp; omega)
   have CH : Hid (∀ i, i < 9 -> IsL w' (fun b => w.heap.size + 2 <= b /\ b < g8) (chL [numT 7, numT p.fl, numT k, eidT p.d, eidT p.s, eidT p.r, listT [numT p.t, numT p.q], numT p.l, strT sum] i) (acL [(none, 0), (none, 0), (none, 0), (Ad, 2), (As, 2), (Ar, 2), (some ⟨g2, 0, none⟩, 2), (none, 0), (none, 0)] i).1) := fun i hi => by
    by_cases h : i < 8
    .
     have q := IsL.mod hm (fun b hb _ hs => by rw [List.mem_singleton] at hs; subst hs; have := HGG.out; have := hb.2; omega) _ (CH.out i h)
     match i, h with
     | 0, _ => exact q
     | 1, _ => exact q
     | 2, _ => exact q
     | 3, _ => exact q
     | 4, _ => exact q
     | 5, _ => exact q
     | 6, _ => exact q
     | 7, _ => exact q
    .
     obtain ⟨j, rfl⟩ : ∃ j, i = 8 + j := ⟨i - 8, by omega⟩
     match j, hi with
     | 0, _ => exact str_IsL
     | j + 1, h => exact absurd h (by omega)
   have HLT8 : Hid (g8 < w'.heap.size) := by have := hm.size; have := HLT8.out; unfold Hid; omega
   have HLG := hid hlt
   clear hown hgrow hat hlt hm HGG
   have HGG := HGE
   clear HGE
   obtain ⟨e, he⟩ := Later.self w'
   rw [he]
   clear he
   have HLL : Hid (priT p k sum = listT [numT 7, numT p.fl, numT k, eidT p.d, eidT p.s, eidT p.r, listT [numT p.t, numT p.q], numT p.l, strT sum]) := by unfold Hid priT priL; rw [if_neg HX.out, if_neg HK0.out]; rfl
   go_wp2_with (go_at_call 45; refine (ListV_any _ _ _ _).mono ?_; rintro x w3 ⟨rfl, hb3⟩; obtain ⟨e, rfl⟩ : ∃ e' : Later w', w3 = e'.x := ⟨⟨w3, Mod.trans (by first | exact Later.h _ | exact (Later.h _).drew | exact (Later.h _).alloc _) hb3⟩, rfl⟩; obtain ⟨c0, c1, c2, c3, c4⟩ := cells5 (HR.out.later e); have f0 := (HR.out.later e).frozen 0; have f1 := (HR.out.later e).frozen 1; have f2 := (HR.out.later e).frozen 2; have f3 := (HR.out.later e).frozen 3; have f4 := (HR.out.later e).frozen 4)
   obtain ⟨d0, d1, d2, d3, d4⟩ := cells5 (set5_blk (t := listT [numT 7, numT p.fl, numT k, eidT p.d, eidT p.s, eidT p.r, listT [numT p.t, numT p.q], numT p.l, strT sum]) (A := some ⟨g', 0, none⟩) (c := c') (HR.out.later e))
   clear c0 c1 c2 c3 c4 f0 f1 f2 f3 f4
   show bodyPost _ _ _ _ _ (set5 e.x (w.heap.size + 1) (listT [numT 7, numT p.fl, numT k, eidT p.d, eidT p.s, eidT p.r, listT [numT p.t, numT p.q], numT p.l, strT sum]) (some ⟨g', 0, none⟩) c')
   refine bodyPost_ret (v := itemV (listT [numT 7, numT p.fl, numT k, eidT p.d, eidT p.s, eidT p.r, listT [numT p.t, numT p.q], numT p.l, strT sum]) (some ⟨g', 0, none⟩) c') (by simp [results, Tryz.results149, go_sem, d0, d1, d2, d3, d4]) rfl ⟨some ⟨g', 0, none⟩, c', by rw [HLL.out], set5_mod (HE.out.trans e.h) (by omega), ?_⟩
   rw [HLL.out]
   refine ⟨?_, room_cap HO.out⟩
   refine IsL.weak (fun _ _ h => by have : w.heap.size + 2 <= _ := h; omega) _ (IsL.mod (Q := fun b => w.heap.size + 2 <= b) set5_modb (fun b hb _ hs => by rw [List.mem_singleton] at hs; have : w.heap.size + 2 <= b := hb; omega) _ ?_)
   exact list_IsL (base := w.heap.size + 2) (c := c') (by have := HLG.out; have := e.h.size; omega) (by have := HGG.out; have := HW8.out; omega) (ownsRow_mod HO.out e.h (fun _ _ => by simp)) (fun i hi => IsL.weak (fun b _ h => h.1) _ ((CH.out i hi).ext e.h))
theorem chL_app {L : List T} {t : T} {i : Nat} (h : i < L.length) : chL (L ++ [t]) i = chL L i := by unfold chL; rw [List.getElem?_append_left h]
theorem chL_last (L : List T) (t : T) : chL (L ++ [t]) L.length = t := by unfold chL; simp
theorem listT_app (L : List T) (t : T) : listT (L ++ [t]) = T.mk 4 0 [] false (L.length + 1) (chL (L ++ [t])) := by
 unfold listT chL
 rw [List.length_append]; rfl
theorem last_ext (L : List T) (s t : T) : listT (L ++ [t]) = T.mk 4 0 [] false (L.length + 1) (fun i => if i = L.length then t else chL (L ++ [s]) i) := by
 rw [listT_app]
 congr 1
 funext i
 by_cases h : i = L.length
 . rw [if_pos h, h, chL_last]
 .
  rw [if_neg h]
  by_cases h2 : i < L.length
  . rw [chL_app h2, chL_app h2]
  .
   unfold chL
   rw [List.getElem?_eq_none (by simp; omega), List.getElem?_eq_none (by simp; omega)]
set_option maxRecDepth 20000 in
theorem psummed_0 (t : T) (A : Option Addr) (c : Nat) (w : World) : Calls Tryz.prog 148 #[.int .i64 0, itemV t A c] w (Ret (itemV t A c) w) := by
 have HB := hid (Blk.new w 86 (itemC t A c))
 go_enter Tryz.func148, Tryz.ntmps148
 go_wp2_with fail
 refine bodyPost_ret (v := itemV t A c) (by simp [results, Tryz.results148, go_sem]) rfl (Ret.mk rfl (((Mod.refl _ _).alloc _).alloc _))
set_option maxRecDepth 20000 in
set_option maxHeartbeats 1600000 in
theorem psummed_cap (L : List T) (Z : List UInt8) (kind : Nat) (k1 : 1 <= kind) (k2 : kind <= 2) (hn : L.length <= 20) (hok : (listT (L ++ [strT Z])).ok) (hsz : (listT (L ++ [strT Z])).size <= 100000) (hr : (listT (L ++ [strT Z])).right 8 = true) (hbl : (listT (L ++ [strT Z])).bytes.length < 1000000) (N : Nat) (A : Option Addr) (c : Nat) (w : World) (hN : N <= w.heap.size) (h : IsL w (fun b => N <= b) (listT (L ++ [strT Z])) A) :
  Calls Tryz.prog 148 #[.int .i64 (kind : Int), itemV (listT (L ++ [strT Z])) A c] w (fun e w' => ∃ A c, e = .returned (itemV (listT (L ++ [strT (Crc.sumL kind (listT (L ++ [strT Z])).bytes)])) A c) /\ Ext w w' /\ IsL w' (fun b => N <= b) (listT (L ++ [strT (Crc.sumL kind (listT (L ++ [strT Z])).bytes)])) A /\ (listT (L ++ [strT (Crc.sumL kind (listT (L ++ [strT Z])).bytes)])).k <= c) := by
 have e1 : ((kind : Int) = 0) = False := by simp; omega
 have e2 : ((kind : Int) == 0) = false := by simp; omega
 have HI : Hid (IsL w (fun b => N <= b /\ b < w.heap.size) (listT (L ++ [strT Z])) A) := IsL.weak (fun k hk hq => ⟨hq, hk⟩) _ h
 have KB : Hid (∀ A c W, IsL W (fun _ => True) (listT (L ++ [strT Z])) A -> Calls Tryz.prog 70 #[itemV (listT (L ++ [strT Z])) A c] W (Ret (.tuple #[str (listT (L ++ [strT Z])).bytes, .int .i64 0]) W)) := fun A c W hW => by
  have := iBuild_any _ hok hsz A c W hW
  unfold buildV at this
  rwa [if_pos hr] at this
 have KS := hid (fun W => Sum_any kind k1 k2 (listT (L ++ [strT Z])).bytes hbl W)
 have HU := hid (last_ext L (strT Z) (strT (Crc.sumL kind (listT (L ++ [strT Z])).bytes)))
 rw [listT_app L (strT Z)] at KB KS HU HI ⊢
 have hK := CloneI_any (Q := fun b => N <= b /\ b < w.heap.size) (kind := 4) (n := 0) (s := []) (op := false) (chL (L ++ [strT Z])) (L.length + 1) (by unfold Hid; omega) A c
 have KC := hid hK
 clear hK h hok hsz hr hbl
 generalize (T.mk 4 0 [] false (L.length + 1) (chL (L ++ [strT Z]))).bytes = B at *
 generalize listT (L ++ [strT (Crc.sumL kind B)]) = U at *
 generalize Crc.sumL kind B = S at *
 generalize chL (L ++ [strT Z]) = ch at *
 obtain ⟨n, hnn⟩ : ∃ n, n = L.length := ⟨_, rfl⟩
 rw [<- hnn] at HI KB HU KC hn ⊢
 clear hnn
 have n0 : (0 : Int) <= (n : Int) := by omega
 have n1 : (n : Int) <= 20 := by omega
 have HN1 := hid hn
 have HNW := hid hN
 clear hn hN k1 k2
 have HE := hid (((Mod.refl [] w).alloc (.cells (itemC (T.mk 4 0 [] false (n + 1) ch) A c) 86)).alloc (.cells #[.int .i64 0, .int .u64 0, .string ⟨#[]⟩, .slice none 0 0, .bool false] 86))
 have HX := hid ((Blk.new w 86 (itemC (T.mk 4 0 [] false (n + 1) ch) A c)).alloc (.cells #[.int .i64 0, .int .u64 0, .string ⟨#[]⟩, .slice none 0 0, .bool false] 86))
 have HR : Hid (Blk ((w.alloc (.cells (itemC (T.mk 4 0 [] false (n + 1) ch) A c) 86)).alloc (.cells #[.int .i64 0, .int .u64 0, .string ⟨#[]⟩, .slice none 0 0, .bool false] 86)) (w.heap.size + 1) 86 (itemC (numT 0) none 0)) := Blk.newL _ _ _ (by simp)
 go_enter Tryz.func148, Tryz.ntmps148
 go_upto_region 3 with fail
 generalize hV : World.alloc _ _ = V
 rw [hV] at HE HX HR
 clear hV
 have HIV : Hid (∀ e : Later V, IsL e.x (fun b => N <= b /\ b < w.heap.size) (T.mk 4 0 [] false (n + 1) ch) A) := fun e => HI.out.ext (HE.out.trans e.h)
 have q0 : ∀ e : Later V, e.x.cell? ⟨w.heap.size, 0, none⟩ = some (.int .i64 4) := HX.out.cellL 0 rfl
 have q1 : ∀ e : Later V, e.x.cell? ⟨w.heap.size, 1, none⟩ = some (.int .u64 0) := HX.out.cellL 1 rfl
 have q2 : ∀ e : Later V, e.x.cell? ⟨w.heap.size, 2, none⟩ = some (str []) := HX.out.cellL 2 rfl
 have q3 : ∀ e : Later V, e.x.cell? ⟨w.heap.size, 3, none⟩ = some (.slice A (n + 1) c) := HX.out.cellL 3 rfl
 have q4 : ∀ e : Later V, e.x.cell? ⟨w.heap.size, 4, none⟩ = some (.bool false) := HX.out.cellL 4 rfl
 obtain ⟨e, he⟩ := Later.self V
 rw [he]
 clear he
 have HVS : Hid (w.heap.size + 2 <= V.heap.size) := Nat.succ_le_of_lt HR.out.lt
 go_upto_region 5 with (first | (go_at_call 70; refine (Ret.later (KB.out _ _ _ (IsL.weak (fun _ _ _ => trivial) _ (HIV.out _)))).mono ?_; rintro x _ ⟨rfl, e, rfl⟩) | (go_at_call 158; refine (KC.out _ (HIV.out _)).mono ?_; rintro x w1 ⟨g, c', ac, rfl, hb1, hg1, hlt1, hown1, hk1⟩))
 have HO1 := hid hown1
 have HK1 := hid hk1
 have HG : Hid (w.heap.size + 2 <= g) := by have := HVS.out; have := e.h.size; unfold Hid; omega
 have HE1 := hid (HE.out.trans (e.h.trans hb1))
 have HR1 := hid (HR.out.ext (e.h.trans hb1))
 have HL1 := hid hlt1
 clear hb1 hg1 hlt1 hown1 hk1 HE HR HI q0 q1 q2 q3 q4 HIV HX HVS
 obtain ⟨x0, x1, x2, x3, x4⟩ := flatC_get ch ac (n + 1) n (by omega)
 have y0 : ∀ e : Later w1, e.x.cell? ⟨g, n * 5, none⟩ = _ := cellL (own_cells HO1.out x0)
 have y1 : ∀ e : Later w1, e.x.cell? ⟨g, n * 5 + 1, none⟩ = _ := cellL (own_cells HO1.out x1)
 have y2 : ∀ e : Later w1, e.x.cell? ⟨g, n * 5 + 2, none⟩ = _ := cellL (own_cells HO1.out x2)
 have y3 : ∀ e : Later w1, e.x.cell? ⟨g, n * 5 + 3, none⟩ = _ := cellL (own_cells HO1.out x3)
 have y4 : ∀ e : Later w1, e.x.cell? ⟨g, n * 5 + 4, none⟩ = _ := cellL (own_cells HO1.out x4)
 have HOE : Hid (∀ e : Later w1, e.x.ownsRow _ 86 5 (.slice (some ⟨g, 0, none⟩) (n + 1) c') (n + 1) (flatC ch ac (n + 1))) := fun e => ownsRow_mod HO1.out e.h (fun _ _ => by simp)
 have z : ∀ (e : Later w1) (j : Nat), e.x.frozen? ⟨g, j, none⟩ = false := fun e j => (HOE.out e).frozenAt j
 clear x0 x1 x2 x3 x4
 obtain ⟨e, he⟩ := Later.self w1
 rw [he]
 clear he
 go_upto_region 6 with (first | (go_at_call 160; refine (Ret.later (KS.out _)).mono ?_; rintro x _ ⟨rfl, e, rfl⟩) | (go_at_call 159; refine (Ret.later (StrV_any _ _)).mono ?_; rintro x _ ⟨rfl, e, rfl⟩))
 generalize hW : World.setCell _ _ _ = W2
 have HO2 : Hid (W2.ownsRow _ 86 5 (.slice (some ⟨g, 0, none⟩) (n + 1) c') (n + 1) (flatC (fun i => if i = n then strT S else ch i) (fun i => if i = n then ((none : Option Addr), 0) else ac i) (n + 1))) := hid (by rw [<- hW]; exact own_last (n := n) (strT S) none 0 (HOE.out e))
 have HM : Hid (Mod [g] e.x W2) := hid (by rw [<- hW]; exact (((((Mod.refl [g] e.x).setCell (.inl (by simp)) _).setCell (.inl (by simp)) _).setCell (.inl (by simp)) _).setCell (.inl (by simp)) _).setCell (.inl (by simp)) _)
 clear hW y0 y1 y2 y3 y4 z
 have HE2 : Hid (Ext w W2) := (((HE1.out.trans e.h).of_ext).trans HM.out).new (fun b hb => .inr (by rw [List.mem_singleton] at hb; subst hb; have := HG.out; omega))
 have HR2 : Hid (Blk W2 (w.heap.size + 1) 86 (itemC (numT 0) none 0)) := (HR1.out.later e).mod HM.out (by have := HG.out; simp; omega)
 have HK2 : Hid (∀ i, i < n + 1 -> IsL W2 (fun b => N <= b /\ b < w.heap.size) ((fun i => if i = n then strT S else ch i) i) ((fun i => if i = n then ((none : Option Addr), 0) else ac i) i).1) := fun i hi => by
  by_cases h : i = n
  . subst h; simp only [if_true]; exact str_IsL
  .
   simp only [if_neg h]
   exact (IsL.mod HM.out (fun b hb _ hs => by rw [List.mem_singleton] at hs; subst hs; have := hb.2; have := HG.out; omega) _ ((HK1.out i hi).ext e.h))
 have HL2 : Hid (g < W2.heap.size) := by have := HL1.out; have := e.h.size; have := HM.out.size; unfold Hid; omega
 obtain ⟨e, he⟩ := Later.self W2
 rw [he]
 clear he
 go_wp2_with (go_at_call 45; refine (Ret.later (ListV_any _ _ _ _)).mono ?_; rintro x _ ⟨rfl, e, rfl⟩; obtain ⟨c0, c1, c2, c3, c4⟩ := cells5 (HR2.out.later e); have f0 := (HR2.out.later e).frozen 0; have f1 := (HR2.out.later e).frozen 1; have f2 := (HR2.out.later e).frozen 2; have f3 := (HR2.out.later e).frozen 3; have f4 := (HR2.out.later e).frozen 4)
 obtain ⟨d0, d1, d2, d3, d4⟩ := cells5 (set5_blk (t := T.mk 4 0 [] false (n + 1) (fun i => if i = n then strT S else ch i)) (A := some ⟨g, 0, none⟩) (c := c') (HR2.out.later e))
 clear c0 c1 c2 c3 c4 f0 f1 f2 f3 f4
 show bodyPost _ _ _ _ _ (set5 e.x (w.heap.size + 1) (T.mk 4 0 [] false (n + 1) (fun i => if i = n then strT S else ch i)) (some ⟨g, 0, none⟩) c')
 refine bodyPost_ret (v := itemV (T.mk 4 0 [] false (n + 1) (fun i => if i = n then strT S else ch i)) (some ⟨g, 0, none⟩) c') (by simp [results, Tryz.results148, go_sem, d0, d1, d2, d3, d4]) rfl ⟨some ⟨g, 0, none⟩, c', by rw [HU.out], set5_mod (HE2.out.trans e.h) (by omega), ?_⟩
 rw [HU.out]
 refine ⟨?_, room_cap HO2.out⟩
 refine IsL.weak (fun _ _ h => h.1) _ (IsL.mod (Q := fun b => N <= b /\ b ≠ w.heap.size + 1) set5_modb (fun b hb _ hs => by rw [List.mem_singleton] at hs; exact hb.2 hs) _ ?_)
 refine own_IsL (by have := HL2.out; have := e.h.size; omega) (by have := HG.out; have := HNW.out; exact ⟨by omega, by omega⟩) (ownsRow_mod HO2.out e.h (fun _ _ => by simp)) (fun i hi => IsL.weak (fun b _ hb => ⟨hb.1, by have := hb.2; omega⟩) _ ((HK2.out i hi).ext e.h))
theorem priL_last (p : PV) {k : Nat} (hk : k ≠ 0) (s : List UInt8) : priL p k s = ([numT 7, numT p.fl, numT k, eidT p.d, eidT p.s, eidT p.r, listT [numT p.t, numT p.q], numT p.l] ++ (if p.fl % 2 = 1 then [numT p.o, numT p.n] else [])) ++ [strT s] := by
 unfold priL; rw [if_neg hk, List.append_assoc]
def priSum (p : PV) (k : Nat) : List UInt8 := if k = 0 then [] else Crc.sumL k (priB p k (List.replicate (2 * k) 0))
def PV.bytes (p : PV) : List UInt8 := priB p p.crc.toNat (priSum p p.crc.toNat)
def PV.tree (p : PV) : T := priT p p.crc.toNat (priSum p p.crc.toNat)
theorem priSum_length (p : PV) {k : Nat} (hk : k <= 2) : (priSum p k).length = 2 * k := by
 unfold priSum
 by_cases h : k = 0
 . rw [if_pos h, h]; rfl
 . rw [if_neg h]; exact Crc.sumL_length (by omega) hk _
theorem PV.tree_all {p : PV} (h : p.ranged = true) : p.tree.ok /\ (∀ d, 4 <= d -> p.tree.right d = true) /\ p.tree.size <= 4000 /\ p.tree.bytes = p.bytes := by
 have hr := PV.ranged_spec h
 have hk : p.crc.toNat <= 2 := by omega
 obtain ⟨a, b, c⟩ := priT_all h hk (sum := priSum p p.crc.toNat) (by rw [priSum_length p hk]; omega)
 exact ⟨a, b, c, priT_bytes _ _ _⟩
theorem PV.bytes_length {p : PV} (h : p.ranged = true) : p.bytes.length <= 40000 := by
 obtain ⟨_, _, c, d⟩ := PV.tree_all h
 rw [<- d]
 have := T.bytes_le p.tree
 omega
theorem psum_cap (p : PV) (h : p.ranged = true) (k : Nat) (hc : p.crc = (k : Int)) (N : Nat) (A : Option Addr) (c : Nat) (w : World) (hN : N <= w.heap.size) (hl : IsL w (fun b => N <= b) (priT p k (List.replicate (2 * k) 0)) A) (hkc : (priT p k (List.replicate (2 * k) 0)).k <= c) :
  Calls Tryz.prog 148 #[.int .i64 (k : Int), itemV (priT p k (List.replicate (2 * k) 0)) A c] w (fun e w' => ∃ A c, e = .returned (itemV p.tree A c) /\ Ext w w' /\ IsL w' (fun b => N <= b) p.tree A /\ p.tree.k <= c) := by
 have hr := PV.ranged_spec h
 have hk : k <= 2 := by omega
 have ht : p.crc.toNat = k := by omega
 unfold PV.tree
 rw [ht]
 by_cases h0 : k = 0
 .
  subst h0
  have e : priT p 0 (priSum p 0) = priT p 0 (List.replicate (2 * 0) 0) := rfl
  rw [e]
  exact (psummed_0 _ A c w).mono fun x w' ⟨hx, hm⟩ => ⟨A, c, hx, hm, hl.ext hm, hkc⟩
 .
  obtain ⟨a, b, cc⟩ := priT_all h hk (sum := List.replicate (2 * k) 0) (by simp; omega)
  have hb : (priT p k (List.replicate (2 * k) 0)).bytes.length < 1000000 := by have := T.bytes_le (priT p k (List.replicate (2 * k) 0)); omega
  have hb2 : (priT p k (List.replicate (2 * k) 0)).bytes = priB p k (List.replicate (2 * k) 0) := priT_bytes _ _ _
  have hs : priSum p k = Crc.sumL k (priB p k (List.replicate (2 * k) 0)) := by unfold priSum; rw [if_neg h0]
  rw [hs, <- hb2]
  clear hkc
  unfold priT at a b cc hb hl ⊢
  rw [priL_last p h0] at a b cc hb hl ⊢
  rw [priL_last p h0 (Crc.sumL _ _)]
  refine psummed_cap _ _ k (by omega) hk ?_ a (by omega) (b 8 (by omega)) hb N A c w hN hl
  split <;> simp
set_option maxRecDepth 20000 in
set_option maxHeartbeats 800000 in
theorem cPriItem_cap (p : PV) (hnl : Hid (p.d.name.length < 4611686018427387904 /\ p.s.name.length < 4611686018427387904 /\ p.r.name.length < 4611686018427387904)) (hf : p.fl < 18446744073709551616) (hb : p.right = 0) (w : World) : Calls Tryz.prog 136 #[.agg p.c] w (fun e w' => ∃ A c, e = .returned (.tuple #[itemV p.tree A c, .int .i64 0]) /\ Ext w w' /\ IsL w' (fun b => w.heap.size <= b) p.tree A /\ p.tree.k <= c) := by
 have KR := hid (fun W => cPriRight_any p hnl hf W)
 have hr := PV.right_ranged hb
 have hrs := PV.ranged_spec hr
 rw [hb] at KR
 obtain ⟨k, hc⟩ := Int.eq_ofNat_of_zero_le hrs.2.2.2.1
 have hk : k <= 2 := by omega
 have KP := hid (fun W => parts_cap p k hc hk hr (List.replicate (2 * k) 0) W)
 have KZ : Hid (∀ W, Calls Tryz.prog 151 #[.int .i64 p.crc] W (Ret (.int .i64 (2 * (k : Int))) W)) := fun W => by rw [hc]; have := Size_any k hk W; simpa using this
 have KT : Hid (∀ W, Calls Tryz.prog 150 #[.string ⟨#[0]⟩, .int .i64 (2 * (k : Int))] W (Ret (str (List.replicate (2 * k) 0)) W)) := fun W => by have := Repeat_zero (2 * k) (by omega) W; simpa using this
 have KS : Hid (∀ N A c W, N <= W.heap.size -> IsL W (fun b => N <= b) (priT p k (List.replicate (2 * k) 0)) A -> (priT p k (List.replicate (2 * k) 0)).k <= c -> Calls Tryz.prog 148 #[.int .i64 p.crc, itemV (priT p k (List.replicate (2 * k) 0)) A c] W (fun e w' => ∃ A c, e = .returned (itemV p.tree A c) /\ Ext W w' /\ IsL w' (fun b => N <= b) p.tree A /\ p.tree.k <= c)) := fun N A c W h1 h2 h3 => by rw [hc]; exact psum_cap p hr k hc N A c W h1 h2 h3
 generalize List.replicate (2 * k) (0 : UInt8) = Z at *
 generalize priT p k Z = Y at *
 have k0 : (0 : Int) <= (k : Int) := by omega
 have k1 : (k : Int) <= 2 := by omega
 have HC := hid hc
 have HE := hid (((Mod.refl [] w).alloc (.cells p.c 26)).alloc (.cells #[.int .i64 0, .int .u64 0, .string ⟨#[]⟩, .slice none 0 0, .bool false] 86))
 have HB := hid ((Blk.new w 26 p.c).alloc (.cells #[.int .i64 0, .int .u64 0, .string ⟨#[]⟩, .slice none 0 0, .bool false] 86))
 have HR : Hid (Blk ((w.alloc (.cells p.c 26)).alloc (.cells #[.int .i64 0, .int .u64 0, .string ⟨#[]⟩, .slice none 0 0, .bool false] 86)) (w.heap.size + 1) 86 (itemC (numT 0) none 0)) := Blk.newL _ _ _ (by simp)
 clear hf hb hr hrs hc hk
 go_enter Tryz.func136, Tryz.ntmps136
 go_upto_region 1 with fail
 generalize (w.alloc (.cells p.c 26)).alloc (.cells #[.int .i64 0, .int .u64 0, .string ⟨#[]⟩, .slice none 0 0, .bool false] 86) = V at *
 have HBL : Hid (∀ e : Later V, Blk e.x w.heap.size 26 p.c) := fun e => HB.out.later e
 have HVS : Hid (w.heap.size + 2 <= V.heap.size) := Nat.succ_le_of_lt HR.out.lt
 obtain ⟨e, he⟩ := Later.self V
 rw [he]
 clear he
 go_upto_region 4 with (first | (refine wpList_row (by rfl) 26 _ rfl _ rfl (HBL.out _) vqC rfl (by kernel_rfl) ?_) | (go_at_call 108; refine (Ret.later (KR.out _)).mono ?_; rintro x _ ⟨rfl, e, rfl⟩))
 have HS : Hid (∀ W, Mod [w.heap.size + 1] V W -> W.cell? ⟨w.heap.size, 1, none⟩ = some (.int .i64 p.crc)) := fun W hW => (HB.out.mod hW (by simp)).cell 1
 have HRow : Hid (∀ W, Mod [w.heap.size + 1] V W -> Blk W w.heap.size 26 p.c) := fun W hW => HB.out.mod hW (by simp)
 have g2 : max ((2 : Int) * (k : Int)) 0 = (2 * k : Int) := by omega
 refine wp_region_held_drew (S := fun w' => Mod [w.heap.size + 1] V w' /\ ∃ t A c, Blk w' (w.heap.size + 1) 86 (itemC t A c)) (by kernel_rfl) ⟨((Later.h e).of_ext).drew, _, _, _, (HR.out.later e).drew⟩ (fun hHeld => ?_)
 refine' wpAnyH_take (i := 0) (v := _) rfl (by kernel_rfl) (by kernel_rfl) (by kernel_rfl) (fun _ _ _ h => h) (Or.inl ⟨by rfl, ?hy⟩) hHeld ?rest
 case hy => (rintro W ⟨hM, _⟩; go_simp; (try with_reducible rfl))
 case rest =>
 (try simp only [Act.put, sTl, s0l, sSl])
 refine' wpAnyH_take (i := 1) (v := _) rfl (by kernel_rfl) (by kernel_rfl) (by kernel_rfl) (fun _ _ _ h => h) (Or.inl ⟨by rfl, ?hy⟩) hHeld ?rest
 case hy => (rintro W ⟨hM, _⟩; have x1 := HS.out W hM; go_simp; (try with_reducible rfl))
 case rest =>
 (try simp only [Act.put, sTl, s0l, sSl])
 refine wpAnyH_take (i := 2) rfl (by kernel_rfl) (by kernel_rfl) (by kernel_rfl) (fun _ _ _ h => h) (yieldsIf_row (by rfl) 26 _ rfl _ rfl (fun W h => HRow.out W h.1) vqC rfl (by kernel_rfl)) hHeld ?_
 (try simp only [Act.put, sTl, s0l, sSl])
 refine' wpAnyH_take (i := 3) (v := _) rfl (by kernel_rfl) (by kernel_rfl) (by kernel_rfl) (fun _ _ _ h => h) (Or.inl ⟨by rfl, ?hy⟩) hHeld ?rest
 case hy => (rintro W ⟨hM, _⟩; go_simp; (try with_reducible rfl))
 case rest =>
 (try simp only [Act.put, sTl, s0l, sSl])
 refine' wpAnyH_take (i := 4) (v := _) rfl (by kernel_rfl) (by kernel_rfl) (by kernel_rfl) (fun _ _ _ h => h) (Or.inl ⟨by rfl, ?hy⟩) hHeld ?rest
 case hy => (rintro W ⟨hM, _⟩; have x1 := HS.out W hM; go_simp; (try with_reducible rfl))
 case rest =>
 (try simp only [Act.put, sTl, s0l, sSl])
 refine wpAnyH_ready (rs := [5]) (by kernel_rfl) (by simp) ?_
 refine AllReadyH.cons rfl (fun K hK => ?_) AllReadyH.nil
 go_simp
 (go_at_call 151; refine (KZ.out _).mono ?_; rintro x w1 ⟨rfl, hb3⟩)
 refine hK.out _ _ ⟨hHeld.1.trans (Mod.of_ext hb3), let ⟨t, A, c, hb⟩ := hHeld.2; ⟨t, A, c, hb.ext hb3⟩⟩ (fun hHeld => ?_)
 clear hK K
 (try simp only [Act.put, sTl, s0l, sSl])
 refine' wpAnyH_take (i := 6) (v := _) rfl (by kernel_rfl) (by kernel_rfl) (by kernel_rfl) (fun _ _ _ h => h) (Or.inl ⟨by rfl, ?hy⟩) hHeld ?rest
 case hy => (rintro W ⟨hM, _⟩; go_simp; (try with_reducible rfl))
 case rest =>
 (try simp only [Act.put, sTl, s0l, sSl])
 refine wpAnyH_ready (rs := [7]) (by kernel_rfl) (by simp) ?_
 refine AllReadyH.cons rfl (fun K hK => ?_) AllReadyH.nil
 go_simp
 (go_at_call 150; refine (KT.out _).mono ?_; rintro x w2 ⟨rfl, hb3⟩)
 refine hK.out _ _ ⟨hHeld.1.trans (Mod.of_ext hb3), let ⟨t, A, c, hb⟩ := hHeld.2; ⟨t, A, c, hb.ext hb3⟩⟩ (fun hHeld => ?_)
 clear hK K
 (try simp only [Act.put, sTl, s0l, sSl])
 refine wpAnyH_ready (rs := [8]) (by kernel_rfl) (by simp) ?_
 refine AllReadyH.cons rfl (fun K hK => ?_) AllReadyH.nil
 go_simp
 (go_at_call 149; refine (KP.out _).mono ?_; rintro x w3 ⟨A, c, rfl, hb3, hl3, hc3⟩; have HL3 := hid hl3; have HC3 := hid hc3; clear hc3; have HN3 : Hid (w.heap.size + 2 <= w2.heap.size) := Nat.le_trans HVS.out hHeld.1.size)
 refine hK.out _ _ ⟨hHeld.1.trans (Mod.of_ext hb3), let ⟨t, A, c, hb⟩ := hHeld.2; ⟨t, A, c, hb.ext hb3⟩⟩ (fun hHeld => ?_)
 clear hK K
 (try simp only [Act.put, sTl, s0l, sSl])
 refine wpAnyH_ready (rs := [9]) (by kernel_rfl) (by simp) ?_
 refine AllReadyH.cons rfl (fun K hK => ?_) AllReadyH.nil
 go_simp
 (go_at_call 148; refine (KS.out (w.heap.size + 2) _ _ _ (Nat.le_trans HN3.out hb3.size) (IsL.weak (fun b _ hb => Nat.le_trans HN3.out hb) _ HL3.out) HC3.out).mono ?_; rintro x w4 ⟨A2, c2, rfl, hb4, hl4, hc4⟩; have HL4 := hid hl4; have HC4 := hid hc4; clear hc4)
 refine hK.out _ _ ⟨hHeld.1.trans (Mod.of_ext hb4), let ⟨t, A, c, hb⟩ := hHeld.2; ⟨t, A, c, hb.ext hb4⟩⟩ (fun hHeld => ?_)
 clear hK K
 (try simp only [Act.put, sTl, s0l, sSl])
 refine wpAnyH_ready (rs := [10]) (by kernel_rfl) (by simp) ?_
 refine AllReadyH.cons rfl (fun K hK => ?_) AllReadyH.nil
 obtain ⟨t0, A0, c0, hb0⟩ := hHeld.2
 obtain ⟨q0, q1, q2, q3, q4⟩ := cells5 hb0
 have f0 := hb0.frozen 0
 have f1 := hb0.frozen 1
 have f2 := hb0.frozen 2
 have f3 := hb0.frozen 3
 have f4 := hb0.frozen 4
 go_simp
 refine hK.out _ _ ⟨set5_modR hHeld.1, p.tree, A2, c2, set5_blk hb0⟩ (fun hHeld => ?_)
 clear hK K
 (try simp only [Act.put, sTl, s0l, sSl])
 refine wpAnyH_ready (rs := [11]) (by kernel_rfl) (by simp) ?_
 refine AllReadyH.cons rfl (fun K hK => ?_) AllReadyH.nil
 go_simp
 refine hK.out _ _ hHeld (fun hHeld => ?_)
 clear hK K
 (try simp only [Act.put, sTl, s0l, sSl])
 refine wpAnyH_done (by kernel_rfl) ?_ _
 go_wp2_with fail
 obtain ⟨d0, d1, d2, d3, d4⟩ := cells5 (set5_blk (t := p.tree) (A := A2) (c := c2) hb0)
 clear q0 q1 q2 q3 q4 f0 f1 f2 f3 f4
 show bodyPost _ _ _ _ _ (set5 w4 (w.heap.size + 1) p.tree A2 c2)
 refine bodyPost_ret (v := .tuple #[itemV p.tree A2 c2, .int .i64 0]) (by simp [results, Tryz.results136, go_sem, d0, d1, d2, d3, d4]) rfl ⟨A2, c2, rfl, (HE.out.of_ext.trans hHeld.1).new (fun b hb => .inr (by rw [List.mem_singleton] at hb; omega)), ?_, HC4.out⟩
 exact IsL.weak (fun _ _ h => by have : w.heap.size + 2 <= _ := h; omega) _ (IsL.mod (Q := fun b => w.heap.size + 2 <= b) set5_modb (fun b hb _ hs => by rw [List.mem_singleton] at hs; have : w.heap.size + 2 <= b := hb; omega) _ HL4.out)
theorem cPriItem_ok (p : PV) (hnl : Hid (p.d.name.length < 4611686018427387904 /\ p.s.name.length < 4611686018427387904 /\ p.r.name.length < 4611686018427387904)) (hf : p.fl < 18446744073709551616) (hb : p.right = 0) (w : World) : Calls Tryz.prog 136 #[.agg p.c] w (fun e w' => ∃ A c, e = .returned (.tuple #[itemV p.tree A c, .int .i64 0]) /\ Ext w w' /\ IsL w' (fun b => w.heap.size <= b) p.tree A) := (cPriItem_cap p hnl hf hb w).mono fun _ _ ⟨A, c, h1, h2, h3, _⟩ => ⟨A, c, h1, h2, h3⟩
set_option maxRecDepth 20000 in
theorem cPriBuild_ok (p : PV) (hnl : Hid (p.d.name.length < 4611686018427387904 /\ p.s.name.length < 4611686018427387904 /\ p.r.name.length < 4611686018427387904)) (hf : p.fl < 18446744073709551616) (hb : p.right = 0) (w : World) : Calls Tryz.prog 113 #[.agg p.c] w (Ret (.tuple #[str p.bytes, .int .i64 0]) w) := by
 have KI := hid (fun W => cPriItem_ok p hnl hf hb W)
 obtain ⟨t1, t2, t3, t4⟩ := PV.tree_all (PV.right_ranged hb)
 have KB : Hid (∀ A c W, IsL W (fun _ => True) p.tree A -> Calls Tryz.prog 70 #[itemV p.tree A c] W (Ret (.tuple #[str p.bytes, .int .i64 0]) W)) := fun A c W hW => by
  have := iBuild_any p.tree t1 (by omega) A c W hW
  unfold buildV at this
  rwa [if_pos (t2 8 (by omega)), t4] at this
 generalize p.tree = Y at *
 generalize p.bytes = B at *
 have HE := hid ((Mod.refl [] w).alloc (.cells p.c 26))
 have HB := hid (Blk.new w 26 p.c)
 clear hb hf t1 t2 t3 t4
 go_enter Tryz.func113, Tryz.ntmps113
 go_upto_region 1 with fail
 generalize w.alloc (.cells p.c 26) = V at *
 have HBL : Hid (∀ e : Later V, Blk e.x w.heap.size 26 p.c) := fun e => HB.out.later e
 obtain ⟨e, he⟩ := Later.self V
 rw [he]
 clear he
 go_upto_region 2 with (first | (refine wpList_row (by rfl) 26 _ rfl _ rfl (HBL.out _) vqC rfl (by kernel_rfl) ?_) | (go_at_call 136; refine (KI.out _).mono ?_; rintro x w1 ⟨A, c, rfl, hb1, hl1⟩))
 have HL1 := hid (IsL.ext (IsL.weak (R := fun _ => True) (fun _ _ _ => trivial) _ hl1) ((Mod.refl [] w1).alloc (.cells (itemC Y A c) 86)))
 have HX1 := hid (Blk.new w1 86 (itemC Y A c))
 have HE1 := hid ((HE.out.trans (e.h.trans hb1)).alloc (.cells (itemC Y A c) 86))
 obtain ⟨q0, q1, q2, q3, q4⟩ := cells5 HX1.out
 clear hb1 hl1
 go_wp2_with (go_at_call 70; refine (KB.out _ _ _ HL1.out).mono ?_; rintro x w2 ⟨rfl, hb2⟩)
 go_ret2
 exact Ret.mk rfl (HE1.out.trans hb2)
def PV.plain (p : PV) : PV := { p with crc := 0 }
end Go.Proofs.YthecmnbkjchjmaaGreat
