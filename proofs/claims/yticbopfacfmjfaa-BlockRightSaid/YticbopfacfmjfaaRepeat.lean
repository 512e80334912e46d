/-
  strings.Repeat: the library's contract, at this program.
-/
import Derived.Test.YticbopfacfmjfaaBase
import Derived.Shelf.Strings.Repeat
namespace Go.Proofs.Yticbopfacfmjfaa
open Go.RowKit
set_option linter.unusedVariables false

def layRep_ren : Shelf.Ren where
  f := fun x => match x with
    | 105 => 29
    | 212 => 43
    | 99 => 44
    | 165 => 45
    | 166 => 46
    | 170 => 47
    | 169 => 48
    | 263 => 57
    | 264 => 58
    | 206 => 59
    | 240 => 60
    | 241 => 61
    | 276 => 65
    | 277 => 66
    | n => n
  t := fun x => match x with
    | 9 => 9
    | 3 => 3
    | 4 => 4
    | 20 => 20
    | 0 => 0
    | 46 => 58
    | 109 => 66
    | 5 => 5
    | 72 => 71
    | 76 => 75
    | 51 => 62
    | 146 => 85
    | 53 => 22
    | 148 => 87
    | 70 => 69
    | 37 => 27
    | 75 => 74
    | 127 => 89
    | 164 => 93
    | 80 => 78
    | n => n
  g := fun n => n
theorem layRep : Lays.n105 Try.prog layRep_ren where
  mixed := by kernel_rfl
  f105 := Try.func29.trans (by kernel_rfl)
  f212 := Try.func43.trans (by kernel_rfl)
  f99 := Try.func44.trans (by kernel_rfl)
  f165 := Try.func45.trans (by kernel_rfl)
  f166 := Try.func46.trans (by kernel_rfl)
  f170 := Try.func47.trans (by kernel_rfl)
  f169 := Try.func48.trans (by kernel_rfl)
  f263 := Try.func57.trans (by kernel_rfl)
  f264 := Try.func58.trans (by kernel_rfl)
  f206 := Try.func59.trans (by kernel_rfl)
  f240 := Try.func60.trans (by kernel_rfl)
  f241 := Try.func61.trans (by kernel_rfl)
  f276 := Try.func65.trans (by kernel_rfl)
  f277 := Try.func66.trans (by kernel_rfl)
  t9 := Try.underlying9
  a9 := Try.isAgg9
  z9 := Try.sizeOf9
  v9 := Try.zeroValue9
  t3 := Try.underlying3
  a3 := Try.isAgg3
  z3 := Try.sizeOf3
  v3 := Try.zeroValue3
  t4 := Try.underlying4
  a4 := Try.isAgg4
  z4 := Try.sizeOf4
  v4 := Try.zeroValue4
  t20 := Try.underlying20
  a20 := Try.isAgg20
  z20 := Try.sizeOf20
  v20 := Try.zeroValue20
  t0 := Try.underlying0
  a0 := Try.isAgg0
  z0 := Try.sizeOf0
  v0 := Try.zeroValue0
  t46 := Try.underlying58
  a46 := Try.isAgg58
  z46 := Try.sizeOf58
  v46 := Try.zeroValue58
  t109 := Try.underlying66
  a109 := Try.isAgg66
  z109 := Try.sizeOf66
  v109 := Try.zeroValue66
  t5 := Try.underlying5
  a5 := Try.isAgg5
  z5 := Try.sizeOf5
  v5 := Try.zeroValue5
  t72 := Try.underlying71
  a72 := Try.isAgg71
  z72 := Try.sizeOf71
  v72 := Try.zeroValue71
  t76 := Try.underlying75
  a76 := Try.isAgg75
  z76 := Try.sizeOf75
  v76 := Try.zeroValue75
  t51 := Try.underlying62
  a51 := Try.isAgg62
  z51 := Try.sizeOf62
  v51 := Try.zeroValue62
  t146 := Try.underlying85
  a146 := Try.isAgg85
  z146 := Try.sizeOf85
  v146 := Try.zeroValue85
  t53 := Try.underlying22
  a53 := Try.isAgg22
  z53 := Try.sizeOf22
  v53 := Try.zeroValue22
  t148 := Try.underlying87
  a148 := Try.isAgg87
  z148 := Try.sizeOf87
  v148 := Try.zeroValue87
  t70 := Try.underlying69
  a70 := Try.isAgg69
  z70 := Try.sizeOf69
  v70 := Try.zeroValue69
  t37 := Try.underlying27
  a37 := Try.isAgg27
  z37 := Try.sizeOf27
  v37 := Try.zeroValue27
  t75 := Try.underlying74
  a75 := Try.isAgg74
  z75 := Try.sizeOf74
  v75 := Try.zeroValue74
  t127 := Try.underlying89
  a127 := Try.isAgg89
  z127 := Try.sizeOf89
  v127 := Try.zeroValue89
  t164 := Try.underlying93
  a164 := Try.isAgg93
  z164 := Try.sizeOf93
  v164 := Try.zeroValue93
theorem layRepX : Builder.Extra Try.prog layRep_ren where
  sizeBuilder := by kernel_rfl
  liesBuilder := by kernel_rfl
  t5 := Try.underlying5
  a5 := Try.isAgg5
  z5 := Try.sizeOf5
  v5 := Try.zeroValue5
  infoByte := by kernel_rfl
  cellsByte := by kernel_rfl
  sizeByte := by kernel_rfl
  neB5 := by decide

theorem repeat0 (k : Nat) : Lib.repeatL [0] k = List.replicate k (0 : UInt8) := by
  induction k with
  | zero => rfl
  | succ k ih => rw [Lib.repeatL, ih, List.replicate_succ]; rfl
theorem Repeat_zero (k : Nat) (hk : k ≤ 1000) (w : World) : Calls Try.prog 29 #[.string ⟨#[0]⟩, .int .i64 (k : Int)] w (Ret (str (List.replicate k 0)) w) := by
  refine (Any.strings_Repeat layRep layRepX ⟨#[0]⟩ k w (by omega) (by show 1 * k ≤ _; omega)).mono fun e w' ⟨he, hb⟩ => ⟨?_, Mod.of_below hb⟩
  rw [he]
  show Ending.returned (.string ⟨(Lib.repeatL [0] k).toArray⟩) = _
  rw [repeat0]
end Go.Proofs.Yticbopfacfmjfaa
