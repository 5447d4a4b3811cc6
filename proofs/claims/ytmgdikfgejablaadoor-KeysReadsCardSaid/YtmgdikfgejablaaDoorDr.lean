/- Contracts of the shelf, laid at this program in plain declarations. -/
import Derived.Shelf.Spec.DecodeRune
import Derived.Test.YtmgdikfgejablaaDoorProg
import Derived.Ground.Names7Prog
namespace Go.Proofs
open Go.Shelf Go.RowKit Go.Lib
namespace YtmgdikfgejablaaDoor
def Tryd.drId_ren : Go.Shelf.Ren := ⟨fun | 32 => 32 | 49 => 35 | n => n, fun | 30 => 47 | 21 => 21 | 3 => 3 | 0 => 0 | 5 => 5 | 4 => 4 | 33 => 55 | 66 => 60 | 25 => 61 | 69 => 64 | 68 => 63 | n => n, fun | 2 => 0 | 3 => 1 | n => n⟩
theorem Tryd.drId : Go.Proofs.Lays7.n32 Tryd.prog Tryd.drId_ren := {
  mixed := by kernel_rfl
  f32 := Tryd.func32.trans (congrArg some (by kernel_rfl))
  f49 := Tryd.func35.trans (congrArg some (by kernel_rfl))
  t0 := Tryd.underlying0
  a0 := Tryd.isAgg0
  z0 := Tryd.sizeOf0
  v0 := Tryd.zeroValue0
  i0 := by kernel_rfl
  t3 := Tryd.underlying3
  a3 := Tryd.isAgg3
  z3 := Tryd.sizeOf3
  v3 := Tryd.zeroValue3
  i3 := by kernel_rfl
  t4 := Tryd.underlying4
  a4 := Tryd.isAgg4
  z4 := Tryd.sizeOf4
  v4 := Tryd.zeroValue4
  i4 := by kernel_rfl
  t5 := Tryd.underlying5
  a5 := Tryd.isAgg5
  z5 := Tryd.sizeOf5
  v5 := Tryd.zeroValue5
  i5 := by kernel_rfl
  t21 := Tryd.underlying21
  a21 := Tryd.isAgg21
  z21 := Tryd.sizeOf21
  v21 := Tryd.zeroValue21
  i21 := by kernel_rfl
  t25 := Tryd.underlying61
  a25 := Tryd.isAgg61
  z25 := Tryd.sizeOf61
  v25 := Tryd.zeroValue61
  i25 := by kernel_rfl
  t30 := Tryd.underlying47
  a30 := Tryd.isAgg47
  z30 := Tryd.sizeOf47
  v30 := Tryd.zeroValue47
  i30 := by kernel_rfl
  t33 := Tryd.underlying55
  a33 := Tryd.isAgg55
  z33 := Tryd.sizeOf55
  v33 := Tryd.zeroValue55
  i33 := by kernel_rfl
  t66 := Tryd.underlying60
  a66 := Tryd.isAgg60
  z66 := Tryd.sizeOf60
  t68 := Tryd.underlying63
  a68 := Tryd.isAgg63
  z68 := Tryd.sizeOf63
  v68 := Tryd.zeroValue63
  i68 := by kernel_rfl
  t69 := Tryd.underlying64
  a69 := Tryd.isAgg64
  z69 := Tryd.sizeOf64
  v69 := Tryd.zeroValue64
  i69 := by kernel_rfl
  g2 := by kernel_rfl
  g3 := by kernel_rfl }

end YtmgdikfgejablaaDoor
end Go.Proofs
