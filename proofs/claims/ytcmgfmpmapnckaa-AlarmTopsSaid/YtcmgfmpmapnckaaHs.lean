/- The stable sort's insertion sort at both element types: laid from the library. -/
import Derived.Test.YtcmgfmpmapnckaaReg
import Derived.Shelf.SlSortCmp.KitK
namespace Go.Proofs.Ytcmgfmpmapnckaa
open Go.Shelf Go.RowKit Go.Lib Go.Sort
set_option linter.unusedVariables false
set_option linter.unusedSimpArgs false
def Try.insP_ren : Go.Shelf.Ren := ⟨fun | 20 => 142 | n => n, fun | 24 => 150 | 22 => 146 | 3 => 3 | 25 => 156 | 4 => 4 | 0 => 0 | n => n, fun | n => n⟩
theorem Try.insP : Go.Proofs.SlLaysF0.n20 Try.prog Try.insP_ren := {
  mixed := by kernel_rfl,
  f20 := ⟨Try.f142.name, by decide, Try.func142.trans (congrArg some (by kernel_rfl))⟩,
  t0 := Try.underlying0,
  a0 := Try.isAgg0,
  z0 := Try.sizeOf0,
  v0 := Try.zeroValue0,
  t3 := Try.underlying3,
  a3 := Try.isAgg3,
  z3 := Try.sizeOf3,
  v3 := Try.zeroValue3,
  t4 := Try.underlying4,
  a4 := Try.isAgg4,
  z4 := Try.sizeOf4,
  v4 := Try.zeroValue4,
  t22 := Try.underlying146,
  a22 := Try.isAgg146,
  z22 := Try.sizeOf146,
  v22 := Try.zeroValue146,
  t25 := Try.underlying156,
  a25 := Try.isAgg156,
  z25 := Try.sizeOf156,
  v25 := Try.zeroValue156 }
def Try.insG_ren : Go.Shelf.Ren := ⟨fun | 20 => 132 | n => n, fun | 24 => 57 | 22 => 51 | 3 => 3 | 25 => 135 | 4 => 4 | 0 => 0 | n => n, fun | n => n⟩
theorem Try.insG : Go.Proofs.SlLaysF0.n20 Try.prog Try.insG_ren := {
  mixed := by kernel_rfl,
  f20 := ⟨Try.f132.name, by decide, Try.func132.trans (congrArg some (by kernel_rfl))⟩,
  t0 := Try.underlying0,
  a0 := Try.isAgg0,
  z0 := Try.sizeOf0,
  v0 := Try.zeroValue0,
  t3 := Try.underlying3,
  a3 := Try.isAgg3,
  z3 := Try.sizeOf3,
  v3 := Try.zeroValue3,
  t4 := Try.underlying4,
  a4 := Try.isAgg4,
  z4 := Try.sizeOf4,
  v4 := Try.zeroValue4,
  t22 := Try.underlying51,
  a22 := Try.isAgg51,
  z22 := Try.sizeOf51,
  v22 := Try.zeroValue51,
  t25 := Try.underlying135,
  a25 := Try.isAgg135,
  z25 := Try.sizeOf135,
  v25 := Try.zeroValue135 }
end Go.Proofs.Ytcmgfmpmapnckaa
