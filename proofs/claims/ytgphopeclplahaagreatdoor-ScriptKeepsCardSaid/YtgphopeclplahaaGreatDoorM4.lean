/- Facts. -/
import Derived.Test.YtgphopeclplahaaGreatDoorM2
import Derived.Test.YtgphopeclplahaaGreatDoorProg
import Derived.KernelRfl
namespace Go.Proofs.YtgphopeclplahaaGreatDoor
open Go.RowKit

theorem Tryz.i2 : Tryz.prog.info? 2 = some Tryz.t2 := by kernel_rfl
theorem Tryz.i3 : Tryz.prog.info? 3 = some Tryz.t3 := by kernel_rfl
theorem Tryz.i4 : Tryz.prog.info? 4 = some Tryz.t4 := by kernel_rfl
theorem sizeOf_5 : SizeOf Tryz.prog 5 1 := by unfold SizeOf; kernel_rfl
theorem Tryz.i5 : Tryz.prog.info? 5 = some Tryz.t5 := by kernel_rfl
theorem Tryz.i9 : Tryz.prog.info? 9 = some Tryz.t9 := by kernel_rfl
theorem Tryz.i20 : Tryz.prog.info? 20 = some Tryz.t20 := by kernel_rfl
theorem Tryz.i21 : Tryz.prog.info? 21 = some Tryz.t21 := by kernel_rfl
theorem sizeOf_33 : SizeOf Tryz.prog 33 1 := by unfold SizeOf; kernel_rfl
theorem Tryz.i46 : Tryz.prog.info? 46 = some Tryz.t46 := by kernel_rfl
theorem Tryz.i75 : Tryz.prog.info? 75 = some Tryz.t75 := by kernel_rfl
theorem Tryz.i76 : Tryz.prog.info? 76 = some Tryz.t76 := by kernel_rfl
theorem Tryz.i80 : Tryz.prog.info? 80 = some Tryz.t80 := by kernel_rfl
theorem Tryz.i105 : Tryz.prog.info? 105 = some Tryz.t105 := by kernel_rfl
theorem sizeOf_128 : SizeOf Tryz.prog 128 1 := by unfold SizeOf; kernel_rfl
theorem sizeOf_130 : SizeOf Tryz.prog 130 2 := by unfold SizeOf; kernel_rfl
theorem Tryz.i139 : Tryz.prog.info? 139 = some Tryz.t139 := by kernel_rfl
theorem Tryz.i167 : Tryz.prog.info? 167 = some Tryz.t167 := by kernel_rfl
theorem Tryz.i175 : Tryz.prog.info? 175 = some Tryz.t175 := by kernel_rfl
theorem Tryz.i210 : Tryz.prog.info? 210 = some Tryz.t210 := by kernel_rfl
theorem Tryz.i212 : Tryz.prog.info? 212 = some Tryz.t212 := by kernel_rfl
end Go.Proofs.YtgphopeclplahaaGreatDoor
