/- GreatDoorPLw. -/
import Derived.Shelf.SlMaps.Clone
import Derived.Shelf.SlGeneric
import Derived.Ground.SlmcProg
import Derived.Shelf.Spec.SlicesGrow
import Derived.Ground.Names8Prog
import Derived.Test.YtoolgdcjfkjlnaaGreatDoorProg
namespace Go.Proofs
open Go.Shelf
def Tryz.lw5_ren :Go.Shelf.Ren:=⟨fun|5=>105|7=>166|n=>n,fun|23=>110|25=>9|3=>23|4=>4|20=>20|n=>n,fun|n=>n⟩
theorem Tryz.lw5 :Go.Proofs.SlLaysW.n5 Tryz.prog Tryz.lw5_ren:={
  mixed:=by kernel_rfl
  f5:=⟨Tryz.f105.name,by decide,Tryz.func105.trans (congrArg some (by kernel_rfl))⟩
  f7:=Tryz.func166.trans (congrArg some (by kernel_rfl))
  t4:=Tryz.underlying4
  a4:=Tryz.isAgg4
  z4:=Tryz.sizeOf4
  v4:=Tryz.zeroValue4
  t20:=Tryz.underlying20
  a20:=Tryz.isAgg20
  z20:=Tryz.sizeOf20
  v20:=Tryz.zeroValue20
  t23:=Tryz.underlying110
  a23:=Tryz.isAgg110
  z23:=Tryz.sizeOf110
  v23:=Tryz.zeroValue110}
def Tryz.lw8_ren :Go.Shelf.Ren:=⟨fun|4=>239|n=>n,fun|22=>23|25=>5|3=>3|4=>4|9=>9|20=>20|0=>0|n=>n,fun|n=>n⟩
theorem Tryz.lw8 :Go.Proofs.Lays8.n4 Tryz.prog Tryz.lw8_ren:={
  mixed:=by kernel_rfl
  f4:=⟨Tryz.f239.name,by decide,Tryz.func239.trans (congrArg some (by kernel_rfl))⟩
  t0:=Tryz.underlying0
  a0:=Tryz.isAgg0
  z0:=Tryz.sizeOf0
  v0:=Tryz.zeroValue0
  t3:=Tryz.underlying3
  a3:=Tryz.isAgg3
  z3:=Tryz.sizeOf3
  v3:=Tryz.zeroValue3
  t4:=Tryz.underlying4
  a4:=Tryz.isAgg4
  z4:=Tryz.sizeOf4
  v4:=Tryz.zeroValue4
  t9:=Tryz.underlying9
  a9:=Tryz.isAgg9
  z9:=Tryz.sizeOf9
  v9:=Tryz.zeroValue9
  t20:=Tryz.underlying20
  a20:=Tryz.isAgg20
  z20:=Tryz.sizeOf20
  v20:=Tryz.zeroValue20
  t22:=Tryz.underlying23
  a22:=Tryz.isAgg23
  z22:=Tryz.sizeOf23
  v22:=Tryz.zeroValue23}
end Go.Proofs
