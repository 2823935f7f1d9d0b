/- What is told of the library's variables at this seat. -/
import Derived.WalkKit
import Derived.Test.YtkdpehhdbjkljaaDoorProg
import Derived.ShapedOpen
namespace Go.Proofs.YtkdpehhdbjkljaaDoor
def LibOK (F : Nat → Option Obj) : Prop := ∀ w : World, (∀ b o, F b = some o → w.heap[b]? = some o) → w.ShapedOpen Tryd.prog
end Go.Proofs.YtkdpehhdbjkljaaDoor
