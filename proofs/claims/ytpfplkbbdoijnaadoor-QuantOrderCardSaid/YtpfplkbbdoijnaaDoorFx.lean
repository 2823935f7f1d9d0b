/- What is told of the library's variables at this seat: their shape; strconv's table. -/
import Derived.WalkKit
import Derived.Test.YtpfplkbbdoijnaaDoorProg
import Derived.ShapedOpen
import Derived.Lib.LaidTab
import Derived.Lib.ItoaNum
namespace Go.Proofs.YtpfplkbbdoijnaaDoor
def LibOK (F : Nat → Option Obj) : Prop := ∀ w : World, (∀ b o, F b = some o → w.heap[b]? = some o) → w.ShapedOpen Tryd.prog ∧ Lib.TabIs Tryd.prog w "internal/strconv.uint64pow10" .u64 Lib.pow10Tab
end Go.Proofs.YtpfplkbbdoijnaaDoor
