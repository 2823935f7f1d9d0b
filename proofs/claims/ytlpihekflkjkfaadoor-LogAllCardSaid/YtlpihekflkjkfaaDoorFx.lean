/- What is told of the library's variables at this seat: their shape; strconv's table; its errors. -/
import Derived.WalkKit
import Derived.Test.YtlpihekflkjkfaaDoorProg
import Derived.ShapedOpen
import Derived.Lib.LaidTab
import Derived.Lib.ItoaNum
namespace Go.Proofs.YtlpihekflkjkfaaDoor
def LibOK (F : Nat → Option Obj) : Prop := ∀ w : World, (∀ b o, F b = some o → w.heap[b]? = some o) → w.ShapedOpen Tryd.prog ∧ Lib.TabIs Tryd.prog w "internal/strconv.uint64pow10" .u64 Lib.pow10Tab ∧ (∃ v, w.cell? ⟨6, 0, none⟩ = some v ∧ (v = .nilIface ∨ ∃ te pe, v = .iface te pe)) ∧ (∃ v, w.cell? ⟨7, 0, none⟩ = some v ∧ (v = .nilIface ∨ ∃ te pe, v = .iface te pe))
end Go.Proofs.YtlpihekflkjkfaaDoor
