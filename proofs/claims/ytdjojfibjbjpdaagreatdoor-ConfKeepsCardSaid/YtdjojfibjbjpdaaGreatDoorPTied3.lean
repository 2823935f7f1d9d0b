/- Tied3. -/
import Derived.Test.YtdjojfibjbjpdaaGreatDoorPTied
namespace Go.Proofs.YtdjojfibjbjpdaaGreatDoor
open Go.RowKit
set_option maxRecDepth 100000
noncomputable def tiedWorld3 (os : Os) : World :=
  let w0 := laidAt os [(6, Rows.laid_math_bits_deBruijn32tab), (7, Rows.laid_math_bits_deBruijn64tab), (1, Rows.laid_internal_strconv_uint64pow10), (3, Rows.laid_unicode_utf8_acceptRanges), (2, Rows.laid_unicode_utf8_first)]
  let n := w0.heap.size
  let put (h : Array Obj) (g b : Nat) : Array Obj := h.modify g fun
    | .cells _ t frozen => .cells #[.iface 154 (.pointer (some ⟨b, 0, none⟩))] t frozen
    | o => o
  { w0 with heap := put (put ((w0.heap.push (.cells #[.string ⟨#[118, 97, 108, 117, 101, 32, 111, 117, 116, 32, 111, 102, 32, 114, 97, 110, 103, 101]⟩] 156 (0, 0))).push (.cells #[.string ⟨#[105, 110, 118, 97, 108, 105, 100, 32, 115, 121, 110, 116, 97, 120]⟩] 156 (0, 0))) 5 n) 4 (n + 1) }
theorem laid_met3 (os : Os) (args : Array Value) : laidMetH Tryz.prog Rows.confKeepsRow.laid ((tiedWorld3 os).forCall (fun _ _ => 0) ⟨#[], args, []⟩).memory :=
  laidMetH_of_parts3 (fuel := 8) (laidMet_of_run' 8 (by kernel_rfl) (by kernel_rfl)) (by kernel_rfl) (by kernel_rfl)
theorem tied_shaped3 (os : Os) (args : Array Value) : ((tiedWorld3 os).forCall (fun _ _ => 0) ⟨#[], args, []⟩).Shaped Tryz.prog := World.shaped_of_RefB (by kernel_rfl) (by kernel_rfl)
end Go.Proofs.YtdjojfibjbjpdaaGreatDoor
