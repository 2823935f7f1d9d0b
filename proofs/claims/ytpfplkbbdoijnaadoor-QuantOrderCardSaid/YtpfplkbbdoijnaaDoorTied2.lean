/- A world that meets the condition of quant's rows. -/
import Derived.Test.YtpfplkbbdoijnaaDoorTied
namespace Go.Proofs.YtpfplkbbdoijnaaDoor
open Go.RowKit
set_option maxRecDepth 100000
noncomputable def tiedWorld2 (os : Os) : World := laidAt os [(4, Rows.laid_math_bits_deBruijn32tab), (5, Rows.laid_math_bits_deBruijn64tab), (2, Rows.laid_internal_strconv_uint64pow10), (1, Rows.laid_unicode_utf8_acceptRanges), (0, Rows.laid_unicode_utf8_first)]
theorem laid_met2 (os : Os) (args : Array Value) : laidMetH Tryd.prog Rows.quantReadsRow.laid ((tiedWorld2 os).forCall (fun _ _ => 0) ⟨#[], args, []⟩).memory :=
  laidMetH_of_parts3 (fuel := 8) (laidMet_of_run' 8 (by kernel_rfl) (by kernel_rfl)) (by kernel_rfl) (by kernel_rfl)
theorem tied_shaped2 (os : Os) (args : Array Value) : ((tiedWorld2 os).forCall (fun _ _ => 0) ⟨#[], args, []⟩).Shaped Tryd.prog := World.shaped_of_RefB (by kernel_rfl) (by kernel_rfl)
end Go.Proofs.YtpfplkbbdoijnaaDoor
