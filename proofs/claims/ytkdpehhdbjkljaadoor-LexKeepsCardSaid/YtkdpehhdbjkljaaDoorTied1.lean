/- A world that meets the condition of lex's rows. -/
import Derived.Test.YtkdpehhdbjkljaaDoorTied
namespace Go.Proofs.YtkdpehhdbjkljaaDoor
open Go.RowKit
set_option maxRecDepth 100000
noncomputable def tiedWorld1 (os : Os) : World := laidAt os [(2, Rows.laid_unicode_utf8_acceptRanges), (1, Rows.laid_unicode_utf8_first)]
theorem laid_met1 (os : Os) (args : Array Value) : laidMetH Tryd.prog Rows.lexLinesRow.laid ((tiedWorld1 os).forCall (fun _ _ => 0) ⟨#[], args, []⟩).memory :=
  laidMetH_of_parts3 (fuel := 8) (laidMet_of_run' 8 (by kernel_rfl) (by kernel_rfl)) (by kernel_rfl) (by kernel_rfl)
theorem tied_shaped1 (os : Os) (args : Array Value) : ((tiedWorld1 os).forCall (fun _ _ => 0) ⟨#[], args, []⟩).Shaped Tryd.prog := World.shaped_of_RefB (by kernel_rfl) (by kernel_rfl)
end Go.Proofs.YtkdpehhdbjkljaaDoor
