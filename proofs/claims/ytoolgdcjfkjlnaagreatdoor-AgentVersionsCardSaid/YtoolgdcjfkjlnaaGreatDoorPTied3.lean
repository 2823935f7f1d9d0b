/- atDoorPTied3. -/
import Derived.Test.YtoolgdcjfkjlnaaGreatDoorPTied
namespace Go.Proofs.YtoolgdcjfkjlnaaGreatDoor
open Go.RowKit
set_option maxRecDepth 100000
noncomputable def tiedWorld3 (os:Os):World:=
  let w0:=laidAt os [(9,Rows.laid_math_bits_deBruijn32tab),(10,Rows.laid_math_bits_deBruijn64tab),(8,Rows.laid_internal_strconv_uint64pow10),(5,Rows.laid_unicode_utf8_acceptRanges),(4,Rows.laid_unicode_utf8_first)]
  let n:=w0.heap.size
  let put (h:Array Obj) (g b:Nat):Array Obj:=h.modify g fun
    | .cells _ t frozen=> .cells #[.iface 466 (.pointer (some ⟨b,0,none⟩))] t frozen
    |o=>o
  {w0 with heap:=put (put ((w0.heap.push (.cells #[.string ⟨#[118,97,108,117,101,32,111,117,116,32,111,102,32,114,97,110,103,101]⟩] 468 (0,0))).push (.cells #[.string ⟨#[105,110,118,97,108,105,100,32,115,121,110,116,97,120]⟩] 468 (0,0))) 7 n) 6 (n+1)}
theorem KB (os:Os) (args:Array Value):laidMetH Tryz.prog Rows.agentEndsRow.laid ((tiedWorld3 os).forCall (fun _ _=>0) ⟨#[],args,[]⟩).memory:=
  laidMetH_of_parts3 (fuel:=8) (laidMet_of_run' 8 (by kernel_rfl) (by kernel_rfl)) (by kernel_rfl) (by kernel_rfl)
theorem EM (os:Os) (args:Array Value):((tiedWorld3 os).forCall (fun _ _=>0) ⟨#[],args,[]⟩).Shaped Tryz.prog:=World.shaped_of_RefB (by kernel_rfl) (by kernel_rfl)
end Go.Proofs.YtoolgdcjfkjlnaaGreatDoor
