/- rPJAgentEnds. -/
import Derived.Test.YtoolgdcjfkjlnaaGreatDoorRows
import Derived.ProofKit
import Derived.SevenTiedAt
namespace Go.Proofs.YtoolgdcjfkjlnaaGreatDoor
open Go Go.ChangeShapes Go.WideShapes Go.RowKit
set_option maxRecDepth 100000
theorem MV :(laidOutB Tryz.prog)=true:=by kernel_rfl
theorem MW :(mapsRowed Tryz.prog)=true:=by kernel_rfl
theorem MX :(Rows.agentEndsRow.inPlace==Tryz.prog.inPlace 3)=true:=by kernel_rfl
theorem MY :(Rows.agentEndsRow.unfollowed==Tryz.prog.unfollowed 3)=true:=by kernel_rfl
theorem MZ :(Rows.agentEndsRow.recurses==Tryz.prog.recurses 3)=true:=by kernel_rfl
theorem M0 :(Rows.agentEndsRow.named==Tryz.prog.varsNamed 3)=true:=by kernel_rfl
theorem M3 :(Rows.agentEndsRow.plainKeys==Tryz.prog.plainKeys)=true:=by kernel_rfl
theorem M4 :(Tryz.prog.stopsHeard)=true:=by kernel_rfl
theorem M5 :(Tryz.prog.mayEnter)=true:=by kernel_rfl
theorem M6 :(Rows.agentEndsRow.lifted==Tryz.prog.liftsFinal)=true:=by kernel_rfl
theorem LI :(Tryz.prog.make==some Rows.agentEndsRow.make)=true:=by kernel_rfl
theorem OQ :joinedFacts Tryz.prog 3 Tryz.f3 Rows.agentEndsSpec Rows.agentEndsRow=true:=by
  unfold joinedFacts
  rw [MV,MW,MX,MY,MZ,M0,M3,M4,M5,M6,LI]
  kernel_rfl
theorem OR :true=Tryz.prog.looks []:=by kernel_rfl
theorem ON {P:Program} {c:OpenClaim} (h:P.funcs.any Func.goes=false) (hs:c.start= .entering):false=c.goesBy P:=by
  have h1:∀g:FuncId,(P.funcs[g]?).any Func.goes=false:=fun g=>by
    cases e:P.funcs[g]? with
    |none=>rfl
    |some fn=>
     rw [Array.any_eq_false'] at h
     have:=h fn (Array.mem_of_getElem? e)
     simpa using this
  have h2:∀f,P.goes f=false:=fun f=>by
    unfold Program.goes
    rw [h,Bool.and_false,Bool.or_false,List.any_eq_false]
    exact fun g _=>by simp [h1 g]
  unfold OpenClaim.goesBy Program.goesAt Program.goesFrom
  rw [hs]
  cases P.funcNamed c.func with
  |none=>rfl
  |some f=>simp [h2 f]
theorem OP :Tryz.prog.funcs.any Func.goes=false:=by kernel_rfl
theorem OO :false=Rows.agentEndsRow.goesBy Tryz.prog:=ON OP rfl
end Go.Proofs.YtoolgdcjfkjlnaaGreatDoor
