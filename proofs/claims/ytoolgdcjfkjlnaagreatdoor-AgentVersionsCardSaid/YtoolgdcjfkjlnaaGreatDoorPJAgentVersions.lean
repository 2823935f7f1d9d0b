/- gentVersions. -/
import Derived.Test.YtoolgdcjfkjlnaaGreatDoorRows
import Derived.ProofKit
import Derived.SevenTiedAt
namespace Go.Proofs.YtoolgdcjfkjlnaaGreatDoor
open Go Go.ChangeShapes Go.WideShapes Go.RowKit
set_option maxRecDepth 100000
theorem GK :(laidOutB Tryz.prog)=true:=by kernel_rfl
theorem GL :(mapsRowed Tryz.prog)=true:=by kernel_rfl
theorem GM :(Rows.agentVersionsRow.inPlace==Tryz.prog.inPlace 4)=true:=by kernel_rfl
theorem GN :(Rows.agentVersionsRow.unfollowed==Tryz.prog.unfollowed 4)=true:=by kernel_rfl
theorem GO :(Rows.agentVersionsRow.recurses==Tryz.prog.recurses 4)=true:=by kernel_rfl
theorem GP :(Rows.agentVersionsRow.named==Tryz.prog.varsNamed 4)=true:=by kernel_rfl
theorem GQ :(Rows.agentVersionsRow.plainKeys==Tryz.prog.plainKeys)=true:=by kernel_rfl
theorem GR :(Tryz.prog.stopsHeard)=true:=by kernel_rfl
theorem GS :(Tryz.prog.mayEnter)=true:=by kernel_rfl
theorem GT :(Rows.agentVersionsRow.lifted==Tryz.prog.liftsFinal)=true:=by kernel_rfl
theorem FC :(Tryz.prog.make==some Rows.agentVersionsRow.make)=true:=by kernel_rfl
theorem H6 :joinedFacts Tryz.prog 4 Tryz.f4 Rows.agentVersionsSpec Rows.agentVersionsRow=true:=by
  unfold joinedFacts
  rw [GK,GL,GM,GN,GO,GP,GQ,GR,GS,GT,FC]
  kernel_rfl
theorem IA :true=Tryz.prog.looks []:=by kernel_rfl
theorem H3 {P:Program} {c:OpenClaim} (h:P.funcs.any Func.goes=false) (hs:c.start= .entering):false=c.goesBy P:=by
  have h1:∀g:FuncId,(P.funcs[g]?).any Func.goes=false:=fun g=>by
    cases e:P.funcs[g]? with
    |none=>rfl
    |some fn=>
     rw [Array.any_eq_false'] at h
     have:=h fn (Array.mem_of_getElem? e)
     simpa using this
  have h2:∀f,P.goes f=false:=fun f=>by
    unfold Program.goes
    rw [h,Bool.and_false,Bool.or_false,List.any_eq_false]
    exact fun g _=>by simp [h1 g]
  unfold OpenClaim.goesBy Program.goesAt Program.goesFrom
  rw [hs]
  cases P.funcNamed c.func with
  |none=>rfl
  |some f=>simp [h2 f]
theorem H5 :Tryz.prog.funcs.any Func.goes=false:=by kernel_rfl
theorem H4 :false=Rows.agentVersionsRow.goesBy Tryz.prog:=H3 H5 rfl
end Go.Proofs.YtoolgdcjfkjlnaaGreatDoor
