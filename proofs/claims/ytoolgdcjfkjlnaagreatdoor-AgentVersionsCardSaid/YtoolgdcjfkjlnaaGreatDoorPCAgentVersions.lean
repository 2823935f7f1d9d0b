/- gentVersions. -/
import Derived.Test.YtoolgdcjfkjlnaaGreatDoorPTied3
import Derived.Test.YtoolgdcjfkjlnaaGreatDoorM13
import Derived.Test.YtoolgdcjfkjlnaaGreatDoorPJAgentVersions
namespace Go.Proofs.YtoolgdcjfkjlnaaGreatDoor
open Go.ChangeShapes Go.WideShapes Go.RowKit
set_option maxRecDepth 100000 in
theorem B8 (os:Os) (started:os.Started) (H:Type) (enc:TypeId×Value→H):
    ReturnsInHanded {} Tryz.checked os 4 .any (fun w args=>(Rows.agentVersionsSpec.pre enc Tryz.prog Tryz.f4 Rows.agentVersionsRow.domain false w args∧laidMetH Tryz.prog Rows.agentVersionsRow.laid w)∧sizedMet enc Tryz.prog Tryz.f4 (OpenSpec.ofChange Rows.agentVersionsSpec) false w args)
      (Rows.agentVersionsSpec.post enc Tryz.prog Tryz.f4 false true false false):=by
  refine uI (C:=Tryz.checked) (X:=fun w _=>laidMetH Tryz.prog Rows.agentVersionsRow.laid w) (fun _ _ _ hh h=>h.of_heap hh) own started (by kernel_rfl) Tryz.func4
    (ChangeSpec.witness_shaped (enc:=enc) (C:=Tryz.checked) (os:=os) (X:=fun w _=>laidMetH Tryz.prog Rows.agentVersionsRow.laid w) false (tiedWorld3 os) #[.int .u8 0] 8 rfl (EM os _) (by kernel_rfl) (by kernel_rfl) (by kernel_rfl) (KB os _)) ?_
  intro W base args ds gs before hval0 hW _ hL hsh
  have hval:∀(j:Nat) t v,Tryz.f4.params[j]? =some t→args[j]? =some v→Value.okWide Tryz.prog W .any base t v:=hval0
  have hW':=hW
  obtain ⟨p,q,hA0,hV,rfl,hfz,hnd⟩:=hW
  have hA:DataW.TrodAll enc Tryz.prog W 0 (fun _=>true) true Tryz.f4.params.toList args.toList ds p:=hA0
  rw [Tryz.params4] at hA hval
  obtain ⟨v0,vs0,d0,ds0,p0,q0,hargs,rfl,rfl,h0,s0⟩:=trodAll_cons hA
  obtain ⟨rfl,rfl,rfl⟩:=trodAll_nil s0
  obtain rfl:args=#[v0]:=by cases args;simp_all
  obtain ⟨rfl,rfl⟩:=trodVars_none hV
  have k0:=h0
  have lt0:∀x∈p0,x.block<W.heap.size:=by obtain ⟨m,hm⟩:=k0;exact DataW.trod_lt m _ _ _ hm
  obtain ⟨zn,rfl,rfl,rfl,wn⟩:=open_int Tryz.underlying5 (hval 0 5 v0 rfl rfl) h0
  obtain ⟨n,rfl,nn⟩:=SC wn
  clear hA0 hval0
  refine (HF (args:=[.lit (.int .u8 (n:Int))]) (vs:=[_]) (E4 n nn noM) (KJ hsh (SR hL) (PC hL)) rfl (by intro j x v hx hv;match j,hx,hv with|0,hx,hv=>cases hx;cases hv;exact .lit _|_+1,hx,hv=>cases hx)).mono fun e W' ⟨he,bel⟩=>?_
  subst he
  exact ⟨_,rfl,_,_,_,[],_,[],hW',trodAll_mk1 (shut_bool Tryz.underlying4 _),(trodAll_cons_mk (Below.trod PL (by kernel_rfl) (of_decide_eq_true (by kernel_rfl)) k0 bel lt0) trodAll_mk0),rfl,bel.frame _,fun h=>by cases h⟩
theorem E5 :Rows.AgentVersionsSaid:=
  OpenClaim.holds_of_wide 4 Tryz.f4 rfl rfl rfl rfl rfl rfl rfl ⟨rfl,rfl,rfl,rfl,rfl⟩ rfl rfl rfl rfl rfl (by kernel_rfl) Tryz.func4 H6
    (of_decide_eq_true (by kernel_rfl)) (by unfold Func.isWrapper;first|(rw [if_pos (by decide+kernel)];kernel_rfl)|(rw [if_neg (by decide+kernel)];exact ⟨rfl,rfl⟩))
    (fun os started H enc _=>B8 os started H enc)
theorem AgentVersions_holds :Rows.AgentVersionsCardSaid:=
  Claim7.holds_tied_plain_at .later [] Rows.agentVersionsCard.laidKinds true Rows.agentVersionsCard.stood.harness Rows.agentVersionsCard.stood.looks E5 (fun _ h=>by cases h) (by kernel_rfl) (fun _ h=>by cases h) agentVersions_row_tie rfl ⟨rfl,rfl⟩ (by kernel_rfl) rfl
    (fun f fn hf hfn=>by
      obtain rfl:f=4:=Option.some.inj ((show Tryz.prog.funcNamed "bilge/bilgelaw25.AgentVersions" =some 4 by kernel_rfl).symm.trans hf)|>.symm
      obtain rfl:fn=Tryz.f4:=(Option.some.inj (Tryz.func4.symm.trans hfn)).symm
      exact ⟨IA,fun j t ht=>by
        rw [Tryz.params4] at ht
        have hm:t∈[5]:=by have:=Array.mem_of_getElem? ht;simp at this ⊢;omega
        have hall:([5].all fun u=>!Tryz.prog.wantsStandIn u)=true:=by kernel_rfl
        exact (show Tryz.prog.wantsStandIn t=false by simpa using List.all_eq_true.1 hall t hm)⟩)
    (H4)
#print axioms AgentVersions_holds
end Go.Proofs.YtoolgdcjfkjlnaaGreatDoor
