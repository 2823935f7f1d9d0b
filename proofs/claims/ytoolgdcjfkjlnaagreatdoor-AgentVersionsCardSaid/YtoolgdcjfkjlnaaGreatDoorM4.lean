/- aGreatDoorM4. -/
import Derived.Test.YtoolgdcjfkjlnaaGreatDoorM3
namespace Go.Proofs.YtoolgdcjfkjlnaaGreatDoor
open Go.RowKit
section
variable {κ β:Type} [DecidableEq κ] {ke:κ→Value} {vf:β→AV} {P:Program} {n:Nat} {s0:St} {ops:Array Oper} {QE:Exit→St→Prop}
theorem RN {s:St} {Q:St→Prop} {id:Nat} {T:List (List UInt8×AV)} {l:List Oper} (hc:s.mem id=some (sK T)) (h:aM P n ops l {s with mem:=bA s.mem id (mapG (T.map fun p=>(keS p.1,p.2)))} Q):aM P n ops l s Q:=
  fun G a w K hr hfx hK=>h G a w K (hr.toG hc) hfx hK
theorem J9 {k:κ}:∀{S:List (κ×β)} {o:Nat},(∀p∈S,k≠p.1)→fE k (S.map Prod.fst) o=none
  |[],_,_=>rfl
  |p::r,o,h=>by
   rw [List.map_cons]
   unfold fE
   rw [decide_eq_false (h p (List.mem_cons_self ..))]
   exact J9 fun q hq=>h q (List.mem_cons_of_mem _ hq)
theorem GG {k:κ} {v:β}:∀{S:List (κ×β)},cO k S=some v→(k,v)∈S
  |p::r,h=>by
   unfold cO at h
   by_cases e:k=p.1
   ·rw [decide_eq_true e] at h
    have h2:p.2=v:=Option.some.inj h
    rw [←h2,e]
    exact List.mem_cons_self ..
   ·rw [decide_eq_false e] at h
    exact List.mem_cons_of_mem _ (GG h)
theorem JJ {k:κ} {v:β}:∀{S:List (κ×β)},(S.map Prod.fst).Nodup→(k,v)∈S→cO k S=some v
  |p::r,hn,h=>by
   unfold cO
   rw [List.map_cons,List.nodup_cons] at hn
   rcases List.mem_cons.1 h with e|h
   ·subst e;rw [decide_eq_true rfl];rfl
   ·by_cases e:k=p.1
    ·exact absurd (List.mem_map.2 ⟨_,h,e⟩) hn.1
    ·rw [decide_eq_false e];exact JJ hn.2 h
theorem J8 {S T:List (κ×β)} (h:T.Perm S) (hn:(S.map Prod.fst).Nodup) (k:κ):cO k T=cO k S:=by
  have hn2:(T.map Prod.fst).Nodup:=(h.map Prod.fst).nodup_iff.2 hn
  cases e:cO k S with
  |some v=>exact JJ hn2 (h.mem_iff.2 (GG e))
  |none=>
   cases e2:cO k T with
   |none=>rfl
   |some v=>rw [JJ hn (h.mem_iff.1 (GG e2))] at e;cases e
def kD (ins:List (Nat×κ×β)) (listed:Array Bool):List (κ×β):=(ins.filter fun p=>listed.getD p.1 false).map (·.2)
omit [DecidableEq κ] in
theorem MC {_ins:List (Nat×κ×β)} {listed:Array Bool} {i:Nat} (hi:i<listed.size) (hf:listed.getD i false=false):∀{ins:List (Nat×κ×β)},(ins.map Prod.fst).Nodup→∀{e:κ×β},(i,e)∈ins→(kD ins (listed.setIfInBounds i true)).Perm (kD ins listed++[e])
  |[],_,e,h=>by cases h
  |p::r,hn,e,h=>by
   rw [List.map_cons,List.nodup_cons] at hn
   rcases List.mem_cons.1 h with rfl|h
   ·have hr:kD r (listed.setIfInBounds i true)=kD r listed:=by
      unfold kD
      congr 1
      refine List.filter_congr fun q hq=>?_
      rw [getD_set_ne false (fun e'=>hn.1 (List.mem_map.2 ⟨q,hq,e'.symm⟩))]
    have e1:kD ((i,e)::r) (listed.setIfInBounds i true)=e::kD r listed:=by
      rw [←hr];unfold kD;rw [List.filter_cons];simp [hi]
    have e2:kD ((i,e)::r) listed=kD r listed:=by
      unfold kD;rw [List.filter_cons];simp only [hf];rfl
    rw [e1,e2]
    exact (List.perm_append_singleton e _).symm
   ·have ih:=MC (_ins:=r) hi hf hn.2 h
    have hne:i≠p.1:=fun e=>hn.1 (by rw [←e];exact List.mem_map_of_mem (f:=Prod.fst) h)
    have e1:∀l:Array Bool,kD (p::r) l=(if l.getD p.1 false then [p.2] else [])++kD r l:=fun l=>by
      unfold kD;rw [List.filter_cons];split<;>rfl
    rw [e1,e1,getD_set_ne false hne,List.append_assoc]
    exact List.Perm.append_left _ ih
def SX (ke:κ→Value) (vf:β→AV) (P:Program) (n:Nat) (ops:Array Oper) (s0:St) (m0:Nat) (ws:Nat→List (List (Nat×AV))) (rs:Nat→List (List (Nat×Option Nat×AV))) (ins:List (Nat×κ×β)) (i:Nat) (o:Oper):Prop:=
  (i=m0∧∀fr,aM P n ops [o] ⟨fr,s0.loc,s0.mem⟩ fun s'=>∃id,s0.mem id=none∧s'=⟨(ws id).getD i []++fr,s0.loc,bA s0.mem id (aV ke vf [])⟩)∨
  (∃e,(i,e)∈ins∧k8 ops i m0=true∧∀id S fr,s0.mem id=none→fE e.1 (S.map Prod.fst) 0=none→RdR fr ((rs id).getD i [])→aM P n ops [o] ⟨fr,s0.loc,bA s0.mem id (aV ke vf S)⟩ fun s'=>s'=⟨(ws id).getD i []++fr,s0.loc,bA s0.mem id (aV ke vf (S++[e]))⟩)∨
  (i≠m0∧(∀p∈ins,p.1≠i)∧∀id fr mem,RdR fr ((rs id).getD i [])→aM P n ops [o] ⟨fr,s0.loc,mem⟩ fun s'=>s'=⟨(ws id).getD i []++fr,s0.loc,mem⟩)
theorem SU {id0:Nat} (ls ks:List Nat) (_S:Nat→St) (m0:Nat) (ws:Nat→List (List (Nat×AV))) (rs:Nat→List (List (Nat×Option Nat×AV))) (ins:List (Nat×κ×β)) (kk:List (List Nat)) (rk:List (List (Nat×Option Nat)))
    (hm:P.follows .mixedOrders=true) (hlen:∀x,(ws x).length=ops.size) (hks:∀x,(ws x).map (fun w=>w.map Prod.fst)=kk) (hrk:∀x,(rs x).map (fun r=>r.map fun p=>(p.1,p.2.1))=rk) (hchk:svB ops kk rk=true)
    (hval:∀x,CA s0.fr (ws x) (rs x)) (hn:(ins.map Prod.fst).Nodup) (hn2:(ins.map fun p=>p.2.1).Nodup) (hins:∀p∈ins,p.1<ops.size) (hg0:m0<ops.size) (hind:∀x y i,i≠m0→k8 ops i m0=false→(ws x).getD i []=(ws y).getD i []) (hinm:∀p∈ins,p.1≠m0)
    (hop:∀i o,ops[i]? =some o→SX ke vf P n ops s0 m0 ws rs ins i o)
    (k:∀id T,s0.mem id=none→T.Perm (ins.map (·.2))→(∃s',s'=(⟨frA (ws id) s0.fr,s0.loc,bA s0.mem id (aV ke vf T)⟩:St).keep ls ks∧QE .normal s')):AWp P n (.region id0 ops true) s0 QE:=by
  intro G a w K hr hfx hK
  refine wp_region_any hm ?_
  obtain ⟨hr1,hk1⟩:=hr.later (w':={w with drawn:=w.drawn+1}) ⟨rfl,rfl,rfl,Nat.le_refl _,fun _ _=>rfl⟩
  have hA:uS P n ops (fun s'=>∃id T,s0.mem id=none∧T.Perm (ins.map (·.2))∧s'.keep ls ks=(⟨frA (ws id) s0.fr,s0.loc,bA s0.mem id (aV ke vf T)⟩:St).keep ls ks) ops.size (Array.replicate ops.size false) s0:=by
    refine uS.vals (ι:=Nat) ws rs (fun id listed m=>listed.size=ops.size∧if listed.getD m0 false=true then s0.mem id=none∧∃T,T.Perm (kD ins listed)∧m=bA s0.mem id (aV ke vf T) else m=s0.mem∧∀p∈ins,listed.getD p.1 false=false) kk rk hlen (fun x i t=>?_) (fun x i p hp=>?_) hchk (fun x i p hp=>((hval x).at i).of p hp) ?_ 0 ⟨by simp,by
      have e0:∀j,(Array.replicate ops.size false).getD j false=false:=fun j=>by
        rw [Array.getD_eq_getD_getElem?,Array.getElem?_replicate];split<;>rfl
      rw [if_neg (by rw [e0];decide)]
      exact ⟨rfl,fun p _=>e0 _⟩⟩ ?_
    ·rw [TQ,←hks x]
     exact congrArg (fun l:List Nat=>l.contains t) (J7 (fun w:List (Nat×AV)=>w.map Prod.fst) (ws x) i []).symm
    ·have e:=J7 (fun r:List (Nat×Option Nat×AV)=>r.map fun p=>(p.1,p.2.1)) (rs x) i []
     rw [hrk x] at e
     rw [show rk.getD i []=((rs x).getD i []).map fun p=>(p.1,p.2.1) from e];exact List.mem_map.2 ⟨p,hp,rfl⟩
    ·rintro x listed i o fr mem ho hfi hdep hcl ⟨hsz,hJ⟩ hrd
     have hin:=(Array.getElem?_eq_some_iff.1 ho).1
     have hff:listed.getD i false=false:=by have h2:=hfi;simp [hsz,hin] at h2 ⊢;exact h2
     rcases hop i o ho with ⟨rfl,h⟩|⟨e,he,hd,h⟩|⟨hne,hni,h⟩
     ·rw [if_neg (by rw [hff];decide)] at hJ
      obtain ⟨rfl,hno⟩:=hJ
      refine aM.mono (h fr) ?_
      rintro s' ⟨id,hid,rfl⟩
      refine ⟨id,_,rfl,⟨by simpa using hsz,?_⟩,fun j hj=>hind id x j (fun e=>by rw [e,hff] at hj;cases hj) ?_⟩
      ·rw [if_pos (by simp [hsz,hin])]
       refine ⟨hid,[],?_,rfl⟩
       have:kD ins (listed.setIfInBounds i true)=[]:=by
         unfold kD
         rw [List.filter_eq_nil_iff.2 fun p hp=>by rw [getD_set_ne false (Ne.symm (hinm p hp)),hno p hp];decide]
         rfl
       rw [this]
      ·cases hv:k8 ops j i with
       |false=>rfl
       |true=>rw [hcl j hj i hv] at hff;cases hff
     ·have hl0:=hdep m0 hd
      rw [if_pos hl0] at hJ
      obtain ⟨hid,T,hT,rfl⟩:=hJ
      have hkey:fE e.1 (T.map Prod.fst) 0=none:=J9 fun p hp hk=>by
        have hp2:=hT.mem_iff.1 hp
        obtain ⟨q,hq,rfl⟩:=List.mem_map.1 hp2
        obtain ⟨hq1,hq2⟩:=List.mem_filter.1 hq
        have:q=(i,e):=by
          have hinj:∀(l:List (Nat×κ×β)),(l.map fun p=>p.2.1).Nodup→∀a∈l,∀b∈l,a.2.1=b.2.1→a=b:=by
            intro l
            induction l with
            |nil=>intro _ a ha;cases ha
            |cons c r ih=>
             intro hn a ha b hb e
             rw [List.map_cons,List.nodup_cons] at hn
             rcases List.mem_cons.1 ha with ea|ha<;>rcases List.mem_cons.1 hb with eb|hb
             ·rw [ea,eb]
             ·exact absurd (List.mem_map.2 ⟨b,hb,by rw [←e,ea]⟩) hn.1
             ·exact absurd (List.mem_map.2 ⟨a,ha,by rw [e,eb]⟩) hn.1
             ·exact ih hn.2 a ha b hb e
          exact hinj ins hn2 q hq1 _ he hk.symm
        rw [this] at hq2
        rw [hff] at hq2;cases hq2
      refine aM.mono (h x T fr hid hkey (RdR.of hrd)) ?_
      rintro s' rfl
      refine ⟨x,_,rfl,⟨by simpa using hsz,?_⟩,fun _ _=>rfl⟩
      rw [if_pos (getD_set_true hl0)]
      exact ⟨hid,_,(hT.append_right [e]).trans (MC (_ins:=ins) (by omega) hff hn he).symm,rfl⟩
     ·refine aM.mono (h x fr mem (RdR.of hrd)) ?_
      rintro s' rfl
      refine ⟨x,mem,rfl,⟨by simpa using hsz,?_⟩,fun _ _=>rfl⟩
      rw [getD_set_ne false hne]
      have e1:kD ins (listed.setIfInBounds i true)=kD ins listed:=by
        unfold kD;congr 1
        exact List.filter_congr fun q hq=>by rw [getD_set_ne false (Ne.symm (hni q hq))]
      split
      ·rename_i hl;rw [if_pos hl] at hJ;rw [e1];exact hJ
      ·rename_i hl;rw [if_neg hl] at hJ;exact ⟨hJ.1,fun p hp=>by rw [getD_set_ne false (Ne.symm (hni p hp))];exact hJ.2 p hp⟩
    ·rintro x s listed hl hall ⟨_,hJ⟩ hg
     rw [if_pos (hall m0 hg0)] at hJ
     obtain ⟨hid,T,hT,hmem⟩:=hJ
     refine ⟨x,T,hid,?_,P6 ls ks hl hmem hg⟩
     have:kD ins listed=ins.map (·.2):=by
       unfold kD
       rw [List.filter_eq_self.2 fun p hp=>hall p.1 (hins p hp)]
     rw [←this];exact hT
  refine uS.sound _ _ _ hA G a _ K hr1 (hfx.keep hk1) fun s' G' a' w' hq hr' hk'=>?_
  obtain ⟨id,T,hid,hT,he⟩:=hq
  obtain ⟨s2,rfl,h2⟩:=k id T hid hT
  refine hK .normal _ G' a' w' h2 ?_ (hk1.trans hk')
  have:=hr'.keep ls ks
  rw [he] at this
  exact this
end
section
variable {κ β:Type} [DecidableEq κ] {ke:κ→Value} {vf:β→AV} {P:Program} {n:Nat} {s0:St} {ops:Array Oper} {m0:Nat} {ws:Nat→List (List (Nat×AV))} {rs:Nat→List (List (Nat×Option Nat×AV))} {ins:List (Nat×κ×β)}
def pP (ke:κ→Value) (vf:β→AV) (P:Program) (n:Nat) (ops:Array Oper) (s0:St) (m0:Nat) (ws:Nat→List (List (Nat×AV))) (rs:Nat→List (List (Nat×Option Nat×AV))) (ins:List (Nat×κ×β)):Nat→List Oper→Prop
  |_,[]=>True
  |i,o::os=>SX ke vf P n ops s0 m0 ws rs ins i o∧pP ke vf P n ops s0 m0 ws rs ins (i+1) os
theorem hg0 {i:Nat}:pP ke vf P n ops s0 m0 ws rs ins i []:=trivial
theorem pP.at :∀(os:List Oper) (i j m:Nat) (o:Oper),pP ke vf P n ops s0 m0 ws rs ins i os→os[j]? =some o→m=i+j→SX ke vf P n ops s0 m0 ws rs ins m o
  |[],_,j,_,o,_,ho,_=>by simp at ho
  |a::os,i,0,m,o,h,ho,hm=>by
   have e:a=o:=by simpa using ho
   subst e;subst hm
   exact h.1
  |a::os,i,j+1,m,o,h,ho,hm=>pP.at os (i+1) j m o h.2 (by simpa using ho) (by omega)
theorem hgV {i:Nat} {o:Oper} {os:List Oper} (h:∀id fr mem,RdR fr ((rs id).getD i [])→aM P n ops [o] ⟨fr,s0.loc,mem⟩ fun s'=>s'=⟨(ws id).getD i []++fr,s0.loc,mem⟩) (k:pP ke vf P n ops s0 m0 ws rs ins (i+1) os) (hi:Nat.beq i m0=false:=by rfl) (hc:(ins.map Prod.fst).contains i=false:=by rfl):pP ke vf P n ops s0 m0 ws rs ins i (o::os):=
  ⟨.inr (.inr ⟨fun e=>by subst e;simp at hi,fun p hp e=>by
    exact absurd (List.contains_iff_mem.2 (List.mem_map.2 ⟨p,hp,e⟩)) (by rw [hc];decide),h⟩),k⟩
theorem hgN {i d:Nat} {t:TypeId} {o:Oper} {os:List Oper} (k:pP ke vf P n ops s0 m0 ws rs ins (i+1) os) (hi:i=m0:=by rfl) (ho:o.op= .makeMap t none:=by rfl) (hg:o.guard=none:=by rfl) (hd:o.dst=some d:=by rfl) (hn:d<n:=by decide) (hw:∀id,(ws id).getD i []=[(d,.gmap id)]:=by exact fun _=>rfl):pP ke vf P n ops s0 m0 ws rs ins i (o::os):=
  ⟨.inl ⟨hi,fun fr=>FD (by unfold bY;rw [hg];trivial) hd hn ho fun id hid=>RN (T:=[]) bP (aM.nil ⟨id,hid,by rw [hw,AO];rfl⟩)⟩,k⟩
theorem hgI {i d:Nat} {t kt et:TypeId} {ky vz:Operand} {e:κ×β} {o:Oper} {os:List Oper} (R:Nat→List (Nat×Option Nat×AV)) (j:Nat) (K:KeyT P kt ke) (hu:P.underlying t=some (.map kt et)) (hkey:∀id fr mem,RdR fr (R id)→∀(G:Gh) (a:Act) (w:World),RelSt P G n ⟨fr,s0.loc,mem⟩ a w→a.eval ky=ke e.1) (hval:∀id fr mem,RdR fr (R id)→jF ⟨fr,s0.loc,mem⟩ vz (vf e.2)) (k:pP ke vf P n ops s0 m0 ws rs ins (i+1) os)
    (hj:ins[j]? =some (i,e):=by rfl) (ho:o.op= .insert t (.tmp d) ky vz:=by rfl) (hg:o.guard=none:=by rfl) (hd:o.dst=none:=by rfl) (hok:Operand.ok vz=true:=by rfl) (hw:∀id,(ws id).getD i []=[]:=by exact fun _=>rfl) (hr:∀id,(rs id).getD i []=(d,some m0,.gmap id)::R id:=by exact fun _=>rfl)
    (hdep:k8 ops i m0=true:=by kernel_rfl):pP ke vf P n ops s0 m0 ws rs ins i (o::os):=
  ⟨.inr (.inl ⟨e,List.mem_of_getElem? hj,hdep,fun id S fr _ hf h=>by
    rw [hr] at h
    obtain ⟨h1,h2⟩:=h
    refine JW (k:=e.1) (v:=e.2) (S:=S) K (by unfold bY;rw [hg];trivial) hd (.inr ho) hu h1 bP (hkey id fr _ h2) (hval id fr _ h2) hok AO (aM.nil ?_)
    rw [hw,EL hf];rfl⟩),k⟩
def IB (ops:Array Oper) (m0:Nat):Nat→List (List (Nat×AV))→List (List (Nat×AV))
  |_,[]=>[]
  |i,w::r=>(if (Nat.beq i m0||k8 ops i m0)=true then [] else w)::IB ops m0 (i+1) r
theorem EH :∀(l:List (List (Nat×AV))) (k j:Nat),Nat.beq (k+j) m0=false→k8 ops (k+j) m0=false→(IB ops m0 k l).getD j []=l.getD j []
  |[],k,j,_,_=>rfl
  |w::r,k,0,h1,h2=>by
   rw [Nat.add_zero] at h1 h2
   show (if (Nat.beq k m0||k8 ops k m0)=true then [] else w)=w
   rw [h1,h2];rfl
  |w::r,k,j+1,h1,h2=>by
   have:=EH r (k+1) j (by rwa [show k+1+j=k+(j+1) by omega]) (by rwa [show k+1+j=k+(j+1) by omega])
   simpa [IB] using this
theorem JX {id0:Nat} {QE:Exit→St→Prop} (ls ks:List Nat) (m0:Nat) (ws:Nat→List (List (Nat×AV))) (rs:Nat→List (List (Nat×Option Nat×AV))) (ins:List (Nat×κ×β)) (hop:pP ke vf P n ops s0 m0 ws rs ins 0 ops.toList)
    (k:∀id T,s0.mem id=none→T.Perm (ins.map (·.2))→(∃s',s'=(⟨frA (ws id) s0.fr,s0.loc,bA s0.mem id (aV ke vf T)⟩:St).keep ls ks∧QE .normal s')) (hlen:∀x,(ws x).length=ops.size:=by exact fun _=>rfl) (hval:∀x,CA s0.fr (ws x) (rs x):=by intro x;repeat' first|exact vl0|exact vr0|refine vl1 ?_ ?_|refine vrN rfl ?_|refine vrS rfl ?_) (hag:∀x y,IB ops m0 0 (ws x)=IB ops m0 0 (ws y):=by intro x y;kernel_rfl)
    (hm:P.follows .mixedOrders=true:=by kernel_rfl) (hks:∀x,(ws x).map (fun w=>w.map Prod.fst)=(ws 0).map (fun w=>w.map Prod.fst):=by exact fun _=>rfl) (hrk:∀x,(rs x).map (fun r=>r.map fun p=>(p.1,p.2.1))=(rs 0).map (fun r=>r.map fun p=>(p.1,p.2.1)):=by exact fun _=>rfl)
    (hchk:svB ops ((ws 0).map (fun w=>w.map Prod.fst)) ((rs 0).map (fun r=>r.map fun p=>(p.1,p.2.1)))=true:=by kernel_rfl) (hn:decide (ins.map Prod.fst).Nodup=true:=by kernel_rfl) (hn2:decide (ins.map fun p=>p.2.1).Nodup=true:=by kernel_rfl) (hins:(ins.all fun p=>Nat.blt p.1 ops.size)=true:=by kernel_rfl) (hg0:Nat.blt m0 ops.size=true:=by kernel_rfl)
    (hinm:(ins.all fun p=>!(Nat.beq p.1 m0))=true:=by kernel_rfl):AWp P n (.region id0 ops true) s0 QE:=
  SU ls ks (fun _=>s0) m0 ws rs ins _ _ hm hlen hks hrk hchk hval (of_decide_eq_true hn) (of_decide_eq_true hn2) (fun p hp=>by have:=List.all_eq_true.1 hins p hp;simpa using this) (by simpa using hg0) (fun x y i h1 h2=>by
   have hb:Nat.beq (0+i) m0=false:=by rw [Nat.zero_add];cases hb:Nat.beq i m0 with
     |false=>rfl
     |true=>exact absurd (Nat.eq_of_beq_eq_true hb) h1
   have hd:k8 ops (0+i) m0=false:=by rw [Nat.zero_add];exact h2
   rw [←EH (ws x) 0 i hb hd,hag x y,EH (ws y) 0 i hb hd]) (fun p hp e=>by
   have:=List.all_eq_true.1 hinm p hp
   rw [e,Nat.beq_refl] at this;cases this) (fun i o ho=>pP.at _ 0 i i o hop (by simpa using ho) (Nat.zero_add i).symm) k
end
end Go.Proofs.YtoolgdcjfkjlnaaGreatDoor
