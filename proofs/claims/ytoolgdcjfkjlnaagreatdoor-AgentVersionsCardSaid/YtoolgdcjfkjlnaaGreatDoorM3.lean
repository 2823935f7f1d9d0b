/- aGreatDoorM3. -/
import Derived.Test.YtoolgdcjfkjlnaaGreatDoorM2
import Derived.LoopN
namespace Go.Proofs.YtoolgdcjfkjlnaaGreatDoor
section
open Go.RowKit
section
variable {P:Program} {n:Nat} {s0:St} {ops:Array Oper} {Q:St→Prop} {QE:Exit→St→Prop}
def EV (l:Array Bool):Nat:=l.toList.countP (· ==false)
theorem R3 {l:Array Bool} {i:Nat} (h:l.getD i true=false):EV (l.setIfInBounds i true)+1=EV l:=by
  have hi:i<l.size:=by
    rcases Nat.lt_or_ge i l.size with h'|h'
    ·exact h'
    ·simp [Array.getElem?_eq_none h'] at h
  have hv:l[i]=false:=by simpa [Array.getElem?_eq_getElem hi] using h
  unfold EV
  have hl:i<l.toList.length:=by simpa using hi
  have hv':l.toList[i]=false:=by simpa using hv
  have hpos:0<l.toList.countP (· ==false):=List.countP_pos_iff.2 ⟨false,by rw [←hv'];exact List.getElem_mem hl,rfl⟩
  rw [Array.toList_setIfInBounds,List.countP_set hl,hv']
  simp only [beq_self_eq_true,if_true,show (true==false)=false from rfl,Bool.false_eq_true,if_false]
  omega
theorem VB {l:Array Bool} (h:EV l=0) (i:Nat):l.getD i true=true:=by
  rcases Nat.lt_or_ge i l.size with h'|h'
  ·have:=List.countP_eq_zero.1 h l[i] (by simp)
   simp [h']
   simpa using this
  ·simp [Array.getElem?_eq_none h']
theorem uS.inv (I:Array Bool→St→Prop) (hdone:∀listed s,I listed s→Region.ready .any ops listed=[]→Q s)
    (hstep:∀listed s i o,I listed s→i∈Region.ready .any ops listed→ops[i]? =some o→aM P n ops [o] s fun s'=>I (listed.setIfInBounds i true) s'):∀(k:Nat) (listed:Array Bool) (s:St),I listed s→EV listed≤k→uS P n ops Q k listed s
  |0,listed,s,h,hk=>by
   have hr:Region.ready .any ops listed=[]:=List.eq_nil_iff_forall_not_mem.2 fun j hj=>by
     have h1:=(mem_ready.1 hj).1
     rw [VB (by omega) j] at h1
     cases h1
   exact ⟨hr,hdone _ _ h hr⟩
  |k+1,listed,s,h,hk=>by
   refine ⟨fun hr=>hdone _ _ h hr,fun i hi=>?_⟩
   obtain ⟨h1,o,ho,_⟩:=mem_ready.1 hi
   refine ⟨o,ho,fun G a w K hr hfx hK=>hstep listed s i o h hi ho G a w K hr hfx fun s' G' a' w' hq=>hK s' G' a' w' ?_⟩
   exact uS.inv I hdone hstep k _ s' hq (by have:=R3 h1;omega)
def k8 (ops:Array Oper) (i j:Nat):Bool:=match ops[i]? with|some o=>o.after.any fun e=>Region.binds .any e&&e.on==j|none=>false
theorem U8 {i j:Nat} {o:Oper} (h:ops[i]? =some o):k8 ops i j=true↔∃e∈o.after,Region.binds .any e=true∧e.on=j:=by
  unfold k8
  rw [h]
  simp only [Array.any_eq_true',Bool.and_eq_true,beq_iff_eq]
def svB (ops:Array Oper) (ks:List (List Nat)) (rk:List (List (Nat×Option Nat))):Bool:=
  (List.range ops.size).all fun i=>((rk.getD i []).all fun p=>match p.2 with
      |none=>(List.range ops.size).all fun w=>!((ks.getD w []).contains p.1)||w==i||k8 ops w i
      |some j=>k8 ops i j&&(ks.getD j []).contains p.1&&(List.range ops.size).all fun w=>!((ks.getD w []).contains p.1)||Nat.ble w j||w==i||k8 ops w i)&&
    ((ks.getD i []).all fun t=>(List.range ops.size).all fun w=>!((ks.getD w []).contains t)||Nat.ble w i||k8 ops w i)&&
    (match ops[i]? with|some o=>o.after.all fun e=>!(Region.binds .any e)||Nat.blt e.on i|none=>true)
def frL (ws:List (List (Nat×AV))) (listed:Array Bool):Nat→List (Nat×AV)
  |0=>[]
  |i+1=>(if listed.getD i false then ws.getD i [] else [])++frL ws listed i
def frA :List (List (Nat×AV))→List (Nat×AV)→List (Nat×AV)
  |[],acc=>acc
  |w::r,acc=>frA r (w++acc)
def uC (l:List (Nat×AV)) (t:Nat):Bool:=l.any (·.1==t)
theorem sJ (t:Nat):∀(a b:List (Nat×AV)),look .any (a++b) t=if uC a t then look .any a t else look .any b t
  |[],b=>rfl
  |(k,v)::r,b=>by
   simp only [List.cons_append,look]
   by_cases h:k=t
   ·subst h;simp [uC]
   ·rw [if_neg h,if_neg h,sJ t r b]
    have:uC ((k,v)::r) t=uC r t:=by simp [uC,h]
    rw [this]
theorem F1 {ws:List (List (Nat×AV))} {listed:Array Bool} {fr:List (Nat×AV)} {t:Nat}:∀(m:Nat),(∀i,i<m→listed.getD i false=true→uC (ws.getD i []) t=false)→look .any (frL ws listed m++fr) t=look .any fr t
  |0,_=>rfl
  |m+1,h=>by
   have ih:=F1 (fr:=fr) m fun i hi=>h i (by omega)
   show look .any (((if listed.getD m false then ws.getD m [] else [])++frL ws listed m)++fr) t=_
   rw [List.append_assoc]
   cases hm:listed.getD m false with
   |false=>simpa using ih
   |true=>rw [if_pos rfl,sJ,h m (by omega) hm];simpa using ih
theorem MH {ws:List (List (Nat×AV))} {listed:Array Bool} {fr:List (Nat×AV)} {t i:Nat}:∀(m:Nat),i<m→listed.getD i false=true→uC (ws.getD i []) t=true→(∀j,i<j→j<m→listed.getD j false=true→uC (ws.getD j []) t=false)→look .any (frL ws listed m++fr) t=look .any (ws.getD i []) t
  |m+1,hi,h1,h2,h3=>by
   show look .any (((if listed.getD m false then ws.getD m [] else [])++frL ws listed m)++fr) t=_
   rw [List.append_assoc]
   by_cases e:i=m
   ·subst e;rw [h1,if_pos rfl,sJ,h2];rfl
   ·have ih:=MH (fr:=fr) m (by omega) h1 h2 fun j a b=>h3 j a (by omega)
    cases hm:listed.getD m false with
    |false=>simpa using ih
    |true=>rw [if_pos rfl,sJ,h3 m (by omega) (by omega) hm];simpa using ih
theorem MI {ws:List (List (Nat×AV))} {listed:Array Bool} {fr:List (Nat×AV)} {t i:Nat} (hk:uC (ws.getD i []) t=false):∀(m:Nat),look .any (frL ws (listed.setIfInBounds i true) m++fr) t=look .any (frL ws listed m++fr) t
  |0=>rfl
  |m+1=>by
   have ih:=MI (listed:=listed) (fr:=fr) hk m
   show look .any (((if (listed.setIfInBounds i true).getD m false then ws.getD m [] else [])++frL ws (listed.setIfInBounds i true) m)++fr) t=look .any (((if listed.getD m false then ws.getD m [] else [])++frL ws listed m)++fr) t
   rw [List.append_assoc,List.append_assoc,sJ,sJ t _ (frL ws listed m++fr),ih]
   by_cases e:i=m
   ·subst e
    have h0:∀b:Bool,uC (if b=true then ws.getD i [] else []) t=false:=fun b=>by cases b<;>first|exact hk|rfl
    rw [h0,h0]
    simp
   ·rw [getD_set_ne false e]
theorem J6 {ws ws':List (List (Nat×AV))} {listed:Array Bool}:∀(m:Nat),(∀j,listed.getD j false=true→ws'.getD j []=ws.getD j [])→frL ws' listed m=frL ws listed m
  |0,_=>rfl
  |m+1,h=>by
   show (if listed.getD m false then ws'.getD m [] else [])++frL ws' listed m=(if listed.getD m false then ws.getD m [] else [])++frL ws listed m
   rw [J6 m h]
   cases hm:listed.getD m false with
   |false=>rfl
   |true=>rw [h m hm]
theorem R2 :∀(ws:List (List (Nat×AV))) (acc:List (Nat×AV)),frA ws acc=ws.reverse.flatten++acc
  |[],acc=>rfl
  |w::r,acc=>by rw [frA,R2 r];simp
theorem PF {ws:List (List (Nat×AV))} {listed:Array Bool} (h:∀i,i<ws.length→listed.getD i false=true):∀m,m≤ws.length→frL ws listed m=(ws.take m).reverse.flatten
  |0,_=>rfl
  |m+1,hm=>by
   show (if listed.getD m false then ws.getD m [] else [])++frL ws listed m=_
   have e:ws.getD m []=ws[m]:=by rw [List.getD_eq_getElem?_getD,List.getElem?_eq_getElem (by omega)];rfl
   rw [PF h m (by omega),h m (by omega),if_pos rfl,e,List.take_succ_eq_append_getElem (by omega),List.reverse_append,List.flatten_append]
   simp only [List.reverse_cons,List.reverse_nil,List.nil_append,List.flatten_cons,List.flatten_nil,List.append_nil]
theorem uS.vals {ι:Type} (ws:ι→List (List (Nat×AV))) (rs:ι→List (List (Nat×Option Nat×AV))) (J:ι→Array Bool→(Nat→Option (List AV))→Prop) (ks:List (List Nat)) (rk:List (List (Nat×Option Nat)))
    (hlen:∀x,(ws x).length=ops.size) (hks:∀x i t,uC ((ws x).getD i []) t=(ks.getD i []).contains t) (hrk:∀x i p,p∈(rs x).getD i []→(p.1,p.2.1)∈rk.getD i []) (hchk:svB ops ks rk=true)
    (hval:∀x i p,p∈(rs x).getD i []→match p.2.1 with|none=>look .any s0.fr p.1=p.2.2|some j=>look .any ((ws x).getD j []) p.1=p.2.2)
    (hop:∀x listed i o fr mem,ops[i]? =some o→listed.getD i true=false→(∀j,k8 ops i j=true→listed.getD j false=true)→(∀a,listed.getD a false=true→∀j,k8 ops a j=true→listed.getD j false=true)→J x listed mem→(∀p∈(rs x).getD i [],look .any fr p.1=p.2.2)→
      aM P n ops [o] ⟨fr,s0.loc,mem⟩ fun s'=>∃y mem',s'=⟨(ws y).getD i []++fr,s0.loc,mem'⟩∧J y (listed.setIfInBounds i true) mem'∧∀j,listed.getD j false=true→(ws y).getD j []=(ws x).getD j [])
    (x0:ι) (h0:J x0 (Array.replicate ops.size false) s0.mem)
    (hQ:∀x s listed,s.loc=s0.loc→(∀i,i<ops.size→listed.getD i false=true)→J x listed s.mem→(∀t,s.get t=look .any (frA (ws x) s0.fr) t)→Q s):uS P n ops Q ops.size (Array.replicate ops.size false) s0:=by
  have hC:∀i,i<ops.size→_:=fun i hi=>List.all_eq_true.1 hchk i (List.mem_range.2 hi)
  have hlt:∀i o,ops[i]? =some o→∀e∈o.after,Region.binds .any e=true→e.on<i:=by
    intro i o ho e he hb
    have h1:=hC i (Array.getElem?_eq_some_iff.1 ho).1
    simp only [Bool.and_eq_true,ho] at h1
    have h2:=Array.all_eq_true_iff_forall_mem.1 h1.2 e he
    rw [hb] at h2
    simpa using h2
  have hwr:∀i t w,i<ops.size→(ks.getD i []).contains t=true→w<ops.size→(ks.getD w []).contains t=true→w≤i∨k8 ops w i=true:=by
    intro i t w hi ht hw hwt
    have h1:=hC i hi
    simp only [Bool.and_eq_true] at h1
    have h2:=List.all_eq_true.1 h1.1.2 t (by simpa using ht)
    have h3:=List.all_eq_true.1 h2 w (List.mem_range.2 hw)
    rw [hwt] at h3
    simpa using h3
  refine uS.inv (fun listed s=>∃x,listed.size=ops.size∧s.loc=s0.loc∧J x listed s.mem∧(∀a,listed.getD a false=true→∀j,k8 ops a j=true→listed.getD j false=true)∧∀t,s.get t=look .any (frL (ws x) listed ops.size++s0.fr) t) ?_ ?_ _ _ _ ⟨x0,by simp,rfl,h0,fun a ha=>?_,fun t=>?_⟩ ?_
  ·rintro listed s ⟨x,hsz,hloc,hJ,hcl,hget⟩ hr
   have hall:∀i,i<ops.size→listed.getD i false=true:=by
     intro i
     induction i using Nat.strongRecOn with
     |_ i ih=>
      intro hi
      cases hv:listed.getD i false with
      |true=>rfl
      |false=>
       exfalso
       have:i∈Region.ready .any ops listed:=by
         refine mem_ready.2 ⟨by have h1:=hv;simp [hsz,hi] at h1 ⊢;exact h1,ops[i],Array.getElem?_eq_getElem hi,fun e he hb=>?_⟩
         have:=hlt i _ (Array.getElem?_eq_getElem hi) e he hb
         exact ih e.on this (by omega)
       rw [hr] at this;cases this
   refine hQ x s listed hloc hall hJ fun t=>?_
   rw [hget t,PF (fun i hi=>hall i (by rw [←hlen x];exact hi)) ops.size (by rw [hlen x];exact Nat.le_refl _),←hlen x,List.take_length,R2]
  ·rintro listed s i o ⟨x,hsz,hloc,hJ,hcl,hget⟩ hi ho
   obtain ⟨h1,o',ho',hall⟩:=mem_ready.1 hi
   rw [ho] at ho'
   cases ho'
   have hin:=(Array.getElem?_eq_some_iff.1 ho).1
   have hdep:∀j,k8 ops i j=true→listed.getD j false=true:=fun j hj=>by
     obtain ⟨e,he,hb,rfl⟩:=(U8 ho).1 hj
     exact hall e he hb
   have hfi:listed.getD i false=false:=by have h2:=h1;simp [hsz,hin] at h2 ⊢;exact h2
   have hnot:∀w,k8 ops w i=true→listed.getD w false=false:=fun w hw=>by
     cases hv:listed.getD w false with
     |false=>rfl
     |true=>rw [hcl w hv i hw] at hfi;cases hfi
   have hltn:∀j,listed.getD j false=true→j<ops.size:=fun j hj=>by
     rcases Nat.lt_or_ge j ops.size with h|h
     ·exact h
     ·rw [←hsz] at h;simp [Array.getElem?_eq_none h] at hj
   obtain ⟨fr,loc,mem⟩:=s
   have hloc':loc=s0.loc:=hloc
   subst hloc'
   have hread:∀p∈(rs x).getD i [],look .any fr p.1=p.2.2:=by
     intro p hp
     have e1:look .any fr p.1=look .any (frL (ws x) listed ops.size++s0.fr) p.1:=hget p.1
     have hc:=hC i hin
     simp only [Bool.and_eq_true] at hc
     have hc1:=List.all_eq_true.1 hc.1.1 _ (hrk x i p hp)
     have hv:=hval x i p hp
     obtain ⟨t,src,v⟩:=p
     rw [e1]
     cases src with
     |none=>
      simp only at hc1 hv
      rw [F1]
      ·exact hv
      ·intro w hw hlw
       rw [hks]
       have h3:=List.all_eq_true.1 hc1 w (List.mem_range.2 hw)
       cases hk:(ks.getD w []).contains t with
       |false=>rfl
       |true=>
        rw [hk] at h3
        simp only [Bool.not_true,Bool.false_or,Bool.or_eq_true,beq_iff_eq] at h3
        rcases h3 with rfl|h3
        ·rw [hfi] at hlw;cases hlw
        ·rw [hnot w h3] at hlw;cases hlw
     |some j=>
      simp only [Bool.and_eq_true] at hc1 hv
      obtain ⟨⟨a1,a2⟩,a3⟩:=hc1
      have hj:=hdep j a1
      rw [MH ops.size (hltn j hj) hj (by rw [hks];exact a2)]
      ·exact hv
      ·intro w hw1 hw2 hlw
       rw [hks]
       have h3:=List.all_eq_true.1 a3 w (List.mem_range.2 hw2)
       cases hk:(ks.getD w []).contains t with
       |false=>rfl
       |true=>
        rw [hk] at h3
        simp only [Bool.not_true,Bool.false_or,Bool.or_eq_true,beq_iff_eq,Nat.ble_eq] at h3
        rcases h3 with (h3|rfl)|h3
        ·omega
        ·rw [hfi] at hlw;cases hlw
        ·rw [hnot w h3] at hlw;cases hlw
   refine aM.mono (hop x listed i o fr mem ho h1 hdep hcl hJ hread) ?_
   rintro s' ⟨y,mem',rfl,hJ',hag⟩
   refine ⟨y,by simpa using hsz,rfl,hJ',fun a ha j hj=>?_,fun t=>?_⟩
   ·by_cases e:i=a
    ·subst e;exact getD_set_true (hdep j hj)
    ·rw [getD_set_ne false e] at ha;exact getD_set_true (hcl a ha j hj)
   ·show look .any ((ws y).getD i []++fr) t=_
    have e1:look .any fr t=look .any (frL (ws x) listed ops.size++s0.fr) t:=hget t
    rw [sJ]
    cases hk:uC ((ws y).getD i []) t with
    |true=>
     rw [if_pos rfl,MH ops.size hin (by simp [hsz,hin]) hk]
     intro w hw1 hw2 hlw
     rw [getD_set_ne false (by omega)] at hlw
     rw [hks]
     cases hk2:(ks.getD w []).contains t with
     |false=>rfl
     |true=>
      rw [hks] at hk
      rcases hwr i t w hin hk hw2 hk2 with h|h
      ·omega
      ·rw [hnot w h] at hlw;cases hlw
    |false=>
     rw [MI hk,e1,J6 ops.size hag]
     simp
  ·have hr:(Array.replicate ops.size false).getD a false=false:=by rw [Array.getD_eq_getD_getElem?,Array.getElem?_replicate];split<;>rfl
   rw [hr] at ha;cases ha
  ·show look .any s0.fr t=_
   rw [F1]
   intro i _ hi
   have hr:(Array.replicate ops.size false).getD i false=false:=by rw [Array.getD_eq_getD_getElem?,Array.getElem?_replicate];split<;>rfl
   rw [hr] at hi;cases hi
  ·unfold EV
   exact Nat.le_trans List.countP_le_length (by simp)
def RdR (fr:List (Nat×AV)):List (Nat×Option Nat×AV)→Prop
  |[]=>True
  |p::r=>look .any fr p.1=p.2.2∧RdR fr r
theorem RdR.of {fr:List (Nat×AV)}:∀{r:List (Nat×Option Nat×AV)},(∀p∈r,look .any fr p.1=p.2.2)→RdR fr r
  |[],_=>trivial
  |p::_r,h=>⟨h p (List.mem_cons_self ..),RdR.of fun q hq=>h q (List.mem_cons_of_mem _ hq)⟩
def wX (fr:List (Nat×AV)) (ws:List (List (Nat×AV))):List (Nat×Option Nat×AV)→Prop
  |[]=>True
  |p::r=>(match p.2.1 with|none=>look .any fr p.1=p.2.2|some j=>look .any (ws.getD j []) p.1=p.2.2)∧wX fr ws r
theorem wX.of {fr:List (Nat×AV)} {ws:List (List (Nat×AV))}:∀{r:List (Nat×Option Nat×AV)},wX fr ws r→∀p∈r,match p.2.1 with|none=>look .any fr p.1=p.2.2|some j=>look .any (ws.getD j []) p.1=p.2.2
  |q::r,h,p,hp=>by
   rcases List.mem_cons.1 hp with rfl|hp
   ·exact h.1
   ·exact wX.of h.2 p hp
theorem vr0 {fr:List (Nat×AV)} {ws:List (List (Nat×AV))}:wX fr ws []:=trivial
theorem vrN {fr:List (Nat×AV)} {ws:List (List (Nat×AV))} {t:Nat} {v:AV} {r:List (Nat×Option Nat×AV)} (h:look .any fr t=v) (h':wX fr ws r):wX fr ws ((t,none,v)::r):=⟨h,h'⟩
theorem vrS {fr:List (Nat×AV)} {ws:List (List (Nat×AV))} {t j:Nat} {v:AV} {r:List (Nat×Option Nat×AV)} (h:look .any (ws.getD j []) t=v) (h':wX fr ws r):wX fr ws ((t,some j,v)::r):=⟨h,h'⟩
def CA (fr:List (Nat×AV)) (ws:List (List (Nat×AV))):List (List (Nat×Option Nat×AV))→Prop
  |[]=>True
  |r::rs=>wX fr ws r∧CA fr ws rs
theorem vl0 {fr:List (Nat×AV)} {ws:List (List (Nat×AV))}:CA fr ws []:=trivial
theorem vl1 {fr:List (Nat×AV)} {ws:List (List (Nat×AV))} {r:List (Nat×Option Nat×AV)} {rs:List (List (Nat×Option Nat×AV))} (h:wX fr ws r) (h':CA fr ws rs):CA fr ws (r::rs):=⟨h,h'⟩
theorem CA.at {fr:List (Nat×AV)} {ws:List (List (Nat×AV))}:∀{rs:List (List (Nat×Option Nat×AV))} (i:Nat),CA fr ws rs→wX fr ws (rs.getD i [])
  |[],i,_=>by simp;exact trivial
  |r::rs,0,h=>h.1
  |r::rs,i+1,h=>by simpa using CA.at i h.2
theorem TQ (w:List (Nat×AV)) (t:Nat):uC w t=(w.map Prod.fst).contains t:=by
  induction w with
  |nil=>rfl
  |cons a r ih=>simp only [uC,List.any_cons,List.map_cons,List.contains_cons] at ih ⊢;rw [ih];congr 1;exact Bool.beq_comm ..
theorem J7 {α β:Type} (f:α→β) (l:List α) (i:Nat) (d:α):(l.map f).getD i (f d)=f (l.getD i d):=by
  rw [List.getD_eq_getElem?_getD,List.getD_eq_getElem?_getD,List.getElem?_map]
  cases l[i]? <;>rfl
theorem P6 {s:St} {fr:List (Nat×AV)} {loc:List (Nat×List AV)} {mem:Nat→Option (List AV)} (ls ks:List Nat) (hl:s.loc=loc) (hm:s.mem=mem) (h:∀t,s.get t=look .any fr t):s.keep ls ks=(⟨fr,loc,mem⟩:St).keep ls ks:=by
  subst hl;subst hm
  unfold St.keep
  have:(fun i=>(i,s.get i))=fun i=>(i,(⟨fr,s.loc,s.mem⟩:St).get i):=funext fun i=>by rw [h i];rfl
  rw [this]
end
end
section
open Go.RowKit
def D9 (k:Nat) (cells:List AV):AV→AV
  | .lptr k' off=>if k'=k then .eptr (.agg cells) off else .lptr k' off
  |v=>v
def IV (k:Nat) (l:List (Nat×List AV)):List (Nat×List AV):=l.filter fun p=>p.1 !=k
theorem NA (k:Nat) (cells:List AV):∀(fr:List (Nat×AV)) (i:Nat),look .any (fr.map fun p=>(p.1,D9 k cells p.2)) i=D9 k cells (look .any fr i)
  |[],i=>rfl
  |(j,v)::r,i=>by
   simp only [List.map_cons,look]
   split
   ·rfl
   ·exact NA k cells r i
theorem EG (k:Nat):∀(l:List (Nat×List AV)) (i:Nat) (c:List AV),a6 (IV k l) i=some c→i≠k∧a6 l i=some c
  |[],i,c,h=>by cases h
  |(j,v)::r,i,c,h=>by
   unfold IV at h
   rw [List.filter_cons] at h
   split at h
   ·rename_i hj
    simp only [a6] at h ⊢
    split at h
    ·rename_i e
     subst e
     rw [if_pos rfl]
     exact ⟨by simpa using hj,h⟩
    ·rename_i e
     rw [if_neg e]
     exact EG k r i c h
   ·rename_i hj
    obtain ⟨h1,h2⟩:=EG k r i c h
    simp only [a6]
    rw [if_neg (fun e=>by subst e;exact hj (by simpa using h1))]
    exact ⟨h1,h2⟩
section
variable {P:Program} {n:Nat} {s:St} {ops:Array Oper} {o:Oper} {l:List Oper} {Q:St→Prop} {QE:Exit→St→Prop} {d:Nat} {t ta E:TypeId} {x:Operand}
theorem RelSt.freeze {G:Gh} {a:Act} {w:World} {k:Nat} {cells:List AV} (hr:RelSt P G n s a w) (hc:a6 s.loc k=some cells) (hfl:cells.all AV.flat=true):
    ∃G',RelSt P G' n ⟨s.fr.map fun p=>(p.1,D9 k cells p.2),IV k s.loc,s.mem⟩ a w∧Keep G w G' w:=by
  obtain ⟨arr,T,hh,hsz,ho,ht,hsc,hrr⟩:=hr.loc k cells hc
  have hlt:=(Array.getElem?_eq_some_iff.1 hh).1
  let G':Gh:={G with owner:=fun b=>if b=G.lb k then none else G.owner b,tip:=fun b=>if b=G.lb k then cells.length else G.tip b}
  have st:Stab G w G' w:=⟨fun b=>by
    show G.tip b≤if b=G.lb k then cells.length else G.tip b
    split
    ·rename_i e;rw [e,ht];exact Nat.zero_le _
    ·exact Nat.le_refl _,fun _ _ _=>rfl,fun _ _ h=>h⟩
  have hmv:∀(q:Pos) (b:Nat),q≠ .lb k→G.owner b=some q→G'.owner b=some q∧w.heap[b]? =w.heap[b]? ∧G'.tip b=G.tip b:=by
    intro q b hq hb
    have hne:b≠G.lb k:=fun e=>by subst e;rw [ho] at hb;exact hq (Option.some.inj hb).symm
    exact ⟨by show (if b=G.lb k then none else G.owner b)=_;rw [if_neg hne];exact hb,rfl,by show (if b=G.lb k then cells.length else G.tip b)=_;rw [if_neg hne]⟩
  have hfar:∀b,w.heap.size≤b→G'.tip b=0∧G'.owner b=none:=fun b hb=>by
    have hne:b≠G.lb k:=by omega
    exact ⟨by show (if b=G.lb k then cells.length else G.tip b)=_;rw [if_neg hne];exact (hr.mem.far b hb).1,by show (if b=G.lb k then none else G.owner b)=_;rw [if_neg hne];exact (hr.mem.far b hb).2⟩
  refine ⟨G',⟨hr.size,hr.defers,fun i=>?_,fun k1 c1 h1=>?_,⟨fun id c1 h1=>?_,hfar,hr.mem.fin⟩⟩,⟨rfl,rfl,rfl,Nat.le_refl _,fun b hb hn=>?_,st⟩⟩
  ·show bE P G' w (.slot i) (look .any (s.fr.map fun p=>(p.1,D9 k cells p.2)) i) _
   rw [NA]
   have h0:bE P G' w (.slot i) (look .any s.fr i) (a.tmps.getD i undef):=(hr.slot i).move st (Nat.le_refl _) (fun _ _ _=>rfl) (fun c b _ h2=>hmv _ b (by intro h;cases h) h2)
   generalize look .any s.fr i=v at h0
   cases v with
   |lptr k' off=>
    simp only [D9]
    split
    ·rename_i e
     subst e
     have e0:a.tmps.getD i undef= .pointer (some ⟨G.lb k',off,none⟩):=h0
     refine ⟨G.lb k',0,fun j=>arr.getD j undef,by rw [e0,Nat.zero_add],?_,fun j c hj=>?_⟩
     ·show 0+cells.length≤if G.lb k'=G.lb k' then cells.length else G.tip _
      rw [if_pos rfl];omega
     ·have hj':cells[j]? =some c:=hj
      have hjl:=(List.getElem?_eq_some_iff.1 hj').1
      have e:arr[j]? =some (arr.getD j undef):=by rw [Array.getD_eq_getD_getElem?,Array.getElem?_eq_getElem (by omega)];rfl
      refine ⟨by simp only [World.cell?,hh,Option.isSome_none,Bool.false_eq_true,if_false,Nat.zero_add];exact e,?_⟩
      have h1:=(hrr j c _ hj' e).un (hsc c (List.mem_of_getElem? hj'))
      have hcf:c.flat=true:=List.all_eq_true.1 hfl c (List.mem_of_getElem? hj')
      have:c.un=c:=by
        cases c with
        |list o E xs=>cases o with
         |true=>cases hcf
         |false=>rfl
        |tuple cs=>cases hcf
        |pin x v=>cases hcf
        |_=>rfl
      rw [this] at h1
      exact h1.stab st
    ·exact h0
   |_=>exact h0
  ·obtain ⟨hne,hl⟩:=EG k s.loc k1 c1 h1
   have h0:=hr.loc k1 c1 hl
   have hne':Pos.lb k1≠Pos.lb k:=by intro h;injection h with h;exact hne h
   obtain ⟨a1,a2,a3⟩:=hmv _ _ hne' h0.own
   exact h0.move st (Nat.le_refl _) rfl (a1.trans h0.own.symm) a3 (fun c b _ h2=>hmv _ b (by intro h;cases h) h2)
  ·obtain ⟨b,hb,hh1⟩:=hr.mem.obj id c1 h1
   exact ⟨b,hb,hh1.move st (Nat.le_refl _) (fun _ hw=>by
     obtain ⟨a1,a2,a3⟩:=hmv _ _ (by intro h;cases h) hw
     exact ⟨rfl,a1.trans hw.symm,a3⟩) (fun c b _ h2=>hmv _ b (by intro h;cases h) h2)⟩
  ·have hne:b≠G.lb k:=fun e=>by subst e;rw [ho] at hn;cases hn
   exact ⟨by show (if b=G.lb k then none else G.owner b)=_;rw [if_neg hne];exact hn,rfl,by show (if b=G.lb k then cells.length else G.tip b)=_;rw [if_neg hne]⟩
theorem SG {xs:List AV} (h:(xs.all fun c=>match c with| .agg _=>false|_=>true)=true):∀c∈xs,c.cells=[c]:=fun c hc=>by
  have:=List.all_eq_true.1 h c hc
  cases c<;>first|rfl|cases this
theorem KW {e:AV} {kk m:Nat} {xs:List AV} (ho:o.op= .slice t x none none none) (hu:P.underlying t=some (.array m E)) (hs:aZ P E 1) (hx:s.eval x= .eptr e kk)
    (hm:m≤maxLen) (hxs:(e.cells.drop kk).take m=xs) (hl:xs.length=m) (hone:xs.all (fun c=>c.scalar&&c.flat)=true) (hcc:∀c∈xs,c.cells=[c]):aH P n s o d (.list false E xs):=by
  intro G a w h
  obtain ⟨p,hp⟩:=h.ev x (fun v cs e1 e2=>by subst e1;subst e2;simp [St.eval,cF] at hx)
  rw [hx] at hp
  obtain ⟨b,oo,us,hav,h1,h2⟩:=hp
  have hfl:xs.flatMap AV.cells=xs:=by
    clear hxs hl hone
    induction xs with
    |nil=>rfl
    |cons a r ih=>rw [List.flatMap_cons,hcc a (List.mem_cons_self ..),ih (fun c hc=>hcc c (List.mem_cons_of_mem _ hc))];rfl
  have hk:∀j,j<m→e.cells[kk+j]? =xs[j]? :=fun j hj=>by
    rw [←hxs,List.getElem?_take_of_lt hj,List.getElem?_drop]
  have hrel:RelV P G w (.list false E xs) (.slice (some ⟨b,oo+kk,none⟩) xs.length m):=by
    refine .row false E xs b (oo+kk) m 1 (fun j=>us (kk+j)) hs (fun c hc=>by rw [hcc c hc];rfl) (fun c hc c' hc'=>?_) (by omega) hm (fun h0=>?_) (fun j hj=>?_) (fun j c hj=>?_)
    ·rw [hcc c hc] at hc'
     have:=List.all_eq_true.1 hone c hc
     simp only [List.mem_singleton] at hc'
     subst hc'
     simp only [Bool.and_eq_true] at this
     exact this.1
    ·have hj:kk+(m-1)<e.cells.length:=by
       have e1:xs[m-1]? =some (xs[m-1]'(by omega)):=List.getElem?_eq_getElem (by omega)
       rw [←hk (m-1) (by omega)] at e1
       exact (List.getElem?_eq_some_iff.1 e1).1
     omega
    ·have e1:xs[j]? =some (xs[j]'(by omega)):=List.getElem?_eq_getElem (by omega)
     rw [←hk j (by omega)] at e1
     rw [Nat.add_assoc]
     exact (h2 (kk+j) _ e1).1
    ·rw [hfl] at hj
     have hjl:=(List.getElem?_eq_some_iff.1 hj).1
     rw [←hk j (by omega)] at hj
     exact (h2 (kk+j) c hj).2
  refine ⟨_,hrel,fun w' _=>?_⟩
  simp [execOp,ho,Instr.sliceAt,Instr.sureAddr,run_underlying hu,hav,Instr.sliceBounds,cC hs,hl,jA,Result.andThen]
end
end
section
open Go.RowKit
section
variable {P:Program} {n:Nat} {s:St} {ops:Array Oper} {o:Oper} {rest:List Oper} {Q:St→Prop} {QE:Exit→St→Prop} {d:Nat} {t kt et E:TypeId} {x y z:Operand} {S:List (List UInt8×AV)}
end
section
variable {P:Program} {n:Nat} {s:St} {a:Act} {w:World} {G:Gh} {E:TypeId}
theorem RelSt.objList {id j:Nat} {cells:List AV} (hr:RelSt P G n s a w) (hc:s.mem id=some cells) (hj:cells[j]? =some (.lit (.slice none 0 0))) (hsc:cells.all AV.scalar=true):RelSt P G n {s with mem:=bA s.mem id (cells.set j (.list true E []))} a w:=by
  refine ⟨hr.size,hr.defers,hr.slot,hr.loc,⟨fun id' cs h=>?_,hr.mem.far,hr.mem.fin⟩⟩
  have h':bA s.mem id (cells.set j (.list true E [])) id'=some cs:=h
  by_cases e:id'=id
  ·subst e
   rw [bP] at h'
   cases h'
   obtain ⟨b,hb,hX⟩:=hr.mem.obj id' cells hc
   obtain ⟨⟨arr,T,h1,h2,h3,h4,h5,h6⟩,h7⟩:=hX.cells hsc (by intro e;rw [e] at hj;simp at hj)
   refine ⟨b,hb,.inl ⟨⟨arr,T,h1,by simpa using h2,h3,h4,fun c hcm=>?_,fun k c u hk hu=>?_⟩,h7⟩⟩
   ·rcases List.mem_or_eq_of_mem_set hcm with h|rfl
    ·exact h5 c h
    ·rfl
   ·rw [List.getElem?_set] at hk
    split at hk
    ·rename_i ejk
     subst ejk
     split at hk
     ·cases hk
      have h8:=h6 j _ u hj hu
      have e8:u= .slice none 0 0:=by
        have h9:RelV P G w (.lit (.slice none 0 0)) u:=h8
        cases h9;rfl
      exact .inr ⟨rfl,.inl e8⟩
     ·cases hk
    ·exact h6 k c u hk hu
  ·rw [bT e] at h'
   exact hr.mem.obj id' cs h'
end
section
variable {P:Program} {n:Nat} {s:St} {ops:Array Oper} {l:List Oper} {Q:St→Prop}
end
section
variable {P:Program} {n:Nat} {s0:St} {ops:Array Oper} {QE:Exit→St→Prop}
def XB (P:Program) (n:Nat) (ops:Array Oper) (s0:St) (m0:Nat) (ws:Nat→List (List (Nat×AV))) (rs:Nat→List (List (Nat×Option Nat×AV))) (ins:List (Nat×List UInt8×AV)) (i:Nat) (o:Oper):Prop:=
  (i=m0∧∀fr,aM P n ops [o] ⟨fr,s0.loc,s0.mem⟩ fun s'=>∃id,s0.mem id=none∧s'=⟨(ws id).getD i []++fr,s0.loc,bA s0.mem id (sK [])⟩)∨
  (∃e,(i,e)∈ins∧k8 ops i m0=true∧∀id S fr,s0.mem id=none→UK e.1 S 0=none→RdR fr ((rs id).getD i [])→aM P n ops [o] ⟨fr,s0.loc,bA s0.mem id (sK S)⟩ fun s'=>s'=⟨(ws id).getD i []++fr,s0.loc,bA s0.mem id (sK (S++[e]))⟩)∨
  (i≠m0∧(∀p∈ins,p.1≠i)∧∀id fr mem,RdR fr ((rs id).getD i [])→aM P n ops [o] ⟨fr,s0.loc,mem⟩ fun s'=>s'=⟨(ws id).getD i []++fr,s0.loc,mem⟩)
end
section
variable {P:Program} {n:Nat} {s0:St} {ops:Array Oper} {m0:Nat} {ws:Nat→List (List (Nat×AV))} {rs:Nat→List (List (Nat×Option Nat×AV))} {ins:List (Nat×List UInt8×AV)}
def UF (P:Program) (n:Nat) (ops:Array Oper) (s0:St) (m0:Nat) (ws:Nat→List (List (Nat×AV))) (rs:Nat→List (List (Nat×Option Nat×AV))) (ins:List (Nat×List UInt8×AV)):Nat→List Oper→Prop
  |_,[]=>True
  |i,o::os=>XB P n ops s0 m0 ws rs ins i o∧UF P n ops s0 m0 ws rs ins (i+1) os
theorem hm0 {i:Nat}:UF P n ops s0 m0 ws rs ins i []:=trivial
end
end
section
open Go.RowKit
section
variable {P:Program} {n:Nat} {s:St} {a:Act} {w:World} {G:Gh} {E:TypeId}
end
section
variable {P:Program} {n:Nat} {s:St} {ops:Array Oper} {l:List Oper} {Q:St→Prop} {E:TypeId}
end
end
section
open Go.RowKit
section
variable {P:Program} {n:Nat} {s:St} {w0:World} {c:Code} {QE:Exit→St→Prop}
end
section
variable {P:Program} {G:Gh} {w w':World}
end
section
variable {P:Program} {n:Nat} {s:St} {w0:World} {Q:Exit→St→Prop}
end
section
variable {P:Program} {n:Nat} {s:St} {o:Oper} {d:Nat} {t E:TypeId} {x y:Operand}
theorem wW {cs:List AV} {m len size:Nat} {k:IntKind} {i:Int} {v:AV} {D:TypeDesc} (ho:o.op= .index t x y) (hu:P.underlying t=some (.array len E)) (hue:P.underlying E=some D) (hs:aZ P E size) (hx:s.eval x= .agg cs) (hxc:∃r,x= .tmp r) (hy:s.eval y= .lit (.int k i)) (hi:i=m) (hm:m<len)
    (hv:uG (TypeDesc.agg D) size cs (m*size)=some v) (hf:v.flat=true):aH P n s o d v:=by
  intro G a w h
  obtain ⟨r,rfl⟩:=hxc
  have hp:=h.slot r
  rw [show s.get r= .agg cs from hx] at hp
  generalize hav:a.tmps.getD r undef=va at hp
  have hp':RelV P G w (.agg cs) va:=hp
  cases hp' with
  |agg _ vs hl hr=>
   obtain ⟨u,hu1,hu2⟩:=NP (P:=P) hue hs hl hr hv
   refine ⟨u,hu1.toS hf,fun w' _=>?_⟩
   have ev:a.eval (.tmp r)= .agg vs.toArray:=hav
   subst hi
   simp [execOp,ho,Instr.index,asIntOf,ev,h.evLit hy,run_underlying hu,cC hs,hm,hu2 w',Result.andThen]
theorem gE {ps:Array (Nat×Operand)} {xs:List (Nat×AV)} {zs:Array Value} {Es:List TypeId} {cs:List AV} {m size:Nat} (ho:o.op= .build t ps) (hu:P.underlying t=some (.array m E)) (hs:aZ P E size) (hp:Parts s ps xs)
    (hz:(P.info? t).map (·.zero)=some (some (.agg zs))) (hz1:zs.toList.all (fun c=>c.oneCell')=true)
    (hf:pV (fun i=>some (i*size,size)) (dM zs.toList Es) xs=some cs):aH P n s o d (.agg cs):=by
  intro G a w hr
  obtain ⟨h1,h2⟩:=hp.rel hr
  obtain ⟨arr,hfill,hrel⟩:=yH (P:=P) (G:=G) (w:=w) (fun i=>some (i*size,size)) xs _ (dM zs.toList Es) zs cs h1 h2 (nY _ _ (List.all_eq_true.1 hz1)) hf
  refine ⟨.agg arr,?_,fun w' _=>?_⟩
  ·have:=RelV.agg cs arr.toList hrel.1 hrel.2
   simp only [Array.toArray_toList] at this
   exact this
  ·cases hi:P.info? t with
   |none=>simp [hi] at hz
   |some i=>
    simp only [hi,Option.map_some,Option.some.injEq] at hz
    have hfill':Instr.fill (fun i:Nat=>some (i*size,size)) zs (Array.map (fun x=>(x.1,a.eval x.2)) ps).toList=some arr:=hfill
    rw [Array.toList_map] at hfill'
    simp [execOp,ho,Instr.build,zeroValue,typeInfo,hi,hz,run_underlying hu,cC hs,Value.cells,hfill',Result.andThen]
end
end
section
open Go.RowKit
def rQ (l:List Oper) (i j:Nat):Bool:=
  match l[i]? with
  |some o=>o.after.any fun e=>Region.binds .any e&&e.on==j
  |none=>false
def clo (l:List Oper) (n:Nat):Nat→List Nat→List Nat
  |0,s=>s
  |k+1,s=>clo l n k ((List.range n).filter fun j=>s.contains j||s.any fun i=>rQ l i j)
def RP (l:List Oper) (n:Nat):List Nat:=clo l n n ((List.range n).filter (rQ l n))
theorem IS {l:List Oper} {n:Nat} {p:Nat→Prop} (hp:∀i j,p i→rQ l i j=true→p j):∀(k:Nat) (s:List Nat),(∀i∈s,p i)→∀i∈clo l n k s,p i
  |0,s,h,i,hi=>h i hi
  |k+1,s,h,i,hi=>by
   refine IS hp k _ (fun j hj=>?_) i hi
   have h2:=(List.mem_filter.1 hj).2
   simp only [Bool.or_eq_true,List.contains_iff_mem,List.any_eq_true] at h2
   rcases h2 with h2|⟨x,hx,he⟩
   ·exact h j h2
   ·exact hp x j (h x hx) he
end
section
open Go.RowKit
def S0 (l:List Oper) (n:Nat):Bool:=
  match l[n]? with
  |some o=>(match o.op with| .buildSlice .. =>true|_=>false)&&o.guard.isNone&&o.dst.isSome&&(o.after.all fun e=>!Region.binds .any e||decide (e.on<n))&&
     ((o.looksAt l.toArray).all fun t=>(List.range n).all fun j=>((l[j]?).bind (·.dst)) !=some t||(RP l n).contains j)&&
     ((o.looksAt l.toArray).all fun t=>o.dst !=some t)&&((List.range n).all fun j=>match l[j]? with|some p=>p.dst !=o.dst&&(p.looksAt l.toArray).all fun t=>o.dst !=some t|none=>false)
  |none=>false
def UP (l:List Oper) (p i:Nat):Bool:=
  (List.range p).all fun j=>(clo l p p ((List.range p).filter (rQ l i))).contains j
def G7 (l:List Oper) (n:Nat):Bool:=
  decide (n<l.length)&&((List.range n).all (qS l.toArray l n))&&S0 l n&&
  ((List.range (l.length-(n+1))).all fun k=>UP l (n+1) (n+1+k))&&
  Region.seqB .any l.toArray (l.length-(n+1)) (n+1) (List.replicate (n+1) true++List.replicate (l.length-(n+1)) false).toArray
structure InvX (P:Program) (l:List Oper) (n:Nat) (Q:Exit→Act→World→Prop) (W:World) (a0 F:Act) (listed:Array Bool) (a:Act) (w:World):Prop where
  lsize:listed.size=l.length
  defers:a.defers=a0.defers
  size:a.tmps.size=a0.tmps.size
  tail:∀i,n<i→i<l.length→listed.getD i false=false
  base:∀t,(∀i o,i<n+1→l[i]? =some o→listed.getD i false=true→o.dst≠some t)→a.tmps[t]? =a0.tmps[t]?
  head:∀i o d,i<n→l[i]? =some o→o.dst=some d→listed.getD i false=true→a.tmps[d]? =F.tmps[d]?
  closed:∀i j,listed.getD i false=true→rQ l i j=true→listed.getD j false=true
  below:Below W.heap.size W w
  post:∀T d,l[n]? =some T→T.dst=some d→listed.getD n false=true→∃u w1,Below w1.heap.size w1 w∧a.tmps[d]? =(a0.tmps[d]?).map (fun _=>u)∧∀y:Ext w1,wpList P l.toArray Q (l.drop (n+1)) (F.put (some d) u) y.val
set_option maxHeartbeats 1000000 in
theorem OF {P:Program} {l:List Oper} {n:Nat} {W:World} {a0 F:Act} {Q:Exit→Act→World→Prop} {T:Oper} (hTn:l[n]? =some T)
    (hB:G7 l n=true)
    (hF1:F.defers=a0.defers)
    (hF3:∀t,(∀j o,0≤j→j<0+n→l[j]? =some o→o.dst≠some t)→F.tmps[t]? =a0.tmps[t]?)
    (hF4:∀j o d,0≤j→j<0+n→l[j]? =some o→o.dst=some d→∃v,YE P l.toArray W o v F∧F.tmps[d]? =(a0.tmps[d]?).map fun _=>v)
    (hT:∀x:Ext W,∃u w',(execOp F.eval T).run P x.val= .ok (.value u) w'∧Below x.val.heap.size x.val w'∧∀y:Ext w',wpList P l.toArray Q (l.drop (n+1)) (F.put T.dst u) y.val):
    ∀(fuel:Nat) (listed:Array Bool) (a:Act) (w:World),InvX P l n Q W a0 F listed a w→cnt listed.toList=fuel→
     wpAny P .any l.toArray Q fuel listed a w:=by
  simp only [G7,Bool.and_eq_true,decide_eq_true_eq] at hB
  obtain ⟨⟨⟨⟨hlen,hBh⟩,hBs⟩,hBt⟩,hseq⟩:=hB
  have hBh':∀i,i<n→qS l.toArray l n i=true:=fun i hi=>List.all_eq_true.1 hBh i (List.mem_range.2 hi)
  have hBt':∀i,n+1≤i→i<l.length→UP l (n+1) i=true:=fun i h1 h2=>by
    have:=List.all_eq_true.1 hBt (i-(n+1)) (List.mem_range.2 (by omega))
    rwa [show n+1+(i-(n+1))=i by omega] at this
  simp only [S0,hTn,Bool.and_eq_true] at hBs
  obtain ⟨⟨⟨⟨⟨⟨hTop,hTg⟩,hTd⟩,hTe⟩,hTl⟩,hTs⟩,hTo⟩:=hBs
  have hTe':=z7 hTe
  obtain ⟨dT,hTd'⟩:=Option.isSome_iff_exists.1 hTd
  have hne:∀j o,j<n→l[j]? =some o→o.dst≠some dT:=by
    intro j o hj ho hd
    have:=List.all_eq_true.1 hTo j (List.mem_range.2 hj)
    simp only [ho,Bool.and_eq_true,bne_iff_ne,ne_eq] at this
    exact this.1 (by rw [hd,hTd'])
  have hTself:∀t∈T.looksAt l.toArray,t≠dT:=by
    intro t ht e
    have:=List.all_eq_true.1 hTs t ht
    rw [hTd',e] at this
    simp at this
  have hnl:∀j o,j<n→l[j]? =some o→∀t∈o.looksAt l.toArray,t≠dT:=by
    intro j o hj ho t ht e
    have:=List.all_eq_true.1 hTo j (List.mem_range.2 hj)
    simp only [ho,Bool.and_eq_true] at this
    have:=List.all_eq_true.1 this.2 t ht
    rw [hTd',e] at this
    simp at this
  have hTg':T.guard=none:=by simpa using hTg
  have apart:∀i j o o' d,i<n→j<n→i≠j→l[i]? =some o→l[j]? =some o'→o.dst=some d→o'.dst≠some d:=by
    intro i j o o' d hi hj hne h1 h2 h3 h4
    have:=hBh' i hi
    simp only [qS,h1,Bool.and_eq_true] at this
    have:=List.all_eq_true.1 this.1.2 j (List.mem_range.2 hj)
    simp only [Bool.or_eq_true,beq_iff_eq,bne_iff_ne,ne_eq,h2,Option.bind_some,h4,h3,not_true_eq_false,or_false] at this
    exact hne this.symm
  have edges:∀i o,i<n→l[i]? =some o→∀e∈o.after,Region.binds .any e=true→e.on<i:=by
    intro i o hi h1
    have:=hBh' i hi
    simp only [qS,h1,Bool.and_eq_true] at this
    exact z7 this.1.1.1.2
  have ahead:∀(listed:Array Bool),(∀i j,listed.getD i false=true→rQ l i j=true→listed.getD j false=true)→(∀j,rQ l n j=true→listed.getD j false=true)→
   ∀i∈RP l n,listed.getD i false=true:=fun listed h1 h2=>
    IS h1 n _ fun i hi=>h2 i (List.mem_filter.1 hi).2
  have agree:∀(listed:Array Bool) (a:Act) (w:World),InvX P l n Q W a0 F listed a w→∀t,t≠dT→(∀j o,j<n→l[j]? =some o→o.dst=some t→listed.getD j false=true)→a.tmps[t]? =F.tmps[t]? :=by
    intro listed a w inv t htd ht
    by_cases hw:∃j o',j<n∧l[j]? =some o'∧o'.dst=some t
    ·obtain ⟨j,o',hj,ho,hd⟩:=hw
     exact inv.head j o' t hj ho hd (ht j o' hj ho hd)
    ·rw [hF3 t fun j o' _ hj h1 h2=>hw ⟨j,o',by omega,h1,h2⟩]
     refine inv.base t fun j o' hj h1 _ h2=>?_
     by_cases hjn:j<n
     ·exact hw ⟨j,o',hjn,h1,h2⟩
     ·have:j=n:=by omega
      subst this
      rw [hTn] at h1;cases h1
      rw [hTd'] at h2;cases h2
      exact htd rfl
  have done:∀(fuel:Nat) (listed:Array Bool) (a:Act) (w:World),InvX P l n Q W a0 F listed a w→cnt listed.toList=fuel→
   (∀i,i<n+1→listed.getD i false=true)→wpAny P .any l.toArray Q fuel listed a w:=by
    intro fuel listed a w inv hc hall
    have hlist:listed.toList=List.replicate (n+1) true++List.replicate (l.length-(n+1)) false:=by
      apply List.ext_getElem?
      intro i
      by_cases h1:i<n+1
      ·rw [eI (by rw [inv.lsize];omega) (hall i h1),List.getElem?_append_left (by simp;omega)]
       simp [h1]
      ·by_cases h2:i<l.length
       ·rw [eI (by rw [inv.lsize];exact h2) (inv.tail i (by omega) h2),List.getElem?_append_right (by simp;omega),List.length_replicate,List.getElem?_replicate,if_pos (by omega)]
       ·rw [List.getElem?_eq_none (by simp [inv.lsize];omega),List.getElem?_eq_none (by simp;omega)]
    have hlist':listed=(List.replicate (n+1) true++List.replicate (l.length-(n+1)) false).toArray:=by
      rw [←hlist]
    have hfuel:fuel=(l.drop (n+1)).length:=by
      rw [←hc,hlist,O9,L7,AA];simp
    subst hfuel
    obtain ⟨u,w1,hb1,hd1,hy1⟩:=inv.post T dT hTn hTd' (hall n (by omega))
    have hframe:a=F.put (some dT) u:=by
      have e1:a.tmps=(F.put (some dT) u).tmps:=by
        apply Array.ext_getElem?
        intro t
        by_cases ht:t=dT
        ·subst ht
         rw [hd1,zH,hF3 t fun j o _ hj ho=>hne j o (by omega) ho]
        ·rw [iO _ _ _ _ (Ne.symm ht)]
         exact agree listed a w inv t ht fun j _ hj _ _=>hall j (by omega)
      have e2:a.defers=(F.put (some dT) u).defers:=by rw [sN,hF1,inv.defers]
      generalize F.put (some dT) u=G at e1 e2
      cases a;cases G;simp only at e1 e2;rw [e1,e2]
    rw [hframe]
    exact wpAny_of_seq (l.drop (n+1)) (n+1) listed _ w (fun j=>by simp) (by rw [hlist'];simpa using hseq) (hy1 ⟨w,hb1⟩)
  intro fuel
  induction fuel with
  |zero=>
   intro listed a w inv hc
   have hz:=FX _ hc
   refine done 0 listed a w inv hc fun i hi=>?_
   cases hb:listed.getD i false with
   |true=>rfl
   |false=>exact (hz i (eI (by rw [inv.lsize];omega) hb)).elim
  |succ fuel ih=>
   intro listed a w inv hc
   by_cases hall:∀i,i<n+1→listed.getD i false=true
   ·exact done _ listed a w inv hc hall
   ·have hex:∃j,j<n+1∧listed.getD j false=false:=Decidable.byContradiction fun hne=>hall fun i hi=>by
      cases hb:listed.getD i false with
      |true=>rfl
      |false=>exact (hne ⟨i,hi,hb⟩).elim
    obtain ⟨j0,hj0,hj1,hj2⟩:=BH _ _ hex
    refine ⟨fun h0=>?_,fun i hi=>?_⟩
    ·obtain ⟨o,ho⟩:∃o,l[j0]? =some o:=⟨l[j0]'(by omega),by simp⟩
     have he:∀e∈o.after,Region.binds .any e=true→e.on<j0:=by
       by_cases hjn:j0<n
       ·exact edges j0 o hjn ho
       ·have:j0=n:=by omega
        subst this
        rw [hTn] at ho;cases ho
        exact hTe'
     have:j0∈Region.ready .any l.toArray listed:=mem_ready.2 ⟨PG (by rw [inv.lsize];omega) hj1,o,by simpa using ho,fun e he' hb=>hj2 _ (he e he' hb)⟩
     rw [h0] at this;cases this
    ·obtain ⟨hi1,o,ho,hdeps⟩:=mem_ready.1 hi
     obtain ⟨hisz,hi1'⟩:=PH hi1
     have ho':l[i]? =some o:=by simpa using ho
     rw [inv.lsize] at hisz
     have hip:i<n+1:=by
       rcases Nat.lt_or_ge i (n+1) with h|h
       ·exact h
       ·have ht:=hBt' i h hisz
        have hm:j0∈clo l (n+1) (n+1) ((List.range (n+1)).filter (rQ l i)):=by simpa using List.all_eq_true.1 ht j0 (List.mem_range.2 hj0)
        have:=IS (p:=fun j=>listed.getD j false=true) inv.closed (n+1) _ (fun j hj=>by
          have he:=(List.mem_filter.1 hj).2
          simp only [rQ,ho'] at he
          obtain ⟨e',h1,h2,h3⟩:=uU he
          rw [←h3];exact hdeps e' h1 h2) j0 hm
        rw [hj1] at this
        cases this
     have hcnt:cnt (listed.setIfInBounds i true).toList=fuel:=by
       have:=IT listed.toList i (eI (by rw [inv.lsize];exact hisz) hi1')
       simp only [Array.toList_setIfInBounds]
       omega
     have old:∀j,j≠i→(listed.setIfInBounds i true).getD j false=listed.getD j false:=fun j hj=>getD_set_ne false (Ne.symm hj)
     have new:(listed.setIfInBounds i true).getD i false=true:=DE (by rw [inv.lsize];exact hisz)
     have up:∀j,listed.getD j false=true→(listed.setIfInBounds i true).getD j false=true:=fun j hj=>by
       by_cases e:j=i
       ·rw [e];exact new
       ·rw [old j e];exact hj
     have hclosed:∀p j,(listed.setIfInBounds i true).getD p false=true→rQ l p j=true→(listed.setIfInBounds i true).getD j false=true:=by
       intro p j hp he
       by_cases e:p=i
       ·subst e
        simp only [rQ,ho'] at he
        obtain ⟨e',h1,h2,h3⟩:=uU he
        rw [←h3];exact up _ (hdeps e' h1 h2)
       ·rw [old p e] at hp
        exact up _ (inv.closed p j hp he)
     by_cases hin:i<n
     ·have hBi:=hBh' i hin
      simp only [qS,ho',Bool.and_eq_true] at hBi
      obtain ⟨⟨⟨⟨hsel,_⟩,hd⟩,_⟩,hlook⟩:=hBi
      obtain ⟨d,hd⟩:=Option.isSome_iff_exists.1 hd
      obtain ⟨v,hy,hFd⟩:=hF4 i o d (Nat.zero_le _) (by omega) ho' hd
      have hya:YE P l.toArray W o v a:=hy.congr (NG hsel) fun t ht=>by
        have hlt:=List.all_eq_true.1 hlook t ht
        refine agree listed a w inv t (hnl i o hin ho' t ht) fun j o' hj ho'' hd'=>?_
        have:=List.all_eq_true.1 hlt j (List.mem_range.2 hj)
        simp only [Bool.or_eq_true,bne_iff_ne,ne_eq,ho'',Option.bind_some,hd',not_true_eq_false,Bool.and_eq_true,decide_eq_true_eq,false_or] at this
        obtain ⟨e,he,hb,hon⟩:=uU this.2
        have hl:=hdeps e he hb
        rw [hon] at hl
        exact hl
      have next:∀w',Below w.heap.size w w'→InvX P l n Q W a0 F (listed.setIfInBounds i true) (a.put o.dst v) w':=by
        intro w' hbw
        refine ⟨by simp [inv.lsize],by rw [sN,inv.defers],by rw [zJ,inv.size],?_,?_,?_,hclosed,?_,?_⟩
        ·intro k h1 h2
         rw [old k (by omega)]
         exact inv.tail k h1 h2
        ·intro t ht
         rw [hd,iO]
         ·refine inv.base t fun k o' hk h1 h2 h3=>?_
          by_cases hki:k=i
          ·subst hki
           rw [hi1'] at h2;cases h2
          ·exact ht k o' hk h1 (by rw [old k hki];exact h2) h3
         ·intro e;subst e
          exact ht i o (by omega) ho' new hd
        ·intro k o' d' hk h1 h2 h3
         by_cases hki:k=i
         ·subst hki
          rw [ho'] at h1;cases h1
          rw [hd] at h2;cases h2
          have hsame:(a.tmps[d]?).map (fun _=>v)=(a0.tmps[d]?).map (fun _=>v):=by
            by_cases hz:d<a.tmps.size
            ·have hz':d<a0.tmps.size:=by rw [←inv.size];exact hz
             simp [hz,hz']
            ·have hz':¬d<a0.tmps.size:=by rw [←inv.size];exact hz
             simp [hz,hz']
          rw [hd,zH,hFd,hsame]
         ·rw [hd,iO _ _ _ _ (fun e=>apart i k o o' d (by omega) (by omega) (Ne.symm hki) ho' h1 hd (by rw [h2,e]))]
          exact inv.head k o' d' hk h1 h2 (by rw [←old k hki];exact h3)
        ·exact inv.below.trans (hbw.mono inv.below.size)
        ·intro T' d' h1 h2 h3
         rw [old n (by omega)] at h3
         obtain ⟨u,w1,g1,g2,g3⟩:=inv.post T' d' h1 h2 h3
         refine ⟨u,w1,g1.trans (hbw.mono g1.size),?_,g3⟩
         rw [hTn] at h1;cases h1
         rw [hTd'] at h2;cases h2
         rw [hd,iO _ _ _ _ (fun e=>hne i o hin ho' (by rw [hd,e]))]
         exact g2
      exact IJ ho inv.below hya fun w' hbw=>ih _ _ _ (next w' hbw) hcnt
     ·have hii:i=n:=by omega
      subst hii
      rw [hTn] at ho';cases ho'
      obtain ⟨u,w',hrun,hbw,hrest⟩:=hT ⟨w,inv.below⟩
      have hah:=ahead listed inv.closed (fun j he=>by
        simp only [rQ,hTn] at he
        obtain ⟨e',h1,h2,h3⟩:=uU he
        rw [←h3];exact hdeps e' h1 h2)
      have hex:execOp a.eval T=execOp F.eval T:=execOp_congr T (fun cs b e=>by rw [e] at hTop;cases hTop) fun x hx=>by
        cases x with
        |tmp t=>
         have hlt:=List.all_eq_true.1 hTl t (List.mem_append_left _ (List.mem_filterMap.2 ⟨.tmp t,by simpa using hx,rfl⟩))
         have htd:t≠dT:=hTself t (List.mem_append_left _ (List.mem_filterMap.2 ⟨.tmp t,by simpa using hx,rfl⟩))
         have:=agree listed a w inv t htd fun j o' hj ho'' hd'=>by
           have:=List.all_eq_true.1 hlt j (List.mem_range.2 hj)
           simp only [Bool.or_eq_true,bne_iff_ne,ne_eq,ho'',Option.bind_some,hd',not_true_eq_false,false_or] at this
           exact hah j (by simpa using this)
         simp only [Act.eval,Array.getD_eq_getD_getElem?,this]
        |_=>rfl
      unfold wpOp
      simp only [ho,Region.wanted,hTg',if_true]
      left
      unfold Oper.wp
      rw [hex,hrun]
      show wpAny P .any l.toArray Q fuel _ (a.put T.dst u) w'
      refine ih _ _ _ ?_ hcnt
      refine ⟨by simp [inv.lsize],by rw [sN,inv.defers],by rw [zJ,inv.size],?_,?_,?_,hclosed,inv.below.trans (hbw.mono inv.below.size),?_⟩
      ·intro k h1 h2
       rw [old k (by omega)]
       exact inv.tail k h1 h2
      ·intro t ht
       have htd:dT≠t:=fun e=>ht i T (by omega) hTn new (by rw [hTd',e])
       rw [hTd',iO _ _ _ _ htd]
       exact inv.base t fun k o' hk h1 h2 h3=>ht k o' hk h1 (up k h2) h3
      ·intro k o' d' hk h1 h2 h3
       rw [hTd',iO _ _ _ _ (fun e=>hne k o' hk h1 (by rw [h2,e]))]
       exact inv.head k o' d' hk h1 h2 (by rw [←old k (by omega)];exact h3)
      ·intro T' d' h1 h2 _
       rw [hTn] at h1;cases h1
       rw [hTd'] at h2;cases h2
       refine ⟨u,w',Below.refl _ _,?_,?_⟩
       ·have hsame:(a.tmps[dT]?).map (fun _=>u)=(a0.tmps[dT]?).map (fun _=>u):=by
          by_cases hz:dT<a.tmps.size
          ·have hz':dT<a0.tmps.size:=by rw [←inv.size];exact hz
           simp [hz,hz']
          ·have hz':¬dT<a0.tmps.size:=by rw [←inv.size];exact hz
           simp [hz,hz']
        rw [hTd',zH,hsame]
       ·rw [hTd'] at hrest;exact hrest
theorem OX {P:Program} {id:Nat} {Q:Exit→Act→World→Prop} {a:Act} {w:World} {l:List Oper} (n:Nat) (T:Oper) (hTn:l[n]? =some T) (hm:P.follows .mixedOrders=true) (hB:G7 l n=true)
    (h:wpE P l.toArray w (fun F=>∀x:Ext w,∃u w',(execOp F.eval T).run P x.val= .ok (.value u) w'∧Below x.val.heap.size x.val w'∧∀y:Ext w',wpList P l.toArray Q (l.drop (n+1)) (F.put T.dst u) y.val) (l.take n) a):(Code.region id l.toArray true).wp P Q a w:=by
  refine wp_region_any hm ?_
  have hB':=hB
  simp only [G7,Bool.and_eq_true,decide_eq_true_eq] at hB'
  obtain ⟨⟨⟨⟨hlen,hBh⟩,_⟩,_⟩,_⟩:=hB'
  have hl:(l.take n).length=n:=by simp;omega
  obtain ⟨F,hK,h1,h2,h3,h4⟩:=CP l n (l.take n) 0 a
    (fun j hj=>by rw [hl] at hj;simp [hj])
    (fun j hj=>by rw [hl] at hj;simpa using List.all_eq_true.1 hBh j (List.mem_range.2 hj)) (by omega) h
  rw [hl] at h3 h4
  refine OF (n:=n) (W:=w) (a0:=a) (F:=F) hTn hB h1 h3 h4 hK _ _ _ _ ?_ ?_
  ·have hr:∀i,(Array.replicate l.toArray.size false).getD i false=false:=fun i=>by
     rw [Array.getD_eq_getD_getElem?,Array.getElem?_replicate];split<;>rfl
   refine ⟨by simp,rfl,rfl,fun i _ _=>hr i,fun t _=>rfl,?_,?_,rO w,?_⟩
   ·intro i o d _ _ _ hx;rw [hr] at hx;cases hx
   ·intro i j hx;rw [hr] at hx;cases hx
   ·intro _ _ _ _ hx;rw [hr] at hx;cases hx
  ·simp [AA]
end
section
open Go.RowKit
section
variable {κ β:Type} [DecidableEq κ]
def fE (k:κ):List κ→Nat→Option Nat
  |[],_=>none
  |a::r,i=>bif decide (k=a) then some i else fE k r (i+1)
def cO (k:κ):List (κ×β)→Option β
  |[]=>none
  |p::r=>bif decide (k=p.1) then some p.2 else cO k r
def xR (k:κ) (v:β):List (κ×β)→List (κ×β)
  |[]=>[(k,v)]
  |p::r=>bif decide (k=p.1) then (k,v)::r else p::xR k v r
def w6 (k:κ):List (κ×β)→List (κ×β)
  |[]=>[]
  |p::r=>bif decide (k=p.1) then r else p::w6 k r
def iX (ke:κ→Value) (vf:β→AV) (S:List (κ×β)):List (Value×AV):=S.map fun p=>(ke p.1,vf p.2)
def aV (ke:κ→Value) (vf:β→AV) (S:List (κ×β)):List AV:=mapG (iX ke vf S)
theorem lD (k:κ):∀(l:List κ) (i:Nat),fE k l i=(fE k l 0).map (· +i)
  |[],i=>rfl
  |a::r,i=>by
   unfold fE
   cases h:decide (k=a) with
   |true=>simp
   |false=>
    simp only [cond_false]
    rw [lD k r (i+1),lD k r (0+1),Option.map_map]
    congr 1
    funext x
    simp only [Function.comp_apply];omega
theorem PI {k:κ}:∀{l:List κ} {j:Nat},fE k l 0=some j→l[j]? =some k
  |a::r,j,h=>by
   unfold fE at h
   cases e:decide (k=a) with
   |true=>
    rw [e] at h
    cases h
    rw [of_decide_eq_true e];rfl
   |false=>
    rw [e,cond_false,lD] at h
    obtain ⟨i,hi,rfl⟩:=Option.map_eq_some_iff.1 h
    have:=PI hi
    simpa using this
theorem MP (k:κ):∀(S:List (κ×β)),cO k S=(fE k (S.map Prod.fst) 0).bind fun j=>(S[j]?).map Prod.snd
  |[]=>rfl
  |p::r=>by
   unfold cO
   rw [List.map_cons]
   unfold fE
   cases h:decide (k=p.1) with
   |true=>simp
   |false=>
    simp only [cond_false]
    rw [MP k r,lD k _ (0+1)]
    cases fE k (r.map Prod.fst) 0<;>simp
theorem EL {k:κ} {v:β}:∀{S:List (κ×β)},fE k (S.map Prod.fst) 0=none→xR k v S=S++[(k,v)]
  |[],_=>rfl
  |p::r,h=>by
   rw [List.map_cons] at h
   unfold fE at h
   unfold xR
   cases e:decide (k=p.1) with
   |true=>rw [e] at h;cases h
   |false=>
    rw [e,cond_false,lD] at h
    rw [cond_false,EL (by simpa using h)];rfl
theorem KI {k:κ} {v:β}:∀{S:List (κ×β)} {j:Nat},fE k (S.map Prod.fst) 0=some j→xR k v S=S.set j (k,v)
  |p::r,j,h=>by
   rw [List.map_cons] at h
   unfold fE at h
   unfold xR
   cases e:decide (k=p.1) with
   |true=>rw [e] at h;cases h;rfl
   |false=>
    rw [e,cond_false,lD] at h
    obtain ⟨i,hi,rfl⟩:=Option.map_eq_some_iff.1 h
    rw [cond_false,KI hi];rfl
theorem DY {k:κ}:∀{S:List (κ×β)},fE k (S.map Prod.fst) 0=none→w6 k S=S
  |[],_=>rfl
  |p::r,h=>by
   rw [List.map_cons] at h
   unfold fE at h
   unfold w6
   cases e:decide (k=p.1) with
   |true=>rw [e] at h;cases h
   |false=>
    rw [e,cond_false,lD] at h
    rw [cond_false,DY (by simpa using h)]
theorem DZ {k:κ}:∀{S:List (κ×β)} {j:Nat},fE k (S.map Prod.fst) 0=some j→w6 k S=S.eraseIdx j
  |p::r,j,h=>by
   rw [List.map_cons] at h
   unfold fE at h
   unfold w6
   cases e:decide (k=p.1) with
   |true=>rw [e] at h;cases h;rfl
   |false=>
    rw [e,cond_false,lD] at h
    obtain ⟨i,hi,rfl⟩:=Option.map_eq_some_iff.1 h
    rw [cond_false,DZ hi];rfl
theorem n2 {α γ:Type} (f:α→γ):∀(l:List α) (i:Nat),(l.eraseIdx i).map f=(l.map f).eraseIdx i
  |[],_=>rfl
  |_::_,0=>rfl
  |a::r,i+1=>by
   show f a::(r.eraseIdx i).map f=f a::(r.map f).eraseIdx i
   rw [n2 f r i]
structure KeyT (P:Program) (kt:TypeId) (ke:κ→Value):Prop where
  chk:∀e k w,(Instr.checkKey e 10000 kt (ke k)).run P w= .ok () w
  fnd:∀(k:κ) (ks:List κ) (es:List MapEntry) (w:World),es.map (·.key)=ks.map ke→(Instr.findKey kt (ke k) es).run P w= .ok ((fE k ks 0).bind fun j=>(es[j]?).map fun e=>(j,e.val)) w
  stays:∀k w,(Instr.keyThatStays (ke k) (ke k)).run P w= .ok (ke k) w
end
def keS (l:List UInt8):Value:= .string ⟨l.toArray⟩
theorem FI (k:List UInt8):∀(ks:List (List UInt8)) (es:List MapEntry) (o:Nat),es.map (·.key)=ks.map keS→Instr.findNow .string (keS k) es o=some ((fE k ks 0).bind fun j=>(es[j]?).map fun e=>(j+o,e.val))
  |[],[],o,_=>rfl
  |[],_::_,o,h=>by cases h
  |a::r,[],o,h=>by cases h
  |a::r,e::es,o,h=>by
   rw [List.map_cons,List.map_cons,List.cons.injEq] at h
   have ih:=FI k r es (o+1) h.2
   have hs:Instr.sameNow .string (keS k) e.key=some (decide (k=a)):=by rw [h.1];simp only [keS,Instr.sameNow,S3]
   unfold Instr.findNow fE
   rw [hs]
   cases hd:decide (k=a) with
   |true=>simp
   |false=>
    simp only [cond_false]
    rw [ih,lD k r (0+1)]
    cases fE k r 0 with
    |none=>rfl
    |some j=>simp;rw [show j+(o+1)=j+1+o by omega]
theorem lE {P:Program} {kt:TypeId} (hkt:P.underlying kt=some .string):KeyT P kt keS:=
  ⟨fun e k w=>MapKept.run_checkKey (k:=keS k) hkt trivial e 9999,fun k ks es w h=>by
    have:=FI k ks es 0 h
    rw [MapKept.run_findKey hkt this]
    simp,fun k w=>MapKept.run_keyThatStays (d:= .string) (k:=keS k) trivial⟩
section
variable {P:Program} {n:Nat} {s:St} {ops:Array Oper} {o:Oper} {rest:List Oper} {Q:St→Prop} {d:Nat} {t kt et:TypeId} {x y z:Operand} {κ β:Type} [DecidableEq κ] {ke:κ→Value} {vf:β→AV} {S:List (κ×β)} {kt':TypeId}
omit [DecidableEq κ] in
theorem TF :(iX ke vf S).map (·.1)=(S.map Prod.fst).map ke:=by unfold iX;simp
theorem RelSt.toG {G:Gh} {a:Act} {w:World} {id:Nat} {T:List (List UInt8×AV)} (hr:RelSt P G n s a w) (hc:s.mem id=some (sK T)):RelSt P G n {s with mem:=bA s.mem id (mapG (T.map fun p=>(keS p.1,p.2)))} a w:=by
  refine ⟨hr.size,hr.defers,hr.slot,hr.loc,⟨fun i cs hi=>?_,hr.mem.far,hr.mem.fin⟩⟩
  have hi':bA s.mem id (mapG (T.map fun p=>(keS p.1,p.2))) i=some cs:=hi
  by_cases e:i=id
  ·subst e
   rw [bP] at hi'
   cases hi'
   obtain ⟨b,hb,hX⟩:=hr.mem.obj i _ hc
   obtain ⟨es,clock,hh,ho1,ht1,⟨he1,he2,he3⟩,he4⟩:=hX.map
   refine ⟨b,hb,.inr (.inr (.inr ⟨_,rfl,es,clock,hh,ho1,ht1,?_,fun i k x h=>?_⟩))⟩
   ·apply List.ext_getElem?
    intro i
    rw [List.getElem?_map,List.getElem?_map,List.getElem?_map]
    cases hT:T[i]? with
    |none=>
     have:es.toList[i]? =none:=by
       rw [List.getElem?_eq_none_iff] at hT ⊢
       simpa [he1] using hT
     rw [this];rfl
    |some p=>
     obtain ⟨e,a1,a2,_⟩:=he4 i p.1 p.2 hT
     have:es.toList[i]? =some e:=by simpa using a1
     rw [this]
     simp [a2,keS]
   ·rw [List.getElem?_map] at h
    obtain ⟨p,h1,h2⟩:=Option.map_eq_some_iff.1 h
    cases h2
    obtain ⟨e,a1,_,a3⟩:=he4 i p.1 p.2 h1
    exact ⟨e,a1,a3⟩
  ·rw [bT e] at hi'
   exact hr.mem.obj i cs hi'
theorem RelSt.setG {G:Gh} {a:Act} {w:World} {id b0:Nat} {S:List (Value×AV)} {S':List (Value×AV)} {es':Array MapEntry} {clock':Nat} (hr:RelSt P G n s a w) (hc:s.mem id=some (mapG S)) (hb0:G.mb id=some b0)
    (hes:es'.toList.map (·.key)=S'.map (·.1)) (hS:∀(i:Nat) k x,S'[i]? =some (k,x)→∃e,es'[i]? =some e∧RelV P G w x e.val):
    RelSt P G n {s with mem:=bA s.mem id (mapG S')} a {w with heap:=w.heap.setIfInBounds b0 (.map es' clock')}∧Keep G w G {w with heap:=w.heap.setIfInBounds b0 (.map es' clock')}:=by
  obtain ⟨b',hb',hX⟩:=hr.mem.obj id _ hc
  rw [hb0] at hb'
  cases hb'
  obtain ⟨es,clock,hh,ho1,ht1,_,_⟩:=hX.mapG
  obtain ⟨W',hW⟩:∃W':World,W'={w with heap:=w.heap.setIfInBounds b0 (.map es' clock')}:=⟨_,rfl⟩
  rw [←hW]
  have hset:=MapKept.heap_set (o':= .map es' clock') hh
  have hnew:W'.heap[b0]? =some (.map es' clock'):=by rw [hW];exact hset.1
  have hoth:∀b,b≠b0→W'.heap[b]? =w.heap[b]? :=fun b h=>by rw [hW];exact hset.2 b h
  have st:Stab G w G W':=by
    refine ⟨fun _=>Nat.le_refl _,fun b oo hoo=>?_,fun _ _ h=>h⟩
    have hne:b≠b0:=fun e=>by rw [e,ht1] at hoo;omega
    exact World.cell?_of_block (w:=w) (a:=⟨b,oo,none⟩) (hoth b hne)
  have other:∀q b,G.owner b=some q→q≠ .mb id→W'.heap[b]? =w.heap[b]? :=by
    intro q b h1 h2
    refine hoth b (fun e=>h2 ?_)
    rw [e,ho1] at h1
    exact (Option.some.inj h1).symm
  have hzz:W'.heap.size=w.heap.size:=by rw [hW];simp
  have hz:w.heap.size≤W'.heap.size:=by omega
  refine ⟨⟨hr.size,hr.defers,fun i=>?_,fun k1 cells1 hk1=>?_,⟨fun i cs hi=>?_,fun b hb=>hr.mem.far b (by omega),hr.mem.fin⟩⟩,⟨by rw [hW],by rw [hW],by rw [hW],hz,fun b hb hn=>⟨hn,?_,rfl⟩,st⟩⟩
  ·exact (hr.slot i).move st hz (fun _ _ _=>rfl) (fun c b _ h2=>⟨h2,other _ b h2 (by intro h;cases h),rfl⟩)
  ·have h0:=hr.loc k1 cells1 hk1
   exact h0.move st hz (other _ _ h0.own (by intro h;cases h)) rfl rfl (fun c b _ h2=>⟨h2,other _ b h2 (by intro h;cases h),rfl⟩)
  ·have hi':bA s.mem id (mapG S') i=some cs:=hi
   by_cases e:i=id
   ·subst e
    rw [bP] at hi'
    cases hi'
    exact ⟨b0,hb0,.inr (.inr (.inr ⟨S',rfl,es',clock',hnew,ho1,ht1,hes,fun i k x h=>by obtain ⟨e,a1,a3⟩:=hS i k x h;exact ⟨e,a1,a3.stab st⟩⟩))⟩
   ·rw [bT e] at hi'
    obtain ⟨b2,hb2,hh2⟩:=hr.mem.obj i cs hi'
    exact ⟨b2,hb2,hh2.move st hz (fun _ hw=>⟨other _ _ hw (by intro h;injection h with h;exact e h),rfl,rfl⟩) (fun c b _ h2=>⟨h2,other _ b h2 (by intro h;cases h),rfl⟩)⟩
  ·exact hoth b (fun e=>by rw [e,ho1] at hn;cases hn)
theorem LM {G:Gh} {w:World} {es:Array MapEntry} (K:KeyT P kt ke) (k:κ) (hk:es.toList.map (·.key)=(iX ke vf S).map (·.1)) (hv:∀(i:Nat) q x,(iX ke vf S)[i]? =some (q,x)→∃e,es[i]? =some e∧RelV P G w x e.val):
    (fE k (S.map Prod.fst) 0=none∧cO k S=none∧∀w,(Instr.findKey kt (ke k) es.toList).run P w= .ok none w)∨
    ∃j e v,fE k (S.map Prod.fst) 0=some j∧S[j]? =some (k,v)∧cO k S=some v∧es[j]? =some e∧e.key=ke k∧RelV P G w (vf v) e.val∧∀w,(Instr.findKey kt (ke k) es.toList).run P w= .ok (some (j,e.val)) w:=by
  have hf:=fun w=>K.fnd k (S.map Prod.fst) es.toList w (by rw [hk,TF])
  have hg:=MP k S
  cases hi:fE k (S.map Prod.fst) 0 with
  |none=>
   rw [hi] at hg
   exact .inl ⟨rfl,hg,fun w=>by rw [hf w,hi];rfl⟩
  |some j=>
   rw [hi] at hg
   have h1:=PI hi
   rw [List.getElem?_map] at h1
   obtain ⟨p,h2,h3⟩:=Option.map_eq_some_iff.1 h1
   obtain ⟨k',v⟩:=p
   cases h3
   obtain ⟨e,a1,a2⟩:=hv j (ke k') (vf v) (by unfold iX;rw [List.getElem?_map,h2];rfl)
   have ek:e.key=ke k':=by
     have h4:=congrArg (fun l=>l[j]?) hk
     simp only [List.getElem?_map,iX,h2,Option.map_some] at h4
     have:es.toList[j]? =some e:=by simpa using a1
     rw [this] at h4
     simpa using h4
   refine .inr ⟨j,e,v,rfl,h2,?_,a1,ek,a2,fun w=>?_⟩
   ·rw [hg];simp [h2]
   ·rw [hf w,hi];simp [a1]
theorem N4 {id:Nat} {k:κ} {z1:β} {z0:Value} (K:KeyT P kt ke) (ht:P.underlying t=some (.map kt et)) (hz:(P.info? et).map (·.zero)=some (some z0)) (hzv:∀G w,RelV P G w (vf z1) z0) (hfl:∀v,(vf v).flat=true)
    (hc:s.mem id=some (aV ke vf S)) (hy:∀(G:Gh) a w,RelSt P G n s a w→a.eval y=ke k) (ho:o.op= .lookup t x y true:=by rfl) (hx:s.eval x= .gmap id:=by rfl):aH P n s o d (.tuple [vf ((cO k S).getD z1),.lit (.bool (cO k S).isSome)]):=by
  intro G a w hr
  obtain ⟨b0,hb0,hav⟩:=hr.evM hx
  obtain ⟨b',hb',hX⟩:=hr.mem.obj id _ hc
  rw [hb0] at hb'
  cases hb'
  obtain ⟨es,clock,hh,ho1,ht1,he1,he4⟩:=hX.mapG
  have hky:=hy G a w hr
  have hgo:∀w',Below w.heap.size w w'→w'.heap[b0]? =some (.map es clock):=fun w' hw=>(hw.block b0 (Array.getElem?_eq_some_iff.1 hh).1).trans hh
  rcases LM K k he1 he4 with ⟨_,e2,hf⟩|⟨j,e,v,_,_,e2,a1,_,a3,hf⟩
  ·refine ⟨.tuple [z0,.bool false].toArray,?_,fun w' hw=>?_⟩
   ·refine ⟨[z0,.bool false],rfl,rfl,fun j c u h1 h2=>?_⟩
    match j,h1,h2 with
    |0,h1,h2=>cases h1;cases h2;rw [e2];exact (hzv G w).toO (hfl _)
    |1,h1,h2=>cases h1;cases h2;rw [e2];exact RelV.lit _
    |_+2,h1,h2=>cases h1
   ·have hz':(zeroValue et).run P w'= .ok z0 w':=by
      cases hi:P.info? et with
      |none=>simp [hi] at hz
      |some i=>simp only [hi,Option.map_some,Option.some.injEq] at hz;simp [zeroValue,typeInfo,hi,hz]
    have h1:(Instr.lookup t (.map (some b0)) (ke k) true).run P w'= .ok (.tuple #[z0,.bool false]) w':=by
      simp [Instr.lookup,run_underlying ht,MapKept.run_getObj_map (hgo w' hw),K.chk,hf,hz',Result.andThen]
    simp [execOp,ho,hav,hky,h1]
  ·refine ⟨.tuple [e.val,.bool true].toArray,?_,fun w' hw=>?_⟩
   ·refine ⟨[e.val,.bool true],rfl,rfl,fun j c u h1 h2=>?_⟩
    match j,h1,h2 with
    |0,h1,h2=>cases h1;cases h2;rw [e2];exact a3.toO (hfl _)
    |1,h1,h2=>cases h1;cases h2;rw [e2];exact RelV.lit _
    |_+2,h1,h2=>cases h1
   ·have h1:(Instr.lookup t (.map (some b0)) (ke k) true).run P w'= .ok (.tuple #[e.val,.bool true]) w':=by
      simp [Instr.lookup,run_underlying ht,MapKept.run_getObj_map (hgo w' hw),K.chk,hf,Result.andThen]
    simp [execOp,ho,hav,hky,h1]
theorem N7 {id:Nat} {k:κ} {z1:β} {z0:Value} (K:KeyT P kt ke) (ht:P.underlying t=some (.map kt et)) (hz:(P.info? et).map (·.zero)=some (some z0)) (hzv:∀G w,RelV P G w (vf z1) z0) (hfl:∀v,(vf v).flat=true)
    (hc:s.mem id=some (aV ke vf S)) (hy:∀(G:Gh) a w,RelSt P G n s a w→a.eval y=ke k) (ho:o.op= .lookup t x y false:=by rfl) (hx:s.eval x= .gmap id:=by rfl):aH P n s o d (vf ((cO k S).getD z1)):=by
  intro G a w hr
  obtain ⟨b0,hb0,hav⟩:=hr.evM hx
  obtain ⟨b',hb',hX⟩:=hr.mem.obj id _ hc
  rw [hb0] at hb'
  cases hb'
  obtain ⟨es,clock,hh,ho1,ht1,he1,he4⟩:=hX.mapG
  have hky:=hy G a w hr
  have hgo:∀w',Below w.heap.size w w'→w'.heap[b0]? =some (.map es clock):=fun w' hw=>(hw.block b0 (Array.getElem?_eq_some_iff.1 hh).1).trans hh
  rcases LM K k he1 he4 with ⟨_,e2,hf⟩|⟨j,e,v,_,_,e2,a1,_,a3,hf⟩
  ·refine ⟨z0,by rw [e2];exact (hzv G w).toS (hfl _),fun w' hw=>?_⟩
   have hz':(zeroValue et).run P w'= .ok z0 w':=by
     cases hi:P.info? et with
     |none=>simp [hi] at hz
     |some i=>simp only [hi,Option.map_some,Option.some.injEq] at hz;simp [zeroValue,typeInfo,hi,hz]
   have h1:(Instr.lookup t (.map (some b0)) (ke k) false).run P w'= .ok z0 w':=by
     simp [Instr.lookup,run_underlying ht,MapKept.run_getObj_map (hgo w' hw),K.chk,hf,hz',Result.andThen]
   simp [execOp,ho,hav,hky,h1]
  ·refine ⟨e.val,by rw [e2];exact a3.toS (hfl _),fun w' hw=>?_⟩
   have h1:(Instr.lookup t (.map (some b0)) (ke k) false).run P w'= .ok e.val w':=by
     simp [Instr.lookup,run_underlying ht,MapKept.run_getObj_map (hgo w' hw),K.chk,hf,Result.andThen]
   simp [execOp,ho,hav,hky,h1]
theorem JW {id:Nat} {k:κ} {v:β} {M':Nat→Option (List AV)} (K:KeyT P kt ke) (hg:bY ops s o) (hd:o.dst=none) (ho:o.op= .mapUpdate t x y z∨o.op= .insert t x y z) (ht:P.underlying t=some (.map kt et))
    (hx:s.eval x= .gmap id) (hc:s.mem id=some (aV ke vf S)) (hy:∀(G:Gh) a w,RelSt P G n s a w→a.eval y=ke k) (hz:jF s z (vf v)) (hok:Operand.ok z=true) (hM:bA s.mem id (aV ke vf (xR k v S))=M') (kk:aM P n ops rest {s with mem:=M'} Q):aM P n ops (o::rest) s Q:=by
  subst hM
  refine wB hg hd ?_ kk
  intro G a w hr
  obtain ⟨b0,hb0,hav⟩:=hr.evM hx
  obtain ⟨b',hb',hX⟩:=hr.mem.obj id _ hc
  rw [hb0] at hb'
  cases hb'
  obtain ⟨es,clock,hh,ho1,ht1,he1,he4⟩:=hX.mapG
  have hky:=hy G a w hr
  have hrv:=hz.rel hr (i7 hok)
  rcases LM K k he1 he4 with ⟨hi,_,hf⟩|⟨j,e,v',hi,hS,_,a1,ek,_,hf⟩
  ·have hrun:(execOp a.eval o).run P w= .ok .skip {w with heap:=w.heap.setIfInBounds b0 (.map (es.push {key:=ke k,val:=a.eval z,born:=clock}) (clock+1))}:=by
     have h1:(Instr.mapUpdate t (.map (some b0)) (ke k) (a.eval z)).run P w= .ok () {w with heap:=w.heap.setIfInBounds b0 (.map (es.push {key:=ke k,val:=a.eval z,born:=clock}) (clock+1))}:=by
       simp [Instr.mapUpdate,run_underlying ht,MapKept.run_getObj_map hh,K.chk,hf,MapKept.run_setObj_map _ hh,Result.andThen]
     rcases ho with ho|ho<;>simp [execOp,ho,hav,hky,h1]
   rw [EL hi]
   have hl:es.size=S.length:=by have:=congrArg List.length he1;simpa [iX] using this
   obtain ⟨r1,r2⟩:=hr.setG (S':=iX ke vf (S++[(k,v)])) (es':=es.push {key:=ke k,val:=a.eval z,born:=clock}) (clock':=clock+1) hc hb0
     (by
       have h2:=he1
       unfold iX at h2 ⊢
       simp only [Array.toList_push,List.map_append,h2,List.map_cons,List.map_nil])
     (fun i q x h=>by
       unfold iX at h
       rw [List.map_append] at h
       by_cases hlt:i<S.length
       ·rw [List.getElem?_append_left (by simpa using hlt)] at h
        obtain ⟨e,b1,b2⟩:=he4 i q x h
        have:=(Array.getElem?_eq_some_iff.1 b1).1
        exact ⟨e,by rw [Array.getElem?_push,if_neg (by omega)];exact b1,b2⟩
       ·rw [List.getElem?_append_right (by simpa using hlt)] at h
        have h0:i-(S.map fun p=>(ke p.1,vf p.2)).length=0:=by
          have:=(List.getElem?_eq_some_iff.1 h).1
          simp at this ⊢;omega
        rw [h0] at h
        simp only [List.map_cons,List.map_nil,List.getElem?_cons_zero,Option.some.injEq] at h
        cases h
        refine ⟨{key:=ke k,val:=a.eval z,born:=clock},?_,hrv⟩
        simp at h0
        have:i=es.size:=by omega
        rw [this];simp)
   exact ⟨_,G,hrun,r1,r2⟩
  ·have hrun:(execOp a.eval o).run P w= .ok .skip {w with heap:=w.heap.setIfInBounds b0 (.map (es.modify j fun e=>{e with key:=ke k,val:=a.eval z}) clock)}:=by
     have h1:(Instr.mapUpdate t (.map (some b0)) (ke k) (a.eval z)).run P w= .ok () {w with heap:=w.heap.setIfInBounds b0 (.map (es.modify j fun e=>{e with key:=ke k,val:=a.eval z}) clock)}:=by
       simp [Instr.mapUpdate,run_underlying ht,MapKept.run_getObj_map hh,K.chk,hf,a1,ek,K.stays,MapKept.run_setObj_map _ hh,Result.andThen]
     rcases ho with ho|ho<;>simp [execOp,ho,hav,hky,h1]
   rw [KI hi]
   obtain ⟨r1,r2⟩:=hr.setG (S':=iX ke vf (S.set j (k,v))) (es':=es.modify j fun e=>{e with key:=ke k,val:=a.eval z}) (clock':=clock) hc hb0
     (by
       apply List.ext_getElem?
       intro i
       have h2:=congrArg (fun l=>l[i]?) he1
       simp only [List.getElem?_map] at h2 ⊢
       have e3:(es.modify j fun e=>{e with key:=ke k,val:=a.eval z}).toList[i]? =(es.modify j fun e=>{e with key:=ke k,val:=a.eval z})[i]? :=Array.getElem?_toList
       rw [e3,Array.getElem?_modify]
       unfold iX
       rw [List.getElem?_map,List.getElem?_set]
       by_cases hij:j=i
       ·subst hij
        have:=(List.getElem?_eq_some_iff.1 hS).1
        rw [if_pos rfl,if_pos rfl,a1,if_pos this]
        rfl
       ·rw [if_neg hij,if_neg hij]
        have e4:es.toList[i]? =es[i]? :=by simp
        rw [e4] at h2
        rw [h2]
        unfold iX
        rw [List.getElem?_map])
     (fun i q x h=>by
       unfold iX at h
       rw [List.getElem?_map,List.getElem?_set] at h
       by_cases hij:j=i
       ·subst hij
        have:=(List.getElem?_eq_some_iff.1 hS).1
        rw [if_pos rfl,if_pos this] at h
        cases h
        exact ⟨_,by rw [Array.getElem?_modify,if_pos rfl,a1];rfl,hrv⟩
       ·rw [if_neg hij] at h
        obtain ⟨e,b1,b2⟩:=he4 i q x (by unfold iX;rw [List.getElem?_map];exact h)
        exact ⟨e,by rw [Array.getElem?_modify,if_neg hij];exact b1,b2⟩)
   exact ⟨_,G,hrun,r1,r2⟩
theorem RL {id:Nat} {k:κ} {c:Call} {M':Nat→Option (List AV)} (K:KeyT P kt ke) (hg:bY ops s o) (hd:o.dst=none) (ho:o.op= .call c) (hcl:c.callee= .builtin .delete) (ha:c.args=#[x,y]) (hat:c.argTypes=#[t,kt']) (ht:P.underlying t=some (.map kt et))
    (hx:s.eval x= .gmap id) (hc:s.mem id=some (aV ke vf S)) (hy:∀(G:Gh) a w,RelSt P G n s a w→a.eval y=ke k) (hM:bA s.mem id (aV ke vf (w6 k S))=M') (kk:aM P n ops rest {s with mem:=M'} Q):aM P n ops (o::rest) s Q:=by
  subst hM
  intro G a w C hr hfx hK
  simp only [wpList]
  rw [if_pos (eR hr (fun t=>by omega) hg)]
  left
  obtain ⟨b0,hb0,hav⟩:=hr.evM hx
  obtain ⟨b',hb',hX⟩:=hr.mem.obj id _ hc
  rw [hb0] at hb'
  cases hb'
  obtain ⟨es,clock,hh,ho1,ht1,he1,he4⟩:=hX.mapG
  have hky:=hy G a w hr
  have hl:es.size=S.length:=by have:=congrArg List.length he1;simpa [iX] using this
  obtain ⟨es',hrun,hes,hS⟩:∃es',(execOp a.eval o).run P w= .ok (.value (.tuple #[])) {w with heap:=w.heap.setIfInBounds b0 (.map es' clock)}∧es'.toList.map (·.key)=(iX ke vf (w6 k S)).map (·.1)∧∀(i:Nat) q x,(iX ke vf (w6 k S))[i]? =some (q,x)→∃e,es'[i]? =some e∧RelV P G w x e.val:=by
    rcases LM K k he1 he4 with ⟨hi,_,hf⟩|⟨j,e,v',hi,hSj,_,a1,ek,_,hf⟩
    ·refine ⟨es,?_,?_,?_⟩
     ·have h1:∀ty,(Builtin.delete_ #[t,kt'] ty #[.map (some b0),ke k]).run P w= .ok (.tuple #[]) {w with heap:=w.heap.setIfInBounds b0 (.map es clock)}:=by
        intro ty
        simp [Builtin.delete_,run_underlying ht,MapKept.run_getObj_map hh,K.chk,hf,MapKept.run_setObj_map _ hh,Result.andThen]
      simp [execOp,ho,resolve,hcl,ha,hat,hav,hky,invoke,builtin,h1]
     ·rw [DY hi];exact he1
     ·rw [DY hi];exact he4
    ·have hjl:j<es.size:=(Array.getElem?_eq_some_iff.1 a1).1
     refine ⟨es.eraseIdxIfInBounds j,?_,?_,?_⟩
     ·have h1:∀ty,(Builtin.delete_ #[t,kt'] ty #[.map (some b0),ke k]).run P w= .ok (.tuple #[]) {w with heap:=w.heap.setIfInBounds b0 (.map (es.eraseIdxIfInBounds j) clock)}:=by
        intro ty
        simp [Builtin.delete_,run_underlying ht,MapKept.run_getObj_map hh,K.chk,hf,MapKept.run_setObj_map _ hh,Result.andThen]
      simp [execOp,ho,resolve,hcl,ha,hat,hav,hky,invoke,builtin,h1]
     ·rw [DZ hi]
      have h2:(es.eraseIdxIfInBounds j).toList=es.toList.eraseIdx j:=by simp [Array.eraseIdxIfInBounds,hjl]
      rw [h2,n2,he1,←n2]
      unfold iX
      rw [←n2]
     ·rw [DZ hi]
      intro i q x h
      have h2:(es.eraseIdxIfInBounds j).toList=es.toList.eraseIdx j:=by simp [Array.eraseIdxIfInBounds,hjl]
      have h3:iX ke vf (S.eraseIdx j)=(iX ke vf S).eraseIdx j:=by unfold iX;rw [n2]
      rw [h3,List.getElem?_eraseIdx] at h
      have h4:∀i,(es.eraseIdxIfInBounds j)[i]? =if i<j then es[i]? else es[i+1]? :=by
        intro i
        rw [←Array.getElem?_toList,h2,List.getElem?_eraseIdx]
        split<;>exact Array.getElem?_toList
      rw [h4]
      split at h
      ·rename_i hij;rw [if_pos hij];exact he4 i q x h
      ·rename_i hij;rw [if_neg hij];exact he4 (i+1) q x h
  obtain ⟨r1,r2⟩:=hr.setG (S':=iX ke vf (w6 k S)) (es':=es') (clock':=clock) hc hb0 hes hS
  unfold Oper.wp
  rw [hrun,Oper.upon_value,hd]
  exact kk G a _ C r1 (hfx.keep r2) fun s' G' a' w' hq hr' hk=>hK s' G' a' w' hq hr' (r2.trans hk)
end
end
end Go.Proofs.YtoolgdcjfkjlnaaGreatDoor
