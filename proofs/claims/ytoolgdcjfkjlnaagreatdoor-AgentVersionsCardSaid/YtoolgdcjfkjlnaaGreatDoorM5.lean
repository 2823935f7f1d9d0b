/- aGreatDoorM5. -/
import Derived.Test.YtoolgdcjfkjlnaaGreatDoorM3
import Derived.Test.YtoolgdcjfkjlnaaGreatDoorM2
namespace Go.Proofs.YtoolgdcjfkjlnaaGreatDoor
section
open Go.RowKit
abbrev Cnd :=List (Nat×Bool)
abbrev Fr :=List (Nat×Cnd×AV)
abbrev Ob :=List (Nat×List AV)
def cT (a:Nat):List Nat→Bool
  |[]=>false
  |b::r=>bif Nat.beq a b then true else cT a r
def EI (a:Nat) (w:Bool):Cnd→Bool
  |[]=>false
  |(b,v)::r=>bif Nat.beq a b then (bif w==v then true else EI a w r) else EI a w r
def pL :Cnd→Cnd→Bool
  |[],_=>true
  |(a,w)::r,D=>bif EI a w D then pL r D else false
theorem NB {a:Nat}:∀{l:List Nat},cT a l=false→a∉l
  |[],_=>List.not_mem_nil
  |b::r,h=>by
   simp only [cT] at h
   cases e:Nat.beq a b with
   |true=>rw [e] at h;cases h
   |false=>
    rw [e] at h
    intro hm
    rcases List.mem_cons.1 hm with h1|h1
    ·subst h1;rw [Nat.beq_refl] at e;cases e
    ·exact NB h h1
theorem GX {a:Nat} {w:Bool}:∀{l:Cnd},EI a w l=true→(a,w)∈l
  |(b,v)::r,h=>by
   simp only [EI] at h
   cases e:Nat.beq a b with
   |true=>
    rw [e] at h
    have e1:=Nat.eq_of_beq_eq_true e
    subst e1
    cases e2:(w==v) with
    |true=>rw [eq_of_beq e2];exact List.mem_cons_self ..
    |false=>rw [e2] at h;exact List.mem_cons_of_mem _ (GX h)
   |false=>rw [e] at h;exact List.mem_cons_of_mem _ (GX h)
theorem NV :∀{C D:Cnd},pL C D=true→∀p∈C,p∈D
  |(a,w)::r,D,h=>by
   simp only [pL] at h
   cases e:EI a w D with
   |true=>
    rw [e] at h
    intro p hp
    rcases List.mem_cons.1 hp with h1|h1
    ·subst h1;exact GX e
    ·exact NV h p h1
   |false=>rw [e] at h;cases h
  |[],D,_=>by intro p hp;cases hp
theorem JL {a:Nat} {w:Bool}:∀{l:Cnd},(a,w)∈l→EI a w l=true
  |(b,v)::r,h=>by
   simp only [EI]
   cases e:Nat.beq a b with
   |true=>
    cases e2:(w==v) with
    |true=>rfl
    |false=>
     rcases List.mem_cons.1 h with h1|h1
     ·cases h1;simp at e2
     ·exact JL h1
   |false=>
    rcases List.mem_cons.1 h with h1|h1
    ·cases h1;rw [Nat.beq_refl] at e;cases e
    ·exact JL h1
theorem PV {D:Cnd}:∀{C:Cnd},(∀p∈C,p∈D)→pL C D=true
  |[],_=>rfl
  |(a,w)::r,h=>by
   simp only [pL]
   rw [JL (h _ (List.mem_cons_self ..))]
   exact PV fun p hp=>h p (List.mem_cons_of_mem _ hp)
theorem KL (C:Cnd):pL C C=true:=PV fun _ h=>h
def lay :Ob→(Nat→Option (List AV))→Nat→Option (List AV)
  |[],M=>M
  |(i,c)::r,M=>bA (lay r M) i c
structure Es where
  fr:Fr
  gs:List Nat
  loc:List (Nat×List AV)
  objs:Ob
  base:Nat→Option (List AV)
def aY :Fr→Nat→Cnd×AV
  |[],_=>([],.any)
  |(j,x)::r,i=>bif Nat.beq j i then x else aY r i
def dA (C:Cnd) (x:Cnd×AV):AV:=bif pL x.1 C then x.2 else .any
def bX (fr:Fr) (C:Cnd) (i:Nat):AV:=dA C (aY fr i)
def Es.st (e:Es) (C:Cnd):St:=⟨e.fr.map fun p=>(p.1,dA C p.2),e.loc,lay e.objs e.base⟩
theorem oB (C:Cnd):∀(fr:Fr) (i:Nat),look .any (fr.map fun p=>(p.1,dA C p.2)) i=bX fr C i
  |[],i=>rfl
  |(j,x)::r,i=>by
   simp only [List.map_cons,look,bX,aY]
   cases e:Nat.beq j i with
   |true=>rw [if_pos (Nat.eq_of_beq_eq_true e)];rfl
   |false=>rw [if_neg (fun h=>by subst h;rw [Nat.beq_refl] at e;cases e)];exact oB C r i
theorem cD (e:Es) (C:Cnd) (i:Nat):(e.st C).get i=bX e.fr C i:=oB C e.fr i
def fV (C:Cnd) (a:Act):Prop:=∀p∈C,a.tmps.getD p.1 undef= .bool p.2
def ndO (objs:Ob) (base:Nat→Option (List AV)):Prop:=(objs.map (·.1)).Nodup∧∀i∈objs.map (·.1),base i=none
def Es.nd (e:Es):Prop:=ndO e.objs e.base
structure RelE (P:Program) (G:Gh) (n:Nat) (e:Es) (a:Act) (w:World):Prop where
  size:a.tmps.size=n
  defers:a.defers=[]
  slot:∀i,fV (aY e.fr i).1 a→bE P G w (.slot i) (aY e.fr i).2 (a.tmps.getD i undef)
  off:∀i,¬fV (aY e.fr i).1 a→a.tmps.getD i undef=undef
  gs:∀i p,p∈(aY e.fr i).1→p.1∈e.gs
  loc:∀k cells,a6 e.loc k=some cells→iP P G w (G.lb k) (.lb k) (.lc k) cells
  mem:RelM P G w (lay e.objs e.base)
  nd:e.nd
section
variable {P:Program} {n:Nat} {e:Es} {G:Gh} {a:Act} {w:World}
theorem HO {C D:Cnd} (h:fV D a) (hs:pL C D=true):fV C a:=fun p hp=>h p (NV hs p hp)
theorem RelE.st (h:RelE P G n e a w) {C:Cnd} (hC:fV C a):RelSt P G n (e.st C) a w:=by
  refine ⟨h.size,h.defers,fun i=>?_,h.loc,h.mem⟩
  rw [cD]
  unfold bX dA
  cases hs:pL (aY e.fr i).1 C with
  |true=>exact h.slot i (HO hC hs)
  |false=>exact RelV.any _
theorem bF :fV [] a:=fun p hp=>by cases hp
def a7 :Fr→Bool
  |[]=>true
  |(_,[],_)::r=>a7 r
  |(_,_::_,_)::_=>false
theorem sS :∀{fr:Fr},a7 fr=true→∀i,(aY fr i).1=[]
  |[],_,i=>rfl
  |(j,[],v)::r,h,i=>by
   simp only [aY]
   cases Nat.beq j i with
   |true=>rfl
   |false=>exact sS (show a7 r=true from h) i
  |(j,_::_,v)::r,h,i=>by cases h
theorem RelE.of (hr:RelSt P G n (e.st []) a w) (hf:a7 e.fr=true) (hn:e.nd):RelE P G n e a w:=by
  refine ⟨hr.size,hr.defers,fun i _=>?_,fun i h=>?_,fun i p hp=>?_,hr.loc,hr.mem,hn⟩
  ·have:=hr.slot i
   rw [cD] at this
   unfold bX dA at this
   rw [sS hf i] at this
   exact this
  ·rw [sS hf i] at h;exact absurd bF h
  ·rw [sS hf i] at hp;cases hp
end
def fU (P:Program) (G:Gh) (n:Nat) (e:Es) (a:Act) (w:World):Prop:=RelSt P G n (e.st []) a w∧e.nd
def aC (P:Program) (n:Nat) (ops:Array Oper) (l:List Oper) (e:Es) (Q:Es→Prop):Prop:=
  ∀(G:Gh) (a:Act) (w:World) (K:Exit→Act→World→Prop),RelE P G n e a w→Fix G w→
   (∀e' G' a' w',Q e'→fU P G' n e' a' w'→Keep G w G' w'→K .normal a' w')→wpList P ops K l a w
def CWp (P:Program) (n:Nat) (c:Code) (e:Es) (Q:Exit→Es→Prop):Prop:=
  ∀(G:Gh) (a:Act) (w:World) (K:Exit→Act→World→Prop),fU P G n e a w→Fix G w→
   (∀x e' G' a' w',Q x e'→fU P G' n e' a' w'→Keep G w G' w'→K x a' w')→c.wp P K a w
section
variable {P:Program} {n:Nat} {e e':Es} {ops:Array Oper} {l rest:List Oper} {o:Oper} {Q:Es→Prop} {QE:Exit→Es→Prop} {d:Nat}
theorem aW (h:Q e):aC P n ops [] e Q:=fun G a w _K hr _hfx hK=>hK e G a w h ⟨hr.st bF,hr.nd⟩ (Keep.refl _ _)
theorem aA {id:Nat} (h:aC P n ops ops.toList e (QE .normal)) (hf:a7 e.fr=true:=by rfl):CWp P n (.region id ops false) e QE:=by
  intro G a w K hr hfx hK
  exact wp_region_list (h G a w K (RelE.of hr.1 hf hr.2) hfx fun e' G' a' w' hq hr' hk=>hK _ _ _ _ _ hq hr' hk)
def bH (ops:Array Oper) (fr:Fr) (o:Oper):Option Cnd:=
  match o.guard with
  |none=>some []
  |some (g,want)=>match (ops[g]?).bind (·.dst) with
   |some t=>some ((t,want)::(aY fr t).1)
   |none=>none
theorem xW {ops:Array Oper} {C:Cnd} {G:Gh} {a:Act} {w:World} (hr:RelE P G n e a w) (hC:bH ops e.fr o=some C):(Region.wanted o (yielded ops a.tmps)=true→fV C a)∧
    (Region.wanted o (yielded ops a.tmps)=false→∃t want r,C=(t,want)::r∧a.tmps.getD t undef≠ .bool want):=by
  unfold bH at hC
  unfold Region.wanted
  cases hg:o.guard with
  |none=>rw [hg] at hC;cases hC;exact ⟨fun _=>bF,fun h=>by cases h⟩
  |some x=>
   obtain ⟨g,want⟩:=x
   rw [hg] at hC
   simp only at hC ⊢
   cases ht:(ops[g]?).bind (·.dst) with
   |none=>rw [ht] at hC;cases hC
   |some t=>
    rw [ht] at hC
    cases hC
    have hy:yielded ops a.tmps g=match a.tmps[t]? with|some (.bool b)=>some b|_=>none:=by
      unfold yielded
      rw [ht]
      rfl
    have hD:a.tmps.getD t undef=(a.tmps[t]?).getD undef:=Array.getD_eq_getD_getElem? ..
    constructor
    ·intro h
     have hv:a.tmps.getD t undef= .bool want:=by
       rw [hy] at h
       rw [hD]
       cases hx:a.tmps[t]? with
       |none=>rw [hx] at h;simp at h
       |some y=>
        rw [hx] at h
        cases y<;>simp at h
        subst h;rfl
     intro p hp
     rcases List.mem_cons.1 hp with h1|h1
     ·subst h1;exact hv
     ·refine Classical.byContradiction fun hne=>?_
      have:=hr.off t (fun hc=>hne (hc p h1))
      rw [this] at hv;cases hv
    ·intro h
     refine ⟨t,want,_,rfl,fun hv=>?_⟩
     rw [hy] at h
     rw [hD] at hv
     cases hx:a.tmps[t]? with
     |none=>rw [hx] at hv;cases hv
     |some y=>
      rw [hx] at hv h
      simp only [Option.getD_some] at hv
      subst hv
      simp at h
def j7 (C:Cnd) (gs:List Nat):List Nat:=match C with|[]=>gs|(t,_)::_=>t::gs
def Es.put (e:Es) (d:Nat) (C:Cnd) (v:AV):Es:={e with fr:=(d,C,v)::e.fr,gs:=j7 C e.gs}
theorem vS {e:Es} {d:Nat} {C:Cnd} {v:AV} (i:Nat):aY (e.put d C v).fr i=if i=d then (C,v) else aY e.fr i:=by
  show aY ((d,C,v)::e.fr) i=_
  simp only [aY]
  cases h:Nat.beq d i with
  |true=>rw [if_pos (Nat.eq_of_beq_eq_true h).symm];rfl
  |false=>rw [if_neg (fun e=>by subst e;rw [Nat.beq_refl] at h;cases h)];rfl
theorem RelE.put {G:Gh} {a:Act} {w:World} {C:Cnd} {v:AV} {u:Value} (hr:RelE P G n e a w) (hC:bH ops e.fr o=some C) (hn:d<n) (hg:d∉j7 C e.gs) (h1:fV C a→bE P G w (.slot d) v u) (h2:¬fV C a→u=undef):
    RelE P G n (e.put d C v) (a.put (some d) u) w:=by
  have hget:∀i,(a.put (some d) u).tmps.getD i undef=if i=d then u else a.tmps.getD i undef:=fun i=>eH a d i u (by rw [hr.size];exact hn)
  have hgC:∀p∈C,p.1∈j7 C e.gs:=by
    intro p hp
    unfold bH at hC
    split at hC
    ·cases hC;cases hp
    ·rename_i g want _
     split at hC
     ·rename_i t _
      cases hC
      rcases List.mem_cons.1 hp with h|h
      ·subst h;exact List.mem_cons_self ..
      ·exact List.mem_cons_of_mem _ (hr.gs t p h)
     ·cases hC
  have hsub:∀x∈e.gs,x∈j7 C e.gs:=by
    intro x hx
    cases C with
    |nil=>exact hx
    |cons p r=>exact List.mem_cons_of_mem _ hx
  have hck:∀D:Cnd,(∀p∈D,p.1∈j7 C e.gs)→(fV D (a.put (some d) u)↔fV D a):=by
    intro D hD
    constructor<;>intro h p hp<;>have:=h p hp<;>have hne:p.1≠d:=(fun e=>hg (e▸hD p hp))
    ·rw [hget,if_neg hne] at this;exact this
    ·rw [hget,if_neg hne];exact this
  have hcd:∀i,∀p∈(aY (e.put d C v).fr i).1,p.1∈j7 C e.gs:=by
    intro i p hp
    rw [vS] at hp
    split at hp
    ·exact hgC p hp
    ·exact hsub _ (hr.gs i p hp)
  refine ⟨by simp [Act.put,hr.size],by simpa [Act.put] using hr.defers,fun i hc=>?_,fun i hc=>?_,hcd,hr.loc,hr.mem,hr.nd⟩
  ·rw [hck _ (hcd i)] at hc
   rw [hget]
   rw [vS] at hc ⊢
   by_cases hi:i=d
   ·subst hi
    rw [if_pos rfl] at hc
    rw [if_pos rfl,if_pos rfl]
    exact h1 hc
   ·rw [if_neg hi] at hc
    rw [if_neg hi,if_neg hi]
    exact hr.slot i hc
  ·rw [hck _ (hcd i)] at hc
   rw [hget]
   rw [vS] at hc
   by_cases hi:i=d
   ·subst hi
    rw [if_pos rfl] at hc
    rw [if_pos rfl]
    exact h2 hc
   ·rw [if_neg hi] at hc
    rw [if_neg hi]
    exact hr.off i hc
theorem hcg {G:Gh} {a:Act} {w:World} {C:Cnd} (hr:RelE P G n e a w) (hC:bH ops e.fr o=some C):∀p∈C,p.1∈j7 C e.gs:=by
  intro p hp
  unfold bH at hC
  split at hC
  ·cases hC;cases hp
  ·rename_i g want _
   split at hC
   ·rename_i t _
    cases hC
    rcases List.mem_cons.1 hp with h|h
    ·subst h;exact List.mem_cons_self ..
    ·exact List.mem_cons_of_mem _ (hr.gs t p h)
   ·cases hC
theorem jM {d:Nat} {C:Cnd} {gs:List Nat} (h:cT d (j7 C gs)=false):d∉j7 C gs:=NB h
theorem aC.yield {C:Cnd} {v:AV} (hC:bH ops e.fr o=some C) (hd:o.dst=some d) (hn:d<n) (hg:cT d (j7 C e.gs)=false)
    (h:∀(G:Gh) (a:Act) (w:World),RelE P G n e a w→fV C a→∃u,bE P G w (.slot d) v u∧(execOp a.eval o).run P w= .ok (.value u) w) (k:aC P n ops rest (e.put d C v) Q):aC P n ops (o::rest) e Q:=by
  intro G a w K hr hfx hK
  have hw:=xW hr hC
  simp only [wpList]
  cases hx:Region.wanted o (yielded ops a.tmps) with
  |true=>
   rw [if_pos rfl]
   left
   obtain ⟨u,hu,hrun⟩:=h G a w hr (hw.1 hx)
   unfold Oper.wp
   rw [hrun,Oper.upon_value,hd]
   exact k G _ w K (hr.put hC hn (jM hg) (fun _=>hu) (fun hc=>absurd (hw.1 hx) hc)) hfx hK
  |false=>
   rw [if_neg (by simp),hd]
   refine k G _ w K (hr.put hC hn (jM hg) (fun hc=>?_) (fun _=>rfl)) hfx hK
   obtain ⟨t,want,r,rfl,hne⟩:=hw.2 hx
   exact absurd (hc _ (List.mem_cons_self ..)) hne
def mX (fr:Fr) (C:Cnd):Cnd→Prop
  |[]=>True
  |(t,w)::r=>(∀b,bX fr C t= .lit (.bool b)→b=w)∧mX fr C r
theorem uK {G:Gh} {a:Act} {w:World} {C:Cnd} (hr:RelSt P G n (e.st C) a w):∀{D:Cnd},fV D a→mX e.fr C D
  |[],_=>trivial
  |(t,v)::r,h=>⟨fun b hb=>by
   have h1:=hr.slot t
   rw [cD,hb] at h1
   have h2:=bE.lit h1
   rw [h _ (List.mem_cons_self ..)] at h2
   cases h2;rfl,uK hr fun p hp=>h p (List.mem_cons_of_mem _ hp)⟩
theorem HH {C:Cnd} {v:AV} (hC:bH ops e.fr o=some C) (hd:o.dst=some d) (hn:d<n) (hg:cT d (j7 C e.gs)=false) (h:mX e.fr C C→aH P n (e.st C) o d v) (k:aC P n ops rest (e.put d C v) Q):aC P n ops (o::rest) e Q:=by
  refine aC.yield hC hd hn hg (fun G a w hr hc=>?_) k
  obtain ⟨u,hu,hrun⟩:=h (uK (hr.st hc) hc) G a w (hr.st hc)
  exact ⟨u,hu,hrun w (Below.refl _ _)⟩
theorem aC.read {C:Cnd} {v:AV} (hC:bH ops e.fr o=some C) (hd:o.dst=some d) (hn:d<n) (hg:cT d (j7 C e.gs)=false) (h:aH P n (e.st C) o d v) (k:aC P n ops rest (e.put d C v) Q):aC P n ops (o::rest) e Q:=by
  refine aC.yield hC hd hn hg (fun G a w hr hc=>?_) k
  obtain ⟨u,hu,hrun⟩:=h G a w (hr.st hc)
  exact ⟨u,hu,hrun w (Below.refl _ _)⟩
def wA (C:Cnd):Fr→Bool
  |[]=>true
  |(_,D,_)::r=>bif pL D C then wA C r else false
theorem HD {C:Cnd}:∀{fr:Fr},wA C fr=true→∀i,pL (aY fr i).1 C=true
  |[],_,i=>by rfl
  |(j,D,v)::r,h,i=>by
   simp only [wA] at h
   simp only [aY]
   cases h1:pL D C with
   |false=>rw [h1] at h;cases h
   |true=>
    rw [h1] at h
    cases Nat.beq j i with
    |true=>exact h1
    |false=>exact HD h i
def rN (fr:Fr) (C:Cnd):Cnd→Bool
  |[]=>true
  |(t,_)::r=>match bX fr C t with
   | .lit (.bool _)=>rN fr C r
   |_=>false
theorem IH {fr:Fr} {C:Cnd}:∀{D:Cnd},rN fr C D=true→∀p∈D,∃b,bX fr C p.1= .lit (.bool b)
  |(t,w)::r,h,p,hp=>by
   simp only [rN] at h
   split at h
   ·rename_i b hb
    rcases List.mem_cons.1 hp with h1|h1
    ·subst h1;exact ⟨b,hb⟩
    ·exact IH h p h1
   ·cases h
  |[],_,p,hp=>by cases hp
theorem FQ {C:Cnd} {v:AV} {s':St} (hC:bH ops e.fr o=some C) (hd:o.dst=some d) (hn:d<n) (hg:cT d (j7 C e.gs)=false) (hsub:wA C e.fr=true) (ht:rN e.fr C C=true)
    (h:mX e.fr C C→∀Q',aM P n ops rest s' Q'→aM P n ops ({o with guard:=none}::rest) (e.st C) Q') (hs:s'={e.st C with fr:=(d,v)::(e.st C).fr}) (k:aC P n ops rest (e.put d C v) Q):aC P n ops (o::rest) e Q:=by
  subst hs
  intro G a w K hr hfx hK
  have hw:=xW hr hC
  cases hx:Region.wanted o (yielded ops a.tmps) with
  |false=>
   simp only [wpList]
   rw [if_neg (by simp [hx]),hd]
   refine k G _ w K (hr.put hC hn (jM hg) (fun hc=>?_) (fun _=>rfl)) hfx hK
   obtain ⟨t,want,r,rfl,hne⟩:=hw.2 hx
   exact absurd (hc _ (List.mem_cons_self ..)) hne
  |true=>
   have hc:=hw.1 hx
   have hrs:=hr.st hc
   have key:=h (uK hrs hc) (fun s''=>∃e'',e''.st []=s''∧e''.nd∧Q e'') ?_ G a w K hrs hfx ?_
   ·simp only [wpList] at key ⊢
    rw [if_pos hx]
    rw [if_pos (show Region.wanted {o with guard:=none} (yielded ops a.tmps)=true from rfl)] at key
    exact key
   ·intro G1 a1 w1 K1 hr1 hfx1 hK1
    have hc1:fV C a1:=by
      intro p hp
      obtain ⟨b,hb⟩:=IH ht p hp
      have h1:=hrs.slot p.1
      rw [cD,hb] at h1
      have h2:=bE.lit h1
      rw [hc p hp] at h2
      cases h2
      have hne:p.1≠d:=by
        intro he
        refine jM hg (he▸?_)
        have:=hcg hr hC p hp
        exact this
      have h3:=hr1.slot p.1
      have e1:St.get {e.st C with fr:=(d,v)::(e.st C).fr} p.1=(e.st C).get p.1:=by
        show look .any ((d,v)::(e.st C).fr) p.1=_
        simp only [look];rw [if_neg (Ne.symm hne)];rfl
      rw [e1,cD,hb] at h3
      exact bE.lit h3
    refine k G1 a1 w1 K1 ⟨hr1.size,hr1.defers,fun i _=>?_,fun i hne=>?_,fun i p hp=>?_,hr1.loc,hr1.mem,hr.nd⟩ hfx1 (fun e2 G2 a2 w2 hq hr2 hk2=>hK1 _ G2 a2 w2 ⟨e2,rfl,hr2.2,hq⟩ hr2.1 hk2)
    ·have h3:=hr1.slot i
     rw [vS]
     by_cases hi:i=d
     ·subst hi
      rw [if_pos rfl]
      have e1:St.get {e.st C with fr:=(i,v)::(e.st C).fr} i=v:=by
        show look .any ((i,v)::(e.st C).fr) i=_
        simp [look]
      rw [e1] at h3;exact h3
     ·rw [if_neg hi]
      have e1:St.get {e.st C with fr:=(d,v)::(e.st C).fr} i=(e.st C).get i:=by
        show look .any ((d,v)::(e.st C).fr) i=_
        simp only [look];rw [if_neg (Ne.symm hi)];rfl
      rw [e1,cD] at h3
      unfold bX dA at h3
      rw [HD hsub i] at h3
      exact h3
    ·refine absurd ?_ hne
     rw [vS]
     split
     ·exact hc1
     ·exact HO hc1 (HD hsub i)
    ·rw [vS] at hp
     split at hp
     ·exact hcg hr hC p hp
     ·have:=hr.gs i p hp
      cases C with
      |nil=>exact this
      |cons q r=>exact List.mem_cons_of_mem _ this
   ·rintro s'' G' a' w' ⟨e'',rfl,hn2,hq⟩ hr' hk
    exact hK e'' G' a' w' hq ⟨hr',hn2⟩ hk
def AQ :List (Nat×AV)→Fr→Fr
  |[],fr=>fr
  |(i,v)::r,fr=>(i,[],v)::AQ r fr
theorem O2 (fr:Fr):∀add:List (Nat×AV),(AQ add fr).map (fun p=>(p.1,dA [] p.2))=add++fr.map fun p=>(p.1,dA [] p.2)
  |[]=>rfl
  |(i,v)::r=>by
   simp only [AQ,List.map_cons,List.cons_append]
   rw [O2 fr r];rfl
theorem d4 {fr:Fr} (h:∀i,(aY fr i).1=[]):∀(add:List (Nat×AV)) (i:Nat),(aY (AQ add fr) i).1=[]
  |[],i=>h i
  |(j,v)::r,i=>by
   simp only [AQ,aY]
   cases Nat.beq j i with
   |true=>rfl
   |false=>exact d4 h r i
theorem cQ {add:List (Nat×AV)} {loc':List (Nat×List AV)} {objs':Ob} (hgs:e.gs=[]) (h:∀Q',aM P n ops rest ⟨add++(e.st []).fr,loc',lay objs' e.base⟩ Q'→aM P n ops (o::rest) (e.st []) Q')
    (hi:e.nd→ndO objs' e.base) (k:aC P n ops rest ⟨AQ add e.fr,[],loc',objs',e.base⟩ Q):aC P n ops (o::rest) e Q:=by
  intro G a w K hr hfx hK
  have hfl:∀i,(aY e.fr i).1=[]:=by
    intro i
    cases hx:(aY e.fr i).1 with
    |nil=>rfl
    |cons p r=>
     have:=hr.gs i p (by rw [hx];exact List.mem_cons_self ..)
     rw [hgs] at this;cases this
  refine h (fun s''=>∃e'',e''.st []=s''∧e''.nd∧Q e'') ?_ G a w K (hr.st bF) hfx ?_
  ·intro G1 a1 w1 K1 hr1 hfx1 hK1
   have hst:(⟨AQ add e.fr,[],loc',objs',e.base⟩:Es).st []=⟨add++(e.st []).fr,loc',lay objs' e.base⟩:=by
     unfold Es.st
     rw [O2]
   have hf':=d4 hfl add
   refine k G1 a1 w1 K1 ⟨hr1.size,hr1.defers,fun i _=>?_,fun i hne=>?_,fun i p hp=>?_,hr1.loc,hr1.mem,hi hr.nd⟩ hfx1 (fun e2 G2 a2 w2 hq hr2 hk2=>hK1 _ G2 a2 w2 ⟨e2,rfl,hr2.2,hq⟩ hr2.1 hk2)
   ·have h3:=hr1.slot i
    rw [←hst,cD] at h3
    unfold bX dA at h3
    rw [show (aY (AQ add e.fr) i).1=[] from hf' i] at h3
    exact h3
   ·rw [show (aY (AQ add e.fr) i).1=[] from hf' i] at hne
    exact absurd bF hne
   ·rw [show (aY (AQ add e.fr) i).1=[] from hf' i] at hp;cases hp
  ·rintro s'' G' a' w' ⟨e'',rfl,hn2,hq⟩ hr' hk
   exact hK e'' G' a' w' hq ⟨hr',hn2⟩ hk
def AV.force {α:Type _} (v:AV) (k:AV→α):α:=
  match v with
  | .any=>k .any
  | .lit v=>k (.lit v)
  | .str l=>k (.str l)
  | .lptr a b=>k (.lptr a b)
  | .gptr a b=>k (.gptr a b)
  | .gmap a=>k (.gmap a)
  | .gsl a b c d=>k (.gsl a b c d)
  | .eptr x a=>k (.eptr x a)
  | .list o E xs=>k (.list o E xs)
  | .agg cs=>k (.agg cs)
  | .tuple cs=>k (.tuple cs)
  | .fn f c=>k (.fn f c)
  | .fnm f c=>k (.fnm f c)
  | .pin x v=>k (.pin x v)
theorem cP {α:Type _} (v:AV) (k:AV→α):v.force k=k v:=by cases v<;>rfl
def l0 {α:Type _}:List AV→(List AV→α)→α
  |[],k=>k []
  |c::r,k=>c.force fun c=>l0 r fun r=>k (c::r)
theorem iH {α:Type _}:∀(l:List AV) (k:List AV→α),l0 l k=k l
  |[],k=>rfl
  |c::r,k=>by unfold l0;rw [cP,iH r]
def LO {α:Type _} (fr:Fr):List Nat→(Fr→α)→α
  |[],k=>k []
  |i::r,k=>(bX fr [] i).force fun v=>LO fr r fun q=>k ((i,[],v)::q)
def LP {α:Type _} (loc:List (Nat×List AV)):List Nat→(List (Nat×List AV)→Option α)→Option α
  |[],k=>k []
  |i::r,k=>match a6 loc i with
   |some cs=>LP loc r fun q=>k ((i,cs)::q)
   |none=>none
def xU :Es→List Nat→List Nat→Option Es
  |⟨fr,_,loc,objs,base⟩,ls,ks=>LO fr ls fun fr=>LP loc ks fun loc=>some ⟨fr,[],loc,objs,base⟩
theorem M7 {α:Type _} (fr:Fr):∀(ls:List Nat) (k:Fr→α),LO fr ls k=k (ls.map fun i=>(i,[],bX fr [] i))
  |[],k=>rfl
  |i::r,k=>by unfold LO;rw [cP,M7 fr r];rfl
theorem M8 {α:Type _} (loc:List (Nat×List AV)):∀(ks:List Nat) (k:List (Nat×List AV)→Option α) (x:α),LP loc ks k=some x→k (ks.filterMap fun i=>(a6 loc i).map fun c=>(i,c))=some x
  |[],k,x,h=>h
  |i::r,k,x,h=>by
   unfold LP at h
   cases hc:a6 loc i with
   |none=>rw [hc] at h;cases h
   |some cs=>
    rw [hc] at h
    have:=M8 loc r _ x h
    rw [List.filterMap_cons,hc]
    exact this
theorem GU {ls ks:List Nat} (h:xU e ls ks=some e'):e'=⟨ls.map fun i=>(i,[],bX e.fr [] i),[],ks.filterMap fun i=>(a6 e.loc i).map fun c=>(i,c),e.objs,e.base⟩:=by
  obtain ⟨fr,gs,loc,objs,base⟩:=e
  unfold xU at h
  simp only at h
  rw [M7] at h
  have:=M8 loc ks _ e' h
  exact (Option.some.inj this).symm
theorem TP {ls ks:List Nat} (h:xU e ls ks=some e'):e'.st []=(e.st []).keep ls ks:=by
  rw [GU h]
  unfold Es.st St.keep
  simp only [List.map_map]
  congr 1
  apply List.map_congr_left
  intro i _
  show (i,dA [] ([],bX e.fr [] i))=(i,St.get (e.st []) i)
  rw [cD];rfl
theorem fU.keep {G:Gh} {a:Act} {w:World} {ls ks:List Nat} (hr:fU P G n e a w) (h:xU e ls ks=some e'):fU P G n e' a w:=by
  refine ⟨?_,?_⟩
  ·rw [TP h];exact hr.1.keep ls ks
  ·rw [GU h];exact hr.2
theorem QU {ls ks:List Nat} (h:xU e ls ks=some e'):a7 e'.fr=true:=by
  rw [GU h]
  clear h
  show a7 (ls.map _)=true
  induction ls with
  |nil=>rfl
  |cons a r ih=>exact ih
theorem aC.keep (ls ks:List Nat) (h:xU e ls ks=some e') (k:aC P n ops l e' Q):aC P n ops l e Q:=by
  intro G a w K hr hfx hK
  have:=fU.keep ⟨hr.st bF,hr.nd⟩ h
  exact k G a w K (RelE.of this.1 (QU h) this.2) hfx hK
theorem aC.done (ls ks:List Nat) (h:xU e ls ks=some e') (k:Q e'):aC P n ops [] e Q:=aC.keep ls ks h (aW k)
theorem aR {c:Code} (ls ks:List Nat) (h:xU e ls ks=some e') (k:CWp P n c e' QE):CWp P n c e QE:=fun G a w K hr hfx hK=>k G a w K (hr.keep h) hfx hK
theorem aB {x y:Code} (h:CWp P n x e fun z e'=>match z with| .normal=>CWp P n y e' QE|z=>QE z e'):CWp P n (.seq x y) e QE:=by
  intro G a w K hr hfx hK
  refine wp_seq (h G a w _ hr hfx ?_)
  intro z e' G' a' w' hq hr' hk
  cases z with
  |normal=>exact hq G' a' w' K hr' (hfx.keep hk) fun z s2 G2 a2 w2 hq2 hr2 hk2=>hK z s2 G2 a2 w2 hq2 hr2 (hk.trans hk2)
  |_=>exact hK _ e' G' a' w' hq hr' hk
theorem aE (h:QE .normal e):CWp P n .skip e QE:=by
  intro G a w K hr hfx hK
  exact wp_skip (hK _ _ _ _ _ h hr (Keep.refl _ _))
theorem aJ (h:QE .ret e):CWp P n .ret e QE:=by
  intro G a w K hr hfx hK
  exact wp_ret (hK _ _ _ _ _ h hr (Keep.refl _ _))
theorem CWp.exit {id:Nat} (h:QE (.exit id) e):CWp P n (.exit id) e QE:=by
  intro G a w K hr hfx hK
  exact wp_exit (hK _ _ _ _ _ h hr (Keep.refl _ _))
theorem aF {id:Nat} {c:Code} (h:CWp P n c e fun z e'=>match z with| .exit id'=>bif Nat.beq id' id then QE .normal e' else QE (.exit id') e'|z=>QE z e'):CWp P n (.block id c) e QE:=by
  intro G a w K hr hfx hK
  refine wp_block (h G a w _ hr hfx ?_)
  intro z e' G' a' w' hq hr' hk
  cases z with
  |exit id'=>
   simp only [Exit.inBlock]
   cases hb:Nat.beq id' id with
   |true=>rw [if_pos (Nat.eq_of_beq_eq_true hb)];simp only [hb,cond_true] at hq;exact hK _ _ _ _ _ hq hr' hk
   |false=>rw [if_neg (fun he=>by rw [he,Nat.beq_refl] at hb;cases hb)];simp only [hb,cond_false] at hq;exact hK _ _ _ _ _ hq hr' hk
  |_=>exact hK _ _ _ _ _ hq hr' hk
theorem aD {α:Type _} {c:Operand} {x y:Code} {b:Bool} {X Y:Option α} {r:α} (h:(bif b then X else Y)=some r) (hc:(match c with| .tmp t=>bX e.fr [] t|_=> .any)= .lit (.bool b)) (hT:X=some r→CWp P n x e QE) (hF:Y=some r→CWp P n y e QE):CWp P n (.cond c x y) e QE:=by
  intro G a w K hr hfx hK
  have hv:a.eval c= .bool b:=by
    cases c with
    |tmp t=>refine hr.1.evLit (x:= .tmp t) ?_;rw [←hc];exact cD e [] t
    |_=>cases hc
  cases b with
  |true=>exact wp_cond_true hv (hT h G a w K hr hfx hK)
  |false=>exact wp_cond_false hv (hF h G a w K hr hfx hK)
theorem aS {x y:Code} (I:Es→Prop) (h:CWp P n x e fun z e'=>match z with| .normal=>I e'|z=>QE z e') (k:∀e',I e'→CWp P n y e' QE):CWp P n (.seq x y) e QE:=by
  refine aB fun G a w K hr hfx hK=>h G a w K hr hfx fun z e' G' a' w' hq hr' hk=>?_
  cases z with
  |normal=>exact hK .normal e' G' a' w' (k e' hq) hr' hk
  |_=>exact hK _ e' G' a' w' hq hr' hk
theorem aU (I:Nat→Es→Prop) (m:Nat) {c:Code} (h0:I m e) (hr:∀m e,I (m+1) e→CWp P n c e fun z e'=>match z with| .normal=>I m e'|z=>QE z e') (hz:∀e,¬I 0 e):CWp P n (.loop c) e QE:=by
  intro G a w K hrel hfx hK
  refine OV (fun m a' w'=>∃e' G',I m e'∧fU P G' n e' a' w'∧Keep G w G' w') m ⟨e,G,h0,hrel,Keep.refl _ _⟩ ?_
  rintro m1 a1 w1 ⟨e1,G1,hi,hr1,hk1⟩
  cases m1 with
  |zero=>exact absurd hi (hz e1)
  |succ m1=>
   refine hr m1 e1 hi G1 a1 w1 _ hr1 (hfx.keep hk1) ?_
   intro z e2 G2 a2 w2 hq hr2 hk2
   cases z with
   |normal=>exact ⟨m1,Nat.lt_succ_self m1,e2,G2,hq,hr2,hk1.trans hk2⟩
   |_=>exact hK _ e2 G2 a2 w2 hq hr2 (hk1.trans hk2)
end
end
section
open Go.RowKit
inductive TK where
  |bool|int (k:IntKind)|float (k:FloatKind)|str|ptr (E:Nat)|slice (E:Nat)|arr (n E:Nat)|struct (fs:List (Nat×Nat))|other
def kOf :TypeDesc→TK
  | .bool=> .bool
  | .int k=> .int k
  | .float k=> .float k
  | .string=> .str
  | .pointer E=> .ptr E
  | .slice E=> .slice E
  | .array n E=> .arr n E
  | .struct fs=> .struct (fs.toList.map fun f=>(f.offset,f.type))
  |_=> .other
def TK.agg :TK→Bool
  | .struct _| .arr _ _=>true
  |_=>false
theorem yB (D:TypeDesc):TypeDesc.agg D=(kOf D).agg:=by cases D<;>rfl
abbrev Tab :=List (Nat×TK×Nat)
def Tab.look :Tab→Nat→Option (TK×Nat)
  |[],_=>none
  |(t,x)::r,u=>bif Nat.beq t u then some x else Tab.look r u
def eX (P:Program):Tab→Prop
  |[]=>True
  |(t,k,s)::r=>((∃D,P.underlying t=some D∧kOf D=k)∧aZ P t s)∧eX P r
theorem Tab.ok {P:Program} {t:Nat} {k:TK} {s:Nat}:∀{T:Tab},eX P T→T.look t=some (k,s)→(∃D,P.underlying t=some D∧kOf D=k)∧aZ P t s
  |(u,k',s')::r,h,hl=>by
   simp only [Tab.look] at hl
   cases e:Nat.beq u t with
   |true=>rw [e] at hl;cases hl;rw [←Nat.eq_of_beq_eq_true e];exact h.1
   |false=>rw [e] at hl;exact Tab.ok h.2 hl
  |[],_,hl=>by cases hl
def evE (fr:Fr) (C:Cnd):Operand→AV
  | .tmp t=>bX fr C t
  | .const v=>cF v
  | .func f=> .fn f []
  | .global _=> .any
theorem n3 (e:Es) (C:Cnd) (x:Operand):evE e.fr C x=(e.st C).eval x:=by
  cases x with
  |tmp t=>exact (cD e C t).symm
  |_=>rfl
abbrev Q7 (k:IntKind) (i j:Int):Int:=k.wrap (i*2^(min j.toNat k.bits))
abbrev lH (k:IntKind) (i j:Int):Int:=i.fdiv (2^(min j.toNat k.bits))
abbrev w64 (x:Int):Int:=IntKind.i64.wrap x
def WB (op:BinOp) (k:IntKind) (i j:Int):Option Value:=
  match op with
  | .add=>some (.int k (k.wrap (i+j)))
  | .sub=>some (.int k (k.wrap (i-j)))
  | .mul=>some (.int k (k.wrap (i*j)))
  | .eql=>some (.bool (i==j))
  | .neq=>some (.bool (i !=j))
  | .lss=>some (.bool (decide (i<j)))
  | .leq=>some (.bool (decide (i≤j)))
  | .gtr=>some (.bool (decide (i>j)))
  | .geq=>some (.bool (decide (i≥j)))
  | .and=>some (.int k (k.wrap (BitVec.ofInt k.bits i&&&BitVec.ofInt k.bits j).toNat))
  | .or=>some (.int k (k.wrap (BitVec.ofInt k.bits i|||BitVec.ofInt k.bits j).toNat))
  | .xor=>some (.int k (k.wrap (BitVec.ofInt k.bits i^^^BitVec.ofInt k.bits j).toNat))
  |_=>none
theorem VG (op:BinOp) (k:IntKind) (i j:Int):WB op k i j=MU op k i j:=by cases op<;>rfl
def UC (op:BinOp) (cy:Bool) (k k':IntKind) (i j:Int):Option AV:=
  match op with
  | .quo=>bif cy&&(decide (k=k')&&!(j==0)) then some (.lit (.int k (k.wrap (i.tdiv j)))) else none
  | .rem=>bif cy&&(decide (k=k')&&!(j==0)) then some (.lit (.int k (i.tmod j))) else none
  | .shl=>bif cy&&decide (0≤j) then some (.lit (.int k (Q7 k i j))) else none
  | .shr=>bif cy&&decide (0≤j) then some (.lit (.int k (lH k i j))) else none
  | .andNot=>bif decide (k=k') then some (.lit (.int k (k.wrap (BitVec.ofInt k.bits i&&& ~~~BitVec.ofInt k.bits j).toNat))) else none
  |op=>bif decide (k=k') then (match WB op k i j with|some v=>some (.lit v)|none=>none) else none
def TN (op:BinOp) (k:FloatKind) (a b:Nat):Option Bool:=
  match op with
  | .eql=>some (k.format.order a b==some .eq)
  | .neq=>some (k.format.order a b !=some .eq)
  | .lss=>some (k.format.order a b==some .lt)
  | .leq=>some (k.format.order a b==some .lt||k.format.order a b==some .eq)
  | .gtr=>some (k.format.order a b==some .gt)
  | .geq=>some (k.format.order a b==some .gt||k.format.order a b==some .eq)
  |_=>none
def T8 (T:Tab) (op:BinOp) (t:Nat) (cy:Bool) (x y:AV):Option AV:=
  match x with
  | .lit (.int k i)=>match y with
    | .lit (.int k' j)=>UC op cy k k' i j
    |_=>none
  | .lit (.bool a)=>match y with
    | .lit (.bool b)=>match T.look t with
      |some (.bool,_)=>match op with
       | .eql=>some (.lit (.bool (a==b)))
       | .neq=>some (.lit (.bool (!(a==b))))
       |_=>none
      |_=>none
    |_=>none
  | .lit (.float k a)=>match y with
    | .lit (.float k' b)=>bif decide (k=k') then (match TN op k a b with|some b=>some (.lit (.bool b))|none=>none) else none
    |_=>none
  | .str l=>match y with
    | .str m=>match NU op l m with|some b=>some (.lit (.bool b))|none=>none
    |_=>none
  |_=>none
def isC :Operand→Bool
  | .const _=>true
  |_=>false
section
variable {P:Program} {n:Nat} {s:St} {o:Oper} {d:Nat} {t t':TypeId} {x y:Operand} {T:Tab} {op:BinOp} {v:AV}
theorem aH.flt {k:FloatKind} {a b:Nat} {r:Bool} (ho:o.op= .binOp op t x y t') (hx:s.eval x= .lit (.float k a)) (hy:s.eval y= .lit (.float k b)) (hr:TN op k a b=some r):aH P n s o d (.lit (.bool r)):=by
  intro G ac w h
  refine ⟨_,bZ _,fun w' _=>?_⟩
  simp only [execOp,ho,h.evLit hx,h.evLit hy]
  unfold TN at hr
  split at hr<;>first|(cases hr;done)|(cases hr;simp [eqGuard,binOp,Op.floatCmp])
theorem aH.andNot {k:IntKind} {i j:Int} (ho:o.op= .binOp .andNot t x y t') (hx:s.eval x= .lit (.int k i)) (hy:s.eval y= .lit (.int k j)):aH P n s o d (.lit (.int k (k.wrap (BitVec.ofInt k.bits i&&& ~~~BitVec.ofInt k.bits j).toNat))):=by
  intro G a w h
  refine ⟨_,bZ _,fun w' _=>?_⟩
  simp only [execOp,ho,h.evLit hx,h.evLit hy]
  simp [eqGuard,binOp,Op.intBits]
theorem VT {cy:Bool} {k k':IntKind} {i j:Int} (ho:o.op= .binOp op t x y t') (hx:s.eval x= .lit (.int k i)) (hy:s.eval y= .lit (.int k' j)) (h:UC op cy k k' i j=some v):aH P n s o d v:=by
  unfold UC at h
  split at h
  ·cases hb:(cy&&(decide (k=k')&&!(j==0))) with
   |false=>rw [hb] at h;cases h
   |true=>
    rw [hb] at h
    cases h
    simp only [Bool.and_eq_true,decide_eq_true_eq,Bool.not_eq_true',beq_eq_false_iff_ne] at hb
    obtain ⟨_,rfl,hj⟩:=hb
    exact aH.quo ho hx hy hj rfl
  ·cases hb:(cy&&(decide (k=k')&&!(j==0))) with
   |false=>rw [hb] at h;cases h
   |true=>
    rw [hb] at h
    cases h
    simp only [Bool.and_eq_true,decide_eq_true_eq,Bool.not_eq_true',beq_eq_false_iff_ne] at hb
    obtain ⟨_,rfl,hj⟩:=hb
    exact aH.rem ho hx hy hj rfl
  ·cases hb:(cy&&decide (0≤j)) with
   |false=>rw [hb] at h;cases h
   |true=>
    rw [hb] at h
    cases h
    simp only [Bool.and_eq_true,decide_eq_true_eq] at hb
    exact aH.shift ho (.inl rfl) hx hy hb.2 (by rw [if_pos rfl])
  ·cases hb:(cy&&decide (0≤j)) with
   |false=>rw [hb] at h;cases h
   |true=>
    rw [hb] at h
    cases h
    simp only [Bool.and_eq_true,decide_eq_true_eq] at hb
    exact aH.shift ho (.inr rfl) hx hy hb.2 (by rw [if_neg (by decide)])
  ·cases hb:decide (k=k') with
   |false=>rw [hb] at h;cases h
   |true=>
    rw [hb] at h
    have:=of_decide_eq_true hb
    subst this
    cases h
    exact aH.andNot ho hx hy
  ·cases hb:decide (k=k') with
   |false=>rw [hb] at h;cases h
   |true=>
    rw [hb] at h
    have:=of_decide_eq_true hb
    subst this
    simp only [cond_true] at h
    split at h
    ·rename_i r hr
     cases h
     rw [VG] at hr
     exact aH.int ho hx hy hr
    ·cases h
theorem VS (hT:eX P T) {cy:Bool} (ho:o.op= .binOp op t x y t') (h:T8 T op t cy (s.eval x) (s.eval y)=some v):aH P n s o d v:=by
  unfold T8 at h
  split at h
  ·rename_i k i hx
   split at h
   ·rename_i k' j hy;exact VT ho hx hy h
   ·cases h
  ·rename_i a hx
   split at h
   ·rename_i b hy
    split at h
    ·rename_i z hl
     obtain ⟨⟨D,hD,hk⟩,_⟩:=Tab.ok hT hl
     have hDb:D= .bool:=by cases D<;>first|rfl|cases hk
     subst hDb
     split at h
     ·cases h;exact DR ho hD hx hy (.inl ⟨rfl,rfl⟩)
     ·cases h;exact DR ho hD hx hy (.inr ⟨rfl,rfl⟩)
     ·cases h
    ·cases h
   ·cases h
  ·rename_i k a hx
   split at h
   ·rename_i k' b hy
    cases hb:decide (k=k') with
    |false=>rw [hb] at h;cases h
    |true=>
     rw [hb] at h
     have:=of_decide_eq_true hb
     subst this
     simp only [cond_true] at h
     split at h
     ·rename_i r hr;cases h;exact aH.flt ho hx hy hr
     ·cases h
   ·cases h
  ·rename_i l hx
   split at h
   ·rename_i m hy
    split at h
    ·rename_i r hr;cases h;exact OE ho hx hy hr
    ·cases h
   ·cases h
  ·cases h
end
def vUn (op:UnOp) (x:AV):Option AV:=
  match op with
  | .not=>match x with
    | .lit (.bool b)=>some (.lit (.bool (!b)))
    |_=>none
  | .neg=>match x with
    | .lit (.int k i)=>some (.lit (.int k (k.wrap (0-i))))
    | .lit (.float k b)=>some (.lit (.float k (Op.negFloat k b)))
    |_=>none
  |_=>none
def RG (T:Tab) (a b:Nat) (x:AV):Option AV:=
  match x with
  | .lit (.int _ i)=>match T.look b with
    |some (.int k',_)=>match T.look a with
     |some (.int _,_)=>some (.lit (.int k' (k'.wrap i)))
     |_=>none
    |some (.float k',_)=>match T.look a with
     |some (.int _,_)=>some (.lit (.float k' (k'.nearest i)))
     |_=>none
    |_=>none
  | .str l=>match T.look b with
    |some (.str,_)=>match T.look a with
     |some (.str,_)=>some (.str l)
     |_=>none
    |_=>none
  |_=>none
def wL (T:Tab) (t:Nat) (cells:List AV) (k:Nat):Option AV:=
  match T.look t with
  |some (K,size)=>bif K.agg then (bif Nat.ble (k+size) cells.length then l0 ((cells.drop k).take size) fun l=>l0 (l.map AV.un) fun l=>some (.agg l) else none)
   else match cells[k]? with
     |some c=>c.un.force some
     |none=>none
  |none=>none
def UA (T:Tab) (t f:Nat):Option Nat:=
  match T.look t with
  |some (.struct fs,_)=>match fs[f]? with
   |some (off,ft)=>match T.look ft with
    |some (_,size)=>bif Nat.beq size 0 then none else some off
    |none=>none
   |none=>none
  |_=>none
def UB (T:Tab) (t:Nat) (i:AV):Option Nat:=
  match T.look t with
  |some (.arr len E,_)=>match i with
   | .lit (.int _ (.ofNat m))=>match T.look E with
     |some (_,size)=>bif Nat.blt m len then some (m*size) else none
     |none=>none
   |_=>none
  |_=>none
def P7 (v:AV) (k:Nat):Option AV:=
  match v with
  | .lptr b o=>some (.lptr b (o+k))
  | .eptr x o=>some (.eptr x (o+k))
  | .gptr b o=>some (.gptr b (o+k))
  |_=>none
def UT (T:Tab) (ft off:Nat) (cs:List AV):Option AV:=
  match T.look ft with
  |some (K,size)=>bif K.agg then (bif Nat.ble (off+size) cs.length then l0 ((cs.drop off).take size) fun l=>some (.agg l) else none)
   else match cs[off]? with
     |some c=>c.un.force fun c=>bif c.flat then some c else none
     |none=>none
  |none=>none
def LQ (K:TK) (size off:Nat) (cs:List AV):Option AV:=
  bif K.agg then (bif Nat.ble (off+size) cs.length then l0 ((cs.drop off).take size) fun l=>some (.agg l) else none)
  else match cs[off]? with
    |some c=>c.force fun c=>bif c.flat then some c else none
    |none=>none
def LN :Operand→Bool
  | .tmp _=>true
  |_=>false
def i' (ev:Operand→AV) (i:Operand):Option Nat:=match ev i with
  | .lit (.int _ (.ofNat m))=>some m
  |_=>none
def lY (T:Tab) (ev:Operand→AV) (loc:List (Nat×List AV)) (op:Op):Option AV:=
  match op with
  | .move x=>bif Operand.ok x then (ev x).un.force some else none
  | .assign x=>bif Operand.ok x then (ev x).un.force some else none
  | .binOp op t x y _=>T8 T op t (isC y) (ev x) (ev y)
  | .unOp op _ x=>vUn op (ev x)
  | .convert a b x=>RG T a b (ev x)
  | .fieldAddr t x f=>match UA T t f with
    |some k=>P7 (ev x) k
    |none=>none
  | .indexAddr t x i=>match UB T t (ev i) with
    |some k=>P7 (ev x) k
    |none=>none
  | .load t x=>match ev x with
    | .eptr e k=>match wL T t e.cells k with
      |some v=>bif v.flat then some v else none
      |none=>none
    | .lptr b k=>match a6 loc b with
      |some cs=>match wL T t cs k with
       |some v=>bif v.flat then some v else none
       |none=>none
      |none=>none
    |_=>none
  | .nilCheck x=>match ev x with
    | .lptr b k=>some (.lptr b k)
    | .gptr b k=>some (.gptr b k)
    | .eptr e k=>some (.eptr e k)
    |_=>none
  | .extract x m=>match x with
    | .tmp t=>match ev (.tmp t) with
      | .tuple cs=>match cs[m]? with
        |some c=>c.un.force fun c=>bif c.flat then some c else none
        |none=>none
      |_=>none
    |_=>none
  | .field t x f=>bif LN x then (match ev x with
    | .agg cs=>match T.look t with
      |some (.struct fs,_)=>match fs[f]? with
       |some (off,ft)=>UT T ft off cs
       |none=>none
      |_=>none
    |_=>none) else none
  | .index t x i=>bif LN x then (match ev x with
    | .agg cs=>match T.look t with
      |some (.arr len E,_)=>match i' ev i with
       |some m=>bif Nat.blt m len then (match T.look E with
        |some (K,size)=>LQ K size (m*size) cs
        |none=>none) else none
       |none=>none
      |_=>none
    |_=>none) else none
  | .call c=>match c.callee with
    | .builtin .max=>match c.args.toList with
      |[x,y]=>match ev x with
       | .lit (.int k i)=>match ev y with
         | .lit (.int k' j)=>bif decide (k=k') then some (.lit (.int k (max i j))) else none
         |_=>none
       |_=>none
      |_=>none
    | .builtin .min=>match c.args.toList with
      |[x,y]=>match ev x with
       | .lit (.int k i)=>match ev y with
         | .lit (.int k' j)=>bif decide (k=k') then some (.lit (.int k (min i j))) else none
         |_=>none
       |_=>none
      |_=>none
    | .builtin .len=>match c.args.toList with
      |[x]=>match ev x with
       | .str l=>match c.argTypes.toList with
         |[t]=>match T.look t with
          |some (.str,_)=>some (.lit (.int .i64 (l.length:Int)))
          |_=>none
         |_=>none
       |_=>none
      |_=>none
    |_=>none
  |_=>none
section
variable {P:Program} {n:Nat} {s:St} {o:Oper} {d:Nat} {t t':TypeId} {x y:Operand} {T:Tab} {op:BinOp} {v:AV}
theorem OC {k:FloatKind} {b:Nat} (ho:o.op= .unOp .neg t x) (hx:s.eval x= .lit (.float k b)):aH P n s o d (.lit (.float k (Op.negFloat k b))):=by
  intro G a w h
  refine ⟨_,bZ _,fun w' _=>?_⟩
  simp only [execOp,ho,h.evLit hx]
  simp [Op.unary]
theorem WS {u:UnOp} (ho:o.op= .unOp u t x) (h:vUn u (s.eval x)=some v):aH P n s o d v:=by
  unfold vUn at h
  split at h
  ·split at h
   ·rename_i b hx;cases h;exact aH.not ho hx
   ·cases h
  ·split at h
   ·rename_i k i hx;cases h;exact aH.neg ho hx rfl
   ·rename_i k b hx;cases h;exact OC ho hx
   ·cases h
  ·cases h
theorem LW {k:IntKind} {k':FloatKind} {i:Int} {D:TypeDesc} (ho:o.op= .convert t t' x) (h1:P.underlying t=some D) (h2:P.underlying t'=some (.float k')) (hx:s.eval x= .lit (.int k i)):aH P n s o d (.lit (.float k' (k'.nearest i))):=by
  intro G a w h
  refine ⟨_,bZ _,fun w' _=>?_⟩
  simp only [execOp,ho,h.evLit hx]
  simp only [convert,Sem.run_bind,run_underlying h1,run_underlying h2,Result.andThen]
  cases D<;>simp [Conv.intToFloat]
theorem LX {l:List UInt8} (ho:o.op= .convert t t' x) (h1:P.underlying t=some .string) (h2:P.underlying t'=some .string) (hx:s.eval x= .str l):aH P n s o d (.str l):=by
  intro G a w h
  refine ⟨_,RelV.str _,fun w' _=>?_⟩
  simp only [execOp,ho,h.evStr hx]
  simp [convert,Sem.run_bind,run_underlying h1,run_underlying h2,Result.andThen]
theorem vV {D:TypeDesc} {k:IntKind} (h:kOf D= .int k):D= .int k:=by cases D<;>first|(cases h;rfl)|cases h
theorem PJ {D:TypeDesc} {k:FloatKind} (h:kOf D= .float k):D= .float k:=by cases D<;>first|(cases h;rfl)|cases h
theorem sX {D:TypeDesc} (h:kOf D= .str):D= .string:=by cases D<;>first|rfl|cases h
theorem B2 {D:TypeDesc} {m E:Nat} (h:kOf D= .arr m E):D= .array m E:=by cases D<;>first|(cases h;rfl)|cases h
theorem bU {D:TypeDesc} {E:Nat} (h:kOf D= .slice E):D= .slice E:=by cases D<;>first|(cases h;rfl)|cases h
theorem CQ {D:TypeDesc} {fs:List (Nat×Nat)} (h:kOf D= .struct fs):∃F,D= .struct F∧F.toList.map (fun f=>(f.offset,f.type))=fs:=by
  cases D with
  |struct F=>injection h with h;exact ⟨F,rfl,h⟩
  |_=>cases h
theorem T9 (hT:eX P T) (ho:o.op= .convert t t' x) (h:RG T t t' (s.eval x)=some v):aH P n s o d v:=by
  unfold RG at h
  split at h
  ·rename_i k i hx
   split at h
   ·rename_i k' z hl
    obtain ⟨⟨D,hD,hk⟩,_⟩:=Tab.ok hT hl
    have:=vV hk;subst this
    split at h
    ·rename_i k2 z2 hl2
     obtain ⟨⟨D2,hD2,hk2⟩,_⟩:=Tab.ok hT hl2
     have:=vV hk2;subst this
     cases h
     exact N6 ho hD2 hD (by simp) hx rfl
    ·cases h
   ·rename_i k' z hl
    obtain ⟨⟨D,hD,hk⟩,_⟩:=Tab.ok hT hl
    have:=PJ hk;subst this
    split at h
    ·rename_i k2 z2 hl2
     obtain ⟨⟨D2,hD2,hk2⟩,_⟩:=Tab.ok hT hl2
     cases h
     exact LW ho hD2 hD hx
    ·cases h
   ·cases h
  ·rename_i l hx
   split at h
   ·rename_i z hl
    obtain ⟨⟨D,hD,hk⟩,_⟩:=Tab.ok hT hl
    have:=sX hk;subst this
    split at h
    ·rename_i z2 hl2
     obtain ⟨⟨D2,hD2,hk2⟩,_⟩:=Tab.ok hT hl2
     have:=sX hk2;subst this
     cases h
     exact LX ho hD2 hD hx
    ·cases h
   ·cases h
  ·cases h
theorem pN (hT:eX P T) {cells:List AV} {k:Nat} (h:wL T t cells k=some v):∃D size,P.underlying t=some D∧aZ P t size∧gU (TypeDesc.agg D) size cells k=some v:=by
  unfold wL at h
  split at h
  ·rename_i K size hl
   obtain ⟨⟨D,hD,hk⟩,hs⟩:=Tab.ok hT hl
   refine ⟨D,size,hD,hs,?_⟩
   unfold gU
   rw [yB,hk]
   cases hA:K.agg with
   |true=>
    rw [hA] at h
    simp only [cond_true] at h
    cases hb:Nat.ble (k+size) cells.length with
    |false=>rw [hb] at h;cases h
    |true=>
     rw [hb] at h
     simp only [cond_true,iH] at h
     rw [if_pos rfl,if_pos (Nat.le_of_ble_eq_true hb)]
     exact h
   |false=>
    rw [hA] at h
    simp only [cond_false] at h
    rw [if_neg (by decide)]
    split at h
    ·rename_i c hc
     rw [cP] at h
     rw [hc];exact h
    ·cases h
  ·cases h
theorem V9 (hT:eX P T) {f k:Nat} (h:UA T t f=some k):∃ft size,yA P t f k ft size∧size≠0:=by
  unfold UA at h
  split at h
  ·rename_i fs z hl
   obtain ⟨⟨D,hD,hk⟩,_⟩:=Tab.ok hT hl
   obtain ⟨F,rfl,hF⟩:=CQ hk
   split at h
   ·rename_i off ft hf
    split at h
    ·rename_i z2 size hl2
     obtain ⟨_,hs⟩:=Tab.ok hT hl2
     cases hb:Nat.beq size 0 with
     |true=>rw [hb] at h;cases h
     |false=>
      rw [hb] at h
      cases h
      refine ⟨ft,size,?_,fun e=>by rw [e] at hb;cases hb⟩
      rw [←hF,List.getElem?_map] at hf
      cases hx:F.toList[f]? with
      |none=>rw [hx] at hf;cases hf
      |some fl=>
       rw [hx] at hf
       simp only [Option.map_some,Option.some.injEq,Prod.mk.injEq] at hf
       obtain ⟨h1,h2⟩:=hf
       subst h2
       exact ⟨F,fl,hD,by simpa using hx,h1,rfl,hs⟩
    ·cases h
   ·cases h
  ·cases h
theorem WA (hT:eX P T) {i:AV} {k:Nat} (h:UB T t i=some k):∃len E size m kk,P.underlying t=some (.array len E)∧aZ P E size∧i= .lit (.int kk (m:Nat))∧m<len∧k=m*size:=by
  unfold UB at h
  split at h
  ·rename_i len E z hl
   obtain ⟨⟨D,hD,hk⟩,_⟩:=Tab.ok hT hl
   have:=B2 hk;subst this
   split at h
   ·rename_i kk m
    split at h
    ·rename_i z2 size hl2
     obtain ⟨_,hs⟩:=Tab.ok hT hl2
     cases hb:Nat.blt m len with
     |false=>rw [hb] at h;cases h
     |true=>
      rw [hb] at h
      cases h
      exact ⟨len,E,size,m,kk,hD,hs,rfl,Nat.le_of_ble_eq_true hb,rfl⟩
    ·cases h
   ·cases h
  ·cases h
theorem NT (hT:eX P T) {op:Op} (ho:o.op=op) (h:lY T s.eval s.loc op=some v):aH P n s o d v:=by
  subst ho
  unfold lY at h
  split at h
  ·rename_i x ho
   cases hb:Operand.ok x with
   |false=>rw [hb] at h;cases h
   |true=>
    rw [hb] at h
    simp only [cond_true,cP] at h
    exact aH.move (.inl ho) (i7 hb) (Option.some.inj h)
  ·rename_i x ho
   cases hb:Operand.ok x with
   |false=>rw [hb] at h;cases h
   |true=>
    rw [hb] at h
    simp only [cond_true,cP] at h
    exact aH.move (.inr ho) (i7 hb) (Option.some.inj h)
  ·rename_i ho;exact VS hT ho h
  ·rename_i ho;exact WS ho h
  ·rename_i ho;exact T9 hT ho h
  ·rename_i t x f ho
   split at h
   ·rename_i k hf
    obtain ⟨ft,size,h1,h0⟩:=V9 hT hf
    unfold P7 at h
    split at h
    ·rename_i b oo hx;cases h;exact KS ho h1 h0 hx
    ·rename_i b oo hx;cases h;exact KR ho h1 h0 hx
    ·rename_i b oo hx;cases h;exact C6 ho h1 h0 hx
    ·cases h
   ·cases h
  ·rename_i t x i ho
   split at h
   ·rename_i k hf
    obtain ⟨len,E,size,m,kk,h1,h2,h3,h4,rfl⟩:=WA hT hf
    unfold P7 at h
    split at h
    ·rename_i b oo hx;cases h;exact C8 ho h1 h2 hx h3 rfl h4
    ·rename_i b oo hx;cases h;exact KT ho h1 h2 hx h3 rfl h4
    ·rename_i b oo hx;cases h;exact C7 ho h1 h2 hx h3 rfl h4
    ·cases h
   ·cases h
  ·rename_i t x ho
   split at h
   ·rename_i e k hx
    split at h
    ·rename_i v' hv
     obtain ⟨D,size,h1,h2,h3⟩:=pN hT hv
     cases hb:v'.flat with
     |false=>rw [hb] at h;cases h
     |true=>rw [hb] at h;cases h;exact LY ho h1 h2 hx h3 hb
    ·cases h
   ·rename_i b k hx
    split at h
    ·rename_i cs hc
     split at h
     ·rename_i v' hv
      obtain ⟨D,size,h1,h2,h3⟩:=pN hT hv
      cases hb:v'.flat with
      |false=>rw [hb] at h;cases h
      |true=>rw [hb] at h;cases h;exact DU ho h1 h2 hx hc h3 hb
     ·cases h
    ·cases h
   ·cases h
  ·rename_i x ho
   split at h
   ·rename_i b k hx;cases h;exact aH.nilCheck ho hx (.inl ⟨_,_,rfl⟩)
   ·rename_i b k hx;cases h;exact aH.nilCheck ho hx (.inr (.inl ⟨_,_,rfl⟩))
   ·rename_i b k hx;cases h;exact aH.nilCheck ho hx (.inr (.inr ⟨_,_,rfl⟩))
   ·cases h
  ·rename_i x m ho
   split at h
   ·rename_i t
    split at h
    ·rename_i cs hx
     split at h
     ·rename_i c hc
      rw [cP] at h
      cases hb:c.un.flat with
      |false=>rw [hb] at h;cases h
      |true=>rw [hb] at h;cases h;exact aH.extract ho hx hc hb
     ·cases h
    ·cases h
   ·cases h
  ·rename_i t x f ho
   cases hi:LN x with
   |false=>rw [hi] at h;cases h
   |true=>
    rw [hi] at h
    simp only [cond_true] at h
    have hxc:∃r,x= .tmp r:=by cases x<;>first|exact ⟨_,rfl⟩|cases hi
    split at h
    ·rename_i cs hx
     split at h
     ·rename_i fs z hl
      obtain ⟨⟨D,hD,hk⟩,_⟩:=Tab.ok hT hl
      obtain ⟨F,rfl,hF⟩:=CQ hk
      split at h
      ·rename_i off ft hf
       unfold UT at h
       split at h
       ·rename_i K size hl2
        obtain ⟨⟨D2,hD2,hk2⟩,hs⟩:=Tab.ok hT hl2
        have hfo:yA P t f off ft size:=by
          rw [←hF,List.getElem?_map] at hf
          cases hx:F.toList[f]? with
          |none=>rw [hx] at hf;cases hf
          |some fl=>
           rw [hx] at hf
           simp only [Option.map_some,Option.some.injEq,Prod.mk.injEq] at hf
           obtain ⟨h1,h2⟩:=hf
           subst h2
           exact ⟨F,fl,hD,by simpa using hx,h1,rfl,hs⟩
        cases hA:K.agg with
        |true=>
         rw [hA] at h
         simp only [cond_true] at h
         cases hb:Nat.ble (off+size) cs.length with
         |false=>rw [hb] at h;cases h
         |true=>
          rw [hb] at h
          simp only [cond_true,iH] at h
          cases h
          refine aH.field (v:= .agg ((cs.drop off).take size)) ho hfo hD2 hx hxc ?_ rfl
          unfold uG
          rw [yB,hk2,hA,if_pos rfl,if_pos (Nat.le_of_ble_eq_true hb)]
        |false=>
         rw [hA] at h
         simp only [cond_false] at h
         split at h
         ·rename_i c hc
          rw [cP] at h
          cases hb:c.un.flat with
          |false=>rw [hb] at h;cases h
          |true=>
           rw [hb] at h;cases h
           refine aH.field (v:=c) ho hfo hD2 hx hxc ?_ hb
           unfold uG
           rw [yB,hk2,hA,if_neg (by decide)];exact hc
         ·cases h
       ·cases h
      ·cases h
     ·cases h
    ·cases h
  ·rename_i t x i ho
   cases hi:LN x with
   |false=>rw [hi] at h;cases h
   |true=>
    rw [hi] at h
    simp only [cond_true] at h
    have hxc:∃r,x= .tmp r:=by cases x<;>first|exact ⟨_,rfl⟩|cases hi
    split at h
    ·rename_i cs hx
     split at h
     ·rename_i len E z hl
      obtain ⟨⟨D,hD,hk⟩,_⟩:=Tab.ok hT hl
      have:=B2 hk;subst this
      split at h
      ·rename_i m hm
       cases hb:Nat.blt m len with
       |false=>rw [hb] at h;cases h
       |true=>
        rw [hb] at h
        simp only [cond_true] at h
        split at h
        ·rename_i K size hl2
         obtain ⟨⟨D2,hD2,hk2⟩,hs⟩:=Tab.ok hT hl2
         unfold i' at hm
         split at hm
         ·rename_i kk m' hm'
          cases hm
          unfold LQ at h
          cases hA:K.agg with
          |true=>
           rw [hA] at h
           simp only [cond_true] at h
           cases hb2:Nat.ble (m*size+size) cs.length with
           |false=>rw [hb2] at h;cases h
           |true=>
            rw [hb2] at h
            simp only [cond_true,iH] at h
            cases h
            refine wW ho hD hD2 hs hx hxc hm' rfl (Nat.le_of_ble_eq_true hb) ?_ rfl
            unfold uG
            rw [yB,hk2,hA,if_pos rfl,if_pos (Nat.le_of_ble_eq_true hb2)]
          |false=>
           rw [hA] at h
           simp only [cond_false] at h
           split at h
           ·rename_i c hc
            rw [cP] at h
            cases hb2:c.flat with
            |false=>rw [hb2] at h;cases h
            |true=>
             rw [hb2] at h;cases h
             refine wW ho hD hD2 hs hx hxc hm' rfl (Nat.le_of_ble_eq_true hb) ?_ hb2
             unfold uG
             rw [yB,hk2,hA,if_neg (by decide)];exact hc
           ·cases h
         ·cases hm
        ·cases h
      ·cases h
     ·cases h
    ·cases h
  ·rename_i c ho
   split at h
   ·rename_i hc
    split at h
    ·rename_i x y ha
     split at h
     ·rename_i k i hx
      split at h
      ·rename_i k' j hy
       cases hb:decide (k=k') with
       |false=>rw [hb] at h;cases h
       |true=>
        rw [hb] at h
        have:=of_decide_eq_true hb
        subst this
        cases h
        exact OA ho hc (Array.toList_inj.1 ha) hx hy rfl
      ·cases h
     ·cases h
    ·cases h
   ·rename_i hc
    split at h
    ·rename_i x y ha
     split at h
     ·rename_i k i hx
      split at h
      ·rename_i k' j hy
       cases hb:decide (k=k') with
       |false=>rw [hb] at h;cases h
       |true=>
        rw [hb] at h
        have:=of_decide_eq_true hb
        subst this
        cases h
        exact OB ho hc (Array.toList_inj.1 ha) hx hy rfl
      ·cases h
     ·cases h
    ·cases h
   ·rename_i hc
    split at h
    ·rename_i x ha
     split at h
     ·rename_i l hx
      split at h
      ·rename_i t hat
       split at h
       ·rename_i z hl
        obtain ⟨⟨D,hD,hk⟩,_⟩:=Tab.ok hT hl
        have:=sX hk;subst this
        cases h
        exact KV ho hc (Array.toList_inj.1 ha) (Array.toList_inj.1 hat) hD hx
       ·cases h
      ·cases h
     ·cases h
    ·cases h
   ·cases h
  ·cases h
end
end
section
open Go.RowKit
abbrev Zt :=List (Nat×List AV×List AV)
def Zt.look :Zt→Nat→Option (List AV)
  |[],_=>none
  |(t,x,_)::r,u=>bif Nat.beq t u then some x else Zt.look r u
def Zt.lookO :Zt→Nat→Option (List AV)
  |[],_=>none
  |(t,_,x)::r,u=>bif Nat.beq t u then some x else Zt.lookO r u
def Zt1 (P:Program) (t:Nat) (cs:List AV):Prop:=∃z Es,(P.info? t).map (·.zero)=some (some z)∧z.cells.toList.all (fun c=>c.oneCell')=true∧dM z.cells.toList Es=cs∧(∀D,P.underlying t=some D→TypeDesc.agg D=true→∃zs,z= .agg zs)
def wY (P:Program):Zt→Prop
  |[]=>True
  |(t,cs,co)::r=>(Zt1 P t cs∧Zt1 P t co)∧wY P r
theorem zz {P:Program} {t:Nat} {cs co:List AV} (z:Value) (Es Eo:List TypeId) (h:(P.info? t).map (·.zero)=some (some z)) (h1:z.cells.toList.all (fun c=>c.oneCell')=true) (h2:dM z.cells.toList Es=cs) (h3:dM z.cells.toList Eo=co)
    (h4:∀D,P.underlying t=some D→TypeDesc.agg D=true→∃zs,z= .agg zs):Zt1 P t cs∧Zt1 P t co:=⟨⟨z,Es,h,h1,h2,h4⟩,⟨z,Eo,h,h1,h3,h4⟩⟩
theorem zD {P:Program} {t:Nat} {D0:TypeDesc} {X:Prop} (h:P.underlying t=some D0) (ha:TypeDesc.agg D0=false:=by rfl):∀D,P.underlying t=some D→TypeDesc.agg D=true→X:=fun D h1 h2=>by
  rw [h] at h1
  cases h1
  rw [ha] at h2
  cases h2
theorem bJ {P:Program} {t n:Nat} {D0:TypeDesc} {k:TK} (h:P.underlying t=some D0) (hk:kOf D0=k) (hs:(P.info? t).map (·.size)=some n):(∃D,P.underlying t=some D∧kOf D=k)∧aZ P t n:=⟨⟨_,h,hk⟩,hs⟩
theorem Zt.ok {P:Program} {t:Nat} {cs:List AV}:∀{Z:Zt},wY P Z→Z.look t=some cs→Zt1 P t cs
  |(u,cs',co)::r,h,hl=>by
   simp only [Zt.look] at hl
   cases e:Nat.beq u t with
   |true=>rw [e] at hl;cases hl;rw [←Nat.eq_of_beq_eq_true e];exact h.1.1
   |false=>rw [e] at hl;exact Zt.ok h.2 hl
  |[],_,hl=>by cases hl
theorem L0 {P:Program} {t:Nat} {cs:List AV}:∀{Z:Zt},wY P Z→Z.lookO t=some cs→Zt1 P t cs
  |(u,cs',co)::r,h,hl=>by
   simp only [Zt.lookO] at hl
   cases e:Nat.beq u t with
   |true=>rw [e] at hl;cases hl;rw [←Nat.eq_of_beq_eq_true e];exact h.1.2
   |false=>rw [e] at hl;exact L0 h.2 hl
  |[],_,hl=>by cases hl
def wJ :Operand→Bool
  | .const (.slice none 0 0)=>true
  |_=>false
theorem GJ {x:Operand} (h:wJ x=true):x= .const (.slice none 0 0):=by
  unfold wJ at h
  split at h
  ·rfl
  ·cases h
def HE (ev:Operand→AV) (x:Operand) (E:Option Nat):Option AV:=
  bif wJ x then (match E with|some E=>some (.list false E [])|none=>none)
  else (ev x).un.force fun v=>bif v.flat&&Operand.ok x then some v else none
theorem yE {s:St} {x:Operand} {E:Option Nat} {v:AV} (h:HE s.eval x E=some v):jF s x v∧Operand.ok x=true:=by
  unfold HE at h
  cases hb:wJ x with
  |true=>
   rw [hb] at h
   have:=GJ hb
   subst this
   simp only [cond_true] at h
   split at h
   ·cases h;exact ⟨.inr ⟨rfl,_,.inl rfl⟩,rfl⟩
   ·cases h
  |false=>
   rw [hb] at h
   simp only [cond_false,cP] at h
   cases hc:((s.eval x).un.flat&&Operand.ok x) with
   |false=>rw [hc] at h;cases h
   |true=>
    rw [hc] at h
    simp only [Bool.and_eq_true] at hc
    cases h
    exact ⟨.inl ⟨rfl,hc.1⟩,hc.2⟩
def n1 (T:Tab) (t:Nat):Option Nat:=match T.look t with|some (.slice E,_)=>some E|_=>none
def EN (T:Tab) (ev:Operand→AV) (ft:Nat→Option Nat):List (Nat×Operand)→Option (List (Nat×AV))
  |[]=>some []
  |(i,x)::r=>match HE ev x (match ft i with|some t=>n1 T t|none=>none) with
   |some v=>bif v.part then (match EN T ev ft r with|some q=>some ((i,v)::q)|none=>none) else none
   |none=>none
theorem EO {T:Tab} {s:St} {ft:Nat→Option Nat}:∀{l:List (Nat×Operand)} {xs:List (Nat×AV)},EN T s.eval ft l=some xs→dQ s l xs
  |[],xs,h=>by cases h;exact trivial
  |(i,x)::r,xs,h=>by
   unfold EN at h
   split at h
   ·rename_i v hv
    cases hp:v.part with
    |false=>rw [hp] at h;cases h
    |true=>
     rw [hp] at h
     simp only [cond_true] at h
     split at h
     ·rename_i q hq
      cases h
      have:=yE hv
      exact ⟨⟨rfl,this.1,hp,this.2⟩,EO hq⟩
     ·cases h
   ·cases h
def MJ (T:Tab):List (Nat×Nat)→Option (List (Nat×Nat))
  |[]=>some []
  |(off,ft)::r=>match T.look ft with
   |some (_,size)=>match MJ T r with
    |some q=>some ((off,size)::q)
    |none=>none
   |none=>none
theorem MK {P:Program} {T:Tab} (hT:eX P T):∀(F:List Field) (q:List (Nat×Nat)),MJ T (F.map fun f=>(f.offset,f.type))=some q→∀w:World,(F.mapM fun f=>(do pure (f.offset,←sizeOf f.type):Sem (Nat×Nat))).run P w= .ok q w
  |[],q,h,w=>by cases h;rfl
  |f::r,q,h,w=>by
   simp only [List.map_cons,MJ] at h
   split at h
   ·rename_i k size hl
    split at h
    ·rename_i q' hq
     cases h
     obtain ⟨_,hs⟩:=Tab.ok hT hl
     have ih:=MK hT r q' hq w
     rw [List.mapM_cons]
     simp only [Sem.run_bind,cC hs,Result.andThen,Sem.run_pure]
     rw [ih]
    ·cases h
   ·cases h
theorem R4 {P:Program} {T:Tab} (hT:eX P T) {F:Array Field} {q:List (Nat×Nat)} (h:MJ T (F.toList.map fun f=>(f.offset,f.type))=some q) (w:World):(F.mapM fun f=>(do pure (f.offset,←sizeOf f.type):Sem (Nat×Nat))).run P w= .ok q.toArray w:=by
  have:=MK hT F.toList q h w
  rw [Array.mapM_eq_mapM_toList]
  show ((F.toList.mapM fun f=>(do pure (f.offset,←sizeOf f.type):Sem (Nat×Nat)))>>=fun x=>pure x.toArray).run P w=_
  rw [Sem.run_bind,this];rfl
def E1 (fr:Fr) (C:Cnd) (c x y:Operand):Option AV:=
  match c with
  | .tmp t=>match bX fr C t with
    | .lit (.bool b)=>match evE fr ((t,true)::C) x with
      | .lit (.bool p)=>match evE fr ((t,false)::C) y with
        | .lit (.bool q)=>bif isC x then (match p with
            |true=>some (.lit (.bool (b||q)))
            |false=>some (.lit (.bool (!b&&q))))
          else bif isC y then (match q with
            |false=>some (.lit (.bool (b&&p)))
            |true=>some (.lit (.bool (!b||p))))
          else some (.lit (.bool (bif b then p else q)))
        |_=>none
      |_=>none
    |_=>none
  |_=>none
section
variable {P:Program} {n:Nat} {e e':Es} {ops:Array Oper} {l rest:List Oper} {o:Oper} {Q:Es→Prop} {d:Nat} {T:Tab} {Z:Zt} {v:AV} {C:Cnd} {t:TypeId}
theorem wC {t:Nat} {b:Bool} {a:Act} (hC:fV C a) (h:a.tmps.getD t undef= .bool b):fV ((t,b)::C) a:=by
  intro p hp
  rcases List.mem_cons.1 hp with h1|h1
  ·subst h1;exact h
  ·exact hC p h1
theorem aC.pick {c x y:Operand} (ho:o.op= .pick c x y) (hv:E1 e.fr C c x y=some v) (hC:bH ops e.fr o=some C) (hd:o.dst=some d) (hn:d<n) (hg:cT d (j7 C e.gs)=false) (k:aC P n ops rest (e.put d C v) Q):aC P n ops (o::rest) e Q:=by
  refine aC.yield hC hd hn hg (fun G a w hr hc=>?_) k
  unfold E1 at hv
  split at hv
  ·rename_i t
   split at hv
   ·rename_i b hb
    have hs:=(hr.st hc).slot t
    rw [cD,hb] at hs
    have htb:=bE.lit hs
    split at hv
    ·rename_i p hp
     split at hv
     ·rename_i q hq
      have hrun:(execOp a.eval o).run P w= .ok (.value (if b then a.eval x else a.eval y)) w:=by
        have:a.eval (.tmp t)= .bool b:=htb
        simp [execOp,ho,this,asBool]
      refine ⟨_,?_,hrun⟩
      have hval:(if b then a.eval x else a.eval y)= .bool (bif b then p else q):=by
        cases b with
        |true=>
         rw [n3] at hp
         exact (hr.st (wC hc htb)).evLit hp
        |false=>
         rw [n3] at hq
         exact (hr.st (wC hc htb)).evLit hq
      rw [hval]
      have hlit:v= .lit (.bool (bif b then p else q)):=by
        cases h1:isC x with
        |true=>
         rw [h1] at hv
         simp only [cond_true] at hv
         cases p<;>cases hv<;>cases b<;>rfl
        |false=>
         rw [h1] at hv
         simp only [cond_false] at hv
         cases h2:isC y with
         |true=>
          rw [h2] at hv
          simp only [cond_true] at hv
          cases q<;>cases hv<;>cases b<;>simp
         |false=>
          rw [h2] at hv
          simp only [cond_false] at hv
          cases hv;rfl
      rw [hlit]
      exact bZ _
     ·cases hv
    ·cases hv
   ·cases hv
  ·cases hv
def II (T:Tab) (Z:Zt) (own:Bool) (ev:Operand→AV) (t:Nat) (ps:List (Nat×Operand)):Option AV:=
  match (bif own then Z.lookO t else Z.look t) with
  |some zc=>match T.look t with
   |some (.struct fs,_)=>match MJ T fs with
    |some pl=>match EN T ev (fun i=>match fs[i]? with|some (_,ft)=>some ft|none=>none) ps with
     |some xs=>match pV (pl[·]?) zc xs with
      |some cs=>l0 cs fun cs=>some (.agg cs)
      |none=>none
     |none=>none
    |none=>none
   |some (.arr _ E,_)=>match T.look E with
    |some (_,size)=>match EN T ev (fun _=>some E) ps with
     |some xs=>match pV (fun i=>some (i*size,size)) zc xs with
      |some cs=>l0 cs fun cs=>some (.agg cs)
      |none=>none
     |none=>none
    |none=>none
   |_=>none
  |none=>none
theorem KM {s:St} {own:Bool} (hT:eX P T) (hZ:wY P Z) {ps:Array (Nat×Operand)} (ho:o.op= .build t ps) (h:II T Z own s.eval t ps.toList=some v):aH P n s o d v:=by
  unfold II at h
  split at h
  ·rename_i zc hz
   obtain ⟨z,Es,h1,h2,rfl,h4⟩:Zt1 P t zc:=by
     cases own with
     |true=>exact L0 hZ hz
     |false=>exact Zt.ok hZ hz
   split at h
   ·rename_i fs size hl
    obtain ⟨⟨D,hD,hk⟩,_⟩:=Tab.ok hT hl
    obtain ⟨F,rfl,rfl⟩:=CQ hk
    obtain ⟨zs,rfl⟩:=h4 _ hD rfl
    split at h
    ·rename_i pl hpl
     split at h
     ·rename_i xs hxs
      split at h
      ·rename_i cs hcs
       rw [iH] at h
       cases h
       exact aH.build (places:=pl) ho hD (EO hxs).of h1 h2 (R4 hT hpl) hcs
      ·cases h
     ·cases h
    ·cases h
   ·rename_i m E size0 hl
    obtain ⟨⟨D,hD,hk⟩,_⟩:=Tab.ok hT hl
    have:=B2 hk;subst this
    obtain ⟨zs,rfl⟩:=h4 _ hD rfl
    split at h
    ·rename_i z2 size hl2
     obtain ⟨_,hs⟩:=Tab.ok hT hl2
     split at h
     ·rename_i xs hxs
      split at h
      ·rename_i cs hcs
       rw [iH] at h
       cases h
       exact gE ho hD hs (EO hxs).of h1 h2 hcs
      ·cases h
     ·cases h
    ·cases h
   ·cases h
  ·cases h
end
end
section
open Go.RowKit
def scl :List AV→Bool
  |[]=>false
  |c::r=>(c::r).all AV.scalar
theorem kZ {cs:List AV} (h:scl cs=true):cs.all AV.scalar=true∧cs≠[]:=by
  cases cs with
  |nil=>cases h
  |cons c r=>exact ⟨h,by simp⟩
theorem cS {base:Nat→Option (List AV)}:∀{objs:Ob} {j id:Nat} {cs:List AV},(objs.map (·.1)).Nodup→objs[j]? =some (id,cs)→lay objs base id=some cs
  |(i,c)::r,0,id,cs,_,h=>by simp at h;obtain ⟨rfl,rfl⟩:=h;exact bP
  |(i,c)::r,j+1,id,cs,hn,h=>by
   simp only [List.getElem?_cons_succ] at h
   simp only [List.map_cons,List.nodup_cons] at hn
   have:id≠i:=by
     rintro rfl
     exact hn.1 (List.mem_map.2 ⟨_,List.mem_of_getElem? h,rfl⟩)
   show bA (lay r base) i c id=_
   rw [bT this]
   exact cS hn.2 h
  |[],j,id,cs,_,h=>by simp at h
theorem jQ {base:Nat→Option (List AV)}:∀{objs:Ob} {j id:Nat} {cs cs':List AV},(objs.map (·.1)).Nodup→objs[j]? =some (id,cs)→bA (lay objs base) id cs'=lay (objs.set j (id,cs')) base
  |(i,c)::r,0,id,cs,cs',_,h=>by simp at h;obtain ⟨rfl,rfl⟩:=h;exact AO
  |(i,c)::r,j+1,id,cs,cs',hn,h=>by
   simp only [List.getElem?_cons_succ] at h
   simp only [List.map_cons,List.nodup_cons] at hn
   have hne:id≠i:=by
     rintro rfl
     exact hn.1 (List.mem_map.2 ⟨_,List.mem_of_getElem? h,rfl⟩)
   show bA (bA (lay r base) i c) id cs'=bA (lay (r.set j (id,cs')) base) i c
   rw [IE hne (jQ hn.2 h)]
  |[],j,id,cs,cs',_,h=>by simp at h
theorem jR {objs:Ob} {base:Nat→Option (List AV)} {objs':Ob} (h:ndO objs base) (e:objs'.map (·.1)=objs.map (·.1)):ndO objs' base:=by
  unfold ndO
  rw [e];exact h
theorem d3 {objs:Ob} {j id:Nat} {cs cs':List AV} (h:objs[j]? =some (id,cs)):(objs.set j (id,cs')).map (·.1)=objs.map (·.1):=by
  rw [List.map_set]
  apply List.ext_getElem?
  intro i
  rw [List.getElem?_set]
  split
  ·rename_i e
   subst e
   split
   ·rw [List.getElem?_map,h];rfl
   ·rename_i hlt
    rw [List.getElem?_eq_none]
    omega
  ·rfl
def iC :List (Nat×Nat)→Prop
  |[]=>True
  |(a,b)::r=>a=b∧iC r
abbrev Out :=Option (Es×List (Nat×Nat)×List Nat)
def JT {α:Type _}:Ob→Nat→(Nat×List AV)→(Ob→α)→α
  |[],_,_,k=>k []
  |_::r,0,p,k=>k (p::r)
  |a::r,j+1,p,k=>JT r j p fun r=>k (a::r)
theorem EZ {α:Type _}:∀(l:Ob) (j:Nat) (p:Nat×List AV) (k:Ob→α),JT l j p k=k (l.set j p)
  |[],_,_,k=>rfl
  |_::r,0,p,k=>rfl
  |a::r,j+1,p,k=>by unfold JT;rw [EZ r];rfl
def ok0 (x:Option Es) (H:List Nat):Out:=match x with|some e=>some (e,[],H)|none=>none
def fI (n:Nat) (e:Es) (d:Nat) (C:Cnd) (v:Option AV):Option Es:=
  match e with
  |⟨fr,gs,loc,objs,base⟩=>bif Nat.blt d n&&!(cT d (j7 C gs)) then (match v with
   |some v=>match C with
    |[]=>some ⟨(d,[],v)::fr,gs,loc,objs,base⟩
    |(t,w)::D=>some ⟨(d,(t,w)::D,v)::fr,t::gs,loc,objs,base⟩
   |none=>none) else none
def plain (e:Es) (C:Cnd):Bool:=e.gs.isEmpty&&C.isEmpty
def RH (T:Tab) (ev:Operand→AV) (E size:Nat):Nat→List (Nat×Operand)→Option (List AV)
  |_,[]=>some []
  |j,(i,x)::r=>bif Nat.beq i j then (match HE ev x (n1 T E) with
   |some v=>bif v.part&&Nat.beq v.cells.length size then (match RH T ev E size (j+1) r with|some q=>some (v::q)|none=>none) else none
   |none=>none) else none
def nV (d:Nat):Fr→Bool
  |[]=>true
  |(_,_,v)::r=>bif v.notL d then nV d r else false
def GI (x:Option (List AV)):Bool:=match x with|none=>true|some _=>false
def zP (T:Tab) (ev:Operand→AV) (t:Nat) (y:Operand) (cells:List AV) (off:Nat):Option (List AV):=
  match T.look t with
  |some (_,size)=>match HE ev y (n1 T t) with
   |some v=>bif v.part&&v.cells.all AV.flat&&Nat.beq v.cells.length size&&Nat.ble (off+size) cells.length then l0 (c8 cells off v.cells) some else none
   |none=>none
  |none=>none
def UQ (L:List Nat):Operand→Option Nat
  | .tmp r=>bif cT r L then some r else none
  |_=>none
def UR :Operand→Option Nat
  | .tmp r=>some r
  |_=>none
def ID (n:Nat) (e:Es) (d:Nat) (C:Cnd) (x:Operand) (ty:Option Nat):Option Es:=
  match e with
  |⟨fr,gs,loc,objs,base⟩=>
     bif plain ⟨fr,gs,loc,objs,base⟩ C&&Nat.blt d n then (bif wJ x then (match ty with
         |some E=>some ⟨(d,[],.list true E [])::fr,[],loc,objs,base⟩
         |none=>none)
       else match UR x with
         |some r=>bif Nat.beq r d then none else (bX fr [] r).force fun v=>v.un.force fun u=>some ⟨(d,[],v)::(r,[],u)::fr,[],loc,objs,base⟩
         |none=>none)
     else none
def Q6 (n:Nat) (e:Es) (d:Nat) (C:Cnd) (x:Operand) (m:Nat):Option Es:=
  match e with
  |⟨fr,gs,loc,objs,base⟩=>
     bif plain ⟨fr,gs,loc,objs,base⟩ C&&Nat.blt d n then (match UR x with
       |some r=>bif Nat.beq r d then none else (match bX fr [] r with
        | .tuple cs=>match cs[m]? with
          |some (.list true E xs)=>l0 (cs.set m (.list false E xs)) fun q=>some ⟨(d,[],.list true E xs)::(r,[],.tuple q)::fr,[],loc,objs,base⟩
          |_=>none
        |_=>none)
       |none=>none)
     else none
def CZ (n:Nat) (e:Es) (d:Nat) (C:Cnd) (cs:Option (List AV)):Option Es:=
  match e with
  |⟨fr,gs,loc,objs,base⟩=>
     bif plain ⟨fr,gs,loc,objs,base⟩ C&&Nat.blt d n&&GI (a6 loc d)&&nV d fr then (match cs with
       |some cs=>bif cs.all (fun c=>c.scalar&&c.flat) then some ⟨(d,[],.lptr d 0)::fr,[],(d,cs)::loc,objs,base⟩ else none
       |none=>none)
     else none
def RF (T:Tab) (ev:Operand→AV) (t:Nat) (x:Operand):Option (List AV):=
  match HE ev x (n1 T t) with
  |some v=>bif v.part then some v.cells else none
  |none=>none
def EP (T:Tab) (Z:Zt) (ev:Operand→AV) (t len:Nat) (ps:List (Nat×Operand)):Option AV:=
  match T.look t with
  |some (.slice E,_)=>match T.look E with
   |some (_,size)=>match Z.look E with
    |some zc=>bif Nat.beq zc.length size&&Nat.beq len ps.length&&Nat.ble (len*size) 1000&&!(Nat.beq (len*size) 0) then
       (match RH T ev E size 0 ps with
       |some xs=>some (.list true E xs)
       |none=>none)
     else none
    |none=>none
   |none=>none
  |_=>none
def EK (n:Nat) (e:Es) (d:Nat) (C:Cnd) (v:Option AV):Option Es:=bif wA C e.fr&&rN e.fr C C then fI n e d C v else none
def Q5 (T:Tab) (n:Nat) (e:Es) (d:Nat) (C:Cnd) (t k j id:Nat) (cs:List AV):Option Es:=
  match e with
  |⟨fr,gs,loc,objs,base⟩=>
     bif plain ⟨fr,gs,loc,objs,base⟩ C&&Nat.blt d n&&scl cs then (match T.look t with
       |some (.slice _,_)=>match cs[k]? with
        |some (.list true E xs)=>l0 (cs.set k (.list false E xs)) fun q=>JT objs j (id,q) fun objs=>some ⟨(d,[],.list true E xs)::fr,[],loc,objs,base⟩
        |_=>none
       |_=>none)
     else none
def T2 (T:Tab) (e:Es) (t r k j id:Nat) (cs:List AV):Option Es:=
  match e with
  |⟨fr,_gs,loc,objs,base⟩=>
     match T.look t with
     |some (.slice _,1)=>match bX fr [] r with
      | .list true E xs=>bif Nat.blt k cs.length then l0 (cs.set k (.list true E xs)) fun q=>JT objs j (id,q) fun objs=>some ⟨(r,[],.list false E xs)::fr,[],loc,objs,base⟩ else none
      |_=>none
     |_=>none
def BP {α:Type _}:Cnd→(Cnd→α)→α
  |[],k=>k []
  |(t,w)::r,k=>BP r fun r=>k ((t,w)::r)
theorem AC {α:Type _}:∀(C:Cnd) (k:Cnd→α),BP C k=k C
  |[],k=>rfl
  |(t,w)::r,k=>by unfold BP;rw [AC r]
def lX (T:Tab) (Z:Zt) (n:Nat) (ops:Array Oper) (L H:List Nat) (e:Es) (o:Oper):Out:=
  match bH ops e.fr o with
  |none=>none
  |some C=>BP C fun C=>match o.dst with
   |some d=>match o.op with
    | .assign x=>bif wJ x||cT d L then ok0 (ID n e d C x (n1 T o.type)) H else ok0 (fI n e d C (lY T (evE e.fr C) e.loc (.assign x))) H
    | .move x=>bif cT d L then ok0 (ID n e d C x (n1 T o.type)) H else ok0 (fI n e d C (lY T (evE e.fr C) e.loc (.move x))) H
    | .extract x m=>bif cT d L then ok0 (Q6 n e d C x m) H else ok0 (fI n e d C (lY T (evE e.fr C) e.loc (.extract x m))) H
    | .pick c x y=>ok0 (fI n e d C (E1 e.fr C c x y)) H
    | .build t ps=>ok0 (fI n e d C (II T Z (cT d L) (evE e.fr C) t ps.toList)) H
    | .buildSlice t len ps=>ok0 (EK n e d C (EP T Z (evE e.fr C) t len ps.toList)) H
    | .alloc t=>ok0 (CZ n e d C (Z.look t)) H
    | .box t x=>ok0 (CZ n e d C (RF T (evE e.fr C) t x)) H
    | .load t x=>match evE e.fr C x with
      | .gptr id k=>match H with
        |j::H=>match e.objs[j]? with
         |some (id',cs)=>bif cT d L then (match Q5 T n e d C t k j id' cs with
            |some e'=>some (e',[(id,id')],H)
            |none=>none)
          else match wL T t cs k with
          |some v=>bif scl cs&&v.flat then (match fI n e d C (some v) with
           |some e'=>some (e',[(id,id')],H)
           |none=>none) else none
          |none=>none
         |none=>none
        |[]=>none
      |_=>ok0 (fI n e d C (lY T (evE e.fr C) e.loc (.load t x))) H
    | .call c=>match c.callee with
      | .builtin .len=>match c.args.toList with
        |[x]=>match evE e.fr C x with
         | .list _ _ xs=>match c.argTypes.toList with
           |[t]=>match n1 T t with
            |some _=>match H with
             |m::H=>match fI n e d C (some (.lit (.int .i64 (m:Int)))) with
              |some e'=>some (e',[(xs.length,m)],H)
              |none=>none
             |[]=>none
            |none=>none
           |_=>none
         |_=>ok0 (fI n e d C (lY T (evE e.fr C) e.loc (.call c))) H
        |_=>none
      |_=>ok0 (fI n e d C (lY T (evE e.fr C) e.loc (.call c))) H
    |op=>ok0 (fI n e d C (lY T (evE e.fr C) e.loc op)) H
   |none=>match o.op with
    | .store t x y=>bif plain e C then (match evE e.fr C x with
      | .lptr b k=>match a6 e.loc b with
        |some cs=>match zP T (evE e.fr C) t y cs k with
         |some cs'=>(match e with|⟨fr,_,loc,objs,base⟩=>some (⟨fr,[],(b,cs')::loc,objs,base⟩,[],H))
         |none=>none
        |none=>none
      | .gptr id k=>match H with
        |j::H=>match e.objs[j]? with
         |some (id',cs)=>bif scl cs then (match UQ L y with
          |some r=>match T2 T e t r k j id' cs with
           |some e'=>some (e',[(id,id')],H)
           |none=>none
          |none=>match zP T (evE e.fr C) t y cs k with
           |some cs'=>(match e with|⟨fr,_,loc,objs,base⟩=>JT objs j (id',cs') fun objs=>some (⟨fr,[],loc,objs,base⟩,[(id,id')],H))
           |none=>none) else none
         |none=>none
        |[]=>none
      |_=>none) else none
    |_=>none
def HA (T:Tab) (Z:Zt) (n:Nat) (ops:Array Oper) (L:List Nat):Nat→List Nat→List Oper→Es→List (Nat×Nat)→Option (List Oper×Es×List (Nat×Nat))
  |0,[],l,e,q=>some (l,e,q)
  |k+1,H,o::l,e,q=>match lX T Z n ops L H e o with
   |some (e',q',H')=>HA T Z n ops L k H' l e' (q'++q)
   |none=>none
  |_,_,_,_,_=>none
section
variable {P:Program} {n:Nat} {e e':Es} {ops:Array Oper} {l rest:List Oper} {o:Oper} {Q:Es→Prop} {d:Nat} {T:Tab} {Z:Zt} {v:AV} {C:Cnd} {t:TypeId} {H H' L:List Nat} {q:List (Nat×Nat)}
theorem B6 {v:Option AV} (h:fI n e d C v=some e'):∃v',v=some v'∧e'=e.put d C v'∧d<n∧cT d (j7 C e.gs)=false:=by
  obtain ⟨fr,gs,loc,objs,base⟩:=e
  unfold fI at h
  simp only at h
  cases hb:(Nat.blt d n&&!(cT d (j7 C gs))) with
  |false=>rw [hb] at h;cases h
  |true=>
   rw [hb] at h
   simp only [Bool.and_eq_true,Bool.not_eq_true'] at hb
   simp only [cond_true] at h
   cases v with
   |none=>cases h
   |some v=>cases C<;>(cases h;exact ⟨v,rfl,rfl,Nat.le_of_ble_eq_true hb.1,hb.2⟩)
theorem sM (h:plain e C=true):e.gs=[]∧C=[]:=by
  unfold plain at h
  simp only [Bool.and_eq_true,List.isEmpty_iff] at h
  exact h
theorem eJ {x:Option Es} (h:ok0 x H=some (e',q,H')):x=some e'∧q=[]:=by
  cases x with
  |none=>cases h
  |some y=>cases h;exact ⟨rfl,rfl⟩
theorem TC (h:bH ops e.fr o=some []):o.guard=none:=by
  unfold bH at h
  split at h
  ·assumption
  ·split at h<;>cases h
theorem cB (s:St) (h:bH ops e.fr o=some []):bY ops s o:=by
  unfold bY;rw [TC h];trivial
theorem CU {v:Option AV} (hC:bH ops e.fr o=some C) (hd:o.dst=some d) (h:fI n e d C v=some e') (hv:∀v',v=some v'→aH P n (e.st C) o d v') (k:aC P n ops rest e' Q):aC P n ops (o::rest) e Q:=by
  obtain ⟨v',rfl,rfl,h1,h2⟩:=B6 h
  exact aC.read hC hd h1 h2 (hv v' rfl) k
theorem dI (e:Es) (C:Cnd):evE e.fr C=(e.st C).eval:=funext fun x=>n3 e C x
theorem pI (hT:eX P T) {op:Op} (hC:bH ops e.fr o=some C) (hd:o.dst=some d) (ho:o.op=op) (h:fI n e d C (lY T (evE e.fr C) e.loc op)=some e') (k:aC P n ops rest e' Q):aC P n ops (o::rest) e Q:=by
  refine CU hC hd h (fun v' hv=>?_) k
  rw [dI] at hv
  exact NT (s:=e.st C) hT ho hv
theorem IG (hC:bH ops e.fr o=some C) (hd:o.dst=some d) {x:Operand} {ty:Option Nat} (ho:o.op= .move x∨o.op= .assign x) (h:ID n e d C x ty=some e') (k:aC P n ops rest e' Q):aC P n ops (o::rest) e Q:=by
  obtain ⟨fr,gs,loc,objs,base⟩:=e
  unfold ID at h
  simp only at h
  cases hb:(plain ⟨fr,gs,loc,objs,base⟩ C&&Nat.blt d n) with
  |false=>rw [hb] at h;cases h
  |true=>
   rw [hb] at h
   simp only [Bool.and_eq_true] at hb
   obtain ⟨hb1,hb2⟩:=hb
   have hn:d<n:=Nat.le_of_ble_eq_true hb2
   obtain ⟨hgs,rfl⟩:=sM hb1
   simp only [cond_true] at h
   cases hx:wJ x with
   |true=>
    rw [hx] at h
    have:=GJ hx
    subst this
    simp only [cond_true] at h
    split at h
    ·rename_i E
     cases h
     refine cQ (add:=[(d,.list true E [])]) hgs (fun Q' hk=>LR E (cB _ hC) hd hn ho.symm ?_) id k
     exact hk
    ·cases h
   |false=>
    rw [hx] at h
    simp only [cond_false] at h
    split at h
    ·rename_i r hr
     have hxr:x= .tmp r:=by cases x<;>first|(cases hr;rfl)|cases hr
     subst hxr
     cases hrd:Nat.beq r d with
     |true=>rw [hrd] at h;cases h
     |false=>
      rw [hrd] at h
      simp only [cond_false,cP] at h
      cases h
      refine cQ (add:=[(d,bX fr [] r),(r,(bX fr [] r).un)]) hgs (fun Q' hk=>P1 (v:=bX fr [] r) (cB _ hC) hd hn (fun e=>by subst e;rw [Nat.beq_refl] at hrd;cases hrd) ho (cD _ [] r) ?_) id k
      exact hk
    ·cases h
theorem SS (hC:bH ops e.fr o=some C) (hd:o.dst=some d) {x:Operand} {m:Nat} (ho:o.op= .extract x m) (h:Q6 n e d C x m=some e') (k:aC P n ops rest e' Q):aC P n ops (o::rest) e Q:=by
  obtain ⟨fr,gs,loc,objs,base⟩:=e
  unfold Q6 at h
  simp only at h
  cases hb:(plain ⟨fr,gs,loc,objs,base⟩ C&&Nat.blt d n) with
  |false=>rw [hb] at h;cases h
  |true=>
   rw [hb] at h
   simp only [Bool.and_eq_true] at hb
   obtain ⟨hb1,hb2⟩:=hb
   have hn:d<n:=Nat.le_of_ble_eq_true hb2
   obtain ⟨hgs,rfl⟩:=sM hb1
   simp only [cond_true] at h
   split at h
   ·rename_i r hr
    have hxr:x= .tmp r:=by cases x<;>first|(cases hr;rfl)|cases hr
    subst hxr
    cases hrd:Nat.beq r d with
    |true=>rw [hrd] at h;cases h
    |false=>
     rw [hrd] at h
     simp only [cond_false] at h
     split at h
     ·rename_i cs hg
      split at h
      ·rename_i E xs hcs
       rw [iH] at h
       cases h
       refine cQ (add:=[(d,.list true E xs),(r,.tuple (cs.set m (.list false E xs)))]) hgs (fun Q' hk=>aM.take (v:= .list true E xs) (cB _ hC) hd hn (fun e=>by subst e;rw [Nat.beq_refl] at hrd;cases hrd) ho ((cD _ [] r).trans hg) hcs (.inr ⟨_,_,rfl⟩) ?_) id k
       exact hk
      ·cases h
     ·cases h
   ·cases h
theorem PO {d:Nat}:∀{fr:Fr},nV d fr=true→(fr.map fun p=>(p.1,dA [] p.2)).all (fun p=>p.2.notL d)=true
  |[],_=>rfl
  |(i,D,v)::r,h=>by
   simp only [nV] at h
   cases hv:v.notL d with
   |false=>rw [hv] at h;cases h
   |true=>
    rw [hv] at h
    simp only [cond_true] at h
    simp only [List.map_cons,List.all_cons,Bool.and_eq_true]
    refine ⟨?_,PO h⟩
    unfold dA
    cases pL (D,v).1 [] with
    |true=>exact hv
    |false=>rfl
theorem NX (hC:bH ops e.fr o=some C) (_hd:o.dst=some d) {cs:Option (List AV)} (h:CZ n e d C cs=some e')
    (hv:∀cells,cs=some cells→plain e C=true→d<n→a6 e.loc d=none→(∀i off,(e.st []).get i≠ .lptr d off)→(∀c∈cells,c.scalar=true)→(∀c∈cells,c.flat=true)→∀Q',aM P n ops rest ⟨(d,.lptr d 0)::(e.st []).fr,(d,cells)::e.loc,lay e.objs e.base⟩ Q'→aM P n ops (o::rest) (e.st []) Q')
    (k:aC P n ops rest e' Q):aC P n ops (o::rest) e Q:=by
  obtain ⟨fr,gs,loc,objs,base⟩:=e
  unfold CZ at h
  simp only at h
  cases hb:(plain ⟨fr,gs,loc,objs,base⟩ C&&Nat.blt d n&&GI (a6 loc d)&&nV d fr) with
  |false=>rw [hb] at h;cases h
  |true=>
   rw [hb] at h
   simp only [Bool.and_eq_true] at hb
   obtain ⟨⟨⟨hb1,hb2⟩,hb3⟩,hb4⟩:=hb
   have hn:d<n:=Nat.le_of_ble_eq_true hb2
   have hp:=hb1
   obtain ⟨hgs,rfl⟩:=sM hb1
   simp only [cond_true] at h
   split at h
   ·rename_i cells
    cases hc:cells.all (fun c=>c.scalar&&c.flat) with
    |false=>rw [hc] at h;cases h
    |true=>
     rw [hc] at h
     cases h
     have hall:∀c∈cells,c.scalar=true∧c.flat=true:=fun c hm=>by simpa using List.all_eq_true.1 hc c hm
     have hl:a6 loc d=none:=by cases hx:a6 loc d<;>first|rfl|(rw [hx] at hb3;cases hb3)
     exact cQ (add:=[(d,.lptr d 0)]) hgs (hv cells rfl hp hn hl (noL (PO hb4)) (fun c hm=>(hall c hm).1) (fun c hm=>(hall c hm).2)) id k
   ·cases h
theorem wV (hT:eX P T) {s:St} {y:Operand} {cells cs':List AV} {off:Nat} (h:zP T s.eval t y cells off=some cs'):
    ∃size v,aZ P t size∧jF s y v∧Operand.ok y=true∧v.part=true∧(∀c∈v.cells,c.flat=true)∧v.cells.length=size∧off+size≤cells.length∧cs'=c8 cells off v.cells:=by
  unfold zP at h
  split at h
  ·rename_i K size hl
   obtain ⟨_,hs⟩:=Tab.ok hT hl
   split at h
   ·rename_i v hv
    obtain ⟨h1,h2⟩:=yE hv
    cases hb:(v.part&&v.cells.all AV.flat&&Nat.beq v.cells.length size&&Nat.ble (off+size) cells.length) with
    |false=>rw [hb] at h;cases h
    |true=>
     rw [hb] at h
     simp only [Bool.and_eq_true] at hb
     simp only [cond_true,iH] at h
     cases h
     exact ⟨size,v,hs,h1,h2,hb.1.1.1,List.all_eq_true.1 hb.1.1.2,Nat.eq_of_beq_eq_true hb.1.2,Nat.le_of_ble_eq_true hb.2,rfl⟩
   ·cases h
  ·cases h
theorem D6 {size:Nat}:∀(vs:List AV) (j:Nat) (A B:List AV),A.length=j*size→B.length=vs.length*size→(∀v∈vs,v.cells.length=size)→
    pV (fun i=>some (i*size,size)) (A++B) (C4 j vs)=some (A++vs.flatMap AV.cells)
  |[],j,A,B,hA,hB,hv=>by
   have:B=[]:=List.length_eq_zero_iff.1 (by simpa using hB)
   subst this;simp [C4,pV]
  |v::r,j,A,B,hA,hB,hv=>by
   have h1:v.cells.length=size:=hv v (List.mem_cons_self ..)
   have hB':B.length=r.length*size+size:=by rw [hB,List.length_cons,Nat.add_mul,Nat.one_mul]
   simp only [C4,pV]
   rw [if_pos ⟨h1,by rw [List.length_append,hA,hB'];omega⟩]
   have e1:(A++B).take (j*size)=A:=by rw [←hA,List.take_left]
   have e2:(A++B).drop (j*size+size)=B.drop size:=by rw [←hA,←List.drop_drop,List.drop_left]
   rw [e1,e2,D6 r (j+1) (A++v.cells) (B.drop size) (by rw [List.length_append,hA,h1,Nat.add_mul,Nat.one_mul]) (by rw [List.length_drop,hB'];omega) (fun v hv'=>hv v (List.mem_cons_of_mem _ hv'))]
   rw [List.flatMap_cons,List.append_assoc]
theorem JU {s:St} {E size:Nat}:∀{ps:List (Nat×Operand)} {j:Nat} {xs:List AV},RH T s.eval E size j ps=some xs→dQ s ps (C4 j xs)∧(∀v∈xs,v.cells.length=size∧v.part=true)∧xs.length=ps.length
  |[],j,xs,h=>by cases h;exact ⟨trivial,⟨(fun v hv=>nomatch hv),rfl⟩⟩
  |(i,x)::r,j,xs,h=>by
   unfold RH at h
   cases hij:Nat.beq i j with
   |false=>rw [hij] at h;cases h
   |true=>
    rw [hij] at h
    simp only [cond_true] at h
    split at h
    ·rename_i v hv
     cases hb:(v.part&&Nat.beq v.cells.length size) with
     |false=>rw [hb] at h;cases h
     |true=>
      rw [hb] at h
      simp only [Bool.and_eq_true] at hb
      simp only [cond_true] at h
      split at h
      ·rename_i q hq
       cases h
       obtain ⟨h1,h2,h3⟩:=JU hq
       have h4:=yE hv
       refine ⟨⟨⟨Nat.eq_of_beq_eq_true hij,h4.1,hb.1,h4.2⟩,h1⟩,fun u hu=>?_,by rw [List.length_cons,List.length_cons,h3]⟩
       rcases List.mem_cons.1 hu with e|e
       ·subst e;exact ⟨Nat.eq_of_beq_eq_true hb.2,hb.1⟩
       ·exact h2 u e
      ·cases h
    ·cases h
theorem xX (zs:List Value) (Es:List TypeId):(dM zs Es).length=zs.length:=by
  fun_induction dM zs Es<;>simp_all
theorem JQ {α:Type _} (l:List α):∀m:Nat,(List.replicate m l).flatten.length=m*l.length
  |0=>by simp
  |m+1=>by rw [List.replicate_succ,List.flatten_cons,List.length_append,JQ l m,Nat.add_mul,Nat.one_mul,Nat.add_comm]
theorem RA (hT:eX P T) (hZ:wY P Z) (hC:bH ops e.fr o=some C) (hd:o.dst=some d) {len:Nat} {ps:Array (Nat×Operand)} (ho:o.op= .buildSlice t len ps) (h:EK n e d C (EP T Z (evE e.fr C) t len ps.toList)=some e') (k:aC P n ops rest e' Q):aC P n ops (o::rest) e Q:=by
  unfold EK at h
  cases hb:(wA C e.fr&&rN e.fr C C) with
  |false=>rw [hb] at h;cases h
  |true=>
   rw [hb] at h
   simp only [Bool.and_eq_true] at hb
   simp only [cond_true] at h
   obtain ⟨v,hv,rfl,hn,hg⟩:=B6 h
   rw [dI] at hv
   unfold EP at hv
   split at hv
   ·rename_i E z1 hl
    obtain ⟨⟨D,hD,hk⟩,_⟩:=Tab.ok hT hl
    have:=bU hk;subst this
    split at hv
    ·rename_i z2 size hl2
     obtain ⟨_,hs⟩:=Tab.ok hT hl2
     split at hv
     ·rename_i zc hz
      obtain ⟨z,Es,h1,h2,rfl,_⟩:=Zt.ok hZ hz
      cases hc:(Nat.beq (dM z.cells.toList Es).length size&&Nat.beq len ps.toList.length&&Nat.ble (len*size) 1000&&!(Nat.beq (len*size) 0)) with
      |false=>rw [hc] at hv;cases hv
      |true=>
       rw [hc] at hv
       simp only [Bool.and_eq_true,Bool.not_eq_true'] at hc
       obtain ⟨⟨⟨c1,c2⟩,c3⟩,c4⟩:=hc
       simp only [cond_true] at hv
       split at hv
       ·rename_i xs hxs
        cases hv
        obtain ⟨p1,p2,p3⟩:=JU hxs
        have hlen:xs.length=len:=by rw [p3];exact (Nat.eq_of_beq_eq_true c2).symm
        have hzs:z.cells.size=size:=by have:=Nat.eq_of_beq_eq_true c1;rw [xX] at this;simpa using this
        have hne:¬len*size=0:=fun e=>by rw [e] at c4;cases c4
        have hle:len*size≤1000:=Nat.le_of_ble_eq_true c3
        obtain ⟨i,hi,hisz⟩:=BJ hs
        have hiz:i.zero=some z:=by rw [hi] at h1;simpa using h1
        refine FQ hC hd hn hg hb.1 hb.2 (fun _ Q' hk=>aM.buildSlice (i:=i) (z:=z) (Es:=[]) (cs:=xs.flatMap AV.cells) (ys:=C4 0 xs) trivial hd hn ho hD hi hisz hiz h2 ⟨by omega,hne⟩ p1.of ?_ hzs rfl (fun x hx=>(p2 x hx).1) (fun x hx c hcm=>?_) hlen hk) rfl k
        ·have:=D6 (size:=size) xs 0 [] (dM (List.replicate len z.cells.toList).flatten []) (by simp) (by rw [xX,JQ,hlen,Array.length_toList,hzs]) (fun v hv=>(p2 v hv).1)
         simpa using this
        ·have:=(p2 x hx).2
         cases x with
         |agg cs=>exact List.all_eq_true.1 (show cs.all AV.scalar=true from this) c hcm
         |_=>simp only [AV.cells,List.mem_singleton] at hcm;subst hcm;exact this
       ·cases hv
     ·cases hv
    ·cases hv
   ·cases hv
theorem z6 {a b:List (Nat×Nat)} (h:iC (a++b)):iC a∧iC b:=by
  induction a with
  |nil=>exact ⟨trivial,h⟩
  |cons x r ih=>exact ⟨⟨h.1,(ih h.2).1⟩,(ih h.2).2⟩
theorem aC.nd (h:e.nd→aC P n ops l e Q):aC P n ops l e Q:=fun G a w K hr hfx hK=>h hr.nd G a w K hr hfx hK
theorem R5 (hT:eX P T) (hC:bH ops e.fr o=some C) (hd:o.dst=some d) {x:Operand} {j id k:Nat} {cs:List AV} (ho:o.op= .load t x) (hx:(e.st C).eval x= .gptr id k) (hj:e.objs[j]? =some (id,cs)) (h:Q5 T n e d C t k j id cs=some e') (k':aC P n ops rest e' Q):aC P n ops (o::rest) e Q:=by
  obtain ⟨fr,gs,loc,objs,base⟩:=e
  unfold Q5 at h
  simp only at h
  cases hb:(plain ⟨fr,gs,loc,objs,base⟩ C&&Nat.blt d n&&scl cs) with
  |false=>rw [hb] at h;cases h
  |true=>
   rw [hb] at h
   simp only [Bool.and_eq_true] at hb
   obtain ⟨⟨hb1,hb2⟩,hb3⟩:=hb
   have hn:d<n:=Nat.le_of_ble_eq_true hb2
   obtain ⟨hgs,rfl⟩:=sM hb1
   simp only [cond_true] at h
   split at h
   ·rename_i E z hl
    obtain ⟨⟨D,hD,hk⟩,_⟩:=Tab.ok hT hl
    have:=bU hk;subst this
    split at h
    ·rename_i E2 xs hcs
     rw [iH,EZ] at h
     cases h
     refine aC.nd fun hnd=>cQ (add:=[(d,.list true E2 xs)]) (objs':=objs.set j (id,cs.set k (.list false E2 xs))) hgs (fun Q' hk=>PZ (cB _ hC) hd hn ho hD hx (cS hnd.1 hj) hcs rfl (jQ hnd.1 hj) hk (kZ hb3).1 (kZ hb3).2) (fun h=>jR h (d3 hj)) k'
    ·cases h
   ·cases h
theorem TY (hT:eX P T) (hC:bH ops e.fr o=some []) (hd:o.dst=none) (hgs:e.gs=[]) {x:Operand} {r j id k:Nat} {cs:List AV} (ho:o.op= .store t x (.tmp r)) (hx:(e.st []).eval x= .gptr id k) (hj:e.objs[j]? =some (id,cs)) (hall:cs.all AV.scalar=true) (hne:cs≠[]) (h:T2 T e t r k j id cs=some e') (k':aC P n ops rest e' Q):aC P n ops (o::rest) e Q:=by
  obtain ⟨fr,gs,loc,objs,base⟩:=e
  unfold T2 at h
  simp only at h
  split at h
  ·rename_i E hl
   obtain ⟨_,hs⟩:=Tab.ok hT hl
   split at h
   ·rename_i E2 xs hg
    cases hb:Nat.blt k cs.length with
    |false=>rw [hb] at h;cases h
    |true=>
     rw [hb] at h
     simp only [cond_true,iH,EZ] at h
     cases h
     refine aC.nd fun hnd=>cQ (add:=[(r,.list false E2 xs)]) (objs':=objs.set j (id,cs.set k (.list true E2 xs))) hgs (fun Q' hk=>KO (cB _ hC) hd ho hx (cS hnd.1 hj) hs ((cD _ [] r).trans hg) (Nat.le_of_ble_eq_true hb) (jQ hnd.1 hj) hk hall hne) (fun h=>jR h (d3 hj)) k'
   ·cases h
  ·cases h
theorem nW (hT:eX P T) (hZ:wY P Z) (h:lX T Z n ops L H e o=some (e',q,H')) (hq:iC q) (k:aC P n ops rest e' Q):aC P n ops (o::rest) e Q:=by
  unfold lX at h
  split at h
  ·cases h
  rename_i C hC
  rw [AC] at h
  split at h
  ·rename_i d hd
   split at h
   ·rename_i x ho
    cases hb:(wJ x||cT d L) with
    |true=>rw [hb] at h;exact IG hC hd (.inr ho) (eJ h).1 k
    |false=>rw [hb] at h;exact pI hT hC hd ho (eJ h).1 k
   ·rename_i x ho
    cases hb:cT d L with
    |true=>rw [hb] at h;exact IG hC hd (.inl ho) (eJ h).1 k
    |false=>rw [hb] at h;exact pI hT hC hd ho (eJ h).1 k
   ·rename_i x m ho
    cases hb:cT d L with
    |true=>rw [hb] at h;exact SS hC hd ho (eJ h).1 k
    |false=>rw [hb] at h;exact pI hT hC hd ho (eJ h).1 k
   ·rename_i c x y ho
    obtain ⟨v',hv,rfl,h1,h2⟩:=B6 (eJ h).1
    exact aC.pick ho hv hC hd h1 h2 k
   ·rename_i t ps ho
    refine CU hC hd (eJ h).1 (fun v' hv=>?_) k
    rw [dI] at hv
    exact KM hT hZ ho hv
   ·rename_i t len ps ho
    exact RA hT hZ hC hd ho (eJ h).1 k
   ·rename_i t ho
    refine NX hC hd (eJ h).1 (fun cells hc hp hn hl hnl hsc hfl Q' hk=>?_) k
    obtain ⟨z,Es,h1,h2,h3,_⟩:=Zt.ok hZ hc
    have:=(sM hp).2
    subst this
    exact aM.alloc (cB _ hC) hd hn hl hnl ho h1 h2 h3 hsc hfl hk
   ·rename_i t x ho
    refine NX hC hd (eJ h).1 (fun cells hc hp hn hl hnl hsc hfl Q' hk=>?_) k
    have:=(sM hp).2
    subst this
    rw [dI] at hc
    unfold RF at hc
    split at hc
    ·rename_i v hv
     obtain ⟨h1,h2⟩:=yE hv
     cases hp:v.part with
     |false=>rw [hp] at hc;cases hc
     |true=>
      rw [hp] at hc;cases hc
      exact aM.box (v:=v) (cB _ hC) hd hn hl hnl ho h1 h2 hp hfl hk
    ·cases hc
   ·rename_i t x ho
    split at h
    ·rename_i id kk hx
     rw [n3] at hx
     split at h
     ·rename_i H0 j H1
      split at h
      ·rename_i id' cs hj
       cases hb:cT d L with
       |true=>
        rw [hb] at h
        simp only [cond_true] at h
        split at h
        ·rename_i e2 hs
         cases h
         have:id=id':=hq.1
         subst this
         exact R5 hT hC hd ho hx hj hs k
        ·cases h
       |false=>
        rw [hb] at h
        simp only [cond_false] at h
        split at h
        ·rename_i v hv
         cases hc:(scl cs&&v.flat) with
         |false=>rw [hc] at h;cases h
         |true=>
          rw [hc] at h
          simp only [Bool.and_eq_true] at hc
          simp only [cond_true] at h
          split at h
          ·rename_i e2 hs
           cases h
           have:id=id':=hq.1
           subst this
           refine aC.nd fun hnd=>CU hC hd hs (fun v' hv'=>?_) k
           cases hv'
           obtain ⟨D,size,h1,h2,h3⟩:=pN hT hv
           exact s3 ho h1 h2 hx (cS hnd.1 hj) h3 hc.2 (kZ hc.1).1 (kZ hc.1).2
          ·cases h
        ·cases h
      ·cases h
     ·cases h
    ·exact pI hT hC hd ho (eJ h).1 k
   ·rename_i c ho
    split at h
    ·rename_i hc
     split at h
     ·rename_i x ha
      split at h
      ·rename_i o2 E2 xs hx
       rw [n3] at hx
       split at h
       ·rename_i t hat
        split at h
        ·rename_i E hel
         unfold n1 at hel
         split at hel
         ·rename_i E3 z hl
          obtain ⟨⟨D,hD,hk⟩,_⟩:=Tab.ok hT hl
          have:=bU hk;subst this
          split at h
          ·rename_i H0 m H1
           split at h
           ·rename_i e2 hs
            cases h
            have:xs.length=m:=hq.1
            refine CU hC hd hs (fun v' hv'=>?_) k
            cases hv'
            exact FF ho hc (Array.toList_inj.1 ha) (Array.toList_inj.1 hat) hD hx this
           ·cases h
          ·cases h
         ·cases hel
        ·cases h
       ·cases h
      ·exact pI hT hC hd ho (eJ h).1 k
     ·cases h
    ·exact pI hT hC hd ho (eJ h).1 k
   ·rename_i h1 h2 h3 h4 h5 h6 h7 h8 h9 h10
    exact pI hT hC hd rfl (eJ h).1 k
  ·rename_i hd
   split at h
   ·rename_i t x y ho
    cases hb:plain e C with
    |false=>rw [hb] at h;cases h
    |true=>
     rw [hb] at h
     obtain ⟨hgs,rfl⟩:=sM hb
     simp only [cond_true] at h
     split at h
     ·rename_i b kk hx
      rw [n3] at hx
      split at h
      ·rename_i cs hc
       split at h
       ·rename_i cs' hs
        obtain ⟨fr,gs,loc,objs,base⟩:=e
        cases h
        rw [dI] at hs
        obtain ⟨size,v,g1,g2,g3,g4,g5,g6,g7,rfl⟩:=wV hT hs
        exact cQ (add:=[]) hgs (fun Q' hk=>FE (cB _ hC) hd ho hx hc g1 g2 g3 g4 g5 g6 g7 hk) id k
       ·cases h
      ·cases h
     ·rename_i id kk hx
      rw [n3] at hx
      split at h
      ·rename_i H0 j H1
       split at h
       ·rename_i id' cs hj
        cases hc:scl cs with
        |false=>rw [hc] at h;cases h
        |true=>
         rw [hc] at h
         simp only [cond_true] at h
         split at h
         ·rename_i r hr
          have hyr:y= .tmp r:=by
            unfold UQ at hr
            split at hr
            ·rename_i r'
             cases hm:cT r' L with
             |true=>rw [hm] at hr;cases hr;rfl
             |false=>rw [hm] at hr;cases hr
            ·cases hr
          subst hyr
          split at h
          ·rename_i e2 hs
           cases h
           have:id=id':=hq.1
           subst this
           exact TY hT hC hd hgs ho hx hj (kZ hc).1 (kZ hc).2 hs k
          ·cases h
         ·split at h
          ·rename_i cs' hs
           obtain ⟨fr,gs,loc,objs,base⟩:=e
           simp only [EZ] at h
           cases h
           have:id=id':=hq.1
           subst this
           rw [dI] at hs
           obtain ⟨size,v,g1,g2,g3,g4,g5,g6,g7,rfl⟩:=wV hT hs
           exact aC.nd fun hnd=>cQ (add:=[]) hgs (fun Q' hk=>AP (cB _ hC) hd ho hx (cS hnd.1 hj) g1 g2 g3 g4 g5 g6 g7 (jQ hnd.1 hj) hk (kZ hc).1 (kZ hc).2) (fun h=>jR h (d3 hj)) k
          ·cases h
       ·cases h
      ·cases h
     ·cases h
   ·cases h
theorem PR (hT:eX P T) (hZ:wY P Z):∀(m:Nat) (H:List Nat) (l:List Oper) (e:Es) (q0:List (Nat×Nat)) {l':List Oper} {e':Es} {q:List (Nat×Nat)},HA T Z n ops L m H l e q0=some (l',e',q)→(iC q→iC q0)∧(iC q→aC P n ops l' e' Q→aC P n ops l e Q)
  |0,[],l,e,q0,l',e',q,h=>by cases h;exact ⟨id,fun _ k=>k⟩
  |m+1,H,o::l,e,q0,l',e',q,h=>by
   unfold HA at h
   split at h
   ·rename_i e1 q1 H1 hs
    obtain ⟨h1,h2⟩:=PR hT hZ m H1 l e1 (q1++q0) h
    exact ⟨fun hq=>(z6 (h1 hq)).2,fun hq k=>nW hT hZ hs (z6 (h1 hq)).1 (h2 hq k)⟩
   ·cases h
  |0,_::_,l,e,q0,l',e',q,h=>by cases h
  |m+1,H,[],e,q0,l',e',q,h=>by cases h
theorem aC.run (hT:eX P T) (hZ:wY P Z) (m:Nat) (H L:List Nat) {l':List Oper} {q:List (Nat×Nat)} (h:HA T Z n ops L m H l e []=some (l',e',q)) (hq:iC q) (k:aC P n ops l' e' Q):aC P n ops l e Q:=(PR hT hZ m H l e [] h).2 hq k
def H7 {α:Type _} (fr:Fr):List Nat→(Fr→α)→α
  |[],k=>k []
  |i::r,k=>match aY fr i with
   |(D,v)=>BP D fun D=>v.force fun v=>H7 fr r fun q=>k ((i,D,v)::q)
def R7 :Es→List Nat→Option Es
  |⟨fr,gs,loc,objs,base⟩,ls=>H7 fr ls fun fr=>some ⟨fr,gs,loc,objs,base⟩
theorem KA {α:Type _} (fr:Fr):∀(ls:List Nat) (k:Fr→α),H7 fr ls k=k (ls.map fun i=>(i,aY fr i))
  |[],k=>rfl
  |i::r,k=>by unfold H7;simp only [AC,cP];rw [KA fr r];rfl
theorem xT (fr:Fr) (i:Nat):∀ls:List Nat,aY (ls.map fun i=>(i,aY fr i)) i=aY fr i∨aY (ls.map fun i=>(i,aY fr i)) i=([],.any)
  |[]=> .inr rfl
  |j::r=>by
   simp only [List.map_cons,aY]
   cases h:Nat.beq j i with
   |true=>rw [Nat.eq_of_beq_eq_true h];exact .inl rfl
   |false=>exact xT fr i r
theorem iB (ls:List Nat) (h:R7 e ls=some e') (k:aC P n ops l e' Q):aC P n ops l e Q:=by
  obtain ⟨fr,gs,loc,objs,base⟩:=e
  unfold R7 at h
  simp only [KA] at h
  cases h
  intro G a w K hr hfx hK
  refine k G a w K ⟨hr.size,hr.defers,fun i hc=>?_,fun i hc=>?_,fun i p hp=>?_,hr.loc,hr.mem,hr.nd⟩ hfx hK
  ·rcases xT fr i ls with e|e
   ·have:=hr.slot i
    simp only at hc ⊢
    rw [e] at hc ⊢
    exact this hc
   ·simp only
    rw [e];exact RelV.any _
  ·rcases xT fr i ls with e|e
   ·simp only at hc
    rw [e] at hc
    exact hr.off i hc
   ·simp only at hc
    rw [e] at hc
    exact absurd bF hc
  ·rcases xT fr i ls with e|e
   ·simp only at hp
    rw [e] at hp
    exact hr.gs i p hp
   ·simp only at hp
    rw [e] at hp;cases hp
end
end
section
open Go.RowKit
def uT (P:Program):List Nat→Prop
  |[]=>True
  |E::r=>(∃ti z,P.info? E=some ti∧ti.zero=some z∧z.cells.size=ti.size∧Nat.ble ti.bytes 2048=true)∧uT P r
theorem uT.at {P:Program} {E:Nat}:∀{B:List Nat},uT P B→cT E B=true→∃ti z,P.info? E=some ti∧ti.zero=some z∧z.cells.size=ti.size∧ti.bytes≤2048
  |F::r,h,hm=>by
   simp only [cT] at hm
   cases e:Nat.beq E F with
   |true=>
    rw [Nat.eq_of_beq_eq_true e]
    obtain ⟨ti,z,h1,h2,h3,h4⟩:=h.1
    exact ⟨ti,z,h1,h2,h3,Nat.le_of_ble_eq_true h4⟩
   |false=>rw [e] at hm;exact uT.at h.2 hm
  |[],_,hm=>by cases hm
class HasTab (P:Program) where
  T:Tab
  Z:Zt
  B:List Nat
  tok:eX P T
  zok:wY P Z
  bok:uT P B
def bO {α β:Type _} (x:Option α) (k:α→Option β):Option β:=match x with
  |some a=>k a
  |none=>none
theorem bI {α β:Type _} {x:Option α} {k:α→Option β} {r:β} (h:bO x k=some r):∃v,x=some v∧k v=some r:=by
  cases x with
  |none=>cases h
  |some v=>exact ⟨v,rfl,h⟩
@[simp] theorem XZ {α β : Type _} (a : α) (k : α → Option β) : bO (some a) k = k a := rfl
@[simp] theorem XY {α β : Type _} (k : α → Option β) : bO none k = none := rfl
theorem gd {α:Type _} {b:Bool} {X Y:Option α} {r:α} (h:(bif b then X else Y)=some r) (hb:b=true):X=some r:=by subst hb;exact h
theorem gdf {α:Type _} {b:Bool} {X Y:Option α} {r:α} (h:(bif b then X else Y)=some r) (hb:b=false):Y=some r:=by subst hb;exact h
def idx {α:Type _} (l:List α) (i:Int):Option α:=if 0≤i then l[i.toNat]? else none
theorem rK {α:Type _} {l:List α} {i:Int} {c:α} (h:idx l i=some c):∃m:Nat,i=m∧l[m]? =some c:=by
  unfold idx at h
  split at h
  ·exact ⟨i.toNat,by omega,h⟩
  ·cases h
def slO {α:Type _} (l:List α) (i j:Int):Option (List α):=if 0≤i∧i≤j∧j≤l.length then some ((l.take j.toNat).drop i.toNat) else none
theorem SM {α:Type _} {l m:List α} {i j:Int} (h:slO l i j=some m):∃a b:Nat,i=a∧j=b∧a≤b∧b≤l.length∧m=(l.take b).drop a:=by
  unfold slO at h
  split at h
  ·cases h;exact ⟨i.toNat,j.toNat,by omega,by omega,by omega,by omega,rfl⟩
  ·cases h
abbrev lim :Nat:=68719476736
def bM {α:Type _} (l m:List α):Option (List α):=if l.length+m.length≤lim then some (l++m) else none
theorem xY {α:Type _} {l m r:List α} (h:bM l m=some r):l.length+m.length≤lim∧r=l++m:=by
  unfold bM at h
  split at h
  ·cases h;exact ⟨‹_›,rfl⟩
  ·cases h
abbrev zU8 (b:UInt8):AV:= .lit (.int .u8 (b.toNat:Int))
abbrev zF (b:Nat):AV:= .lit (.float .f64 b)
section
variable {P:Program} {n:Nat} {e e':Es} {ops:Array Oper} {l rest:List Oper} {o:Oper} {Q:Es→Prop} {QE:Exit→Es→Prop} {d:Nat} {T:Tab} {Z:Zt} {v:AV} {C:Cnd} {t E:Nat} {x y:Operand} {k:IntKind} {i:Int}
theorem rd {fr:Fr} {gs:List Nat} {loc:List (Nat×List AV)} {objs:Ob} {base:Nat→Option (List AV)} (h:aH P n ((⟨fr,gs,loc,objs,base⟩:Es).st []) o d v) (g:aC P n ops rest ⟨(d,[],v)::fr,gs,loc,objs,base⟩ Q)
    (hC:bH ops fr o=some []:=by rfl) (hd:o.dst=some d:=by rfl) (hn:Nat.blt d n=true:=by rfl) (hg:cT d gs=false:=by rfl):aC P n ops (o::rest) ⟨fr,gs,loc,objs,base⟩ Q:=
  HH (e:=⟨fr,gs,loc,objs,base⟩) hC hd (Nat.le_of_ble_eq_true hn) hg (fun _=>h) g
theorem rdg {fr:Fr} {gs:List Nat} {loc:List (Nat×List AV)} {objs:Ob} {base:Nat→Option (List AV)} (t:Nat) (b:Bool) (D:Cnd) (h:mX fr ((t,b)::D) ((t,b)::D)→aH P n ((⟨fr,gs,loc,objs,base⟩:Es).st ((t,b)::D)) o d v) (g:aC P n ops rest ⟨(d,(t,b)::D,v)::fr,t::gs,loc,objs,base⟩ Q)
    (hC:bH ops fr o=some ((t,b)::D):=by rfl) (hd:o.dst=some d:=by rfl) (hn:Nat.blt d n=true:=by rfl) (hg:cT d (t::gs)=false:=by rfl):aC P n ops (o::rest) ⟨fr,gs,loc,objs,base⟩ Q:=
  HH (e:=⟨fr,gs,loc,objs,base⟩) hC hd (Nat.le_of_ble_eq_true hn) hg h g
theorem bK (h:evE e.fr C x=v):(e.st C).eval x=v:=(n3 e C x).symm.trans h
theorem rIx [I:HasTab P] {α:Type} {l:List α} {f:α→AV} {c:α} {ow:Bool} {s z:Nat} {kk:TK} (he:idx l i=some c) (ho:o.op= .indexAddr t x y:=by rfl) (h1:(HasTab.T P).look t=some (.slice E,z):=by rfl) (h2:(HasTab.T P).look E=some (kk,s):=by rfl)
    (hx:evE e.fr C x= .list ow E (l.map f):=by rfl) (hy:evE e.fr C y= .lit (.int k i):=by rfl):aH P n (e.st C) o d (.eptr (f c) 0):=by
  obtain ⟨⟨D,hD,hk⟩,_⟩:=Tab.ok I.tok h1
  have:=bU hk;subst this
  obtain ⟨m,hm,hc⟩:=rK (he)
  exact HJ ho hD (Tab.ok I.tok h2).2 (bK hx) (bK hy) hm (WG hc)
theorem rBy [I:HasTab P] {l:List UInt8} {c:UInt8} {z:Nat} (he:idx l i=some c) (ho:o.op= .index t x y:=by rfl) (h1:(HasTab.T P).look t=some (.str,z):=by rfl)
    (hx:evE e.fr C x= .str l:=by rfl) (hy:evE e.fr C y= .lit (.int k i):=by rfl):aH P n (e.st C) o d (zU8 c):=by
  obtain ⟨⟨D,hD,hk⟩,_⟩:=Tab.ok I.tok h1
  have:=sX hk;subst this
  obtain ⟨m,hm,hc⟩:=rK (he)
  exact N5 ho hD (bK hx) (bK hy) hm hc
theorem fJ {l m r:List UInt8} {t':Nat} (he:bM l m=some r) (ho:o.op= .binOp .add t x y t':=by rfl) (hx:evE e.fr C x= .str l:=by rfl) (hy:evE e.fr C y= .str m:=by rfl):aH P n (e.st C) o d (.str r):=by
  obtain ⟨h1,rfl⟩:=xY (he)
  exact P3 ho (bK hx) (bK hy) (Nat.le_trans h1 (by decide)) rfl
def wZ (ev:Operand→AV) (x:Option Operand) (v:Int):Prop:=match x with
  |none=>True
  |some x=>∃k,ev x= .lit (.int k v)
theorem oY {x:Option Operand} {df m:Nat} {v:Int} (h:wZ (evE e.fr C) x v) (h0:x=none→df=m) (hv:v=m):bnd (e.st C) x df m:=by
  cases x with
  |none=>exact (h0 rfl).symm
  |some x=>obtain ⟨k,h⟩:=h;exact ⟨k,v,bK h,hv⟩
theorem WN [I:HasTab P] {l m:List UInt8} {z:Nat} {lo hi:Option Operand} {i j:Int} (he:slO l i j=some m) (ho:o.op= .slice t x lo hi none:=by rfl) (h1:(HasTab.T P).look t=some (.str,z):=by rfl) (hx:evE e.fr C x= .str l:=by rfl)
    (hl:wZ (evE e.fr C) lo i:=by first|exact trivial|exact ⟨_,rfl⟩) (hh:wZ (evE e.fr C) hi j:=by first|exact trivial|exact ⟨_,rfl⟩) (hl0:lo=none→i=0:=by first|(intro _;rfl)|(intro h;cases h)) (hh0:hi=none→j=(l.length:Int):=by first|(intro _;rfl)|(intro h;cases h)):aH P n (e.st C) o d (.str m):=by
  obtain ⟨⟨D,hD,hk⟩,_⟩:=Tab.ok I.tok h1
  have:=sX hk;subst this
  obtain ⟨a,b,rfl,rfl,h3,h4,rfl⟩:=SM (he)
  exact aH.sub ho hD (bK hx) (oY hl (fun h=>by have:=hl0 h;omega) rfl) (oY hh (fun h=>by have:=hh0 h;omega) rfl) h3 h4 rfl
theorem rPc [I:HasTab P] {α:Type} {l m:List α} {f:α→AV} {ow:Bool} {z s:Nat} {kk:TK} {lo hi:Option Operand} {i j:Int} (he:slO l i j=some m) (ho:o.op= .slice t x lo hi none:=by rfl) (h1:(HasTab.T P).look t=some (.slice E,z):=by rfl) (h2:(HasTab.T P).look E=some (kk,s):=by rfl) (hx:evE e.fr C x= .list ow E (l.map f):=by rfl)
    (hl:wZ (evE e.fr C) lo i:=by first|exact trivial|exact ⟨_,rfl⟩) (hh:wZ (evE e.fr C) hi j:=by first|exact trivial|exact ⟨_,rfl⟩) (hl0:lo=none→i=0:=by first|(intro _;rfl)|(intro h;cases h)) (hh0:hi=none→j=(l.length:Int):=by first|(intro _;rfl)|(intro h;cases h)):aH P n (e.st C) o d (.list false E (m.map f)):=by
  obtain ⟨⟨D,hD,hk⟩,_⟩:=Tab.ok I.tok h1
  have:=bU hk;subst this
  obtain ⟨a,b,rfl,rfl,h3,h4,rfl⟩:=SM (he)
  exact LZ ho hD (Tab.ok I.tok h2).2 (bK hx) (oY hl (fun h=>by have:=hl0 h;omega) rfl) (oY hh (fun h=>by have:=hh0 h;rw [List.length_map];omega) rfl) h3 (by rw [List.length_map];exact h4) (by rw [List.map_drop,List.map_take])
def Q2 (k:IntKind) (i j:Int):Option Int:=if j=0 then none else some (k.wrap (i.tdiv j))
def T0 (i j:Int):Option Int:=if j=0 then none else some (i.tmod j)
theorem WM {i j r:Int} {t':Nat} (he:Q2 k i j=some r) (ho:o.op= .binOp .quo t x y t':=by rfl) (hx:evE e.fr C x= .lit (.int k i):=by rfl) (hy:evE e.fr C y= .lit (.int k j):=by rfl):aH P n (e.st C) o d (.lit (.int k r)):=by
  have h:=he
  unfold Q2 at h
  split at h
  ·cases h
  ·cases h;exact aH.quo ho (bK hx) (bK hy) ‹_› rfl
theorem XR {i j r:Int} {t':Nat} (he:T0 i j=some r) (ho:o.op= .binOp .rem t x y t':=by rfl) (hx:evE e.fr C x= .lit (.int k i):=by rfl) (hy:evE e.fr C y= .lit (.int k j):=by rfl):aH P n (e.st C) o d (.lit (.int k r)):=by
  have h:=he
  unfold T0 at h
  split at h
  ·cases h
  ·cases h;exact aH.rem ho (bK hx) (bK hy) ‹_› rfl
theorem TZ [I:HasTab P] {l:List UInt8} {ow:Bool} {t' z z2 z3:Nat} (ho:o.op= .convert t t' x:=by rfl) (h1:(HasTab.T P).look t=some (.slice E,z):=by rfl) (h2:(HasTab.T P).look t'=some (.str,z2):=by rfl) (h3:(HasTab.T P).look E=some (.int .u8,z3):=by rfl) (hx:evE e.fr C x= .list ow E (l.map zU8):=by rfl):
    aH P n (e.st C) o d (.str l):=by
  obtain ⟨⟨D,hD,hk⟩,_⟩:=Tab.ok I.tok h1
  have:=bU hk;subst this
  obtain ⟨⟨D2,hD2,hk2⟩,_⟩:=Tab.ok I.tok h2
  have:=sX hk2;subst this
  obtain ⟨⟨D3,hD3,hk3⟩,_⟩:=Tab.ok I.tok h3
  have:=vV hk3;subst this
  exact IM ho hD hD2 hD3 (bK hx)
theorem iG [I:HasTab P] {fr:Fr} {loc:List (Nat×List AV)} {objs:Ob} {base:Nat→Option (List AV)} {α:Type} {f:α→AV} {l m r:List α} {o2:Bool} {rs t tx z1 z2:Nat} {c:Call} (he:bM l m=some r) (g:aC P n ops rest ⟨(d,[],.list true E (r.map f))::(rs,[],.list false E (l.map f))::fr,[],loc,objs,base⟩ Q)
    (hC:bH ops fr o=some []:=by rfl) (hd:o.dst=some d:=by rfl) (hn:Nat.blt d n=true:=by rfl) (ho:o.op= .call c:=by rfl) (hc:c.callee= .builtin .append:=by rfl) (ha:c.args=#[.tmp rs,y]:=by rfl) (hat:c.argTypes=#[t,tx]:=by rfl) (hrd:Nat.beq rs d=false:=by rfl)
    (h1:(HasTab.T P).look t=some (.slice E,z1):=by rfl) (h2:(HasTab.T P).look tx=some (.slice E,z2):=by rfl) (hB:cT E (HasTab.B P)=true:=by rfl) (hx:bX fr [] rs= .list true E (l.map f):=by rfl) (hy:evE fr [] y= .list o2 E (m.map f):=by rfl):aC P n ops (o::rest) ⟨fr,[],loc,objs,base⟩ Q:=by
  obtain ⟨⟨D,hD,hk⟩,_⟩:=Tab.ok I.tok h1
  have:=bU hk;subst this
  obtain ⟨⟨D2,hD2,hk2⟩,_⟩:=Tab.ok I.tok h2
  have:=bU hk2;subst this
  obtain ⟨ti,z,hi,hz,hzs,hb⟩:=uT.at I.bok hB
  obtain ⟨hl,rfl⟩:=xY he
  refine cQ (add:=[(d,.list true E ((l++m).map f)),(rs,.list false E (l.map f))]) rfl (fun Q' hk=>RI (cB (e:=⟨fr,[],loc,objs,base⟩) _ hC) hd (Nat.le_of_ble_eq_true hn) (fun e=>by subst e;rw [Nat.beq_refl] at hrd;cases hrd) ho hc ha hat hD hD2 hi hz rfl rfl hzs ((cD _ [] rs).trans hx) (bK hy) (m1:=l.length) (m2:=m.length) (List.length_map ..) (List.length_map ..)
    (Nat.le_trans hl (by decide)) (Nat.le_trans (Nat.mul_le_mul hl hb) (by decide)) List.map_append.symm hk) id g
theorem WV [I:HasTab P] {fr:Fr} {loc:List (Nat×List AV)} {objs:Ob} {base:Nat→Option (List AV)} {l m r:List UInt8} {rs t tx z1 z2 z3:Nat} {c:Call} (he:bM l m=some r) (g:aC P n ops rest ⟨(d,[],.list true E (r.map zU8))::(rs,[],.list false E (l.map zU8))::fr,[],loc,objs,base⟩ Q)
    (hC:bH ops fr o=some []:=by rfl) (hd:o.dst=some d:=by rfl) (hn:Nat.blt d n=true:=by rfl) (ho:o.op= .call c:=by rfl) (hc:c.callee= .builtin .append:=by rfl) (ha:c.args=#[.tmp rs,y]:=by rfl) (hat:c.argTypes=#[t,tx]:=by rfl) (hrd:Nat.beq rs d=false:=by rfl)
    (h1:(HasTab.T P).look t=some (.slice E,z1):=by rfl) (h2:(HasTab.T P).look tx=some (.str,z2):=by rfl) (h3:(HasTab.T P).look E=some (.int .u8,z3):=by rfl) (h4:z3=1:=by rfl) (hB:cT E (HasTab.B P)=true:=by rfl) (hx:bX fr [] rs= .list true E (l.map zU8):=by rfl) (hy:evE fr [] y= .str m:=by rfl):aC P n ops (o::rest) ⟨fr,[],loc,objs,base⟩ Q:=by
  subst h4
  obtain ⟨⟨D,hD,hk⟩,_⟩:=Tab.ok I.tok h1
  have:=bU hk;subst this
  obtain ⟨⟨D2,hD2,hk2⟩,_⟩:=Tab.ok I.tok h2
  have:=sX hk2;subst this
  obtain ⟨_,hsz⟩:=Tab.ok I.tok h3
  obtain ⟨ti,z,hi,hz,hzs,hb⟩:=uT.at I.bok hB
  have h1s:ti.size=1:=by unfold aZ at hsz;rw [hi] at hsz;simpa using hsz
  obtain ⟨hl,rfl⟩:=xY he
  refine cQ (add:=[(d,.list true E ((l++m).map zU8)),(rs,.list false E (l.map zU8))]) rfl (fun Q' hk=>RJ (cB (e:=⟨fr,[],loc,objs,base⟩) _ hC) hd (Nat.le_of_ble_eq_true hn) (fun e=>by subst e;rw [Nat.beq_refl] at hrd;cases hrd) ho hc ha hat hD hD2 hi hz h1s rfl (by rw [hzs,h1s]) ((cD _ [] rs).trans hx) (bK hy) (m1:=l.length) (m2:=m.length) (List.length_map ..) rfl
    (Nat.le_trans hl (by decide)) (Nat.le_trans (Nat.mul_le_mul hl hb) (by decide)) (show List.map zU8 l++List.map zU8 m=_ from List.map_append.symm) hk) id g
theorem L4 [I:HasTab P] {fr:Fr} {loc:List (Nat×List AV)} {objs:Ob} {base:Nat→Option (List AV)} {l:List UInt8} {t t' z1 z2:Nat} (he:l.length≤lim) (g:aC P n ops rest ⟨(d,[],.list false E (l.map zU8))::fr,[],loc,objs,base⟩ Q)
    (hC:bH ops fr o=some []:=by rfl) (hd:o.dst=some d:=by rfl) (hn:Nat.blt d n=true:=by rfl) (ho:o.op= .convert t t' x:=by rfl) (h1:(HasTab.T P).look t=some (.str,z1):=by rfl) (h2:(HasTab.T P).look t'=some (.slice E,z2):=by rfl) (h3:(HasTab.T P).look E=some (.int .u8,1):=by rfl)
    (hx:evE fr [] x= .str l:=by rfl):aC P n ops (o::rest) ⟨fr,[],loc,objs,base⟩ Q:=by
  obtain ⟨⟨D,hD,hk⟩,_⟩:=Tab.ok I.tok h1
  have:=sX hk;subst this
  obtain ⟨⟨D2,hD2,hk2⟩,_⟩:=Tab.ok I.tok h2
  have:=bU hk2;subst this
  obtain ⟨⟨D3,hD3,hk3⟩,hs⟩:=Tab.ok I.tok h3
  have:=vV hk3;subst this
  exact cQ (add:=[(d,.list false E (l.map zU8))]) rfl (fun Q' hk=>LT (_D:= .bool) (cB (e:=⟨fr,[],loc,objs,base⟩) _ hC) hd (Nat.le_of_ble_eq_true hn) ho hD hD2 hD3 (bK hx) hs (Nat.le_trans he (by decide)) hk) id g
def DW (l:List UInt8):Option (List UInt8):=if l.length≤lim then some l else none
theorem DX {l m:List UInt8} (h:DW l=some m):l.length≤lim∧m=l:=by
  unfold DW at h
  split at h
  ·cases h;exact ⟨‹_›,rfl⟩
  ·cases h
def aO (P:Program) (f:FuncId) (args:List AV) (ins:Ob) (R:AV→Ob→Prop):Prop:=
  ∀base,ndO ins base→bW P f args (lay ins base) fun r M'=>∃outs,R r outs∧M'=lay outs base∧ndO outs base
def aI (P:Program) (f:FuncId) (args:List AV) (v:AV):Prop:=aO P f args [] fun r outs=>r=v∧outs=[]
theorem aI.all {f:FuncId} {args:List AV} {v:AV} (h:aI P f args v) (M:Nat→Option (List AV)):bW P f args M fun r M'=>r=v∧M=M':=by
  refine (h M ⟨List.nodup_nil,fun i hi=>by cases hi⟩).mono ?_
  rintro r M' ⟨outs,⟨rfl,rfl⟩,rfl,_⟩
  exact ⟨rfl,rfl⟩
theorem aI.of {f:FuncId} {args:List AV} {v:AV} (h:∀M,bW P f args M fun r M'=>r=v∧M=M'):aI P f args v:=by
  intro base hnd
  refine (h base).mono ?_
  rintro r M' ⟨rfl,rfl⟩
  exact ⟨[],⟨rfl,rfl⟩,rfl,hnd⟩
theorem yC (base:Nat→Option (List AV)):∀(A B:Ob),lay (A++B) base=lay A (lay B base)
  |[],B=>rfl
  |(i,c)::r,B=>by show bA (lay (r++B) base) i c=_;rw [yC base r B];rfl
theorem gA {base:Nat→Option (List AV)} {i:Nat}:∀{A:Ob},i∉A.map (·.1)→lay A base i=base i
  |[],_=>rfl
  |(j,c)::r,h=>by
   simp only [List.map_cons,List.mem_cons,not_or] at h
   show bA (lay r base) j c i=_
   rw [bT h.1,gA h.2]
def qU :List Nat→Ob→Option (Ob×Ob)
  |[],objs=>some ([],objs)
  |j::r,objs=>match objs[j]? with
   |some p=>match qU r (objs.eraseIdx j) with
    |some (a,b)=>some (p::a,b)
    |none=>none
   |none=>none
theorem HP {α:Type _}:∀{l:List α} {j:Nat} {p:α},l[j]? =some p→(p::l.eraseIdx j).Perm l
  |a::r,0,p,h=>by simp at h;subst h;exact List.Perm.refl _
  |a::r,j+1,p,h=>by
   simp only [List.getElem?_cons_succ] at h
   simp only [List.eraseIdx_cons_succ]
   exact (List.Perm.swap a p _).trans (List.Perm.cons a (HP h))
  |[],j,p,h=>by simp at h
theorem gB :∀{sel:List Nat} {objs A B:Ob},qU sel objs=some (A,B)→(A++B).Perm objs
  |[],objs,A,B,h=>by cases h;exact List.Perm.refl _
  |j::r,objs,A,B,h=>by
   unfold qU at h
   split at h
   ·rename_i p hp
    split at h
    ·rename_i a b hab
     cases h
     have:=gB hab
     exact (List.Perm.cons _ this).trans (HP hp)
    ·cases h
   ·cases h
theorem zG {base:Nat→Option (List AV)} {A B:Ob} (h:A.Perm B) (hn:(A.map (·.1)).Nodup):lay A base=lay B base:=by
  induction h with
  |nil=>rfl
  |cons x _ ih=>
   simp only [List.map_cons,List.nodup_cons] at hn
   show bA (lay _ base) x.1 x.2=bA (lay _ base) x.1 x.2
   rw [ih hn.2]
  |swap x y l=>
   simp only [List.map_cons,List.nodup_cons,List.mem_cons,not_or] at hn
   show bA (bA (lay l base) x.1 x.2) y.1 y.2=bA (bA (lay l base) y.1 y.2) x.1 x.2
   exact (IE hn.1.1 rfl)
  |trans h1 h2 ih1 ih2=>
   rw [ih1 hn,ih2 ((h1.map _).nodup_iff.1 hn)]
theorem pH {base:Nat→Option (List AV)} {A B:Ob} (h:A.Perm B) (hn:ndO A base):ndO B base:=⟨(h.map _).nodup_iff.1 hn.1,fun i hi=>hn.2 i ((h.map _).mem_iff.2 hi)⟩
theorem PN {base:Nat→Option (List AV)} {A B:Ob} (h:ndO (A++B) base):ndO A (lay B base)∧ndO B base:=by
  obtain ⟨h1,h2⟩:=h
  rw [List.map_append] at h1 h2
  obtain ⟨a1,a2,a3⟩:=List.nodup_append.1 h1
  refine ⟨⟨a1,fun i hi=>?_⟩,a2,fun i hi=>h2 i (List.mem_append_right _ hi)⟩
  rw [gA (fun hb=>a3 i hi i hb rfl)]
  exact h2 i (List.mem_append_left _ hi)
theorem pG {base:Nat→Option (List AV)} {i:Nat}:∀{A:Ob},i∈A.map (·.1)→lay A base i≠none
  |(j,c)::r,h=>by
   show bA (lay r base) j c i≠none
   by_cases e:i=j
   ·subst e;rw [bP];simp
   ·rw [bT e]
    simp only [List.map_cons,List.mem_cons] at h
    exact pG (h.resolve_left e)
  |[],h=>by cases h
theorem NE {base:Nat→Option (List AV)} {A B:Ob} (ha:ndO A (lay B base)) (hb:ndO B base):ndO (A++B) base:=by
  refine ⟨?_,fun i hi=>?_⟩
  ·rw [List.map_append,List.nodup_append]
   refine ⟨ha.1,hb.1,fun i hi j hj e=>?_⟩
   subst e
   exact pG hj (ha.2 i hi)
  ·rw [List.map_append] at hi
   rcases List.mem_append.1 hi with h|h
   ·have:=ha.2 i h
    by_cases hc:i∈B.map (·.1)
    ·exact hb.2 i hc
    ·rwa [gA hc] at this
   ·exact hb.2 i h
def nX (T:Tab) (ev:Operand→AV):List Operand→List Nat→Option (List AV)
  |[],_=>some []
  |x::r,t::ts=>match HE ev x (n1 T t) with
   |some v=>match nX T ev r ts with
    |some q=>some (v::q)
    |none=>none
   |none=>none
  |_,_=>none
theorem pM {T:Tab} {s:St}:∀{l:List Operand} {ts:List Nat} {vs:List AV},nX T s.eval l ts=some vs→kG s l vs∧l.all Operand.ok=true
  |[],ts,vs,h=>by cases h;exact ⟨trivial,rfl⟩
  |x::r,t::ts,vs,h=>by
   unfold nX at h
   split at h
   ·rename_i v hv
    split at h
    ·rename_i q hq
     cases h
     obtain ⟨h1,h2⟩:=yE hv
     obtain ⟨h3,h4⟩:=pM hq
     exact ⟨⟨h1,h3⟩,by simp [h2,h4]⟩
    ·cases h
   ·cases h
  |x::r,[],vs,h=>by cases h
def i8 (P:Program) (f:FuncId):Prop:=∀(vs:Array Value) (w:World),(callFunc f vs).run P w= .ok (.enter f vs) w
theorem RT {fr:Fr} {loc:List (Nat×List AV)} {objs:Ob} {base:Nat→Option (List AV)} {f:FuncId} {c:Call} {args:List AV} {A B:Ob} {R:AV→Ob→Prop} (sel:List Nat) (he:i8 P f) (h:aO P f args A R) (hs:qU sel objs=some (A,B)) (ha:kG ((⟨fr,[],loc,objs,base⟩:Es).st []) c.args.toList args∧c.args.toList.all Operand.ok=true)
    (g:∀r outs,R r outs→aC P n ops rest ⟨(d,[],r)::fr,[],loc,outs++B,base⟩ Q)
    (hC:bH ops fr o=some []:=by rfl) (hd:o.dst=some d:=by rfl) (hn:Nat.blt d n=true:=by rfl) (ho:o.op= .call c:=by rfl) (hc:c.callee= .value (.func f):=by rfl):aC P n ops (o::rest) ⟨fr,[],loc,objs,base⟩ Q:=by
  intro G a w K hr hfx hK
  have hnd:=hr.nd
  have hp:=gB hs
  have hAB:ndO (A++B) base:=pH hp.symm hnd
  obtain ⟨hA,hB⟩:=PN hAB
  have hlay:lay objs base=lay A (lay B base):=by rw [←yC,zG hp.symm hnd.1]
  have hfl:∀i,(aY fr i).1=[]:=by
    intro i
    cases hx:(aY fr i).1 with
    |nil=>rfl
    |cons p r=>
     have:=hr.gs i p (by rw [hx];exact List.mem_cons_self ..)
     cases this
  obtain ⟨h1,h2⟩:=ha
  have hcall:=h (lay B base) hA
  have key:=aM.call (P:=P) (n:=n) (ops:=ops) (o:=o) (rest:=rest) (s:=(⟨fr,[],loc,objs,base⟩:Es).st []) (Q:=fun s''=>∃e'',e''.st []=s''∧e''.nd∧Q e'') (cB (e:=⟨fr,[],loc,objs,base⟩) _ hC) hd (Nat.le_of_ble_eq_true hn) ho hc he (sQ h2) (by simpa using h1.len) (fun j x v hj hv=>h1.at j x v (by simpa using hj) hv)
    (R:=fun r M'=>∃outs,R r outs∧M'=lay outs (lay B base)∧ndO outs (lay B base)) (by show bW P f args (lay objs base) _;rw [hlay];exact hcall) ?_
  ·refine key G a w K (hr.st bF) hfx ?_
   rintro s'' G' a' w' ⟨e'',rfl,hn2,hq⟩ hr' hk
   exact hK e'' G' a' w' hq ⟨hr',hn2⟩ hk
  ·rintro r M' ⟨outs,hR,rfl,hno⟩ G1 a1 w1 K1 hr1 hfx1 hK1
   have hn2:ndO (outs++B) base:=NE hno hB
   refine g r outs hR G1 a1 w1 K1 ⟨hr1.size,hr1.defers,fun i _=>?_,fun i hne=>?_,fun i p hp=>?_,hr1.loc,by show RelM P G1 w1 (lay (outs++B) base);rw [yC];exact hr1.mem,hn2⟩ hfx1 (fun e2 G2 a2 w2 hq hr2 hk2=>hK1 _ G2 a2 w2 ⟨e2,rfl,hr2.2,hq⟩ hr2.1 hk2)
   ·have h3:=hr1.slot i
    have e1:St.get {((⟨fr,[],loc,objs,base⟩:Es).st []).put d r with mem:=lay outs (lay B base)} i=dA [] (aY ((d,[],r)::fr) i):=oB [] ((d,[],r)::fr) i
    rw [e1] at h3
    unfold dA at h3
    rw [show (aY ((d,[],r)::fr) i).1=[] from d4 hfl [(d,r)] i] at h3
    exact h3
   ·rw [show (aY ((d,[],r)::fr) i).1=[] from d4 hfl [(d,r)] i] at hne
    exact absurd bF hne
   ·rw [show (aY ((d,[],r)::fr) i).1=[] from d4 hfl [(d,r)] i] at hp;cases hp
theorem bL [I:HasTab P] {fr:Fr} {loc:List (Nat×List AV)} {objs:Ob} {base:Nat→Option (List AV)} {f:FuncId} {c:Call} {args:List AV} {A B:Ob} {R:AV→Ob→Prop} (sel:List Nat) (he:i8 P f) (h:aO P f args A R) (hs:qU sel objs=some (A,B)) (ha:nX (HasTab.T P) (evE fr []) c.args.toList c.argTypes.toList=some args)
    (g:∀r outs,R r outs→aC P n ops rest ⟨(d,[],r)::fr,[],loc,outs++B,base⟩ Q)
    (hC:bH ops fr o=some []:=by rfl) (hd:o.dst=some d:=by rfl) (hn:Nat.blt d n=true:=by rfl) (ho:o.op= .call c:=by rfl) (hc:c.callee= .value (.func f):=by rfl):aC P n ops (o::rest) ⟨fr,[],loc,objs,base⟩ Q:=
  RT sel he h hs (by
   rw [show evE fr []=((⟨fr,[],loc,objs,base⟩:Es).st []).eval from dI ⟨fr,[],loc,objs,base⟩ []] at ha
   exact pM ha) g hC hd hn ho hc
theorem SH [I:HasTab P] {f:FuncId} {c:Call} {args:List AV} (C:Cnd) (he:i8 P f) (h:mX e.fr C C→aI P f args v) (ha:nX (HasTab.T P) (evE e.fr C) c.args.toList c.argTypes.toList=some args)
    (g:aC P n ops rest (e.put d C v) Q)
    (hC:bH ops e.fr o=some C:=by rfl) (hsub:wA C e.fr=true:=by rfl) (ht:rN e.fr C C=true:=by rfl) (hg:cT d (j7 C e.gs)=false:=by rfl) (hd:o.dst=some d:=by rfl) (hn:Nat.blt d n=true:=by rfl) (ho:o.op= .call c:=by rfl) (hc:c.callee= .value (.func f):=by rfl):aC P n ops (o::rest) e Q:=by
  rw [dI] at ha
  obtain ⟨h1,h2⟩:=pM ha
  refine FQ (v:=v) hC hd (Nat.le_of_ble_eq_true hn) hg hsub ht (fun htr Q' hk=>aM.call (R:=fun r M'=>r=v∧lay e.objs e.base=M') (o:={o with guard:=none}) trivial hd (Nat.le_of_ble_eq_true hn) ho hc he (sQ h2) (by simpa using h1.len) (fun j x v hj hv=>h1.at j x v (by simpa using hj) hv) ((h htr).all _) ?_) rfl g
  rintro r M ⟨rfl,rfl⟩
  exact hk
theorem aP [I:HasTab P] {fr:Fr} {gs:List Nat} {loc:List (Nat×List AV)} {objs:Ob} {base:Nat→Option (List AV)} {f:FuncId} {c:Call} {args:List AV} (he:i8 P f) (h:aI P f args v) (ha:nX (HasTab.T P) (evE fr []) c.args.toList c.argTypes.toList=some args)
    (g:aC P n ops rest ⟨(d,[],v)::fr,gs,loc,objs,base⟩ Q)
    (hC:bH ops fr o=some []:=by rfl) (hsub:wA [] fr=true:=by rfl) (hd:o.dst=some d:=by rfl) (hg:cT d gs=false:=by rfl) (hn:Nat.blt d n=true:=by rfl) (ho:o.op= .call c:=by rfl) (hc:c.callee= .value (.func f):=by rfl):aC P n ops (o::rest) ⟨fr,gs,loc,objs,base⟩ Q:=
  SH (e:=⟨fr,gs,loc,objs,base⟩) [] he (fun _=>h) ha g hC hsub rfl hg hd hn ho hc
theorem gV [I:HasTab P] {fr:Fr} {gs:List Nat} {loc:List (Nat×List AV)} {objs:Ob} {base:Nat→Option (List AV)} {f:FuncId} {c:Call} {args:List AV} (t:Nat) (b:Bool) (D:Cnd) (he:i8 P f) (h:mX fr ((t,b)::D) ((t,b)::D)→aI P f args v) (ha:nX (HasTab.T P) (evE fr ((t,b)::D)) c.args.toList c.argTypes.toList=some args)
    (g:aC P n ops rest ⟨(d,(t,b)::D,v)::fr,t::gs,loc,objs,base⟩ Q)
    (hC:bH ops fr o=some ((t,b)::D):=by rfl) (hsub:wA ((t,b)::D) fr=true:=by rfl) (ht:rN fr ((t,b)::D) ((t,b)::D)=true:=by rfl) (hd:o.dst=some d:=by rfl) (hg:cT d (t::gs)=false:=by rfl) (hn:Nat.blt d n=true:=by rfl) (ho:o.op= .call c:=by rfl) (hc:c.callee= .value (.func f):=by rfl):aC P n ops (o::rest) ⟨fr,gs,loc,objs,base⟩ Q:=
  SH (e:=⟨fr,gs,loc,objs,base⟩) ((t,b)::D) he h ha g hC hsub ht hg hd hn ho hc
end
end
section
open Go.RowKit
def D5 :Nat→List AV→Fr
  |_,[]=>[]
  |i,x::r=>(i,[],x)::D5 (i+1) r
theorem IU :∀(i:Nat) (args:List AV),(D5 i args).map (fun p=>(p.1,dA [] p.2))=pU i args
  |_,[]=>rfl
  |i,x::r=>by
   show (i,dA [] ([],x))::(D5 (i+1) r).map _=_
   rw [IU (i+1) r];rfl
def z8 (T:Tab) (e:Es) (t ty:Nat):Option AV:=
  match bX e.fr [] t with
  | .lptr k off=>match a6 e.loc k with
    |some cs=>match wL T ty cs off with
     |some v=>bif v.flat then some v else none
     |none=>none
    |none=>none
  |_=>none
def okR :AV→Bool
  | .list true _ _=>true
  |v=>v.flat
def qZ (e:Es) (t:Nat):Option AV:=(bX e.fr [] t).force fun v=>bif okR v then some v else none
def NN (T:Tab) (e:Es) (rs:List ResultVar):Option AV:=
  match rs with
  |[]=>some (.tuple [])
  |[.tmp t]=>(bX e.fr [] t).force fun v=>bif v.isL then none else some v
  |[.cell t ty]=>z8 T e t ty
  |[.tmp t,.tmp u]=>bif Nat.beq t u then none else match qZ e t with
   |some x=>match qZ e u with
    |some y=>some (.tuple [x,y])
    |none=>none
   |none=>none
  |[.cell t ty,.tmp u]=>match z8 T e t ty with
   |some x=>match qZ e u with
    |some y=>some (.tuple [x,y])
    |none=>none
   |none=>none
  |[.tmp t,.tmp u,.tmp r]=>bif Nat.beq t u||Nat.beq t r||Nat.beq u r then none else match qZ e t with
   |some x=>match qZ e u with
    |some y=>match qZ e r with
     |some z=>some (.tuple [x,y,z])
     |none=>none
    |none=>none
   |none=>none
  |[.cell t ty,.tmp u,.tmp r]=>bif Nat.beq u r then none else match z8 T e t ty with
   |some x=>match qZ e u with
    |some y=>match qZ e r with
     |some z=>some (.tuple [x,y,z])
     |none=>none
    |none=>none
   |none=>none
  |[.tmp r,.cell t ty,.tmp u]=>bif Nat.beq r u then none else match qZ e r with
   |some z=>match z8 T e t ty with
    |some x=>match qZ e u with
     |some y=>some (.tuple [z,x,y])
     |none=>none
    |none=>none
   |none=>none
  |[.tmp r,.cell t ty]=>match qZ e r with
   |some z=>match z8 T e t ty with
    |some x=>bif z.flat then some (.tuple [z,x]) else none
    |none=>none
   |none=>none
  |[.tmp r,.tmp q,.cell t ty,.tmp u]=>match qZ e r with
   |some z=>match qZ e q with
    |some y'=>match z8 T e t ty with
     |some x=>match qZ e u with
      |some y=>bif z.flat&&y'.flat&&y.flat then some (.tuple [z,y',x,y]) else none
      |none=>none
     |none=>none
    |none=>none
   |none=>none
  |_=>none
section
variable {P:Program} {n:Nat} {e e':Es} {ops:Array Oper} {l rest:List Oper} {o:Oper} {Q:Es→Prop} {QE:Exit→Es→Prop} {d:Nat} {T:Tab} {Z:Zt} {v:AV} {C:Cnd} {t E:Nat} {x y:Operand} {k:IntKind} {i:Int}
theorem WJ {v:AV} (h:okR v=true):v.flat=true∨∃E xs,v= .list true E xs:=by
  unfold okR at h
  split at h
  ·exact .inr ⟨_,_,rfl⟩
  ·exact .inl h
theorem dC {t:Nat} {v:AV} (h:qZ e t=some v):(e.st []).get t=v∧(v.flat=true∨∃E xs,v= .list true E xs):=by
  unfold qZ at h
  rw [cP] at h
  cases hb:okR (bX e.fr [] t) with
  |false=>rw [hb] at h;cases h
  |true=>rw [hb] at h;cases h;exact ⟨cD e [] t,WJ hb⟩
theorem uW (hT:eX P T) {t ty:Nat} {v:AV} (h:z8 T e t ty=some v):∃k off size D cells,(e.st []).get t= .lptr k off∧a6 (e.st []).loc k=some cells∧P.underlying ty=some D∧aZ P ty size∧gU (TypeDesc.agg D) size cells off=some v∧v.flat=true:=by
  unfold z8 at h
  split at h
  ·rename_i k off hg
   split at h
   ·rename_i cs hc
    split at h
    ·rename_i v' hv
     obtain ⟨D,size,h1,h2,h3⟩:=pN hT hv
     cases hb:v'.flat with
     |false=>rw [hb] at h;cases h
     |true=>rw [hb] at h;cases h;exact ⟨k,off,size,D,cs,(cD e [] t).trans hg,hc,h1,h2,h3,hb⟩
    ·cases h
   ·cases h
  ·cases h
theorem yF {a b:Nat} (h:Nat.beq a b=false):a≠b:=fun e=>by subst e;rw [Nat.beq_refl] at h;cases h
theorem PQ (hT:eX P T) {rs:List ResultVar} {r:AV} (h:NN T e rs=some r):ResOf P (e.st []) rs.toArray r:=by
  unfold NN at h
  split at h
  ·cases h;exact .none
  ·rename_i t
   rw [cP] at h
   cases hb:(bX e.fr [] t).isL with
   |true=>rw [hb] at h;cases h
   |false=>rw [hb] at h;cases h;exact .one t _ (cD e [] t) hb
  ·obtain ⟨k,off,size,D,cells,h1,h2,h3,h4,h5,h6⟩:=uW hT h
   exact .cell _ k off size _ D cells r h1 h2 h3 h4 h5 h6
  ·rename_i t u
   cases hb:Nat.beq t u with
   |true=>rw [hb] at h;cases h
   |false=>
    rw [hb] at h
    simp only [cond_false] at h
    split at h
    ·rename_i x hx
     split at h
     ·rename_i y hy
      cases h
      exact .two t u x y (dC hx).1 (dC hy).1 (dC hx).2 (dC hy).2 (yF hb)
     ·cases h
    ·cases h
  ·split at h
   ·rename_i x hx
    split at h
    ·rename_i y hy
     cases h
     obtain ⟨k,off,size,D,cells,h1,h2,h3,h4,h5,h6⟩:=uW hT hx
     exact .cellTmp _ k off size _ D cells x h1 h2 h3 h4 h5 h6 _ y (dC hy).1 (dC hy).2
    ·cases h
   ·cases h
  ·rename_i t u r'
   cases hb:(Nat.beq t u||Nat.beq t r'||Nat.beq u r') with
   |true=>rw [hb] at h;cases h
   |false=>
    rw [hb] at h
    simp only [Bool.or_eq_false_iff] at hb
    simp only [cond_false] at h
    split at h
    ·rename_i x hx
     split at h
     ·rename_i y hy
      split at h
      ·rename_i z hz
       cases h
       exact .three t u r' x y z (dC hx).1 (dC hy).1 (dC hz).1 (dC hx).2 (dC hy).2 (dC hz).2 ⟨yF hb.1.1,yF hb.1.2,yF hb.2⟩
      ·cases h
     ·cases h
    ·cases h
  ·rename_i t ty u r'
   cases hb:Nat.beq u r' with
   |true=>rw [hb] at h;cases h
   |false=>
    rw [hb] at h
    simp only [cond_false] at h
    split at h
    ·rename_i x hx
     split at h
     ·rename_i y hy
      split at h
      ·rename_i z hz
       cases h
       obtain ⟨k,off,size,D,cells,h1,h2,h3,h4,h5,h6⟩:=uW hT hx
       exact .cellTmpTmp _ k off size _ D cells x h1 h2 h3 h4 h5 h6 _ y (dC hy).1 (dC hy).2 _ z (dC hz).1 (dC hz).2 (yF hb)
      ·cases h
     ·cases h
    ·cases h
  ·rename_i r' t ty u
   cases hb:Nat.beq r' u with
   |true=>rw [hb] at h;cases h
   |false=>
    rw [hb] at h
    simp only [cond_false] at h
    split at h
    ·rename_i z hz
     split at h
     ·rename_i x hx
      split at h
      ·rename_i y hy
       cases h
       obtain ⟨k,off,size,D,cells,h1,h2,h3,h4,h5,h6⟩:=uW hT hx
       exact .tmpCellTmp _ z (dC hz).1 (dC hz).2 _ k off size _ D cells x h1 h2 h3 h4 h5 h6 _ y (dC hy).1 (dC hy).2 (yF hb)
      ·cases h
     ·cases h
    ·cases h
  ·rename_i r' t ty
   split at h
   ·rename_i z hz
    split at h
    ·rename_i x hx
     cases hf:z.flat with
     |false=>rw [hf] at h;cases h
     |true=>
      rw [hf] at h
      cases h
      obtain ⟨k,off,size,D,cells,h1,h2,h3,h4,h5,h6⟩:=uW hT hx
      exact .tmpCell _ z (dC hz).1 hf _ k off size _ D cells x h1 h2 h3 h4 h5 h6
    ·cases h
   ·cases h
  ·rename_i r' q t ty u
   split at h
   ·rename_i z hz
    split at h
    ·rename_i y' hq
     split at h
     ·rename_i x hx
      split at h
      ·rename_i y hy
       cases hf:(z.flat&&y'.flat&&y.flat) with
       |false=>rw [hf] at h;cases h
       |true=>
        rw [hf] at h
        simp only [Bool.and_eq_true] at hf
        cases h
        obtain ⟨k,off,size,D,cells,h1,h2,h3,h4,h5,h6⟩:=uW hT hx
        exact .tmpTmpCellTmp _ z (dC hz).1 hf.1.1 _ y' (dC hq).1 hf.1.2 _ k off size _ D cells x h1 h2 h3 h4 h5 h6 _ y (dC hy).1 hf.2
      ·cases h
     ·cases h
    ·cases h
   ·cases h
  ·cases h
theorem ER {fr:Fr} {gs:List Nat} {loc:List (Nat×List AV)} {objs:Ob} {base:Nat→Option (List AV)} {c:Code} {o:Bool} {E:Nat} {xs:List AV} (t:Nat) (h:CWp P n c ⟨(t,[],.list false E xs)::fr,gs,loc,objs,base⟩ QE) (hx:bX fr [] t= .list o E xs:=by rfl):CWp P n c ⟨fr,gs,loc,objs,base⟩ QE:=by
  intro G a w K hr hfx hK
  refine h G a w K ⟨⟨hr.1.size,hr.1.defers,fun i=>?_,hr.1.loc,hr.1.mem⟩,hr.2⟩ hfx hK
  have h1:=hr.1.slot i
  rw [cD] at h1 ⊢
  by_cases hi:i=t
  ·subst hi
   have e1:bX ((i,[],.list false E xs)::fr) [] i= .list false E xs:=by
     unfold bX;simp only [aY,Nat.beq_refl];rfl
   show bE P G w _ (bX ((i,[],.list false E xs)::fr) [] i) _
   rw [e1]
   have h2:bE P G w (.slot i) (bX fr [] i) (a.tmps.getD i undef):=h1
   rw [hx] at h2
   exact bE.un (x:= .list o E xs) h2
  ·have e1:bX ((t,[],.list false E xs)::fr) [] i=bX fr [] i:=by
     unfold bX
     simp only [aY]
     cases hb:Nat.beq t i with
     |true=>exact absurd (Nat.eq_of_beq_eq_true hb).symm hi
     |false=>rfl
   show bE P G w _ (bX ((t,[],.list false E xs)::fr) [] i) _
   rw [e1];exact h1
theorem M9 {A B:Ob} {base:Nat→Option (List AV)} (h:ndO (A++B) base):∀id c,lay A base id=some c→lay (A++B) base id=some c:=by
  intro id c hc
  rw [yC]
  by_cases hA:id∈A.map (·.1)
  ·have key:∀(X Y:Nat→Option (List AV)) (A:Ob),id∈A.map (·.1)→lay A X id=lay A Y id:=by
     intro X Y A
     induction A with
     |nil=>intro h;cases h
     |cons p r ih=>
      intro h
      show bA (lay r X) p.1 p.2 id=bA (lay r Y) p.1 p.2 id
      by_cases e:id=p.1
      ·subst e;rw [bP,bP]
      ·rw [bT e,bT e]
       simp only [List.map_cons,List.mem_cons] at h
       exact ih (h.resolve_left e)
   rw [key (lay B base) base A hA];exact hc
  ·rw [gA hA] at hc ⊢
   by_cases hB:id∈B.map (·.1)
   ·have:=h.2 id (by rw [List.map_append];exact List.mem_append_right _ hB)
    rw [this] at hc;cases hc
   ·rw [gA hB];exact hc
theorem a8 [I:HasTab P] {f:FuncId} {fn:Func} {c:Code} {args:List AV} {ins:Ob} {R:AV→Ob→Prop} (hf:P.funcs[f]? =some fn) (hb:fn.body=some c) (hn:fn.ntmps=n) (hp:args.length.ble n=true) (hfl:args.all AV.flat=true)
    (h:∀base,CWp P n c ⟨D5 0 args,[],[],ins,base⟩ fun x e'=>(x= .ret∨x= .normal)∧∃r sel A B,NN (HasTab.T P) e' fn.results.toList=some r∧qU sel e'.objs=some (A,B)∧e'.base=base∧R r A):aO P f args ins R:=by
  intro base hnd
  refine PW (bW.of (n:=n) hf hb hn hp hfl ?_)
  intro G a w K hr hfx hK
  have hst:(⟨D5 0 args,[],[],ins,base⟩:Es).st []=⟨pU 0 args,[],lay ins base⟩:=by
    unfold Es.st;rw [IU]
  refine h base G a w K ⟨by rw [hst];exact hr,hnd⟩ hfx ?_
  rintro x e' G' a' w' ⟨hx,r,sel,A,B,h1,h2,rfl,hR⟩ hr' hk
  refine hK x (e'.st []) G' a' w' ⟨hx,r,by simpa using PQ I.tok h1,lay A e'.base,⟨A,hR,rfl,?_⟩,?_⟩ hr'.1 hk
  ·have:=pH (gB h2).symm hr'.2
   obtain ⟨a1,a2⟩:=this
   rw [List.map_append] at a1 a2
   exact ⟨(List.nodup_append.1 a1).1,fun i hi=>a2 i (List.mem_append_left _ hi)⟩
  ·intro id cs hc
   have hAB:=pH (gB h2).symm hr'.2
   show lay e'.objs e'.base id=some cs
   rw [←zG (gB h2) hAB.1]
   exact M9 hAB id cs hc
theorem aK [I:HasTab P] {f:FuncId} {fn:Func} {c:Code} {args:List AV} (hf:P.funcs[f]? =some fn) (hb:fn.body=some c) (hn:fn.ntmps=n) (hp:args.length.ble n=true) (hfl:args.all AV.flat=true)
    (h:∀base,CWp P n c ⟨D5 0 args,[],[],[],base⟩ fun x e'=>(x= .ret∨x= .normal)∧NN (HasTab.T P) e' fn.results.toList=some v∧e'.base=base):aI P f args v:=by
  refine a8 hf hb hn hp hfl fun base G a w K hr hfx hK=>h base G a w K hr hfx ?_
  rintro x e' G' a' w' ⟨h1,h2,h3⟩ hr' hk
  exact hK x e' G' a' w' ⟨h1,v,[],[],e'.objs,h2,rfl,h3,rfl,rfl⟩ hr' hk
end
def aT :Nat:=18446744073709551616
section
variable {P:Program} {n:Nat} {e e':Es} {ops:Array Oper} {l l':List Oper} {Q:Es→Prop} {q:List (Nat×Nat)}
theorem rn [I:HasTab P] (m:Nat) (h:HA (HasTab.T P) (HasTab.Z P) n ops [] m [] l e []=some (l',e',[])) (k:aC P n ops l' e' Q):aC P n ops l e Q:=aC.run I.tok I.zok m [] [] h trivial k
theorem rh [I:HasTab P] (m:Nat) (H L:List Nat) (h:HA (HasTab.T P) (HasTab.Z P) n ops L m H l e []=some (l',e',q)) (hq:iC q) (k:aC P n ops l' e' Q):aC P n ops l e Q:=aC.run I.tok I.zok m H L h hq k
theorem srd [I:HasTab P] {QE:Exit→Es→Prop} {id:Nat} {y:Code} {e1 e2:Es} (m:Nat) (h:HA (HasTab.T P) (HasTab.Z P) n ops [] m [] ops.toList e []=some ([],e1,[])) (A B:List Nat) (h2:xU e1 A B=some e2) (k:CWp P n y e2 QE) (hf:a7 e.fr=true:=by rfl):CWp P n (.seq (.region id ops false) y) e QE:=
  aB (aA (rn m h (aC.done A B h2 k)) hf)
end
abbrev fNe (a b:Nat):Bool:=FloatKind.f64.format.order a b !=some .eq
abbrev fLt (a b:Nat):Bool:=FloatKind.f64.format.order a b==some .lt
abbrev fGt (a b:Nat):Bool:=FloatKind.f64.format.order a b==some .gt
abbrev fGe (a b:Nat):Bool:=FloatKind.f64.format.order a b==some .gt||FloatKind.f64.format.order a b==some .eq
structure V3 (α:Type) where
  a:α
  b:α
  c:α
  deriving Inhabited
structure V16 (α:Type) where
  a:α
  b:α
  c:α
  d:α
  e:α
  f:α
  g:α
  h:α
  i:α
  j:α
  k:α
  l:α
  m:α
  n:α
  o:α
  p:α
  deriving Inhabited
end
end Go.Proofs.YtoolgdcjfkjlnaaGreatDoor
