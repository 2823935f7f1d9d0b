/- aGreatDoorM7. -/
import Derived.Test.YtoolgdcjfkjlnaaGreatDoorM6
import Derived.Test.YtoolgdcjfkjlnaaGreatDoorM3
import Derived.Test.YtoolgdcjfkjlnaaGreatDoorM2
import Derived.Test.YtoolgdcjfkjlnaaGreatDoorPShelf
import Derived.Lib.SmallJoins
import Derived.Lib.AtoiAll
import Derived.Lib.AtoiAllCases
import Derived.Shelf.Vars
import Derived.Shelf.Strings.SlTrimAscii
import Derived.Lib.AppendIntMem
namespace Go.Proofs.YtoolgdcjfkjlnaaGreatDoor
section
open Go.RowKit
section
variable {P:Program} {n:Nat} {s:St} {ops:Array Oper} {o:Oper} {rest:List Oper} {Q:St→Prop}
theorem aM.toG {id:Nat} {T:List (List UInt8×AV)} {l:List Oper} (hc:s.mem id=some (sK T)) (h:aM P n ops l {s with mem:=bA s.mem id (mapG (T.map fun p=>(keS p.1,p.2)))} Q):aM P n ops l s Q:=
  fun G a w K hr hfx hK=>h G a w K (hr.toG hc) hfx hK
end
section
variable {P:Program} {n:Nat} {e e':Es} {ops:Array Oper} {l rest:List Oper} {o:Oper} {Q:Es→Prop} {QE:Exit→Es→Prop} {d:Nat} {v:AV} {C:Cnd} {t t' E kt kt' et:Nat} {x y z:Operand} {k:IntKind} {i j:Int}
theorem RO {pv:Nat→AV} {fr:Fr} {loc:List (Nat×List AV)} {objs:Ob} {base:Nat→Option (List AV)} {cells:List AV}
    (h:∀Q',(∀id,lay objs base id=none→aM P n ops rest ⟨(d,pv id)::((⟨fr,[],loc,objs,base⟩:Es).st []).fr,loc,bA (lay objs base) id cells⟩ Q')→aM P n ops (o::rest) ((⟨fr,[],loc,objs,base⟩:Es).st []) Q')
    (g:∀id,aC P n ops rest ⟨(d,[],pv id)::fr,[],loc,(id,cells)::objs,base⟩ Q):aC P n ops (o::rest) ⟨fr,[],loc,objs,base⟩ Q:=by
  intro G a w K hr hfx hK
  have hfl:∀i,(aY fr i).1=[]:=by
    intro i
    cases hx:(aY fr i).1 with
    |nil=>rfl
    |cons p r=>
     have:=hr.gs i p (by show p∈(aY fr i).1;rw [hx];exact List.mem_cons_self ..)
     cases this
  have hnd:ndO objs base:=hr.nd
  refine h (fun s''=>∃e'',e''.st []=s''∧e''.nd∧Q e'') (fun id hid=>?_) G a w K (hr.st bF) hfx ?_
  ·intro G1 a1 w1 K1 hr1 hfx1 hK1
   have hni:id∉objs.map (·.1):=fun hm=>pG hm hid
   have hb:base id=none:=by rwa [gA hni] at hid
   have hnd':ndO ((id,cells)::objs) base:=⟨List.nodup_cons.2 ⟨hni,hnd.1⟩,fun i hi=>by
     rcases List.mem_cons.1 hi with e|e
     ·subst e;exact hb
     ·exact hnd.2 i e⟩
   have hf':=d4 hfl [(d,pv id)]
   refine g id G1 a1 w1 K1 ⟨hr1.size,hr1.defers,fun i _=>?_,fun i hne=>?_,fun i p hp=>?_,hr1.loc,hr1.mem,hnd'⟩ hfx1 (fun e2 G2 a2 w2 hq hr2 hk2=>hK1 _ G2 a2 w2 ⟨e2,rfl,hr2.2,hq⟩ hr2.1 hk2)
   ·have h3:=hr1.slot i
    have e1:St.get ⟨(d,pv id)::((⟨fr,[],loc,objs,base⟩:Es).st []).fr,loc,bA (lay objs base) id cells⟩ i=dA [] (aY ((d,[],pv id)::fr) i):=oB [] ((d,[],pv id)::fr) i
    rw [e1] at h3
    unfold dA at h3
    rw [show (aY ((d,[],pv id)::fr) i).1=[] from hf' i] at h3
    exact h3
   ·rw [show (aY ((d,[],pv id)::fr) i).1=[] from hf' i] at hne
    exact absurd bF hne
   ·rw [show (aY ((d,[],pv id)::fr) i).1=[] from hf' i] at hp;cases hp
  ·rintro s'' G' a' w' ⟨e'',rfl,hn2,hq⟩ hr' hk
   exact hK e'' G' a' w' hq ⟨hr',hn2⟩ hk
variable {κ β:Type} [DecidableEq κ] {ke:κ→Value} {vf:β→AV} {S:List (κ×β)} {fr:Fr} {loc:List (Nat×List AV)} {objs:Ob} {base:Nat→Option (List AV)} {id:Nat}
omit [DecidableEq κ] in
theorem V2 (ke:κ→Value) (vf:β→AV) (g:∀id,aC P n ops rest ⟨(d,[],.gmap id)::fr,[],loc,(id,aV ke vf [])::objs,base⟩ Q)
    (hC:bH ops fr o=some []:=by rfl) (hd:o.dst=some d:=by rfl) (hn:Nat.blt d n=true:=by rfl) (ho:o.op= .makeMap t none:=by rfl):aC P n ops (o::rest) ⟨fr,[],loc,objs,base⟩ Q:=by
  refine RO (pv:= .gmap) (fun Q' hk=>?_) g
  refine FD (cB (e:=⟨fr,[],loc,objs,base⟩) _ hC) hd (Nat.le_of_ble_eq_true hn) ho fun id hid=>?_
  refine aM.toG (T:=[]) bP ?_
  have:=hk id hid
  show aM P n ops rest ⟨_,_,bA (bA (lay objs base) id (sK [])) id (mapG [])⟩ Q'
  rw [AO]
  exact this
theorem uF {G:Gh} {a:Act} {w:World} {k:List UInt8} (hy:evE fr [] y= .str k):RelSt P G n ((⟨fr,[],loc,objs,base⟩:Es).st []) a w→a.eval y=keS k:=
  fun hr=>hr.evStr (bK (e:=⟨fr,[],loc,objs,base⟩) hy)
theorem QC (q:Nat) {k:κ} (z1:β) {z0:Value} (K:KeyT P kt ke) (ht:P.underlying t=some (.map kt et)) (hz:(P.info? et).map (·.zero)=some (some z0)) (hzv:∀G w,RelV P G w (vf z1) z0) (hfl:∀v,(vf v).flat=true) (hy:∀(G:Gh) a w,RelSt P G n ((⟨fr,[],loc,objs,base⟩:Es).st []) a w→a.eval y=ke k)
    (g:aC P n ops rest ⟨(d,[],.tuple [vf ((cO k S).getD z1),.lit (.bool (cO k S).isSome)])::fr,[],loc,objs,base⟩ Q) (hj:objs[q]? =some (id,aV ke vf S):=by rfl) (ho:o.op= .lookup t x y true:=by rfl) (hx:evE fr [] x= .gmap id:=by rfl)
    (hC:bH ops fr o=some []:=by rfl) (hd:o.dst=some d:=by rfl) (hn:Nat.blt d n=true:=by rfl):aC P n ops (o::rest) ⟨fr,[],loc,objs,base⟩ Q:=
  aC.nd fun hnd=>rd (N4 K ht hz hzv hfl (cS hnd.1 hj) hy ho (bK (e:=⟨fr,[],loc,objs,base⟩) hx)) g hC hd hn rfl
theorem UG (q:Nat) {k:κ} (z1:β) {z0:Value} (K:KeyT P kt ke) (ht:P.underlying t=some (.map kt et)) (hz:(P.info? et).map (·.zero)=some (some z0)) (hzv:∀G w,RelV P G w (vf z1) z0) (hfl:∀v,(vf v).flat=true) (hy:∀(G:Gh) a w,RelSt P G n ((⟨fr,[],loc,objs,base⟩:Es).st []) a w→a.eval y=ke k)
    (g:aC P n ops rest ⟨(d,[],vf ((cO k S).getD z1))::fr,[],loc,objs,base⟩ Q) (hj:objs[q]? =some (id,aV ke vf S):=by rfl) (ho:o.op= .lookup t x y false:=by rfl) (hx:evE fr [] x= .gmap id:=by rfl)
    (hC:bH ops fr o=some []:=by rfl) (hd:o.dst=some d:=by rfl) (hn:Nat.blt d n=true:=by rfl):aC P n ops (o::rest) ⟨fr,[],loc,objs,base⟩ Q:=
  aC.nd fun hnd=>rd (N7 K ht hz hzv hfl (cS hnd.1 hj) hy ho (bK (e:=⟨fr,[],loc,objs,base⟩) hx)) g hC hd hn rfl
theorem QI [_I:HasTab P] (q:Nat) {k:κ} (v:β) (K:KeyT P kt ke) (ht:P.underlying t=some (.map kt et)) (hfl:∀v,(vf v).flat=true) (hy:∀(G:Gh) a w,RelSt P G n ((⟨fr,[],loc,objs,base⟩:Es).st []) a w→a.eval y=ke k)
    (g:aC P n ops rest ⟨fr,[],loc,objs.set q (id,aV ke vf (xR k v S)),base⟩ Q) (hj:objs[q]? =some (id,aV ke vf S):=by rfl) (ho:o.op= .mapUpdate t x y z∨o.op= .insert t x y z:=by exact .inl rfl) (hx:evE fr [] x= .gmap id:=by rfl) (hz:(evE fr [] z).un=vf v:=by rfl) (hok:Operand.ok z=true:=by rfl)
    (hC:bH ops fr o=some []:=by rfl) (hd:o.dst=none:=by rfl):aC P n ops (o::rest) ⟨fr,[],loc,objs,base⟩ Q:=
  aC.nd fun hnd=>cQ (e:=⟨fr,[],loc,objs,base⟩) (add:=[]) (objs':=objs.set q (id,aV ke vf (xR k v S))) rfl (fun Q' hk=>JW (v:=v) K (cB (e:=⟨fr,[],loc,objs,base⟩) _ hC) hd ho ht (bK (e:=⟨fr,[],loc,objs,base⟩) hx) (cS hnd.1 hj) hy (.inl ⟨by rw [bK (e:=⟨fr,[],loc,objs,base⟩) (x:=z) rfl];exact hz,hfl v⟩) hok (jQ hnd.1 hj) hk) (fun h=>jR h (d3 hj)) g
theorem WY [_I:HasTab P] (q:Nat) {k:κ} {c:Call} (K:KeyT P kt ke) (ht:P.underlying t=some (.map kt et)) (hy:∀(G:Gh) a w,RelSt P G n ((⟨fr,[],loc,objs,base⟩:Es).st []) a w→a.eval y=ke k)
    (g:aC P n ops rest ⟨fr,[],loc,objs.set q (id,aV ke vf (w6 k S)),base⟩ Q) (hj:objs[q]? =some (id,aV ke vf S):=by rfl) (ho:o.op= .call c:=by rfl) (hcl:c.callee= .builtin .delete:=by rfl) (ha:c.args=#[x,y]:=by rfl) (hat:c.argTypes=#[t,kt']:=by rfl) (hx:evE fr [] x= .gmap id:=by rfl)
    (hC:bH ops fr o=some []:=by rfl) (hd:o.dst=none:=by rfl):aC P n ops (o::rest) ⟨fr,[],loc,objs,base⟩ Q:=
  aC.nd fun hnd=>cQ (e:=⟨fr,[],loc,objs,base⟩) (add:=[]) (objs':=objs.set q (id,aV ke vf (w6 k S))) rfl (fun _Q' hk=>RL K (cB (e:=⟨fr,[],loc,objs,base⟩) _ hC) hd ho hcl ha hat ht (bK (e:=⟨fr,[],loc,objs,base⟩) hx) (cS hnd.1 hj) hy (jQ hnd.1 hj) hk) (fun h=>jR h (d3 hj)) g
theorem LJ {P:Program} {E:TypeId} (w:World) (k:Nat) (t:TypeId) (a:Option Addr) (l c:Nat) (h:P.underlying t=some (.slice E)):(Op.equalIn (k+1) t (.slice a l c) (.slice none 0 0)).run P w= .ok a.isNone w:=by
  cases a<;>simp [Op.equalIn,run_underlying h]
theorem HN [I:HasTab P] {E zz:Nat} {xs:List AV} {fr:Fr} {loc:List (Nat×List AV)} {objs:Ob} {base:Nat→Option (List AV)} (g:∀b:Bool,(b=true→xs=[])→aC P n ops rest ⟨(d,[],.lit (.bool b))::fr,[],loc,objs,base⟩ Q)
    (hC:bH ops fr o=some []:=by rfl) (hd:o.dst=some d:=by rfl) (hn:Nat.blt d n=true:=by rfl) (ho:o.op= .binOp .eql t x (.const (.slice none 0 0)) t':=by rfl) (h1:(HasTab.T P).look t=some (.slice E,zz):=by rfl) (hx:evE fr [] x= .list false E xs:=by rfl):aC P n ops (o::rest) ⟨fr,[],loc,objs,base⟩ Q:=by
  obtain ⟨⟨D,hD,hk⟩,_⟩:=Tab.ok I.tok h1
  have:=bU hk;subst this
  intro G a w K hr hfx hK
  have hst:=hr.st bF
  have hx':((⟨fr,[],loc,objs,base⟩:Es).st []).eval x= .list false E xs:=bK (e:=⟨fr,[],loc,objs,base⟩) hx
  obtain ⟨p,hp⟩:=hst.ev x (fun v cs e1 e2=>by subst e1;subst e2;simp [St.eval,cF] at hx')
  rw [hx'] at hp
  have hp':RelV P G w (.list false E xs) (a.eval x):=hp
  have hv:∃a0 l c,a.eval x= .slice a0 l c∧(a0.isNone=true→xs=[]):=by
    generalize a.eval x=v at hp'
    cases hp' with
    |nil=>exact ⟨_,_,_,rfl,fun _=>rfl⟩
    |zero=>exact ⟨_,_,_,rfl,fun _=>rfl⟩
    |row=>exact ⟨_,_,_,rfl,fun h=>by cases h⟩
  obtain ⟨a0,l,c,hv,hb⟩:=hv
  have hnl:a.eval (.const (.slice none 0 0))= .slice none 0 0:=rfl
  have hrun:(execOp a.eval o).run P w= .ok (.value (.bool a0.isNone)) w:=by
    have h2:=LJ (P:=P) w 9999 t a0 l c hD
    simp [execOp,ho,hv,hnl,binOp,eqGuard,Op.equal,Op.maxDepth,h2,Result.andThen]
  simp only [wpList]
  rw [if_pos (eR hst (fun t=>by omega) (cB (e:=⟨fr,[],loc,objs,base⟩) _ hC))]
  left
  unfold Oper.wp
  rw [hrun,Oper.upon_value,hd]
  exact g a0.isNone hb G _ w K (hr.put hC (Nat.le_of_ble_eq_true hn) (by simp [j7]) (fun _=>bZ _) (fun h=>absurd bF h)) hfx hK
theorem JS {P:Program} {E:TypeId} (w:World) (k:Nat) (t:TypeId) (a:Addr) (h:P.underlying t=some (.pointer E)):(Op.equalIn (k+1) t (.pointer (some a)) (.pointer none)).run P w= .ok false w:=by
  simp [Op.equalIn,run_underlying h]
theorem CW {e:Es} {E id k:Nat} {op:BinOp} {b:Bool} (hu:P.underlying t=some (.pointer E)) (hop:(op= .eql∧b=false)∨(op= .neq∧b=true)) (ho:o.op= .binOp op t x (.const (.pointer none)) t':=by rfl) (hx:evE e.fr C x= .gptr id k:=by rfl):aH P n (e.st C) o d (zB b):=by
  intro G a w h
  have hx':=bK hx
  obtain ⟨p,hp⟩:=h.ev x (fun v cs e1 e2=>by subst e1;subst e2;simp [St.eval,cF] at hx')
  rw [hx'] at hp
  have hp':RelV P G w (.gptr id k) (a.eval x):=hp
  generalize hav:a.eval x=va at hp'
  cases hp' with
  |gptr _ _ b0 hb=>
  refine ⟨.bool b,bZ _,fun w' _=>?_⟩
  have hn:a.eval (.const (.pointer none))= .pointer none:=rfl
  have hrun:=JS (P:=P) w' 9999 t ⟨b0,k,none⟩ hu
  rcases hop with ⟨rfl,rfl⟩|⟨rfl,rfl⟩<;>simp [execOp,ho,hav,hn,binOp,eqGuard,Op.equal,Op.maxDepth,hrun,Result.andThen]
theorem V5 [I:HasTab P] {E:Nat} {fr:Fr} {loc:List (Nat×List AV)} {objs:Ob} {base:Nat→Option (List AV)} {id c:Nat} {cells:List AV} (q:Nat) (g:aC P n ops rest ⟨fr,[],loc,objs.set q (id,cells.set c (.list true E [])),base⟩ Q)
    (hj:objs[q]? =some (id,cells):=by rfl) (ho:o.op= .store t x (.const (.slice none 0 0)):=by rfl) (hx:evE fr [] x= .gptr id c:=by rfl) (h1:(HasTab.T P).look t=some (.slice E,1):=by rfl) (hcb:Nat.blt c cells.length=true:=by rfl) (hall:cells.all AV.scalar=true:=by rfl)
    (hC:bH ops fr o=some []:=by rfl) (hd:o.dst=none:=by rfl):aC P n ops (o::rest) ⟨fr,[],loc,objs,base⟩ Q:=by
  have hc:c<cells.length:=Nat.le_of_ble_eq_true hcb
  have hne:cells≠[]:=fun e=>by rw [e] at hc;cases hc
  have hsp:c8 cells c [AV.lit (.slice none 0 0)]=cells.set c (.lit (.slice none 0 0)):=by
    unfold c8
    rw [List.set_eq_take_append_cons_drop,if_pos hc]
    simp
  refine aC.nd fun hnd=>cQ (e:=⟨fr,[],loc,objs,base⟩) (add:=[]) (objs':=objs.set q (id,cells.set c (.lit (.slice none 0 0)))) rfl (fun Q' hk=>DM (v:= .lit (.slice none 0 0)) (cB (e:=⟨fr,[],loc,objs,base⟩) _ hC) hd ho (bK (e:=⟨fr,[],loc,objs,base⟩) hx) (cS hnd.1 hj) (Tab.ok I.tok h1).2 (fun G a w hr=> .lit _) rfl (fun c hc=>by simp [AV.cells] at hc;subst hc;rfl) rfl (by omega) (by rw [show (AV.lit (.slice none 0 0)).cells=[AV.lit (.slice none 0 0)] from rfl,hsp];exact jQ hnd.1 hj) hk hall hne) (fun h=>jR h (d3 hj)) ?_
  have hql:q<objs.length:=(List.getElem?_eq_some_iff.1 hj).1
  refine IN (id:=id) (cells:=cells.set c (.lit (.slice none 0 0))) q c E ?_ (by simp [hql]) (by simp [hc]) ?_
  ·rw [List.set_set,List.set_set];exact g
  ·rw [List.all_eq_true]
   intro y hy
   rcases List.mem_or_eq_of_mem_set hy with h|rfl
   ·exact List.all_eq_true.1 hall y h
   ·rfl
end
end
section
open Go.RowKit
section
variable {P:Program} {n:Nat} {e e':Es} {ops:Array Oper} {l rest:List Oper} {o:Oper} {Q:Es→Prop} {d:Nat} {x y:Operand} {t:Nat} {v c0:AV}
theorem KE {α:Type} {l:List α} {k:Nat} {c:α} (h:l[k]? =some c):∃A B,l=A++([c]++B)∧A.length=k∧∀c',l.set k c'=A++([c']++B):=by
  obtain ⟨hk,rfl⟩:=List.getElem?_eq_some_iff.1 h
  refine ⟨l.take k,l.drop (k+1),?_,by simp;omega,fun c'=>?_⟩
  ·rw [List.singleton_append,←List.drop_eq_getElem_cons hk,List.take_append_drop]
  ·rw [List.set_eq_take_append_cons_drop,if_pos hk,List.singleton_append]
theorem XC [I:HasTab P] {cells:List AV} {p:Nat} {fr:Fr} {gs:List Nat} {loc:List (Nat×List AV)} {objs:Ob} {base:Nat→Option (List AV)} {id:Nat} (j:Nat) (hp:cells[p]? =some c0)
    (g:aC P n ops rest ⟨(d,[],v)::fr,gs,loc,objs,base⟩ Q) (hj:objs[j]? =some (id,cells):=by rfl) (ho:o.op= .load t x:=by rfl) (hv:wL (HasTab.T P) t [c0] 0=some v:=by rfl) (hx:evE fr [] x= .gptr id p:=by rfl) (hfl:v.flat=true:=by rfl)
    (hs:scl cells=true:=by rfl) (hC:bH ops fr o=some []:=by rfl) (hd:o.dst=some d:=by rfl) (hn:Nat.blt d n=true:=by rfl) (hg:cT d gs=false:=by rfl):aC P n ops (o::rest) ⟨fr,gs,loc,objs,base⟩ Q:=by
  refine aC.nd fun hnd=>rd ?_ g hC hd hn hg
  obtain ⟨D,size,h1,h2,h3⟩:=pN I.tok hv
  obtain ⟨A,B,a1,a2,_⟩:=KE hp
  refine s3 ho h1 h2 (bK (e:=⟨fr,gs,loc,objs,base⟩) hx) (cS hnd.1 hj) ?_ hfl (kZ hs).1 (kZ hs).2
  have:=CS (A:=A) (B:=B) h3
  rw [←List.append_assoc] at a1
  rw [a1,←a2];exact this
theorem XE [I:HasTab P] {c1:AV} {cells:List AV} {p:Nat} {fr:Fr} {loc:List (Nat×List AV)} {objs objs':Ob} {base:Nat→Option (List AV)} {id:Nat} (j:Nat) (cells':List AV) (hp:cells[p]? =some c0) (hc':cells.set p c1=cells')
    (g:aC P n ops rest ⟨fr,[],loc,objs',base⟩ Q) (hj:objs[j]? =some (id,cells):=by rfl) (ho:o.op= .store t x y:=by rfl) (hs:zP (HasTab.T P) (evE fr []) t y [c0] 0=some [c1]:=by rfl) (hx:evE fr [] x= .gptr id p:=by rfl)
    (ho':objs.set j (id,cells')=objs':=by rfl) (hsc:scl cells=true:=by rfl) (hC:bH ops fr o=some []:=by rfl) (hd:o.dst=none:=by rfl):aC P n ops (o::rest) ⟨fr,[],loc,objs,base⟩ Q:=by
  obtain ⟨A,B,a1,a2,a3⟩:=KE hp
  rw [dI ⟨fr,[],loc,objs,base⟩ []] at hs
  obtain ⟨size,u,g1,g2,g3,g4,g5,g6,g7,g8⟩:=wV I.tok hs
  have hsp2:c8 cells p u.cells=cells':=by
    rw [←hc',a3,a1,←a2]
    have:=C1 (off:=0) (A:=A) (B:=B) (C:=[c0]) (vs:=u.cells) (by rw [g6];simpa using g7)
    rw [←g8,List.append_assoc,List.append_assoc] at this
    exact this
  have hfit:p+size≤cells.length:=by
    rw [a1];simp only [List.length_append,List.length_singleton];simp only [List.length_singleton,Nat.zero_add] at g7;omega
  refine aC.nd fun hnd=>cQ (e:=⟨fr,[],loc,objs,base⟩) (add:=[]) (objs':=objs') rfl (fun Q' hk=>AP (cB (e:=⟨fr,[],loc,objs,base⟩) _ hC) hd ho (bK (e:=⟨fr,[],loc,objs,base⟩) hx) (cS hnd.1 hj) g1 g2 g3 g4 g5 g6 hfit ?_ hk (kZ hsc).1 (kZ hsc).2) (fun h=>?_) g
  ·rw [hsp2,←ho'];exact jQ hnd.1 hj
  ·rw [←ho'];exact jR h (d3 hj)
end
end
section
open Go.RowKit
section
variable {P:Program} {n:Nat} {s:St} {e e':Es} {ops:Array Oper} {l rest:List Oper} {o:Oper} {Q:Es→Prop} {d:Nat} {v:AV} {E:Nat}
theorem L5 {α:Type} {sz:Nat} {fr:Fr} {loc:List (Nat×List AV)} {objs:Ob} {base:Nat→Option (List AV)} {id:Nat} {cells:List AV} (f:α→AV) (j c E:Nat) (g:∀m,aC P n ops l ⟨fr,[],loc,(m,lob (Slk.nil (sz:=sz)) f [] (Slk.nil (sz:=sz)))::objs.set j (id,cells.set c (hdM m (Slk.nil (sz:=sz)) ([]:List α) (Slk.nil (sz:=sz)))),base⟩ Q)
    (hj:objs[j]? =some (id,cells):=by rfl) (hc:cells[c]? =some (.lit (.slice none 0 0)):=by rfl) (hs:cells.all AV.scalar=true:=by rfl) (hf:a7 fr=true:=by rfl):aC P n ops l ⟨fr,[],loc,objs,base⟩ Q:=by
  intro G a w K hr hfx hK
  have hS:=hr.st bF
  have hnd:ndO objs base:=hr.nd
  obtain ⟨N,hN⟩:=hS.mem.fin
  have hge:N≤10000*N+E:=Nat.le_trans (Nat.le_mul_of_pos_left N (by decide)) (Nat.le_add_right _ _)
  have g:=g (10000*N+E)
  generalize 10000*N+E=m at hge g
  have hmb:G.mb m=none:=hN m hge
  have hM:lay objs base m=none:=by
    cases hx:lay objs base m with
    |none=>rfl
    |some c=>obtain ⟨b,hb,_⟩:=hS.mem.obj m c hx;rw [hmb] at hb;cases hb
  let G':Gh:={G with mb:=fun i=>if i=m then some 0 else G.mb i}
  have hmbG:∀i b,G.mb i=some b→G'.mb i=some b:=fun i b h=>by
    show (if i=m then some 0 else G.mb i)=some b
    rw [if_neg (fun e=>by subst e;rw [hmb] at h;cases h)];exact h
  have st:Stab G w G' w:=⟨fun _=>Nat.le_refl _,fun _ _ _=>rfl,hmbG⟩
  have hT:=hS.reghost (G':=G') st rfl rfl rfl ⟨N+m+1,fun i hi=>by
    show (if i=m then some 0 else G.mb i)=none
    rw [if_neg (by omega)];exact hN i (by omega)⟩
  have kp:Keep G w G' w:=⟨rfl,rfl,rfl,Nat.le_refl _,fun b hb h=>⟨h,rfl,rfl⟩,st⟩
  have hne:m∉objs.map (·.1)∧base m=none:=by
    have hni:m∉objs.map (·.1):=fun hm=>pG hm hM
    exact ⟨hni,by rwa [gA hni] at hM⟩
  have hmap:(objs.set j (id,cells.set c (.gsl m 0 0 0))).map (·.1)=objs.map (·.1):=d3 hj
  have hnd1:ndO (objs.set j (id,cells.set c (.gsl m 0 0 0))) base:=jR hnd hmap
  have hnd2:ndO ((m,[])::objs.set j (id,cells.set c (.gsl m 0 0 0))) base:=⟨List.nodup_cons.2 ⟨by show m∉List.map _ _;rw [hmap];exact hne.1,hnd1.1⟩,fun i hi=>by
    rcases List.mem_cons.1 hi with e|e
    ·subst e;exact hne.2
    ·exact hnd1.2 i e⟩
  have mem:RelM P G' w (lay ((m,[])::objs.set j (id,cells.set c (.gsl m 0 0 0))) base):=by
    refine ⟨fun i cs h=>?_,hT.mem.far,hT.mem.fin⟩
    have h':bA (lay (objs.set j (id,cells.set c (.gsl m 0 0 0))) base) m [] i=some cs:=h
    by_cases e:i=m
    ·subst e
     rw [bP] at h'
     cases h'
     exact ⟨0,by show (if i=i then some 0 else _)=_;simp,.inr (.inr (.inl rfl))⟩
    ·rw [bT e,←jQ hnd.1 hj] at h'
     by_cases e2:i=id
     ·subst e2
      rw [bP] at h'
      cases h'
      obtain ⟨b,hb,hX⟩:=hT.mem.obj i cells (cS hnd.1 hj)
      obtain ⟨⟨arr,T,h1,h2,h3,h4,h5,h6⟩,h7⟩:=hX.cells hs (by intro e;rw [e] at hc;simp at hc)
      refine ⟨b,hb,.inl ⟨⟨arr,T,h1,by simpa using h2,h3,h4,fun x hcm=>?_,fun k x u hk hu=>?_⟩,h7⟩⟩
      ·rcases List.mem_or_eq_of_mem_set hcm with h|rfl
       ·exact h5 x h
       ·rfl
      ·rw [List.getElem?_set] at hk
       split at hk
       ·rename_i ejk
        subst ejk
        split at hk
        ·cases hk
         have h8:=h6 c _ u hc hu
         have e8:u= .slice none 0 0:=by
           have h9:RelV P G' w (.lit (.slice none 0 0)) u:=h8
           cases h9;rfl
         subst e8
         exact RelV.gsl0 m 0
        ·cases hk
       ·exact h6 k x u hk hu
     ·rw [bT e2] at h'
      exact hT.mem.obj i cs h'
  simp only [hdM,lob,Slk.nil,Nat.zero_mul,List.length_nil,Nat.add_zero,List.append_nil,flt,List.map_nil,List.flatMap_nil] at g
  exact g G' a w K (RelE.of ⟨hT.size,hT.defers,hT.slot,hT.loc,mem⟩ hf hnd2) (hfx.keep kp) fun e2 G2 a2 w2 hq hr2 hk2=>hK e2 G2 a2 w2 hq hr2 (kp.trans hk2)
def zE :AV→Bool
  | .lit _| .str _=>true
  |_=>false
def uB (v:AV):Bool:=v.cells.all zE
def GH :AV→Bool
  | .list true _ ys=>ys.all uB
  | .list false _ _=>false
  |x=>uB x
def grd :AV→Bool
  | .tuple cs=>cs.all GH
  |x=>GH x
theorem MQ {G G':Gh} {w w':World} {c:AV} {u:Value} (h:zE c=true) (hr:RelV P G w c u):RelV P G' w' c u:=by
  cases hr with
  |lit u=>exact .lit u
  |str l=>exact .str l
  |_=>cases h
theorem CO {G G':Gh} {w w':World} {c:AV} {u:Value} (h:uB c=true) (hr:RelV P G w c u):RelV P G' w' c u:=by
  cases hr with
  |agg cs vs hl hr=>exact .agg cs vs hl fun j c v h1 h2=>MQ (List.all_eq_true.1 h c (List.mem_of_getElem? h1)) (hr j c v h1 h2)
  |lit u=>exact .lit u
  |str l=>exact .str l
  |any=>exact absurd h (by simp [uB,AV.cells,zE])
  |fn=>exact absurd h (by simp [uB,AV.cells,zE])
  |tuple=>exact absurd h (by simp [uB,AV.cells,zE])
  |_=>exact absurd h (by simp [uB,AV.cells,zE])
theorem VC {ys:List AV} (h:ys.all uB=true) {j:Nat} {c:AV} (hc:(ys.flatMap AV.cells)[j]? =some c):zE c=true:=by
  have hm:=List.mem_of_getElem? hc
  obtain ⟨y,hy,hcy⟩:=List.mem_flatMap.1 hm
  exact List.all_eq_true.1 (List.all_eq_true.1 h y hy) c hcy
theorem MR {G G':Gh} {w:World} {p:Pos} {c:AV} {u:Value} (h:GH c=true) (ho:∀b,G.owner b=some p→G'.owner b=G.owner b∧G'.tip b=G.tip b) (hr:eM P G w p c u):eM P G' w p c u:=by
  cases c with
  |list b E ys=>
   cases b with
   |false=>cases h
   |true=>
    rcases hr with ⟨size,us,h1,h2,h3,h4,h5,h6⟩|h0
    ·exact .inl ⟨size,us,h1,h2,h3,h4,fun j c u hc hu=>MQ (VC h hc) (h5 j c u hc hu),fun b hb=>by
       obtain ⟨a1,a2,a3⟩:=h6 b hb
       obtain ⟨o1,o2⟩:=ho b a2
       exact ⟨a1,o1.trans a2,o2.trans a3⟩⟩
    ·exact .inr h0
  |_=>exact CO h hr
theorem VE {G G':Gh} {w:World} {c:AV} {u:Value} (h:grd c=true) (ho:∀b k,G.owner b=some (.res k)→G'.owner b=G.owner b∧G'.tip b=G.tip b) (hr:bE P G w .res c u):bE P G' w .res c u:=by
  cases c with
  |tuple cs=>
   obtain ⟨vs,h1,h2,h3⟩:=hr
   exact ⟨vs,h1,h2,fun j c u hc hu=>MR (List.all_eq_true.1 h c (List.mem_of_getElem? hc)) (fun b hb=>ho b j hb) (h3 j c u hc hu)⟩
  |lptr k o=>exact absurd h (by simp [grd,GH,uB,AV.cells,zE])
  |eptr x k=>exact absurd h (by simp [grd,GH,uB,AV.cells,zE])
  |pin x v=>exact absurd h (by simp [grd,GH,uB,AV.cells,zE])
  |list b E ys=>exact MR (c:= .list b E ys) (p:= .res 0) h (fun b hb=>ho b 0 hb) hr
  |lit u=>exact CO (c:= .lit u) h hr
  |str u=>exact CO (c:= .str u) h hr
  |agg cs=>exact CO (c:= .agg cs) h hr
  |_=>exact absurd h (by simp [grd,GH,uB,AV.cells,zE])
theorem P2 {α:Type} {f:α→AV} {xs:List α} {sz id:Nat} {pl sl:Slk sz} {F:FuncId} (pre post:List AV) (hf:dS f sz) (hE:aZ P E sz) (h0:sz≠0) (h:aI P F (pre++ .list false E (xs.map f)::post) v) (hg:grd v=true) (hl:v.isL=false) {M:Nat→Option (List AV)} (hb:M id=some (lob pl f xs sl)):bW P F (pre++hdM id pl xs sl::post) M fun r M'=>r=v∧M'=M:=by
  intro G w vs hm hfx hlen hargs
  let a0:Act:={tmps:=#[],defers:=[]}
  have hr:RelSt P G 0 ⟨[],[],M⟩ a0 w:=⟨rfl,rfl,fun i=>RelV.any _,fun k c hc=>(by cases hc),hm⟩
  obtain ⟨G',r1,r2,r3⟩:=hr.frzObj hf hE hb (M':=fun _=>none) (fun i c hc=>by cases hc) h0
  let G2:Gh:={G' with owner:=fun _=>none}
  have st2:Stab G' w G2 w:=⟨fun _=>Nat.le_refl _,fun _ _ _=>rfl,fun _ _ h=>h⟩
  have hfar:=r1.mem.far
  have hfx2:Fix G2 w:=by
    obtain ⟨F0,h1,h2⟩:=hfx.keep r2
    exact ⟨F0,fun b o e=>⟨(h1 b o e).1,(h1 b o e).2.1,rfl⟩,h2⟩
  have hvs:∀(j:Nat) (x:AV) (v:Value),(pre++AV.list false E (xs.map f)::post)[j]? =some x→vs[j]? =some v→RelV P G2 w x v:=by
    intro j x v hx hv
    have hold:∀y,(pre++hdM id pl xs sl::post)[j]? =some y→RelV P G2 w y v:=fun y hy=>((hargs j y v hy hv).stab r2.stab).stab st2
    rcases Nat.lt_trichotomy j pre.length with hj|hj|hj
    ·rw [List.getElem?_append_left hj] at hx
     exact hold x (by rw [List.getElem?_append_left hj];exact hx)
    ·subst hj
     rw [List.getElem?_append_right (Nat.le_refl _),Nat.sub_self] at hx
     simp only [List.getElem?_cons_zero,Option.some.injEq] at hx
     subst hx
     exact (r3 v ((hargs pre.length _ v (by rw [List.getElem?_append_right (Nat.le_refl _),Nat.sub_self];rfl) hv).stab r2.stab)).stab st2
    ·obtain ⟨k,rfl⟩:∃k,j=pre.length+(k+1):=⟨j-pre.length-1,by omega⟩
     rw [List.getElem?_append_right (by omega),Nat.add_sub_cancel_left,List.getElem?_cons_succ] at hx
     exact hold x (by rw [List.getElem?_append_right (by omega),Nat.add_sub_cancel_left,List.getElem?_cons_succ];exact hx)
  refine ((h.all (fun _=>none)) G2 w vs ⟨fun i c hc=>(by cases hc),fun b hb=>⟨(hfar b hb).1,rfl⟩,r1.mem.fin⟩ hfx2 (by simpa using hlen) hvs).mono ?_
  rintro e w' ⟨r,M1,G3,u,he,⟨rfl,_⟩,hl,hres,hm3,k⟩
  have hsame:∀b,b<w.heap.size→w'.heap[b]? =w.heap[b]? :=fun b hb=>(k.free b hb rfl).2.1
  let G4:Gh:={G with owner:=fun b=>if b<w.heap.size then G.owner b else G3.owner b,tip:=fun b=>if b<w.heap.size then G.tip b else G3.tip b}
  have htip:∀b,G.tip b≤G4.tip b:=fun b=>by
    show G.tip b≤if b<w.heap.size then G.tip b else G3.tip b
    split
    ·exact Nat.le_refl _
    ·rw [(hm.far b (by omega)).1];exact Nat.zero_le _
  have st:Stab G w G4 w':=⟨htip,fun b oo hoo=>by
    have hb:b<w.heap.size:=by
      rcases Nat.lt_or_ge b w.heap.size with h|h
      ·exact h
      ·rw [(hm.far b h).1] at hoo;omega
    exact World.cell?_of_block (w:=w) (a:=⟨b,oo,none⟩) (hsame b hb),fun _ _ h=>h⟩
  refine ⟨_,M,G4,u,he,⟨rfl,rfl⟩,hl,?_,⟨fun i c hc=>?_,fun b hb=>?_,hm.fin⟩,⟨k.os,k.tape,k.output,k.size,fun b hb ho=>⟨?_,hsame b hb,?_⟩,st⟩⟩
  ·refine VE hg (fun b j hb=>?_) hres
   have hnb:¬b<w.heap.size:=fun hlt=>by
     rw [(k.free b hlt rfl).1] at hb;cases hb
   exact ⟨by show (if b<w.heap.size then _ else _)=_;rw [if_neg hnb],by show (if b<w.heap.size then _ else _)=_;rw [if_neg hnb]⟩
  ·obtain ⟨b,hb,hX⟩:=hm.obj i c hc
   exact ⟨b,hb,hX.move st k.size (fun h1 _=>⟨hsame b h1,by show (if b<w.heap.size then _ else _)=_;rw [if_pos h1],by show (if b<w.heap.size then _ else _)=_;rw [if_pos h1]⟩) (fun c b h1 h2=>⟨by show (if b<w.heap.size then _ else _)=_;rw [if_pos h1];exact h2,hsame b h1,by show (if b<w.heap.size then _ else _)=_;rw [if_pos h1]⟩)⟩
  ·have h1:¬b<w.heap.size:=by have:=k.size;omega
   have h2:=hm3.far b hb
   exact ⟨by show (if b<w.heap.size then _ else _)=_;rw [if_neg h1];exact h2.1,by show (if b<w.heap.size then _ else _)=_;rw [if_neg h1];exact h2.2⟩
  ·show (if b<w.heap.size then _ else _)=_;rw [if_pos hb];exact ho
  ·show (if b<w.heap.size then _ else _)=_;rw [if_pos hb]
theorem VD {α:Type} {f:α→AV} {xs:List α} (h:∀x,uB (f x)=true):grd (.list true E (xs.map f))=true:=by
  show (xs.map f).all uB=true
  rw [List.all_map,List.all_eq_true]
  exact fun x _=>h x
theorem QG [I:HasTab P] {α:Type} {f:α→AV} {xs:List α} {sz id:Nat} {kk:TK} {pl sl:Slk sz} {fr:Fr} {loc:List (Nat×List AV)} {objs:Ob} {base:Nat→Option (List AV)} {F:FuncId} {c:Call} {post:List AV} (j:Nat) (pre:List AV) (hf:dS f sz) (he:i8 P F) (h:aI P F (pre++ .list false E (xs.map f)::post) v) (ha:nX (HasTab.T P) (evE fr []) c.args.toList c.argTypes.toList=some (pre++hdM id pl xs sl::post))
    (hj:objs[j]? =some (id,lob pl f xs sl)) (g:aC P n ops rest ⟨(d,[],v)::fr,[],loc,objs,base⟩ Q) (h2:(HasTab.T P).look E=some (kk,sz):=by rfl) (hg:grd v=true:=by first|rfl|exact VD fun _=>rfl) (hl:v.isL=false:=by rfl) (h0:sz≠0:=by decide)
    (hC:bH ops fr o=some []:=by rfl) (hsub:wA [] fr=true:=by rfl) (hd:o.dst=some d:=by rfl) (hn:Nat.blt d n=true:=by rfl) (ho:o.op= .call c:=by rfl) (hc:c.callee= .value (.func F):=by rfl):aC P n ops (o::rest) ⟨fr,[],loc,objs,base⟩ Q:=by
  rw [dI ⟨fr,[],loc,objs,base⟩] at ha
  obtain ⟨h1,h3⟩:=pM ha
  have hE:=(Tab.ok I.tok h2).2
  refine aC.nd fun hnd=>FQ (e:=⟨fr,[],loc,objs,base⟩) (v:=v) hC hd (Nat.le_of_ble_eq_true hn) rfl hsub rfl (fun htr Q' hk=>aM.call (R:=fun r M'=>r=v∧M'=lay objs base) (o:={o with guard:=none}) trivial hd (Nat.le_of_ble_eq_true hn) ho hc he (sQ h3) (by simpa using h1.len) (fun j x v hj hv=>h1.at j x v (by simpa using hj) hv) (P2 pre post hf hE h0 h hg hl (cS hnd.1 hj)) ?_) rfl g
  rintro r M ⟨rfl,rfl⟩
  exact hk
theorem RU {fr:Fr} {gs:List Nat} {loc:List (Nat×List AV)} {objs:Ob} {base:Nat→Option (List AV)} (objs':Ob) (h:objs=objs') (g:aC P n ops l ⟨fr,gs,loc,objs',base⟩ Q):aC P n ops l ⟨fr,gs,loc,objs,base⟩ Q:=h▸g
end
end
section
open Go.RowKit
section
variable {P:Program} {n:Nat} {s:St} {ops:Array Oper} {o:Oper} {l rest:List Oper} {Q:St→Prop} {d r f:Nat} {t t' E T:TypeId} {x y:Operand} {k:IntKind} {i j:Int}
theorem PX {c:Call} {ars cap args:List AV} {R:AV→(Nat→Option (List AV))→Prop} (hg:bY ops s o) (hd:o.dst=some d) (hn:d<n) (ho:o.op= .call c) (hc:c.callee= .value (.tmp r)) (hfn:s.get r= .fnm f cap)
    (henter:∀(vs:Array Value) (w:World),(callFunc f vs).run P w= .ok (.enter f vs) w) (hcon:∀x∈c.args,∀v cs,x= .const v→v= .agg cs→∀c∈cs,c.oneCell'=true)
    (hlen:c.args.size=ars.length) (hargs:∀(j:Nat) x v,c.args[j]? =some x→ars[j]? =some v→jF s x v) (hall:cap++ars=args) (h:bW P f args s.mem R)
    (k:∀r M,R r M→aM P n ops rest {(s.put d r) with mem:=M} Q):aM P n ops (o::rest) s Q:=by
  intro G a w K hr hfx hK
  simp only [wpList]
  rw [if_pos (eR hr (fun t=>by omega) hg)]
  left
  unfold Oper.wp
  subst hall
  have hfv:∃vs:List Value,a.tmps.getD r undef= .func (.func f) vs.toArray #[]∧vs.length=cap.length∧∀(j:Nat) (c:AV) (v:Value),cap[j]? =some c→vs[j]? =some v→RelV P G w c v:=by
    have h0:=hr.slot r
    rw [hfn] at h0
    have h1:RelV P G w (.fnm f cap) (a.tmps.getD r undef):=h0
    generalize a.tmps.getD r undef=u at h1
    cases h1 with
    |fnm _ _ vs h2 h3=>exact ⟨vs,rfl,h2,h3⟩
  obtain ⟨vs,hv1,hv2,hv3⟩:=hfv
  have hev:a.eval (.tmp r)= .func (.func f) vs.toArray #[]:=hv1
  have hrun:(execOp a.eval o).run P w= .ok (.enter f (vs.toArray++c.args.map a.eval)) w:=by
    simp [execOp,ho,resolve,hc,hev,Deferred.ofValue,invoke,henter]
  rw [hrun,Oper.upon_enter]
  have hcall:=h G.out w (vs.toArray++c.args.map a.eval).toList hr.mem.out (hfx.keep (GZ (G:=G) (w:=w))) (by simp [hlen,hv2]) (fun j x v hx hv=>by
    rw [Array.toList_append] at hv
    rcases Nat.lt_or_ge j cap.length with hj|hj
    ·rw [List.getElem?_append_left hj] at hx
     rw [List.getElem?_append_left (by simp;omega)] at hv
     exact (hv3 _ x v hx (by simpa using hv)).stab lF
    ·rw [List.getElem?_append_right hj] at hx
     rw [List.getElem?_append_right (by simp;omega),Array.toList_map,List.getElem?_map] at hv
     have e:vs.toArray.toList.length=cap.length:=by simp [hv2]
     rw [e] at hv
     cases hy:c.args.toList[j-cap.length]? with
     |none=>simp [hy] at hv
     |some y=>
      simp only [hy,Option.map_some,Option.some.injEq] at hv
      subst hv
      have hy':c.args[j-cap.length]? =some y:=by simpa using hy
      have:=(hargs _ y x hy' hx).rel hr (hcon y (by have:=List.mem_of_getElem? hy;simpa using this))
      exact this.stab lF)
  simp only [Array.toArray_toList] at hcall
  refine hcall.mono ?_
  rintro e w' ⟨r,M',G',u,rfl,hR,hnl,hu,hm,hk⟩
  have hf:∀b,w'.heap.size≤b→(G.back G' w.heap.size d).tip b=0∧(G.back G' w.heap.size d).owner b=none:=fun b hb=>⟨(hm.far b hb).1,sR (fun h=>by have:=hk.size;omega) (hm.far b hb).2⟩
  have st0:Stab G' w' (G.back G' w.heap.size d) w':=⟨fun _=>Nat.le_refl _,fun _ _ _=>rfl,fun _ _ h=>h⟩
  have st:Stab G w (G.back G' w.heap.size d) w':=(lF (G:=G) (w:=w)).trans (hk.stab.trans st0)
  have hu':bE P (G.back G' w.heap.size d) w' (.slot d) r u:=by
    exact hu.move st0 (Nat.le_refl _) (fun k off e=>by subst e;cases hnl) (fun c b hb h2=>⟨FU (lZ hk h2) h2,rfl,rfl⟩)
  have hkb:Keep G w (G.back G' w.heap.size d) w':=by
    refine ⟨hk.os,hk.tape,hk.output,hk.size,fun b hb ho=>?_,st⟩
    obtain ⟨h1,h2,h3⟩:=hk.free b hb (sL (fun q e=>by rw [ho] at e;cases e))
    exact ⟨sR (fun _=>ho) h1,h2,h3⟩
  refine k r M' hR (G.back G' w.heap.size d) (a.put o.dst u) w' K ?_ (hfx.keep hkb) (fun s' G2 a2 w2 hq hr2 hk2=>hK s' G2 a2 w2 hq hr2 (Keep.trans hkb hk2))
  ·rw [hd]
   refine ⟨by simp [Act.put,hr.size],by simpa [Act.put] using hr.defers,fun i=>?_,fun k cells hkk=>?_,?_⟩
   ·rw [eH _ _ _ _ (by rw [hr.size];exact hn)]
    show bE P _ w' (.slot i) (look .any ((d,r)::s.fr) i) _
    simp only [look]
    by_cases e:i=d
    ·subst e;simp only [if_true];exact hu'
    ·rw [if_neg (Ne.symm e),if_neg e]
     exact (hr.slot i).move st hk.size (fun _ _ _=>rfl) (fun c b h1 h2=>kH hk h1 h2 rfl)
   ·have h0:=hr.loc k cells hkk
    have h1:=kH (d:=d) hk h0.lt h0.own rfl
    exact h0.move st hk.size h1.2.1 (h1.1.trans h0.own.symm) h1.2.2 (fun c b h1 h2=>kH hk h1 h2 rfl)
   ·exact hm.move st0 (Nat.le_refl _) (fun q b hq hb h2=>⟨FT (lZ hk h2) h2 hq,rfl,rfl⟩) hf rfl
end
section
variable {P:Program} {n:Nat} {e e':Es} {ops:Array Oper} {l rest:List Oper} {o:Oper} {Q:Es→Prop} {QE:Exit→Es→Prop} {d:Nat} {v:AV} {C:Cnd} {t t' E:Nat} {x y:Operand}
theorem XQ {f:FuncId} {caps:Array Operand} {cs:List AV} (ho:o.op= .makeFunc (.func f) caps #[]:=by rfl) (hc:C3 (evE e.fr C) caps.toList=some cs:=by rfl):aH P n (e.st C) o d (.fnm f cs):=by
  rw [dI] at hc
  intro G a w h
  have key:∀(l:List Operand) (cs:List AV),C3 (e.st C).eval l=some cs→(l.map a.eval).length=cs.length∧∀(j:Nat) (c:AV) (v:Value),cs[j]? =some c→(l.map a.eval)[j]? =some v→RelV P G w c v:=by
    intro l
    induction l with
    |nil=>intro cs h;cases h;exact ⟨rfl,fun j c v h _=>by simp at h⟩
    |cons x r ih=>
     intro cs h'
     unfold C3 at h'
     rw [cP] at h'
     cases hb:(((e.st C).eval x).un.flat&&Operand.ok x) with
     |false=>rw [hb] at h';cases h'
     |true=>
      rw [hb] at h'
      simp only [Bool.and_eq_true] at hb
      simp only [cond_true] at h'
      split at h'
      ·rename_i q hq
       cases h'
       obtain ⟨h1,h2⟩:=ih q hq
       refine ⟨by simp at h1 ⊢;exact h1,fun j c v hc hv=>?_⟩
       cases j with
       |zero=>
        simp at hc hv
        subst hc;subst hv
        obtain ⟨p,hp⟩:=h.ev x (i7 hb.2)
        exact hp.toV hb.1
       |succ j=>exact h2 j c v (by simpa using hc) (by simpa using hv)
      ·cases h'
  obtain ⟨h1,h2⟩:=key caps.toList cs hc
  refine ⟨.func (.func f) (caps.map a.eval) #[],?_,fun w' _=>?_⟩
  ·have:=RelV.fnm (P:=P) (G:=G) (w:=w) f cs (caps.toList.map a.eval) h1 h2
   simp only [←Array.toList_map,Array.toArray_toList] at this
   exact this
  ·simp [execOp,ho,Instr.makeFunc]
theorem V0 [I:HasTab P] {fr:Fr} {loc:List (Nat×List AV)} {objs:Ob} {base:Nat→Option (List AV)} {f:FuncId} {c:Call} {r:Nat} {ars cap args:List AV} {R:AV→Ob→Prop} (he:i8 P f) (h:aO P f args objs R) (g:∀v outs,R v outs→aC P n ops rest ⟨(d,[],v)::fr,[],loc,outs,base⟩ Q)
    (hC:bH ops fr o=some []:=by rfl) (hd:o.dst=some d:=by rfl) (hn:Nat.blt d n=true:=by rfl) (ho:o.op= .call c:=by rfl) (hc:c.callee= .value (.tmp r):=by rfl) (hfn:bX fr [] r= .fnm f cap:=by rfl) (ha:nX (HasTab.T P) (evE fr []) c.args.toList c.argTypes.toList=some ars:=by rfl) (hall:cap++ars=args:=by rfl):aC P n ops (o::rest) ⟨fr,[],loc,objs,base⟩ Q:=by
  subst hall
  intro G a w K hr hfx hK
  have hfl:∀i,(aY fr i).1=[]:=by
    intro i
    cases hx:(aY fr i).1 with
    |nil=>rfl
    |cons p r=>
     have:=hr.gs i p (by show p∈(aY fr i).1;rw [hx];exact List.mem_cons_self ..)
     cases this
  rw [show evE fr []=((⟨fr,[],loc,objs,base⟩:Es).st []).eval from dI ⟨fr,[],loc,objs,base⟩ []] at ha
  obtain ⟨h1,h2⟩:=pM ha
  have key:=PX (P:=P) (n:=n) (ops:=ops) (o:=o) (rest:=rest) (s:=(⟨fr,[],loc,objs,base⟩:Es).st []) (Q:=fun s''=>∃e'',e''.st []=s''∧e''.nd∧Q e'') (cB (e:=⟨fr,[],loc,objs,base⟩) _ hC) hd (Nat.le_of_ble_eq_true hn) ho hc ((cD _ [] r).trans hfn) he (sQ h2) (by simpa using h1.len) (fun j x v hj hv=>h1.at j x v (by simpa using hj) hv) rfl
    (R:=fun r M'=>∃outs,R r outs∧M'=lay outs base∧ndO outs base) (h base hr.nd) ?_
  ·refine key G a w K (hr.st bF) hfx ?_
   rintro s'' G' a' w' ⟨e'',rfl,hn2,hq⟩ hr' hk
   exact hK e'' G' a' w' hq ⟨hr',hn2⟩ hk
  ·rintro r M' ⟨outs,hR,rfl,hno⟩ G1 a1 w1 K1 hr1 hfx1 hK1
   refine g r outs hR G1 a1 w1 K1 ⟨hr1.size,hr1.defers,fun i _=>?_,fun i hne=>?_,fun i p hp=>?_,hr1.loc,hr1.mem,hno⟩ hfx1 (fun e2 G2 a2 w2 hq hr2 hk2=>hK1 _ G2 a2 w2 ⟨e2,rfl,hr2.2,hq⟩ hr2.1 hk2)
   ·have h3:=hr1.slot i
    have e1:St.get {((⟨fr,[],loc,objs,base⟩:Es).st []).put d r with mem:=lay outs base} i=dA [] (aY ((d,[],r)::fr) i):=oB [] ((d,[],r)::fr) i
    rw [e1] at h3
    unfold dA at h3
    rw [show (aY ((d,[],r)::fr) i).1=[] from d4 hfl [(d,r)] i] at h3
    exact h3
   ·rw [show (aY ((d,[],r)::fr) i).1=[] from d4 hfl [(d,r)] i] at hne
    exact absurd bF hne
   ·rw [show (aY ((d,[],r)::fr) i).1=[] from d4 hfl [(d,r)] i] at hp;cases hp
theorem aO.frame {f:FuncId} {args:List AV} {A:Ob} {R:AV→Ob→Prop} (h:aO P f args A R) (B:Ob):aO P f args (A++B) (fun v outs=>∃o,R v o∧outs=o++B):=by
  intro base hnd
  obtain ⟨hA,hB⟩:=PN hnd
  rw [yC]
  refine (h (lay B base) hA).mono ?_
  rintro r M' ⟨outs,hR,rfl,hn⟩
  exact ⟨outs++B,⟨outs,hR,rfl⟩,(yC base outs B).symm,NE hn hB⟩
end
end
section
open Go.RowKit
section
variable {P:Program} {n:Nat} {s:St} {e e':Es} {ops:Array Oper} {l rest:List Oper} {o:Oper} {Q:Es→Prop} {d:Nat} {v:AV} {C:Cnd} {t t' tx E:Nat} {x y:Operand} {k:IntKind} {i:Int}
theorem rP {id of m' c a0 b m sz:Nat} {lo hi mx:Option Operand} (ho:o.op= .slice t x lo hi mx) (hu:P.underlying t=some (.slice E)) (hs:aZ P E sz) (hx:s.eval x= .gsl id of m' c) (h1:bnd s lo 0 a0) (h2:bnd s hi m' b) (h3:bnd s mx c m) (hmx:mx=none∨hi≠none) (hab:a0≤b) (hbm:b≤m) (hmc:m≤c):aH P n s o d (.gsl id (of+a0*sz) (b-a0) (m-a0)):=by
  intro G a w h
  have key:∀(b:Option Operand) (df v:Nat),bnd s b df v→(b=none∧v=df)∨∃x k,b=some x∧a.eval x= .int k v:=by
    intro b df v hb
    cases b with
    |none=>exact .inl ⟨rfl,hb⟩
    |some x=>obtain ⟨k,i,e1,e2⟩:=hb;subst e2;exact .inr ⟨x,k,rfl,h.evLit e1⟩
  have hv:=h.evM' hx
  obtain ⟨A,hav,hA⟩:∃A,a.eval x= .slice A m' c∧∀w',RelV P G w' (.gsl id (of+a0*sz) (b-a0) (m-a0)) (.slice (if m=a0 then A else A.map (·.add (a0*sz))) (b-a0) (m-a0)):=by
    rcases hv.gslCases with ⟨b0,hb0,e,hlc,hcm⟩|⟨rfl,rfl,A,e⟩
    ·refine ⟨_,e,fun w'=>?_⟩
     by_cases hma:m=a0
     ·subst hma
      have hb':b-m=0:=by omega
      rw [if_pos rfl,hb',Nat.sub_self]
      exact B9 _ _ _
     ·rw [if_neg hma]
      have e2:(some (⟨b0,of,none⟩:Addr)).map (·.add (a0*sz))=some ⟨b0,of+a0*sz,none⟩:=by
        simp only [Option.map_some,Addr.add]
        split
        ·rename_i h0;rw [h0];rfl
        ·rfl
      rw [e2]
      exact RelV.gsl id _ _ _ b0 hb0 (by omega) (by omega)
    ·refine ⟨A,e,fun w'=>?_⟩
     have e0:m=0∧b=0∧a0=0:=by omega
     obtain ⟨rfl,rfl,rfl⟩:=e0
     rw [if_pos rfl]
     exact B9 _ _ _
  have hab':(a0:Int)≤(b:Int):=by omega
  have hbm':(b:Int)≤(m:Int):=by omega
  have hmc':(m:Int)≤(c:Int):=by omega
  refine ⟨_,hA w,fun w' _=>?_⟩
  have k1:=key lo 0 a0 h1
  have k2:=key hi m' b h2
  have k3:=key mx c m h3
  clear hA hv hx h key h1 h2 h3
  rcases k1 with ⟨rfl,rfl⟩|⟨xl,kl,rfl,hl⟩<;>rcases k2 with ⟨rfl,rfl⟩|⟨xh,kh,rfl,hh⟩<;>rcases k3 with ⟨rfl,rfl⟩|⟨xm,km,rfl,hm⟩<;>first
    |(exfalso;revert hmx;simp;done)
    |(simp [execOp,Instr.sliceAt,Instr.slice,run_underlying hu,Instr.sliceBounds,Instr.sliceBound,asIntOf,cC hs, *];done)
def HB {α:Type} {f:α→AV} {sz:Nat} (hf:dS f sz) (pl:Slk sz) (ys:List α):Slk sz:=⟨pl.l++flt f ys,pl.n+ys.length,by rw [List.length_append,pl.len,pW hf,Nat.add_mul],by rw [List.all_append,pl.sc,(jN hf ys).1];rfl⟩
def C0 {α:Type} {f:α→AV} {sz:Nat} (hf:dS f sz) (ys:List α) (sl:Slk sz):Slk sz:=⟨flt f ys++sl.l,ys.length+sl.n,by rw [List.length_append,sl.len,pW hf,Nat.add_mul],by rw [List.all_append,sl.sc,(jN hf ys).1];rfl⟩
theorem TR {α:Type} {f:α→AV} {sz:Nat} (hf:dS f sz) (pl sl:Slk sz) (A B:List α):lob (HB hf pl A) f B sl=lob pl f (A++B) sl:=by simp [lob,HB,ET,List.append_assoc]
theorem TS {α:Type} {f:α→AV} {sz:Nat} (hf:dS f sz) (pl sl:Slk sz) (A B:List α):lob pl f A (C0 hf B sl)=lob pl f (A++B) sl:=by simp [lob,C0,ET,List.append_assoc]
def xV {α:Type} (l:List α) (i:Int):Option Unit:=if 0≤i∧i≤(l.length:Int) then some () else none
theorem NI {α:Type} {l:List α} {i:Int} {u:Unit} (h:xV l i=some u):∃a:Nat,i=a∧a≤l.length:=by
  unfold xV at h
  split at h
  ·rename_i hb;exact ⟨i.toNat,by omega,by omega⟩
  ·cases h
def D4 {α:Type} (l:List α) (i j:Int):Option (List α):=if 0≤i∧i≤j∧j≤(l.length:Int) then some (l.take i.toNat++l.drop j.toNat) else none
theorem XU [I:HasTab P] {α:Type} {f:α→AV} {xs:List α} {id z sz:Nat} {kk:TK} {pl sl:Slk sz} {hi:Operand} {i:Int} {u:Unit} (hf:dS f sz) (he:xV xs i=some u) (ho:o.op= .slice t x none (some hi) none:=by rfl) (h1:(HasTab.T P).look t=some (.slice E,z):=by rfl) (h2:(HasTab.T P).look E=some (kk,sz):=by rfl) (hx:evE e.fr C x=hdM id pl xs sl:=by rfl) (hh:wZ (evE e.fr C) (some hi) i:=by exact ⟨_,rfl⟩):aH P n (e.st C) o d (hdM id pl (xs.take i.toNat) (C0 hf (xs.drop i.toNat) sl)):=by
  obtain ⟨⟨D,hD,hk⟩,_⟩:=Tab.ok I.tok h1
  have:=bU hk;subst this
  obtain ⟨a,rfl,ha⟩:=NI he
  have:=rP (d:=d) (n:=n) ho hD (Tab.ok I.tok h2).2 (bK hx) (a0:=0) (b:=a) (m:=xs.length+sl.n) rfl (oY hh (fun h=>by cases h) rfl) rfl (.inl rfl) (Nat.zero_le _) (by omega) (Nat.le_refl _)
  have e1:hdM id pl (xs.take (a:Int).toNat) (C0 hf (xs.drop (a:Int).toNat) sl)= .gsl id (pl.n*sz+0*sz) (a-0) (xs.length+sl.n-0):=by
    simp only [hdM,C0,Int.toNat_natCast,List.length_take,List.length_drop]
    rw [Nat.min_eq_left ha,show a+(xs.length-a+sl.n)=xs.length+sl.n by omega]
    simp
  rw [e1];exact this
theorem Q4 [I:HasTab P] {α:Type} {f:α→AV} {xs:List α} {id z sz:Nat} {kk:TK} {pl sl:Slk sz} {lo:Operand} {i:Int} {u:Unit} (hf:dS f sz) (he:xV xs i=some u) (ho:o.op= .slice t x (some lo) none none:=by rfl) (h1:(HasTab.T P).look t=some (.slice E,z):=by rfl) (h2:(HasTab.T P).look E=some (kk,sz):=by rfl) (hx:evE e.fr C x=hdM id pl xs sl:=by rfl) (hh:wZ (evE e.fr C) (some lo) i:=by exact ⟨_,rfl⟩):aH P n (e.st C) o d (hdM id (HB hf pl (xs.take i.toNat)) (xs.drop i.toNat) sl):=by
  obtain ⟨⟨D,hD,hk⟩,_⟩:=Tab.ok I.tok h1
  have:=bU hk;subst this
  obtain ⟨a,rfl,ha⟩:=NI he
  have:=rP (d:=d) (n:=n) ho hD (Tab.ok I.tok h2).2 (bK hx) (a0:=a) (b:=xs.length) (m:=xs.length+sl.n) (oY hh (fun h=>by cases h) rfl) rfl rfl (.inl rfl) ha (by omega) (Nat.le_refl _)
  have e1:hdM id (HB hf pl (xs.take (a:Int).toNat)) (xs.drop (a:Int).toNat) sl= .gsl id (pl.n*sz+a*sz) (xs.length-a) (xs.length+sl.n-a):=by
    simp only [hdM,HB,Int.toNat_natCast,List.length_take,List.length_drop]
    rw [Nat.min_eq_left ha,Nat.add_mul,show xs.length-a+sl.n=xs.length+sl.n-a by omega]
  rw [e1];exact this
theorem XS [I:HasTab P] {α:Type} {xs:List α} {id z sz:Nat} {kk:TK} {pl sl:Slk sz} {lo hi mx:Operand} {i j:Int} {r:List α} (he:D4 xs i j=some r) (ho:o.op= .slice t x (some lo) (some hi) (some mx):=by rfl) (h1:(HasTab.T P).look t=some (.slice E,z):=by rfl) (h2:(HasTab.T P).look E=some (kk,sz):=by rfl) (hx:evE e.fr C x=hdM id pl xs sl:=by rfl) (hl:wZ (evE e.fr C) (some lo) i:=by exact ⟨_,rfl⟩) (hh:wZ (evE e.fr C) (some hi) j:=by exact ⟨_,rfl⟩) (hm:wZ (evE e.fr C) (some mx) (xs.length:Int):=by exact ⟨_,rfl⟩):
    aH P n (e.st C) o d (.gsl id (pl.n*sz+i.toNat*sz) (j.toNat-i.toNat) (xs.length-i.toNat)):=by
  obtain ⟨⟨D,hD,hk⟩,_⟩:=Tab.ok I.tok h1
  have:=bU hk;subst this
  unfold D4 at he
  split at he
  ·rename_i hb
   exact rP ho hD (Tab.ok I.tok h2).2 (bK hx) (a0:=i.toNat) (b:=j.toNat) (m:=xs.length) (oY hl (fun h=>by cases h) (by omega)) (oY hh (fun h=>by cases h) (by omega)) (oY hm (fun h=>by cases h) rfl) (.inr (by simp)) (by omega) (by omega) (by omega)
  ·cases he
theorem XT [I:HasTab P] {α:Type} {xs:List α} {id z sz:Nat} {kk:TK} {pl sl:Slk sz} {lo hi:Operand} {j:Int} (hj:(xs.length:Int)≤j∧j≤((xs.length+sl.n:Nat):Int)) (ho:o.op= .slice t x (some lo) (some hi) none:=by rfl) (h1:(HasTab.T P).look t=some (.slice E,z):=by rfl) (h2:(HasTab.T P).look E=some (kk,sz):=by rfl) (hx:evE e.fr C x=hdM id pl xs sl:=by rfl) (hl:wZ (evE e.fr C) (some lo) (xs.length:Int):=by exact ⟨_,rfl⟩) (hh:wZ (evE e.fr C) (some hi) j:=by exact ⟨_,rfl⟩):
    aH P n (e.st C) o d (.gsl id (pl.n*sz+xs.length*sz) (j.toNat-xs.length) (xs.length+sl.n-xs.length)):=by
  obtain ⟨⟨D,hD,hk⟩,_⟩:=Tab.ok I.tok h1
  have:=bU hk;subst this
  exact rP ho hD (Tab.ok I.tok h2).2 (bK hx) (a0:=xs.length) (b:=j.toNat) (m:=xs.length+sl.n) (oY hl (fun h=>by cases h) rfl) (oY hh (fun h=>by cases h) (by omega)) rfl (.inl rfl) (by omega) (by omega) (Nat.le_refl _)
theorem UY [I:HasTab P] {fr:Fr} {loc:List (Nat×List AV)} {objs:Ob} {base:Nat→Option (List AV)} {α:Type} {f:α→AV} {sz:Nat} {xs r:List α} {id t tx z1 z2:Nat} {pl sl:Slk sz} {kk:TK} {c:Call} {i1 j1:Int} (j:Nat) (hf:dS f sz) (he:D4 xs i1 j1=some r) (hbig:(bM xs ([]:List α)).isSome=true)
    (g:∀sl':Slk sz,sl'.n+r.length=sl.n+xs.length→aC P n ops rest ⟨(d,[],hdM id pl r sl')::fr,[],loc,objs.set j (id,lob pl f r sl'),base⟩ Q)
    (hj:objs[j]? =some (id,lob pl f xs sl):=by rfl) (hC:bH ops fr o=some []:=by rfl) (hd:o.dst=some d:=by rfl) (hn:Nat.blt d n=true:=by rfl) (ho:o.op= .call c:=by rfl) (hc:c.callee= .builtin .append:=by rfl) (ha:c.args=#[x,y]:=by rfl) (hat:c.argTypes=#[t,tx]:=by rfl)
    (h1:(HasTab.T P).look t=some (.slice E,z1):=by rfl) (h2:(HasTab.T P).look tx=some (.slice E,z2):=by rfl) (h3:(HasTab.T P).look E=some (kk,sz):=by rfl) (hB:cT E (HasTab.B P)=true:=by rfl) (hz1:JN P E=true:=by kernel_rfl) (hE:Nat.blt E 10000=true:=by rfl) (h0:sz≠0:=by decide)
    (hx:evE fr [] x=hdM id pl (xs.take i1.toNat) (C0 hf (xs.drop i1.toNat) sl):=by rfl) (hy:evE fr [] y=hdM id (HB hf pl (xs.take j1.toNat)) (xs.drop j1.toNat) sl:=by rfl):aC P n ops (o::rest) ⟨fr,[],loc,objs,base⟩ Q:=by
  obtain ⟨⟨D,hD,hk⟩,_⟩:=Tab.ok I.tok h1
  have:=bU hk;subst this
  obtain ⟨⟨D2,hD2,hk2⟩,_⟩:=Tab.ok I.tok h2
  have:=bU hk2;subst this
  have hs:=(Tab.ok I.tok h3).2
  obtain ⟨ti,z,hi,hz,hzs,hb⟩:=uT.at I.bok hB
  have hsz:ti.size=sz:=by unfold aZ at hs;rw [hi] at hs;simpa using hs
  have hone:z.cells.toList.all (fun c=>c.oneCell')=true:=by
    unfold JN at hz1
    rw [hi] at hz1
    simp only [hz] at hz1
    exact hz1
  obtain ⟨r0,hr0⟩:=Option.isSome_iff_exists.1 hbig
  obtain ⟨hl,_⟩:=xY hr0
  rw [List.length_nil,Nat.add_zero] at hl
  unfold D4 at he
  split at he
  ·rename_i hbd
   cases he
   obtain ⟨b1,b2,b3⟩:=hbd
   have hti:(xs.take i1.toNat).length=i1.toNat:=by rw [List.length_take];omega
   have htj:(xs.drop j1.toNat).length=xs.length-j1.toNat:=List.length_drop ..
   have hsum:(xs.take i1.toNat).length+(xs.drop j1.toNat).length≤xs.length:=by rw [hti,htj];omega
   refine aC.nd fun hnd=>JZ (d:=d) (ι:={p:Slk sz×Slk sz//p.1=pl∧p.2.n+(xs.take i1.toNat++xs.drop j1.toNat).length=sl.n+xs.length}) (V:=fun id' p=>hdM id' p.1.1 (xs.take i1.toNat++xs.drop j1.toNat) p.1.2) (cells:=fun p=>lob p.1.1 f (xs.take i1.toNat++xs.drop j1.toNat) p.1.2) (ok:=fun id' _=>id'=id) hj (fun Q' hk=>?_) (fun id' p hid=>?_)
   ·exact JV hf h0 (cB (e:=⟨fr,[],loc,objs,base⟩) _ hC) hd (Nat.le_of_ble_eq_true hn) ho hc ha hat hD hi hz hsz rfl (by rw [hzs,hsz]) hone (Nat.le_of_ble_eq_true hE) (bK (e:=⟨fr,[],loc,objs,base⟩) hx) ((cS hnd.1 hj).trans (by rw [TS,List.take_append_drop]))
      (XW hf hD2 ((cS hnd.1 hj).trans (by rw [TR,List.take_append_drop])) (bK (e:=⟨fr,[],loc,objs,base⟩) hy)) (Nat.le_trans (Nat.le_trans hsum hl) (by decide)) (Nat.le_trans (Nat.mul_le_mul (Nat.le_trans hsum hl) hb) (by decide))
      (fun id' pl' sl' hor=>by
        rcases hor with ⟨e1,e2,e3,_⟩|⟨_,hlt⟩
        ·refine hk id' ⟨(pl',sl'),e2,?_⟩ (.inl e1) e1
         rw [List.length_append,hti,htj]
         simp only [C0] at e3
         rw [List.length_drop,List.length_drop] at e3
         show sl'.n+_=_
         omega
        ·exfalso
         simp only [C0] at hlt
         rw [List.length_drop,List.length_drop] at hlt
         omega)
   ·subst hid
    obtain ⟨⟨p1,p2⟩,rfl,h5⟩:=p
    exact g p2 h5
  ·cases he
theorem FZ {α:Type _} (l:List α):∀k:Nat,((List.replicate k l).flatten).length=k*l.length
  |0=>by simp
  |k+1=>by rw [List.replicate_succ,List.flatten_cons,List.length_append,FZ l k,Nat.add_mul];omega
theorem N3 {c:Call} {id of k cap sz:Nat} {cells:List AV} {ti:TypeInfo} {z:Value} {Q:St→Prop} {M':Nat→Option (List AV)} (hg:bY ops s o) (hd:o.dst=none) (ho:o.op= .call c) (hc:c.callee= .builtin .clear) (ha:c.args=#[x]) (hat:c.argTypes=#[t]) (ht:P.underlying t=some (.slice E)) (hi:P.info? E=some ti) (hz:ti.zero=some z) (hzs:z.cells.size=sz) (hone:z.cells.toList.all (fun c=>c.oneCell')=true)
    (hx:s.eval x= .gsl id of k cap) (hm:s.mem id=some cells) (hall:cells.all AV.scalar=true) (hfit:of+k*sz≤cells.length) (hM:bA s.mem id (c8 cells of ((List.replicate k z.cells.toList).flatten.map AV.lit))=M') (kk:aM P n ops rest {s with mem:=M'} Q):aM P n ops (o::rest) s Q:=by
  subst hM
  intro G a w K hr hfx hK
  have hv:=hr.evM' hx
  have hlen:((List.replicate k z.cells.toList).flatten).length=k*sz:=by
    have:=FZ (z.cells.toList) k
    rw [this,Array.length_toList,hzs]
  have hstep:∃w' G',(execOp a.eval o).run P w= .ok (.value (.tuple #[])) w'∧RelSt P G' n {s with mem:=bA s.mem id (c8 cells of ((List.replicate k z.cells.toList).flatten.map AV.lit))} a w'∧Keep G w G' w':=by
    have hzv:(zeroValue E).run P w= .ok z w:=by simp [zeroValue,typeInfo,hi,hz]
    by_cases hk0:k*sz=0
    ·have e0:(List.replicate k z.cells.toList).flatten=[]:=List.eq_nil_of_length_eq_zero (by rw [hlen,hk0])
     have e1:c8 cells of ([]:List AV)=cells:=by unfold c8;simp
     have e2:bA s.mem id cells=s.mem:=SL hm
     refine ⟨w,G,?_,?_,Keep.refl _ _⟩
     ·rcases hv.gslCases with ⟨b0,hb0,e,_,_⟩|⟨rfl,rfl,A,e⟩
      ·rcases Nat.eq_zero_or_pos k with rfl|hk
       ·simp [execOp,ho,resolve,hc,ha,hat,e,invoke,builtin,Builtin.clear_,run_underlying ht,Result.andThen]
       ·have hcs:z.cells.size=0:=by rw [hzs];rcases Nat.mul_eq_zero.1 hk0 with h|h;omega;exact h
        obtain ⟨k',rfl⟩:∃k',k=k'+1:=⟨k-1,by omega⟩
        simp [execOp,ho,resolve,hc,ha,hat,e,invoke,builtin,Builtin.clear_,run_underlying ht,Result.andThen,hzv,Builtin.zeroCells,hcs,storeCells]
      ·cases A<;>simp [execOp,ho,resolve,hc,ha,hat,e,invoke,builtin,Builtin.clear_,run_underlying ht,Result.andThen]
     ·rw [e0,List.map_nil,e1,e2];exact hr
    ·obtain ⟨b0,hb0,e,hkc,hcm⟩:∃b,G.mb id=some b∧a.eval x= .slice (some ⟨b,of,none⟩) k cap∧k≤cap∧cap≤maxLen:=by
       rcases hv.gslCases with h|⟨rfl,_⟩
       ·exact h
       ·simp at hk0
     have hne:cells≠[]:=fun e=>by rw [e] at hfit;simp at hfit;omega
     obtain ⟨b',hb',hX⟩:=hr.mem.obj id cells hm
     rw [hb0] at hb'
     cases hb'
     obtain ⟨⟨cur,T,hh,hcs,_⟩,_⟩:=hX.cells hall hne
     have hone':∀v∈(List.replicate k z.cells.toList).flatten,v.oneCell'=true:=by
       intro v hv
       obtain ⟨l,hl,hvl⟩:=List.mem_flatten.1 hv
       rw [(List.mem_replicate.1 hl).2] at hvl
       exact List.all_eq_true.1 hone v hvl
     obtain ⟨w1,w2⟩:=hr.writeM hm hb0 (NK (P:=P) (G:=G) (w:=w) (List.replicate k z.cells.toList).flatten) (fun c hc=>by
       obtain ⟨v,hv,rfl⟩:=List.mem_map.1 hc
       exact hone' v hv) (fun c hc=>by obtain ⟨v,hv,rfl⟩:=List.mem_map.1 hc;rfl) (off:=of) (by rw [List.length_map,hlen];exact hfit) hall hne
     have hst:=run_storeCells_at (P:=P) b0 of T (List.replicate k z.cells.toList).flatten 0 cur w hh (by rw [hlen,hcs];omega) hone'
     simp only [Nat.add_zero] at hst
     have hsr:=zO (List.replicate k z.cells.toList).flatten of w cur hh (by rw [hlen,hcs];exact hfit)
     have hzc:(Builtin.zeroCells z.cells k).toList=(List.replicate k z.cells.toList).flatten:=KC z.cells (by rw [hzs];intro h;rw [h] at hk0;simp at hk0) k
     refine ⟨_,G,?_,w1,w2⟩
     obtain ⟨k',rfl⟩:∃k',k=k'+1:=⟨k-1,by rcases Nat.eq_zero_or_pos k with h|h;rw [h] at hk0;simp at hk0;omega⟩
     simp [execOp,ho,resolve,hc,ha,hat,e,invoke,builtin,Builtin.clear_,run_underlying ht,Result.andThen,hzv,hzc,hst,hsr]
  obtain ⟨w',G',hrun,hr',hk'⟩:=hstep
  simp only [wpList]
  rw [if_pos (eR hr (fun t=>by omega) hg)]
  left
  unfold Oper.wp
  rw [hrun,Oper.upon_value,hd]
  exact kk G' _ w' K (by simpa [Act.put] using hr') (hfx.keep hk') fun s2 G2 a2 w2 hq hr2 hk2=>hK s2 G2 a2 w2 hq hr2 (hk'.trans hk2)
theorem MB {α:Type} {l r:List α} {i j:Int} (h:D4 l i j=some r):r.length≤l.length:=by
  unfold D4 at h
  split at h
  ·cases h
   rw [List.length_append,List.length_take,List.length_drop];omega
  ·cases h
theorem WW [I:HasTab P] {fr:Fr} {loc:List (Nat×List AV)} {objs:Ob} {base:Nat→Option (List AV)} {α:Type} {f:α→AV} {sz:Nat} {xs:List α} {id t z1 k cap:Nat} {pl sl:Slk sz} {kk:TK} {c:Call} (j:Nat) (hf:dS f sz) (hk:k≤sl.n)
    (g:∀sl':Slk sz,sl'.n=sl.n→aC P n ops rest ⟨fr,[],loc,objs.set j (id,lob pl f xs sl'),base⟩ Q)
    (hj:objs[j]? =some (id,lob pl f xs sl):=by rfl) (hC:bH ops fr o=some []:=by rfl) (hd:o.dst=none:=by rfl) (ho:o.op= .call c:=by rfl) (hc:c.callee= .builtin .clear:=by rfl) (ha:c.args=#[x]:=by rfl) (hat:c.argTypes=#[t]:=by rfl)
    (h1:(HasTab.T P).look t=some (.slice E,z1):=by rfl) (h3:(HasTab.T P).look E=some (kk,sz):=by rfl) (hB:cT E (HasTab.B P)=true:=by rfl) (hz1:JN P E=true:=by kernel_rfl) (hx:evE fr [] x= .gsl id (pl.n*sz+xs.length*sz) k cap:=by rfl):aC P n ops (o::rest) ⟨fr,[],loc,objs,base⟩ Q:=by
  obtain ⟨⟨D,hD,hk1⟩,_⟩:=Tab.ok I.tok h1
  have:=bU hk1;subst this
  have hs:=(Tab.ok I.tok h3).2
  obtain ⟨ti,z,hi,hz,hzs,hb⟩:=uT.at I.bok hB
  have hsz:ti.size=sz:=by unfold aZ at hs;rw [hi] at hs;simpa using hs
  have hone:z.cells.toList.all (fun c=>c.oneCell')=true:=by
    unfold JN at hz1
    rw [hi] at hz1
    simp only [hz] at hz1
    exact hz1
  have hzl:z.cells.size=sz:=by rw [hzs,hsz]
  have hzn:=FZ (z.cells.toList) k
  rw [show z.cells.toList.length=sz from (Array.length_toList).trans hzl] at hzn
  let sl':Slk sz:=⟨((List.replicate k z.cells.toList).flatten.map AV.lit)++sl.l.drop (k*sz),sl.n,by
    rw [List.length_append,List.length_map,hzn,List.length_drop,sl.len,←Nat.sub_mul,←Nat.add_mul,Nat.add_sub_cancel' hk],by
    rw [List.all_append,Bool.and_eq_true]
    constructor
    ·rw [List.all_eq_true]
     intro c hc
     obtain ⟨v,hv,rfl⟩:=List.mem_map.1 hc
     obtain ⟨l,hl,hvl⟩:=List.mem_flatten.1 hv
     rw [(List.mem_replicate.1 hl).2] at hvl
     exact List.all_eq_true.1 hone v hvl
    ·exact List.all_eq_true.2 fun c hc=>List.all_eq_true.1 sl.sc c (List.mem_of_mem_drop hc)⟩
  have hsp:c8 (lob pl f xs sl) (pl.n*sz+xs.length*sz) ((List.replicate k z.cells.toList).flatten.map AV.lit)=lob pl f xs sl':=by
    unfold c8 lob
    have e1:(pl.l++flt f xs).length=pl.n*sz+xs.length*sz:=by rw [List.length_append,pl.len,pW hf]
    rw [←e1,List.take_left,List.length_map,hzn,←List.drop_drop,List.drop_left]
    simp [List.append_assoc,sl']
  have hfit:pl.n*sz+xs.length*sz+k*sz≤(lob pl f xs sl).length:=by
    rw [B4 hf,←Nat.add_mul,←Nat.add_mul];exact Nat.mul_le_mul_right _ (by omega)
  refine aC.nd fun hnd=>cQ (e:=⟨fr,[],loc,objs,base⟩) (add:=[]) (objs':=objs.set j (id,lob pl f xs sl')) rfl (fun Q' hk'=>N3 (cB (e:=⟨fr,[],loc,objs,base⟩) _ hC) hd ho hc ha hat hD hi hz hzl hone (bK (e:=⟨fr,[],loc,objs,base⟩) hx) (cS hnd.1 hj) (yD hf pl xs sl) hfit ?_ hk') (fun h=>jR h (d3 hj)) (g sl' rfl)
  rw [hsp];exact jQ hnd.1 hj
end
end
section
open Go.RowKit
theorem Fix.shaped {G:Gh} {w:World} (h:Fix G w):w.ShapedOpen Tryz.prog:=by
  obtain ⟨F,h1,h2⟩:=h
  exact (h2 w (fun b o e=>(h1 b o e).2.1)).1
theorem Fix.tab {G:Gh} {w:World} (h:Fix G w):Lib.TabIs Tryz.prog w "internal/strconv.uint64pow10" .u64 Lib.pow10Tab:=by
  obtain ⟨F,h1,h2⟩:=h
  have h3:=(h2 w (fun b o e=>(h1 b o e).2.1)).2
  first|exact h3|exact h3.1
theorem Fix.errs {G:Gh} {w:World} (h:Fix G w):(∃v,w.cell? ⟨6,0,none⟩=some v∧(v= .nilIface∨∃te pe,v= .iface te pe))∧(∃v,w.cell? ⟨7,0,none⟩=some v∧(v= .nilIface∨∃te pe,v= .iface te pe)):=by
  obtain ⟨F,h1,h2⟩:=h
  exact (h2 w (fun b o e=>(h1 b o e).2.1)).2.2
def rM (p:UInt8) (l:List UInt8):List (List UInt8):=Lib.split l [p]
theorem NR (p:UInt8) (l:List UInt8):(Lib.splitB ⟨#[p]⟩ 0 (Lib.countB ⟨l.toArray⟩ ⟨#[p]⟩) ⟨l.toArray⟩).map Value.string=(rM p l).map fun s=>Value.string ⟨s.toArray⟩:=by
  have h:=Lib.splitB_data ⟨#[p]⟩ 0 (Lib.countB ⟨l.toArray⟩ ⟨#[p]⟩) ⟨l.toArray⟩
  have e:rM p l=(Lib.splitB ⟨#[p]⟩ 0 (Lib.countB ⟨l.toArray⟩ ⟨#[p]⟩) ⟨l.toArray⟩).map (·.data.toList):=by
    rw [h]
    unfold rM Lib.split
    simp only [Lib.countB]
  rw [e,List.map_map]
  apply List.map_congr_left
  intro s _
  simp
theorem IF (p:UInt8) (l:List UInt8):(rM p l).length=l.count p+1:=by
  have h:=Lib.splitB_all ⟨#[p]⟩ (by show 0<(1:Nat);decide) 0 _ ⟨l.toArray⟩ rfl
  have e:(rM p l).length=(Lib.splitB ⟨#[p]⟩ 0 (Lib.countB ⟨l.toArray⟩ ⟨#[p]⟩) ⟨l.toArray⟩).length:=by
    have:=congrArg List.length (NR p l)
    simpa using this.symm
  rw [e,h,Lib.countB,←Lib.count_one]
theorem SN (p:UInt8) (l:List UInt8):(rM p l).length≤l.length+1:=by
  rw [IF];have:=List.count_le_length (a:=p) (l:=l);omega
def NS (l p:List UInt8):Option (List (List UInt8)):=match p with
  |[c]=>if l.length≤4294967280 then some (rM c l) else none
  |_=>none
theorem T3 {l p:List UInt8} {r:List (List UInt8)} (h:NS l p=some r):aI Tryz.prog 147 [.str l,.str p] (.list true 9 (r.map AV.str)):=by
  unfold NS at h
  split at h
  ·rename_i p
   split at h
   ·rename_i hl
    cases h
    refine aI.of fun M=>?_
    have hlen1:(rM p l).length=Lib.countB ⟨l.toArray⟩ ⟨#[p]⟩+1:=by
      rw [IF,Lib.countB,←Lib.count_one]
    have hcnt:(rM p l).length≤l.length+1:=SN p l
    refine NZ (size:=1) (by unfold aZ;kernel_rfl) (fun x hx=>?_) (fun x hx c hc=>?_) ?_ ?_
    ·obtain ⟨s,_,rfl⟩:=List.mem_map.1 hx;rfl
    ·obtain ⟨s,_,rfl⟩:=List.mem_map.1 hx;simp [AV.cells] at hc;subst hc;rfl
    ·rw [List.length_map];unfold maxLen;omega
    ·intro G w vs hm hfx hlen hrel
     obtain ⟨v,u,rfl,h1,h2⟩:=DV hlen hrel
     have e1:=gC h1
     have e2:=gC h2
     subst e1;subst e2
     refine ⟨_,T5 (rM p l),(Tryz.strings_Split_shaped ⟨l.toArray⟩ ⟨#[p]⟩ w hfx.shaped (by rw [pR];omega) (by show 0<(1:Nat);decide)).mono ?_⟩
     rintro e w' ⟨rfl,rfl⟩
     rw [NR]
     refine ⟨w.heap.size,_,_,by rw [List.length_map,hlen1],Nat.le_refl _,by simp,j8 _ _,by rw [List.length_map,hlen1];exact Nat.le_refl _,?_,by simp [hlen1],?_,(Below.refl _ _).alloc (Nat.le_refl _) _⟩
     ·rw [←hlen1];unfold maxLen;omega
     ·rw [List.length_map,Nat.mul_one,List.take_of_length_le (by simp)]
   ·cases h
  ·cases h
def RD (s cut:List UInt8):Option (List UInt8):=if cut=[48,49,50,51,52,53,54,55,56,57] then some (Lib.trimLeftS s cut) else none
theorem VP {s cut r:List UInt8} (h:RD s cut=some r):aI Tryz.prog 267 [.str s,.str cut] (.str r):=by
  unfold RD at h
  split at h
  ·rename_i e
   subst e
   cases h
   refine aI.of fun M=>kF rfl ?_
   intro G w vs hm hfx hlen hrel
   obtain ⟨v,u,rfl,h1,h2⟩:=DV hlen hrel
   have e1:=gC h1
   have e2:=gC h2
   subst e1;subst e2
   refine (Any.strings_TrimLeft_laid Tryz.lays161 (by kernel_rfl) ⟨s.toArray⟩ ⟨[48,49,50,51,52,53,54,55,56,57].toArray⟩ w (by decide) (Go.Proofs.ascii_of_all (by decide))).mono ?_
   rintro e w' ⟨rfl,hb⟩
   exact ⟨_,rfl,.str _,hb⟩
  ·cases h
def QT (n:Int):Option (List UInt8):=if-9223372036854775808≤n∧n≤9223372036854775807 then some (Lib.itoa n) else none
theorem VH {n:Int} {r:List UInt8} (h:QT n=some r):aI Tryz.prog 265 [zI n] (.str r):=by
  unfold QT at h
  split at h
  ·rename_i hn
   cases h
   refine aI.of fun M=>kF rfl ?_
   intro G w vs hm hfx hlen hrel
   obtain ⟨v,rfl,h1⟩:=L1 hlen hrel
   have e1:=pJ h1
   subst e1
   refine (Tryz.strconv_Itoa n hn.1 hn.2 w hfx.tab).mono ?_
   rintro e w' ⟨rfl,k,os,rfl⟩
   exact ⟨_,rfl,.str _,Lib.below_grow _ _ (Nat.le_refl _) _ _⟩
  ·cases h
section
variable {P:Program} {n:Nat} {s:St} {o:Oper} {d f:Nat} {t t':TypeId} {x:Operand} {op:BinOp} {args:List AV} {M:Nat→Option (List AV)}
theorem SI {ms:Array (String×TypeId)} (k:Nat) (hu:P.underlying t=some (.interface ms)) (w:World):(Op.equalIn (k+1) t .nilIface .nilIface).run P w= .ok true w:=by
  simp [Op.equalIn,run_underlying hu]
theorem SJ {ms:Array (String×TypeId)} (k:Nat) (te:TypeId) (pv:Value) (hu:P.underlying t=some (.interface ms)) (w:World):(Op.equalIn (k+1) t (.iface te pv) .nilIface).run P w= .ok false w:=by
  simp [Op.equalIn,run_underlying hu]
theorem DT {ms:Array (String×TypeId)} {v:Value} {b c:Bool} (ho:o.op= .binOp op t x (.const .nilIface) t') (hu:P.underlying t=some (.interface ms)) (hx:s.eval x= .lit v) (hb:(v= .nilIface∧b=true)∨((∃te pv,v= .iface te pv)∧b=false))
    (hr:(op= .eql∧c=b)∨(op= .neq∧c=!b)):aH P n s o d (.lit (.bool c)):=by
  intro G a w h
  refine ⟨.bool c,bZ _,fun w' _=>?_⟩
  have hv:=h.evLit hx
  have hn:a.eval (.const .nilIface)= .nilIface:=rfl
  rcases hb with ⟨rfl,rfl⟩|⟨⟨te,pv,rfl⟩,rfl⟩
  ·have hrun:=SI (P:=P) 9999 hu w'
   rcases hr with ⟨rfl,rfl⟩|⟨rfl,rfl⟩
   ·simp [execOp,ho,hv,hn,binOp,eqGuard,Op.equal,Op.maxDepth,hrun,Result.andThen]
   ·simp [execOp,ho,hv,hn,binOp,eqGuard,Op.equal,Op.maxDepth,hrun,Result.andThen]
  ·have hrun:=SJ (P:=P) 9999 te pv hu w'
   rcases hr with ⟨rfl,rfl⟩|⟨rfl,rfl⟩
   ·simp [execOp,ho,hv,hn,binOp,eqGuard,Op.equal,Op.maxDepth,hrun,Result.andThen]
   ·simp [execOp,ho,hv,hn,binOp,eqGuard,Op.equal,Op.maxDepth,hrun,Result.andThen]
theorem pO {C:List AV→Prop}
    (h:∀(G:Gh) (w:World) (vs:List Value),RelM P G w M→Fix G w→vs.length=args.length→(∀(j:Nat) x v,args[j]? =some x→vs[j]? =some v→RelV P G w x v)→
     Calls P f vs.toArray w fun e w'=>∃cs us,C cs∧(∀c∈cs,c.flat=true)∧e= .returned (.tuple (List.toArray us))∧us.length=cs.length∧(∀(j:Nat) c u,cs[j]? =some c→us[j]? =some u→RelV P G w c u)∧Below w.heap.size w w'):
    bW P f args M (fun r' M'=>(∃cs,C cs∧r'= .tuple cs)∧M=M'):=by
  intro G w vs hm hfx hlen hrel
  refine (h G w vs hm hfx hlen hrel).mono ?_
  rintro e w' ⟨cs,us,hC,hfl,rfl,hl,hr,hb⟩
  obtain ⟨kp,st⟩:=CB (G:=G) hb hm.far
  refine ⟨.tuple cs,M,G,.tuple us.toArray,rfl,⟨⟨cs,hC,rfl⟩,rfl⟩,rfl,⟨us,rfl,hl,fun j c u h1 h2=>?_⟩,?_,kp⟩
  ·have hc:=hfl c (List.mem_of_getElem? h1)
   exact bE.toO (p:=fun _=> .res j) (((hr j c u h1 h2).stab st).toS hc) (.inl hc)
  ·exact hm.move st hb.size (fun q b hq h1 h2=>⟨h2,hb.block b h1,rfl⟩) (fun b hb'=>hm.far b (Nat.le_trans hb.size hb')) rfl
end
def P9 (s:List UInt8):Option (Int×Bool):=if s.length≤4294967280 then some (match Lib.atoiAll s with
  | .ok z=>(z,true)
  | .range=>(Lib.atoiSat s,false)
  |_=>(0,false)) else none
theorem UV {s:List UInt8} {r:Int×Bool} (h:P9 s=some r):aO Tryz.prog 264 [.str s] [] (fun v outs=>∃te pe,v= .tuple [zI r.1,.lit (bif r.2 then .nilIface else .iface te pe)]∧outs=[]):=by
  unfold P9 at h
  split at h
  ·rename_i hl
   cases h
   intro base hnd
   refine bW.mono (pO (C:=fun cs=>∃te pe,cs=[zI (match Lib.atoiAll s with| .ok z=>(z,true)| .range=>(Lib.atoiSat s,false)|_=>(0,false)).1,.lit (bif (match Lib.atoiAll s with| .ok z=>(z,true)| .range=>(Lib.atoiSat s,false)|_=>(0,false)).2 then .nilIface else .iface te pe)]) ?_) ?_
   ·intro G w vs hm hfx hlen hrel
    obtain ⟨v,rfl,h1⟩:=L1 hlen hrel
    have e1:=gC h1
    subst e1
    have fin:∀(z:Int) (u:Value) (w':World),Below w.heap.size w w'→(∃te pe,[AV.lit (.int .i64 z),AV.lit u]=[zI (match Lib.atoiAll s with| .ok z=>(z,true)| .range=>(Lib.atoiSat s,false)|_=>(0,false)).1,.lit (bif (match Lib.atoiAll s with| .ok z=>(z,true)| .range=>(Lib.atoiSat s,false)|_=>(0,false)).2 then .nilIface else .iface te pe)])→
     ∃cs us,(∃te pe,cs=[zI (match Lib.atoiAll s with| .ok z=>(z,true)| .range=>(Lib.atoiSat s,false)|_=>(0,false)).1,.lit (bif (match Lib.atoiAll s with| .ok z=>(z,true)| .range=>(Lib.atoiSat s,false)|_=>(0,false)).2 then .nilIface else .iface te pe)])∧(∀c∈cs,c.flat=true)∧Ending.returned (.tuple #[.int .i64 z,u])= .returned (.tuple (List.toArray us))∧us.length=cs.length∧(∀(j:Nat) c u,cs[j]? =some c→us[j]? =some u→RelV Tryz.prog G w c u)∧Below w.heap.size w w':=by
      intro z u w' hb he
      refine ⟨[.lit (.int .i64 z),.lit u],[_,_],he,by simp [AV.flat],rfl,rfl,fun j x u hx hu=>?_,hb⟩
      match j,hx,hu with
      |0,hx,hu=>cases hx;cases hu;exact .lit _
      |1,hx,hu=>cases hx;cases hu;exact .lit _
      |_+2,hx,hu=>cases hx
    cases ha:Lib.atoiAll s with
    |ok z=>
     refine (Tryz.strconv_Atoi_ok ⟨s.toArray⟩ (by rw [pR];omega) z ha w).mono ?_
     rintro e w' ⟨rfl,hw⟩
     rw [ha] at fin
     refine fin _ _ _ ?_ ⟨0,.nilIface,rfl⟩
     rcases hw with rfl|⟨t,rfl⟩
     ·exact Below.refl _ _
     ·exact Lib.bytesWorld_below _ _ _
    |range=>
     obtain ⟨ev,hv,hev⟩:=hfx.errs.2
     refine (Tryz.strconv_Atoi_range ⟨s.toArray⟩ (by rw [pR];omega) ha ev w hv hev).mono ?_
     rintro e w' ⟨N,rfl,_,_,hb⟩
     rw [ha] at fin
     exact fin _ _ _ hb ⟨_,_,rfl⟩
    |_=>
     obtain ⟨ev,hv,hev⟩:=hfx.errs.1
     refine (Tryz.strconv_Atoi_syntax ⟨s.toArray⟩ (by rw [pR];omega) ha ev w hv hev).mono ?_
     rintro e w' ⟨N,rfl,_,_,hb⟩
     rw [ha] at fin
     exact fin _ _ _ hb ⟨_,_,rfl⟩
   ·rintro r M' ⟨⟨cs,⟨te,pe,rfl⟩,rfl⟩,rfl⟩
    exact ⟨[],⟨te,pe,rfl,rfl⟩,rfl,hnd⟩
  ·cases h
theorem XN {P:Program} {n:Nat} {e:Es} {o:Oper} {d:Nat} {C:Cnd} {t t':Nat} {x:Operand} {op:BinOp} {b:Bool} {te:TypeId} {pe:Value} {ms:Array (String×TypeId)} (hu:P.underlying t=some (.interface ms)) (ho:o.op= .binOp op t x (.const .nilIface) t':=by rfl) (hx:evE e.fr C x= .lit (bif b then .nilIface else .iface te pe):=by rfl) (hop:op= .neq:=by rfl):aH P n (e.st C) o d (zB (!b)):=by
  cases b with
  |true=>exact DT ho hu (bK hx) (.inl ⟨rfl,rfl⟩) (.inr ⟨hop,rfl⟩)
  |false=>exact DT ho hu (bK hx) (.inr ⟨⟨_,_,rfl⟩,rfl⟩) (.inr ⟨hop,rfl⟩)
end
end Go.Proofs.YtoolgdcjfkjlnaaGreatDoor
