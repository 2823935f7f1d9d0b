/- aGreatDoorM6. -/
import Derived.Test.YtoolgdcjfkjlnaaGreatDoorM5
import Derived.KernelRfl
import Derived.Test.YtoolgdcjfkjlnaaGreatDoorM3
import Derived.MapKept
import Derived.Deep.Upon
namespace Go.Proofs.YtoolgdcjfkjlnaaGreatDoor
section
open Go.RowKit
section
variable {P:Program} {n:Nat} {s:St} {a:Act} {w:World} {G:Gh} {E:TypeId}
theorem RelSt.objNil {id j:Nat} {cells:List AV} (hr:RelSt P G n s a w) (hc:s.mem id=some cells) (hj:cells[j]? =some (.lit (.slice none 0 0))) (hsc:cells.all AV.scalar=true):RelSt P G n {s with mem:=bA s.mem id (cells.set j (.list false E []))} a w:=by
  refine ⟨hr.size,hr.defers,hr.slot,hr.loc,⟨fun id' cs h=>?_,hr.mem.far,hr.mem.fin⟩⟩
  have h':bA s.mem id (cells.set j (.list false E [])) id'=some cs:=h
  by_cases e:id'=id
  ·subst e
   rw [bP] at h'
   cases h'
   obtain ⟨b,hb,hX⟩:=hr.mem.obj id' cells hc
   obtain ⟨⟨arr,T,h1,h2,h3,h4,h5,h6⟩,h7⟩:=hX.cells hsc (by intro e;rw [e] at hj;simp at hj)
   refine ⟨b,hb,.inl ⟨⟨arr,T,h1,by simpa using h2,h3,h4,fun c hcm=>?_,fun k c u hk hu=>?_⟩,h7⟩⟩
   ·rcases List.mem_or_eq_of_mem_set hcm with h|rfl
    ·exact h5 c h
    ·rfl
   ·rw [List.getElem?_set] at hk
    split at hk
    ·rename_i ejk
     subst ejk
     split at hk
     ·cases hk
      have h8:=h6 j _ u hj hu
      have e8:u= .slice none 0 0:=by
        have h9:RelV P G w (.lit (.slice none 0 0)) u:=h8
        cases h9;rfl
      show RelV P G w (.list false E []) u
      rw [e8];exact .nil false E
     ·cases hk
    ·exact h6 k c u hk hu
  ·rw [bT e] at h'
   exact hr.mem.obj id' cs h'
end
section
variable {P:Program} {n:Nat} {e e':Es} {ops:Array Oper} {l rest:List Oper} {o:Oper} {Q:Es→Prop} {QE:Exit→Es→Prop} {d:Nat} {T:Tab} {Z:Zt} {v:AV} {C:Cnd} {t t' E:Nat} {x y:Operand} {k:IntKind} {i j:Int}
theorem JY {fr:Fr} {loc:List (Nat×List AV)} {objs:Ob} {base:Nat→Option (List AV)} {cells:List AV}
    (h:∀Q',(∀id,lay objs base id=none→id%10000=t→aM P n ops rest ⟨(d,.gptr id 0)::((⟨fr,[],loc,objs,base⟩:Es).st []).fr,loc,bA (lay objs base) id cells⟩ Q')→aM P n ops (o::rest) ((⟨fr,[],loc,objs,base⟩:Es).st []) Q')
    (g:∀id,id%10000=t→aC P n ops rest ⟨(d,[],.gptr id 0)::fr,[],loc,(id,cells)::objs,base⟩ Q):aC P n ops (o::rest) ⟨fr,[],loc,objs,base⟩ Q:=by
  intro G a w K hr hfx hK
  have hfl:∀i,(aY fr i).1=[]:=by
    intro i
    cases hx:(aY fr i).1 with
    |nil=>rfl
    |cons p r=>
     have:=hr.gs i p (by show p∈(aY fr i).1;rw [hx];exact List.mem_cons_self ..)
     cases this
  have hnd:ndO objs base:=hr.nd
  refine h (fun s''=>∃e'',e''.st []=s''∧e''.nd∧Q e'') (fun id hid ht=>?_) G a w K (hr.st bF) hfx ?_
  ·intro G1 a1 w1 K1 hr1 hfx1 hK1
   have hni:id∉objs.map (·.1):=fun hm=>pG hm hid
   have hb:base id=none:=by rwa [gA hni] at hid
   have hnd':ndO ((id,cells)::objs) base:=⟨List.nodup_cons.2 ⟨hni,hnd.1⟩,fun i hi=>by
     rcases List.mem_cons.1 hi with e|e
     ·subst e;exact hb
     ·exact hnd.2 i e⟩
   have hf':=d4 hfl [(d,.gptr id 0)]
   refine g id ht G1 a1 w1 K1 ⟨hr1.size,hr1.defers,fun i _=>?_,fun i hne=>?_,fun i p hp=>?_,hr1.loc,hr1.mem,hnd'⟩ hfx1 (fun e2 G2 a2 w2 hq hr2 hk2=>hK1 _ G2 a2 w2 ⟨e2,rfl,hr2.2,hq⟩ hr2.1 hk2)
   ·have h3:=hr1.slot i
    have e1:St.get ⟨(d,.gptr id 0)::((⟨fr,[],loc,objs,base⟩:Es).st []).fr,loc,bA (lay objs base) id cells⟩ i=dA [] (aY ((d,[],.gptr id 0)::fr) i):=oB [] ((d,[],.gptr id 0)::fr) i
    rw [e1] at h3
    unfold dA at h3
    rw [show (aY ((d,[],.gptr id 0)::fr) i).1=[] from hf' i] at h3
    exact h3
   ·rw [show (aY ((d,[],.gptr id 0)::fr) i).1=[] from hf' i] at hne
    exact absurd bF hne
   ·rw [show (aY ((d,[],.gptr id 0)::fr) i).1=[] from hf' i] at hp;cases hp
  ·rintro s'' G' a' w' ⟨e'',rfl,hn2,hq⟩ hr' hk
   exact hK e'' G' a' w' hq ⟨hr',hn2⟩ hk
theorem uV [I:HasTab P] {fr:Fr} {loc:List (Nat×List AV)} {objs:Ob} {base:Nat→Option (List AV)} {cells:List AV} (g:∀id,id%10000=t→aC P n ops rest ⟨(d,[],.gptr id 0)::fr,[],loc,(id,cells)::objs,base⟩ Q)
    (hC:bH ops fr o=some []:=by rfl) (hd:o.dst=some d:=by rfl) (hn:Nat.blt d n=true:=by rfl) (ho:o.op= .box t x:=by rfl) (hc:RF (HasTab.T P) (evE fr []) t x=some cells:=by rfl) (ht:Nat.blt t 10000=true:=by rfl) (hf:cells.all AV.flat=true:=by rfl):aC P n ops (o::rest) ⟨fr,[],loc,objs,base⟩ Q:=by
  refine JY (fun Q' hk=>?_) g
  rw [dI ⟨fr,[],loc,objs,base⟩ []] at hc
  unfold RF at hc
  split at hc
  ·rename_i v hv
   obtain ⟨h1,h2⟩:=yE hv
   cases hp:v.part with
   |false=>rw [hp] at hc;cases hc
   |true=>
    rw [hp] at hc;cases hc
    exact RK (v:=v) (cB (e:=⟨fr,[],loc,objs,base⟩) _ hC) hd (Nat.le_of_ble_eq_true hn) (Nat.le_of_ble_eq_true ht) ho h1 h2 hp rfl (List.all_eq_true.1 hf) hk
  ·cases hc
theorem QH [I:HasTab P] {fr:Fr} {loc:List (Nat×List AV)} {objs:Ob} {base:Nat→Option (List AV)} {cells:List AV} (g:∀id,id%10000=t→aC P n ops rest ⟨(d,[],.gptr id 0)::fr,[],loc,(id,cells)::objs,base⟩ Q)
    (hC:bH ops fr o=some []:=by rfl) (hd:o.dst=some d:=by rfl) (hn:Nat.blt d n=true:=by rfl) (ho:o.op= .alloc t:=by rfl) (hc:(HasTab.Z P).lookO t=some cells:=by rfl) (ht:Nat.blt t 10000=true:=by rfl) (hf:cells.all (fun c=>c.scalar&&c.flat)=true:=by rfl):aC P n ops (o::rest) ⟨fr,[],loc,objs,base⟩ Q:=by
  refine JY (fun Q' hk=>?_) g
  obtain ⟨z,Es,h1,h2,h3,_⟩:=L0 I.zok hc
  have hall:∀c∈cells,c.scalar=true∧c.flat=true:=fun c hm=>by simpa using List.all_eq_true.1 hf c hm
  exact N1 (cB (e:=⟨fr,[],loc,objs,base⟩) _ hC) hd (Nat.le_of_ble_eq_true hn) ho (Nat.le_of_ble_eq_true ht) h1 h2 h3 (fun c hm=>(hall c hm).1) (fun c hm=>(hall c hm).2) hk
theorem IN {fr:Fr} {gs:List Nat} {loc:List (Nat×List AV)} {objs:Ob} {base:Nat→Option (List AV)} {id:Nat} {cells:List AV} (j c E:Nat) (g:aC P n ops l ⟨fr,gs,loc,objs.set j (id,cells.set c (.list true E [])),base⟩ Q) (hj:objs[j]? =some (id,cells):=by rfl) (hc:cells[c]? =some (.lit (.slice none 0 0)):=by rfl) (hs:cells.all AV.scalar=true:=by rfl):aC P n ops l ⟨fr,gs,loc,objs,base⟩ Q:=by
  intro G a w K hr hfx hK
  have hnd:ndO objs base:=hr.nd
  have key:RelM P G w (lay (objs.set j (id,cells.set c (.list true E []))) base):=by
    rw [←jQ hnd.1 hj]
    exact (hr.st bF).objList (cS hnd.1 hj) hc hs|>.mem
  exact g G a w K ⟨hr.size,hr.defers,hr.slot,hr.off,hr.gs,hr.loc,key,jR hnd (d3 hj)⟩ hfx hK
theorem S6 {fr:Fr} {gs:List Nat} {loc:List (Nat×List AV)} {objs:Ob} {base:Nat→Option (List AV)} {id:Nat} {cells:List AV} (j c E:Nat) (g:aC P n ops l ⟨fr,gs,loc,objs.set j (id,cells.set c (.list false E [])),base⟩ Q) (hj:objs[j]? =some (id,cells):=by rfl) (hc:cells[c]? =some (.lit (.slice none 0 0)):=by rfl) (hs:cells.all AV.scalar=true:=by rfl):aC P n ops l ⟨fr,gs,loc,objs,base⟩ Q:=by
  intro G a w K hr hfx hK
  have hnd:ndO objs base:=hr.nd
  have key:RelM P G w (lay (objs.set j (id,cells.set c (.list false E []))) base):=by
    rw [←jQ hnd.1 hj]
    exact (hr.st bF).objNil (cS hnd.1 hj) hc hs|>.mem
  exact g G a w K ⟨hr.size,hr.defers,hr.slot,hr.off,hr.gs,hr.loc,key,jR hnd (d3 hj)⟩ hfx hK
theorem XO {f:FuncId} {c:Call} {u r:Value} (hrun:∀w,(callFunc f #[u]).run P w= .ok (.value r) w) (ho:o.op= .call c:=by rfl) (hc:c.callee= .value (.func f):=by rfl) (ha:c.args=#[x]:=by rfl) (hx:evE e.fr C x= .lit u:=by rfl):aH P n (e.st C) o d (.lit r):=by
  intro G a w h
  refine ⟨r,bZ _,fun w' _=>?_⟩
  have hav:=h.evLit (bK hx)
  have hfe:a.eval (.func f)= .func (.func f) #[] #[]:=rfl
  simp [execOp,ho,resolve,hc,ha,hav,hfe,Deferred.ofValue,invoke,hrun]
structure EqT (P:Program) (t:Nat) {α:Type} (enc:α→List AV) (us:α→List Value) (eq:α→α→Bool):Prop where
  und:∃D,P.underlying t=some D∧TypeDesc.agg D=true
  grd:P.eqGuardType P.depth t=false
  conc:∀a,CG (enc a)=some (us a)
  eqv:∀a b,eqV P 9 t (us a) (us b)=some (eq a b)
theorem rEq {α:Type} {enc:α→List AV} {us:α→List Value} {eq:α→α→Bool} {a b:α} {op:BinOp} {r s:Nat} (F:EqT P t enc us eq) (ho:o.op= .binOp op t (.tmp r) (.tmp s) t':=by rfl) (hx:bX e.fr C r= .agg (enc a):=by rfl) (hy:bX e.fr C s= .agg (enc b):=by rfl) (hop:op= .eql:=by rfl):aH P n (e.st C) o d (.lit (.bool (eq a b))):=by
  obtain ⟨D,hD,hA⟩:=F.und
  exact DS 9 ho ((cD e C r).trans hx) ((cD e C s).trans hy) ⟨_,rfl⟩ ⟨_,rfl⟩ hD hA F.grd (by decide) (F.conc a) (F.conc b) (F.eqv a b) (.inl ⟨hop,rfl⟩)
theorem rNe {α:Type} {enc:α→List AV} {us:α→List Value} {eq:α→α→Bool} {a b:α} {op:BinOp} {r s:Nat} (F:EqT P t enc us eq) (ho:o.op= .binOp op t (.tmp r) (.tmp s) t':=by rfl) (hx:bX e.fr C r= .agg (enc a):=by rfl) (hy:bX e.fr C s= .agg (enc b):=by rfl) (hop:op= .neq:=by rfl):aH P n (e.st C) o d (.lit (.bool (!(eq a b)))):=by
  obtain ⟨D,hD,hA⟩:=F.und
  exact DS 9 ho ((cD e C r).trans hx) ((cD e C s).trans hy) ⟨_,rfl⟩ ⟨_,rfl⟩ hD hA F.grd (by decide) (F.conc a) (F.conc b) (F.eqv a b) (.inr ⟨hop,rfl⟩)
def u8 (x:Int):UInt8:=UInt8.ofNat (x.emod 256).toNat
theorem US (x:Int):((u8 x).toNat:Int)=IntKind.u8.wrap x:=by
  have h1:0≤x.emod 256:=Int.emod_nonneg _ (by decide)
  have h2:x.emod 256<256:=Int.emod_lt_of_pos _ (by decide)
  have h3:(u8 x).toNat=(x.emod 256).toNat:=by
    unfold u8
    rw [UInt8.toNat_ofNat']
    exact Nat.mod_eq_of_lt (by omega)
  rw [h3]
  have h4:IntKind.u8.wrap x=x.emod 256:=by
    simp [IntKind.wrap,IntKind.signed,IntKind.bits]
    rfl
  omega
theorem cU8 {fr:Fr} {gs:List Nat} {loc:List (Nat×List AV)} {objs:Ob} {base:Nat→Option (List AV)} {z:Int} (t:Nat) (g:aC P n ops l ⟨(t,[],zU8 (u8 z))::fr,gs,loc,objs,base⟩ Q) (hx:aY fr t=([],.lit (.int .u8 (IntKind.u8.wrap z))):=by rfl):aC P n ops l ⟨fr,gs,loc,objs,base⟩ Q:=by
  intro G a w K hr hfx hK
  refine g G a w K ⟨hr.size,hr.defers,fun i hc=>?_,fun i hc=>?_,fun i p hp=>?_,hr.loc,hr.mem,hr.nd⟩ hfx hK
  all_goals
    have key:aY ((t,[],zU8 (u8 z))::fr) i=aY fr i:=by
      simp only [aY]
      cases h:Nat.beq t i with
      |true=>rw [←Nat.eq_of_beq_eq_true h,hx];simp only [zU8,US];rfl
      |false=>rfl
  ·have:=hr.slot i
   simp only [key] at hc ⊢
   exact this hc
  ·simp only [key] at hc
   exact hr.off i hc
  ·simp only [key] at hp
   exact hr.gs i p hp
theorem WX [I:HasTab P] {fr:Fr} {loc:List (Nat×List AV)} {objs:Ob} {base:Nat→Option (List AV)} {xs:List AV} {r z1 z2:Nat} (g:aC P n ops rest ⟨(d,[],.list false E xs)::(r,[],.list false E xs)::fr,[],loc,objs,base⟩ Q)
    (hC:bH ops fr o=some []:=by rfl) (hd:o.dst=some d:=by rfl) (hn:Nat.blt d n=true:=by rfl) (ho:o.op= .convert t t (.tmp r):=by rfl) (h1:(HasTab.T P).look t=some (.slice E,z1):=by rfl) (h3:(HasTab.T P).look E=some (.int .u8,z2):=by rfl) (hx:bX fr [] r= .list true E xs:=by rfl) (hne:xs.isEmpty=false:=by rfl):aC P n ops (o::rest) ⟨fr,[],loc,objs,base⟩ Q:=by
  obtain ⟨⟨D,hD,hk⟩,_⟩:=Tab.ok I.tok h1
  have:=bU hk;subst this
  obtain ⟨⟨D3,hD3,hk3⟩,_⟩:=Tab.ok I.tok h3
  have:=vV hk3;subst this
  exact cQ (e:=⟨fr,[],loc,objs,base⟩) (add:=[(d,.list false E xs),(r,.list false E xs)]) rfl (fun Q' hk=>IK (cB (e:=⟨fr,[],loc,objs,base⟩) _ hC) hd (Nat.le_of_ble_eq_true hn) ho hD hD3 ((cD _ [] r).trans hx) hne hk) id g
def shO (l:Bool) (k:IntKind) (i j:Int):Option Int:=if 0≤j then some (bif l then Q7 k i j else lH k i j) else none
theorem rSh {op:BinOp} {l:Bool} {k':IntKind} {r:Int} (he:shO l k i j=some r) (ho:o.op= .binOp op t x y t':=by rfl) (hop:op=(bif l then BinOp.shl else BinOp.shr):=by rfl) (hx:evE e.fr C x= .lit (.int k i):=by rfl) (hy:evE e.fr C y= .lit (.int k' j):=by rfl):aH P n (e.st C) o d (.lit (.int k r)):=by
  unfold shO at he
  split at he
  ·cases he
   subst hop
   cases l
   ·exact aH.shift ho (.inr rfl) (bK hx) (bK hy) ‹_› (by rw [if_neg (by decide)];rfl)
   ·exact aH.shift ho (.inl rfl) (bK hx) (bK hy) ‹_› (by rw [if_pos (by rfl)];rfl)
  ·cases he
theorem bD {c:Operand} {x y:Code} {b:Bool} (hc:evE e.fr [] c= .lit (.bool b)) (hb:b=true) (h:CWp P n x e QE):CWp P n (.cond c x y) e QE:=by
  intro G a w K hr hfx hK
  subst hb
  exact wp_cond_true (hr.1.evLit (bK hc)) (h G a w K hr hfx hK)
theorem dD {c:Operand} {x y:Code} {b:Bool} (hc:evE e.fr [] c= .lit (.bool b)) (hb:b=false) (h:CWp P n y e QE):CWp P n (.cond c x y) e QE:=by
  intro G a w K hr hfx hK
  subst hb
  exact wp_cond_false (hr.1.evLit (bK hc)) (h G a w K hr hfx hK)
def EQ (P:Program) (n:Nat) (c:Code) (QE:Exit→Es→Prop):Nat→Es→Prop
  |0,_=>False
  |k+1,e=>CWp P n c e fun z e'=>match z with| .normal=>EQ P n c QE k e'|z=>QE z e'
theorem crd {c:Code} {k:Nat} (h:CWp P n c e fun z e'=>match z with| .normal=>EQ P n c QE k e'|z=>QE z e'):EQ P n c QE (k+1) e:=h
theorem d7 (k:Nat) {c:Code} (h:EQ P n c QE k e):CWp P n (.loop c) e QE:=by
  intro G a w K hr hfx hK
  refine wp_loop_rounds k ?_
  induction k generalizing e G a w K with
  |zero=>exact h.elim
  |succ k ih=>
   refine h G a w _ hr hfx ?_
   intro z e' G' a' w' hq hr' hk
   cases z with
   |normal=>exact ih hq G' a' w' K hr' (hfx.keep hk) fun z s2 G2 a2 w2 hq2 hr2 hk2=>hK z s2 G2 a2 w2 hq2 hr2 (hk.trans hk2)
   |_=>exact hK _ e' G' a' w' hq hr' hk
theorem aC.objs {fr:Fr} {gs:List Nat} {loc:List (Nat×List AV)} {objs:Ob} {base:Nat→Option (List AV)} {A B:Ob} (sel:List Nat) (h:qU sel objs=some (A,B)) (k:aC P n ops l ⟨fr,gs,loc,A,base⟩ Q):aC P n ops l ⟨fr,gs,loc,objs,base⟩ Q:=by
  intro G a w K hr hfx hK
  have hAB:=pH (gB h).symm hr.nd
  refine k G a w K ⟨hr.size,hr.defers,hr.slot,hr.off,hr.gs,hr.loc,?_,?_⟩ hfx hK
  ·refine hr.mem.sub fun id c hc=>?_
   show lay objs base id=some c
   rw [←zG (gB h) hAB.1]
   exact M9 hAB id c hc
  ·obtain ⟨a1,a2⟩:=hAB
   rw [List.map_append] at a1 a2
   exact ⟨(List.nodup_append.1 a1).1,fun i hi=>a2 i (List.mem_append_left _ hi)⟩
theorem CWp.label {l:Nat} (h:QE .normal e):CWp P n (.label l) e QE:=by
  intro G a w K hr hfx hK
  exact wp_label (hK _ _ _ _ _ h hr (Keep.refl _ _))
theorem CWp.scope {c:Code} (h:CWp P n c e fun z e'=>match z with| .goto _=>False|z=>QE z e'):CWp P n (.scope c) e QE:=by
  intro G a w K hr hfx hK
  refine wp_scope_straight (h G a w _ hr hfx ?_)
  intro z e' G' a' w' hq hr' hk
  cases z with
  |goto l=>exact hq.elim
  |_=>exact hK _ _ _ _ _ hq hr' hk
def f2i (b:Nat):Option Int:=match (FloatKind.f64.decode b).toInt .zero with
  |some z=>if (IntKind.i64.min≤z∧z≤IntKind.i64.max) then some z else none
  |none=>none
theorem XP [I:HasTab P] {b:Nat} {r:Int} {z1 z2:Nat} (he:f2i b=some r) (ho:o.op= .convert t t' x:=by rfl) (h1:(HasTab.T P).look t=some (.float .f64,z1):=by rfl) (h2:(HasTab.T P).look t'=some (.int .i64,z2):=by rfl) (hx:evE e.fr C x= .lit (.float .f64 b):=by rfl):aH P n (e.st C) o d (zI r):=by
  obtain ⟨⟨D,hD,hk⟩,_⟩:=Tab.ok I.tok h1
  have:=PJ hk;subst this
  obtain ⟨⟨D2,hD2,hk2⟩,_⟩:=Tab.ok I.tok h2
  have:=vV hk2;subst this
  intro G a w h
  refine ⟨_,bZ _,fun w' _=>?_⟩
  have hav:=h.evLit (bK hx)
  unfold f2i at he
  split at he
  ·rename_i z hz
   split at he
   ·rename_i hr
    cases he
    simp only [execOp,ho,hav]
    simp only [convert,Sem.run_bind,run_underlying hD,run_underlying hD2,Result.andThen]
    have h2:r≤9223372036854775807:=hr.2
    have h3: -9223372036854775808≤r:=hr.1
    simp [Conv.floatToInt,hz,h2,h3,IntKind.min,IntKind.max,IntKind.signed,IntKind.bits]
   ·cases he
  ·cases he
end
end
section
open Go.RowKit
def b5 (P:Program) (n:Nat) (ops:Array Oper) (l:List Oper) (e:Es) (Q:Es→Prop):Prop:=
  ∀(G:Gh) (a:Act) (W:World) (K:Act→Prop),RelE P G n e a W→Fix G W→(∀e' a',Q e'→RelE P G n e' a' W→K a')→wpE P ops W K l a
def BL (P:Program) (n:Nat) (ops:Array Oper) (e:Es) (o:Oper) (e':Es):Prop:=
  ∃C d v,bH ops e.fr o=some C∧o.dst=some d∧d<n∧cT d (j7 C e.gs)=false∧e'=e.put d C v∧
   ∀(G:Gh) (a:Act) (W:World),RelE P G n e a W→fV C a→∃u,bE P G W (.slot d) v u∧∀w':World,Below W.heap.size W w'→(execOp a.eval o).run P w'= .ok (.value u) w'
section
variable {P:Program} {n:Nat} {e e':Es} {ops:Array Oper} {l rest:List Oper} {o:Oper} {Q:Es→Prop} {QE:Exit→Es→Prop} {d:Nat} {T:Tab} {Z:Zt} {v:AV} {C:Cnd} {t t' E:Nat} {x y:Operand} {H H':List Nat} {q:List (Nat×Nat)}
theorem b5.nil (h:Q e):b5 P n ops [] e Q:=fun _G a _W _K hr _ hK=>hK e a h hr
theorem b5.of (h:e.nd→BL P n ops e o e') (k:b5 P n ops rest e' Q):b5 P n ops (o::rest) e Q:=by
  intro G a W K hr hfx hK
  obtain ⟨C,d,v,hC,hd,hn,hg,rfl,hy⟩:=h hr.nd
  have hw:=xW hr hC
  unfold wpE
  cases hx:Region.wanted o (yielded ops a.tmps) with
  |true=>
   rw [if_pos rfl]
   obtain ⟨u,hu,hrun⟩:=hy G a W hr (hw.1 hx)
   refine ⟨u,fun x=>?_,?_⟩
   ·rw [hrun x.val x.below];exact ⟨rfl,rfl⟩
   ·rw [hd]
    exact k G _ W K (hr.put hC hn (jM hg) (fun _=>hu) (fun hc=>absurd (hw.1 hx) hc)) hfx hK
  |false=>
   rw [if_neg (by simp),hd]
   refine k G _ W K (hr.put hC hn (jM hg) (fun hc=>?_) (fun _=>rfl)) hfx hK
   obtain ⟨t,want,r,rfl,hne⟩:=hw.2 hx
   exact absurd (hc _ (List.mem_cons_self ..)) hne
theorem BK (hC:bH ops e.fr o=some C) (hd:o.dst=some d) (hn:d<n) (hg:cT d (j7 C e.gs)=false) (h:mX e.fr C C→aH P n (e.st C) o d v):BL P n ops e o (e.put d C v):=by
  refine ⟨C,d,v,hC,hd,hn,hg,rfl,fun G a W hr hc=>?_⟩
  obtain ⟨u,hu,hrun⟩:=h (uK (hr.st hc) hc) G a W (hr.st hc)
  exact ⟨u,hu,hrun⟩
theorem OD {s:St} (hx:o.op= .assign (.const (.slice none 0 0))):aH P n s o d (.list true E []):=by
  intro G a w hr
  refine ⟨.slice none 0 0,(Or.inr ⟨rfl,Or.inl rfl⟩:eM P G w (.slot d 0) (.list true E []) (.slice none 0 0)),fun w' _=>?_⟩
  simp [execOp,hx,Act.eval]
theorem OY {c x y:Operand} (ho:o.op= .pick c x y) (hv:E1 e.fr C c x y=some v) (hC:bH ops e.fr o=some C) (hd:o.dst=some d) (hn:d<n) (hg:cT d (j7 C e.gs)=false):BL P n ops e o (e.put d C v):=by
  refine ⟨C,d,v,hC,hd,hn,hg,rfl,fun G a w hr hc=>?_⟩
  unfold E1 at hv
  split at hv
  ·rename_i t
   split at hv
   ·rename_i b hb
    have hs:=(hr.st hc).slot t
    rw [cD,hb] at hs
    have htb:=bE.lit hs
    split at hv
    ·rename_i p hp
     split at hv
     ·rename_i q hq
      have hval:(if b then a.eval x else a.eval y)= .bool (bif b then p else q):=by
        cases b with
        |true=>
         rw [n3] at hp
         exact (hr.st (wC hc htb)).evLit hp
        |false=>
         rw [n3] at hq
         exact (hr.st (wC hc htb)).evLit hq
      have hlit:v= .lit (.bool (bif b then p else q)):=by
        cases h1:isC x with
        |true=>
         rw [h1] at hv
         simp only [cond_true] at hv
         cases p<;>cases hv<;>cases b<;>rfl
        |false=>
         rw [h1] at hv
         simp only [cond_false] at hv
         cases h2:isC y with
         |true=>
          rw [h2] at hv
          simp only [cond_true] at hv
          cases q<;>cases hv<;>cases b<;>simp
         |false=>
          rw [h2] at hv
          simp only [cond_false] at hv
          cases hv;rfl
      refine ⟨.bool (bif b then p else q),by rw [hlit];exact bZ _,fun w' _=>?_⟩
      rw [←hval]
      have:a.eval (.tmp t)= .bool b:=htb
      simp [execOp,ho,this,asBool]
     ·cases hv
    ·cases hv
   ·cases hv
  ·cases hv
def RB (T:Tab) (Z:Zt) (n:Nat) (ops:Array Oper) (H:List Nat) (e:Es) (o:Oper):Out:=
  match bH ops e.fr o with
  |none=>none
  |some C=>BP C fun C=>match o.dst with
   |some d=>match o.op with
    | .assign x=>bif wJ x then ok0 (fI n e d C (match n1 T o.type with|some E=>some (.list true E [])|none=>none)) H else ok0 (fI n e d C (lY T (evE e.fr C) e.loc (.assign x))) H
    | .pick c x y=>ok0 (fI n e d C (E1 e.fr C c x y)) H
    | .build t ps=>ok0 (fI n e d C (II T Z false (evE e.fr C) t ps.toList)) H
    | .load t x=>match evE e.fr C x with
      | .gptr id k=>match H with
        |j::H=>match e.objs[j]? with
         |some (id',cs)=>match wL T t cs k with
          |some v=>bif scl cs&&v.flat then (match fI n e d C (some v) with
           |some e'=>some (e',[(id,id')],H)
           |none=>none) else none
          |none=>none
         |none=>none
        |[]=>none
      |_=>ok0 (fI n e d C (lY T (evE e.fr C) e.loc (.load t x))) H
    | .call c=>match c.callee with
      | .builtin .len=>match c.args.toList with
        |[x]=>match evE e.fr C x with
         | .list _ _ xs=>match c.argTypes.toList with
           |[t]=>match n1 T t with
            |some _=>match H with
             |m::H=>match fI n e d C (some (.lit (.int .i64 (m:Int)))) with
              |some e'=>some (e',[(xs.length,m)],H)
              |none=>none
             |[]=>none
            |none=>none
           |_=>none
         |_=>ok0 (fI n e d C (lY T (evE e.fr C) e.loc (.call c))) H
        |_=>none
      |_=>ok0 (fI n e d C (lY T (evE e.fr C) e.loc (.call c))) H
    |op=>ok0 (fI n e d C (lY T (evE e.fr C) e.loc op)) H
   |none=>none
theorem uH {v:Option AV} (hC:bH ops e.fr o=some C) (hd:o.dst=some d) (h:fI n e d C v=some e') (hv:∀v',v=some v'→aH P n (e.st C) o d v'):BL P n ops e o e':=by
  obtain ⟨v',rfl,rfl,h1,h2⟩:=B6 h
  exact BK hC hd h1 h2 (fun _=>hv v' rfl)
theorem rL (hT:eX P T) {op:Op} (hC:bH ops e.fr o=some C) (hd:o.dst=some d) (ho:o.op=op) (h:fI n e d C (lY T (evE e.fr C) e.loc op)=some e'):BL P n ops e o e':=by
  refine uH hC hd h (fun v' hv=>?_)
  rw [dI] at hv
  exact NT (s:=e.st C) hT ho hv
theorem T4 (hT:eX P T) (hZ:wY P Z) (hnd:e.nd) (h:RB T Z n ops H e o=some (e',q,H')) (hq:iC q):BL P n ops e o e':=by
  unfold RB at h
  split at h
  ·cases h
  rename_i C hC
  rw [AC] at h
  split at h
  ·rename_i d hd
   split at h
   ·rename_i x ho
    cases hb:wJ x with
    |true=>
     rw [hb] at h
     have:=GJ hb
     subst this
     refine uH hC hd (eJ h).1 (fun v' hv=>?_)
     split at hv
     ·cases hv;exact OD ho
     ·cases hv
    |false=>rw [hb] at h;exact rL hT hC hd ho (eJ h).1
   ·rename_i c x y ho
    obtain ⟨v',hv,rfl,h1,h2⟩:=B6 (eJ h).1
    exact OY ho hv hC hd h1 h2
   ·rename_i t ps ho
    refine uH hC hd (eJ h).1 (fun v' hv=>?_)
    rw [dI] at hv
    exact KM hT hZ ho hv
   ·rename_i t x ho
    split at h
    ·rename_i id kk hx
     rw [n3] at hx
     split at h
     ·rename_i H0 j H1
      split at h
      ·rename_i id' cs hj
       split at h
       ·rename_i v hv
        cases hc:(scl cs&&v.flat) with
        |false=>rw [hc] at h;cases h
        |true=>
         rw [hc] at h
         simp only [Bool.and_eq_true] at hc
         simp only [cond_true] at h
         split at h
         ·rename_i e2 hs
          cases h
          have:id=id':=hq.1
          subst this
          refine uH hC hd hs (fun v' hv'=>?_)
          cases hv'
          obtain ⟨D,size,h1,h2,h3⟩:=pN hT hv
          exact s3 ho h1 h2 hx (cS hnd.1 hj) h3 hc.2 (kZ hc.1).1 (kZ hc.1).2
         ·cases h
       ·cases h
      ·cases h
     ·cases h
    ·exact rL hT hC hd ho (eJ h).1
   ·rename_i c ho
    split at h
    ·rename_i hc
     split at h
     ·rename_i x ha
      split at h
      ·rename_i o2 E2 xs hx
       rw [n3] at hx
       split at h
       ·rename_i t hat
        split at h
        ·rename_i E hel
         unfold n1 at hel
         split at hel
         ·rename_i E3 z hl
          obtain ⟨⟨D,hD,hk⟩,_⟩:=Tab.ok hT hl
          have:=bU hk;subst this
          split at h
          ·rename_i H0 m H1
           split at h
           ·rename_i e2 hs
            cases h
            have:xs.length=m:=hq.1
            refine uH hC hd hs (fun v' hv'=>?_)
            cases hv'
            exact FF ho hc (Array.toList_inj.1 ha) (Array.toList_inj.1 hat) hD hx this
           ·cases h
          ·cases h
         ·cases hel
        ·cases h
       ·cases h
      ·exact rL hT hC hd ho (eJ h).1
     ·cases h
    ·exact rL hT hC hd ho (eJ h).1
   ·exact rL hT hC hd rfl (eJ h).1
  ·cases h
def NO (T:Tab) (Z:Zt) (n:Nat) (ops:Array Oper):Nat→List Nat→List Oper→Es→List (Nat×Nat)→Option (List Oper×Es×List (Nat×Nat))
  |0,[],l,e,q=>some (l,e,q)
  |k+1,H,o::l,e,q=>match RB T Z n ops H e o with
   |some (e',q',H')=>NO T Z n ops k H' l e' (q'++q)
   |none=>none
  |_,_,_,_,_=>none
theorem JR (hT:eX P T) (hZ:wY P Z):∀(m:Nat) (H:List Nat) (l:List Oper) (e:Es) (q0:List (Nat×Nat)) {l':List Oper} {e':Es} {q:List (Nat×Nat)},NO T Z n ops m H l e q0=some (l',e',q)→(iC q→iC q0)∧(iC q→b5 P n ops l' e' Q→b5 P n ops l e Q)
  |0,[],l,e,q0,l',e',q,h=>by cases h;exact ⟨id,fun _ k=>k⟩
  |m+1,H,o::l,e,q0,l',e',q,h=>by
   unfold NO at h
   split at h
   ·rename_i e1 q1 H1 hs
    obtain ⟨h1,h2⟩:=JR hT hZ m H1 l e1 (q1++q0) h
    exact ⟨fun hq=>(z6 (h1 hq)).2,fun hq k=>b5.of (fun hnd=>T4 hT hZ hnd hs (z6 (h1 hq)).1) (h2 hq k)⟩
   ·cases h
  |0,_::_,l,e,q0,l',e',q,h=>by cases h
  |m+1,H,[],e,q0,l',e',q,h=>by cases h
theorem pn [I:HasTab P] {l':List Oper} (m:Nat) (h:NO (HasTab.T P) (HasTab.Z P) n ops m [] l e []=some (l',e',[])) (k:b5 P n ops l' e' Q):b5 P n ops l e Q:=(JR I.tok I.zok m [] l e [] h).2 trivial k
theorem ph [I:HasTab P] {l':List Oper} (m:Nat) (H:List Nat) (h:NO (HasTab.T P) (HasTab.Z P) n ops m H l e []=some (l',e',q)) (hq:iC q) (k:b5 P n ops l' e' Q):b5 P n ops l e Q:=(JR I.tok I.zok m H l e [] h).2 hq k
theorem pd {fr:Fr} {gs:List Nat} {loc:List (Nat×List AV)} {objs:Ob} {base:Nat→Option (List AV)} (h:aH P n ((⟨fr,gs,loc,objs,base⟩:Es).st []) o d v) (g:b5 P n ops rest ⟨(d,[],v)::fr,gs,loc,objs,base⟩ Q)
    (hC:bH ops fr o=some []:=by rfl) (hd:o.dst=some d:=by rfl) (hn:Nat.blt d n=true:=by rfl) (hg:cT d gs=false:=by rfl):b5 P n ops (o::rest) ⟨fr,gs,loc,objs,base⟩ Q:=
  b5.of (e':=⟨(d,[],v)::fr,gs,loc,objs,base⟩) (fun _=>BK (e:=⟨fr,gs,loc,objs,base⟩) hC hd (Nat.le_of_ble_eq_true hn) hg (fun _=>h)) g
theorem pdg {fr:Fr} {gs:List Nat} {loc:List (Nat×List AV)} {objs:Ob} {base:Nat→Option (List AV)} (t:Nat) (b:Bool) (D:Cnd) (h:mX fr ((t,b)::D) ((t,b)::D)→aH P n ((⟨fr,gs,loc,objs,base⟩:Es).st ((t,b)::D)) o d v) (g:b5 P n ops rest ⟨(d,(t,b)::D,v)::fr,t::gs,loc,objs,base⟩ Q)
    (hC:bH ops fr o=some ((t,b)::D):=by rfl) (hd:o.dst=some d:=by rfl) (hn:Nat.blt d n=true:=by rfl) (hg:cT d (t::gs)=false:=by rfl):b5 P n ops (o::rest) ⟨fr,gs,loc,objs,base⟩ Q:=
  b5.of (e':=⟨(d,(t,b)::D,v)::fr,t::gs,loc,objs,base⟩) (fun _=>BK (e:=⟨fr,gs,loc,objs,base⟩) hC hd (Nat.le_of_ble_eq_true hn) hg h) g
theorem b5.call [I:HasTab P] {f:FuncId} {c:Call} {args:List AV} {u0:Value} (C:Cnd) (he:i8 P f) (h:mX e.fr C C→aI P f args v) (hv:conc v=some u0) (ha:nX (HasTab.T P) (evE e.fr C) c.args.toList c.argTypes.toList=some args)
    (g:b5 P n ops rest (e.put d C v) Q)
    (hC:bH ops e.fr o=some C) (hg:cT d (j7 C e.gs)=false) (hd:o.dst=some d) (hn:Nat.blt d n=true) (ho:o.op= .call c) (hc:c.callee= .value (.func f)):b5 P n ops (o::rest) e Q:=by
  rw [dI] at ha
  obtain ⟨h1,h2⟩:=pM ha
  have hn':d<n:=Nat.le_of_ble_eq_true hn
  intro G a W K hr hfx hK
  have hw:=xW hr hC
  unfold wpE
  cases hx:Region.wanted o (yielded ops a.tmps) with
  |true=>
   rw [if_pos rfl]
   have hcc:=hw.1 hx
   have key:=B7.call (P:=P) (n:=n) (s:=e.st C) (ops:=ops) (o:={o with guard:=none}) (rest:=[]) (Q:=fun s'=>s'=(e.st C).put d v) (M':=fun M1=>noM=M1) trivial hd hn' ho hc he (sQ h2) (by simpa using h1.len) (fun j x v hj hv=>h1.at j x v (by simpa using hj) hv) ((h (uK (hr.st hcc) hcc)).all noM) hv (B7.nil rfl)
     G a W (fun a'=>RelSt P G n ((e.st C).put d v) a' W) (hr.st hcc) hfx (fun s' a' hs' hr'=>by subst hs';exact hr')
   unfold wpE at key
   rw [if_pos (by rfl)] at key
   obtain ⟨u,hat,hrel⟩:=key
   have hrel':RelSt P G n ((e.st C).put d v) (a.put o.dst u) W:=hrel
   refine ⟨u,hat,?_⟩
   rw [hd] at hrel' ⊢
   have hu:=hrel'.slot d
   rw [eH _ _ _ _ (by rw [hr.size];exact hn'),if_pos rfl] at hu
   have e1:St.get ((e.st C).put d v) d=v:=by
     show look .any ((d,v)::(e.st C).fr) d=v
     simp [look]
   rw [e1] at hu
   exact g G _ W K (hr.put hC hn' (jM hg) (fun _=>hu) (fun hcx=>absurd hcc hcx)) hfx hK
  |false=>
   rw [if_neg (by simp),hd]
   refine g G _ W K (hr.put hC hn' (jM hg) (fun hc=>?_) (fun _=>rfl)) hfx hK
   obtain ⟨t,want,r,rfl,hne⟩:=hw.2 hx
   exact absurd (hc _ (List.mem_cons_self ..)) hne
theorem kC [I:HasTab P] {fr:Fr} {gs:List Nat} {loc:List (Nat×List AV)} {objs:Ob} {base:Nat→Option (List AV)} {f:FuncId} {c:Call} {args:List AV} {u0:Value} (he:i8 P f) (h:aI P f args v) (ha:nX (HasTab.T P) (evE fr []) c.args.toList c.argTypes.toList=some args)
    (g:b5 P n ops rest ⟨(d,[],v)::fr,gs,loc,objs,base⟩ Q) (hv:conc v=some u0:=by rfl)
    (hC:bH ops fr o=some []:=by rfl) (hd:o.dst=some d:=by rfl) (hg:cT d gs=false:=by rfl) (hn:Nat.blt d n=true:=by rfl) (ho:o.op= .call c:=by rfl) (hc:c.callee= .value (.func f):=by rfl):b5 P n ops (o::rest) ⟨fr,gs,loc,objs,base⟩ Q:=
  b5.call (e:=⟨fr,gs,loc,objs,base⟩) [] he (fun _=>h) hv ha g hC hg hd hn ho hc
theorem WK [I:HasTab P] {fr:Fr} {gs:List Nat} {loc:List (Nat×List AV)} {objs:Ob} {base:Nat→Option (List AV)} {f:FuncId} {c:Call} {args:List AV} {u0:Value} (t:Nat) (b:Bool) (D:Cnd) (he:i8 P f) (h:mX fr ((t,b)::D) ((t,b)::D)→aI P f args v) (ha:nX (HasTab.T P) (evE fr ((t,b)::D)) c.args.toList c.argTypes.toList=some args)
    (g:b5 P n ops rest ⟨(d,(t,b)::D,v)::fr,t::gs,loc,objs,base⟩ Q) (hv:conc v=some u0:=by rfl)
    (hC:bH ops fr o=some ((t,b)::D):=by rfl) (hd:o.dst=some d:=by rfl) (hg:cT d (t::gs)=false:=by rfl) (hn:Nat.blt d n=true:=by rfl) (ho:o.op= .call c:=by rfl) (hc:c.callee= .value (.func f):=by rfl):b5 P n ops (o::rest) ⟨fr,gs,loc,objs,base⟩ Q:=
  b5.call (e:=⟨fr,gs,loc,objs,base⟩) ((t,b)::D) he h hv ha g hC hg hd hn ho hc
theorem CWp.drawn {id:Nat} (m:Nat) (hB:JO l m 0=true) (h:b5 P n l.toArray (l.take m) e fun e1=>aC P n l.toArray (l.drop m) e1 (QE .normal)) (hm:P.follows .mixedOrders=true:=by rfl) (hf:a7 e.fr=true:=by rfl):CWp P n (.region id l.toArray true) e QE:=by
  intro G a w K hr hfx hK
  refine NY m hm hB (h G a w _ (RelE.of hr.1 hf hr.2) hfx ?_)
  intro e1 a1 hq hr1 x
  have hr2:RelE P G n e1 a1 x.val:=by
    have hst:∀C,fV C a1→RelSt P G n (e1.st C) a1 x.val:=fun C hC=>((hr1.st hC).later x.below).1
    refine ⟨hr1.size,hr1.defers,fun i hc=>?_,hr1.off,hr1.gs,(hst [] bF).loc,(hst [] bF).mem,hr1.nd⟩
    have h3:=(hst _ hc).slot i
    rw [cD] at h3
    unfold bX dA at h3
    rw [show pL (aY e1.fr i).1 (aY e1.fr i).1=true from KL _] at h3
    exact h3
  exact hq G a1 x.val K hr2 (hfx.keep ((hr1.st bF).later x.below).2) fun e' G' a' w' hq' hr' hk'=>hK _ _ _ _ _ hq' hr' (((hr1.st bF).later x.below).2.trans hk')
theorem pQ {α β:Type} {r:Result α} {f:α→World→Result β} {v:β} {w:World} (h:r.andThen f= .ok v w):∃u w1,r= .ok u w1∧f u w1= .ok v w:=by
  cases r with
  |ok u w1=>exact ⟨u,w1,rfl,h⟩
  |halt x w1=>cases h
theorem S2 {t:TypeId} {len:Nat} {ps:Array (Nat×Value)} {w w':World} {v:Value} (h:(Instr.buildSlice t len ps).run P w= .ok v w'):Below w.heap.size w w':=by
  have key:w'=w∨∃o,w'=w.alloc o:=by
    unfold Instr.buildSlice at h
    simp only [Sem.run_bind] at h
    obtain ⟨d,w1,h1,g1⟩:=pQ h
    clear h
    have e1:w1=w:=by
      simp only [underlying,Sem.run_bind,run_program,Result.andThen] at h1
      split at h1<;>simp_all
    subst e1
    clear h1
    split at g1
    ·simp only [Sem.run_bind] at g1
     obtain ⟨sz,w2,h2,g2⟩:=pQ g1
     clear g1
     have e2:w2=w1:=by
       simp only [sizeOf,Sem.run_bind] at h2
       obtain ⟨i,w3,h3,h4⟩:=pQ h2
       have:=MapKept.run_typeInfo_world h3
       simp at h4
       rw [←h4.2,this]
     subst e2
     clear h2
     split at g2
     ·cases g2
     ·split at g2
      ·simp only [Sem.run_bind,Sem.run_pure,Result.andThen_ok] at g2
       split at g2
       ·simp only [newRow,Sem.run_bind,run_newObj_alloc,Result.andThen,Sem.run_pure] at g2
        cases g2
        exact .inr ⟨_,rfl⟩
       ·cases g2
      ·simp only [Sem.run_bind] at g2
       obtain ⟨z',w4,h4,g3⟩:=pQ g2
       clear g2
       have:=MapKept.run_zeroValue_world h4
       subst this
       simp only [Sem.run_pure,Result.andThen_ok] at g3
       split at g3
       ·simp only [newRow,Sem.run_bind,run_newObj_alloc,Result.andThen,Sem.run_pure] at g3
        cases g3
        exact .inr ⟨_,rfl⟩
       ·cases g3
    ·cases g1
  rcases key with rfl|⟨o,rfl⟩
  ·exact Below.refl _ _
  ·exact (Below.refl _ _).alloc (Nat.le_refl _) _
theorem CWp.ahead {id:Nat} (m:Nat) (hB:G7 l m=true) (h:b5 P n l.toArray (l.take m) e fun e1=>∃E2,aC P n l.toArray ((l.drop m).take 1) e1 (fun e2=>e2=E2)∧a7 E2.fr=true∧aC P n l.toArray (l.drop (m+1)) E2 (QE .normal)) (hm:P.follows .mixedOrders=true:=by rfl) (hf:a7 e.fr=true:=by rfl):CWp P n (.region id l.toArray true) e QE:=by
  intro G a w K0 hr hfx hK0
  have hlt:m<l.length:=by
    simp only [G7,Bool.and_eq_true,decide_eq_true_eq] at hB
    exact hB.1.1.1.1
  have hTn:l[m]? =some l[m]:=by simp
  generalize l[m]=T at hTn
  have hst:(∃t p v,T.op= .buildSlice t p v)∧T.guard=none:=by
    simp only [G7,Bool.and_eq_true] at hB
    have:=hB.1.1.2
    simp only [S0,hTn,Bool.and_eq_true] at this
    obtain ⟨⟨⟨⟨⟨⟨h1,h2⟩,h3⟩,_⟩,_⟩,_⟩,_⟩:=this
    refine ⟨?_,by simpa using h2⟩
    cases ho:T.op with
    |buildSlice t p v=>exact ⟨t,p,v,rfl⟩
    |_=>rw [ho] at h1;cases h1
  obtain ⟨⟨t,p,v,ho⟩,hg⟩:=hst
  refine OX m T hTn hm hB (h G a w _ (RelE.of hr.1 hf hr.2) hfx ?_)
  rintro e1 a1 ⟨E2,hq,hf2,hq2⟩ hr1 x
  have hr2:RelE P G n e1 a1 x.val:=by
    have hst:∀C,fV C a1→RelSt P G n (e1.st C) a1 x.val:=fun C hC=>((hr1.st hC).later x.below).1
    refine ⟨hr1.size,hr1.defers,fun i hc=>?_,hr1.off,hr1.gs,(hst [] bF).loc,(hst [] bF).mem,hr1.nd⟩
    have h3:=(hst _ hc).slot i
    rw [cD] at h3
    unfold bX dA at h3
    rw [show pL (aY e1.fr i).1 (aY e1.fr i).1=true from KL _] at h3
    exact h3
  have hkx:=((hr1.st bF).later x.below).2
  have hL:=hq G a1 x.val (fun y a w=>y= .normal∧∃G',fU P G' n E2 a w∧Keep G x.val G' w) hr2 (hfx.keep hkx) fun e' G' a' w' hq' hr' hk'=>⟨rfl,G',by rw [←hq'];exact hr',hk'⟩
  have hdrop:(l.drop m).take 1=[T]:=by
    obtain ⟨h1,h2⟩:=List.getElem?_eq_some_iff.1 hTn
    rw [List.drop_eq_getElem_cons h1,h2];rfl
  rw [hdrop] at hL
  unfold wpList at hL
  simp only [Region.wanted,hg,if_true] at hL
  rcases hL with hL|⟨_,_,_,hL,_⟩
  ·unfold Oper.wp at hL
   have he:(execOp a1.eval T).run P x.val=((Instr.buildSlice t p (v.map fun (i,x)=>(i,a1.eval x))).run P x.val).andThen fun u w=>(pure (Next.value u):Sem Next).run P w:=by
     simp only [execOp,ho,Sem.run_bind]
   rw [he] at hL ⊢
   cases hr':(Instr.buildSlice t p (v.map fun (i,x)=>(i,a1.eval x))).run P x.val with
   |ok u w'=>
    rw [hr'] at hL
    obtain ⟨_,G',hr3,hk3⟩:(Exit.normal=Exit.normal∧∃G',fU P G' n E2 (a1.put T.dst u) w'∧Keep G x.val G' w'):=hL
    refine ⟨u,w',rfl,S2 hr',fun y=>?_⟩
    obtain ⟨h5,h6⟩:=hr3.1.later y.below
    exact hq2 G' _ y.val K0 (RelE.of h5 hf2 hr3.2) (((hfx.keep hkx).keep hk3).keep h6) fun e' G2 a' w2 hq' hr' hk'=>hK0 _ _ _ _ _ hq' hr' (hkx.trans (hk3.trans (h6.trans hk')))
   |halt y w'=>
    rw [hr'] at hL
    cases y with
    |panic v=>exact absurd hL.1 (by intro e;cases e)
    |_=>exact hL.elim
  ·cases hL
def DN (p:Nat→Prop):List Nat→Prop
  |[]=>True
  |i::r=>p i∧DN p r
theorem DN.at {p:Nat→Prop}:∀{l:List Nat},DN p l→∀i∈l,p i
  |_::_,h,i,hi=>by
   rcases List.mem_cons.1 hi with rfl|hi
   ·exact h.1
   ·exact h.2.at i hi
def eU (P:Program) (n:Nat) (ops:Array Oper) (F:Array Bool) (E:Es):Nat→Array Bool→Es→Prop
  |0,listed,e=>listed=F∧e=E
  |k+1,listed,e=>∃i r,Region.ready .any ops listed=i::r∧DN (fun i=>∃o,ops[i]? =some o∧aC P n ops [o] e fun e'=>a7 e'.fr=true∧eU P n ops F E k (listed.setIfInBounds i true) e') (i::r)
theorem fQ {p:Nat→Prop}:DN p []:=trivial
theorem dE {p:Nat→Prop} {i:Nat} {r:List Nat} (h:p i) (h':DN p r):DN p (i::r):=⟨h,h'⟩
theorem eU.step {F:Array Bool} {E:Es} {k:Nat} {listed:Array Bool} (i:Nat) (r:List Nat) (hr:Region.ready .any ops listed=i::r) (h:DN (fun i=>∃o,ops[i]? =some o∧aC P n ops [o] e fun e'=>a7 e'.fr=true∧eU P n ops F E k (listed.setIfInBounds i true) e') (i::r)):eU P n ops F E (k+1) listed e:=⟨i,r,hr,h⟩
theorem eU.sound {F:Array Bool} {E:Es} {Q:Exit→Act→World→Prop} {j:Nat}:∀(k:Nat) (listed:Array Bool) (e:Es),eU P n ops F E k listed e→a7 e.fr=true→∀(G:Gh) (a:Act) (w:World),fU P G n e a w→Fix G w→
    (∀G' a' w',fU P G' n E a' w'→Keep G w G' w'→wpAny P .any ops Q j F a' w')→wpAny P .any ops Q (k+j) listed a w
  |0,listed,e,⟨h1,h2⟩,_,G,a,w,hr,_,hK=>by
   subst h1;subst h2
   rw [Nat.zero_add]
   exact hK G a w hr (Keep.refl _ _)
  |k+1,listed,e,⟨i0,r,h1,h2⟩,hf,G,a,w,hr,hfx,hK=>by
   rw [show k+1+j=(k+j)+1 by omega]
   refine ⟨fun e0=>(by rw [h1] at e0;cases e0),fun i hi=>?_⟩
   rw [h1] at hi
   obtain ⟨o,ho,hop⟩:=h2.at i hi
   have:=hop G a w (fun e a w=>match e with| .normal=>wpAny P .any ops Q (k+j) (listed.setIfInBounds i true) a w|e=>Q e a w) (RelE.of hr.1 hf hr.2) hfx
     (fun s' G' a' w' hq hr' hk'=>eU.sound k _ s' hq.2 hq.1 G' a' w' hr' (hfx.keep hk') fun G2 a2 w2 hr2 hk2=>hK G2 a2 w2 hr2 (hk'.trans hk2))
   unfold wpOp
   simp only [ho]
   simp only [wpList] at this
   split at this
   ·rename_i hw
    rw [if_pos hw]
    rcases this with h1|h1
    ·left
     unfold Oper.wp at h1 ⊢
     generalize (execOp a.eval o).run P w=r at h1 ⊢
     cases r with
     |ok nx w'=>cases nx<;>exact h1
     |halt x w'=>cases x<;>exact h1
    ·right;exact h1
   ·rename_i hw
    rw [if_neg hw];exact this
theorem SV {id:Nat} (m:Nat) (E:Es) (hB:(Nat.ble m l.length&&Region.seqB .any l.toArray (l.length-m) m (List.replicate m true++List.replicate (l.length-m) false).toArray)=true)
    (h:eU P n l.toArray (List.replicate m true++List.replicate (l.length-m) false).toArray E m (List.replicate l.length false).toArray e) (k:aC P n l.toArray (l.drop m) E (QE .normal))
    (hm:P.follows .mixedOrders=true:=by rfl) (hf:a7 e.fr=true:=by rfl) (hE:a7 E.fr=true:=by rfl):CWp P n (.region id l.toArray true) e QE:=by
  intro G a w K hr hfx hK
  refine wp_region_any hm ?_
  rw [Bool.and_eq_true] at hB
  have hle:=Nat.le_of_ble_eq_true hB.1
  have hl:∀C,fU P G n C a w→fU P G n C a {w with drawn:=w.drawn+1}∧Keep G w G {w with drawn:=w.drawn+1}:=fun C hc=>by
    obtain ⟨h1,h2⟩:=hc.1.later (rO w)
    exact ⟨⟨h1,hc.2⟩,h2⟩
  obtain ⟨hr1,hk1⟩:=hl e hr
  have e1:l.toArray.size=m+(l.length-m):=by simp;omega
  have e2:Array.replicate l.toArray.size false=(List.replicate l.length false).toArray:=by simp
  rw [e2,e1]
  refine eU.sound m _ e h hf G a _ hr1 (hfx.keep hk1) fun G' a' w' hr' hk'=>?_
  have e3:l.length-m=(l.drop m).length:=by simp
  have:=k G' a' w' K (RelE.of hr'.1 hE hr'.2) ((hfx.keep hk1).keep hk') fun e' G2 a2 w2 hq hr2 hk2=>hK _ _ _ _ _ hq hr2 (hk1.trans (hk'.trans hk2))
  have h4:=hB.2
  rw [e3] at h4 ⊢
  exact wpAny_of_seq (l.drop m) m _ a' w' (fun j=>by simp) h4 this
end
section
variable {P:Program} {n:Nat} {e e':Es} {ops:Array Oper} {l rest:List Oper} {o:Oper} {Q:Es→Prop} {QE:Exit→Es→Prop} {d:Nat} {v:AV} {C:Cnd} {t t' E:Nat} {x y:Operand}
theorem RelE.bool {e:Es} {G:Gh} {a:Act} {w:World} {t:Nat} {b:Bool} (hr:RelE P G n e a w) (hv:bX e.fr [] t= .lit (.bool b)):a.tmps[t]? =some (.bool b):=by
  have h0:=(hr.st bF).slot t
  rw [cD,hv] at h0
  have h1:a.tmps.getD t undef= .bool b:=by
    have h2:RelV P G w (.lit (.bool b)) (a.tmps.getD t undef):=h0
    generalize a.tmps.getD t undef=u at h2
    cases h2;rfl
  rw [Array.getD_eq_getD_getElem?] at h1
  cases hx:a.tmps[t]? with
  |none=>rw [hx] at h1;cases h1
  |some u=>rw [hx] at h1;exact congrArg some h1
theorem nA {α:Type _} {b:Bool} {X Y:Option α} {r:α} {fr:Fr} {gs:List Nat} {loc:List (Nat×List AV)} {objs:Ob} {base:Nat→Option (List AV)} (t:Nat) (h:(bif b then X else Y)=some r) (hx:bX fr [] t= .lit (.bool b))
    (k1:X=some r→aC P n ops l ⟨(t,[],.lit (.bool true))::fr,gs,loc,objs,base⟩ Q) (k2:Y=some r→aC P n ops l ⟨(t,[],.lit (.bool false))::fr,gs,loc,objs,base⟩ Q):aC P n ops l ⟨fr,gs,loc,objs,base⟩ Q:=by
  have key:∀G a w,RelE P G n ⟨fr,gs,loc,objs,base⟩ a w→RelE P G n ⟨(t,[],.lit (.bool b))::fr,gs,loc,objs,base⟩ a w:=by
    intro G a w hr
    have h0:=(hr.st bF).slot t
    rw [cD] at h0
    have hx':bX (⟨fr,gs,loc,objs,base⟩:Es).fr [] t= .lit (.bool b):=hx
    rw [hx'] at h0
    refine ⟨hr.size,hr.defers,fun i hc=>?_,fun i hc=>?_,fun i p hp=>?_,hr.loc,hr.mem,hr.nd⟩
    ·simp only [aY] at hc ⊢
     cases e:Nat.beq t i with
     |true=>rw [Nat.eq_of_beq_eq_true e] at h0;exact h0
     |false=>rw [e] at hc;exact hr.slot i hc
    ·simp only [aY] at hc
     cases e:Nat.beq t i with
     |true=>rw [e] at hc;exact absurd bF hc
     |false=>rw [e] at hc;exact hr.off i hc
    ·simp only [aY] at hp
     cases e:Nat.beq t i with
     |true=>rw [e] at hp;cases hp
     |false=>rw [e] at hp;exact hr.gs i p hp
  intro G a w K hr hfx hK
  cases b with
  |true=>exact k1 h G a w K (key G a w hr) hfx hK
  |false=>exact k2 h G a w K (key G a w hr) hfx hK
theorem aC.want {t g:Nat} {b:Bool} (k:aC P n ops ({o with guard:=none}::rest) e Q) (hg:o.guard=some (g,b):=by rfl) (ht:(ops[g]?).bind (·.dst)=some t:=by rfl) (hv:bX e.fr [] t= .lit (.bool b):=by rfl):aC P n ops (o::rest) e Q:=by
  intro G a w K hr hfx hK
  have:=k G a w K hr hfx hK
  have hb:=hr.bool hv
  have hw:Region.wanted o (yielded ops a.tmps)=true:=by
    unfold Region.wanted
    rw [hg]
    simp only [yielded,ht,Option.bind_some,hb,beq_self_eq_true]
  simp only [wpList] at this ⊢
  rw [if_pos hw]
  rw [if_pos (show Region.wanted {o with guard:=none} (yielded ops a.tmps)=true from rfl)] at this
  exact this
theorem aX {t g:Nat} {b:Bool} {fr:Fr} {gs:List Nat} {loc:List (Nat×List AV)} {objs:Ob} {base:Nat→Option (List AV)} (k:aC P n ops rest ⟨(d,[],.any)::fr,gs,loc,objs,base⟩ Q) (hg:o.guard=some (g,b):=by rfl) (ht:(ops[g]?).bind (·.dst)=some t:=by rfl) (hv:bX fr [] t= .lit (.bool (!b)):=by rfl)
    (hd:o.dst=some d:=by rfl) (hn:Nat.blt d n=true:=by rfl) (hgs:cT d gs=false:=by rfl):aC P n ops (o::rest) ⟨fr,gs,loc,objs,base⟩ Q:=by
  intro G a w K hr hfx hK
  have hb:=hr.bool hv
  have hw:Region.wanted o (yielded ops a.tmps)=false:=by
    unfold Region.wanted
    rw [hg]
    simp only [yielded,ht,Option.bind_some,hb]
    cases b<;>rfl
  simp only [wpList]
  rw [if_neg (by rw [hw];simp),hd]
  have hp:=RelE.put (o:={o with guard:=none}) (ops:=ops) (C:=[]) (v:= .any) (u:=undef) (d:=d) hr rfl (Nat.le_of_ble_eq_true hn) (jM hgs) (fun _=>RelV.any _) (fun _=>rfl)
  exact k G _ w K hp hfx hK
theorem HL [I:HasTab P] {fr:Fr} {loc:List (Nat×List AV)} {objs:Ob} {base:Nat→Option (List AV)} {s z:Nat} {k2:TK} (g:aC P n ops rest ⟨(d,[],.list true E [])::fr,[],loc,objs,base⟩ Q) (hC:bH ops fr o=some []:=by rfl) (hd:o.dst=some d:=by rfl) (hn:Nat.blt d n=true:=by rfl) (ho:o.op= .buildSlice t 0 #[]:=by rfl)
    (h1:(HasTab.T P).look t=some (.slice E,z):=by rfl) (h2:(HasTab.T P).look E=some (k2,s):=by rfl):aC P n ops (o::rest) ⟨fr,[],loc,objs,base⟩ Q:=by
  obtain ⟨⟨D,hD,hk⟩,_⟩:=Tab.ok I.tok h1
  have:=bU hk;subst this
  have hs:=(Tab.ok I.tok h2).2
  have hn':d<n:=Nat.le_of_ble_eq_true hn
  refine cQ (e:=⟨fr,[],loc,objs,base⟩) (add:=[(d,.list true E [])]) (loc':=loc) (objs':=objs) rfl (fun Q' hk=>?_) (fun h=>h) g
  refine HG (cB (e:=⟨fr,[],loc,objs,base⟩) _ hC) hd hn' ho rfl hD hs ?_
  exact hk
theorem fP {c:Operand} {b p:Bool} (ho:o.op= .pick c x y:=by rfl) (hc:evE e.fr C c= .lit (.bool b):=by rfl) (hx:evE e.fr C (bif b then x else y)= .lit (.bool p):=by rfl):aH P n (e.st C) o d (.lit (.bool p)):=by
  intro G a w h
  refine ⟨.bool p,bZ _,fun w' _=>?_⟩
  have h1:=h.evLit (bK hc)
  have h2:=h.evLit (bK hx)
  simp only [execOp,ho,h1]
  cases b<;>(simp only [cond_true,cond_false] at h2;simp [h2,asBool])
def QN (k:Nat) (cells:List AV) (fr:Fr):Fr:=fr.map fun p=>(p.1,p.2.1,D9 k cells p.2.2)
theorem WO (k:Nat) (cells:List AV) (fr:Fr):(QN k cells fr).map (fun p=>(p.1,dA [] p.2))=(fr.map fun p=>(p.1,dA [] p.2)).map fun p=>(p.1,D9 k cells p.2):=by
  unfold QN
  rw [List.map_map,List.map_map]
  apply List.map_congr_left
  intro p _
  simp only [Function.comp,dA]
  cases pL p.2.1 []<;>rfl
theorem U0 {fr fr':Fr} {gs:List Nat} {loc loc':List (Nat×List AV)} {objs:Ob} {base:Nat→Option (List AV)} {cells:List AV} (k:Nat) (g:aC P n ops l ⟨fr',[],loc',objs,base⟩ Q) (hc:a6 loc k=some cells:=by rfl) (hfl:cells.all AV.flat=true:=by rfl) (hs:QN k cells fr=fr':=by rfl) (hl:IV k loc=loc':=by rfl) (hf:a7 fr'=true:=by rfl):aC P n ops l ⟨fr,gs,loc,objs,base⟩ Q:=by
  subst hs;subst hl
  intro G a w K hr hfx hK
  obtain ⟨G',r1,r2⟩:=(hr.st bF).freeze (k:=k) hc hfl
  have e:(⟨QN k cells fr,[],IV k loc,objs,base⟩:Es).st []=⟨((⟨fr,gs,loc,objs,base⟩:Es).st []).fr.map fun p=>(p.1,D9 k cells p.2),IV k loc,lay objs base⟩:=by
    unfold Es.st
    simp only [WO]
  exact g G' a w K (RelE.of (by rw [e];exact r1) hf hr.nd) (hfx.keep r2) fun s2 G2 a2 w2 hq hr2 hk2=>hK s2 G2 a2 w2 hq hr2 (r2.trans hk2)
theorem WL [I:HasTab P] {α:Type} (l:List α) (f:α→AV) {v:AV} {kk m z:Nat} {k2:TK} (ho:o.op= .slice t x none none none:=by rfl) (h1:(HasTab.T P).look t=some (.arr m E,z):=by rfl) (h2:(HasTab.T P).look E=some (k2,1):=by rfl) (hx:evE e.fr C x= .eptr v kk:=by rfl)
    (hm:Nat.ble m maxLen=true:=by rfl) (hxs:(v.cells.drop kk).take m=l.map f:=by rfl) (hl:(l.map f).length=m:=by rfl) (hone:(l.map f).all (fun c=>c.scalar&&c.flat)=true:=by rfl) (hcc:((l.map f).all fun c=>match c with| .agg _=>false|_=>true)=true:=by rfl):aH P n (e.st C) o d (.list false E (l.map f)):=by
  obtain ⟨⟨D,hD,hk⟩,_⟩:=Tab.ok I.tok h1
  have hD2:D= .array m E:=by
    cases D<;>simp only [kOf] at hk<;>first|(cases hk;rfl)|(cases hk)|(split at hk<;>cases hk)
  subst hD2
  exact KW ho hD (Tab.ok I.tok h2).2 (bK hx) (Nat.le_of_ble_eq_true hm) hxs hl hone (SG hcc)
def C3 (ev:Operand→AV):List Operand→Option (List AV)
  |[]=>some []
  |x::r=>(ev x).un.force fun v=>bif v.flat&&Operand.ok x then (match C3 ev r with|some q=>some (v::q)|none=>none) else none
theorem rMk {f:FuncId} {caps:Array Operand} {cs:List AV} (ho:o.op= .makeFunc (.func f) #[] caps:=by rfl) (hc:C3 (evE e.fr C) caps.toList=some cs:=by rfl):aH P n (e.st C) o d (.fn f cs):=by
  rw [dI] at hc
  intro G a w h
  have key:∀(l:List Operand) (cs:List AV),C3 (e.st C).eval l=some cs→(l.map a.eval).length=cs.length∧∀(j:Nat) (c:AV) (v:Value),cs[j]? =some c→(l.map a.eval)[j]? =some v→RelV P G w c v:=by
    intro l
    induction l with
    |nil=>intro cs h;cases h;exact ⟨rfl,fun j c v h _=>by simp at h⟩
    |cons x r ih=>
     intro cs h'
     unfold C3 at h'
     rw [cP] at h'
     cases hb:(((e.st C).eval x).un.flat&&Operand.ok x) with
     |false=>rw [hb] at h';cases h'
     |true=>
      rw [hb] at h'
      simp only [Bool.and_eq_true] at hb
      simp only [cond_true] at h'
      split at h'
      ·rename_i q hq
       cases h'
       obtain ⟨h1,h2⟩:=ih q hq
       refine ⟨by simp at h1 ⊢;exact h1,fun j c v hc hv=>?_⟩
       cases j with
       |zero=>
        simp at hc hv
        subst hc;subst hv
        obtain ⟨p,hp⟩:=h.ev x (i7 hb.2)
        exact hp.toV hb.1
       |succ j=>exact h2 j c v (by simpa using hc) (by simpa using hv)
      ·cases h'
  obtain ⟨h1,h2⟩:=key caps.toList cs hc
  refine ⟨.func (.func f) #[] (caps.map a.eval),?_,fun w' _=>?_⟩
  ·have:=RelV.fn (P:=P) (G:=G) (w:=w) f cs (caps.toList.map a.eval) h1 h2
   simp only [←Array.toList_map,Array.toArray_toList] at this
   exact this
  ·simp [execOp,ho,Instr.makeFunc]
theorem n0 [I:HasTab P] {fr:Fr} {loc:List (Nat×List AV)} {objs:Ob} {base:Nat→Option (List AV)} {f:FuncId} {c:Call} {r:Nat} {ars cap args:List AV} {R:AV→Ob→Prop} (he:i8 P f) (h:aO P f args objs R) (g:∀v outs,R v outs→aC P n ops rest ⟨(d,[],v)::fr,[],loc,outs,base⟩ Q)
    (hC:bH ops fr o=some []:=by rfl) (hd:o.dst=some d:=by rfl) (hn:Nat.blt d n=true:=by rfl) (ho:o.op= .call c:=by rfl) (hc:c.callee= .value (.tmp r):=by rfl) (hfn:bX fr [] r= .fn f cap:=by rfl) (ha:nX (HasTab.T P) (evE fr []) c.args.toList c.argTypes.toList=some ars:=by rfl) (hall:ars++cap=args:=by rfl):aC P n ops (o::rest) ⟨fr,[],loc,objs,base⟩ Q:=by
  subst hall
  intro G a w K hr hfx hK
  have hfl:∀i,(aY fr i).1=[]:=by
    intro i
    cases hx:(aY fr i).1 with
    |nil=>rfl
    |cons p r=>
     have:=hr.gs i p (by show p∈(aY fr i).1;rw [hx];exact List.mem_cons_self ..)
     cases this
  rw [show evE fr []=((⟨fr,[],loc,objs,base⟩:Es).st []).eval from dI ⟨fr,[],loc,objs,base⟩ []] at ha
  obtain ⟨h1,h2⟩:=pM ha
  have key:=PY (P:=P) (n:=n) (ops:=ops) (o:=o) (rest:=rest) (s:=(⟨fr,[],loc,objs,base⟩:Es).st []) (Q:=fun s''=>∃e'',e''.st []=s''∧e''.nd∧Q e'') (cB (e:=⟨fr,[],loc,objs,base⟩) _ hC) hd (Nat.le_of_ble_eq_true hn) ho hc ((cD _ [] r).trans hfn) he (sQ h2) (by simpa using h1.len) (fun j x v hj hv=>h1.at j x v (by simpa using hj) hv) rfl
    (R:=fun r M'=>∃outs,R r outs∧M'=lay outs base∧ndO outs base) (h base hr.nd) ?_
  ·refine key G a w K (hr.st bF) hfx ?_
   rintro s'' G' a' w' ⟨e'',rfl,hn2,hq⟩ hr' hk
   exact hK e'' G' a' w' hq ⟨hr',hn2⟩ hk
  ·rintro r M' ⟨outs,hR,rfl,hno⟩ G1 a1 w1 K1 hr1 hfx1 hK1
   refine g r outs hR G1 a1 w1 K1 ⟨hr1.size,hr1.defers,fun i _=>?_,fun i hne=>?_,fun i p hp=>?_,hr1.loc,hr1.mem,hno⟩ hfx1 (fun e2 G2 a2 w2 hq hr2 hk2=>hK1 _ G2 a2 w2 ⟨e2,rfl,hr2.2,hq⟩ hr2.1 hk2)
   ·have h3:=hr1.slot i
    have e1:St.get {((⟨fr,[],loc,objs,base⟩:Es).st []).put d r with mem:=lay outs base} i=dA [] (aY ((d,[],r)::fr) i):=oB [] ((d,[],r)::fr) i
    rw [e1] at h3
    unfold dA at h3
    rw [show (aY ((d,[],r)::fr) i).1=[] from d4 hfl [(d,r)] i] at h3
    exact h3
   ·rw [show (aY ((d,[],r)::fr) i).1=[] from d4 hfl [(d,r)] i] at hne
    exact absurd bF hne
   ·rw [show (aY ((d,[],r)::fr) i).1=[] from d4 hfl [(d,r)] i] at hp;cases hp
theorem cL [I:HasTab P] {f:FuncId} {fn:Func} {c:Code} {args:List AV} {ins:Ob} {R:AV→Ob→Prop} (hf:P.funcs[f]? =some fn) (hb:fn.body=some c) (hn:fn.ntmps=n) (hp:args.length.ble n=true) (hfl:args.all AV.flat=true)
    (h:∀base,CWp P n c ⟨D5 0 args,[],[],ins,base⟩ fun x e'=>(x= .ret∨x= .normal)∧∃r,NN (HasTab.T P) e' fn.results.toList=some r∧e'.base=base∧R r e'.objs):aO P f args ins R:=by
  intro base hnd
  refine bW.of (n:=n) hf hb hn hp hfl ?_
  intro G a w K hr hfx hK
  have hst:(⟨D5 0 args,[],[],ins,base⟩:Es).st []=⟨pU 0 args,[],lay ins base⟩:=by
    unfold Es.st;rw [IU]
  refine h base G a w K ⟨by rw [hst];exact hr,hnd⟩ hfx ?_
  rintro x e' G' a' w' ⟨hx,r,h1,rfl,hR⟩ hr' hk
  exact hK x (e'.st []) G' a' w' ⟨hx,r,by simpa using PQ I.tok h1,e'.objs,hR,rfl,hr'.2⟩ hr'.1 hk
def Fn1 (P:Program) (f:FuncId) (cap:List AV) (ins:Ob) {α:Type} (enc:α→AV) {β:Type} (dec:β→AV) (p:α→Option β):Prop:=i8 P f∧∀u b,p u=some b→aO P f (enc u::cap) ins fun v outs=>v=dec b∧outs=ins
def Fn2 (P:Program) (f:FuncId) (cap:List AV) (ins:Ob) {α α2:Type} (enc:α→AV) (enc2:α2→AV) {β:Type} (dec:β→AV) (p:α→α2→Option β):Prop:=i8 P f∧∀u u2 b,p u u2=some b→aO P f (enc u::enc2 u2::cap) ins fun v outs=>v=dec b∧outs=ins
end
end
section
open Go.RowKit
section
variable {P:Program} {n:Nat} {e:Es} {l:List Oper} {QE:Exit→Es→Prop}
end
end
section
open Go.RowKit
structure Slk (sz:Nat) where
  l:List AV
  n:Nat
  len:l.length=n*sz
  sc:l.all AV.scalar=true
def flt {α:Type} (f:α→AV) (xs:List α):List AV:=(xs.map f).flatMap AV.cells
def dS {α:Type} (f:α→AV) (sz:Nat):Prop:=∀x,(f x).cells.length=sz∧(f x).cells.all AV.scalar=true∧(f x).cells.all AV.flat=true
theorem r9 {α:Type} (f:α→AV) (x:α) (r:List α):flt f (x::r)=(f x).cells++flt f r:=by simp [flt]
theorem ET {α:Type} (f:α→AV) (x r:List α):flt f (x++r)=flt f x++flt f r:=by simp [flt]
theorem pW {α:Type} {f:α→AV} {sz:Nat} (hf:dS f sz) (xs:List α):(flt f xs).length=xs.length*sz:=by
  induction xs with
  |nil=>simp [flt]
  |cons x r ih=>rw [r9,List.length_append,ih,(hf x).1,List.length_cons,Nat.add_mul];omega
theorem jN {α:Type} {f:α→AV} {sz:Nat} (hf:dS f sz) (xs:List α):(flt f xs).all AV.scalar=true∧(flt f xs).all AV.flat=true:=by
  induction xs with
  |nil=>exact ⟨rfl,rfl⟩
  |cons x r ih=>rw [r9,List.all_append,List.all_append,ih.1,ih.2,(hf x).2.1,(hf x).2.2];exact ⟨rfl,rfl⟩
theorem HQ {α:Type} {f:α→AV} {sz:Nat} (hf:dS f sz):∀{xs:List α} {k:Nat} {x:α},xs[k]? =some x→∃A B,flt f xs=A++(f x).cells++B∧A.length=k*sz∧∀x',flt f (xs.set k x')=A++(f x').cells++B
  |[],k,x,h=>by simp at h
  |y::r,0,x,h=>by
   simp at h;subst h
   exact ⟨[],flt f r,by rw [r9];rfl,by simp,fun x'=>by rw [List.set_cons_zero,r9];rfl⟩
  |y::r,k+1,x,h=>by
   obtain ⟨A,B,h1,h2,h3⟩:=HQ hf (xs:=r) (k:=k) (x:=x) (by simpa using h)
   refine ⟨(f y).cells++A,B,by rw [r9,h1];simp,by rw [List.length_append,h2,(hf y).1,Nat.add_mul];omega,fun x'=>by rw [List.set_cons_succ,r9,h3];simp⟩
theorem CS {ag:Bool} {size off:Nat} {A C B:List AV} {v:AV} (h:gU ag size C off=some v):gU ag size (A++C++B) (A.length+off)=some v:=by
  unfold gU at h ⊢
  cases ag with
  |true=>
   simp only [if_true] at h ⊢
   split at h
   ·rename_i hle
    cases h
    rw [if_pos (by simp only [List.length_append];omega)]
    congr 2
    rw [List.append_assoc]
    rw [show (A++(C++B)).drop (A.length+off)=(C++B).drop off by rw [List.drop_append];simp]
    rw [List.drop_append_of_le_length (by omega),List.take_append_of_le_length (by rw [List.length_drop];omega)]
   ·cases h
  |false=>
   simp only [Bool.false_eq_true,if_false] at h ⊢
   cases hc:C[off]? with
   |none=>rw [hc] at h;cases h
   |some c=>
    have hl:=(List.getElem?_eq_some_iff.1 hc).1
    rw [hc] at h
    rw [List.append_assoc,List.getElem?_append_right (by omega),Nat.add_sub_cancel_left,List.getElem?_append_left hl,hc]
    exact h
theorem C1 {off:Nat} {A C B vs:List AV} (h:off+vs.length≤C.length):c8 (A++C++B) (A.length+off) vs=A++c8 C off vs++B:=by
  unfold c8
  rw [List.append_assoc A C B,List.take_append,List.drop_append]
  rw [List.take_of_length_le (by omega),Nat.add_sub_cancel_left,List.take_append_of_le_length (by omega)]
  rw [List.drop_eq_nil_of_le (by omega),show A.length+off+vs.length-A.length=off+vs.length by omega,List.drop_append_of_le_length h]
  simp
def Slk.nil {sz:Nat}:Slk sz:=⟨[],0,by simp,rfl⟩
def lob {α:Type} {sz:Nat} (pl:Slk sz) (f:α→AV) (xs:List α) (sl:Slk sz):List AV:=pl.l++flt f xs++sl.l
abbrev hdM {α:Type} {sz:Nat} (id:Nat) (pl:Slk sz) (xs:List α) (sl:Slk sz):AV:= .gsl id (pl.n*sz) xs.length (xs.length+sl.n)
theorem B4 {α:Type} {f:α→AV} {sz:Nat} (hf:dS f sz) (pl:Slk sz) (xs:List α) (sl:Slk sz):(lob pl f xs sl).length=(pl.n+xs.length+sl.n)*sz:=by
  unfold lob
  rw [List.length_append,List.length_append,pW hf,pl.len,sl.len,Nat.add_mul,Nat.add_mul]
theorem yD {α:Type} {f:α→AV} {sz:Nat} (hf:dS f sz) (pl:Slk sz) (xs:List α) (sl:Slk sz):(lob pl f xs sl).all AV.scalar=true:=by
  unfold lob
  rw [List.all_append,List.all_append,(jN hf xs).1,pl.sc,sl.sc];rfl
theorem R9 {α:Type} {f:α→AV} {sz:Nat} (hf:dS f sz) (pl sl:Slk sz) {xs:List α} {k:Nat} {x:α} (h:xs[k]? =some x):∃A B,lob pl f xs sl=A++(f x).cells++B∧A.length=pl.n*sz+k*sz∧∀x',lob pl f (xs.set k x') sl=A++(f x').cells++B:=by
  obtain ⟨A,B,h1,h2,h3⟩:=HQ hf h
  refine ⟨pl.l++A,B++sl.l,by unfold lob;rw [h1];simp,by rw [List.length_append,pl.len,h2],fun x'=>by unfold lob;rw [h3];simp⟩
theorem SA {α:Type} {f:α→AV} {sz:Nat} (hf:dS f sz) (h0:sz≠0) (pl sl:Slk sz) {xs:List α} {k:Nat} {x:α} (h:xs[k]? =some x):lob pl f xs sl≠[]:=by
  intro e
  have h1:=congrArg List.length e
  rw [B4 hf] at h1
  have h2:=(List.getElem?_eq_some_iff.1 h).1
  have:1≤(pl.n+xs.length+sl.n)*sz:=Nat.mul_le_mul (show 1≤pl.n+xs.length+sl.n by omega) (show 1≤sz by omega)
  simp at h1
  omega
section
variable {P:Program} {n:Nat} {s:St} {e e':Es} {ops:Array Oper} {l rest:List Oper} {o:Oper} {Q:Es→Prop} {QE:Exit→Es→Prop} {d:Nat} {T:Tab} {Z:Zt} {v:AV} {C:Cnd} {t t' E:Nat} {x y:Operand} {k:IntKind} {i:Int}
theorem RelSt.evM' {G:Gh} {a:Act} {w:World} {id of m cp:Nat} (h:RelSt P G n s a w) (hx:s.eval x= .gsl id of m cp):RelV P G w (.gsl id of m cp) (a.eval x):=by
  obtain ⟨p,hp⟩:=h.ev x (fun v cs e1 e2=>by subst e1;subst e2;simp [St.eval,cF] at hx)
  rw [hx] at hp
  exact hp
theorem N9 {id of m cp:Nat} {c:Call} (ho:o.op= .call c) (hc:c.callee= .builtin .len) (ha:c.args=#[x]) (ht:c.argTypes=#[t]) (hu:P.underlying t=some (.slice E)) (hx:s.eval x= .gsl id of m cp):
    aH P n s o d (.lit (.int .i64 (m:Int))):=by
  intro G a w h
  have hp:=h.evM' hx
  have hv:∃b cap,a.eval x= .slice b m cap:=by
    generalize a.eval x=v at hp
    cases hp with
    |gsl=>exact ⟨_,_,rfl⟩
    |gsl0=>exact ⟨_,_,rfl⟩
    |gslz=>exact ⟨_,_,rfl⟩
  obtain ⟨b,cap,hv⟩:=hv
  refine ⟨_,bZ _,fun w' _=>?_⟩
  simp [execOp,ho,resolve,hc,ha,ht,hv,invoke,builtin,Builtin.len_,run_underlying hu,goInt]
theorem KU {id of m cp j size:Nat} (ho:o.op= .indexAddr t x y) (hu:P.underlying t=some (.slice E)) (hs:aZ P E size) (hx:s.eval x= .gsl id of m cp) (hy:s.eval y= .lit (.int k i)) (hi:i=j) (hm:j<m):
    aH P n s o d (.gptr id (of+j*size)):=by
  intro G a w h
  have hp:=h.evM' hx
  generalize hav:a.eval x=v at hp
  cases hp with
  |gsl _ _ _ _ b hb hc hmx=>
   refine ⟨_,RelV.gptr id (of+j*size) b hb,fun w' _=>?_⟩
   subst hi
   simp [execOp,ho,Instr.indexAt,Instr.sureAddr,asIntOf,hav,h.evLit hy,run_underlying hu,cC hs,hm,jA]
  |gsl0=>omega
  |gslz=>omega
theorem AN [I:HasTab P] {id of m cp z:Nat} {c:Call} (ho:o.op= .call c:=by rfl) (hc:c.callee= .builtin .len:=by rfl) (ha:c.args=#[x]:=by rfl) (ht:c.argTypes=#[t]:=by rfl) (h1:(HasTab.T P).look t=some (.slice E,z):=by rfl) (hx:evE e.fr C x= .gsl id of m cp:=by rfl):
    aH P n (e.st C) o d (.lit (.int .i64 (m:Int))):=by
  obtain ⟨⟨D,hD,hk⟩,_⟩:=Tab.ok I.tok h1
  have:=bU hk;subst this
  exact N9 ho hc ha ht hD (bK hx)
theorem BI [I:HasTab P] {α:Type} {xs:List α} {c:α} {id of cp sz z:Nat} {kk:TK} (he:idx xs i=some c) (ho:o.op= .indexAddr t x y:=by rfl) (h1:(HasTab.T P).look t=some (.slice E,z):=by rfl) (h2:(HasTab.T P).look E=some (kk,sz):=by rfl)
    (hx:evE e.fr C x= .gsl id of xs.length cp:=by rfl) (hy:evE e.fr C y= .lit (.int k i):=by rfl):aH P n (e.st C) o d (.gptr id (of+i.toNat*sz)):=by
  obtain ⟨⟨D,hD,hk⟩,_⟩:=Tab.ok I.tok h1
  have:=bU hk;subst this
  obtain ⟨m,rfl,hc⟩:=rK he
  rw [Int.toNat_natCast]
  exact KU ho hD (Tab.ok I.tok h2).2 (bK hx) (bK hy) rfl (List.getElem?_eq_some_iff.1 hc).1
theorem QF [I:HasTab P] {α:Type} {f:α→AV} {xs:List α} {c:α} {sz off:Nat} {pl sl:Slk sz} {fr:Fr} {gs:List Nat} {loc:List (Nat×List AV)} {objs:Ob} {base:Nat→Option (List AV)} {id:Nat} (j:Nat) (hf:dS f sz) (he:idx xs i=some c)
    (g:aC P n ops rest ⟨(d,[],v)::fr,gs,loc,objs,base⟩ Q) (hj:objs[j]? =some (id,lob pl f xs sl):=by rfl) (ho:o.op= .load t x:=by rfl) (hx:evE fr [] x= .gptr id (pl.n*sz+i.toNat*sz+off):=by rfl) (hv:wL (HasTab.T P) t (f c).cells off=some v:=by rfl) (hfl:v.flat=true:=by rfl)
    (hC:bH ops fr o=some []:=by rfl) (hd:o.dst=some d:=by rfl) (hn:Nat.blt d n=true:=by rfl) (hg:cT d gs=false:=by rfl) (h0:sz≠0:=by decide):aC P n ops (o::rest) ⟨fr,gs,loc,objs,base⟩ Q:=by
  refine aC.nd fun hnd=>rd ?_ g hC hd hn hg
  obtain ⟨D,size,h1,h2,h3⟩:=pN I.tok hv
  obtain ⟨m,hm,hc⟩:=rK he
  have hm':i.toNat=m:=by omega
  rw [hm'] at hx
  obtain ⟨A,B,a1,a2,_⟩:=R9 hf pl sl hc
  refine s3 ho h1 h2 (bK (e:=⟨fr,gs,loc,objs,base⟩) hx) (cS hnd.1 hj) ?_ hfl ?_ (SA hf h0 pl sl hc)
  ·rw [a1,←a2]
   exact CS h3
  ·exact yD hf pl xs sl
theorem CD [I:HasTab P] {α:Type} {f:α→AV} {xs:List α} {c:α} {sz off:Nat} {pl sl:Slk sz} {fr:Fr} {loc:List (Nat×List AV)} {objs objs':Ob} {base:Nat→Option (List AV)} {id:Nat} (j:Nat) (hf:dS f sz) (he:idx xs i=some c) (c':α)
    (g:aC P n ops rest ⟨fr,[],loc,objs',base⟩ Q) (hj:objs[j]? =some (id,lob pl f xs sl):=by rfl) (ho:o.op= .store t x y:=by rfl) (hx:evE fr [] x= .gptr id (pl.n*sz+i.toNat*sz+off):=by rfl) (hs:zP (HasTab.T P) (evE fr []) t y (f c).cells off=some (f c').cells:=by rfl)
    (ho':objs.set j (id,lob pl f (xs.set i.toNat c') sl)=objs':=by rfl) (hC:bH ops fr o=some []:=by rfl) (hd:o.dst=none:=by rfl) (h0:sz≠0:=by decide):aC P n ops (o::rest) ⟨fr,[],loc,objs,base⟩ Q:=by
  obtain ⟨m,hm,hc⟩:=rK he
  have hm':i.toNat=m:=by omega
  rw [hm'] at hx ho'
  obtain ⟨A,B,a1,a2,a3⟩:=R9 hf pl sl hc
  rw [dI ⟨fr,[],loc,objs,base⟩ []] at hs
  obtain ⟨size,u,g1,g2,g3,g4,g5,g6,g7,g8⟩:=wV I.tok hs
  have hsp:c8 (lob pl f xs sl) (pl.n*sz+m*sz+off) u.cells=lob pl f (xs.set m c') sl:=by
    rw [a1,←a2,C1 (by omega),←g8,a3]
  have hfit:pl.n*sz+m*sz+off+size≤(lob pl f xs sl).length:=by
    rw [a1]
    simp only [List.length_append]
    omega
  refine aC.nd fun hnd=>cQ (e:=⟨fr,[],loc,objs,base⟩) (add:=[]) (objs':=objs') rfl (fun Q' hk=>AP (cB (e:=⟨fr,[],loc,objs,base⟩) _ hC) hd ho (bK (e:=⟨fr,[],loc,objs,base⟩) hx) (cS hnd.1 hj) g1 g2 g3 g4 g5 g6 hfit ?_ hk (yD hf pl xs sl) (SA hf h0 pl sl hc)) (fun h=>?_) g
  ·rw [hsp,←ho'];exact jQ hnd.1 hj
  ·rw [←ho'];exact jR h (d3 hj)
theorem RelSt.frzObj {α:Type} {f:α→AV} {xs:List α} {sz id E:Nat} {pl sl:Slk sz} (hf:dS f sz) (hE:aZ P E sz) {G:Gh} {a:Act} {w:World} {M':Nat→Option (List AV)} (hr:RelSt P G n s a w) (hm:s.mem id=some (lob pl f xs sl)) (hM:∀i c,M' i=some c→i≠id∧s.mem i=some c) (h0:sz≠0):
    ∃G',RelSt P G' n {s with mem:=M'} a w∧Keep G w G' w∧∀v,RelV P G' w (hdM id pl xs sl) v→RelV P G' w (.list false E (xs.map f)) v:=by
  obtain ⟨b0,hb0,hX⟩:=hr.mem.obj id _ hm
  have hall:=yD hf pl xs sl
  have hlob:=B4 hf pl xs sl
  have hnil:xs.length=0→xs=[]:=List.eq_nil_of_length_eq_zero
  by_cases hne:lob pl f xs sl=[]
  ·have hx0:xs=[]:=by
     rw [hne] at hlob
     rcases Nat.eq_zero_or_pos xs.length with h|h
     ·exact hnil h
     ·have h1:1*1≤(pl.n+xs.length+sl.n)*sz:=Nat.mul_le_mul (by omega) (by omega)
      simp at hlob
      omega
   subst hx0
   refine ⟨G,⟨hr.size,hr.defers,hr.slot,hr.loc,hr.mem.sub fun i c h=>(hM i c h).2⟩,Keep.refl _ _,fun v hv=>?_⟩
   generalize hdd:hdM id pl ([]:List α) sl=hd at hv
   cases hv with
   |gsl _ _ _ cap b hb hc hmx=>
    simp only [hdM,AV.gsl.injEq,List.length_nil] at hdd
    obtain ⟨_,_,rfl,_⟩:=hdd
    exact .row false E [] b _ cap sz (fun _=>undef) hE (fun x hx=>by cases hx) (fun x hx=>by cases hx) (Nat.zero_le _) hmx (fun h=>by cases h) (fun j hj=>by simp at hj) (fun j c hj=>by simp at hj)
   |gsl0=>exact .nil _ _
   |gslz _ _ a=>exact .zero _ _
   |_=>cases hdd
  ·obtain ⟨⟨arr,T,hh,hsz,ho,ht,hsc,hrr⟩,_⟩:=hX.cells hall hne
   have hlt:=(Array.getElem?_eq_some_iff.1 hh).1
   have hlen:(flt f xs).length=xs.length*sz:=pW hf xs
   let G':Gh:={G with owner:=fun b=>if b=b0 then none else G.owner b,tip:=fun b=>if b=b0 then pl.n*sz+xs.length*sz else G.tip b}
   have st:Stab G w G' w:=⟨fun b=>by
     show G.tip b≤if b=b0 then pl.n*sz+xs.length*sz else G.tip b
     split
     ·rename_i e;rw [e,ht];exact Nat.zero_le _
     ·exact Nat.le_refl _,fun _ _ _=>rfl,fun _ _ h=>h⟩
   have hmv:∀(q:Pos) (b:Nat),q≠ .mb id→G.owner b=some q→G'.owner b=some q∧w.heap[b]? =w.heap[b]? ∧G'.tip b=G.tip b:=by
     intro q b hq hb
     have hne:b≠b0:=fun e=>by subst e;rw [ho] at hb;exact hq (Option.some.inj hb).symm
     exact ⟨by show (if b=b0 then none else G.owner b)=_;rw [if_neg hne];exact hb,rfl,by show (if b=b0 then pl.n*sz+xs.length*sz else G.tip b)=_;rw [if_neg hne]⟩
   have hfar:∀b,w.heap.size≤b→G'.tip b=0∧G'.owner b=none:=fun b hb=>by
     have hne:b≠b0:=by omega
     exact ⟨by show (if b=b0 then pl.n*sz+xs.length*sz else G.tip b)=_;rw [if_neg hne];exact (hr.mem.far b hb).1,by show (if b=b0 then none else G.owner b)=_;rw [if_neg hne];exact (hr.mem.far b hb).2⟩
   refine ⟨G',⟨hr.size,hr.defers,fun i=>(hr.slot i).move st (Nat.le_refl _) (fun _ _ _=>rfl) (fun c b _ h2=>hmv _ b (by intro h;cases h) h2),fun k1 c1 h1=>?_,⟨fun i c1 h1=>?_,hfar,hr.mem.fin⟩⟩,⟨rfl,rfl,rfl,Nat.le_refl _,fun b hb hn=>?_,st⟩,fun v hv=>?_⟩
   ·have h0:=hr.loc k1 c1 h1
    obtain ⟨a1,a2,a3⟩:=hmv _ _ (by intro h;cases h) h0.own
    exact h0.move st (Nat.le_refl _) rfl (a1.trans h0.own.symm) a3 (fun c b _ h2=>hmv _ b (by intro h;cases h) h2)
   ·obtain ⟨hni,h1⟩:=hM i c1 h1
    obtain ⟨b,hb,hh1⟩:=hr.mem.obj i c1 h1
    exact ⟨b,hb,hh1.move st (Nat.le_refl _) (fun _ hw=>by
      obtain ⟨a1,a2,a3⟩:=hmv _ _ (by intro h;injection h with h;exact hni h) hw
      exact ⟨rfl,a1.trans hw.symm,a3⟩) (fun c b _ h2=>hmv _ b (by intro h;cases h) h2)⟩
   ·have hne:b≠b0:=fun e=>by subst e;rw [ho] at hn;cases hn
    exact ⟨by show (if b=b0 then none else G.owner b)=none;rw [if_neg hne];exact hn,rfl,by show (if b=b0 then pl.n*sz+xs.length*sz else G.tip b)=_;rw [if_neg hne]⟩
   ·generalize hdd:hdM id pl xs sl=hd at hv
    cases hv with
    |gsl _ _ _ cap b hb hc hmx=>
     simp only [hdM,AV.gsl.injEq] at hdd
     obtain ⟨rfl,rfl,rfl,rfl⟩:=hdd
     have hb':G.mb id=some b:=hb
     rw [hb0] at hb'
     cases hb'
     rw [show Value.slice (some ⟨b0,pl.n*sz,none⟩) xs.length (xs.length+sl.n)= .slice (some ⟨b0,pl.n*sz,none⟩) (xs.map f).length (xs.length+sl.n) by rw [List.length_map]]
     have hin:∀j,j<xs.length*sz→pl.n*sz+j<arr.size:=fun j hj=>by
       rw [hsz]
       unfold lob
       rw [List.length_append,List.length_append,hlen,pl.len];omega
     have hge:∀j,j<xs.length*sz→arr[pl.n*sz+j]? =some (arr.getD (pl.n*sz+j) undef):=fun j hj=>by
       rw [Array.getD_eq_getD_getElem?,Array.getElem?_eq_getElem (hin j hj)];rfl
     refine .row false E (xs.map f) b0 (pl.n*sz) _ sz (fun j=>arr.getD (pl.n*sz+j) undef) hE (fun x hx=>?_) (fun x hx c hc=>?_) (by rw [List.length_map];exact hc) hmx (fun _=>?_) (fun j hj=>?_) (fun j c hj=>?_)
     ·obtain ⟨y,_,rfl⟩:=List.mem_map.1 hx;exact (hf y).1
     ·obtain ⟨y,_,rfl⟩:=List.mem_map.1 hx;exact List.all_eq_true.1 (hf y).2.1 c hc
     ·show pl.n*sz+(xs.map f).length*sz≤if b0=b0 then pl.n*sz+xs.length*sz else G.tip _
      rw [if_pos rfl,List.length_map];exact Nat.le_refl _
     ·rw [List.length_map] at hj
      simp only [World.cell?,hh,Option.isSome_none,Bool.false_eq_true,if_false];exact hge j hj
     ·replace hj:(flt f xs)[j]? =some c:=hj
      have hjl:=(List.getElem?_eq_some_iff.1 hj).1
      rw [hlen] at hjl
      have hj1:(lob pl f xs sl)[pl.n*sz+j]? =some c:=by
        unfold lob
        rw [List.append_assoc,List.getElem?_append_right (by rw [pl.len];omega),pl.len,Nat.add_sub_cancel_left,List.getElem?_append_left (by rw [hlen];exact hjl)]
        exact hj
      have h1:=(hrr _ c _ hj1 (hge j hjl)).un (hsc c (List.mem_of_getElem? hj1))
      have hcf:c.flat=true:=List.all_eq_true.1 (jN hf xs).2 c (List.mem_of_getElem? hj)
      have:c.un=c:=by
        cases c with
        |list o E xs=>cases o with
         |true=>cases hcf
         |false=>rfl
        |tuple cs=>cases hcf
        |pin x v=>cases hcf
        |_=>rfl
      rw [this] at h1
      exact h1.stab st
    |gsl0=>
     simp only [hdM,AV.gsl.injEq] at hdd
     rw [hnil hdd.2.2.1];exact .nil _ _
    |gslz _ _ a=>
     simp only [hdM,AV.gsl.injEq] at hdd
     rw [hnil hdd.2.2.1];exact .zero _ _
    |_=>cases hdd
theorem RelSt.reSlot {G:Gh} {a:Act} {w:World} {t:Nat} {v v':AV} (hr:RelSt P G n s a w) (hv:s.get t=v) (h:∀u,bE P G w (.slot t) v u→bE P G w (.slot t) v' u):RelSt P G n {s with fr:=(t,v')::s.fr} a w:=by
  refine ⟨hr.size,hr.defers,fun i=>?_,hr.loc,hr.mem⟩
  show bE P G w (.slot i) (look .any ((t,v')::s.fr) i) _
  simp only [look]
  by_cases e:t=i
  ·subst e
   rw [if_pos rfl]
   have:=hr.slot t
   rw [hv] at this
   exact h _ this
  ·rw [if_neg e];exact hr.slot i
def NQ :List (Nat×List AV)→Nat→Nat→AV→List (Nat×List AV)
  |[],_,_,_=>[]
  |(k,cs)::r,i,c,v=>bif Nat.beq k i then (k,cs.set c v)::r else (k,cs)::NQ r i c v
theorem PU :∀{loc:List (Nat×List AV)} {i c:Nat} {v:AV} {k:Nat} {cs:List AV},a6 (NQ loc i c v) k=some cs→(k=i∧∃cs0,a6 loc k=some cs0∧cs=cs0.set c v)∨(k≠i∧a6 loc k=some cs)
  |[],i,c,v,k,cs,h=>by cases h
  |(k0,cs0)::r,i,c,v,k,cs,h=>by
   unfold NQ at h
   cases hb:Nat.beq k0 i with
   |true=>
    rw [hb] at h
    have e:=Nat.eq_of_beq_eq_true hb
    subst e
    simp only [cond_true,a6] at h ⊢
    by_cases hk:k0=k
    ·subst hk
     rw [if_pos rfl] at h ⊢
     cases h
     exact .inl ⟨rfl,cs0,rfl,rfl⟩
    ·rw [if_neg hk] at h ⊢
     exact .inr ⟨fun e=>hk e.symm,h⟩
   |false=>
    rw [hb] at h
    have e:=yF hb
    simp only [cond_false,a6] at h ⊢
    by_cases hk:k0=k
    ·subst hk
     rw [if_pos rfl] at h ⊢
     exact .inr ⟨e,h⟩
    ·rw [if_neg hk] at h ⊢
     exact PU h
theorem RelSt.reCell {G:Gh} {a:Act} {w:World} {i c:Nat} {v v':AV} {cs0:List AV} (hr:RelSt P G n s a w) (hl:a6 s.loc i=some cs0) (hv:cs0[c]? =some v) (hs:v'.scalar=true) (h:∀u,eM P G w (.lc i c) v u→eM P G w (.lc i c) v' u):RelSt P G n {s with loc:=NQ s.loc i c v'} a w:=by
  refine ⟨hr.size,hr.defers,hr.slot,fun k cs hk=>?_,hr.mem⟩
  rcases PU hk with ⟨rfl,cs1,h1,rfl⟩|⟨_,h1⟩
  ·rw [hl] at h1
   cases h1
   obtain ⟨arr,T,k1,k2,k3,k4,k5,k6⟩:=hr.loc k cs0 hl
   refine ⟨arr,T,k1,by simpa using k2,k3,k4,fun x hx=>?_,fun j x u hj hu=>?_⟩
   ·rcases List.mem_or_eq_of_mem_set hx with hx|rfl
    ·exact k5 x hx
    ·exact hs
   ·rw [List.getElem?_set] at hj
    split at hj
    ·rename_i e
     subst e
     split at hj
     ·cases hj;exact h u (k6 c v u hv hu)
     ·cases hj
    ·exact k6 j x u hj hu
  ·exact hr.loc k cs h1
def s9 (L:AV):List Nat→Fr→Fr
  |[],fr=>fr
  |t::r,fr=>(t,[],L)::s9 L r fr
def D8 (L:AV):List (Nat×Nat)→List (Nat×List AV)→List (Nat×List AV)
  |[],loc=>loc
  |(k,c)::r,loc=>NQ (D8 L r loc) k c L
def FS (v L:AV):List Nat→Fr→Prop
  |[],_=>True
  |t::r,fr=>bX (s9 L r fr) [] t=v∧FS v L r fr
def FR (v L:AV):List (Nat×Nat)→List (Nat×List AV)→Prop
  |[],_=>True
  |(k,c)::r,loc=>(∃cs,a6 (D8 L r loc) k=some cs∧cs[c]? =some v)∧FR v L r loc
theorem WZ [I:HasTab P] {α:Type} {f:α→AV} {xs:List α} {sz id E:Nat} {pl sl:Slk sz} {kk:TK} {fr fr':Fr} {gs:List Nat} {loc loc':List (Nat×List AV)} {objs objs':Ob} {base:Nat→Option (List AV)} (j:Nat) (ts:List Nat) (cs:List (Nat×Nat)) (hf:dS f sz)
    (g:aC P n ops l ⟨fr',[],loc',objs',base⟩ Q) (hj:objs[j]? =some (id,lob pl f xs sl):=by rfl) (hE:(HasTab.T P).look E=some (kk,sz):=by rfl) (h1:FS (hdM id pl xs sl) (.list false E (xs.map f)) ts fr:=by exact ⟨rfl,trivial⟩) (h2:FR (hdM id pl xs sl) (.list false E (xs.map f)) cs loc:=by trivial)
    (hs:s9 (.list false E (xs.map f)) ts fr=fr':=by rfl) (hl:D8 (.list false E (xs.map f)) cs loc=loc':=by rfl) (ho:objs.eraseIdx j=objs':=by rfl) (hfl:a7 fr'=true:=by rfl) (h0:sz≠0:=by decide):aC P n ops l ⟨fr,gs,loc,objs,base⟩ Q:=by
  subst hs hl ho
  intro G a w K hr hfx hK
  have hnd:=hr.nd
  have hp:(objs.eraseIdx j).Sublist objs:=List.eraseIdx_sublist objs j
  have hnd':ndO (objs.eraseIdx j) base:=⟨hnd.1.sublist (hp.map _),fun i hi=>hnd.2 i ((hp.map _).subset hi)⟩
  have hid:id∉(objs.eraseIdx j).map (·.1):=by
    intro hm
    have h9:=gB (sel:=[j]) (objs:=objs) (A:=[(id,lob pl f xs sl)]) (B:=objs.eraseIdx j) (by unfold qU;rw [hj];rfl)
    have:=(pH h9.symm hnd).1
    simp only [List.singleton_append,List.map_cons,List.nodup_cons] at this
    exact this.1 hm
  obtain ⟨G',r1,r2,r3⟩:=(hr.st bF).frzObj hf (Tab.ok I.tok hE).2 (M':=lay (objs.eraseIdx j) base) (cS hnd.1 hj) (fun i c hc=>by
    have hne:i≠id:=by
      rintro rfl
      rw [gA hid] at hc
      have h8:base i=none:=hnd.2 i (List.mem_map.2 ⟨_,List.mem_of_getElem? hj,rfl⟩)
      rw [h8] at hc
      cases hc
    refine ⟨hne,?_⟩
    have h9:=gB (sel:=[j]) (objs:=objs) (A:=[(id,lob pl f xs sl)]) (B:=objs.eraseIdx j) (by unfold qU;rw [hj];rfl)
    have hAB:=pH h9.symm hnd
    show lay objs base i=some c
    rw [←zG h9 hAB.1]
    show bA (lay (objs.eraseIdx j) base) id _ i=some c
    rw [bT hne];exact hc) h0
  have hconv:∀p u,bE P G' w p (hdM id pl xs sl) u→bE P G' w p (.list false E (xs.map f)) u:=fun p u h=>(r3 u h).toS rfl
  have hconv2:∀q u,eM P G' w q (hdM id pl xs sl) u→eM P G' w q (.list false E (xs.map f)) u:=fun q u h=>(r3 u h).toO rfl
  have e0:((⟨fr,gs,loc,objs,base⟩:Es).st []).fr=fr.map fun p=>(p.1,dA [] p.2):=rfl
  have lE:∀ts,FS (hdM id pl xs sl) (.list false E (xs.map f)) ts fr→RelSt P G' n ⟨(s9 (.list false E (xs.map f)) ts fr).map fun p=>(p.1,dA [] p.2),loc,lay (objs.eraseIdx j) base⟩ a w:=by
    intro ts
    induction ts with
    |nil=>intro _;exact r1
    |cons t r ih=>
     rintro ⟨ha,hb⟩
     have hh:=ih hb
     exact hh.reSlot (t:=t) (v:=hdM id pl xs sl) ((cD (⟨s9 (.list false E (xs.map f)) r fr,[],loc,[],lay (objs.eraseIdx j) base⟩:Es) [] t).trans ha) (hconv _)
  have keyC:∀cs,FR (hdM id pl xs sl) (.list false E (xs.map f)) cs loc→RelSt P G' n ⟨(s9 (.list false E (xs.map f)) ts fr).map fun p=>(p.1,dA [] p.2),D8 (.list false E (xs.map f)) cs loc,lay (objs.eraseIdx j) base⟩ a w:=by
    intro cs
    induction cs with
    |nil=>intro _;exact lE ts h1
    |cons p r ih=>
     obtain ⟨k,c⟩:=p
     rintro ⟨⟨cs0,ha,hb⟩,hc⟩
     exact (ih hc).reCell ha hb rfl (hconv2 _)
  have hfin:=keyC cs h2
  exact g G' a w K (RelE.of hfin hfl hnd') (hfx.keep r2) fun s2 G2 a2 w2 hq hr2 hk2=>hK s2 G2 a2 w2 hq hr2 (r2.trans hk2)
end
end
section
open Go.RowKit
def JN (P:Program) (E:TypeId):Bool:=match P.info? E with
  |some i=>match i.zero with
   |some z=>z.cells.toList.all (fun c=>c.oneCell')
   |none=>false
  |none=>false
section
variable {P:Program} {n:Nat} {s:St} {ops:Array Oper} {o:Oper} {rest:List Oper} {Q:St→Prop} {d:Nat} {t tx E:TypeId} {x y:Operand}
theorem RelSt.named {G G1:Gh} {a:Act} {w w':World} {u:Value} {id b0 of m cp:Nat} {cells:List AV} (hr:RelSt P G n s a w) (hn:d<n) (hT1:RelSt P G1 n (s.put d (.lit u)) (a.put (some d) u) w') (hmb:G1.mb id=none) (hN:∃N,∀id,N≤id→G1.mb id=none)
    (hv:∀G2:Gh,G2.mb id=some b0→RelV P G2 w' (.gsl id of m cp) u) (hX:∀G2:Gh,Stab G1 w' G2 w'→G2.owner=G1.owner→G2.tip=G1.tip→nZ P G2 w' b0 id cells):
    ∃G2,RelSt P G2 n {s with fr:=(d,.gsl id of m cp)::s.fr,mem:=bA s.mem id cells} (a.put (some d) u) w'∧Stab G1 w' G2 w'∧G2.owner=G1.owner∧G2.tip=G1.tip:=by
  obtain ⟨N,hN⟩:=hN
  let G':Gh:={G1 with mb:=fun i=>if i=id then some b0 else G1.mb i}
  have hmbG:∀i b,G1.mb i=some b→G'.mb i=some b:=fun i b h=>by
    show (if i=id then some b0 else G1.mb i)=some b
    rw [if_neg (fun e=>by subst e;rw [hmb] at h;cases h)];exact h
  have hid':G'.mb id=some b0:=by show (if id=id then some b0 else G1.mb id)=_;simp
  have st:Stab G1 w' G' w':=⟨fun _=>Nat.le_refl _,fun _ _ _=>rfl,hmbG⟩
  have hT2:=hT1.reghost (G':=G') st rfl rfl rfl ⟨N+id+1,fun i hi=>by
    show (if i=id then some b0 else G1.mb i)=none
    rw [if_neg (by omega)];exact hN i (by omega)⟩
  refine ⟨G',⟨hT2.size,hT2.defers,fun i=>?_,hT2.loc,⟨fun i c hi=>?_,hT2.mem.far,hT2.mem.fin⟩⟩,st,rfl,rfl⟩
  ·rw [eH _ _ _ _ (by rw [hr.size];exact hn)]
   have h0:=hT2.slot i
   rw [eH _ _ _ _ (by rw [hr.size];exact hn)] at h0
   show bE P G' _ (.slot i) (look .any ((d,.gsl id of m cp)::s.fr) i) _
   have h0':bE P G' w' (.slot i) (look .any ((d,.lit u)::s.fr) i) (if i=d then u else a.tmps.getD i undef):=h0
   simp only [look] at h0' ⊢
   by_cases e:i=d
   ·subst e
    simp only [if_true]
    exact hv G' hid'
   ·rw [if_neg (Ne.symm e),if_neg e] at h0'
    rw [if_neg (Ne.symm e),if_neg e]
    exact h0'
  ·by_cases e:i=id
   ·subst e
    have hi':bA s.mem i cells i=some c:=hi
    rw [bP] at hi'
    cases hi'
    exact ⟨b0,hid',hX G' st rfl rfl⟩
   ·have hi':bA s.mem id cells i=some c:=hi
    rw [bT e] at hi'
    exact hT2.mem.obj i c hi'
theorem B9 {G:Gh} {w:World} (id of:Nat) (b:Option Addr):RelV P G w (.gsl id of 0 0) (.slice b 0 0):=by
  cases b with
  |none=>exact .gsl0 id of
  |some a=>exact .gslz id of a
end
section
variable {P:Program} {n:Nat} {s:St} {e e':Es} {ops:Array Oper} {l rest:List Oper} {o:Oper} {Q:Es→Prop} {QE:Exit→Es→Prop} {d:Nat} {T:Tab} {Z:Zt} {v:AV} {C:Cnd} {t t' E:Nat} {x y:Operand} {k:IntKind} {i:Int}
theorem DO {ι:Type _} {fr:Fr} {loc:List (Nat×List AV)} {objs:Ob} {base:Nat→Option (List AV)} {V:Nat→ι→AV} {cells:ι→List AV} {ok:ι→Prop}
    (h:∀Q',(∀id i,lay objs base id=none→id%10000=t→ok i→aM P n ops rest ⟨(d,V id i)::((⟨fr,[],loc,objs,base⟩:Es).st []).fr,loc,bA (lay objs base) id (cells i)⟩ Q')→aM P n ops (o::rest) ((⟨fr,[],loc,objs,base⟩:Es).st []) Q')
    (g:∀id i,id%10000=t→ok i→aC P n ops rest ⟨(d,[],V id i)::fr,[],loc,(id,cells i)::objs,base⟩ Q):aC P n ops (o::rest) ⟨fr,[],loc,objs,base⟩ Q:=by
  intro G a w K hr hfx hK
  have hfl:∀i,(aY fr i).1=[]:=by
    intro i
    cases hx:(aY fr i).1 with
    |nil=>rfl
    |cons p r=>
     have:=hr.gs i p (by show p∈(aY fr i).1;rw [hx];exact List.mem_cons_self ..)
     cases this
  have hnd:ndO objs base:=hr.nd
  refine h (fun s''=>∃e'',e''.st []=s''∧e''.nd∧Q e'') (fun id ix hid ht hok=>?_) G a w K (hr.st bF) hfx ?_
  ·intro G1 a1 w1 K1 hr1 hfx1 hK1
   have hni:id∉objs.map (·.1):=fun hm=>pG hm hid
   have hb:base id=none:=by rwa [gA hni] at hid
   have hnd':ndO ((id,cells ix)::objs) base:=⟨List.nodup_cons.2 ⟨hni,hnd.1⟩,fun i hi=>by
     rcases List.mem_cons.1 hi with e|e
     ·subst e;exact hb
     ·exact hnd.2 i e⟩
   have hf':=d4 hfl [(d,V id ix)]
   refine g id ix ht hok G1 a1 w1 K1 ⟨hr1.size,hr1.defers,fun i _=>?_,fun i hne=>?_,fun i p hp=>?_,hr1.loc,hr1.mem,hnd'⟩ hfx1 (fun e2 G2 a2 w2 hq hr2 hk2=>hK1 _ G2 a2 w2 ⟨e2,rfl,hr2.2,hq⟩ hr2.1 hk2)
   ·have h3:=hr1.slot i
    have e1:St.get ⟨(d,V id ix)::((⟨fr,[],loc,objs,base⟩:Es).st []).fr,loc,bA (lay objs base) id (cells ix)⟩ i=dA [] (aY ((d,[],V id ix)::fr) i):=oB [] ((d,[],V id ix)::fr) i
    rw [e1] at h3
    unfold dA at h3
    rw [show (aY ((d,[],V id ix)::fr) i).1=[] from hf' i] at h3
    exact h3
   ·rw [show (aY ((d,[],V id ix)::fr) i).1=[] from hf' i] at hne
    exact absurd bF hne
   ·rw [show (aY ((d,[],V id ix)::fr) i).1=[] from hf' i] at hp;cases hp
  ·rintro s'' G' a' w' ⟨e'',rfl,hn2,hq⟩ hr' hk
   exact hK e'' G' a' w' hq ⟨hr',hn2⟩ hk
end
end
section
open Go.RowKit
section
variable {P:Program} {n:Nat} {s:St} {e e':Es} {ops:Array Oper} {l rest:List Oper} {o:Oper} {Q:Es→Prop} {d:Nat} {v:AV} {t t' E:Nat} {x y:Operand}
end
end
section
open Go.RowKit
section
variable {P:Program} {n:Nat} {e e':Es} {ops:Array Oper} {l l' rest:List Oper} {o:Oper} {Q:Es→Prop} {QE:Exit→Es→Prop} {d:Nat} {v:AV} {ρ:Type _} {t r:ρ}
theorem bR [I:HasTab P] {fr:Fr} {loc:List (Nat×List AV)} {objs:Ob} {base:Nat→Option (List AV)} {f:FuncId} {c:Call} {args:List AV} {A B A':Ob} (sel:List Nat) (he:i8 P f) (h:aO P f args A (fun u outs=>u=v∧outs=A')) (hs:qU sel objs=some (A,B)) (ha:nX (HasTab.T P) (evE fr []) c.args.toList c.argTypes.toList=some args)
    (g:aC P n ops rest ⟨(d,[],v)::fr,[],loc,A'++B,base⟩ Q)
    (hC:bH ops fr o=some []:=by rfl) (hd:o.dst=some d:=by rfl) (hn:Nat.blt d n=true:=by rfl) (ho:o.op= .call c:=by rfl) (hc:c.callee= .value (.func f):=by rfl):aC P n ops (o::rest) ⟨fr,[],loc,objs,base⟩ Q:=
  bL sel he h hs ha (by rintro _ _ ⟨rfl,rfl⟩;exact g) hC hd hn ho hc
end
end
section
open Go.RowKit
def stI {α:Type}:Nat→List α→Int→α→List α
  |_,[],_,_=>[]
  |k,a::r,i,v=>(bif i==(k:Int) then v else a)::stI (k+1) r i v
theorem SO {α:Type} (v:α):∀(l:List α) (k m:Nat),stI k l ((k+m:Nat):Int) v=l.set m v
  |[],_,_=>rfl
  |a::r,k,0=>by
   simp only [stI,Nat.add_zero,beq_self_eq_true,cond_true,List.set_cons_zero,List.cons.injEq,true_and]
   have:∀(r:List α) (j:Nat),k<j→stI j r ((k:Nat):Int) v=r:=by
     intro r
     induction r with
     |nil=>intro j _;rfl
     |cons b t ih=>
      intro j hj
      simp only [stI]
      have e:(((k:Nat):Int)==((j:Nat):Int))=false:=by
        cases h:(((k:Nat):Int)==((j:Nat):Int)) with
        |false=>rfl
        |true=>have:=eq_of_beq h;omega
      rw [e,cond_false,ih (j+1) (by omega)]
   exact this r (k+1) (by omega)
  |a::r,k,m+1=>by
   simp only [stI,List.set_cons_succ,List.cons.injEq]
   have e:(((k+(m+1):Nat):Int)==((k:Nat):Int))=false:=by
     cases h:(((k+(m+1):Nat):Int)==((k:Nat):Int)) with
     |false=>rfl
     |true=>have:=eq_of_beq h;omega
   refine ⟨by rw [e];rfl,?_⟩
   rw [show k+(m+1)=k+1+m by omega]
   exact SO v r (k+1) m
theorem VL {α:Type} {l:List α} {i:Int} {c v:α} (h:idx l i=some c):l.set i.toNat v=stI 0 l i v:=by
  obtain ⟨m,hm,_⟩:=rK h
  have:=SO v l 0 m
  rw [Nat.zero_add] at this
  rw [hm,this];rfl
section
variable {P:Program} {n:Nat} {e e':Es} {ops:Array Oper} {l rest:List Oper} {o:Oper} {Q:Es→Prop} {d:Nat} {x y:Operand} {t E:Nat} {i:Int} {k:IntKind} {v:AV} {C:Cnd}
theorem RQ {α:Type} {f:α→AV} {sz off off2 k:Nat} (hf:dS f sz) {cells:List AV} {l:List α} {x:α} (hsp:cells.take off++flt f l++cells.drop off2=cells) (hA:(cells.take off).length=off) (hk:l[k]? =some x):
    ∃A B,cells=A++(f x).cells++B∧A.length=off+k*sz∧∀x',cells.take off++flt f (l.set k x')++cells.drop off2=A++(f x').cells++B:=by
  obtain ⟨A,B,h1,h2,h3⟩:=HQ hf hk
  refine ⟨cells.take off++A,B++cells.drop off2,?_,by rw [List.length_append,hA,h2],fun x'=>by rw [h3];simp [List.append_assoc]⟩
  rw [h1] at hsp
  exact (by simpa [List.append_assoc] using hsp:cells.take off++(A++((f x).cells++(B++cells.drop off2)))=cells).symm.trans (by simp [List.append_assoc])
theorem xQ [I:HasTab P] {α:Type} {l:List α} {c:α} {len z s oo b:Nat} {kk:TK} (he:idx l i=some c) (ho:o.op= .indexAddr t x y:=by rfl) (h1:(HasTab.T P).look t=some (.arr len E,z):=by rfl) (h2:(HasTab.T P).look E=some (kk,s):=by rfl)
    (hx:evE e.fr C x= .lptr b oo:=by rfl) (hy:evE e.fr C y= .lit (.int k i):=by rfl) (hl:l.length=len:=by rfl):aH P n (e.st C) o d (.lptr b (oo+i.toNat*s)):=by
  obtain ⟨⟨D,hD,hk⟩,_⟩:=Tab.ok I.tok h1
  have:=B2 hk;subst this
  obtain ⟨_,hs⟩:=Tab.ok I.tok h2
  obtain ⟨m,hm,hc⟩:=rK he
  rw [show i.toNat=m by omega]
  exact C8 ho hD hs (bK hx) (bK hy) hm (by have:=(List.getElem?_eq_some_iff.1 hc).1;omega)
theorem CV [I:HasTab P] {α:Type} {f:α→AV} {l:List α} {c:α} {cells:List AV} {sz b p:Nat} (off off2 fo:Nat) (hf:dS f sz) (he:idx l i=some c) (ho:o.op= .load t x:=by rfl) (hv:wL (HasTab.T P) t (f c).cells fo=some v:=by rfl) (hx:evE e.fr C x= .lptr b p:=by rfl) (hp:p=off+i.toNat*sz+fo:=by rfl) (hc:a6 e.loc b=some cells:=by rfl)
    (hsp:cells.take off++flt f l++cells.drop off2=cells:=by rfl) (hA:(cells.take off).length=off:=by rfl) (hfl:v.flat=true:=by rfl):aH P n (e.st C) o d v:=by
  obtain ⟨D,size,h1,h2,h3⟩:=pN I.tok hv
  obtain ⟨m,hm,hc'⟩:=rK he
  obtain ⟨A,B,a1,a2,_⟩:=RQ hf hsp hA hc'
  rw [hp,show i.toNat=m by omega] at hx
  refine DU ho h1 h2 (bK hx) hc ?_ hfl
  rw [a1,←a2];exact CS h3
theorem S9 [I:HasTab P] {α:Type} {f:α→AV} {xs:List α} {c:α} {cells:List AV} {sz b p:Nat} {fr:Fr} {loc:List (Nat×List AV)} {objs:Ob} {base:Nat→Option (List AV)} (off off2 fo:Nat) (c':α) (cells':List AV) (hf:dS f sz) (he:idx xs i=some c)
    (g:aC P n ops rest ⟨fr,[],(b,cells')::loc,objs,base⟩ Q) (ho:o.op= .store t x y:=by rfl) (hs:zP (HasTab.T P) (evE fr []) t y (f c).cells fo=some (f c').cells:=by rfl) (hx:evE fr [] x= .lptr b p:=by rfl) (hp:p=off+i.toNat*sz+fo:=by rfl) (hc:a6 loc b=some cells:=by rfl) (hsp:cells.take off++flt f xs++cells.drop off2=cells:=by rfl) (hA:(cells.take off).length=off:=by rfl)
    (h':cells.take off++flt f (stI 0 xs i c')++cells.drop off2=cells':=by rfl) (hC:bH ops fr o=some []:=by rfl) (hd:o.dst=none:=by rfl):aC P n ops (o::rest) ⟨fr,[],loc,objs,base⟩ Q:=by
  obtain ⟨m,hm,hc'⟩:=rK he
  obtain ⟨A,B,a1,a2,a3⟩:=RQ hf hsp hA hc'
  have ei:i.toNat=m:=by omega
  rw [hp,ei] at hx
  rw [←VL he,ei,a3] at h'
  rw [dI ⟨fr,[],loc,objs,base⟩ []] at hs
  obtain ⟨size,u,g1,g2,g3,g4,g5,g6,g7,g8⟩:=wV I.tok hs
  have hsp2:c8 cells (off+m*sz+fo) u.cells=cells':=by rw [a1,←a2,C1 (by omega),←g8,h']
  have hfit:off+m*sz+fo+size≤cells.length:=by
    rw [a1];simp only [List.length_append];omega
  refine cQ (e:=⟨fr,[],loc,objs,base⟩) (add:=[]) (loc':=(b,cells')::loc) rfl (fun Q' hk=>?_) id g
  exact FE (cB (e:=⟨fr,[],loc,objs,base⟩) _ hC) hd ho (bK (e:=⟨fr,[],loc,objs,base⟩) hx) hc g1 g2 g3 g4 g5 g6 hfit (hsp2▸hk)
theorem Q3 [I:HasTab P] {α:Type} {f:α→AV} {l:List α} {c:α} {len z sz r:Nat} {kk:TK} (hf:dS f sz) (he:idx l i=some c) (ho:o.op= .index t (.tmp r) y:=by rfl) (h1:(HasTab.T P).look t=some (.arr len E,z):=by rfl) (h2:(HasTab.T P).look E=some (kk,sz):=by rfl) (hv:LQ kk sz 0 (f c).cells=some v:=by rfl)
    (hx:bX e.fr C r= .agg (flt f l):=by rfl) (hy:evE e.fr C y= .lit (.int k i):=by rfl) (hl:l.length=len:=by rfl) (hfl:v.flat=true:=by rfl):aH P n (e.st C) o d v:=by
  obtain ⟨⟨D,hD,hk⟩,_⟩:=Tab.ok I.tok h1
  have:=B2 hk;subst this
  obtain ⟨⟨D2,hD2,hk2⟩,hs⟩:=Tab.ok I.tok h2
  obtain ⟨m,hm,hc⟩:=rK he
  have hml:=(List.getElem?_eq_some_iff.1 hc).1
  obtain ⟨A,B,a1,a2,_⟩:=HQ hf hc
  have hlen:=(hf c).1
  refine wW ho hD hD2 hs (x:= .tmp r) (bK (x:= .tmp r) hx) ⟨_,rfl⟩ (bK hy) hm (by omega) ?_ hfl
  unfold uG
  unfold LQ at hv
  rw [yB,hk2]
  cases hA:kk.agg with
  |true=>
   rw [hA] at hv
   simp only [cond_true] at hv
   rw [if_pos rfl]
   cases hb:Nat.ble (0+sz) (f c).cells.length with
   |false=>rw [hb] at hv;cases hv
   |true=>
    rw [hb] at hv
    simp only [cond_true,iH,Option.some.injEq] at hv
    rw [if_pos (by rw [a1];simp only [List.length_append];omega),←hv,a1]
    congr 2
    rw [List.append_assoc,←a2,List.drop_left,List.take_append_of_le_length (by omega)]
    simp
  |false=>
   rw [hA] at hv
   simp only [cond_false] at hv
   rw [if_neg (by decide)]
   split at hv
   ·rename_i c0 hc0
    rw [cP] at hv
    cases hb:c0.flat with
    |false=>rw [hb] at hv;cases hv
    |true=>
     rw [hb] at hv;cases hv
     rw [a1,List.append_assoc,←a2,List.getElem?_append_right (by omega),Nat.sub_self]
     rw [List.getElem?_append_left (List.getElem?_eq_some_iff.1 hc0).1];exact hc0
   ·cases hv
theorem wM [I:HasTab P] {fr:Fr} {loc:List (Nat×List AV)} {objs:Ob} {base:Nat→Option (List AV)} {f:FuncId} {c:Call} {args:List AV} {R:AV→Ob→Prop} (he:i8 P f) (h:aO P f args objs R) (ha:nX (HasTab.T P) (evE fr []) c.args.toList c.argTypes.toList=some args) (g:∀v outs,R v outs→aC P n ops rest ⟨(d,[],v)::fr,[],loc,outs,base⟩ Q)
    (hC:bH ops fr o=some []:=by rfl) (hd:o.dst=some d:=by rfl) (hn:Nat.blt d n=true:=by rfl) (ho:o.op= .call c:=by rfl) (hc:c.callee= .value (.func f):=by rfl):aC P n ops (o::rest) ⟨fr,[],loc,objs,base⟩ Q:=by
  intro G a w K hr hfx hK
  have hfl:∀i,(aY fr i).1=[]:=by
    intro i
    cases hx:(aY fr i).1 with
    |nil=>rfl
    |cons p r=>
     have:=hr.gs i p (by show p∈(aY fr i).1;rw [hx];exact List.mem_cons_self ..)
     cases this
  rw [show evE fr []=((⟨fr,[],loc,objs,base⟩:Es).st []).eval from dI ⟨fr,[],loc,objs,base⟩ []] at ha
  obtain ⟨h1,h2⟩:=pM ha
  have key:=aM.call (P:=P) (n:=n) (ops:=ops) (o:=o) (rest:=rest) (s:=(⟨fr,[],loc,objs,base⟩:Es).st []) (Q:=fun s''=>∃e'',e''.st []=s''∧e''.nd∧Q e'') (cB (e:=⟨fr,[],loc,objs,base⟩) _ hC) hd (Nat.le_of_ble_eq_true hn) ho hc he (sQ h2) (by simpa using h1.len) (fun j x v hj hv=>h1.at j x v (by simpa using hj) hv)
    (R:=fun r M'=>∃outs,R r outs∧M'=lay outs base∧ndO outs base) (h base hr.nd) ?_
  ·refine key G a w K (hr.st bF) hfx ?_
   rintro s'' G' a' w' ⟨e'',rfl,hn2,hq⟩ hr' hk
   exact hK e'' G' a' w' hq ⟨hr',hn2⟩ hk
  ·rintro r M' ⟨outs,hR,rfl,hno⟩ G1 a1 w1 K1 hr1 hfx1 hK1
   refine g r outs hR G1 a1 w1 K1 ⟨hr1.size,hr1.defers,fun i _=>?_,fun i hne=>?_,fun i p hp=>?_,hr1.loc,hr1.mem,hno⟩ hfx1 (fun e2 G2 a2 w2 hq hr2 hk2=>hK1 _ G2 a2 w2 ⟨e2,rfl,hr2.2,hq⟩ hr2.1 hk2)
   ·have h3:=hr1.slot i
    have e1:St.get {((⟨fr,[],loc,objs,base⟩:Es).st []).put d r with mem:=lay outs base} i=dA [] (aY ((d,[],r)::fr) i):=oB [] ((d,[],r)::fr) i
    rw [e1] at h3
    unfold dA at h3
    rw [show (aY ((d,[],r)::fr) i).1=[] from d4 hfl [(d,r)] i] at h3
    exact h3
   ·rw [show (aY ((d,[],r)::fr) i).1=[] from d4 hfl [(d,r)] i] at hne
    exact absurd bF hne
   ·rw [show (aY ((d,[],r)::fr) i).1=[] from d4 hfl [(d,r)] i] at hp;cases hp
end
end
section
open Go.RowKit
theorem OU {w:World} {g:Nat} {cur:Array Value} {T:TypeId} {fr:Nat×Nat} (hg:w.heap[g]? =some (.cells cur T fr)):w.setRow g cur=w:=by
  have hlt:g<w.heap.size:=(Array.getElem?_eq_some_iff.1 hg).1
  have hv:w.heap[g]= .cells cur T fr:=(Array.getElem?_eq_some_iff.1 hg).2
  have:(w.setRow g cur).heap=w.heap:=by
    unfold World.setRow
    apply Array.ext
    ·simp
    ·intro k h1 h2
     simp only [Array.getElem_modify]
     split
     ·rename_i hk
      subst hk
      simp [hv]
     ·rfl
  cases w
  simp only [World.setRow] at this ⊢
  rw [this]
theorem zO {g:Nat} {T:TypeId} {fr:Nat×Nat}:∀(vs:List Value) (o:Nat) (w:World) (cur:Array Value),w.heap[g]? =some (.cells cur T fr)→o+vs.length≤cur.size→w.setCells g o vs=w.setRow g (cur.toList.take o++vs++cur.toList.drop (o+vs.length)).toArray
  |[],o,w,cur,hg,_=>by
   simp only [World.setCells,List.append_nil,List.length_nil,Nat.add_zero,List.take_append_drop,Array.toArray_toList]
   exact (OU hg).symm
  |v::r,o,w,cur,hg,h=>by
   simp only [List.length_cons] at h
   rw [World.setCells,setCell_eq_setRow w g o cur T fr v hg]
   rw [zO r (o+1) _ (cur.setIfInBounds o v) (setRow_heap w g cur _ T fr hg) (by simp;omega),setRow_setRow]
   congr 1
   apply Array.ext'
   simp only [Array.toList_setIfInBounds,List.length_cons]
   have hl:o<cur.toList.length:=by simp;omega
   rw [List.take_set,List.drop_set_of_lt (by omega),List.take_succ_eq_append_getElem hl,List.set_append_right _ _ (by simp [List.length_take];omega)]
   simp only [List.length_take]
   rw [Nat.min_eq_left (by omega),Nat.sub_self]
   simp only [List.set_cons_zero,List.append_assoc,List.cons_append,List.nil_append]
   rw [show o+1+r.length=o+(r.length+1) by omega]
section
variable {P:Program} {n:Nat} {s:St} {ops:Array Oper} {o:Oper} {rest:List Oper} {Q:St→Prop} {d:Nat} {t tx E:TypeId} {x y:Operand}
theorem RelSt.writeM {G:Gh} {a:Act} {w:World} {cells ys:List AV} {us:List Value} {id off b0:Nat} (hr:RelSt P G n s a w) (hc:s.mem id=some cells) (hb0:G.mb id=some b0) (hL:eA P G w ys us) (hscy:∀c∈ys,c.scalar=true) (hfl:∀c∈ys,c.flat=true) (hfit:off+ys.length≤cells.length) (hall:cells.all AV.scalar=true) (hne:cells≠[]):
    RelSt P G n {s with mem:=bA s.mem id (c8 cells off ys)} a (w.setCells b0 off us)∧Keep G w G (w.setCells b0 off us):=by
  obtain ⟨b',hb',hX⟩:=hr.mem.obj id cells hc
  obtain ⟨hH,arr0,hty⟩:=hX.cells hall hne
  rw [hb0] at hb'
  cases hb'
  have hH0:=hH
  obtain ⟨cur,T,hh,hcs,ho1,ht1,_,_⟩:=hH0
  have hul:us.length=ys.length:=hL.1
  have hrun:=zO us off w cur hh (by omega)
  obtain ⟨W',hW⟩:∃W',W'=w.setRow b0 (cur.toList.take off++us++cur.toList.drop (off+us.length)).toArray:=⟨_,rfl⟩
  rw [hrun,←hW]
  have st:Stab G w G W':=by
    refine ⟨fun _=>Nat.le_refl _,fun b oo hoo=>?_,fun _ _ h=>h⟩
    have hne:b≠b0:=fun e=>by rw [e,ht1] at hoo;omega
    subst hW
    exact World.cell?_of_block (w:=w) (a:=⟨b,oo,none⟩) (setRow_other w _ b _ hne)
  have other:∀q b,G.owner b=some q→q≠ .mb id→W'.heap[b]? =w.heap[b]? :=by
    intro q b h1 h2
    subst hW
    refine setRow_other w _ b _ (fun e=>h2 ?_)
    rw [e,ho1] at h1
    exact (Option.some.inj h1).symm
  have hzz:W'.heap.size=w.heap.size:=by rw [hW];simp
  have hz:w.heap.size≤W'.heap.size:=by omega
  refine ⟨⟨hr.size,hr.defers,fun i=>?_,fun k1 cells1 hk1=>?_,⟨fun i cs hi=>?_,fun b hb=>hr.mem.far b (by omega),hr.mem.fin⟩⟩,⟨by rw [hW];rfl,by rw [hW];rfl,by rw [hW];rfl,hz,fun b hb hn=>⟨hn,?_,rfl⟩,st⟩⟩
  ·exact (hr.slot i).move st hz (fun _ _ _=>rfl) (fun c b _ h2=>⟨h2,other _ b h2 (by intro h;cases h),rfl⟩)
  ·have h0:=hr.loc k1 cells1 hk1
   exact h0.move st hz (other _ _ h0.own (by intro h;cases h)) rfl rfl (fun c b _ h2=>⟨h2,other _ b h2 (by intro h;cases h),rfl⟩)
  ·have hi':bA s.mem id (c8 cells off ys) i=some cs:=hi
   by_cases e:i=id
   ·subst e
    rw [bP] at hi'
    cases hi'
    refine ⟨b0,hb0,.inl ⟨hH.set hh hL hscy hfl (by omega) _ (by rw [hW,hul]) st hz (fun c b' _ h2=>other _ b' h2 (by intro h;cases h)),?_⟩⟩
    rw [hh] at hty
    injection hty with hty
    injection hty with _ hT _
    exact ⟨_,by rw [hW,setRow_heap w b0 cur _ T _ hh,hT]⟩
   ·rw [bT e] at hi'
    obtain ⟨b2,hb2,hh2⟩:=hr.mem.obj i cs hi'
    exact ⟨b2,hb2,hh2.move st hz (fun _ hw=>⟨other _ _ hw (by intro h;injection h with h;exact e h),rfl,rfl⟩) (fun c b _ h2=>⟨h2,other _ b h2 (by intro h;cases h),rfl⟩)⟩
  ·subst hW
   refine setRow_other w _ b _ (fun e=>?_)
   rw [e,ho1] at hn;cases hn
theorem RelV.gslCases {G:Gh} {w:World} {id of len cap:Nat} {v:Value} (h:RelV P G w (.gsl id of len cap) v):(∃b,G.mb id=some b∧v= .slice (some ⟨b,of,none⟩) len cap∧len≤cap∧cap≤maxLen)∨(len=0∧cap=0∧∃b,v= .slice b 0 0):=by
  generalize hg:AV.gsl id of len cap=g at h
  cases h with
  |gsl id of len cap b h hc hm=>cases hg;exact .inl ⟨b,h,rfl,hc,hm⟩
  |gsl0=>cases hg;exact .inr ⟨rfl,rfl,none,rfl⟩
  |gslz _ _ a=>cases hg;exact .inr ⟨rfl,rfl,some a,rfl⟩
  |_=>cases hg
theorem RelSt.newRowW {G:Gh} {a:Act} {w w1:World} {avs:List AV} {vals:List Value} {len cap id:Nat} (hr:RelSt P G n s a w) (hw:w1=w∨w1=w.drew) (hn:d<n) (hL:eA P G w avs vals) (hsc:∀c∈avs,c.scalar=true) (hfl:∀c∈avs,c.flat=true) (hlc:len≤cap) (hcm:cap≤maxLen) (hid:id%10000=E) (hmb:G.mb id=none):
    ∃G2,RelSt P G2 n {s with fr:=(d,.gsl id 0 len cap)::s.fr,mem:=bA s.mem id avs} (a.put (some d) (.slice (some ⟨w.heap.size,0,none⟩) len cap)) (w1.alloc (.cells vals.toArray E))∧Keep G w G2 (w1.alloc (.cells vals.toArray E)):=by
  have hs1:w1.heap.size=w.heap.size:=by rcases hw with rfl|rfl<;>rfl
  have hh1:∀k:Nat,w1.heap[k]? =w.heap[k]? :=by rcases hw with rfl|rfl<;>exact fun _=>rfl
  have ho1:w1.os=w.os∧w1.tape=w.tape∧w1.output=w.output:=by rcases hw with rfl|rfl<;>exact ⟨rfl,rfl,rfl⟩
  obtain ⟨N,hN⟩:=hr.mem.fin
  have hfar:=hr.mem.far
  obtain ⟨kp,how,hfar'⟩:=sW (G:=G) (w:=w) (w':=w1.alloc (.cells vals.toArray E)) (_v':= .slice none 0 0) (.mb id) 0 (by rw [size_alloc,hs1]) (fun k hk=>(heap_alloc_old w1 _ (by rw [hs1];exact hk)).trans (hh1 k)) hfar ho1.1 ho1.2.1 ho1.2.2
  have hT:=hr.turn (G':=G.new w.heap.size (.mb id) 0) (d:=d) (v:= .lit (.slice (some ⟨w.heap.size,0,none⟩) len cap)) (u:= .slice (some ⟨w.heap.size,0,none⟩) len cap) hn kp.stab (by rw [size_alloc,hs1];omega) (fun _ _=>rfl)
    (fun q b h1 h2 _=>how q b h1 h2) hfar' rfl (bZ _)
  have hnew:(w1.alloc (.cells vals.toArray E)).heap[w.heap.size]? =some (.cells vals.toArray E (0,0)):=by rw [←hs1];exact j8 w1 _
  have hX:∀G2:Gh,Stab (G.new w.heap.size (.mb id) 0) (w1.alloc (.cells vals.toArray E)) G2 (w1.alloc (.cells vals.toArray E))→G2.owner=(G.new w.heap.size (.mb id) 0).owner→G2.tip=(G.new w.heap.size (.mb id) 0).tip→nZ P G2 (w1.alloc (.cells vals.toArray E)) w.heap.size id avs:=by
    intro G2 st ho ht
    refine .inl ⟨⟨vals.toArray,E,hnew,by simpa using hL.1,?_,?_,hsc,fun j c u h1 h2=>?_⟩,vals.toArray,by rw [hid];exact hnew⟩
    ·rw [ho];show (if w.heap.size=w.heap.size then _ else _)=_;simp
    ·rw [ht];show (if w.heap.size=w.heap.size then _ else _)=_;simp
    ·exact (((hL.2 j c u h1 (by simpa using h2)).stab kp.stab).stab st).toO (hfl c (List.mem_of_getElem? h1))
  obtain ⟨G2,h1,h2,h3,h4⟩:=hr.named hn hT (hmb:(G.new w.heap.size (.mb id) 0).mb id=none) ⟨N,hN⟩ (b0:=w.heap.size) (of:=0) (m:=len) (cp:=cap) (fun G2 hG=> .gsl id 0 len cap _ hG hlc hcm) hX
  exact ⟨G2,h1,⟨kp.os,kp.tape,kp.output,kp.size,fun b hb hn=>by
      obtain ⟨a1,a2,a3⟩:=kp.free b hb hn
      exact ⟨by rw [h3];exact a1,a2,by rw [h4];exact a3⟩,kp.stab.trans h2⟩⟩
theorem RelSt.newRow {G:Gh} {a:Act} {w:World} {avs:List AV} {vals:List Value} {len cap id:Nat} (hr:RelSt P G n s a w) (hn:d<n) (hL:eA P G w avs vals) (hsc:∀c∈avs,c.scalar=true) (hfl:∀c∈avs,c.flat=true) (hlc:len≤cap) (hcm:cap≤maxLen) (hid:id%10000=E) (hmb:G.mb id=none):
    ∃G2,RelSt P G2 n {s with fr:=(d,.gsl id 0 len cap)::s.fr,mem:=bA s.mem id avs} (a.put (some d) (.slice (some ⟨w.heap.size,0,none⟩) len cap)) (w.drew.alloc (.cells vals.toArray E))∧Keep G w G2 (w.drew.alloc (.cells vals.toArray E)):=hr.newRowW (.inr rfl) hn hL hsc hfl hlc hcm hid hmb
theorem RelSt.viewM {G:Gh} {a:Act} {w:World} {cells:List AV} {id b0:Nat} (hr:RelSt P G n s a w) (hc:s.mem id=some cells) (hb0:G.mb id=some b0) (hall:cells.all AV.scalar=true) (hne:cells≠[]):
    ∃(arr:Array Value) (T:TypeId),w.heap[b0]? =some (.cells arr T (0,0))∧arr.size=cells.length∧∀(j:Nat) (c:AV) (u:Value),cells[j]? =some c→arr[j]? =some u→RelV P G w c.un u:=by
  obtain ⟨b',hb',hX⟩:=hr.mem.obj id cells hc
  obtain ⟨hH,arr0,hty⟩:=hX.cells hall hne
  rw [hb0] at hb'
  cases hb'
  obtain ⟨cur,T,hh,hcs,ho1,ht1,hsc,hrr⟩:=hH
  exact ⟨cur,T,hh,hcs,fun j c u h1 h2=>(hrr j c u h1 h2).un (hsc c (List.mem_of_getElem? h1))⟩
theorem G8 {G:Gh} {w:World} {A B:List AV} {U V:List Value} (h:eA P G w A U) (k:eA P G w B V):eA P G w (A++B) (U++V):=by
  refine ⟨by simp [h.1,k.1],fun j c u h1 h2=>?_⟩
  rcases Nat.lt_or_ge j A.length with hj|hj
  ·rw [List.getElem?_append_left hj] at h1
   rw [List.getElem?_append_left (by rw [h.1];exact hj)] at h2
   exact h.2 j c u h1 h2
  ·rw [List.getElem?_append_right hj] at h1
   rw [List.getElem?_append_right (by rw [h.1];exact hj),h.1] at h2
   exact k.2 _ c u h1 h2
theorem NK {G:Gh} {w:World} (vs:List Value):eA P G w (vs.map .lit) vs:=⟨by simp,fun j c u h1 h2=>by
  rw [List.getElem?_map,h2] at h1
  cases h1
  exact RelV.lit u⟩
theorem J5 {c:AV} (h:c.flat=true):c.un=c:=by
  cases c with
  |list o E xs=>cases o<;>first|rfl|cases h
  |_=>first|rfl|cases h
theorem JV {α:Type} {f:α→AV} {xs m:List α} {sz id bytes:Nat} {pl sl:Slk sz} {i:TypeInfo} {z:Value} {c:Call} (hf:dS f sz) (h0:sz≠0) (hg:bY ops s o) (hd:o.dst=some d) (hn:d<n) (ho:o.op= .call c) (hc:c.callee= .builtin .append) (ha:c.args=#[x,y]) (hat:c.argTypes=#[t,tx])
    (ht:P.underlying t=some (.slice E)) (hi:P.info? E=some i) (hz:i.zero=some z) (hsz:i.size=sz) (hby:i.bytes=bytes) (hzs:z.cells.size=sz) (hz1:z.cells.toList.all (fun c=>c.oneCell')=true) (hE:E<10000)
    (hx:s.eval x=hdM id pl xs sl) (hm:s.mem id=some (lob pl f xs sl))
    (hsrc:∀(G:Gh) (a:Act) (w:World),RelSt P G n s a w→∃news,Src P sz tx (a.eval y) m.length news w∧eA P G w (flt f m) news)
    (h63:xs.length+m.length≤maxLen) (hb:(xs.length+m.length)*bytes≤140737488355328)
    (k:∀id' (pl' sl':Slk sz),(id'=id∧pl'=pl∧sl'.n+m.length=sl.n∧sl'.l=sl.l.drop (m.length*sz))∨(s.mem id'=none∧sl.n<m.length)→aM P n ops rest {s with fr:=(d,hdM id' pl' (xs++m) sl')::s.fr,mem:=bA (fun j=>if j=id then none else s.mem j) id' (lob pl' f (xs++m) sl')} Q):aM P n ops (o::rest) s Q:=by
  subst hsz
  subst hby
  intro G a w K hr hfx hK
  obtain ⟨news,hsr,hnr⟩:=hsrc G a w hr
  have hnl:=hsr.newsLen
  have hscm:∀c∈flt f m,c.scalar=true:=List.all_eq_true.1 (jN hf m).1
  have hflm:∀c∈flt f m,c.flat=true:=List.all_eq_true.1 (jN hf m).2
  have hsmall:xs.length+m.length≤9223372036854775807:=by simp only [maxLen] at h63;omega
  obtain ⟨N,hN⟩:=hr.mem.fin
  have hidE:(10000*N+E)%10000=E:=by rw [Nat.mul_add_mod];exact Nat.mod_eq_of_lt hE
  have hge:N≤10000*N+E:=Nat.le_trans (Nat.le_mul_of_pos_left N (by decide)) (Nat.le_add_right _ _)
  generalize 10000*N+E=idn at hidE hge
  have hmb:G.mb idn=none:=hN idn hge
  have hM:s.mem idn=none:=by
    cases hx:s.mem idn with
    |none=>rfl
    |some c=>obtain ⟨b,hb,_⟩:=hr.mem.obj idn c hx;rw [hmb] at hb;cases hb
  have hne:idn≠id:=fun e=>by subst e;rw [hm] at hM;cases hM
  have hlob:=yD hf pl xs sl
  have hll:=B4 hf pl xs sl
  have grow:∀(base:Option Addr) (cap:Nat) (olds:List Value),sl.n<m.length→a.eval x= .slice base xs.length cap→(Builtin.firstCells i.size xs.length (.slice base xs.length cap)).run P w.drew= .ok olds.toArray w.drew→eA P G w (flt f xs) olds→cap<xs.length+m.length→wpList P ops K (o::rest) a w:=by
    intro base cap olds hlt0 hval hold hro hg'
    have hge':=grownCap_ge w (xs.length+m.length) cap E
    have hcm:=grownCap_le_maxLen w (xs.length+m.length) cap E h63
    have hr0:=run_append_grow_src (P:=P) w t tx o.type E i z ht hi hz base xs.length cap olds hold (a.eval y) m.length news hsr hg' (by omega) (growslice_fits hg' hb)
    have hpz:∀u∈(Builtin.zeroCells z.cells (grownCap w (xs.length+m.length) cap E-(xs.length+m.length))).toList,u.oneCell'=true:=by
      intro u hu
      unfold Builtin.zeroCells at hu
      simp only [Array.toList_map,List.mem_map,Array.mem_toList_iff,Array.mem_range] at hu
      obtain ⟨j,hj,rfl⟩:=hu
      have hzp:0<z.cells.size:=by
        rcases Nat.eq_zero_or_pos z.cells.size with h|h
        ·rw [h] at hj;omega
        ·exact h
      have hlt:j%z.cells.size<z.cells.size:=Nat.mod_lt _ hzp
      rw [getElem!_pos z.cells (j%z.cells.size) hlt]
      exact List.all_eq_true.1 hz1 _ (Array.mem_toList_iff.2 (Array.getElem_mem hlt))
    have hzl:(Builtin.zeroCells z.cells (grownCap w (xs.length+m.length) cap E-(xs.length+m.length))).toList.length=(grownCap w (xs.length+m.length) cap E-(xs.length+m.length))*i.size:=by
      rw [Array.length_toList,size_zeroCells,hzs]
    generalize hzc:Builtin.zeroCells z.cells (grownCap w (xs.length+m.length) cap E-(xs.length+m.length))=zc at hr0 hpz hzl
    generalize hcap:grownCap w (xs.length+m.length) cap E=cap' at*
    obtain ⟨G2,q1,q2⟩:=hr.newRow (d:=d) (E:=E) (avs:=flt f xs++flt f m++zc.toList.map .lit) (vals:=olds++news++zc.toList) (len:=xs.length+m.length) (cap:=cap') (id:=idn) hn (G8 (G8 hro hnr) (NK _))
      (fun c hc=>by
        rcases List.mem_append.1 hc with hc|hc
        ·rcases List.mem_append.1 hc with hc|hc
         ·exact List.all_eq_true.1 (jN hf xs).1 c hc
         ·exact hscm c hc
        ·obtain ⟨u,hu,rfl⟩:=List.mem_map.1 hc;exact hpz u hu)
      (fun c hc=>by
        rcases List.mem_append.1 hc with hc|hc
        ·rcases List.mem_append.1 hc with hc|hc
         ·exact List.all_eq_true.1 (jN hf xs).2 c hc
         ·exact hflm c hc
        ·obtain ⟨u,hu,rfl⟩:=List.mem_map.1 hc;rfl)
      hge' hcm hidE hmb
    refine jE hg hd hr hfx hK ⟨.slice (some ⟨w.heap.size,0,none⟩) (xs.length+m.length) cap',_,G2,?_,?_,q2⟩ (k idn Slk.nil ⟨zc.toList.map .lit,cap'-(xs.length+m.length),by rw [List.length_map,hzl],by rw [List.all_map];exact List.all_eq_true.2 fun u hu=>hpz u hu⟩ (.inr ⟨hM,hlt0⟩))
    ·have e:((olds++news).toArray++zc)=(olds++news++zc.toList).toArray:=by apply Array.ext';simp
     rw [e] at hr0
     simp [execOp,ho,resolve,hc,ha,hat,invoke,builtin,hval,hr0]
    ·refine ⟨q1.size,q1.defers,fun j=>?_,q1.loc,q1.mem.sub fun j c hj=>?_⟩
     ·have:=q1.slot j
      simp only [hdM,Slk.nil,Nat.zero_mul,List.length_append]
      rw [show xs.length+m.length+(cap'-(xs.length+m.length))=cap' by omega]
      exact this
     ·by_cases e:j=idn
      ·subst e
       have hj':bA (fun j=>if j=id then none else s.mem j) j (lob Slk.nil f (xs++m) ⟨zc.toList.map .lit,cap'-(xs.length+m.length),_,_⟩) j=some c:=hj
       rw [bP] at hj'
       show bA s.mem j _ j=some c
       rw [bP,←hj']
       simp [lob,Slk.nil,ET]
      ·have hj':bA (fun j=>if j=id then none else s.mem j) idn (lob Slk.nil f (xs++m) ⟨zc.toList.map .lit,cap'-(xs.length+m.length),_,_⟩) j=some c:=hj
       rw [bT e] at hj'
       show bA s.mem idn _ j=some c
       rw [bT e]
       by_cases e2:j=id
       ·rw [if_pos e2] at hj';cases hj'
       ·rw [if_neg e2] at hj';exact hj'
  have hv:=hr.evM' hx
  rcases hv.gslCases with ⟨b,hb0,hval,hle,hmax⟩|⟨h1,h2,b,hval⟩
  ·by_cases hem:pl.n+xs.length+sl.n=0
   ·have e1:pl.n=0:=by omega
    have e2:xs.length=0:=by omega
    have e3:sl.n=0:=by omega
    have ex:xs=[]:=List.eq_nil_of_length_eq_zero e2
    subst ex
    by_cases hm0:m=[]
    ·subst hm0
     have hn0:news=[]:=List.eq_nil_of_length_eq_zero (by simpa using hnl)
     subst hn0
     refine jE hg hd hr hfx hK ⟨_,w,G,?_,hr.put hn (show bE P G w (.slot d) (hdM id pl ([]++[]) sl) (a.eval x) from hv.toS rfl),Keep.refl _ _⟩ ?_
     ·have:=run_append_nothing (P:=P) w t tx o.type E i ht hi (some ⟨b,pl.n*i.size,none⟩) 0 sl.n (by omega) (a.eval y) hsr
      simp [execOp,ho,resolve,hc,ha,hat,invoke,builtin,hval,this]
     ·have:=k id pl sl (.inl ⟨rfl,rfl,rfl,by simp⟩)
      refine cast ?_ this
      congr 1
      have:(bA (fun j=>if j=id then none else s.mem j) id (lob pl f ([]++[]) sl))=s.mem:=by
        funext j
        by_cases e:j=id
        ·subst e;rw [bP,hm];rfl
        ·rw [bT e,if_neg e]
      rw [this];rfl
    ·exact grow _ _ [] (by have:=List.length_pos_iff.2 hm0;omega) hval (run_firstCells_some w.drew i.size 0 _ 0 _ [] (by simp) (fun j u h=>by simp at h)) ⟨by simp [flt],fun j c u h=>by simp [flt] at h⟩ (by have:=List.length_pos_iff.2 hm0;simp;omega)
   ·have hne':lob pl f xs sl≠[]:=fun e=>by
      have:=congrArg List.length e
      rw [hll] at this
      simp only [List.length_nil,Nat.mul_eq_zero] at this
      omega
    obtain ⟨arr,T,hh,has,harr⟩:=hr.viewM hm hb0 hlob hne'
    by_cases hroom:m.length≤sl.n
    ·
     have hlen:(flt f m).length=m.length*i.size:=pW hf m
     have hlx:(flt f xs).length=xs.length*i.size:=pW hf xs
     have hsize:pl.n*i.size+xs.length*i.size+m.length*i.size≤(lob pl f xs sl).length:=by
       rw [hll,←Nat.add_mul,←Nat.add_mul]
       exact Nat.mul_le_mul_right _ (by omega)
     have hcell:∀j,j<news.length→(w.cell? ⟨b,pl.n*i.size+xs.length*i.size+j,none⟩).isSome=true:=by
       intro j hj
       rw [hnl] at hj
       simp only [World.cell?,hh,Option.isSome_none,Bool.false_eq_true,if_false]
       rw [Array.getElem?_eq_getElem (by omega)];rfl
     have hr0:=run_append_room_src (P:=P) w t tx o.type E i ht hi b (pl.n*i.size) xs.length (xs.length+sl.n) (a.eval y) m.length news hsr (by omega) hcell (fun j _=>frozen_of_row w b _ arr T hh)
     obtain ⟨w1,w2⟩:=hr.writeM hm hb0 hnr hscm hflm (off:=pl.n*i.size+xs.length*i.size) (by rw [hlen];exact hsize) hlob hne'
     have hgt:G.mb id=some b:=hb0
     let sl':Slk i.size:=⟨sl.l.drop (m.length*i.size),sl.n-m.length,by rw [List.length_drop,sl.len,←Nat.sub_mul],List.all_eq_true.2 fun c hc=>List.all_eq_true.1 sl.sc c (List.mem_of_mem_drop hc)⟩
     have hsp:c8 (lob pl f xs sl) (pl.n*i.size+xs.length*i.size) (flt f m)=lob pl f (xs++m) sl':=by
       unfold c8 lob
       have e1:(pl.l++flt f xs).length=pl.n*i.size+xs.length*i.size:=by rw [List.length_append,pl.len,hlx]
       rw [←e1,List.take_left,←List.drop_drop,List.drop_left,hlen,ET]
       simp [List.append_assoc,sl']
     refine jE hg hd hr hfx hK ⟨.slice (some ⟨b,pl.n*i.size,none⟩) (xs.length+m.length) (xs.length+sl.n),_,G,?_,w1.put hn (show bE P G _ (.slot d) (hdM id pl (xs++m) sl') _ from ?_),w2⟩ ?_
     ·simp [execOp,ho,resolve,hc,ha,hat,invoke,builtin,hval,hr0]
     ·have:RelV P G (w.setCells b (pl.n*i.size+xs.length*i.size) news) (.gsl id (pl.n*i.size) (xs.length+m.length) (xs.length+sl.n)) (.slice (some ⟨b,pl.n*i.size,none⟩) (xs.length+m.length) (xs.length+sl.n)):= .gsl id _ _ _ b hb0 (by omega) hmax
      have e:hdM id pl (xs++m) sl'= .gsl id (pl.n*i.size) (xs.length+m.length) (xs.length+sl.n):=by
        simp only [hdM,List.length_append,sl']
        rw [show xs.length+m.length+(sl.n-m.length)=xs.length+sl.n by omega]
      rw [e]
      exact this
     ·have:=k id pl sl' (.inl ⟨rfl,rfl,Nat.sub_add_cancel hroom,rfl⟩)
      refine cast ?_ this
      congr 1
      have:(bA (fun j=>if j=id then none else s.mem j) id (lob pl f (xs++m) sl'))=bA s.mem id (c8 (lob pl f xs sl) (pl.n*i.size+xs.length*i.size) (flt f m)):=by
        rw [hsp]
        funext j
        by_cases e:j=id
        ·subst e;rw [bP,bP]
        ·rw [bT e,bT e,if_neg e]
      rw [this];rfl
    ·have hcells:∀j c,(flt f xs)[j]? =some c→(lob pl f xs sl)[pl.n*i.size+j]? =some c:=by
       intro j c hj
       have hjl:=(List.getElem?_eq_some_iff.1 hj).1
       unfold lob
       rw [List.append_assoc,List.getElem?_append_right (by rw [pl.len];omega),pl.len,Nat.add_sub_cancel_left,List.getElem?_append_left hjl]
       exact hj
     have hlx:(flt f xs).length=xs.length*i.size:=pW hf xs
     have hin:∀j,j<xs.length*i.size→pl.n*i.size+j<arr.size:=by
       intro j hj
       have h5:(pl.n+xs.length)*i.size≤(pl.n+xs.length+sl.n)*i.size:=Nat.mul_le_mul_right _ (by omega)
       rw [←hll,←has,Nat.add_mul] at h5
       omega
     refine grow _ _ ((List.range (xs.length*i.size)).map fun j=>arr.getD (pl.n*i.size+j) undef) (by omega) hval (run_firstCells_some w.drew i.size xs.length _ _ _ _ (by simp) (fun j u h=>?_)) ⟨by rw [hlx];simp,fun j c u h1 h2=>?_⟩ (by omega)
     ·rw [List.getElem?_map] at h
      cases hj:(List.range (xs.length*i.size))[j]? with
      |none=>rw [hj] at h;cases h
      |some j'=>
       rw [hj] at h
       cases h
       obtain ⟨hjl,hje⟩:=List.getElem?_eq_some_iff.1 hj
       simp only [List.length_range] at hjl
       rw [List.getElem_range] at hje
       subst hje
       have:=hin j hjl
       have e:arr[pl.n*i.size+j]? =some (arr.getD (pl.n*i.size+j) undef):=by rw [Array.getD_eq_getD_getElem?,Array.getElem?_eq_getElem this];rfl
       have hh':w.drew.heap[b]? =some (.cells arr T (0,0)):=hh
       simp only [Addr.add_lit,World.cell?,hh',Option.isSome_none,Bool.false_eq_true,if_false]
       exact e
     ·have hjl:=(List.getElem?_eq_some_iff.1 h1).1
      rw [hlx] at hjl
      rw [List.getElem?_map,List.getElem?_range hjl] at h2
      cases h2
      have hlt:=hin j hjl
      have e:arr[pl.n*i.size+j]? =some (arr.getD (pl.n*i.size+j) undef):=by rw [Array.getD_eq_getD_getElem?,Array.getElem?_eq_getElem hlt];rfl
      have:=harr _ c _ (hcells j c h1) e
      rwa [J5 (List.all_eq_true.1 (jN hf xs).2 c (List.mem_of_getElem? h1))] at this
  ·have ex:xs=[]:=List.eq_nil_of_length_eq_zero h1
   subst ex
   have hval':a.eval x= .slice b ([]:List α).length 0:=hval
   by_cases hm0:m=[]
   ·subst hm0
    have hn0:news=[]:=List.eq_nil_of_length_eq_zero (by simpa using hnl)
    subst hn0
    refine jE hg hd hr hfx hK ⟨_,w,G,?_,hr.put hn (show bE P G w (.slot d) (hdM id pl ([]++[]) sl) (a.eval x) from hv.toS rfl),Keep.refl _ _⟩ ?_
    ·have:=run_append_nothing (P:=P) w t tx o.type E i ht hi b 0 0 (by omega) (a.eval y) hsr
     simp [execOp,ho,resolve,hc,ha,hat,invoke,builtin,hval,this]
    ·have:=k id pl sl (.inl ⟨rfl,rfl,rfl,by simp⟩)
     refine cast ?_ this
     congr 1
     have:(bA (fun j=>if j=id then none else s.mem j) id (lob pl f ([]++[]) sl))=s.mem:=by
       funext j
       by_cases e:j=id
       ·subst e;rw [bP,hm];rfl
       ·rw [bT e,if_neg e]
     rw [this];rfl
   ·refine grow b 0 [] (by have:=List.length_pos_iff.2 hm0;simp only [List.length_nil] at h2;omega) hval' ?_ ⟨by simp [flt],fun j c u h=>by simp [flt] at h⟩ (by have:=List.length_pos_iff.2 hm0;simp;omega)
    cases b with
    |none=>exact run_firstCells_none w.drew i.size 0 0 0
    |some ad=>exact run_firstCells_some w.drew i.size 0 ad 0 0 [] (by simp) (fun j u h=>by simp at h)
end
theorem PM {base:Nat→Option (List AV)}:∀{objs:Ob} {j id id':Nat} {cs cs':List AV},(objs.map (·.1)).Nodup→objs[j]? =some (id,cs)→base id=none→(id'=id∨id'∉objs.map (·.1))→bA (fun k=>if k=id then none else lay objs base k) id' cs'=lay (objs.set j (id',cs')) base
  |[],_,_,_,_,_,_,h,_,_=>by simp at h
  |(i0,c0)::r,0,id,id',cs,cs',hn,h,hb,hor=>by
   simp only [List.getElem?_cons_zero,Option.some.injEq,Prod.mk.injEq] at h
   obtain ⟨rfl,rfl⟩:=h
   simp only [List.map_cons,List.nodup_cons] at hn
   funext k
   show bA (fun k=>if k=i0 then none else bA (lay r base) i0 c0 k) id' cs' k=bA (lay r base) id' cs' k
   by_cases e:k=id'
   ·subst e;rw [bP,bP]
   ·rw [bT e,bT e]
    by_cases e2:k=i0
    ·subst e2;rw [if_pos rfl,gA hn.1,hb]
    ·rw [if_neg e2,bT e2]
  |(i0,c0)::r,j+1,id,id',cs,cs',hn,h,hb,hor=>by
   simp only [List.map_cons,List.nodup_cons] at hn
   have h':r[j]? =some (id,cs):=by simpa using h
   have hir:id∈r.map (·.1):=List.mem_map.2 ⟨_,List.mem_of_getElem? h',rfl⟩
   have hne:i0≠id:=fun e=>hn.1 (e▸hir)
   have hne':i0≠id':=fun e=>by
     rcases hor with h|h
     ·exact hne (e.trans h)
     ·exact h (by rw [List.map_cons,e];exact List.mem_cons_self ..)
   have ih:=PM (cs':=cs') hn.2 h' hb (hor.imp (fun h=>h) fun h=>fun hm=>h (List.mem_cons_of_mem _ hm))
   funext k
   show bA (fun k=>if k=id then none else bA (lay r base) i0 c0 k) id' cs' k=bA (lay (r.set j (id',cs')) base) i0 c0 k
   rw [←ih]
   by_cases e:k=i0
   ·subst e
    rw [bP,bT hne',if_neg hne,bP]
   ·rw [bT e]
    by_cases e2:k=id'
    ·subst e2;rw [bP,bP]
    ·rw [bT e2,bT e2,bT e]
theorem VI {objs:Ob} {base:Nat→Option (List AV)} {j id id':Nat} {cs cs':List AV} (h:ndO objs base) (hj:objs[j]? =some (id,cs)) (hor:id'=id∨lay objs base id'=none):ndO (objs.set j (id',cs')) base:=by
  rcases hor with rfl|hor
  ·exact jR h (d3 hj)
  ·have hni:id'∉objs.map (·.1):=fun hm=>pG hm hor
   have hb:base id'=none:=by rwa [gA hni] at hor
   have e:(objs.set j (id',cs')).map (·.1)=(objs.map (·.1)).set j id':=by rw [List.map_set]
   refine ⟨?_,fun i hi=>?_⟩
   ·rw [e]
    have hjl:j<objs.length:=(List.getElem?_eq_some_iff.1 hj).1
    have key:∀(l:List Nat) (j:Nat),l.Nodup→id'∉l→(l.set j id').Nodup:=by
      intro l
      induction l with
      |nil=>intro j _ _;simp
      |cons a r ih=>
       intro j hn hm
       simp only [List.nodup_cons,List.mem_cons,not_or] at hn hm
       cases j with
       |zero=>simp only [List.set_cons_zero,List.nodup_cons];exact ⟨hm.2,hn.2⟩
       |succ j=>
        simp only [List.set_cons_succ,List.nodup_cons]
        refine ⟨fun h=>?_,ih j hn.2 hm.2⟩
        rcases List.mem_or_eq_of_mem_set h with h|h
        ·exact hn.1 h
        ·exact hm.1 h.symm
    exact key _ _ h.1 hni
   ·rw [e] at hi
    rcases List.mem_or_eq_of_mem_set hi with h'|h'
    ·exact h.2 i h'
    ·rw [h'];exact hb
section
variable {P:Program} {n:Nat} {s:St} {e e':Es} {ops:Array Oper} {l rest:List Oper} {o:Oper} {Q:Es→Prop} {d:Nat} {v:AV} {C:Cnd} {t t' tx E:Nat} {x y:Operand} {k:IntKind} {i:Int}
theorem JZ {ι:Type _} {fr:Fr} {loc:List (Nat×List AV)} {objs:Ob} {base:Nat→Option (List AV)} {V:Nat→ι→AV} {cells:ι→List AV} {ok:Nat→ι→Prop} {j id:Nat} {c0:List AV} (hj:objs[j]? =some (id,c0))
    (h:∀Q',(∀id' i,(id'=id∨lay objs base id'=none)→ok id' i→aM P n ops rest ⟨(d,V id' i)::((⟨fr,[],loc,objs,base⟩:Es).st []).fr,loc,bA (fun k=>if k=id then none else lay objs base k) id' (cells i)⟩ Q')→aM P n ops (o::rest) ((⟨fr,[],loc,objs,base⟩:Es).st []) Q')
    (g:∀id' i,ok id' i→aC P n ops rest ⟨(d,[],V id' i)::fr,[],loc,objs.set j (id',cells i),base⟩ Q):aC P n ops (o::rest) ⟨fr,[],loc,objs,base⟩ Q:=by
  intro G a w K hr hfx hK
  have hfl:∀i,(aY fr i).1=[]:=by
    intro i
    cases hx:(aY fr i).1 with
    |nil=>rfl
    |cons p r=>
     have:=hr.gs i p (by show p∈(aY fr i).1;rw [hx];exact List.mem_cons_self ..)
     cases this
  have hnd:ndO objs base:=hr.nd
  have hbi:base id=none:=hnd.2 id (List.mem_map.2 ⟨_,List.mem_of_getElem? hj,rfl⟩)
  refine h (fun s''=>∃e'',e''.st []=s''∧e''.nd∧Q e'') (fun id' ix hor hok=>?_) G a w K (hr.st bF) hfx ?_
  ·intro G1 a1 w1 K1 hr1 hfx1 hK1
   have hlay:=PM (cs':=cells ix) hnd.1 hj hbi (hor.imp (fun h=>h) fun h hm=>pG hm h)
   have hf':=d4 hfl [(d,V id' ix)]
   rw [hlay] at hr1
   refine g id' ix hok G1 a1 w1 K1 ⟨hr1.size,hr1.defers,fun i _=>?_,fun i hne=>?_,fun i p hp=>?_,hr1.loc,hr1.mem,VI hnd hj hor⟩ hfx1 (fun e2 G2 a2 w2 hq hr2 hk2=>hK1 _ G2 a2 w2 ⟨e2,rfl,hr2.2,hq⟩ hr2.1 hk2)
   ·have h3:=hr1.slot i
    have e1:St.get ⟨(d,V id' ix)::((⟨fr,[],loc,objs,base⟩:Es).st []).fr,loc,lay (objs.set j (id',cells ix)) base⟩ i=dA [] (aY ((d,[],V id' ix)::fr) i):=oB [] ((d,[],V id' ix)::fr) i
    rw [e1] at h3
    unfold dA at h3
    rw [show (aY ((d,[],V id' ix)::fr) i).1=[] from hf' i] at h3
    exact h3
   ·rw [show (aY ((d,[],V id' ix)::fr) i).1=[] from hf' i] at hne
    exact absurd bF hne
   ·rw [show (aY ((d,[],V id' ix)::fr) i).1=[] from hf' i] at hp;cases hp
  ·rintro s'' G' a' w' ⟨e'',rfl,hn2,hq⟩ hr' hk
   exact hK e'' G' a' w' hq ⟨hr',hn2⟩ hk
theorem XV {α:Type} {f:α→AV} {m:List α} {sz:Nat} {o2:Bool} {s:St} (hu:P.underlying tx=some (.slice E)) (hs:aZ P E sz) (hy:s.eval y= .list o2 E (m.map f)) (G:Gh) (a:Act) (w:World) (hr:RelSt P G n s a w):∃news,Src P sz tx (a.eval y) m.length news w∧eA P G w (flt f m) news:=by
  obtain ⟨news,h1,h2⟩:=HC hu hs hy G a w hr
  obtain ⟨a1,a2,_⟩:=CR hs hy G a w hr
  rw [List.length_map] at h1
  exact ⟨news,h1,by rw [h1.newsLen];have:=jS a1;rw [List.length_map] at this;exact this.symm,h2⟩
theorem pS [I:HasTab P] {fr:Fr} {loc:List (Nat×List AV)} {objs:Ob} {base:Nat→Option (List AV)} {α:Type} {f:α→AV} {sz:Nat} {xs m r:List α} {o2:Bool} {id t tx z1 z2:Nat} {pl sl:Slk sz} {kk:TK} {c:Call} (j:Nat) (hf:dS f sz) (he:bM xs m=some r)
    (g:∀id' (pl' sl':Slk sz),aC P n ops rest ⟨(d,[],hdM id' pl' r sl')::fr,[],loc,objs.set j (id',lob pl' f r sl'),base⟩ Q)
    (hj:objs[j]? =some (id,lob pl f xs sl):=by rfl) (hC:bH ops fr o=some []:=by rfl) (hd:o.dst=some d:=by rfl) (hn:Nat.blt d n=true:=by rfl) (ho:o.op= .call c:=by rfl) (hc:c.callee= .builtin .append:=by rfl) (ha:c.args=#[x,y]:=by rfl) (hat:c.argTypes=#[t,tx]:=by rfl)
    (h1:(HasTab.T P).look t=some (.slice E,z1):=by rfl) (h2:(HasTab.T P).look tx=some (.slice E,z2):=by rfl) (h3:(HasTab.T P).look E=some (kk,sz):=by rfl) (hB:cT E (HasTab.B P)=true:=by rfl) (hz1:JN P E=true:=by kernel_rfl) (hE:Nat.blt E 10000=true:=by rfl) (h0:sz≠0:=by decide) (hx:evE fr [] x=hdM id pl xs sl:=by rfl) (hy:evE fr [] y= .list o2 E (m.map f):=by rfl):aC P n ops (o::rest) ⟨fr,[],loc,objs,base⟩ Q:=by
  obtain ⟨⟨D,hD,hk⟩,_⟩:=Tab.ok I.tok h1
  have:=bU hk;subst this
  obtain ⟨⟨D2,hD2,hk2⟩,_⟩:=Tab.ok I.tok h2
  have:=bU hk2;subst this
  have hs:=(Tab.ok I.tok h3).2
  obtain ⟨ti,z,hi,hz,hzs,hb⟩:=uT.at I.bok hB
  have hsz:ti.size=sz:=by unfold aZ at hs;rw [hi] at hs;simpa using hs
  obtain ⟨hl,hrm⟩:=xY he
  subst hrm
  have hone:z.cells.toList.all (fun c=>c.oneCell')=true:=by
    unfold JN at hz1
    rw [hi] at hz1
    simp only [hz] at hz1
    exact hz1
  refine aC.nd fun hnd=>JZ (ι:=Slk sz×Slk sz) (V:=fun id' p=>hdM id' p.1 (xs++m) p.2) (cells:=fun p=>lob p.1 f (xs++m) p.2) (ok:=fun _ _=>True) hj (fun Q' hk=>?_) (fun id' p _=>g id' p.1 p.2)
  exact JV hf h0 (cB (e:=⟨fr,[],loc,objs,base⟩) _ hC) hd (Nat.le_of_ble_eq_true hn) ho hc ha hat hD hi hz hsz rfl (by rw [hzs,hsz]) hone (Nat.le_of_ble_eq_true hE) (bK (e:=⟨fr,[],loc,objs,base⟩) hx) (cS hnd.1 hj) (XV hD2 hs (bK (e:=⟨fr,[],loc,objs,base⟩) hy)) (Nat.le_trans hl (by decide)) (Nat.le_trans (Nat.mul_le_mul hl hb) (by decide))
    (fun id' pl' sl' hor=>hk id' (pl',sl') (hor.imp (fun h=>h.1) fun h=>h.1) trivial)
end
section
variable {P:Program} {n:Nat} {s:St} {ops:Array Oper} {o:Oper} {rest:List Oper} {Q:St→Prop} {d:Nat} {t tx E:TypeId} {x y:Operand}
theorem DL (hg:bY ops s o) (hd:o.dst=some d) (hn:d<n) (hE:E<10000)
    (h:∀(G:Gh) (a:Act) (w:World),RelSt P G n s a w→∃b w',(execOp a.eval o).run P w= .ok (.value (.slice b 0 0)) w'∧RelSt P G n (s.put d (.lit (.slice b 0 0))) (a.put (some d) (.slice b 0 0)) w'∧Keep G w G w')
    (k:∀id,s.mem id=none→id%10000=E→aM P n ops rest {s with fr:=(d,.gsl id 0 0 0)::s.fr,mem:=bA s.mem id []} Q):aM P n ops (o::rest) s Q:=by
  intro G a w K hr hfx hK
  obtain ⟨N,hN⟩:=hr.mem.fin
  have hid:(10000*N+E)%10000=E:=by rw [Nat.mul_add_mod];exact Nat.mod_eq_of_lt hE
  have hge:N≤10000*N+E:=Nat.le_trans (Nat.le_mul_of_pos_left N (by decide)) (Nat.le_add_right _ _)
  generalize 10000*N+E=id at hid hge
  have hmb:G.mb id=none:=hN id hge
  have hM:s.mem id=none:=by
    cases hx:s.mem id with
    |none=>rfl
    |some c=>obtain ⟨b,hb,_⟩:=hr.mem.obj id c hx;rw [hmb] at hb;cases hb
  obtain ⟨b,w',hrun,hT,hk⟩:=h G a w hr
  obtain ⟨G2,h1,h2,h3,h4⟩:=hr.named hn hT hmb ⟨N,hN⟩ (b0:=0) (of:=0) (m:=0) (cp:=0) (cells:=[]) (fun G2 _=>B9 id 0 b) (fun G2 _ _ _=> .inr (.inr (.inl rfl)))
  have kp:Keep G w G2 w':=⟨hk.os,hk.tape,hk.output,hk.size,fun b hb hn=>(by
   obtain ⟨a1,a2,a3⟩:=hk.free b hb hn
   exact ⟨by rw [h3];exact a1,a2,by rw [h4]⟩),hk.stab.trans h2⟩
  exact jE hg hd hr hfx hK ⟨_,_,G2,hrun,h1,kp⟩ (k id hM hid)
end
section
variable {P:Program} {n:Nat} {s:St} {e e':Es} {ops:Array Oper} {l rest:List Oper} {o:Oper} {Q:Es→Prop} {d:Nat} {v:AV} {C:Cnd} {t t' tx E:Nat} {x y:Operand} {k:IntKind} {i:Int}
theorem lJ [_I:HasTab P] {fr:Fr} {loc:List (Nat×List AV)} {objs:Ob} {base:Nat→Option (List AV)} {α:Type} {sz:Nat} (E:Nat) (f:α→AV) (g:∀id,aC P n ops rest ⟨(d,[],hdM id (Slk.nil (sz:=sz)) ([]:List α) (Slk.nil (sz:=sz)))::fr,[],loc,(id,lob (Slk.nil (sz:=sz)) f [] (Slk.nil (sz:=sz)))::objs,base⟩ Q)
    (hC:bH ops fr o=some []:=by rfl) (hd:o.dst=some d:=by rfl) (hn:Nat.blt d n=true:=by rfl) (ho:o.op= .assign (.const (.slice none 0 0)):=by rfl) (hE:Nat.blt E 10000=true:=by rfl):aC P n ops (o::rest) ⟨fr,[],loc,objs,base⟩ Q:=by
  refine DO (d:=d) (t:=E) (ι:=Unit) (V:=fun id _=> .gsl id 0 0 0) (cells:=fun _=>[]) (ok:=fun _=>True) (fun Q' hk=>?_) (fun id _ _ _=>?_)
  ·refine DL (cB (e:=⟨fr,[],loc,objs,base⟩) _ hC) hd (Nat.le_of_ble_eq_true hn) (Nat.le_of_ble_eq_true hE) (fun G a w hr=>?_) (fun id h1 h2=>hk id () h1 h2 trivial)
   refine ⟨none,w,by simp [execOp,ho,Act.eval],hr.put (Nat.le_of_ble_eq_true hn) (bZ _),Keep.refl _ _⟩
  ·have:=g id
   simp only [hdM,lob,Slk.nil,Nat.zero_mul,List.length_nil,Nat.add_zero,List.append_nil,flt,List.map_nil,List.flatMap_nil] at this
   exact this
theorem O4 [I:HasTab P] {fr:Fr} {loc:List (Nat×List AV)} {objs:Ob} {base:Nat→Option (List AV)} {α:Type} {sz z:Nat} {k2:TK} (f:α→AV) (g:∀id,aC P n ops rest ⟨(d,[],hdM id (Slk.nil (sz:=sz)) ([]:List α) (Slk.nil (sz:=sz)))::fr,[],loc,(id,lob (Slk.nil (sz:=sz)) f [] (Slk.nil (sz:=sz)))::objs,base⟩ Q)
    (hC:bH ops fr o=some []:=by rfl) (hd:o.dst=some d:=by rfl) (hn:Nat.blt d n=true:=by rfl) (ho:o.op= .buildSlice t 0 #[]:=by rfl) (h1:(HasTab.T P).look t=some (.slice E,z):=by rfl) (h2:(HasTab.T P).look E=some (k2,sz):=by rfl) (hE:Nat.blt E 10000=true:=by rfl):aC P n ops (o::rest) ⟨fr,[],loc,objs,base⟩ Q:=by
  obtain ⟨⟨D,hD,hk⟩,_⟩:=Tab.ok I.tok h1
  have:=bU hk;subst this
  have hs:=(Tab.ok I.tok h2).2
  refine DO (d:=d) (t:=E) (ι:=Unit) (V:=fun id _=> .gsl id 0 0 0) (cells:=fun _=>[]) (ok:=fun _=>True) (fun Q' hk=>?_) (fun id _ _ _=>?_)
  ·refine DL (cB (e:=⟨fr,[],loc,objs,base⟩) _ hC) hd (Nat.le_of_ble_eq_true hn) (Nat.le_of_ble_eq_true hE) (fun G a w hr=>?_) (fun id h1 h2=>hk id () h1 h2 trivial)
   have hrun:∃b ob,(execOp a.eval o).run P w= .ok (.value (.slice b 0 0)) (w.alloc ob):=by
     refine ⟨some ⟨w.heap.size,0,none⟩,.cells #[] E,?_⟩
     simp [execOp,ho,Instr.buildSlice,run_underlying hD,cC hs,Instr.fill,newRow,show Array.range 0=#[] from rfl]
   obtain ⟨b,ob,hrun⟩:=hrun
   have st:Stab G w G (w.alloc ob):=by
     refine ⟨fun _=>Nat.le_refl _,fun b oo hoo=>?_,fun _ _ h=>h⟩
     have hb:b<w.heap.size:=by
       rcases Nat.lt_or_ge b w.heap.size with h|h
       ·exact h
       ·rw [(hr.mem.far b h).1] at hoo;omega
     exact World.cell?_of_block (w:=w) (a:=⟨b,oo,none⟩) (vU _ _ _ hb)
   exact ⟨b,_,hrun,hr.turn (Nat.le_of_ble_eq_true hn) st (by rw [size_alloc];omega) (fun _ _=>rfl) (fun q b hb h _=>⟨h,vU _ _ _ hb,rfl⟩) (fun b hb=>hr.mem.far b (by rw [size_alloc] at hb;omega)) rfl (bZ _),⟨rfl,rfl,rfl,by rw [size_alloc];omega,fun b hb h=>⟨h,vU _ _ _ hb,rfl⟩,st⟩⟩
  ·have:=g id
   simp only [hdM,lob,Slk.nil,Nat.zero_mul,List.length_nil,Nat.add_zero,List.append_nil,flt,List.map_nil,List.flatMap_nil] at this
   exact this
end
theorem KC (z:Array Value) (_hz:z.size≠0):∀m:Nat,(madeCells z (m*z.size)).toList=(List.replicate m z.toList).flatten:=by
  intro m
  unfold madeCells
  rw [Array.toList_map,Array.toList_range]
  induction m with
  |zero=>simp
  |succ m ih=>
   rw [Nat.succ_mul,List.range_add,List.map_append,ih,List.replicate_succ',List.flatten_append]
   congr 1
   simp only [List.map_map,List.flatten_cons,List.flatten_nil,List.append_nil]
   apply List.ext_getElem
   ·simp
   ·intro k h1 h2
    simp only [List.length_map,List.length_range] at h1
    simp only [List.getElem_map,List.getElem_range,Function.comp]
    rw [Nat.mul_add_mod_self_right,Nat.mod_eq_of_lt h1,getElem!_pos z k h1]
    simp
theorem NL {P:Program} {G:Gh} {w:World} {A:List AV} {U:List Value} (h:eA P G w A U):∀m,eA P G w (List.replicate m A).flatten (List.replicate m U).flatten
  |0=>⟨rfl,fun j c u h=>by simp at h⟩
  |m+1=>by
   rw [List.replicate_succ,List.replicate_succ,List.flatten_cons,List.flatten_cons]
   exact G8 h (NL h m)
def mkO {α:Type} (n:Int) (z:α):Option (List α):=if 0≤n∧n≤lim then some (List.replicate n.toNat z) else none
section
variable {P:Program} {n:Nat} {s:St} {ops:Array Oper} {o:Oper} {rest:List Oper} {Q:St→Prop} {d:Nat} {t tx E:TypeId} {x y:Operand}
theorem PE {α:Type} (f:α→AV) (z:α):∀m,flt f (List.replicate m z)=(List.replicate m (f z).cells).flatten
  |0=>rfl
  |m+1=>by rw [List.replicate_succ,r9,PE f z m,List.replicate_succ,List.flatten_cons]
theorem P0 {α:Type} {f:α→AV} {z0:α} {sz m:Nat} {i:TypeInfo} {z:Value} {kl kc:IntKind} (hf:dS f sz) (h0:sz≠0) (hg:bY ops s o) (hd:o.dst=some d) (hn:d<n) (ho:o.op= .makeSlice t x y) (ht:P.underlying t=some (.slice E)) (hi:P.info? E=some i) (hz:i.zero=some z) (hsz:i.size=sz) (hzs:z.cells.size=sz) (hE:E<10000)
    (hzr:∀(G:Gh) (w:World),eA P G w (f z0).cells z.cells.toList) (hx:s.eval x= .lit (.int kl (m:Int))) (hy:s.eval y= .lit (.int kc (m:Int))) (h63:m≤maxLen) (hb:m*i.bytes≤140737488355328)
    (k:∀id,s.mem id=none→id%10000=E→aM P n ops rest {s with fr:=(d,hdM id (Slk.nil (sz:=sz)) (List.replicate m z0) (Slk.nil (sz:=sz)))::s.fr,mem:=bA s.mem id (lob (Slk.nil (sz:=sz)) f (List.replicate m z0) (Slk.nil (sz:=sz)))} Q):aM P n ops (o::rest) s Q:=by
  subst hsz
  intro G a w K hr hfx hK
  obtain ⟨N,hN⟩:=hr.mem.fin
  have hid:(10000*N+E)%10000=E:=by rw [Nat.mul_add_mod];exact Nat.mod_eq_of_lt hE
  have hge:N≤10000*N+E:=Nat.le_trans (Nat.le_mul_of_pos_left N (by decide)) (Nat.le_add_right _ _)
  generalize 10000*N+E=id at hid hge
  have hmb:G.mb id=none:=hN id hge
  have hM:s.mem id=none:=by
    cases hx:s.mem id with
    |none=>rfl
    |some c=>obtain ⟨b,hb,_⟩:=hr.mem.obj id c hx;rw [hmb] at hb;cases hb
  have hbytes:(i.bytes:Int)*(m:Int)≤281474976710656:=by
    have:((m*i.bytes:Nat):Int)≤140737488355328:=by omega
    rw [Int.natCast_mul,Int.mul_comm] at this
    omega
  have hm63:(m:Int)≤9223372036854775807:=by
    have:maxLen=9223372036854775807:=rfl
    rw [this] at h63
    omega
  have hrun:=run_make (P:=P) w t E i z ht hi hz kl kc (m:Int) (m:Int) (Int.natCast_nonneg _) (Int.le_refl _) hbytes hm63
  simp only [Int.toNat_natCast] at hrun
  have hml:=KC z.cells (by omega) m
  have hlist:(madeCells z.cells (m*i.size)).toList=(List.replicate m z.cells.toList).flatten:=by rw [←hzs];exact hml
  have hrep:=NL (hzr G w) m
  rw [←PE,←hlist] at hrep
  obtain ⟨G2,q1,q2⟩:=hr.newRowW (w1:=w) (.inl rfl) (d:=d) (E:=E) (len:=m) (cap:=m) (id:=id) hn hrep (List.all_eq_true.1 (jN hf _).1) (List.all_eq_true.1 (jN hf _).2) (Nat.le_refl _) h63 hid hmb
  refine jE hg hd hr hfx hK ⟨.slice (some ⟨w.heap.size,0,none⟩) m m,w.alloc (.cells (madeCells z.cells (m*i.size)) E),G2,?_,?_,?_⟩ (k id hM hid)
  ·simp [execOp,ho,hr.evLit hx,hr.evLit hy,hrun]
  ·simp only [Array.toArray_toList] at q1
   have:=q1
   simp only [hdM,lob,Slk.nil,Nat.zero_mul,List.length_replicate,Nat.add_zero,List.nil_append,List.append_nil]
   exact this
  ·simpa using q2
theorem XW {α:Type} {f:α→AV} {xs:List α} {sz id:Nat} {pl sl:Slk sz} (hf:dS f sz) (hu:P.underlying tx=some (.slice E)) (hm:s.mem id=some (lob pl f xs sl)) (hy:s.eval y=hdM id pl xs sl) (G:Gh) (a:Act) (w:World) (hr:RelSt P G n s a w):∃news,Src P sz tx (a.eval y) xs.length news w∧eA P G w (flt f xs) news:=by
  have hv:=hr.evM' hy
  have hlx:(flt f xs).length=xs.length*sz:=pW hf xs
  rcases hv.gslCases with ⟨b,hb0,hval,hle,hmax⟩|⟨h1,h2,b,hval⟩
  ·by_cases hem:xs.length*sz=0
   ·rw [hval]
    refine ⟨[],?_,⟨by rw [hlx,hem];rfl,fun j c u _ h=>by simp at h⟩⟩
    exact Src.ofSlice w hu _ xs.length _ [] (by rw [hem];rfl) (fun j u h=>by simp at h) (fun u h=>by cases h)
   ·have hll:=B4 hf pl xs sl
    have hne':lob pl f xs sl≠[]:=fun e=>by
      have:=congrArg List.length e
      rw [hll,Nat.add_mul,Nat.add_mul] at this
      simp only [List.length_nil] at this
      omega
    obtain ⟨arr,T,hh,has,harr⟩:=hr.viewM hm hb0 (yD hf pl xs sl) hne'
    have hcells:∀j c,(flt f xs)[j]? =some c→(lob pl f xs sl)[pl.n*sz+j]? =some c:=by
      intro j c hj
      have hjl:=(List.getElem?_eq_some_iff.1 hj).1
      unfold lob
      rw [List.append_assoc,List.getElem?_append_right (by rw [pl.len];omega),pl.len,Nat.add_sub_cancel_left,List.getElem?_append_left hjl]
      exact hj
    have hin:∀j,j<xs.length*sz→pl.n*sz+j<arr.size:=by
      intro j hj
      have h5:(pl.n+xs.length)*sz≤(pl.n+xs.length+sl.n)*sz:=Nat.mul_le_mul_right _ (by omega)
      rw [←hll,←has,Nat.add_mul] at h5
      omega
    have hat:∀j,j<xs.length*sz→arr[pl.n*sz+j]? =some (arr.getD (pl.n*sz+j) undef):=fun j hj=>by
      rw [Array.getD_eq_getD_getElem?,Array.getElem?_eq_getElem (hin j hj)];rfl
    have hR:eA P G w (flt f xs) ((List.range (xs.length*sz)).map fun j=>arr.getD (pl.n*sz+j) undef):=by
      refine ⟨by rw [hlx];simp,fun j c u h1 h2=>?_⟩
      have hjl:=(List.getElem?_eq_some_iff.1 h1).1
      rw [hlx] at hjl
      rw [List.getElem?_map,List.getElem?_range hjl] at h2
      cases h2
      have:=harr _ c _ (hcells j c h1) (hat j hjl)
      rwa [J5 (List.all_eq_true.1 (jN hf xs).2 c (List.mem_of_getElem? h1))] at this
    refine ⟨_,?_,hR⟩
    rw [hval]
    refine Src.ofSlice w hu _ xs.length _ _ (by simp) (fun j u h=>?_) (fun u hu=>?_)
    ·rw [List.getElem?_map] at h
     cases hj:(List.range (xs.length*sz))[j]? with
     |none=>rw [hj] at h;cases h
     |some j'=>
      rw [hj] at h
      cases h
      obtain ⟨hjl,hje⟩:=List.getElem?_eq_some_iff.1 hj
      simp only [List.length_range] at hjl
      rw [List.getElem_range] at hje
      subst hje
      simp only [Addr.add_lit,World.cell?,hh,Option.isSome_none,Bool.false_eq_true,if_false]
      exact hat j hjl
    ·obtain ⟨j,hj⟩:=List.mem_iff_getElem?.1 hu
     have hjl:j<(flt f xs).length:=by rw [hR.1.symm];exact (List.getElem?_eq_some_iff.1 hj).1
     exact (hR.2 j _ u (List.getElem?_eq_getElem hjl) hj).oneCell (List.all_eq_true.1 (jN hf xs).1 _ (List.getElem_mem hjl))
  ·have ex:xs=[]:=List.eq_nil_of_length_eq_zero h1
   subst ex
   rw [hval]
   refine ⟨[],?_,⟨by simp [flt],fun j c u h=>by simp [flt] at h⟩⟩
   cases b with
   |none=>exact Src.ofNil w hu 0
   |some ad=>exact Src.ofSlice w hu ad 0 0 [] (by simp) (fun j u h=>by simp at h) (fun u h=>by cases h)
end
section
variable {P:Program} {n:Nat} {s:St} {e e':Es} {ops:Array Oper} {l rest:List Oper} {o:Oper} {Q:Es→Prop} {d:Nat} {v:AV} {C:Cnd} {t t' tx E:Nat} {x y:Operand} {k:IntKind} {i:Int}
theorem HM [I:HasTab P] {fr:Fr} {loc:List (Nat×List AV)} {objs:Ob} {base:Nat→Option (List AV)} {α:Type} {f:α→AV} {sz z1:Nat} {kk:TK} {kl kc:IntKind} {m:Int} {r:List α} {zc:List AV} (z0:α) (hf:dS f sz) (he:mkO m z0=some r)
    (g:∀id,aC P n ops rest ⟨(d,[],hdM id (Slk.nil (sz:=sz)) r (Slk.nil (sz:=sz)))::fr,[],loc,(id,lob (Slk.nil (sz:=sz)) f r (Slk.nil (sz:=sz)))::objs,base⟩ Q)
    (hC:bH ops fr o=some []:=by rfl) (hd:o.dst=some d:=by rfl) (hn:Nat.blt d n=true:=by rfl) (ho:o.op= .makeSlice t x y:=by rfl) (h1:(HasTab.T P).look t=some (.slice E,z1):=by rfl) (h3:(HasTab.T P).look E=some (kk,sz):=by rfl) (hB:cT E (HasTab.B P)=true:=by rfl) (hZ:(HasTab.Z P).look E=some zc:=by rfl) (hzc:zc=(f z0).cells:=by rfl) (hE:Nat.blt E 10000=true:=by rfl) (h0:sz≠0:=by decide)
    (hx:evE fr [] x= .lit (.int kl m):=by rfl) (hy:evE fr [] y= .lit (.int kc m):=by rfl):aC P n ops (o::rest) ⟨fr,[],loc,objs,base⟩ Q:=by
  obtain ⟨⟨D,hD,hk⟩,_⟩:=Tab.ok I.tok h1
  have:=bU hk;subst this
  have hs:=(Tab.ok I.tok h3).2
  obtain ⟨ti,z,hi,hz,hzs,hb⟩:=uT.at I.bok hB
  have hsz:ti.size=sz:=by unfold aZ at hs;rw [hi] at hs;simpa using hs
  obtain ⟨z',Es,hz',hone,hcells,_⟩:=Zt.ok I.zok hZ
  rw [hi] at hz'
  simp only [Option.map_some,Option.some.injEq] at hz'
  rw [hz] at hz'
  cases hz'
  unfold mkO at he
  split at he
  ·rename_i hm
   cases he
   obtain ⟨k,hk⟩:∃k:Nat,m=k:=⟨m.toNat,by omega⟩
   subst hk
   have hk2:k≤lim:=by have:=hm.2;omega
   simp only [Int.toNat_natCast] at g ⊢
   refine DO (d:=d) (t:=E) (ι:=Unit) (V:=fun id _=>hdM id (Slk.nil (sz:=sz)) (List.replicate k z0) (Slk.nil (sz:=sz))) (cells:=fun _=>lob (Slk.nil (sz:=sz)) f (List.replicate k z0) (Slk.nil (sz:=sz))) (ok:=fun _=>True) (fun Q' hk=>?_) (fun id _ _ _=>g id)
   exact P0 hf h0 (cB (e:=⟨fr,[],loc,objs,base⟩) _ hC) hd (Nat.le_of_ble_eq_true hn) ho hD hi hz hsz (by rw [hzs,hsz]) (Nat.le_of_ble_eq_true hE) (fun G w=>by rw [←hzc,←hcells];exact nY _ _ (List.all_eq_true.1 hone)) (bK (e:=⟨fr,[],loc,objs,base⟩) hx) (bK (e:=⟨fr,[],loc,objs,base⟩) hy) (Nat.le_trans hk2 (by decide)) (Nat.le_trans (Nat.mul_le_mul hk2 hb) (by decide)) (fun id h1 h2=>hk id () h1 h2 trivial)
  ·cases he
theorem cRe {L:AV} {fr fr':Fr} {gs:List Nat} {loc loc':List (Nat×List AV)} {objs:Ob} {base:Nat→Option (List AV)} (ts:List Nat) (cs:List (Nat×Nat)) (hv:v=L)
    (g:aC P n ops l ⟨fr',[],loc',objs,base⟩ Q) (h1:FS v L ts fr:=by exact ⟨rfl,trivial⟩) (h2:FR v L cs loc:=by trivial)
    (hs:s9 L ts fr=fr':=by rfl) (hl:D8 L cs loc=loc':=by rfl) (hfl:a7 fr'=true:=by rfl) (hsc:L.scalar=true:=by rfl):aC P n ops l ⟨fr,gs,loc,objs,base⟩ Q:=by
  subst hv hs hl
  intro G a w K hr hfx hK
  have hnd:=hr.nd
  have lE:∀ts,FS v v ts fr→RelSt P G n ⟨(s9 v ts fr).map fun p=>(p.1,dA [] p.2),loc,lay objs base⟩ a w:=by
    intro ts
    induction ts with
    |nil=>intro _;exact hr.st bF
    |cons t r ih=>
     rintro ⟨ha,hb⟩
     exact (ih hb).reSlot (t:=t) (v:=v) ((cD (⟨s9 v r fr,[],loc,[],lay objs base⟩:Es) [] t).trans ha) (fun _ h=>h)
  have keyC:∀cs,FR v v cs loc→RelSt P G n ⟨(s9 v ts fr).map fun p=>(p.1,dA [] p.2),D8 v cs loc,lay objs base⟩ a w:=by
    intro cs
    induction cs with
    |nil=>intro _;exact lE ts h1
    |cons p r ih=>
     obtain ⟨k,c⟩:=p
     rintro ⟨⟨cs0,ha,hb⟩,hc⟩
     exact (ih hc).reCell ha hb hsc (fun _ h=>h)
  exact g G a w K (RelE.of (keyC cs h2) hfl hnd) hfx hK
theorem vT {α:Type} {sz id:Nat} {pl sl:Slk sz} {xs:List α} {k:Nat} {c:α}:hdM id pl xs sl=hdM id pl (xs.set k c) sl:=by simp [hdM]
theorem k7 [I:HasTab P] {α:Type} {f:α→AV} {xs:List α} {sz id E:Nat} {pl sl:Slk sz} {kk:TK} {fr fr':Fr} {gs:List Nat} {loc loc':List (Nat×List AV)} {objs objs':Ob} {base:Nat→Option (List AV)} (j:Nat) (ts:List Nat) (cs:List (Nat×Nat)) (hf:dS f sz)
    {c:Code} {QE:Exit→Es→Prop} (g:CWp P n c ⟨fr',[],loc',objs',base⟩ QE) (hj:objs[j]? =some (id,lob pl f xs sl):=by rfl) (hE:(HasTab.T P).look E=some (kk,sz):=by rfl) (h1:FS (hdM id pl xs sl) (.list false E (xs.map f)) ts fr:=by exact ⟨rfl,trivial⟩) (h2:FR (hdM id pl xs sl) (.list false E (xs.map f)) cs loc:=by trivial)
    (hs:s9 (.list false E (xs.map f)) ts fr=fr':=by rfl) (hl:D8 (.list false E (xs.map f)) cs loc=loc':=by rfl) (ho:objs.eraseIdx j=objs':=by rfl) (hfl:a7 fr'=true:=by rfl) (h0:sz≠0:=by decide):CWp P n c ⟨fr,gs,loc,objs,base⟩ QE:=by
  subst hs hl ho
  intro G a w K hr hfx hK
  have hnd:=hr.2
  have hp:(objs.eraseIdx j).Sublist objs:=List.eraseIdx_sublist objs j
  have hnd':ndO (objs.eraseIdx j) base:=⟨hnd.1.sublist (hp.map _),fun i hi=>hnd.2 i ((hp.map _).subset hi)⟩
  have hid:id∉(objs.eraseIdx j).map (·.1):=by
    intro hm
    have h9:=gB (sel:=[j]) (objs:=objs) (A:=[(id,lob pl f xs sl)]) (B:=objs.eraseIdx j) (by unfold qU;rw [hj];rfl)
    have:=(pH h9.symm hnd).1
    simp only [List.singleton_append,List.map_cons,List.nodup_cons] at this
    exact this.1 hm
  obtain ⟨G',r1,r2,r3⟩:=hr.1.frzObj hf (Tab.ok I.tok hE).2 (M':=lay (objs.eraseIdx j) base) (cS hnd.1 hj) (fun i c hc=>by
    have hne:i≠id:=by
      rintro rfl
      rw [gA hid] at hc
      have h8:base i=none:=hnd.2 i (List.mem_map.2 ⟨_,List.mem_of_getElem? hj,rfl⟩)
      rw [h8] at hc
      cases hc
    refine ⟨hne,?_⟩
    have h9:=gB (sel:=[j]) (objs:=objs) (A:=[(id,lob pl f xs sl)]) (B:=objs.eraseIdx j) (by unfold qU;rw [hj];rfl)
    have hAB:=pH h9.symm hnd
    show lay objs base i=some c
    rw [←zG h9 hAB.1]
    show bA (lay (objs.eraseIdx j) base) id _ i=some c
    rw [bT hne];exact hc) h0
  have hconv:∀p u,bE P G' w p (hdM id pl xs sl) u→bE P G' w p (.list false E (xs.map f)) u:=fun p u h=>(r3 u h).toS rfl
  have hconv2:∀q u,eM P G' w q (hdM id pl xs sl) u→eM P G' w q (.list false E (xs.map f)) u:=fun q u h=>(r3 u h).toO rfl
  have e0:((⟨fr,gs,loc,objs,base⟩:Es).st []).fr=fr.map fun p=>(p.1,dA [] p.2):=rfl
  have lE:∀ts,FS (hdM id pl xs sl) (.list false E (xs.map f)) ts fr→RelSt P G' n ⟨(s9 (.list false E (xs.map f)) ts fr).map fun p=>(p.1,dA [] p.2),loc,lay (objs.eraseIdx j) base⟩ a w:=by
    intro ts
    induction ts with
    |nil=>intro _;exact r1
    |cons t r ih=>
     rintro ⟨ha,hb⟩
     have hh:=ih hb
     exact hh.reSlot (t:=t) (v:=hdM id pl xs sl) ((cD (⟨s9 (.list false E (xs.map f)) r fr,[],loc,[],lay (objs.eraseIdx j) base⟩:Es) [] t).trans ha) (hconv _)
  have keyC:∀cs,FR (hdM id pl xs sl) (.list false E (xs.map f)) cs loc→RelSt P G' n ⟨(s9 (.list false E (xs.map f)) ts fr).map fun p=>(p.1,dA [] p.2),D8 (.list false E (xs.map f)) cs loc,lay (objs.eraseIdx j) base⟩ a w:=by
    intro cs
    induction cs with
    |nil=>intro _;exact lE ts h1
    |cons p r ih=>
     obtain ⟨k,c⟩:=p
     rintro ⟨⟨cs0,ha,hb⟩,hc⟩
     exact (ih hc).reCell ha hb rfl (hconv2 _)
  have hfin:=keyC cs h2
  exact g G' a w K ⟨hfin,hnd'⟩ (hfx.keep r2) fun z s2 G2 a2 w2 hq hr2 hk2=>hK z s2 G2 a2 w2 hq hr2 (r2.trans hk2)
end
end
end Go.Proofs.YtoolgdcjfkjlnaaGreatDoor
