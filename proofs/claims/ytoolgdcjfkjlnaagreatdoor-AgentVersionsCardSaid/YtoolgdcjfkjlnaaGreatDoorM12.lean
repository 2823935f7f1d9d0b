/- GreatDoorM12. -/
import Derived.Test.YtoolgdcjfkjlnaaGreatDoorM9
import Derived.Test.YtoolgdcjfkjlnaaGreatDoorM10
import Derived.Test.YtoolgdcjfkjlnaaGreatDoorM11
set_option maxHeartbeats 2000000
namespace Go.Proofs.YtoolgdcjfkjlnaaGreatDoor
section
open Go.RowKit
def tK (a0:List SImage) (a1:List UInt8):Option (Int×Bool):=
  bO (fS a0 a1 yS) fun v1=>
  some (v1.1,v1.2)
theorem yT {a0:List SImage} {a1:List UInt8} {r:Int×Bool} (h:tK a0 a1=some r):aI Tryz.prog 168 [.list false 150 (a0.map aQ),.str a1] (.tuple [zI r.1,zB r.2]):=by
  refine aK Tryz.func168 rfl rfl rfl rfl fun base=>?_
  unfold tK at h
  refine srd 2 rfl [0,1] [] rfl (aB (aA (rn 2 rfl ?_)))
  obtain ⟨v1,hv1,h⟩:=bI h
  refine bR [] Tryz.call215 (rE ⟨Tryz.call216,fun _ _ _ hb=>I4 hb⟩ hv1) rfl rfl ?_
  refine rn 4 rfl (aC.done [4,5] [] rfl ?_)
  cases h;exact aJ ⟨.inl rfl,rfl,rfl⟩
def jW (x4:List SImage):Option (List SImage):=
  some x4
def nJ (x8:Int) (q2:(List SImage)→Int→Option (List SImage)) (x9:List SImage):Option (List SImage):=
  q2 x9 (w64 (x8+1))
def fH (a1:List (List UInt8)) (a2:Int) (k290:(List SImage)→Option (List SImage)):Nat→(List SImage)→Int→Option (List SImage)
  |0,_,_=>none
  |m2+1,x6,x8=>
   bif decide (x8<(a1.length:Int)) then
     bO (idx a1 x8) fun v11=>
     bO (tK x6 v11) fun v12=>
     bif v12.2 then
       bO (idx x6 v12.1) fun v13=>
       nJ x8 (fH a1 a2 k290 m2) (List.set x6 (Int.toNat v12.1) (⟨v13.name,v13.size,a2⟩:SImage))
     else
       nJ x8 (fH a1 a2 k290 m2) x6
   else
     k290 x6
def xC (a0:List SImage) (a1:List (List UInt8)) (a2:Int):Option (List SImage):=
  bO (jK a0) fun v2=>
  fH a1 a2 jW aT v2 0
theorem HS {a0:List SImage} {a1:List (List UInt8)} {a2:Int} {r:List SImage} (h:xC a0 a1 a2=some r):aI Tryz.prog 109 [.list false 150 (a0.map aQ),.list false 9 (a1.map AV.str),zI a2] (.list false 150 (r.map aQ)):=by
  refine aK Tryz.func109 rfl rfl rfl rfl fun base=>?_
  unfold xC at h
  refine aB (aA (lJ (α:=SImage) (sz:=3) 150 aQ ?_))
  rintro m1
  refine aC.objs [] rfl ?_
  refine aC.done [0,1,2] [] rfl (aB (aA (rn 1 rfl ?_)))
  obtain ⟨v2,hv2,h⟩:=bI h
  refine bL [] Tryz.call116 (rH hv2) rfl rfl ?_
  rintro _ _ ⟨m3,pm3,sm3,rfl,rfl⟩
  refine rn 1 rfl (aC.done [1,2,7] [] rfl (aS (fun e=>∃(m5:Nat) (pm5 sm5:Slk 3) (x4:_),e=⟨[(7,[],hdM m5 pm5 x4 sm5)],[],[],[(m5,lob pm5 aQ x4 sm5)],base⟩∧jW x4=some r) ?_ ?_))
  ·refine aB (aA (rh 3 [a1.length] [] rfl ⟨List.length_map ..,trivial⟩ (aC.done [2,7,14,15,16] [] rfl (aF (aU (fun m2 e=>∃(m7:Nat) (pm7 sm7:Slk 3) (x6:_) (x8:_),e=⟨[(2,[],zI a2),(7,[],hdM m7 pm7 x6 sm7),(14,[],.list false 9 (a1.map AV.str)),(15,[],zI (a1.length:Int)),(16,[],zI x8)],[],[],[(m7,lob pm7 aQ x6 sm7)],base⟩∧fH a1 a2 (jW) m2 x6 x8=some r) aT ⟨_,_,_,_,_,rfl,h⟩ ?_ ?_)))))
   ·rintro m2 _ ⟨m7,pm7,sm7,x6,x8,rfl,h⟩
    rw [fH] at h
    refine srd 1 rfl [2,7,14,15,16,17] [] rfl (aB (aD h rfl (fun h=>?_) (fun h=>?_)))
    ·refine aE (aS (fun e=>∃(m10:Nat) (pm10 sm10:Slk 3) (x9:_),e=⟨[(2,[],zI a2),(7,[],hdM m10 pm10 x9 sm10),(14,[],.list false 9 (a1.map AV.str)),(15,[],zI (a1.length:Int)),(16,[],zI x8)],[],[],[(m10,lob pm10 aQ x9 sm10)],base⟩∧nJ x8 (fH a1 a2 (jW) m2) x9=some r) ?_ ?_)
     ·refine aF (aB (aA ?_))
      obtain ⟨v11,hv11,h⟩:=bI h
      refine rd (rIx hv11) ?_
      refine rn 2 rfl (aC.done [2,7,9,14,15,16] [] rfl (aB (aA (rn 2 rfl ?_))))
      obtain ⟨v12,hv12,h⟩:=bI h
      refine QG (sz:=3) 0 [] (fun _=>⟨rfl,rfl,rfl⟩) Tryz.call168 (yT hv12) rfl rfl ?_
      refine rn 5 rfl (aC.done [2,7,10,11,14,15,16] [] rfl (srd 1 rfl [2,7,10,14,15,16,26] [] rfl (aD h rfl (fun h=>?_) (fun h=>?_))))
      ·refine aA ?_
       obtain ⟨v13,hv13,h⟩:=bI h
       refine rn 3 rfl (rd (BI hv13) ?_)
       refine rn 1 rfl (CD (f:=aQ) (off:=2) 0 (fun _=>⟨rfl,rfl,rfl⟩) hv13 (⟨v13.name,v13.size,a2⟩:SImage) ?_)
       refine cRe [7,27] [] (show hdM m7 pm7 x6 sm7=hdM m7 pm7 (List.set x6 (Int.toNat v12.1) (⟨v13.name,v13.size,a2⟩:SImage)) sm7 from vT) ?_ ⟨rfl,rfl,trivial⟩ trivial
       refine aC.done [2,7,14,15,16] [] rfl ?_
       exact ⟨_,_,_,_,rfl,h⟩
      refine aR [2,7,14,15,16] [] rfl (aE ?_)
      exact ⟨_,_,_,_,rfl,h⟩
     rintro _ ⟨m10,pm10,sm10,x9,rfl,h⟩
     unfold nJ at h
     refine aA (rn 2 rfl (aC.done [2,7,14,15,16] [] rfl ?_))
     exact ⟨_,_,_,_,_,rfl,h⟩
    refine aR [7] [] rfl (CWp.exit ?_)
    exact ⟨_,_,_,_,rfl,h⟩
   rintro _ ⟨_,_,_,_,_,_,h⟩
   rw [fH] at h;cases h
  rintro _ ⟨m5,pm5,sm5,x4,rfl,h⟩
  unfold jW at h
  refine srd 2 rfl [6] [] rfl (k7 (f:=aQ) (E:=150) 0 [6] [] (fun _=>⟨rfl,rfl,rfl⟩) ?_ (h1:=⟨rfl,trivial⟩) (h2:=trivial))
  cases h;exact aJ ⟨.inl rfl,rfl,rfl⟩
def oG (a0:SWorld) (a1:List (List UInt8)) (a2:Int):Option SWorld:=
  bO (xC a0.images a1 a2) fun v1=>
  some (⟨a0.queue,a0.retries,a0.boxes,v1⟩:SWorld)
theorem BZ {a0:SWorld} {a1:List (List UInt8)} {a2:Int} {i0:Nat} {i0m2:Nat} {pi0m2 si0m2:Slk 4} {r:SWorld} (h:oG a0 a1 a2=some r):aO Tryz.prog 56 [.gptr i0 0,.list false 9 (a1.map AV.str),zI a2] [(i0,[.list false 4 (a0.queue.l.map zB),zI a0.retries,hdM i0m2 pi0m2 a0.boxes si0m2,.list false 150 (a0.images.map aQ)]),(i0m2,lob pi0m2 aG a0.boxes si0m2)] (fun v outs=>∃(i0m2_:Nat) (pi0m2_ si0m2_:Slk 4),v= .tuple []∧outs=[(i0,[.list false 4 (r.queue.l.map zB),zI r.retries,hdM i0m2_ pi0m2_ r.boxes si0m2_,.list false 150 (r.images.map aQ)]),(i0m2_,lob pi0m2_ aG r.boxes si0m2_)]):=by
  refine a8 Tryz.func56 rfl rfl rfl rfl fun base=>?_
  unfold oG at h
  refine aA (rh 7 [0] [] rfl ⟨rfl,trivial⟩ ?_)
  obtain ⟨v1,hv1,h⟩:=bI h
  refine aP Tryz.call109 (HS hv1) rfl ?_
  refine rh 3 [0] [] rfl ⟨rfl,trivial⟩ (aC.done [] [] rfl ?_)
  cases h
  exact ⟨.inr rfl,_,[0,0],_,_,rfl,rfl,rfl,i0m2,pi0m2,si0m2,rfl,rfl⟩
def j2 (a0:List SContainer):Option (List SContainer):=bM [] a0
theorem xL {a0:List SContainer} {r:List SContainer} (h:j2 a0=some r):aI Tryz.prog 111 [.list false 214 (a0.map aG)] (.list true 214 (r.map aG)):=by
  refine aK Tryz.func111 rfl rfl rfl rfl fun base=>?_
  unfold j2 at h
  refine srd 1 rfl [0] [] rfl (aB (aB (aA (rn 1 rfl (HN (fun b hb=>aC.done [0,4] [] rfl ?_))))))
  cases b with
  |true=>
   have ha:a0=[]:=by simpa using hb rfl
   subst ha
   cases h
   exact bD rfl (by decide) (srd 1 rfl [2] [] rfl (aJ ⟨.inl rfl,rfl,rfl⟩))
  |false=>
   refine dD rfl (by decide) (aE (aB (aA (HL ?_))))
   refine rn 1 rfl ?_
   refine iG (f:=aG) (l:=[]) h ?_
   refine rh 1 [] [2] rfl trivial (aC.done [2] [] rfl ?_)
   exact aJ ⟨.inl rfl,rfl,rfl⟩
def f9 (a0:SWorld):Option (List SContainer):=
  bO (j2 a0.boxes) fun v1=>
  some v1
theorem n9 {a0:SWorld} {i0:Nat} {i0m2:Nat} {pi0m2 si0m2:Slk 4} {r:List SContainer} (h:f9 a0=some r):aO Tryz.prog 58 [.gptr i0 0] [(i0,[.list false 4 (a0.queue.l.map zB),zI a0.retries,hdM i0m2 pi0m2 a0.boxes si0m2,.list false 150 (a0.images.map aQ)]),(i0m2,lob pi0m2 aG a0.boxes si0m2)] (fun v outs=>v= .list true 214 (r.map aG)∧outs=[(i0,[.list false 4 (a0.queue.l.map zB),zI a0.retries,hdM i0m2 pi0m2 a0.boxes si0m2,.list false 150 (a0.images.map aQ)]),(i0m2,lob pi0m2 aG a0.boxes si0m2)]):=by
  refine a8 Tryz.func58 rfl rfl rfl rfl fun base=>?_
  unfold f9 at h
  refine srd 1 rfl [0] [] rfl (aB (aA (rh 4 [0] [] rfl ⟨rfl,trivial⟩ ?_)))
  obtain ⟨v1,hv1,h⟩:=bI h
  refine QG (sz:=4) 1 [] (fun _=>⟨rfl,rfl,rfl⟩) Tryz.call111 (xL hv1) rfl rfl ?_
  refine rh 1 [] [2] rfl trivial (aC.done [2] [] rfl ?_)
  cases h;exact aJ ⟨.inl rfl,_,[0,0],_,_,rfl,rfl,rfl,rfl,rfl⟩
def f6 (a0:List (List UInt8)) (a1:List UInt8):Option Bool:=
  bO (iU a0 a1) fun v1=>
  some (decide (v1≥0))
theorem n8 {a0:List (List UInt8)} {a1:List UInt8} {r:Bool} (h:f6 a0 a1=some r):aI Tryz.prog 119 [.list false 9 (a0.map AV.str),.str a1] (zB r):=by
  refine aK Tryz.func119 rfl rfl rfl rfl fun base=>?_
  unfold f6 at h
  refine srd 1 rfl [0,1] [] rfl (aB (aA (rn 2 rfl ?_)))
  obtain ⟨v1,hv1,h⟩:=bI h
  refine aP Tryz.call177 (qV hv1) rfl ?_
  refine rn 2 rfl (aC.done [4] [] rfl ?_)
  cases h;exact aJ ⟨.inl rfl,rfl,rfl⟩
def dK :Option Unit:=
  some ()
def cK (a1:Int) (a2:Int) (k290:Option Unit):Nat→Option Unit
  |0=>none
  |_m1+1=>
   bif decide ((w64 (a1+1))<a2) then none else
   k290
def dY (_a0:List SContainer) (a1:Int) (a2:Int) (_a3:SContainer→SContainer→Option Int):Option Unit:=
  cK a1 a2 dK aT
theorem mY {a0:List SContainer} {a1:Int} {a2:Int} {a3:SContainer→SContainer→Option Int} {r:Unit} {ins:Ob} {f3:Nat} {c3:List AV} (_hp3:Fn2 Tryz.prog f3 c3 ins aG aG zI a3) (h:dY a0 a1 a2 a3=some r):aO Tryz.prog 282 [.list false 214 (a0.map aG),zI a1,zI a2,.fn f3 c3] ins (fun v outs=>v= .tuple []∧outs=ins):=by
  refine cL Tryz.func282 rfl rfl rfl rfl fun base=>?_
  unfold dY at h
  refine srd 3 rfl [0,1,2,3,8] [] rfl (aF (aU (fun m1 e=>e=⟨[(0,[],.list false 214 (a0.map aG)),(1,[],zI a1),(2,[],zI a2),(3,[],.fn f3 c3),(8,[],zI (w64 (a1+1)))],[],[],ins,base⟩∧cK a1 a2 (dK) m1=some r) aT ⟨rfl,h⟩ ?_ ?_))
  ·rintro m1 _ ⟨rfl,h⟩
   rw [cK] at h
   refine aB (srd 3 rfl [0,1,2,3,8,14] [] rfl (aD h rfl (fun h=>?_) (fun h=>?_)))
   ·cases h
   refine CWp.exit ?_
   unfold dK at h
   cases h
   exact ⟨.inr rfl,_,rfl,rfl,rfl,rfl⟩
  rintro _ ⟨_,h⟩
  rw [cK] at h;cases h
def c7 (a0:List SContainer) (a1:Int) (a2:Int) (a4:SContainer→SContainer→Option Int):Nat→Option Unit
  |0=>none
  |_m1+1=>
   bif decide ((w64 (a2-a1))≤12) then
     bO (dY a0 a1 a2 a4) fun _v1=>
     some ()
   else none
def fD (a0:List SContainer) (a1:Int) (a2:Int) (_a3:Int) (a4:SContainer→SContainer→Option Int):Option Unit:=
  c7 a0 a1 a2 a4 aT
theorem qE {a0:List SContainer} {a1:Int} {a2:Int} {a3:Int} {a4:SContainer→SContainer→Option Int} {r:Unit} {ins:Ob} {f4:Nat} {c4:List AV} (hp4:Fn2 Tryz.prog f4 c4 ins aG aG zI a4) (h:fD a0 a1 a2 a3 a4=some r):aO Tryz.prog 217 [.list false 214 (a0.map aG),zI a1,zI a2,zI a3,.fn f4 c4] ins (fun v outs=>v= .tuple []∧outs=ins):=by
  refine cL Tryz.func217 rfl rfl rfl rfl fun base=>?_
  unfold fD at h
  refine srd 1 rfl [0,1,2,3,4,10] [] rfl (srd 1 rfl [0,1,2,3,4,10,11] [] rfl (aF (aU (fun m1 e=>e=⟨[(0,[],.list false 214 (a0.map aG)),(1,[],zI a1),(2,[],zI a2),(3,[],zI a3),(4,[],.fn f4 c4),(10,[],zB true),(11,[],zB true)],[],[],ins,base⟩∧c7 a0 a1 a2 a4 m1=some r) aT ⟨rfl,h⟩ ?_ ?_)))
  ·rintro m1 _ ⟨rfl,h⟩
   rw [c7] at h
   refine aF (srd 4 rfl [0,1,2,3,4,10,11,12] [] rfl (aB (srd 2 rfl [0,1,2,3,4,10,11,12,25] [] rfl (aD h rfl (fun h=>?_) (fun h=>?_)))))
   ·refine aB (aA (rn 4 rfl ?_))
    obtain ⟨v1,hv1,h⟩:=bI h
    refine wM Tryz.call282 (mY hp4 hv1) rfl ?_
    rintro _ _ ⟨rfl,rfl⟩
    refine aC.done [] [] rfl (aJ ?_)
    cases h
    exact ⟨.inl rfl,_,rfl,rfl,rfl,rfl⟩
   cases h
  rintro _ ⟨_,h⟩
  rw [c7] at h;cases h
def iL (a0:List SContainer) (a1:SContainer→SContainer→Option Int):Option Unit:=
  bO (JK (IntKind.u64.wrap (a0.length:Int))) fun v1=>
  bO (fD a0 0 (a0.length:Int) v1 a1) fun _v2=>
  some ()
theorem uL {a0:List SContainer} {a1:SContainer→SContainer→Option Int} {r:Unit} {ins:Ob} {f1:Nat} {c1:List AV} (hp1:Fn2 Tryz.prog f1 c1 ins aG aG zI a1) (h:iL a0 a1=some r):aO Tryz.prog 169 [.list false 214 (a0.map aG),.fn f1 c1] ins (fun v outs=>v= .tuple []∧outs=ins):=by
  refine cL Tryz.func169 rfl rfl rfl rfl fun base=>?_
  unfold iL at h
  refine aB (aA (rh 3 [a0.length] [] rfl ⟨List.length_map ..,trivial⟩ (aC.done [0,1,4] [] rfl ?_)))
  refine aA (rn 4 rfl ?_)
  obtain ⟨v1,hv1,h⟩:=bI h
  refine aP Tryz.call179 (EX hv1) rfl ?_
  refine rn 1 rfl ?_
  obtain ⟨v2,hv2,h⟩:=bI h
  refine wM Tryz.call217 (qE hp1 hv2) rfl ?_
  rintro _ _ ⟨rfl,rfl⟩
  refine aC.done [] [] rfl ?_
  cases h
  exact ⟨.inr rfl,_,rfl,rfl,rfl,rfl⟩
def vN (a0:SContainer) (a1:SContainer):Option Int:=
  bO (eV a0.last a1.last) fun v1=>
  bO (CF a0.id a1.id) fun v2=>
  bO (l9 [v1,v2]) fun v3=>
  some v3
theorem GC {a0:SContainer} {a1:SContainer} {r:Int} (h:vN a0 a1=some r):aI Tryz.prog 170 [aG a0,aG a1] (zI r):=by
  refine aK Tryz.func170 rfl rfl rfl rfl fun base=>?_
  unfold vN at h
  refine srd 3 rfl [2,3] [2,3] rfl (aB (CWp.ahead 10 (by kernel_rfl) ?_))
  refine pn 4 rfl ?_
  obtain ⟨v1,hv1,h⟩:=bI h
  refine kC Tryz.call172 (gP hv1) rfl ?_
  refine pn 4 rfl ?_
  obtain ⟨v2,hv2,h⟩:=bI h
  refine kC Tryz.call143 (wN hv2) rfl ?_
  refine b5.nil (⟨⟨[(15,[],.list true 3 ([v1,v2].map zI))],[],[],[],base⟩,?_,rfl,?_⟩)
  ·exact rn 1 rfl (aC.done [15] [] rfl (rfl))
  obtain ⟨v3,hv3,h⟩:=bI h
  refine aP Tryz.call171 (pY hv3) rfl ?_
  refine rn 1 rfl (aC.done [4] [] rfl ?_)
  cases h;exact aJ ⟨.inl rfl,rfl,rfl⟩
def oU :Option (List (List UInt8)):=
  some ([]:List (List UInt8))
def oV (k390:Option (List (List UInt8))):Nat→Option (List (List UInt8))
  |0=>none
  |_m3+1=>
   bif decide (0<(([]:List SContainer).length:Int)) then none else
   k390
def kS :Option (List (List UInt8)):=
  bO (iL ([]:List SContainer) vN) fun _v1=>
  oV oU aT
def tY (x2:Int) (q4:Int→Option (List (List UInt8))):Option (List (List UInt8)):=
  q4 (w64 (x2+1))
def iV (a0:List SContainer) (a1:List (List UInt8)) (k490:Option (List (List UInt8))):Nat→Int→Option (List (List UInt8))
  |0,_=>none
  |m4+1,x2=>
   bif decide (x2<(a0.length:Int)) then
     bO (idx a0 x2) fun v3=>
     bO (bif (v3.box.state !=3) then (f6 a1 v3.id) else some default) fun v4=>
     bif (v3.box.state !=3)&&(!v4) then none else
     tY x2 (iV a0 a1 k490 m4)
   else
     k490
def y7 (a0:List SContainer) (a1:List (List UInt8)):Option (List (List UInt8)):=
  iV a0 a1 kS aT 0
theorem JF {a0:List SContainer} {a1:List (List UInt8)} {r:List (List UInt8)} (h:y7 a0 a1=some r):aI Tryz.prog 110 [.list false 214 (a0.map aG),.list false 9 (a1.map AV.str)] (.list true 9 (r.map AV.str)):=by
  refine aK Tryz.func110 rfl rfl rfl rfl fun base=>?_
  unfold y7 at h
  refine srd 1 rfl [0,1] [] rfl (srd 1 rfl [0,1,5] [] rfl (aS (fun e=>e=⟨[(5,[],.list true 214 (([]:List SContainer).map aG))],[],[],[],base⟩∧kS=some r) ?_ ?_))
  ·refine aB (aA (rh 3 [a0.length] [] rfl ⟨List.length_map ..,trivial⟩ (aC.done [1,5,11,12,13] [] rfl (aF (aU (fun m4 e=>∃x2,e=⟨[(1,[],.list false 9 (a1.map AV.str)),(5,[],.list true 214 (([]:List SContainer).map aG)),(11,[],.list false 214 (a0.map aG)),(12,[],zI (a0.length:Int)),(13,[],zI x2)],[],[],[],base⟩∧iV a0 a1 (kS) m4 x2=some r) aT ⟨_,rfl,h⟩ ?_ ?_)))))
   ·rintro m4 _ ⟨x2,rfl,h⟩
    rw [iV] at h
    refine srd 1 rfl [1,5,11,12,13,14] [] rfl (aB (aD h rfl (fun h=>?_) (fun h=>?_)))
    ·refine aE (aS (fun e=>e=⟨[(1,[],.list false 9 (a1.map AV.str)),(5,[],.list true 214 (([]:List SContainer).map aG)),(11,[],.list false 214 (a0.map aG)),(12,[],zI (a0.length:Int)),(13,[],zI x2)],[],[],[],base⟩∧tY x2 (iV a0 a1 (kS) m4)=some r) ?_ ?_)
     ·refine aF (aB (aA ?_))
      obtain ⟨v3,hv3,h⟩:=bI h
      refine rd (rIx hv3) ?_
      refine rn 3 rfl (aC.done [1,5,7,11,12,13] [7] rfl (aB (aA (rn 8 rfl ?_))))
      obtain ⟨v4,hv4,h⟩:=bI h
      refine gV 21 true [] Tryz.call119 (fun ht=>n8 (gd hv4 (ht.1 _ rfl))) rfl ?_
      refine rn 2 rfl (aC.done [1,5,7,11,12,13,27] [7] rfl (aD h rfl (fun h=>?_) (fun h=>?_)))
      ·cases h
      refine aR [1,5,11,12,13] [] rfl (aE ?_)
      exact ⟨rfl,h⟩
     rintro _ ⟨rfl,h⟩
     unfold tY at h
     refine aA (rn 2 rfl (aC.done [1,5,11,12,13] [] rfl ?_))
     exact ⟨_,rfl,h⟩
    refine aR [5] [] rfl (CWp.exit ?_)
    exact ⟨rfl,h⟩
   rintro _ ⟨_,_,h⟩
   rw [iV] at h;cases h
  rintro _ ⟨rfl,h⟩
  unfold kS at h
  refine aB (aA (rn 1 rfl ?_))
  obtain ⟨v1,hv1,h⟩:=bI h
  refine bR [] Tryz.call169 (uL ⟨Tryz.call170,fun _ _ _ hb=>GC hb⟩ hv1) rfl rfl ?_
  refine aC.done [5] [] rfl (srd 1 rfl [5,8] [] rfl (aS (fun e=>e=⟨[(8,[],.list true 9 (([]:List (List UInt8)).map AV.str))],[],[],[],base⟩∧oU=some r) ?_ ?_))
  ·refine aB (aA (rh 3 [([]:List SContainer).length] [] rfl ⟨List.length_map ..,trivial⟩ (aC.done [8,35,36,37] [] rfl (aF (aU (fun m3 e=>e=⟨[(8,[],.list true 9 (([]:List (List UInt8)).map AV.str)),(35,[],.list false 214 (([]:List SContainer).map aG)),(36,[],zI (([]:List SContainer).length:Int)),(37,[],zI 0)],[],[],[],base⟩∧oV (oU) m3=some r) aT ⟨rfl,h⟩ ?_ ?_)))))
   ·rintro m3 _ ⟨rfl,h⟩
    rw [oV] at h
    refine srd 1 rfl [8,35,36,37,38] [] rfl (aB (aD h rfl (fun h=>?_) (fun h=>?_)))
    ·cases h
    refine aR [8] [] rfl (CWp.exit ?_)
    exact ⟨rfl,h⟩
   rintro _ ⟨_,h⟩
   rw [oV] at h;cases h
  rintro _ ⟨rfl,h⟩
  unfold oU at h
  refine aB (aA (rh 2 [] [47,4] rfl trivial (aC.done [4] [] rfl ?_)))
  cases h;exact aJ ⟨.inl rfl,rfl,rfl⟩
def xO (a0:List SContainer) (a1:List (List UInt8)) (a2:Int):Option (List (List UInt8)):=
  bO (y7 a0 a1) fun v1=>
  bO (slO v1 0 (max (w64 ((v1.length:Int)-(max a2 0))) 0)) fun v2=>
  some v2
theorem HZ {a0:List SContainer} {a1:List (List UInt8)} {a2:Int} {r:List (List UInt8)} (h:xO a0 a1 a2=some r):aI Tryz.prog 57 [.list false 214 (a0.map aG),.list false 9 (a1.map AV.str),zI a2] (.list false 9 (r.map AV.str)):=by
  refine aK Tryz.func57 rfl rfl rfl rfl fun base=>?_
  unfold xO at h
  refine srd 1 rfl [0,1,2] [] rfl (aB (aA (rn 2 rfl ?_)))
  obtain ⟨v1,hv1,h⟩:=bI h
  refine aP Tryz.call110 (JF hv1) rfl ?_
  refine rh 1 [] [7] rfl trivial (aC.done [2,7] [] rfl (aB (aA ?_)))
  obtain ⟨v2,hv2,h⟩:=bI h
  refine rh 7 [v1.length] [] rfl ⟨List.length_map ..,trivial⟩ (rd (rPc hv2) ?_)
  refine rn 1 rfl (aC.done [6] [] rfl ?_)
  cases h;exact aJ ⟨.inl rfl,rfl,rfl⟩
def cV (a0:List SContainer) (a1:List UInt8) (a2:SContainer→(List UInt8)→Option Int):Option (Int×Bool):=
  bif decide (0<(a0.length:Int)) then
    bO (idx a0 0) fun v1=>
    bO (a2 v1 a1) fun v2=>
    some (0,v2==0)
  else
    some (0,false)
def cA (a0:List SContainer) (a1:List UInt8) (a2:SContainer→(List UInt8)→Option Int) (k290:Option (Int×Bool)):Nat→Int→Option (Int×Bool)
  |0,_=>none
  |m2+1,x1=>
   bif decide (0<x1) then
     bO (idx a0 (w64 (lH .u64 (IntKind.u64.wrap (w64 (0+x1))) 1))) fun v2=>
     bO (a2 v2 a1) fun v3=>
     bif decide (v3<0) then none else
     (cA a0 a1 a2 k290 m2) (w64 (lH .u64 (IntKind.u64.wrap (w64 (0+x1))) 1))
   else
     k290
def eP (a0:List SContainer) (a1:List UInt8) (a2:SContainer→(List UInt8)→Option Int):Option (Int×Bool):=
  cA a0 a1 a2 (cV a0 a1 a2) aT (a0.length:Int)
theorem oW {a0:List SContainer} {a1:List UInt8} {a2:SContainer→(List UInt8)→Option Int} {r:Int×Bool} {ins:Ob} {f2:Nat} {c2:List AV} (hp2:Fn2 Tryz.prog f2 c2 ins aG AV.str zI a2) (h:eP a0 a1 a2=some r):aO Tryz.prog 183 [.list false 214 (a0.map aG),.str a1,.fn f2 c2] ins (fun v outs=>v= .tuple [zI r.1,zB r.2]∧outs=ins):=by
  refine cL Tryz.func183 rfl rfl rfl rfl fun base=>?_
  unfold eP at h
  refine srd 2 rfl [0,1,2] [] rfl (aB (aA (rh 3 [a0.length] [] rfl ⟨List.length_map ..,trivial⟩ (aC.done [0,1,2,8] [] rfl (srd 3 rfl [0,1,2,8,9,10] [] rfl (aS (fun e=>e=⟨[(0,[],.list false 214 (a0.map aG)),(1,[],.str a1),(2,[],.fn f2 c2),(8,[],zI (a0.length:Int)),(9,[],zI 0)],[],[],ins,base⟩∧cV a0 a1 a2=some r) ?_ ?_))))))
  ·refine aF (aU (fun m2 e=>∃x1,e=⟨[(0,[],.list false 214 (a0.map aG)),(1,[],.str a1),(2,[],.fn f2 c2),(8,[],zI (a0.length:Int)),(9,[],zI 0),(10,[],zI x1)],[],[],ins,base⟩∧cA a0 a1 a2 (cV a0 a1 a2) m2 x1=some r) aT ⟨_,rfl,h⟩ ?_ ?_)
   ·rintro m2 _ ⟨x1,rfl,h⟩
    rw [cA] at h
    refine aB (srd 3 rfl [0,1,2,8,9,10,17] [] rfl (aD h rfl (fun h=>?_) (fun h=>?_)))
    ·refine aE (aF (srd 7 rfl [0,1,2,8,9,10,11] [] rfl (aB (aA ?_))))
     obtain ⟨v2,hv2,h⟩:=bI h
     refine rn 3 rfl (rd (rIx hv2) ?_)
     refine rn 2 rfl ?_
     obtain ⟨v3,hv3,h⟩:=bI h
     refine n0 hp2.1 (hp2.2 _ _ _ hv3) ?_
     rintro _ _ ⟨rfl,rfl⟩
     refine rn 1 rfl (aC.done [0,1,2,8,9,10,11,31] [] rfl (aD h rfl (fun h=>?_) (fun h=>?_)))
     ·cases h
     refine aA (rn 2 rfl (aC.done [0,1,2,8,9,10] [] rfl ?_))
     exact ⟨_,rfl,h⟩
    refine aR [0,1,2,8,9] [] rfl (CWp.exit ?_)
    exact ⟨rfl,h⟩
   rintro _ ⟨_,_,h⟩
   rw [cA] at h;cases h
  rintro _ ⟨rfl,h⟩
  unfold cV at h
  refine aB (aA (rn 5 rfl (nA 39 h rfl (fun h=>?_) (fun h=>?_))))
  ·refine aC.want ?_
   refine rn 1 rfl (aC.want ?_)
   refine rn 1 rfl (aC.want ?_)
   refine rn 1 rfl (aC.want ?_)
   obtain ⟨v1,hv1,h⟩:=bI h
   refine rd (rIx hv1) ?_
   refine aC.want ?_
   refine rn 1 rfl (aC.want ?_)
   refine rn 1 rfl (aC.want ?_)
   obtain ⟨v2,hv2,h⟩:=bI h
   refine n0 hp2.1 (hp2.2 _ _ _ hv2) ?_
   rintro _ _ ⟨rfl,rfl⟩
   refine aC.want ?_
   refine rn 1 rfl (rd (fP) ?_)
   refine rn 2 rfl (aC.done [6,7] [] rfl (aJ ?_))
   cases h
   exact ⟨.inl rfl,_,rfl,rfl,rfl,rfl⟩
  refine aX ?_
  refine aX ?_
  refine aX ?_
  refine aX ?_
  refine aX ?_
  refine aX ?_
  refine aX ?_
  refine aX ?_
  refine rd (fP) ?_
  refine rn 2 rfl (aC.done [6,7] [] rfl (aJ ?_))
  cases h
  exact ⟨.inl rfl,_,rfl,rfl,rfl,rfl⟩
def oH (a0:SContainer) (a1:List UInt8):Option Int:=
  bO (CF a0.id a1) fun v1=>
  some v1
theorem B0 {a0:SContainer} {a1:List UInt8} {r:Int} (h:oH a0 a1=some r):aI Tryz.prog 184 [aG a0,.str a1] (zI r):=by
  refine aK Tryz.func184 rfl rfl rfl rfl fun base=>?_
  unfold oH at h
  refine srd 2 rfl [1,2] [2] rfl (aB (aA (rn 3 rfl ?_)))
  obtain ⟨v1,hv1,h⟩:=bI h
  refine aP Tryz.call143 (wN hv1) rfl ?_
  refine rn 1 rfl (aC.done [4] [] rfl ?_)
  cases h;exact aJ ⟨.inl rfl,rfl,rfl⟩
def j5 (a0:SWorld) (a1:List UInt8):Option (Int×Bool):=
  bO (eP a0.boxes a1 oH) fun v1=>
  some (v1.1,v1.2)
theorem pE {a0:SWorld} {a1:List UInt8} {i0:Nat} {i0m2:Nat} {pi0m2 si0m2:Slk 4} {r:Int×Bool} (h:j5 a0 a1=some r):aO Tryz.prog 127 [.gptr i0 0,.str a1] [(i0,[.list false 4 (a0.queue.l.map zB),zI a0.retries,hdM i0m2 pi0m2 a0.boxes si0m2,.list false 150 (a0.images.map aQ)]),(i0m2,lob pi0m2 aG a0.boxes si0m2)] (fun v outs=>v= .tuple [zI r.1,zB r.2]∧outs=[(i0,[.list false 4 (a0.queue.l.map zB),zI a0.retries,hdM i0m2 pi0m2 a0.boxes si0m2,.list false 150 (a0.images.map aQ)]),(i0m2,lob pi0m2 aG a0.boxes si0m2)]):=by
  refine a8 Tryz.func127 rfl rfl rfl rfl fun base=>?_
  unfold j5 at h
  refine srd 2 rfl [0,1] [] rfl (aB (aA (rh 5 [0] [] rfl ⟨rfl,trivial⟩ ?_)))
  obtain ⟨v1,hv1,h⟩:=bI h
  refine QG (sz:=4) 1 [] (fun _=>⟨rfl,rfl,rfl⟩) Tryz.call183 (oW ⟨Tryz.call184,fun _ _ _ hb=>B0 hb⟩ hv1) rfl rfl ?_
  refine rn 4 rfl (aC.done [4,5] [] rfl ?_)
  cases h;exact aJ ⟨.inl rfl,_,[0,0],_,_,rfl,rfl,rfl,rfl,rfl⟩
def EB (a0:SBox) (a1:Int):Option Bool:=
  some ((cO (a0.state,a1) qT).isSome)
theorem OJ {a0:SBox} {a1:Int} {r:Bool} (h:EB a0 a1=some r):aI Tryz.prog 173 [CH a0,zI a1] (zB r):=by
  refine aK Tryz.func173 rfl rfl rfl rfl fun base=>?_
  unfold EB at h
  refine srd 2 rfl [1,2] [2] rfl (aB (sP [1,2,3,4,0,5,6,7,8,9,10] (by kernel_rfl) (dB.of ?_)))
  refine bQ 1 rfl [] [] rfl trivial (fun _ _ _=>rfl) trivial ?_
  refine bQ 2 rfl [] [(2,_)] rfl ⟨rfl,trivial⟩ (fun _ _ _=>rfl) trivial ?_
  refine bQ 3 rfl [] [] rfl trivial (fun _ _ _=>rfl) trivial ?_
  refine bQ 4 rfl [] [] rfl trivial (fun _ _ _=>rfl) trivial ?_
  refine kcg (ι:=Nat×{T:List ((Int×Int)×Int)//(∀k,cO k T=cO k qT)∧T.length=7}) ((0,⟨qT,fun _=>rfl,rfl⟩)) (fun g_=>[(8,[],.gmap g_.1)]) (fun g_=>[(g_.1,aV uD zI g_.2.1)]) 0 rfl [] trivial (fun fr X hf=>?_) (by kernel_rfl) (fun _=>⟨rfl,by kernel_rfl⟩) ?_
  ·refine bL [] Tryz.call219 J1 rfl rfl ?_
   rintro _ _ ⟨o1,t1,ht1,hlt1,rfl,rfl⟩
   exact aW ⟨(o1,⟨t1,ht1,hlt1⟩),rfl⟩
  rintro ⟨o1,⟨t1,ht1,hlt1⟩⟩
  refine UM (d:=13) (v:= .tuple [zI ((cO (a0.state,a1) qT).getD (0:Int)),zB ((cO (a0.state,a1) qT).isSome)]) 5 rfl [(8,[],_),(12,[],_)] ⟨rfl,rfl,trivial⟩ (fun fr X hf=>?_) ?_
  ·refine QD 0 (0:Int) ht1 (uE) Tryz.underlying332 mz3 (fun _ _=> .lit _) (fun _=>rfl) (fun _ _ _=>PK rfl) ?_
   exact aW rfl
  refine bQ 6 rfl [] [] rfl trivial (fun _ _ _=>rfl) trivial ?_
  refine bQ 7 rfl [] [] rfl trivial (fun _ _ _=>rfl) trivial ?_
  refine bQ 8 rfl [] [] rfl trivial (fun _ _ _=>rfl) trivial ?_
  refine bQ 9 rfl [] [] rfl trivial (fun _ _ _=>rfl) trivial ?_
  refine bQ 10 rfl [] [] rfl trivial (fun _ _ _=>rfl) trivial ?_
  refine dB.nil (by kernel_rfl) ⟨rfl,?_⟩
  refine aC.objs [] rfl ?_
  refine aC.done [6] [] rfl (srd 2 rfl [4] [] rfl ?_)
  cases h;exact aJ ⟨.inl rfl,rfl,rfl⟩
def lV (a0:SWorld) (a1:List UInt8) (a2:Int):Option (Int×Int):=
  bO (j5 a0 a1) fun v1=>
  bif !v1.2 then none else
  bO (idx a0.boxes v1.1) fun v2=>
  bO (EB v2.box a2) fun v3=>
  bif !v3 then none else
  some (v1.1,0)
theorem uR {a0:SWorld} {a1:List UInt8} {a2:Int} {i0:Nat} {i0m2:Nat} {pi0m2 si0m2:Slk 4} {r:Int×Int} (h:lV a0 a1 a2=some r):aO Tryz.prog 112 [.gptr i0 0,.str a1,zI a2] [(i0,[.list false 4 (a0.queue.l.map zB),zI a0.retries,hdM i0m2 pi0m2 a0.boxes si0m2,.list false 150 (a0.images.map aQ)]),(i0m2,lob pi0m2 aG a0.boxes si0m2)] (fun v outs=>v= .tuple [zI r.1,zI r.2]∧outs=[(i0,[.list false 4 (a0.queue.l.map zB),zI a0.retries,hdM i0m2 pi0m2 a0.boxes si0m2,.list false 150 (a0.images.map aQ)]),(i0m2,lob pi0m2 aG a0.boxes si0m2)]):=by
  refine a8 Tryz.func112 rfl rfl rfl rfl fun base=>?_
  unfold lV at h
  refine srd 2 rfl [0,1,2] [] rfl (aB (aA (rn 2 rfl ?_)))
  obtain ⟨v1,hv1,h⟩:=bI h
  refine bR [0,0] Tryz.call127 (pE hv1) rfl rfl ?_
  refine rn 5 rfl (aC.done [0,2,8,9] [] rfl (aB (aF (srd 3 rfl [0,2,8,16] [] rfl (aD h rfl (fun h=>?_) (fun h=>?_))))))
  ·cases h
  refine aB (aA ?_)
  obtain ⟨v2,hv2,h⟩:=bI h
  refine rh 5 [0] [] rfl ⟨rfl,trivial⟩ (rd (BI hv2) ?_)
  refine rn 1 rfl (QF (f:=aG) (off:=1) 1 (fun _=>⟨rfl,rfl,rfl⟩) hv2 ?_)
  refine rn 1 rfl ?_
  obtain ⟨v3,hv3,h⟩:=bI h
  refine aP Tryz.call173 (OJ hv3) rfl ?_
  refine rn 2 rfl (aC.done [8,19] [] rfl (aD h rfl (fun h=>?_) (fun h=>?_)))
  ·cases h
  refine aE (srd 3 rfl [6,7] [] rfl ?_)
  cases h;exact aJ ⟨.inl rfl,_,[0,0],_,_,rfl,rfl,rfl,rfl,rfl⟩
def kW (a0:SWorld):Option Bool:=
  bif (a0.queue.l.length:Int)==0 then
    some true
  else none
theorem uA {a0:SWorld} {i0:Nat} {i0m2:Nat} {pi0m2 si0m2:Slk 4} {r:Bool} (h:kW a0=some r):aO Tryz.prog 113 [.gptr i0 0] [(i0,[.list false 4 (a0.queue.l.map zB),zI a0.retries,hdM i0m2 pi0m2 a0.boxes si0m2,.list false 150 (a0.images.map aQ)]),(i0m2,lob pi0m2 aG a0.boxes si0m2)] (fun v outs=>v=zB r∧outs=[(i0,[.list false 4 (a0.queue.l.map zB),zI a0.retries,hdM i0m2 pi0m2 a0.boxes si0m2,.list false 150 (a0.images.map aQ)]),(i0m2,lob pi0m2 aG a0.boxes si0m2)]):=by
  refine a8 Tryz.func113 rfl rfl rfl rfl fun base=>?_
  unfold kW at h
  refine srd 1 rfl [0] [] rfl (aB (aB (aA (rh 6 [0,a0.queue.l.length] [] rfl ⟨List.length_map ..,rfl,trivial⟩ (aC.done [0,9] [] rfl (aD h rfl (fun h=>?_) (fun h=>?_)))))))
  ·refine srd 1 rfl [2] [] rfl ?_
   cases h;exact aJ ⟨.inl rfl,_,[0,0],_,_,rfl,rfl,rfl,rfl,rfl⟩
  cases h
def F4 (a0:SBox) (a1:Int) (a2:Bool) (_a3:Int):Option (SBox×Int):=
  bif !((cO (a0.state,a1) qT).isSome) then none else
  bif a2 then
    some ((⟨((cO (a0.state,a1) qT).getD (0:Int)),0⟩:SBox),0)
  else none
theorem QP {a0:SBox} {a1:Int} {a2:Bool} {a3:Int} {r:SBox×Int} (h:F4 a0 a1 a2 a3=some r):aI Tryz.prog 174 [CH a0,zI a1,zB a2,zI a3] (.tuple [CH r.1,zI r.2]):=by
  refine aK Tryz.func174 rfl rfl rfl rfl fun base=>?_
  unfold F4 at h
  refine srd 3 rfl [1,2,3,4,8] [4,8] rfl (aB (sP [1,2,3,4,0,5,6,7,8,9,10] (by kernel_rfl) (dB.of ?_)))
  refine bQ 1 rfl [] [] rfl trivial (fun _ _ _=>rfl) trivial ?_
  refine bQ 2 rfl [] [(4,_)] rfl ⟨rfl,trivial⟩ (fun _ _ _=>rfl) trivial ?_
  refine bQ 3 rfl [] [] rfl trivial (fun _ _ _=>rfl) trivial ?_
  refine bQ 4 rfl [] [] rfl trivial (fun _ _ _=>rfl) trivial ?_
  refine kcg (ι:=Nat×{T:List ((Int×Int)×Int)//(∀k,cO k T=cO k qT)∧T.length=7}) ((0,⟨qT,fun _=>rfl,rfl⟩)) (fun g_=>[(13,[],.gmap g_.1)]) (fun g_=>[(g_.1,aV uD zI g_.2.1)]) 0 rfl [] trivial (fun fr X hf=>?_) (by kernel_rfl) (fun _=>⟨rfl,by kernel_rfl⟩) ?_
  ·refine bL [] Tryz.call219 J1 rfl rfl ?_
   rintro _ _ ⟨o1,t1,ht1,hlt1,rfl,rfl⟩
   exact aW ⟨(o1,⟨t1,ht1,hlt1⟩),rfl⟩
  rintro ⟨o1,⟨t1,ht1,hlt1⟩⟩
  refine UM (d:=18) (v:= .tuple [zI ((cO (a0.state,a1) qT).getD (0:Int)),zB ((cO (a0.state,a1) qT).isSome)]) 5 rfl [(13,[],_),(17,[],_)] ⟨rfl,rfl,trivial⟩ (fun fr X hf=>?_) ?_
  ·refine QD 0 (0:Int) ht1 (uE) Tryz.underlying332 mz3 (fun _ _=> .lit _) (fun _=>rfl) (fun _ _ _=>PK rfl) ?_
   exact aW rfl
  refine bQ 6 rfl [] [] rfl trivial (fun _ _ _=>rfl) trivial ?_
  refine bQ 7 rfl [] [] rfl trivial (fun _ _ _=>rfl) trivial ?_
  refine bQ 8 rfl [] [] rfl trivial (fun _ _ _=>rfl) trivial ?_
  refine bQ 9 rfl [] [] rfl trivial (fun _ _ _=>rfl) trivial ?_
  refine bQ 10 rfl [] [] rfl trivial (fun _ _ _=>rfl) trivial ?_
  refine dB.nil (by kernel_rfl) ⟨rfl,?_⟩
  refine aC.objs [] rfl ?_
  refine aC.done [2,3,4,8,10,11] [4,8] rfl (aB (aF (srd 3 rfl [2,3,4,8,10,21] [4,8] rfl (aD h rfl (fun h=>?_) (fun h=>?_)))))
  ·cases h
  refine srd 2 rfl [3,4,8,10,25] [4,8] rfl (aD h rfl (fun h=>?_) (fun h=>?_))
  ·refine srd 4 rfl [8,9] [8] rfl ?_
   cases h;exact aJ ⟨.inl rfl,rfl,rfl⟩
  cases h
end
section
open Go.RowKit
def oI (a0:SWorld) (a1:Int) (x4:List SContainer):Option SWorld:=
  bO (idx x4 a1) fun v6=>
  bif v6.box.state==5 then none else
  some (⟨a0.queue,a0.retries,x4,a0.images⟩:SWorld)
def j6 (a0:SWorld) (a1:Int) (a2:Int) (a3:Bool) (a4:Int):Option SWorld:=
  bO (idx a0.boxes a1) fun _v1=>
  bO (idx a0.boxes a1) fun v2=>
  bO (F4 v2.box a2 a3 a0.retries) fun v3=>
  bif a3 then
    bO (idx (List.set a0.boxes (Int.toNat a1) (⟨v2.id,v3.1,v2.last⟩:SContainer)) a1) fun v7=>
    oI a0 a1 (List.set (List.set a0.boxes (Int.toNat a1) (⟨v2.id,v3.1,v2.last⟩:SContainer)) (Int.toNat a1) (⟨v7.id,v7.box,a4⟩:SContainer))
  else none
theorem pF {a0:SWorld} {a1:Int} {a2:Int} {a3:Bool} {a4:Int} {i0:Nat} {i0m2:Nat} {pi0m2 si0m2:Slk 4} {r:SWorld} (h:j6 a0 a1 a2 a3 a4=some r):aO Tryz.prog 114 [.gptr i0 0,zI a1,zI a2,zB a3,zI a4] [(i0,[.list false 4 (a0.queue.l.map zB),zI a0.retries,hdM i0m2 pi0m2 a0.boxes si0m2,.list false 150 (a0.images.map aQ)]),(i0m2,lob pi0m2 aG a0.boxes si0m2)] (fun v outs=>∃(i0m2_:Nat) (pi0m2_ si0m2_:Slk 4),v= .tuple []∧outs=[(i0,[.list false 4 (r.queue.l.map zB),zI r.retries,hdM i0m2_ pi0m2_ r.boxes si0m2_,.list false 150 (r.images.map aQ)]),(i0m2_,lob pi0m2_ aG r.boxes si0m2_)]):=by
  refine a8 Tryz.func114 rfl rfl rfl rfl fun base=>?_
  unfold j6 at h
  refine aB (aA ?_)
  obtain ⟨v1,hv1,h⟩:=bI h
  refine rh 5 [0] [] rfl ⟨rfl,trivial⟩ (rd (BI hv1) ?_)
  refine rn 1 rfl (aC.done [0,1,2,3,4,10] [] rfl (aB (b8 18 (by kernel_rfl) ?_)))
  refine cfq rfl rfl (fun _ _ _=>rfl) ?_
  refine cfq rfl rfl (fun _ _ _=>rfl) ?_
  refine cfq rfl rfl (fun _ _ _=>rfl) ?_
  refine cfq rfl rfl (fun _ _ _=>rfl) ?_
  obtain ⟨v2,hv2,h⟩:=bI h
  refine V6 (d:=22) (v:= .agg [zI v2.box.state,zI v2.box.tries]) rfl [(21,[],_)] ⟨rfl,trivial⟩ (fun fr X hf=>?_) ?_
  ·refine QF (f:=aG) (off:=1) 1 (fun _=>⟨rfl,rfl,rfl⟩) hv2 ?_
   exact aW rfl
  refine cfq rfl rfl (fun _ _ _=>rfl) ?_
  refine cfq rfl rfl (fun _ _ _=>rfl) ?_
  refine cfq rfl rfl (fun _ _ _=>rfl) ?_
  refine cfq rfl rfl (fun _ _ _=>rfl) ?_
  refine cfq rfl rfl (fun _ _ _=>rfl) ?_
  refine b9 rfl [0] rfl (fun _ _=>rfl) ⟨rfl,trivial⟩ ?_
  obtain ⟨v3,hv3,h⟩:=bI h
  refine cf1 (d:=29) (v:= .tuple [CH v3.1,zI v3.2]) rfl [(22,[],_),(23,[],_),(24,[],_),(28,[],_)] [] ⟨rfl,rfl,rfl,rfl,trivial⟩ trivial (fun fr X O hf=>?_) ?_
  ·refine aP (hsub:=sbF rfl hf) Tryz.call174 (QP hv3) rfl ?_
   exact aW rfl
  refine cfq rfl rfl (fun _ _ _=>rfl) ?_
  refine cfq rfl rfl (fun _ _ _=>rfl) ?_
  refine cfq rfl rfl (fun _ _ _=>rfl) ?_
  refine cfq rfl rfl (fun _ _ _=>rfl) ?_
  refine cfq rfl rfl (fun _ _ _=>rfl) ?_
  refine cfo (wr:=[]) (O1:=[(i0,[.list false 4 (a0.queue.l.map zB),zI a0.retries,hdM i0m2 pi0m2 (List.set a0.boxes (Int.toNat a1) (⟨v2.id,v3.1,v2.last⟩:SContainer)) si0m2,.list false 150 (a0.images.map aQ)]),(i0m2,lob pi0m2 aG (List.set a0.boxes (Int.toNat a1) (⟨v2.id,v3.1,v2.last⟩:SContainer)) si0m2)]) rfl [(33,[],_),(30,[],_)] ⟨rfl,rfl,trivial⟩ (fun fr X hf=>?_) ?_
  ·refine CD (f:=aG) (off:=1) 1 (fun _=>⟨rfl,rfl,rfl⟩) hv2 (⟨v2.id,v3.1,v2.last⟩:SContainer) ?_
   refine RU [(i0,[.list false 4 (a0.queue.l.map zB),zI a0.retries,hdM i0m2 pi0m2 (List.set a0.boxes (Int.toNat a1) (⟨v2.id,v3.1,v2.last⟩:SContainer)) si0m2,.list false 150 (a0.images.map aQ)]),(i0m2,lob pi0m2 aG (List.set a0.boxes (Int.toNat a1) (⟨v2.id,v3.1,v2.last⟩:SContainer)) si0m2)] (by simp [hdM]) ?_
   exact aW rfl
  refine b6.nil ⟨by kernel_rfl,?_⟩
  refine aC.done [0,1,3,4,10] [] rfl (aS (fun e=>∃(m5:Nat) (pm5 sm5:Slk 4) (x4:_),e=⟨[(0,[],.gptr i0 0),(1,[],zI a1),(10,[],.gptr m5 (pm5.n*4+Int.toNat a1*4))],[],[],[(i0,[.list false 4 (a0.queue.l.map zB),zI a0.retries,hdM m5 pm5 x4 sm5,.list false 150 (a0.images.map aQ)]),(m5,lob pm5 aG x4 sm5)],base⟩∧oI a0 a1 x4=some r) ?_ ?_)
  ·refine srd 1 rfl [0,1,4,10,34] [] rfl (aD h rfl (fun h=>?_) (fun h=>?_))
   ·refine aA ?_
    obtain ⟨v7,hv7,h⟩:=bI h
    refine rn 4 rfl (CD (f:=aG) (off:=3) 1 (fun _=>⟨rfl,rfl,rfl⟩) hv7 (⟨v7.id,v7.box,a4⟩:SContainer) ?_)
    refine RU [(i0,[.list false 4 (a0.queue.l.map zB),zI a0.retries,hdM i0m2 pi0m2 (List.set (List.set a0.boxes (Int.toNat a1) (⟨v2.id,v3.1,v2.last⟩:SContainer)) (Int.toNat a1) (⟨v7.id,v7.box,a4⟩:SContainer)) si0m2,.list false 150 (a0.images.map aQ)]),(i0m2,lob pi0m2 aG (List.set (List.set a0.boxes (Int.toNat a1) (⟨v2.id,v3.1,v2.last⟩:SContainer)) (Int.toNat a1) (⟨v7.id,v7.box,a4⟩:SContainer)) si0m2)] (by simp [hdM]) ?_
    refine aC.done [0,1,10] [] rfl ?_
    exact ⟨_,_,_,_,rfl,h⟩
   cases h
  rintro _ ⟨m5,pm5,sm5,x4,rfl,h⟩
  unfold oI at h
  refine aB (aA ?_)
  obtain ⟨v6,hv6,h⟩:=bI h
  refine rn 4 rfl (QF (f:=aG) (off:=1) 1 (fun _=>⟨rfl,rfl,rfl⟩) hv6 ?_)
  refine rn 1 rfl (aC.done [0,1,44] [] rfl (aD h rfl (fun h=>?_) (fun h=>?_)))
  ·cases h
  refine aE ?_
  cases h
  exact ⟨.inr rfl,_,[0,0],_,_,rfl,rfl,rfl,m5,pm5,sm5,rfl,rfl⟩
def nS (a0:SWorld) (a2:Int) (a3:Int) (v1:Int×Int):Option (Bool×Int×SWorld):=
  bif v1.2 !=0 then none else
  bO (kW a0) fun v2=>
  bO (j6 a0 v1.1 a2 v2 a3) fun v3=>
  some (v2,0,v3)
def lT (a0:SWorld) (a1:List UInt8) (a2:Int) (a3:Int):Option (Bool×Int×SWorld):=
  bO (lV a0 a1 a2) fun v1=>
  bif (v1.2==0)&&(a2==1) then none else
  nS a0 a2 a3 v1
theorem uP {a0:SWorld} {a1:List UInt8} {a2:Int} {a3:Int} {i0:Nat} {i0m2:Nat} {pi0m2 si0m2:Slk 4} {r:Bool×Int×SWorld} (h:lT a0 a1 a2 a3=some r):aO Tryz.prog 59 [.gptr i0 0,.str a1,zI a2,zI a3] [(i0,[.list false 4 (a0.queue.l.map zB),zI a0.retries,hdM i0m2 pi0m2 a0.boxes si0m2,.list false 150 (a0.images.map aQ)]),(i0m2,lob pi0m2 aG a0.boxes si0m2)] (fun v outs=>∃(i0m2_:Nat) (pi0m2_ si0m2_:Slk 4),v= .tuple [zB r.1,zI r.2.1]∧outs=[(i0,[.list false 4 (r.2.2.queue.l.map zB),zI r.2.2.retries,hdM i0m2_ pi0m2_ r.2.2.boxes si0m2_,.list false 150 (r.2.2.images.map aQ)]),(i0m2_,lob pi0m2_ aG r.2.2.boxes si0m2_)]):=by
  refine a8 Tryz.func59 rfl rfl rfl rfl fun base=>?_
  unfold lT at h
  refine srd 2 rfl [0,1,2,3] [] rfl (aB (aA (rn 3 rfl ?_)))
  obtain ⟨v1,hv1,h⟩:=bI h
  refine bR [0,0] Tryz.call112 (uR hv1) rfl rfl ?_
  refine rn 5 rfl (aC.done [0,2,3,10,11] [] rfl (aS (fun e=>e=⟨[(0,[],.gptr i0 0),(2,[],zI a2),(3,[],zI a3),(10,[],zI v1.1),(11,[],zI v1.2)],[],[],[(i0,[.list false 4 (a0.queue.l.map zB),zI a0.retries,hdM i0m2 pi0m2 a0.boxes si0m2,.list false 150 (a0.images.map aQ)]),(i0m2,lob pi0m2 aG a0.boxes si0m2)],base⟩∧nS a0 a2 a3 v1=some r) ?_ ?_))
  ·refine srd 6 rfl [0,2,3,10,11,25] [] rfl (aD h rfl (fun h=>?_) (fun h=>?_))
   ·cases h
   refine aR [0,2,3,10,11] [] rfl (aE ?_)
   exact ⟨rfl,h⟩
  rintro _ ⟨rfl,h⟩
  unfold nS at h
  refine aB (srd 2 rfl [0,2,3,10,11,27] [] rfl (aD h rfl (fun h=>?_) (fun h=>?_)))
  ·cases h
  refine aE (aB (aA (rn 3 rfl ?_)))
  obtain ⟨v2,hv2,h⟩:=bI h
  refine bR [0,0] Tryz.call113 (uA hv2) rfl rfl ?_
  refine rn 1 rfl (aC.done [0,2,3,10,12] [] rfl (aB (aA (rn 5 rfl ?_))))
  obtain ⟨v3,hv3,h⟩:=bI h
  refine bL [0,0] Tryz.call114 (pF hv3) rfl rfl ?_
  rintro _ _ ⟨m4,pm4,sm4,rfl,rfl⟩
  refine aC.done [12] [] rfl (srd 3 rfl [8,9] [] rfl (aJ ?_))
  cases h
  exact ⟨.inl rfl,_,[0,0],_,_,rfl,rfl,rfl,m4,pm4,sm4,rfl,rfl⟩
def fL (a0:Sround) (_a0_0:SAgent) (_a0_0_0:SWorld) (_a0_0_1:SStore) (_a0_0_1_0:SDisk) (_a0_0_1_0_0:List ((List UInt8)×(List UInt8))) (a1:Int) (a2:List UInt8) (a3:Int):Option Sround:=
  bO (bM a0.events [(⟨a1,a2,0,a3⟩:SEvent)]) fun v1=>
  some (⟨v1,a0.holds,a0.press⟩:Sround)
theorem jH {a0:Sround} {a0_0:SAgent} {a0_0_0:SWorld} {a0_0_1:SStore} {a0_0_1_0:SDisk} {a0_0_1_0_0:List ((List UInt8)×(List UInt8))} {a1:Int} {a2:List UInt8} {a3:Int} {i0 i0_0 i0_0_0 i0_0_1 i0_0_1_0 i0_0_1_0_0:Nat} {i0m1:Nat} {pi0m1 si0m1:Slk 4} {i0_0_0m2:Nat} {pi0_0_0m2 si0_0_0m2:Slk 4} {r:Sround} (h:fL a0 a0_0 a0_0_0 a0_0_1 a0_0_1_0 a0_0_1_0_0 a1 a2 a3=some r):aO Tryz.prog 60 [.gptr i0 0,zI a1,.str a2,zI a3] [(i0,[.gptr i0_0 0,hdM i0m1 pi0m1 a0.events si0m1,.list false 4 (a0.holds.map zB),zB a0.press.a,zB a0.press.b,zB a0.press.c]),(i0m1,lob pi0m1 bB a0.events si0m1),(i0_0,[zI a0_0.c.capacity.a,zI a0_0.c.capacity.b,zI a0_0.c.capacity.c,zI a0_0.c.allocatable.a,zI a0_0.c.allocatable.b,zI a0_0.c.allocatable.c,.list false 102 (a0_0.c.thresholds.map aL),zI a0_0.c.period,zI a0_0.c.retries,zI a0_0.c.maxAge,zI a0_0.c.dead,.gptr i0_0_0 0,.gptr i0_0_1 0,zI a0_0.state.round,.list false 83 (a0_0.state.pods.map aN),zB a0_0.state.on.a,zB a0_0.state.on.b,zB a0_0.state.on.c,.list false 3 (a0_0.since.map zI),zI a0_0.calm.a,zI a0_0.calm.b,zI a0_0.calm.c,zI a0_0.sample.time,zI a0_0.sample.avail.a,zI a0_0.sample.avail.b,zI a0_0.sample.avail.c,.list false 280 (a0_0.sample.use.map bC),zB a0_0.fresh,zI a0_0.fuse,zB a0_0.dead]),(i0_0_0,[.list false 4 (a0_0_0.queue.l.map zB),zI a0_0_0.retries,hdM i0_0_0m2 pi0_0_0m2 a0_0_0.boxes si0_0_0m2,.list false 150 (a0_0_0.images.map aQ)]),(i0_0_0m2,lob pi0_0_0m2 aG a0_0_0.boxes si0_0_0m2),(i0_0_1,[.gptr i0_0_1_0 0,zI a0_0_1.version]),(i0_0_1_0,[.gmap i0_0_1_0_0,.list true 69 (a0_0_1_0.open_.map bG)]),(i0_0_1_0_0,aV keS (fun (x:List UInt8)=> .list false 5 (x.map zU8)) a0_0_1_0_0)] (fun v outs=>∃(i0m1_:Nat) (pi0m1_ si0m1_:Slk 4),v= .tuple []∧outs=[(i0,[.gptr i0_0 0,hdM i0m1_ pi0m1_ r.events si0m1_,.list false 4 (r.holds.map zB),zB r.press.a,zB r.press.b,zB r.press.c]),(i0m1_,lob pi0m1_ bB r.events si0m1_),(i0_0,[zI a0_0.c.capacity.a,zI a0_0.c.capacity.b,zI a0_0.c.capacity.c,zI a0_0.c.allocatable.a,zI a0_0.c.allocatable.b,zI a0_0.c.allocatable.c,.list false 102 (a0_0.c.thresholds.map aL),zI a0_0.c.period,zI a0_0.c.retries,zI a0_0.c.maxAge,zI a0_0.c.dead,.gptr i0_0_0 0,.gptr i0_0_1 0,zI a0_0.state.round,.list false 83 (a0_0.state.pods.map aN),zB a0_0.state.on.a,zB a0_0.state.on.b,zB a0_0.state.on.c,.list false 3 (a0_0.since.map zI),zI a0_0.calm.a,zI a0_0.calm.b,zI a0_0.calm.c,zI a0_0.sample.time,zI a0_0.sample.avail.a,zI a0_0.sample.avail.b,zI a0_0.sample.avail.c,.list false 280 (a0_0.sample.use.map bC),zB a0_0.fresh,zI a0_0.fuse,zB a0_0.dead]),(i0_0_0,[.list false 4 (a0_0_0.queue.l.map zB),zI a0_0_0.retries,hdM i0_0_0m2 pi0_0_0m2 a0_0_0.boxes si0_0_0m2,.list false 150 (a0_0_0.images.map aQ)]),(i0_0_0m2,lob pi0_0_0m2 aG a0_0_0.boxes si0_0_0m2),(i0_0_1,[.gptr i0_0_1_0 0,zI a0_0_1.version]),(i0_0_1_0,[.gmap i0_0_1_0_0,.list true 69 (a0_0_1_0.open_.map bG)]),(i0_0_1_0_0,aV keS (fun (x:List UInt8)=> .list false 5 (x.map zU8)) a0_0_1_0_0)]):=by
  refine a8 Tryz.func60 rfl rfl rfl rfl fun base=>?_
  unfold fL at h
  refine aA ?_
  obtain ⟨v1,hv1,h⟩:=bI h
  refine rh 10 [0] [] rfl ⟨rfl,trivial⟩ (pS (f:=bB) 1 (fun _=>⟨rfl,rfl,rfl⟩) hv1 ?_)
  rintro m2 pm2 sm2
  refine rh 3 [0] [] rfl ⟨rfl,trivial⟩ (aC.done [] [] rfl ?_)
  cases h
  exact ⟨.inr rfl,_,[0,0,0,0,0,0,0,0],_,_,rfl,rfl,rfl,m2,pm2,sm2,rfl,rfl⟩
def iJ (v2:SWorld) (x8:List SContainer):Option SWorld:=
  some (⟨v2.queue,v2.retries,x8,v2.images⟩:SWorld)
def eY (x4:List SContainer) (v7:List (List UInt8)) (k390:(List SContainer)→Option SWorld):Nat→Option SWorld
  |0=>none
  |_m2+1=>
   bif decide (0<(v7.length:Int)) then none else
   k390 x4
def iI (a0_0:SAgent) (v1:(List (List UInt8))×(List (List UInt8))) (v2:SWorld) (x4:List SContainer):Option SWorld:=
  bO (f9 (⟨v2.queue,v2.retries,x4,v2.images⟩:SWorld)) fun v6=>
  bO (xO v6 v1.1 a0_0.c.dead) fun v7=>
  eY x4 v7 (iJ v2) aT
def jT (a0:Sround) (a0_0:SAgent) (a0_0_0:SWorld) (a0_0_1:SStore) (a0_0_1_0:SDisk) (a0_0_1_0_0:List ((List UInt8)×(List UInt8))):Option SWorld:=
  bO (lM a0 a0_0 a0_0_0 a0_0_1 a0_0_1_0 a0_0_1_0_0) fun v1=>
  bO (oG a0_0_0 v1.2 a0_0.state.round) fun v2=>
  bif a0.press.b then none else
  iI a0_0 v1 v2 v2.boxes
theorem w8 {a0:Sround} {a0_0:SAgent} {a0_0_0:SWorld} {a0_0_1:SStore} {a0_0_1_0:SDisk} {a0_0_1_0_0:List ((List UInt8)×(List UInt8))} {i0 i0_0 i0_0_0 i0_0_1 i0_0_1_0 i0_0_1_0_0:Nat} {i0m1:Nat} {pi0m1 si0m1:Slk 4} {i0_0_0m2:Nat} {pi0_0_0m2 si0_0_0m2:Slk 4} {r:SWorld} (h:jT a0 a0_0 a0_0_0 a0_0_1 a0_0_1_0 a0_0_1_0_0=some r):aO Tryz.prog 24 [.gptr i0 0] [(i0,[.gptr i0_0 0,hdM i0m1 pi0m1 a0.events si0m1,.list false 4 (a0.holds.map zB),zB a0.press.a,zB a0.press.b,zB a0.press.c]),(i0m1,lob pi0m1 bB a0.events si0m1),(i0_0,[zI a0_0.c.capacity.a,zI a0_0.c.capacity.b,zI a0_0.c.capacity.c,zI a0_0.c.allocatable.a,zI a0_0.c.allocatable.b,zI a0_0.c.allocatable.c,.list false 102 (a0_0.c.thresholds.map aL),zI a0_0.c.period,zI a0_0.c.retries,zI a0_0.c.maxAge,zI a0_0.c.dead,.gptr i0_0_0 0,.gptr i0_0_1 0,zI a0_0.state.round,.list false 83 (a0_0.state.pods.map aN),zB a0_0.state.on.a,zB a0_0.state.on.b,zB a0_0.state.on.c,.list false 3 (a0_0.since.map zI),zI a0_0.calm.a,zI a0_0.calm.b,zI a0_0.calm.c,zI a0_0.sample.time,zI a0_0.sample.avail.a,zI a0_0.sample.avail.b,zI a0_0.sample.avail.c,.list false 280 (a0_0.sample.use.map bC),zB a0_0.fresh,zI a0_0.fuse,zB a0_0.dead]),(i0_0_0,[.list false 4 (a0_0_0.queue.l.map zB),zI a0_0_0.retries,hdM i0_0_0m2 pi0_0_0m2 a0_0_0.boxes si0_0_0m2,.list false 150 (a0_0_0.images.map aQ)]),(i0_0_0m2,lob pi0_0_0m2 aG a0_0_0.boxes si0_0_0m2),(i0_0_1,[.gptr i0_0_1_0 0,zI a0_0_1.version]),(i0_0_1_0,[.gmap i0_0_1_0_0,.list true 69 (a0_0_1_0.open_.map bG)]),(i0_0_1_0_0,aV keS (fun (x:List UInt8)=> .list false 5 (x.map zU8)) a0_0_1_0_0)] (fun v outs=>∃(i0_0_0m2_:Nat) (pi0_0_0m2_ si0_0_0m2_:Slk 4),v= .tuple []∧outs=[(i0,[.gptr i0_0 0,hdM i0m1 pi0m1 a0.events si0m1,.list false 4 (a0.holds.map zB),zB a0.press.a,zB a0.press.b,zB a0.press.c]),(i0m1,lob pi0m1 bB a0.events si0m1),(i0_0,[zI a0_0.c.capacity.a,zI a0_0.c.capacity.b,zI a0_0.c.capacity.c,zI a0_0.c.allocatable.a,zI a0_0.c.allocatable.b,zI a0_0.c.allocatable.c,.list false 102 (a0_0.c.thresholds.map aL),zI a0_0.c.period,zI a0_0.c.retries,zI a0_0.c.maxAge,zI a0_0.c.dead,.gptr i0_0_0 0,.gptr i0_0_1 0,zI a0_0.state.round,.list false 83 (a0_0.state.pods.map aN),zB a0_0.state.on.a,zB a0_0.state.on.b,zB a0_0.state.on.c,.list false 3 (a0_0.since.map zI),zI a0_0.calm.a,zI a0_0.calm.b,zI a0_0.calm.c,zI a0_0.sample.time,zI a0_0.sample.avail.a,zI a0_0.sample.avail.b,zI a0_0.sample.avail.c,.list false 280 (a0_0.sample.use.map bC),zB a0_0.fresh,zI a0_0.fuse,zB a0_0.dead]),(i0_0_0,[.list false 4 (r.queue.l.map zB),zI r.retries,hdM i0_0_0m2_ pi0_0_0m2_ r.boxes si0_0_0m2_,.list false 150 (r.images.map aQ)]),(i0_0_0m2_,lob pi0_0_0m2_ aG r.boxes si0_0_0m2_),(i0_0_1,[.gptr i0_0_1_0 0,zI a0_0_1.version]),(i0_0_1_0,[.gmap i0_0_1_0_0,.list true 69 (a0_0_1_0.open_.map bG)]),(i0_0_1_0_0,aV keS (fun (x:List UInt8)=> .list false 5 (x.map zU8)) a0_0_1_0_0)]):=by
  refine a8 Tryz.func24 rfl rfl rfl rfl fun base=>?_
  unfold jT at h
  refine aB (aA (rn 1 rfl ?_))
  obtain ⟨v1,hv1,h⟩:=bI h
  refine bR [0,0,0,0,0,0,0,0] Tryz.call55 (uO hv1) rfl rfl ?_
  refine rh 5 [] [9,12,13,2,3] rfl trivial (aC.done [0,2,3] [] rfl (aB (b8 16 (by kernel_rfl) ?_)))
  refine cfq rfl rfl (fun _ _ _=>rfl) ?_
  refine cfq rfl rfl (fun _ _ _=>rfl) ?_
  refine cfq rfl rfl (fun _ _ _=>rfl) ?_
  refine b9 rfl [0] rfl (fun _ _=>rfl) ⟨rfl,trivial⟩ ?_
  refine cfq rfl rfl (fun _ _ _=>rfl) ?_
  refine cfq rfl rfl (fun _ _ _=>rfl) ?_
  refine b9 rfl [2] rfl (fun _ _=>rfl) ⟨rfl,trivial⟩ ?_
  refine cfq rfl rfl (fun _ _ _=>rfl) ?_
  refine cfq rfl rfl (fun _ _ _=>rfl) ?_
  refine cfq rfl rfl (fun _ _ _=>rfl) ?_
  refine cfq rfl rfl (fun _ _ _=>rfl) ?_
  refine b9 rfl [0] rfl (fun _ _=>rfl) ⟨rfl,trivial⟩ ?_
  refine cfq rfl rfl (fun _ _ _=>rfl) ?_
  refine cfq rfl rfl (fun _ _ _=>rfl) ?_
  refine cfq rfl rfl (fun _ _ _=>rfl) ?_
  refine b9 rfl [2] rfl (fun _ _=>rfl) ⟨rfl,trivial⟩ ?_
  refine b6.nil ⟨by kernel_rfl,?_⟩
  obtain ⟨v2,hv2,h⟩:=bI h
  refine bL [3,3] Tryz.call56 (BZ hv2) rfl rfl ?_
  rintro _ _ ⟨m3,pm3,sm3,rfl,rfl⟩
  refine aC.objs [2,2,2,0,0,0,0,0] rfl ?_
  refine aC.done [0,2] [] rfl (aB (aA (rh 9 [0,2] [] rfl ⟨rfl,rfl,trivial⟩ (aC.done [0,2,4] [] rfl (aS (fun e=>∃(m5:Nat) (pm5 sm5:Slk 4) (x4:_),e=⟨[(0,[],.gptr i0 0),(2,[],.list true 9 (v1.1.map AV.str)),(4,[],zI a0_0.c.dead)],[],[],[(i0,[.gptr i0_0 0,hdM i0m1 pi0m1 a0.events si0m1,.list false 4 (a0.holds.map zB),zB a0.press.a,zB a0.press.b,zB a0.press.c]),(i0m1,lob pi0m1 bB a0.events si0m1),(i0_0,[zI a0_0.c.capacity.a,zI a0_0.c.capacity.b,zI a0_0.c.capacity.c,zI a0_0.c.allocatable.a,zI a0_0.c.allocatable.b,zI a0_0.c.allocatable.c,.list false 102 (a0_0.c.thresholds.map aL),zI a0_0.c.period,zI a0_0.c.retries,zI a0_0.c.maxAge,zI a0_0.c.dead,.gptr i0_0_0 0,.gptr i0_0_1 0,zI a0_0.state.round,.list false 83 (a0_0.state.pods.map aN),zB a0_0.state.on.a,zB a0_0.state.on.b,zB a0_0.state.on.c,.list false 3 (a0_0.since.map zI),zI a0_0.calm.a,zI a0_0.calm.b,zI a0_0.calm.c,zI a0_0.sample.time,zI a0_0.sample.avail.a,zI a0_0.sample.avail.b,zI a0_0.sample.avail.c,.list false 280 (a0_0.sample.use.map bC),zB a0_0.fresh,zI a0_0.fuse,zB a0_0.dead]),(i0_0_0,[.list false 4 (v2.queue.l.map zB),zI v2.retries,hdM m5 pm5 x4 sm5,.list false 150 (v2.images.map aQ)]),(m5,lob pm5 aG x4 sm5),(i0_0_1,[.gptr i0_0_1_0 0,zI a0_0_1.version]),(i0_0_1_0,[.gmap i0_0_1_0_0,.list true 69 (a0_0_1_0.open_.map bG)]),(i0_0_1_0_0,aV keS (fun (x:List UInt8)=> .list false 5 (x.map zU8)) a0_0_1_0_0)],base⟩∧iI a0_0 v1 v2 x4=some r) ?_ ?_)))))
  ·refine aB (aA (rh 5 [0] [] rfl ⟨rfl,trivial⟩ (aC.done [0,2,4,43] [] rfl (aD h rfl (fun h=>?_) (fun h=>?_)))))
   ·cases h
   refine aR [0,2,4] [] rfl (aE ?_)
   exact ⟨_,_,_,_,rfl,h⟩
  rintro _ ⟨m5,pm5,sm5,x4,rfl,h⟩
  unfold iI at h
  refine aB (aA (rh 7 [0,2] [] rfl ⟨rfl,rfl,trivial⟩ ?_))
  obtain ⟨v6,hv6,h⟩:=bI h
  refine bR [3,3] Tryz.call58 (n9 hv6) rfl rfl ?_
  refine rn 2 rfl ?_
  obtain ⟨v7,hv7,h⟩:=bI h
  refine aP Tryz.call57 (HZ hv7) rfl ?_
  refine rh 2 [v7.length] [] rfl ⟨List.length_map ..,trivial⟩ (aC.objs [2,2,2,0,0,0,0,0] rfl ?_)
  refine aC.done [0,54,55,56] [] rfl (aF (aU (fun m2 e=>e=⟨[(0,[],.gptr i0 0),(54,[],.list false 9 (v7.map AV.str)),(55,[],zI (v7.length:Int)),(56,[],zI 0)],[],[],[(i0,[.gptr i0_0 0,hdM i0m1 pi0m1 a0.events si0m1,.list false 4 (a0.holds.map zB),zB a0.press.a,zB a0.press.b,zB a0.press.c]),(i0m1,lob pi0m1 bB a0.events si0m1),(i0_0,[zI a0_0.c.capacity.a,zI a0_0.c.capacity.b,zI a0_0.c.capacity.c,zI a0_0.c.allocatable.a,zI a0_0.c.allocatable.b,zI a0_0.c.allocatable.c,.list false 102 (a0_0.c.thresholds.map aL),zI a0_0.c.period,zI a0_0.c.retries,zI a0_0.c.maxAge,zI a0_0.c.dead,.gptr i0_0_0 0,.gptr i0_0_1 0,zI a0_0.state.round,.list false 83 (a0_0.state.pods.map aN),zB a0_0.state.on.a,zB a0_0.state.on.b,zB a0_0.state.on.c,.list false 3 (a0_0.since.map zI),zI a0_0.calm.a,zI a0_0.calm.b,zI a0_0.calm.c,zI a0_0.sample.time,zI a0_0.sample.avail.a,zI a0_0.sample.avail.b,zI a0_0.sample.avail.c,.list false 280 (a0_0.sample.use.map bC),zB a0_0.fresh,zI a0_0.fuse,zB a0_0.dead]),(i0_0_0,[.list false 4 (v2.queue.l.map zB),zI v2.retries,hdM m5 pm5 x4 sm5,.list false 150 (v2.images.map aQ)]),(m5,lob pm5 aG x4 sm5),(i0_0_1,[.gptr i0_0_1_0 0,zI a0_0_1.version]),(i0_0_1_0,[.gmap i0_0_1_0_0,.list true 69 (a0_0_1_0.open_.map bG)]),(i0_0_1_0_0,aV keS (fun (x:List UInt8)=> .list false 5 (x.map zU8)) a0_0_1_0_0)],base⟩∧eY x4 v7 (iJ v2) m2=some r) aT ⟨rfl,h⟩ ?_ ?_))
  ·rintro m2 _ ⟨rfl,h⟩
   rw [eY] at h
   refine srd 1 rfl [0,54,55,56,57] [] rfl (aB (aD h rfl (fun h=>?_) (fun h=>?_)))
   ·cases h
   refine CWp.exit ?_
   unfold iJ at h
   cases h
   exact ⟨.inr rfl,_,[0,0,0,0,0,0,0,0],_,_,rfl,rfl,rfl,m5,pm5,sm5,rfl,rfl⟩
  rintro _ ⟨_,h⟩
  rw [eY] at h;cases h
def nE (a0:Sround) (_a0_0:SAgent) (_a0_0_0:SWorld) (_a0_0_1:SStore) (_a0_0_1_0:SDisk) (_a0_0_1_0_0:List ((List UInt8)×(List UInt8))):Option Unit:=
  bif !a0.press.b then
    some ()
  else none
theorem AU {a0:Sround} {a0_0:SAgent} {a0_0_0:SWorld} {a0_0_1:SStore} {a0_0_1_0:SDisk} {a0_0_1_0_0:List ((List UInt8)×(List UInt8))} {i0 i0_0 i0_0_0 i0_0_1 i0_0_1_0 i0_0_1_0_0:Nat} {i0m1:Nat} {pi0m1 si0m1:Slk 4} {i0_0_0m2:Nat} {pi0_0_0m2 si0_0_0m2:Slk 4} {r:Unit} (h:nE a0 a0_0 a0_0_0 a0_0_1 a0_0_1_0 a0_0_1_0_0=some r):aO Tryz.prog 25 [.gptr i0 0] [(i0,[.gptr i0_0 0,hdM i0m1 pi0m1 a0.events si0m1,.list false 4 (a0.holds.map zB),zB a0.press.a,zB a0.press.b,zB a0.press.c]),(i0m1,lob pi0m1 bB a0.events si0m1),(i0_0,[zI a0_0.c.capacity.a,zI a0_0.c.capacity.b,zI a0_0.c.capacity.c,zI a0_0.c.allocatable.a,zI a0_0.c.allocatable.b,zI a0_0.c.allocatable.c,.list false 102 (a0_0.c.thresholds.map aL),zI a0_0.c.period,zI a0_0.c.retries,zI a0_0.c.maxAge,zI a0_0.c.dead,.gptr i0_0_0 0,.gptr i0_0_1 0,zI a0_0.state.round,.list false 83 (a0_0.state.pods.map aN),zB a0_0.state.on.a,zB a0_0.state.on.b,zB a0_0.state.on.c,.list false 3 (a0_0.since.map zI),zI a0_0.calm.a,zI a0_0.calm.b,zI a0_0.calm.c,zI a0_0.sample.time,zI a0_0.sample.avail.a,zI a0_0.sample.avail.b,zI a0_0.sample.avail.c,.list false 280 (a0_0.sample.use.map bC),zB a0_0.fresh,zI a0_0.fuse,zB a0_0.dead]),(i0_0_0,[.list false 4 (a0_0_0.queue.l.map zB),zI a0_0_0.retries,hdM i0_0_0m2 pi0_0_0m2 a0_0_0.boxes si0_0_0m2,.list false 150 (a0_0_0.images.map aQ)]),(i0_0_0m2,lob pi0_0_0m2 aG a0_0_0.boxes si0_0_0m2),(i0_0_1,[.gptr i0_0_1_0 0,zI a0_0_1.version]),(i0_0_1_0,[.gmap i0_0_1_0_0,.list true 69 (a0_0_1_0.open_.map bG)]),(i0_0_1_0_0,aV keS (fun (x:List UInt8)=> .list false 5 (x.map zU8)) a0_0_1_0_0)] (fun v outs=>v= .tuple []∧outs=[(i0,[.gptr i0_0 0,hdM i0m1 pi0m1 a0.events si0m1,.list false 4 (a0.holds.map zB),zB a0.press.a,zB a0.press.b,zB a0.press.c]),(i0m1,lob pi0m1 bB a0.events si0m1),(i0_0,[zI a0_0.c.capacity.a,zI a0_0.c.capacity.b,zI a0_0.c.capacity.c,zI a0_0.c.allocatable.a,zI a0_0.c.allocatable.b,zI a0_0.c.allocatable.c,.list false 102 (a0_0.c.thresholds.map aL),zI a0_0.c.period,zI a0_0.c.retries,zI a0_0.c.maxAge,zI a0_0.c.dead,.gptr i0_0_0 0,.gptr i0_0_1 0,zI a0_0.state.round,.list false 83 (a0_0.state.pods.map aN),zB a0_0.state.on.a,zB a0_0.state.on.b,zB a0_0.state.on.c,.list false 3 (a0_0.since.map zI),zI a0_0.calm.a,zI a0_0.calm.b,zI a0_0.calm.c,zI a0_0.sample.time,zI a0_0.sample.avail.a,zI a0_0.sample.avail.b,zI a0_0.sample.avail.c,.list false 280 (a0_0.sample.use.map bC),zB a0_0.fresh,zI a0_0.fuse,zB a0_0.dead]),(i0_0_0,[.list false 4 (a0_0_0.queue.l.map zB),zI a0_0_0.retries,hdM i0_0_0m2 pi0_0_0m2 a0_0_0.boxes si0_0_0m2,.list false 150 (a0_0_0.images.map aQ)]),(i0_0_0m2,lob pi0_0_0m2 aG a0_0_0.boxes si0_0_0m2),(i0_0_1,[.gptr i0_0_1_0 0,zI a0_0_1.version]),(i0_0_1_0,[.gmap i0_0_1_0_0,.list true 69 (a0_0_1_0.open_.map bG)]),(i0_0_1_0_0,aV keS (fun (x:List UInt8)=> .list false 5 (x.map zU8)) a0_0_1_0_0)]):=by
  refine a8 Tryz.func25 rfl rfl rfl rfl fun base=>?_
  unfold nE at h
  refine aB (aB (aA (rh 6 [0] [] rfl ⟨rfl,trivial⟩ (aC.done [0,19] [] rfl (aD h rfl (fun h=>?_) (fun h=>?_))))))
  ·cases h;exact aJ ⟨.inl rfl,_,[0,0,0,0,0,0,0,0],_,_,rfl,rfl,rfl,rfl,rfl⟩
  cases h
def k9 (a0:SEntry):Option Bool:=
  some (a0.phase==3)
theorem yJ {a0:SEntry} {r:Bool} (h:k9 a0=some r):aI Tryz.prog 70 [aN a0] (zB r):=by
  refine aK Tryz.func70 rfl rfl rfl rfl fun base=>?_
  unfold k9 at h
  refine srd 2 rfl [1] [1] rfl (srd 4 rfl [2] [] rfl ?_)
  cases h;exact aJ ⟨.inl rfl,rfl,rfl⟩
def CL (a0:SEntry):Option Bool:=
  some ((!a0.pod.critical)&&((a0.phase==1)||(a0.phase==2)))
theorem MN {a0:SEntry} {r:Bool} (h:CL a0=some r):aI Tryz.prog 181 [aN a0] (zB r):=by
  refine aK Tryz.func181 rfl rfl rfl rfl fun base=>?_
  unfold CL at h
  refine srd 2 rfl [1] [1] rfl (srd 15 rfl [2] [] rfl ?_)
  cases h;exact aJ ⟨.inl rfl,rfl,rfl⟩
def dV (a0:List SUse) (a1:List UInt8) (a2:SUse→(List UInt8)→Option Int):Option (Int×Bool):=
  bif decide (0<(a0.length:Int)) then
    bO (idx a0 0) fun v1=>
    bO (a2 v1 a1) fun v2=>
    some (0,v2==0)
  else
    some (0,false)
def dW (a0:List SUse) (k290:Option (Int×Bool)):Nat→Option (Int×Bool)
  |0=>none
  |_m2+1=>
   bif decide (0<(a0.length:Int)) then none else
   k290
def gG (a0:List SUse) (a1:List UInt8) (a2:SUse→(List UInt8)→Option Int):Option (Int×Bool):=
  dW a0 (dV a0 a1 a2) aT
theorem s1 {a0:List SUse} {a1:List UInt8} {a2:SUse→(List UInt8)→Option Int} {r:Int×Bool} {ins:Ob} {f2:Nat} {c2:List AV} (hp2:Fn2 Tryz.prog f2 c2 ins bC AV.str zI a2) (h:gG a0 a1 a2=some r):aO Tryz.prog 296 [.list false 280 (a0.map bC),.str a1,.fn f2 c2] ins (fun v outs=>v= .tuple [zI r.1,zB r.2]∧outs=ins):=by
  refine cL Tryz.func296 rfl rfl rfl rfl fun base=>?_
  unfold gG at h
  refine srd 2 rfl [0,1,2] [] rfl (aB (aA (rh 3 [a0.length] [] rfl ⟨List.length_map ..,trivial⟩ (aC.done [0,1,2,8] [] rfl (srd 3 rfl [0,1,2,8,9,10] [] rfl (aS (fun e=>e=⟨[(0,[],.list false 280 (a0.map bC)),(1,[],.str a1),(2,[],.fn f2 c2),(8,[],zI (a0.length:Int)),(9,[],zI 0)],[],[],ins,base⟩∧dV a0 a1 a2=some r) ?_ ?_))))))
  ·refine aF (aU (fun m2 e=>e=⟨[(0,[],.list false 280 (a0.map bC)),(1,[],.str a1),(2,[],.fn f2 c2),(8,[],zI (a0.length:Int)),(9,[],zI 0),(10,[],zI (a0.length:Int))],[],[],ins,base⟩∧dW a0 (dV a0 a1 a2) m2=some r) aT ⟨rfl,h⟩ ?_ ?_)
   ·rintro m2 _ ⟨rfl,h⟩
    rw [dW] at h
    refine aB (srd 3 rfl [0,1,2,8,9,10,17] [] rfl (aD h rfl (fun h=>?_) (fun h=>?_)))
    ·cases h
    refine aR [0,1,2,8,9] [] rfl (CWp.exit ?_)
    exact ⟨rfl,h⟩
   rintro _ ⟨_,h⟩
   rw [dW] at h;cases h
  rintro _ ⟨rfl,h⟩
  unfold dV at h
  refine aB (aA (rn 5 rfl (nA 39 h rfl (fun h=>?_) (fun h=>?_))))
  ·refine aC.want ?_
   refine rn 1 rfl (aC.want ?_)
   refine rn 1 rfl (aC.want ?_)
   refine rn 1 rfl (aC.want ?_)
   obtain ⟨v1,hv1,h⟩:=bI h
   refine rd (rIx hv1) ?_
   refine aC.want ?_
   refine rn 1 rfl (aC.want ?_)
   refine rn 1 rfl (aC.want ?_)
   obtain ⟨v2,hv2,h⟩:=bI h
   refine n0 hp2.1 (hp2.2 _ _ _ hv2) ?_
   rintro _ _ ⟨rfl,rfl⟩
   refine aC.want ?_
   refine rn 1 rfl (rd (fP) ?_)
   refine rn 2 rfl (aC.done [6,7] [] rfl (aJ ?_))
   cases h
   exact ⟨.inl rfl,_,rfl,rfl,rfl,rfl⟩
  refine aX ?_
  refine aX ?_
  refine aX ?_
  refine aX ?_
  refine aX ?_
  refine aX ?_
  refine aX ?_
  refine aX ?_
  refine rd (fP) ?_
  refine rn 2 rfl (aC.done [6,7] [] rfl (aJ ?_))
  cases h
  exact ⟨.inl rfl,_,rfl,rfl,rfl,rfl⟩
def xI (a0:SUse) (a1:List UInt8):Option Int:=
  bO (CF a0.id a1) fun v1=>
  some v1
theorem HV {a0:SUse} {a1:List UInt8} {r:Int} (h:xI a0 a1=some r):aI Tryz.prog 297 [bC a0,.str a1] (zI r):=by
  refine aK Tryz.func297 rfl rfl rfl rfl fun base=>?_
  unfold xI at h
  refine srd 2 rfl [1,2] [2] rfl (aB (aA (rn 3 rfl ?_)))
  obtain ⟨v1,hv1,h⟩:=bI h
  refine aP Tryz.call143 (wN hv1) rfl ?_
  refine rn 1 rfl (aC.done [4] [] rfl ?_)
  cases h;exact aJ ⟨.inl rfl,rfl,rfl⟩
def A8 (a0:SSample) (a1:List UInt8):Option (V3 Int):=
  bO (gG a0.use a1 xI) fun v1=>
  bif !v1.2 then
    some (⟨0,0,0⟩:V3 Int)
  else none
theorem LD {a0:SSample} {a1:List UInt8} {r:V3 Int} (h:A8 a0 a1=some r):aI Tryz.prog 233 [r8 a0,.str a1] (wP r):=by
  refine aK Tryz.func233 rfl rfl rfl rfl fun base=>?_
  unfold A8 at h
  refine srd 2 rfl [1,2,4] [2,4] rfl (aB (aA (rn 3 rfl ?_)))
  obtain ⟨v1,hv1,h⟩:=bI h
  refine bR [] Tryz.call296 (s1 ⟨Tryz.call297,fun _ _ _ hb=>HV hb⟩ hv1) rfl rfl ?_
  refine rn 5 rfl (aC.done [2,4,5,6] [2,4] rfl (aB (srd 2 rfl [2,4,5,15] [2,4] rfl (aD h rfl (fun h=>?_) (fun h=>?_)))))
  ·refine srd 2 rfl [4] [4] rfl ?_
   cases h;exact aJ ⟨.inl rfl,rfl,rfl⟩
  cases h
def yY (a0:SPod) (a1:Int):Option Int:=
  bif a1==0 then
    some a0.req.b
  else none
theorem I9 {a0:SPod} {a1:Int} {r:Int} (h:yY a0 a1=some r):aI Tryz.prog 234 [cI a0,zI a1] (zI r):=by
  refine aK Tryz.func234 rfl rfl rfl rfl fun base=>?_
  unfold yY at h
  refine srd 2 rfl [1,2] [2] rfl (aB (srd 1 rfl [2,5] [2] rfl (aF (srd 2 rfl [2,5,6] [2] rfl (aD h rfl (fun h=>?_) (fun h=>?_))))))
  ·refine srd 4 rfl [4] [] rfl ?_
   cases h;exact aJ ⟨.inl rfl,rfl,rfl⟩
  cases h
end
section
open Go.RowKit
def yZ (a0:Int) (a1:SPod) (a2:SSample):Option Skey:=
  bO (A8 a2 a1.id) fun v1=>
  bO (idx [v1.a,v1.b,v1.c] a0) fun v2=>
  bO (yY a1 a0) fun v3=>
  bif decide ((w64 (v2-v3))>0) then none else
  some (⟨1,a1.prio,w64 (v2-v3),a1.id⟩:Skey)
theorem JA {a0:Int} {a1:SPod} {a2:SSample} {r:Skey} (h:yZ a0 a1 a2=some r):aI Tryz.prog 182 [zI a0,cI a1,r8 a2] (pT r):=by
  refine aK Tryz.func182 rfl rfl rfl rfl fun base=>?_
  unfold yZ at h
  refine srd 3 rfl [0,4,5,6] [4,5,6] rfl (aB (b8 16 (by kernel_rfl) ?_))
  refine cfq rfl rfl (fun _ _ _=>rfl) ?_
  refine cfp rfl [] [(4,_)] rfl ⟨rfl,trivial⟩ (fun _ _ _=>rfl) trivial ?_
  refine cfp rfl [] [(5,_)] rfl ⟨rfl,trivial⟩ (fun _ _ _=>rfl) trivial ?_
  refine cfq rfl rfl (fun _ _ _=>rfl) ?_
  refine cfp rfl [] [(4,_)] rfl ⟨rfl,trivial⟩ (fun _ _ _=>rfl) trivial ?_
  obtain ⟨v1,hv1,h⟩:=bI h
  refine cf1 (d:=13) (v:=wP v1) rfl [(10,[],_),(12,[],_)] [] ⟨rfl,rfl,trivial⟩ trivial (fun fr X O hf=>?_) ?_
  ·refine aP (hsub:=sbF rfl hf) Tryz.call233 (LD hv1) rfl ?_
   exact aW rfl
  refine cfq rfl rfl (fun _ _ _=>rfl) ?_
  obtain ⟨v2,hv2,h⟩:=bI h
  refine cf1 (d:=15) (v:=zI v2) rfl [(13,[],_),(14,[],_)] [] ⟨rfl,rfl,trivial⟩ trivial (fun fr X O hf=>?_) ?_
  ·refine rd (Q3 (f:=zI) (fun _=>⟨rfl,rfl,rfl⟩) hv2) ?_
   exact aW rfl
  refine cfp rfl [] [(4,_)] rfl ⟨rfl,trivial⟩ (fun _ _ _=>rfl) trivial ?_
  refine cfq rfl rfl (fun _ _ _=>rfl) ?_
  obtain ⟨v3,hv3,h⟩:=bI h
  refine cf1 (d:=18) (v:=zI v3) rfl [(16,[],_),(17,[],_)] [] ⟨rfl,rfl,trivial⟩ trivial (fun fr X O hf=>?_) ?_
  ·refine aP (hsub:=sbF rfl hf) Tryz.call234 (I9 hv3) rfl ?_
   exact aW rfl
  refine cfq rfl rfl (fun _ _ _=>rfl) ?_
  refine cfq rfl rfl (fun _ _ _=>rfl) ?_
  refine cfp rfl [] [(4,_)] rfl ⟨rfl,trivial⟩ (fun _ _ _=>rfl) trivial ?_
  refine cfq rfl rfl (fun _ _ _=>rfl) ?_
  refine cfa rfl (fun _ _ _=>rfl) rfl rfl ?_
  refine b6.nil ⟨by kernel_rfl,?_⟩
  refine rn 1 rfl (aC.done [6,7] [6,7] rfl (aB (srd 3 rfl [6,7,25] [6,7] rfl (aD h rfl (fun h=>?_) (fun h=>?_)))))
  ·cases h
  refine aE (srd 2 rfl [6] [6] rfl ?_)
  cases h;exact aJ ⟨.inl rfl,rfl,rfl⟩
def mG (x1:List Skey):Option (List Skey):=
  some x1
def vE (x2:Int) (q2:Int→(List Skey)→Option (List Skey)) (x4:List Skey):Option (List Skey):=
  q2 (w64 (x2+1)) x4
def jO (a0:Int) (a1:List SEntry) (a2:SSample) (k290:(List Skey)→Option (List Skey)):Nat→Int→(List Skey)→Option (List Skey)
  |0,_,_=>none
  |m2+1,x2,x3=>
   bif decide (x2<(a1.length:Int)) then
     bO (idx a1 x2) fun v5=>
     bO (CL v5) fun v6=>
     bif v6 then
       bO (yZ a0 v5.pod a2) fun v7=>
       bO (bM x3 [v7]) fun v8=>
       vE x2 (jO a0 a1 a2 k290 m2) v8
     else none
   else
     k290 x3
def A4 (a0:Int) (a1:List SEntry) (a2:SSample):Option (List Skey):=
  jO a0 a1 a2 mG aT 0 ([]:List Skey)
theorem K9 {a0:Int} {a1:List SEntry} {a2:SSample} {r:List Skey} (h:A4 a0 a1 a2=some r):aI Tryz.prog 124 [zI a0,.list false 83 (a1.map aN),r8 a2] (.list true 232 (r.map pT)):=by
  refine aK Tryz.func124 rfl rfl rfl rfl fun base=>?_
  unfold A4 at h
  refine srd 2 rfl [0,1,5] [5] rfl (srd 1 rfl [0,1,5,7] [5] rfl (aS (fun e=>∃x1,e=⟨[(7,[],.list true 232 (x1.map pT))],[],[],[],base⟩∧mG x1=some r) ?_ ?_))
  ·refine aB (aA (rh 3 [a1.length] [] rfl ⟨List.length_map ..,trivial⟩ (aC.done [0,5,7,10,11,12] [5] rfl (aF (aU (fun m2 e=>∃x2 x3,e=⟨[(0,[],zI a0),(5,[],.lptr 5 0),(7,[],.list true 232 (x3.map pT)),(10,[],.list false 83 (a1.map aN)),(11,[],zI (a1.length:Int)),(12,[],zI x2)],[],[(5,[zI a2.time,zI a2.avail.a,zI a2.avail.b,zI a2.avail.c,.list false 280 (a2.use.map bC)])],[],base⟩∧jO a0 a1 a2 (mG) m2 x2 x3=some r) aT ⟨_,_,rfl,h⟩ ?_ ?_)))))
   ·rintro m2 _ ⟨x2,x3,rfl,h⟩
    rw [jO] at h
    refine srd 1 rfl [0,5,7,10,11,12,13] [5] rfl (aB (aD h rfl (fun h=>?_) (fun h=>?_)))
    ·refine aE (aS (fun e=>∃x4,e=⟨[(0,[],zI a0),(5,[],.lptr 5 0),(7,[],.list true 232 (x4.map pT)),(10,[],.list false 83 (a1.map aN)),(11,[],zI (a1.length:Int)),(12,[],zI x2)],[],[(5,[zI a2.time,zI a2.avail.a,zI a2.avail.b,zI a2.avail.c,.list false 280 (a2.use.map bC)])],[],base⟩∧vE x2 (jO a0 a1 a2 (mG) m2) x4=some r) ?_ ?_)
     ·refine aF (aB (aA ?_))
      obtain ⟨v5,hv5,h⟩:=bI h
      refine rd (rIx hv5) ?_
      refine rn 3 rfl (aC.done [0,5,7,9,10,11,12] [5,9] rfl (aB (aA (rn 1 rfl ?_))))
      obtain ⟨v6,hv6,h⟩:=bI h
      refine aP Tryz.call181 (MN hv6) rfl ?_
      refine aC.done [0,5,7,9,10,11,12,17] [5,9] rfl (aD h rfl (fun h=>?_) (fun h=>?_))
      ·refine aA (rh 5 [] [18] rfl trivial ?_)
       obtain ⟨v7,hv7,h⟩:=bI h
       refine aP Tryz.call182 (JA hv7) rfl ?_
       obtain ⟨v8,hv8,h⟩:=bI h
       refine rn 1 rfl (iG (f:=pT) hv8 ?_)
       refine rh 1 [] [7] rfl trivial (aC.done [0,5,7,10,11,12] [5] rfl ?_)
       exact ⟨_,rfl,h⟩
      cases h
     rintro _ ⟨x4,rfl,h⟩
     unfold vE at h
     refine aA (rn 2 rfl (aC.done [0,5,7,10,11,12] [5] rfl ?_))
     exact ⟨_,_,rfl,h⟩
    refine aR [7] [] rfl (CWp.exit ?_)
    exact ⟨_,rfl,h⟩
   rintro _ ⟨_,_,_,h⟩
   rw [jO] at h;cases h
  rintro _ ⟨x1,rfl,h⟩
  unfold mG at h
  refine aB (aA (rh 2 [] [27,6] rfl trivial (aC.done [6] [] rfl ?_)))
  cases h;exact aJ ⟨.inl rfl,rfl,rfl⟩
def gM (v1:Skey):Option Skey:=
  some v1
def gN (a0:List Skey) (k290:Option Skey):Nat→Option Skey
  |0=>none
  |_m2+1=>
   bif decide (1<(a0.length:Int)) then none else
   k290
def nO (a0:List Skey) (_a1:Skey→Skey→Option Int):Option Skey:=
  bif decide ((a0.length:Int)<1) then none else
  bO (idx a0 0) fun v1=>
  gN a0 (gM v1) aT
theorem BA {a0:List Skey} {a1:Skey→Skey→Option Int} {r:Skey} {ins:Ob} {f1:Nat} {c1:List AV} (_hp1:Fn2 Tryz.prog f1 c1 ins pT pT zI a1) (h:nO a0 a1=some r):aO Tryz.prog 125 [.list false 232 (a0.map pT),.fn f1 c1] ins (fun v outs=>v=pT r∧outs=ins):=by
  refine cL Tryz.func125 rfl rfl rfl rfl fun base=>?_
  unfold nO at h
  refine srd 1 rfl [0,1,4] [4] rfl (aB (aB (aA (rh 3 [a0.length] [] rfl ⟨List.length_map ..,trivial⟩ (aC.done [0,1,4,9] [4] rfl (aD h rfl (fun h=>?_) (fun h=>?_)))))))
  ·cases h
  refine aE (aB (aA ?_))
  obtain ⟨v1,hv1,h⟩:=bI h
  refine rn 1 rfl (rd (rIx hv1) ?_)
  refine rn 3 rfl (aC.done [0,1,4,5] [4,5] rfl (aS (fun e=>e=⟨[(4,[],.lptr 4 0),(5,[],.lptr 5 0)],[],[(4,[zI 0,zI 0,zI 0,.str ([]:List UInt8)]),(5,[zI v1.within,zI v1.prio,zI v1.excess,.str v1.id])],ins,base⟩∧gM v1=some r) ?_ ?_))
  ·refine srd 1 rfl [0,1,4,5,6] [4,5] rfl (aF (aU (fun m2 e=>e=⟨[(0,[],.list false 232 (a0.map pT)),(1,[],.fn f1 c1),(4,[],.lptr 4 0),(5,[],.lptr 5 0),(6,[],zI 1)],[],[(4,[zI 0,zI 0,zI 0,.str ([]:List UInt8)]),(5,[zI v1.within,zI v1.prio,zI v1.excess,.str v1.id])],ins,base⟩∧gN a0 (gM v1) m2=some r) aT ⟨rfl,h⟩ ?_ ?_))
   ·rintro m2 _ ⟨rfl,h⟩
    rw [gN] at h
    refine aB (aB (aA (rh 4 [a0.length] [] rfl ⟨List.length_map ..,trivial⟩ (aC.done [0,1,4,5,6,17] [4,5] rfl (aD h rfl (fun h=>?_) (fun h=>?_))))))
    ·cases h
    refine aR [4,5] [4,5] rfl (CWp.exit ?_)
    exact ⟨rfl,h⟩
   rintro _ ⟨_,h⟩
   rw [gN] at h;cases h
  rintro _ ⟨rfl,h⟩
  unfold gM at h
  refine srd 2 rfl [4] [4] rfl (aJ ?_)
  cases h
  exact ⟨.inl rfl,_,rfl,rfl,rfl,rfl⟩
def vD (a0:Skey) (a1:Skey):Option Int:=
  bO (eV a0.within a1.within) fun v1=>
  bO (eV a0.prio a1.prio) fun v2=>
  bO (eV a1.excess a0.excess) fun v3=>
  bO (CF a0.id a1.id) fun v4=>
  bO (l9 [v1,v2,v3,v4]) fun v5=>
  some v5
theorem F8 {a0:Skey} {a1:Skey} {r:Int} (h:vD a0 a1=some r):aI Tryz.prog 126 [pT a0,pT a1] (zI r):=by
  refine aK Tryz.func126 rfl rfl rfl rfl fun base=>?_
  unfold vD at h
  refine srd 3 rfl [2,3] [2,3] rfl (aB (CWp.ahead 20 (by kernel_rfl) ?_))
  refine pn 4 rfl ?_
  obtain ⟨v1,hv1,h⟩:=bI h
  refine kC Tryz.call172 (gP hv1) rfl ?_
  refine pn 4 rfl ?_
  obtain ⟨v2,hv2,h⟩:=bI h
  refine kC Tryz.call172 (gP hv2) rfl ?_
  refine pn 4 rfl ?_
  obtain ⟨v3,hv3,h⟩:=bI h
  refine kC Tryz.call172 (gP hv3) rfl ?_
  refine pn 4 rfl ?_
  obtain ⟨v4,hv4,h⟩:=bI h
  refine kC Tryz.call143 (wN hv4) rfl ?_
  refine b5.nil (⟨⟨[(25,[],.list true 3 ([v1,v2,v3,v4].map zI))],[],[],[],base⟩,?_,rfl,?_⟩)
  ·exact rn 1 rfl (aC.done [25] [] rfl (rfl))
  obtain ⟨v5,hv5,h⟩:=bI h
  refine aP Tryz.call171 (pY hv5) rfl ?_
  refine rn 1 rfl (aC.done [4] [] rfl ?_)
  cases h;exact aJ ⟨.inl rfl,rfl,rfl⟩
def pB (a0:Int) (a1:List SEntry) (a2:SSample):Option ((List UInt8)×Bool):=
  bO (A4 a0 a1 a2) fun v1=>
  bif (v1.length:Int)==0 then none else
  bO (nO v1 vD) fun v2=>
  some (v2.id,true)
theorem vC {a0:Int} {a1:List SEntry} {a2:SSample} {r:(List UInt8)×Bool} (h:pB a0 a1 a2=some r):aI Tryz.prog 71 [zI a0,.list false 83 (a1.map aN),r8 a2] (.tuple [.str r.1,zB r.2]):=by
  refine aK Tryz.func71 rfl rfl rfl rfl fun base=>?_
  unfold pB at h
  refine srd 3 rfl [0,1,5] [5] rfl (aB (aA (rn 3 rfl ?_)))
  obtain ⟨v1,hv1,h⟩:=bI h
  refine aP Tryz.call124 (K9 hv1) rfl ?_
  refine rh 1 [] [8] rfl trivial (aC.done [8] [] rfl (aB (aB (aA (rh 3 [v1.length] [] rfl ⟨List.length_map ..,trivial⟩ (aC.done [8,15] [] rfl (aD h rfl (fun h=>?_) (fun h=>?_))))))))
  ·cases h
  refine aE (aB (aA (rn 1 rfl ?_)))
  obtain ⟨v2,hv2,h⟩:=bI h
  refine bR [] Tryz.call125 (BA ⟨Tryz.call126,fun _ _ _ hb=>F8 hb⟩ hv2) rfl rfl ?_
  refine rn 3 rfl (aC.done [6,7] [] rfl ?_)
  cases h;exact aJ ⟨.inl rfl,rfl,rfl⟩
def mP (a0:SState) (a1:List UInt8):Option (Int×Bool):=
  bO (tX a0 a1) fun v1=>
  bif !v1.2 then
    some (0,false)
  else
    some (v1.1,true)
theorem qF {a0:SState} {a1:List UInt8} {r:Int×Bool} (h:mP a0 a1=some r):aI Tryz.prog 40 [e9 a0,.str a1] (.tuple [zI r.1,zB r.2]):=by
  refine aK Tryz.func40 rfl rfl rfl rfl fun base=>?_
  unfold mP at h
  refine srd 3 rfl [1,2] [2] rfl (aB (aA (rn 2 rfl ?_)))
  obtain ⟨v1,hv1,h⟩:=bI h
  refine aP Tryz.call84 (y6 hv1) rfl ?_
  refine rn 5 rfl (aC.done [6,7] [] rfl (aB (srd 2 rfl [6,15] [] rfl (aD h rfl (fun h=>?_) (fun h=>?_)))))
  ·refine srd 2 rfl [4,5] [] rfl ?_
   cases h;exact aJ ⟨.inl rfl,rfl,rfl⟩
  refine aE (srd 3 rfl [4,5] [] rfl ?_)
  cases h;exact aJ ⟨.inl rfl,rfl,rfl⟩
def jB (a0:SAgent) (_a0_0:SWorld) (_a0_1:SStore) (_a0_1_0:SDisk) (_a0_1_0_0:List ((List UInt8)×(List UInt8))) (a1:Int):Option SAgent:=
  bO (idx a0.state.pods a1) fun v1=>
  bO (pC a0.state (⟨v1.pod,3⟩:SEntry)) fun v2=>
  some (⟨a0.c,v2,a0.since,a0.calm,a0.sample,a0.fresh,a0.fuse,a0.dead⟩:SAgent)
theorem oC {a0:SAgent} {a0_0:SWorld} {a0_1:SStore} {a0_1_0:SDisk} {a0_1_0_0:List ((List UInt8)×(List UInt8))} {a1:Int} {i0 i0_0 i0_1 i0_1_0 i0_1_0_0:Nat} {i0_0m2:Nat} {pi0_0m2 si0_0m2:Slk 4} {r:SAgent} (h:jB a0 a0_0 a0_1 a0_1_0 a0_1_0_0 a1=some r):aO Tryz.prog 41 [.gptr i0 0,zI a1] [(i0,[zI a0.c.capacity.a,zI a0.c.capacity.b,zI a0.c.capacity.c,zI a0.c.allocatable.a,zI a0.c.allocatable.b,zI a0.c.allocatable.c,.list false 102 (a0.c.thresholds.map aL),zI a0.c.period,zI a0.c.retries,zI a0.c.maxAge,zI a0.c.dead,.gptr i0_0 0,.gptr i0_1 0,zI a0.state.round,.list false 83 (a0.state.pods.map aN),zB a0.state.on.a,zB a0.state.on.b,zB a0.state.on.c,.list false 3 (a0.since.map zI),zI a0.calm.a,zI a0.calm.b,zI a0.calm.c,zI a0.sample.time,zI a0.sample.avail.a,zI a0.sample.avail.b,zI a0.sample.avail.c,.list false 280 (a0.sample.use.map bC),zB a0.fresh,zI a0.fuse,zB a0.dead]),(i0_0,[.list false 4 (a0_0.queue.l.map zB),zI a0_0.retries,hdM i0_0m2 pi0_0m2 a0_0.boxes si0_0m2,.list false 150 (a0_0.images.map aQ)]),(i0_0m2,lob pi0_0m2 aG a0_0.boxes si0_0m2),(i0_1,[.gptr i0_1_0 0,zI a0_1.version]),(i0_1_0,[.gmap i0_1_0_0,.list true 69 (a0_1_0.open_.map bG)]),(i0_1_0_0,aV keS (fun (x:List UInt8)=> .list false 5 (x.map zU8)) a0_1_0_0)] (fun v outs=>v= .tuple []∧outs=[(i0,[zI r.c.capacity.a,zI r.c.capacity.b,zI r.c.capacity.c,zI r.c.allocatable.a,zI r.c.allocatable.b,zI r.c.allocatable.c,.list false 102 (r.c.thresholds.map aL),zI r.c.period,zI r.c.retries,zI r.c.maxAge,zI r.c.dead,.gptr i0_0 0,.gptr i0_1 0,zI r.state.round,.list false 83 (r.state.pods.map aN),zB r.state.on.a,zB r.state.on.b,zB r.state.on.c,.list false 3 (r.since.map zI),zI r.calm.a,zI r.calm.b,zI r.calm.c,zI r.sample.time,zI r.sample.avail.a,zI r.sample.avail.b,zI r.sample.avail.c,.list false 280 (r.sample.use.map bC),zB r.fresh,zI r.fuse,zB r.dead]),(i0_0,[.list false 4 (a0_0.queue.l.map zB),zI a0_0.retries,hdM i0_0m2 pi0_0m2 a0_0.boxes si0_0m2,.list false 150 (a0_0.images.map aQ)]),(i0_0m2,lob pi0_0m2 aG a0_0.boxes si0_0m2),(i0_1,[.gptr i0_1_0 0,zI a0_1.version]),(i0_1_0,[.gmap i0_1_0_0,.list true 69 (a0_1_0.open_.map bG)]),(i0_1_0_0,aV keS (fun (x:List UInt8)=> .list false 5 (x.map zU8)) a0_1_0_0)]):=by
  refine a8 Tryz.func41 rfl rfl rfl rfl fun base=>?_
  unfold jB at h
  refine aB (aA ?_)
  obtain ⟨v1,hv1,h⟩:=bI h
  refine rh 6 [0] [] rfl ⟨rfl,trivial⟩ (rd (rIx hv1) ?_)
  refine rn 3 rfl (aC.done [0,4] [4] rfl (srd 2 rfl [0,4] [4] rfl (b8 7 (by kernel_rfl) ?_)))
  refine cfq rfl rfl (fun _ _ _=>rfl) ?_
  refine cfq rfl rfl (fun _ _ _=>rfl) ?_
  refine cfq rfl rfl (fun _ _ _=>rfl) ?_
  refine cfq rfl rfl (fun _ _ _=>rfl) ?_
  refine b9 rfl [0] rfl (fun _ _=>rfl) ⟨rfl,trivial⟩ ?_
  refine cfp rfl [] [(4,_)] rfl ⟨rfl,trivial⟩ (fun _ _ _=>rfl) trivial ?_
  obtain ⟨v2,hv2,h⟩:=bI h
  refine cf1 (d:=20) (v:=e9 v2) rfl [(18,[],_),(19,[],_)] [] ⟨rfl,rfl,trivial⟩ trivial (fun fr X O hf=>?_) ?_
  ·refine aP (hsub:=sbF rfl hf) Tryz.call33 (vL hv2) rfl ?_
   exact aW rfl
  refine b6.nil ⟨by kernel_rfl,?_⟩
  refine rh 3 [0] [] rfl ⟨rfl,trivial⟩ (aC.done [] [] rfl ?_)
  cases h
  exact ⟨.inr rfl,_,[0,0,0,0,0,0],_,_,rfl,rfl,rfl,rfl,rfl⟩
def lC (a0:Sround) (a0_0:SAgent) (x3:Int):Option (Sround×SAgent):=
  bif decide ((w64 (x3+1))<3) then none else
  some (a0,a0_0)
def lB (a0:Sround) (a0_0:SAgent) (a0_0_0:SWorld) (a0_0_1:SStore) (a0_0_1_0:SDisk) (a0_0_1_0_0:List ((List UInt8)×(List UInt8))) (x2:Int):Option (Sround×SAgent):=
  bif decide ((w64 (x2+1))<3) then
    bO (idx [a0.press.a,a0.press.b,a0.press.c] (w64 (x2+1))) fun v4=>
    bif !v4 then
      lC a0 a0_0 (w64 (x2+1))
    else
      bO (pB (w64 (x2+1)) a0_0.state.pods a0_0.sample) fun v5=>
      bif v5.2 then
        bO (mP a0_0.state v5.1) fun v6=>
        bO (jB a0_0 a0_0_0 a0_0_1 a0_0_1_0 a0_0_1_0_0 v6.1) fun v7=>
        bO (bM a0.events [(⟨5,v5.1,w64 (x2+1),0⟩:SEvent)]) fun v8=>
        some ((⟨v8,a0.holds,a0.press⟩:Sround),v7)
      else none
  else
    some (a0,a0_0)
def lA (a0:Sround) (a0_0:SAgent) (a0_0_0:SWorld) (a0_0_1:SStore) (a0_0_1_0:SDisk) (a0_0_1_0_0:List ((List UInt8)×(List UInt8))):Option (Sround×SAgent):=
  bif !a0.press.b then
    lB a0 a0_0 a0_0_0 a0_0_1 a0_0_1_0 a0_0_1_0_0 (w64 ((0:Int)+1))
  else
    bO (pB (w64 ((0:Int)+1)) a0_0.state.pods a0_0.sample) fun v10=>
    bif v10.2 then
      bO (mP a0_0.state v10.1) fun v11=>
      bO (jB a0_0 a0_0_0 a0_0_1 a0_0_1_0 a0_0_1_0_0 v11.1) fun v12=>
      bO (bM a0.events [(⟨5,v10.1,w64 ((0:Int)+1),0⟩:SEvent)]) fun v13=>
      some ((⟨v13,a0.holds,a0.press⟩:Sround),v12)
    else none
def oD (a0:Sround) (a0_0:SAgent) (a0_0_0:SWorld) (a0_0_1:SStore) (a0_0_1_0:SDisk) (a0_0_1_0_0:List ((List UInt8)×(List UInt8))):Option (Sround×SAgent):=
  bO (eZ a0_0.state.pods k9) fun v1=>
  bif v1 then none else
  bif !a0.press.a then
    lA a0 a0_0 a0_0_0 a0_0_1 a0_0_1_0 a0_0_1_0_0
  else
    bO (pB 0 a0_0.state.pods a0_0.sample) fun v15=>
    bif v15.2 then
      bO (mP a0_0.state v15.1) fun v16=>
      bO (jB a0_0 a0_0_0 a0_0_1 a0_0_1_0 a0_0_1_0_0 v16.1) fun v17=>
      bO (bM a0.events [(⟨5,v15.1,0,0⟩:SEvent)]) fun v18=>
      some ((⟨v18,a0.holds,a0.press⟩:Sround),v17)
    else none
theorem BQ {a0:Sround} {a0_0:SAgent} {a0_0_0:SWorld} {a0_0_1:SStore} {a0_0_1_0:SDisk} {a0_0_1_0_0:List ((List UInt8)×(List UInt8))} {i0 i0_0 i0_0_0 i0_0_1 i0_0_1_0 i0_0_1_0_0:Nat} {i0m1:Nat} {pi0m1 si0m1:Slk 4} {i0_0_0m2:Nat} {pi0_0_0m2 si0_0_0m2:Slk 4} {r:Sround×SAgent} (h:oD a0 a0_0 a0_0_0 a0_0_1 a0_0_1_0 a0_0_1_0_0=some r):aO Tryz.prog 26 [.gptr i0 0] [(i0,[.gptr i0_0 0,hdM i0m1 pi0m1 a0.events si0m1,.list false 4 (a0.holds.map zB),zB a0.press.a,zB a0.press.b,zB a0.press.c]),(i0m1,lob pi0m1 bB a0.events si0m1),(i0_0,[zI a0_0.c.capacity.a,zI a0_0.c.capacity.b,zI a0_0.c.capacity.c,zI a0_0.c.allocatable.a,zI a0_0.c.allocatable.b,zI a0_0.c.allocatable.c,.list false 102 (a0_0.c.thresholds.map aL),zI a0_0.c.period,zI a0_0.c.retries,zI a0_0.c.maxAge,zI a0_0.c.dead,.gptr i0_0_0 0,.gptr i0_0_1 0,zI a0_0.state.round,.list false 83 (a0_0.state.pods.map aN),zB a0_0.state.on.a,zB a0_0.state.on.b,zB a0_0.state.on.c,.list false 3 (a0_0.since.map zI),zI a0_0.calm.a,zI a0_0.calm.b,zI a0_0.calm.c,zI a0_0.sample.time,zI a0_0.sample.avail.a,zI a0_0.sample.avail.b,zI a0_0.sample.avail.c,.list false 280 (a0_0.sample.use.map bC),zB a0_0.fresh,zI a0_0.fuse,zB a0_0.dead]),(i0_0_0,[.list false 4 (a0_0_0.queue.l.map zB),zI a0_0_0.retries,hdM i0_0_0m2 pi0_0_0m2 a0_0_0.boxes si0_0_0m2,.list false 150 (a0_0_0.images.map aQ)]),(i0_0_0m2,lob pi0_0_0m2 aG a0_0_0.boxes si0_0_0m2),(i0_0_1,[.gptr i0_0_1_0 0,zI a0_0_1.version]),(i0_0_1_0,[.gmap i0_0_1_0_0,.list true 69 (a0_0_1_0.open_.map bG)]),(i0_0_1_0_0,aV keS (fun (x:List UInt8)=> .list false 5 (x.map zU8)) a0_0_1_0_0)] (fun v outs=>∃(i0m1_:Nat) (pi0m1_ si0m1_:Slk 4),v= .tuple []∧outs=[(i0,[.gptr i0_0 0,hdM i0m1_ pi0m1_ r.1.events si0m1_,.list false 4 (r.1.holds.map zB),zB r.1.press.a,zB r.1.press.b,zB r.1.press.c]),(i0m1_,lob pi0m1_ bB r.1.events si0m1_),(i0_0,[zI r.2.c.capacity.a,zI r.2.c.capacity.b,zI r.2.c.capacity.c,zI r.2.c.allocatable.a,zI r.2.c.allocatable.b,zI r.2.c.allocatable.c,.list false 102 (r.2.c.thresholds.map aL),zI r.2.c.period,zI r.2.c.retries,zI r.2.c.maxAge,zI r.2.c.dead,.gptr i0_0_0 0,.gptr i0_0_1 0,zI r.2.state.round,.list false 83 (r.2.state.pods.map aN),zB r.2.state.on.a,zB r.2.state.on.b,zB r.2.state.on.c,.list false 3 (r.2.since.map zI),zI r.2.calm.a,zI r.2.calm.b,zI r.2.calm.c,zI r.2.sample.time,zI r.2.sample.avail.a,zI r.2.sample.avail.b,zI r.2.sample.avail.c,.list false 280 (r.2.sample.use.map bC),zB r.2.fresh,zI r.2.fuse,zB r.2.dead]),(i0_0_0,[.list false 4 (a0_0_0.queue.l.map zB),zI a0_0_0.retries,hdM i0_0_0m2 pi0_0_0m2 a0_0_0.boxes si0_0_0m2,.list false 150 (a0_0_0.images.map aQ)]),(i0_0_0m2,lob pi0_0_0m2 aG a0_0_0.boxes si0_0_0m2),(i0_0_1,[.gptr i0_0_1_0 0,zI a0_0_1.version]),(i0_0_1_0,[.gmap i0_0_1_0_0,.list true 69 (a0_0_1_0.open_.map bG)]),(i0_0_1_0_0,aV keS (fun (x:List UInt8)=> .list false 5 (x.map zU8)) a0_0_1_0_0)]):=by
  refine a8 Tryz.func26 rfl rfl rfl rfl fun base=>?_
  unfold oD at h
  refine CWp.scope (aB (aB (aA (rh 8 [0,2] [] rfl ⟨rfl,rfl,trivial⟩ ?_))))
  obtain ⟨v1,hv1,h⟩:=bI h
  refine bR [] Tryz.call69 (lI ⟨Tryz.call70,fun _ _ hb=>yJ hb⟩ hv1) rfl rfl ?_
  refine aC.done [0,16] [] rfl (aD h rfl (fun h=>?_) (fun h=>?_))
  ·cases h
  refine aE (aB (CWp.label (aB (aA (rh 5 [0] [] rfl ⟨rfl,trivial⟩ (aC.done [0,20,21] [] rfl (aF (d7 4 (crd (srd 1 rfl [0,20,21,22] [] rfl (aB (bD rfl (by decide) ?_))))))))))))
  refine aE (aS (fun e=>e=⟨[(0,[],.gptr i0 0),(20,[],.agg [zB a0.press.a,zB a0.press.b,zB a0.press.c]),(21,[],zI 0)],[],[],[(i0,[.gptr i0_0 0,hdM i0m1 pi0m1 a0.events si0m1,.list false 4 (a0.holds.map zB),zB a0.press.a,zB a0.press.b,zB a0.press.c]),(i0m1,lob pi0m1 bB a0.events si0m1),(i0_0,[zI a0_0.c.capacity.a,zI a0_0.c.capacity.b,zI a0_0.c.capacity.c,zI a0_0.c.allocatable.a,zI a0_0.c.allocatable.b,zI a0_0.c.allocatable.c,.list false 102 (a0_0.c.thresholds.map aL),zI a0_0.c.period,zI a0_0.c.retries,zI a0_0.c.maxAge,zI a0_0.c.dead,.gptr i0_0_0 0,.gptr i0_0_1 0,zI a0_0.state.round,.list false 83 (a0_0.state.pods.map aN),zB a0_0.state.on.a,zB a0_0.state.on.b,zB a0_0.state.on.c,.list false 3 (a0_0.since.map zI),zI a0_0.calm.a,zI a0_0.calm.b,zI a0_0.calm.c,zI a0_0.sample.time,zI a0_0.sample.avail.a,zI a0_0.sample.avail.b,zI a0_0.sample.avail.c,.list false 280 (a0_0.sample.use.map bC),zB a0_0.fresh,zI a0_0.fuse,zB a0_0.dead]),(i0_0_0,[.list false 4 (a0_0_0.queue.l.map zB),zI a0_0_0.retries,hdM i0_0_0m2 pi0_0_0m2 a0_0_0.boxes si0_0_0m2,.list false 150 (a0_0_0.images.map aQ)]),(i0_0_0m2,lob pi0_0_0m2 aG a0_0_0.boxes si0_0_0m2),(i0_0_1,[.gptr i0_0_1_0 0,zI a0_0_1.version]),(i0_0_1_0,[.gmap i0_0_1_0_0,.list true 69 (a0_0_1_0.open_.map bG)]),(i0_0_1_0_0,aV keS (fun (x:List UInt8)=> .list false 5 (x.map zU8)) a0_0_1_0_0)],base⟩∧lA a0 a0_0 a0_0_0 a0_0_1 a0_0_1_0 a0_0_1_0_0=some r) ?_ ?_)
  ·refine aF (srd 4 rfl [0,2,3,20,21] [] rfl (aB (srd 2 rfl [0,2,20,21,26] [] rfl (aD h rfl (fun h=>?_) (fun h=>?_)))))
   ·refine aR [0,20,21] [] rfl (CWp.exit ?_)
    exact ⟨rfl,h⟩
   refine aE (aB (CWp.drawn 22 (by kernel_rfl) ?_))
   refine ph 16 [0,2,0,2] rfl ⟨rfl,rfl,rfl,rfl,trivial⟩ ?_
   obtain ⟨v15,hv15,h⟩:=bI h
   refine kC Tryz.call71 (vC hv15) rfl ?_
   refine pn 5 rfl (b5.nil (aC.done [0,2,4,5,20,21] [] rfl (srd 1 rfl [0,2,4,20,21,47] [] rfl (aD h rfl (fun h=>?_) (fun h=>?_)))))
   ·refine aB (aA (rh 8 [0,2] [] rfl ⟨rfl,rfl,trivial⟩ ?_))
    obtain ⟨v16,hv16,h⟩:=bI h
    refine aP Tryz.call40 (qF hv16) rfl ?_
    refine rn 5 rfl (aC.done [0,2,4,6] [] rfl (aB (aA (rh 5 [0] [] rfl ⟨rfl,trivial⟩ ?_))))
    obtain ⟨v17,hv17,h⟩:=bI h
    refine bR [2,2,2,2,2,2] Tryz.call41 (oC hv17) rfl rfl ?_
    refine aC.objs [6,6,0,0,0,0,0,0] rfl ?_
    refine aC.done [0,2,4] [] rfl (aB (aA ?_))
    obtain ⟨v18,hv18,h⟩:=bI h
    refine rh 9 [0] [] rfl ⟨rfl,trivial⟩ (pS (f:=bB) 1 (fun _=>⟨rfl,rfl,rfl⟩) hv18 ?_)
    rintro m19 pm19 sm19
    refine rh 3 [0] [] rfl ⟨rfl,trivial⟩ (aC.done [] [] rfl (CWp.exit ?_))
    cases h
    exact ⟨.inr rfl,_,[0,0,0,0,0,0,0,0],_,_,rfl,rfl,rfl,m19,pm19,sm19,rfl,rfl⟩
   cases h
  rintro _ ⟨rfl,h⟩
  unfold lA at h
  refine aA (rn 2 rfl (aC.done [0,20,21] [] rfl (crd (srd 1 rfl [0,20,21,22] [] rfl (aB (bD rfl (by decide) ?_))))))
  refine aE (aS (fun e=>∃x2,e=⟨[(0,[],.gptr i0 0),(20,[],.agg [zB a0.press.a,zB a0.press.b,zB a0.press.c]),(21,[],zI x2)],[],[],[(i0,[.gptr i0_0 0,hdM i0m1 pi0m1 a0.events si0m1,.list false 4 (a0.holds.map zB),zB a0.press.a,zB a0.press.b,zB a0.press.c]),(i0m1,lob pi0m1 bB a0.events si0m1),(i0_0,[zI a0_0.c.capacity.a,zI a0_0.c.capacity.b,zI a0_0.c.capacity.c,zI a0_0.c.allocatable.a,zI a0_0.c.allocatable.b,zI a0_0.c.allocatable.c,.list false 102 (a0_0.c.thresholds.map aL),zI a0_0.c.period,zI a0_0.c.retries,zI a0_0.c.maxAge,zI a0_0.c.dead,.gptr i0_0_0 0,.gptr i0_0_1 0,zI a0_0.state.round,.list false 83 (a0_0.state.pods.map aN),zB a0_0.state.on.a,zB a0_0.state.on.b,zB a0_0.state.on.c,.list false 3 (a0_0.since.map zI),zI a0_0.calm.a,zI a0_0.calm.b,zI a0_0.calm.c,zI a0_0.sample.time,zI a0_0.sample.avail.a,zI a0_0.sample.avail.b,zI a0_0.sample.avail.c,.list false 280 (a0_0.sample.use.map bC),zB a0_0.fresh,zI a0_0.fuse,zB a0_0.dead]),(i0_0_0,[.list false 4 (a0_0_0.queue.l.map zB),zI a0_0_0.retries,hdM i0_0_0m2 pi0_0_0m2 a0_0_0.boxes si0_0_0m2,.list false 150 (a0_0_0.images.map aQ)]),(i0_0_0m2,lob pi0_0_0m2 aG a0_0_0.boxes si0_0_0m2),(i0_0_1,[.gptr i0_0_1_0 0,zI a0_0_1.version]),(i0_0_1_0,[.gmap i0_0_1_0_0,.list true 69 (a0_0_1_0.open_.map bG)]),(i0_0_1_0_0,aV keS (fun (x:List UInt8)=> .list false 5 (x.map zU8)) a0_0_1_0_0)],base⟩∧lB a0 a0_0 a0_0_0 a0_0_1 a0_0_1_0 a0_0_1_0_0 x2=some r) ?_ ?_)
  ·refine aF (srd 4 rfl [0,2,3,20,21] [] rfl (aB (srd 2 rfl [0,2,20,21,26] [] rfl (aD h rfl (fun h=>?_) (fun h=>?_)))))
   ·refine aR [0,20,21] [] rfl (CWp.exit ?_)
    exact ⟨_,rfl,h⟩
   refine aE (aB (CWp.drawn 22 (by kernel_rfl) ?_))
   refine ph 16 [0,2,0,2] rfl ⟨rfl,rfl,rfl,rfl,trivial⟩ ?_
   obtain ⟨v10,hv10,h⟩:=bI h
   refine kC Tryz.call71 (vC hv10) rfl ?_
   refine pn 5 rfl (b5.nil (aC.done [0,2,4,5,20,21] [] rfl (srd 1 rfl [0,2,4,20,21,47] [] rfl (aD h rfl (fun h=>?_) (fun h=>?_)))))
   ·refine aB (aA (rh 8 [0,2] [] rfl ⟨rfl,rfl,trivial⟩ ?_))
    obtain ⟨v11,hv11,h⟩:=bI h
    refine aP Tryz.call40 (qF hv11) rfl ?_
    refine rn 5 rfl (aC.done [0,2,4,6] [] rfl (aB (aA (rh 5 [0] [] rfl ⟨rfl,trivial⟩ ?_))))
    obtain ⟨v12,hv12,h⟩:=bI h
    refine bR [2,2,2,2,2,2] Tryz.call41 (oC hv12) rfl rfl ?_
    refine aC.objs [6,6,0,0,0,0,0,0] rfl ?_
    refine aC.done [0,2,4] [] rfl (aB (aA ?_))
    obtain ⟨v13,hv13,h⟩:=bI h
    refine rh 9 [0] [] rfl ⟨rfl,trivial⟩ (pS (f:=bB) 1 (fun _=>⟨rfl,rfl,rfl⟩) hv13 ?_)
    rintro m14 pm14 sm14
    refine rh 3 [0] [] rfl ⟨rfl,trivial⟩ (aC.done [] [] rfl (CWp.exit ?_))
    cases h
    exact ⟨.inr rfl,_,[0,0,0,0,0,0,0,0],_,_,rfl,rfl,rfl,m14,pm14,sm14,rfl,rfl⟩
   cases h
  rintro _ ⟨x2,rfl,h⟩
  unfold lB at h
  refine aA (rn 2 rfl (aC.done [0,20,21] [] rfl (crd (srd 1 rfl [0,20,21,22] [] rfl (aB (aD h rfl (fun h=>?_) (fun h=>?_)))))))
  ·refine aE (aS (fun e=>∃x3,e=⟨[(0,[],.gptr i0 0),(20,[],.agg [zB a0.press.a,zB a0.press.b,zB a0.press.c]),(21,[],zI x3)],[],[],[(i0,[.gptr i0_0 0,hdM i0m1 pi0m1 a0.events si0m1,.list false 4 (a0.holds.map zB),zB a0.press.a,zB a0.press.b,zB a0.press.c]),(i0m1,lob pi0m1 bB a0.events si0m1),(i0_0,[zI a0_0.c.capacity.a,zI a0_0.c.capacity.b,zI a0_0.c.capacity.c,zI a0_0.c.allocatable.a,zI a0_0.c.allocatable.b,zI a0_0.c.allocatable.c,.list false 102 (a0_0.c.thresholds.map aL),zI a0_0.c.period,zI a0_0.c.retries,zI a0_0.c.maxAge,zI a0_0.c.dead,.gptr i0_0_0 0,.gptr i0_0_1 0,zI a0_0.state.round,.list false 83 (a0_0.state.pods.map aN),zB a0_0.state.on.a,zB a0_0.state.on.b,zB a0_0.state.on.c,.list false 3 (a0_0.since.map zI),zI a0_0.calm.a,zI a0_0.calm.b,zI a0_0.calm.c,zI a0_0.sample.time,zI a0_0.sample.avail.a,zI a0_0.sample.avail.b,zI a0_0.sample.avail.c,.list false 280 (a0_0.sample.use.map bC),zB a0_0.fresh,zI a0_0.fuse,zB a0_0.dead]),(i0_0_0,[.list false 4 (a0_0_0.queue.l.map zB),zI a0_0_0.retries,hdM i0_0_0m2 pi0_0_0m2 a0_0_0.boxes si0_0_0m2,.list false 150 (a0_0_0.images.map aQ)]),(i0_0_0m2,lob pi0_0_0m2 aG a0_0_0.boxes si0_0_0m2),(i0_0_1,[.gptr i0_0_1_0 0,zI a0_0_1.version]),(i0_0_1_0,[.gmap i0_0_1_0_0,.list true 69 (a0_0_1_0.open_.map bG)]),(i0_0_1_0_0,aV keS (fun (x:List UInt8)=> .list false 5 (x.map zU8)) a0_0_1_0_0)],base⟩∧lC a0 a0_0 x3=some r) ?_ ?_)
   ·refine aF (aB (aA ?_))
    obtain ⟨v4,hv4,h⟩:=bI h
    refine rn 1 rfl (rd (Q3 (f:=zB) (fun _=>⟨rfl,rfl,rfl⟩) hv4) ?_)
    refine rn 2 rfl (aC.done [0,2,3,20,21] [] rfl (aB (srd 2 rfl [0,2,20,21,26] [] rfl (aD h rfl (fun h=>?_) (fun h=>?_)))))
    ·refine aR [0,20,21] [] rfl (CWp.exit ?_)
     exact ⟨_,rfl,h⟩
    refine aE (aB (CWp.drawn 22 (by kernel_rfl) ?_))
    refine ph 16 [0,2,0,2] rfl ⟨rfl,rfl,rfl,rfl,trivial⟩ ?_
    obtain ⟨v5,hv5,h⟩:=bI h
    refine kC Tryz.call71 (vC hv5) rfl ?_
    refine pn 5 rfl (b5.nil (aC.done [0,2,4,5,20,21] [] rfl (srd 1 rfl [0,2,4,20,21,47] [] rfl (aD h rfl (fun h=>?_) (fun h=>?_)))))
    ·refine aB (aA (rh 8 [0,2] [] rfl ⟨rfl,rfl,trivial⟩ ?_))
     obtain ⟨v6,hv6,h⟩:=bI h
     refine aP Tryz.call40 (qF hv6) rfl ?_
     refine rn 5 rfl (aC.done [0,2,4,6] [] rfl (aB (aA (rh 5 [0] [] rfl ⟨rfl,trivial⟩ ?_))))
     obtain ⟨v7,hv7,h⟩:=bI h
     refine bR [2,2,2,2,2,2] Tryz.call41 (oC hv7) rfl rfl ?_
     refine aC.objs [6,6,0,0,0,0,0,0] rfl ?_
     refine aC.done [0,2,4] [] rfl (aB (aA ?_))
     obtain ⟨v8,hv8,h⟩:=bI h
     refine rh 9 [0] [] rfl ⟨rfl,trivial⟩ (pS (f:=bB) 1 (fun _=>⟨rfl,rfl,rfl⟩) hv8 ?_)
     rintro m9 pm9 sm9
     refine rh 3 [0] [] rfl ⟨rfl,trivial⟩ (aC.done [] [] rfl (CWp.exit ?_))
     cases h
     exact ⟨.inr rfl,_,[0,0,0,0,0,0,0,0],_,_,rfl,rfl,rfl,m9,pm9,sm9,rfl,rfl⟩
    cases h
   rintro _ ⟨x3,rfl,h⟩
   unfold lC at h
   refine aA (rn 2 rfl (aC.done [0,20,21] [] rfl (crd (srd 1 rfl [0,20,21,22] [] rfl (aB (aD h rfl (fun h=>?_) (fun h=>?_)))))))
   ·cases h
   refine CWp.exit ?_
   cases h
   exact ⟨.inr rfl,_,[0,0,0,0,0,0,0,0],_,_,rfl,rfl,rfl,i0m1,pi0m1,si0m1,rfl,rfl⟩
  refine CWp.exit ?_
  cases h
  exact ⟨.inr rfl,_,[0,0,0,0,0,0,0,0],_,_,rfl,rfl,rfl,i0m1,pi0m1,si0m1,rfl,rfl⟩
def lU (a0:SWorld) (a1:List UInt8):Option (SBox×Bool):=
  bO (j5 a0 a1) fun v1=>
  bif !v1.2 then
    some ((⟨0,0⟩:SBox),false)
  else
    bO (idx a0.boxes v1.1) fun v2=>
    some (v2.box,true)
theorem uQ {a0:SWorld} {a1:List UInt8} {i0:Nat} {i0m2:Nat} {pi0m2 si0m2:Slk 4} {r:SBox×Bool} (h:lU a0 a1=some r):aO Tryz.prog 72 [.gptr i0 0,.str a1] [(i0,[.list false 4 (a0.queue.l.map zB),zI a0.retries,hdM i0m2 pi0m2 a0.boxes si0m2,.list false 150 (a0.images.map aQ)]),(i0m2,lob pi0m2 aG a0.boxes si0m2)] (fun v outs=>v= .tuple [CH r.1,zB r.2]∧outs=[(i0,[.list false 4 (a0.queue.l.map zB),zI a0.retries,hdM i0m2 pi0m2 a0.boxes si0m2,.list false 150 (a0.images.map aQ)]),(i0m2,lob pi0m2 aG a0.boxes si0m2)]):=by
  refine a8 Tryz.func72 rfl rfl rfl rfl fun base=>?_
  unfold lU at h
  refine srd 2 rfl [0,1,4] [4] rfl (aB (aA (rn 2 rfl ?_)))
  obtain ⟨v1,hv1,h⟩:=bI h
  refine bR [0,0] Tryz.call127 (pE hv1) rfl rfl ?_
  refine rn 5 rfl (aC.done [0,4,6,7] [4] rfl (aB (srd 2 rfl [0,4,6,15] [4] rfl (aD h rfl (fun h=>?_) (fun h=>?_)))))
  ·refine srd 3 rfl [4,5] [4] rfl ?_
   cases h;exact aJ ⟨.inl rfl,_,[0,0],_,_,rfl,rfl,rfl,rfl,rfl⟩
  refine aE (aB (aA ?_))
  obtain ⟨v2,hv2,h⟩:=bI h
  refine rh 5 [0] [] rfl ⟨rfl,trivial⟩ (rd (BI hv2) ?_)
  refine rn 1 rfl (QF (f:=aG) (off:=1) 1 (fun _=>⟨rfl,rfl,rfl⟩) hv2 ?_)
  refine rn 2 rfl (aC.done [4,5] [4] rfl ?_)
  cases h;exact aJ ⟨.inl rfl,_,[0,0],_,_,rfl,rfl,rfl,rfl,rfl⟩
def kE (a0:Sround) (a0_0:SAgent) (a0_0_1:SStore) (a0_0_1_0:SDisk) (a0_0_1_0_0:List ((List UInt8)×(List UInt8))) (a1:List UInt8) (x1:List Bool) (x2:Int) (x3:List SImage) (x4:List SContainer):Option (Sround×SAgent×SWorld):=
  bO (tW a0_0.state a1) fun v6=>
  bO (fL a0 (⟨a0_0.c,v6,a0_0.since,a0_0.calm,a0_0.sample,a0_0.fresh,a0_0.fuse,a0_0.dead⟩:SAgent) (⟨(⟨x1⟩:Squeue),x2,x4,x3⟩:SWorld) a0_0_1 a0_0_1_0 a0_0_1_0_0 12 a1 0) fun v7=>
  some (v7,(⟨a0_0.c,v6,a0_0.since,a0_0.calm,a0_0.sample,a0_0.fresh,a0_0.fuse,a0_0.dead⟩:SAgent),(⟨(⟨x1⟩:Squeue),x2,x4,x3⟩:SWorld))
def nD (a0:Sround) (a0_0:SAgent) (a0_0_0:SWorld) (a0_0_1:SStore) (a0_0_1_0:SDisk) (a0_0_1_0_0:List ((List UInt8)×(List UInt8))) (a1:List UInt8) (a2:Int):Option (Sround×SAgent×SWorld):=
  bif a2==3 then
    bO (lT a0_0_0 a1 3 a0_0.state.round) fun v9=>
    bO (lU v9.2.2 a1) fun v11=>
    bif v11.1.state==3 then none else
    kE a0 a0_0 a0_0_1 a0_0_1_0 a0_0_1_0_0 a1 v9.2.2.queue.l v9.2.2.retries v9.2.2.images v9.2.2.boxes
  else none
theorem AT {a0:Sround} {a0_0:SAgent} {a0_0_0:SWorld} {a0_0_1:SStore} {a0_0_1_0:SDisk} {a0_0_1_0_0:List ((List UInt8)×(List UInt8))} {a1:List UInt8} {a2:Int} {i0 i0_0 i0_0_0 i0_0_1 i0_0_1_0 i0_0_1_0_0:Nat} {i0m1:Nat} {pi0m1 si0m1:Slk 4} {i0_0_0m2:Nat} {pi0_0_0m2 si0_0_0m2:Slk 4} {r:Sround×SAgent×SWorld} (h:nD a0 a0_0 a0_0_0 a0_0_1 a0_0_1_0 a0_0_1_0_0 a1 a2=some r):aO Tryz.prog 73 [.gptr i0 0,.str a1,zI a2] [(i0,[.gptr i0_0 0,hdM i0m1 pi0m1 a0.events si0m1,.list false 4 (a0.holds.map zB),zB a0.press.a,zB a0.press.b,zB a0.press.c]),(i0m1,lob pi0m1 bB a0.events si0m1),(i0_0,[zI a0_0.c.capacity.a,zI a0_0.c.capacity.b,zI a0_0.c.capacity.c,zI a0_0.c.allocatable.a,zI a0_0.c.allocatable.b,zI a0_0.c.allocatable.c,.list false 102 (a0_0.c.thresholds.map aL),zI a0_0.c.period,zI a0_0.c.retries,zI a0_0.c.maxAge,zI a0_0.c.dead,.gptr i0_0_0 0,.gptr i0_0_1 0,zI a0_0.state.round,.list false 83 (a0_0.state.pods.map aN),zB a0_0.state.on.a,zB a0_0.state.on.b,zB a0_0.state.on.c,.list false 3 (a0_0.since.map zI),zI a0_0.calm.a,zI a0_0.calm.b,zI a0_0.calm.c,zI a0_0.sample.time,zI a0_0.sample.avail.a,zI a0_0.sample.avail.b,zI a0_0.sample.avail.c,.list false 280 (a0_0.sample.use.map bC),zB a0_0.fresh,zI a0_0.fuse,zB a0_0.dead]),(i0_0_0,[.list false 4 (a0_0_0.queue.l.map zB),zI a0_0_0.retries,hdM i0_0_0m2 pi0_0_0m2 a0_0_0.boxes si0_0_0m2,.list false 150 (a0_0_0.images.map aQ)]),(i0_0_0m2,lob pi0_0_0m2 aG a0_0_0.boxes si0_0_0m2),(i0_0_1,[.gptr i0_0_1_0 0,zI a0_0_1.version]),(i0_0_1_0,[.gmap i0_0_1_0_0,.list true 69 (a0_0_1_0.open_.map bG)]),(i0_0_1_0_0,aV keS (fun (x:List UInt8)=> .list false 5 (x.map zU8)) a0_0_1_0_0)] (fun v outs=>∃(i0m1_:Nat) (pi0m1_ si0m1_:Slk 4) (i0_0_0m2_:Nat) (pi0_0_0m2_ si0_0_0m2_:Slk 4),v= .tuple []∧outs=[(i0,[.gptr i0_0 0,hdM i0m1_ pi0m1_ r.1.events si0m1_,.list false 4 (r.1.holds.map zB),zB r.1.press.a,zB r.1.press.b,zB r.1.press.c]),(i0m1_,lob pi0m1_ bB r.1.events si0m1_),(i0_0,[zI r.2.1.c.capacity.a,zI r.2.1.c.capacity.b,zI r.2.1.c.capacity.c,zI r.2.1.c.allocatable.a,zI r.2.1.c.allocatable.b,zI r.2.1.c.allocatable.c,.list false 102 (r.2.1.c.thresholds.map aL),zI r.2.1.c.period,zI r.2.1.c.retries,zI r.2.1.c.maxAge,zI r.2.1.c.dead,.gptr i0_0_0 0,.gptr i0_0_1 0,zI r.2.1.state.round,.list false 83 (r.2.1.state.pods.map aN),zB r.2.1.state.on.a,zB r.2.1.state.on.b,zB r.2.1.state.on.c,.list false 3 (r.2.1.since.map zI),zI r.2.1.calm.a,zI r.2.1.calm.b,zI r.2.1.calm.c,zI r.2.1.sample.time,zI r.2.1.sample.avail.a,zI r.2.1.sample.avail.b,zI r.2.1.sample.avail.c,.list false 280 (r.2.1.sample.use.map bC),zB r.2.1.fresh,zI r.2.1.fuse,zB r.2.1.dead]),(i0_0_0,[.list false 4 (r.2.2.queue.l.map zB),zI r.2.2.retries,hdM i0_0_0m2_ pi0_0_0m2_ r.2.2.boxes si0_0_0m2_,.list false 150 (r.2.2.images.map aQ)]),(i0_0_0m2_,lob pi0_0_0m2_ aG r.2.2.boxes si0_0_0m2_),(i0_0_1,[.gptr i0_0_1_0 0,zI a0_0_1.version]),(i0_0_1_0,[.gmap i0_0_1_0_0,.list true 69 (a0_0_1_0.open_.map bG)]),(i0_0_1_0_0,aV keS (fun (x:List UInt8)=> .list false 5 (x.map zU8)) a0_0_1_0_0)]):=by
  refine a8 Tryz.func73 rfl rfl rfl rfl fun base=>?_
  unfold nD at h
  refine aS (fun e=>∃(x1:_) (x2:_) (x3:_) (m5:Nat) (pm5 sm5:Slk 4) (x4:_),e=⟨[(0,[],.gptr i0 0),(1,[],.str a1)],[],[],[(i0,[.gptr i0_0 0,hdM i0m1 pi0m1 a0.events si0m1,.list false 4 (a0.holds.map zB),zB a0.press.a,zB a0.press.b,zB a0.press.c]),(i0m1,lob pi0m1 bB a0.events si0m1),(i0_0,[zI a0_0.c.capacity.a,zI a0_0.c.capacity.b,zI a0_0.c.capacity.c,zI a0_0.c.allocatable.a,zI a0_0.c.allocatable.b,zI a0_0.c.allocatable.c,.list false 102 (a0_0.c.thresholds.map aL),zI a0_0.c.period,zI a0_0.c.retries,zI a0_0.c.maxAge,zI a0_0.c.dead,.gptr i0_0_0 0,.gptr i0_0_1 0,zI a0_0.state.round,.list false 83 (a0_0.state.pods.map aN),zB a0_0.state.on.a,zB a0_0.state.on.b,zB a0_0.state.on.c,.list false 3 (a0_0.since.map zI),zI a0_0.calm.a,zI a0_0.calm.b,zI a0_0.calm.c,zI a0_0.sample.time,zI a0_0.sample.avail.a,zI a0_0.sample.avail.b,zI a0_0.sample.avail.c,.list false 280 (a0_0.sample.use.map bC),zB a0_0.fresh,zI a0_0.fuse,zB a0_0.dead]),(i0_0_0,[.list false 4 (x1.map zB),zI x2,hdM m5 pm5 x4 sm5,.list false 150 (x3.map aQ)]),(m5,lob pm5 aG x4 sm5),(i0_0_1,[.gptr i0_0_1_0 0,zI a0_0_1.version]),(i0_0_1_0,[.gmap i0_0_1_0_0,.list true 69 (a0_0_1_0.open_.map bG)]),(i0_0_1_0_0,aV keS (fun (x:List UInt8)=> .list false 5 (x.map zU8)) a0_0_1_0_0)],base⟩∧kE a0 a0_0 a0_0_1 a0_0_1_0 a0_0_1_0_0 a1 x1 x2 x3 x4=some r) ?_ ?_
  ·refine srd 2 rfl [0,1,9] [] rfl (aD h rfl (fun h=>?_) (fun h=>?_))
   ·refine aB (b8 16 (by kernel_rfl) ?_)
    refine cfq rfl rfl (fun _ _ _=>rfl) ?_
    refine cfq rfl rfl (fun _ _ _=>rfl) ?_
    refine cfq rfl rfl (fun _ _ _=>rfl) ?_
    refine b9 rfl [0] rfl (fun _ _=>rfl) ⟨rfl,trivial⟩ ?_
    refine cfq rfl rfl (fun _ _ _=>rfl) ?_
    refine cfq rfl rfl (fun _ _ _=>rfl) ?_
    refine b9 rfl [2] rfl (fun _ _=>rfl) ⟨rfl,trivial⟩ ?_
    refine cfq rfl rfl (fun _ _ _=>rfl) ?_
    refine cfq rfl rfl (fun _ _ _=>rfl) ?_
    refine cfq rfl rfl (fun _ _ _=>rfl) ?_
    refine cfq rfl rfl (fun _ _ _=>rfl) ?_
    refine b9 rfl [0] rfl (fun _ _=>rfl) ⟨rfl,trivial⟩ ?_
    refine cfq rfl rfl (fun _ _ _=>rfl) ?_
    refine cfq rfl rfl (fun _ _ _=>rfl) ?_
    refine cfq rfl rfl (fun _ _ _=>rfl) ?_
    refine b9 rfl [2] rfl (fun _ _=>rfl) ⟨rfl,trivial⟩ ?_
    refine b6.nil ⟨by kernel_rfl,?_⟩
    obtain ⟨v9,hv9,h⟩:=bI h
    refine bL [3,3] Tryz.call59 (uP hv9) rfl rfl ?_
    rintro _ _ ⟨m10,pm10,sm10,rfl,rfl⟩
    refine aC.objs [2,2,2,0,0,0,0,0] rfl ?_
    refine aC.done [0,1] [] rfl (aB (aA (rh 8 [0,2] [] rfl ⟨rfl,rfl,trivial⟩ ?_)))
    obtain ⟨v11,hv11,h⟩:=bI h
    refine bR [3,3] Tryz.call72 (uQ hv11) rfl rfl ?_
    refine rn 6 rfl (aC.objs [2,2,2,0,0,0,0,0] rfl ?_)
    refine aC.done [0,1,6] [6] rfl (srd 3 rfl [0,1,41] [] rfl (aD h rfl (fun h=>?_) (fun h=>?_)))
    ·cases h
    refine aR [0,1] [] rfl (aE ?_)
    exact ⟨_,_,_,_,_,_,_,rfl,h⟩
   cases h
  rintro _ ⟨x1,x2,x3,m5,pm5,sm5,x4,rfl,h⟩
  unfold kE at h
  refine aB (b8 13 (by kernel_rfl) ?_)
  refine cfq rfl rfl (fun _ _ _=>rfl) ?_
  refine cfq rfl rfl (fun _ _ _=>rfl) ?_
  refine cfq rfl rfl (fun _ _ _=>rfl) ?_
  refine b9 rfl [0] rfl (fun _ _=>rfl) ⟨rfl,trivial⟩ ?_
  refine cfq rfl rfl (fun _ _ _=>rfl) ?_
  refine cfq rfl rfl (fun _ _ _=>rfl) ?_
  refine cfq rfl rfl (fun _ _ _=>rfl) ?_
  refine b9 rfl [0] rfl (fun _ _=>rfl) ⟨rfl,trivial⟩ ?_
  refine cfq rfl rfl (fun _ _ _=>rfl) ?_
  refine cfq rfl rfl (fun _ _ _=>rfl) ?_
  refine b9 rfl [2] rfl (fun _ _=>rfl) ⟨rfl,trivial⟩ ?_
  refine cfq rfl rfl (fun _ _ _=>rfl) ?_
  obtain ⟨v6,hv6,h⟩:=bI h
  refine cf1 (d:=54) (v:=e9 v6) rfl [(52,[],_),(53,[],_)] [] ⟨rfl,rfl,trivial⟩ trivial (fun fr X O hf=>?_) ?_
  ·refine aP (hsub:=sbF rfl hf) Tryz.call32 (E8 hv6) rfl ?_
   exact aW rfl
  refine b6.nil ⟨by kernel_rfl,?_⟩
  refine rh 3 [2] [] rfl ⟨rfl,trivial⟩ (aC.done [0,1] [] rfl ?_)
  refine aA (rn 2 rfl ?_)
  obtain ⟨v7,hv7,h⟩:=bI h
  refine bL [0,0,0,0,0,0,0,0] Tryz.call60 (jH hv7) rfl rfl ?_
  rintro _ _ ⟨m8,pm8,sm8,rfl,rfl⟩
  refine aC.done [] [] rfl ?_
  cases h
  exact ⟨.inr rfl,_,[0,0,0,0,0,0,0,0],_,_,rfl,rfl,rfl,m8,pm8,sm8,m5,pm5,sm5,rfl,rfl⟩
def EC :Option SBox:=
  some (⟨1,0⟩:SBox)
theorem OK {r:SBox} (h:EC=some r):aI Tryz.prog 129 [] (CH r):=by
  refine aK Tryz.func129 rfl rfl rfl rfl fun base=>?_
  unfold EC at h
  refine srd 1 rfl [0] [0] rfl (srd 2 rfl [0] [0] rfl ?_)
  cases h;exact aJ ⟨.inl rfl,rfl,rfl⟩
end
section
open Go.RowKit
def jL (a0:List SContainer) (a1:Int) (a2:List SContainer):Option (List SContainer):=
  bO (xV a0 a1) fun _v2=>
  bif (a2.length:Int)==0 then none else
  bif a1==(a0.length:Int) then
    bO (bM a0 a2) fun v3=>
    some v3
  else none
theorem wS {a0:List SContainer} {a1:Int} {a2:List SContainer} {m0_:Nat} {pm0_ sm0_:Slk 4} {r:List SContainer} (h:jL a0 a1 a2=some r):aO Tryz.prog 128 [hdM m0_ pm0_ a0 sm0_,zI a1,.list false 214 (a2.map aG)] [(m0_,lob pm0_ aG a0 sm0_)] (fun v outs=>∃(h0_:Nat) (ph0_ sh0_:Slk 4),v=hdM h0_ ph0_ r sh0_∧outs=[(h0_,lob ph0_ aG r sh0_)]):=by
  refine a8 Tryz.func128 rfl rfl rfl rfl fun base=>?_
  unfold jL at h
  refine aB (aA (lJ (α:=SContainer) (sz:=4) 214 aG ?_))
  rintro m1
  refine aC.objs [1] rfl ?_
  refine aC.done [0,1,2] [] rfl (aB (aA ?_))
  obtain ⟨v2,hv2,h⟩:=bI h
  refine rn 2 rfl (rd (Q4 (f:=aG) (fun _=>⟨rfl,rfl,rfl⟩) hv2) ?_)
  refine aC.done [0,1,2] [] rfl (aB (aA (rh 3 [a2.length] [] rfl ⟨List.length_map ..,trivial⟩ (aC.done [0,1,2,7] [] rfl (aB (srd 2 rfl [0,1,2,7,16] [] rfl (aD h rfl (fun h=>?_) (fun h=>?_))))))))
  ·cases h
  refine aE (aB (aA (rn 1 rfl (rd (AN) ?_))))
  refine rn 1 rfl (aC.done [0,1,2,7,8] [] rfl (aB (srd 3 rfl [0,1,2,7,8,22] [] rfl (aD h rfl (fun h=>?_) (fun h=>?_)))))
  ·refine aB (aA ?_)
   obtain ⟨v3,hv3,h⟩:=bI h
   refine rn 2 rfl (pS (f:=aG) 0 (fun _=>⟨rfl,rfl,rfl⟩) hv3 ?_)
   rintro m4 pm4 sm4
   refine rn 1 rfl (aC.done [6] [] rfl (aJ ?_))
   cases h
   exact ⟨.inl rfl,_,[0],_,_,rfl,rfl,rfl,m4,pm4,sm4,rfl,rfl⟩
  cases h
def nT (a0:SWorld) (a1:List UInt8) (a2:Int):Option (Int×SWorld):=
  bO (j5 a0 a1) fun v1=>
  bif v1.2 then none else
  bO (EC) fun v2=>
  bO (jL a0.boxes v1.1 [(⟨a1,v2,a2⟩:SContainer)]) fun v3=>
  some (0,(⟨a0.queue,a0.retries,v3,a0.images⟩:SWorld))
theorem BG {a0:SWorld} {a1:List UInt8} {a2:Int} {i0:Nat} {i0m2:Nat} {pi0m2 si0m2:Slk 4} {r:Int×SWorld} (h:nT a0 a1 a2=some r):aO Tryz.prog 74 [.gptr i0 0,.str a1,zI a2] [(i0,[.list false 4 (a0.queue.l.map zB),zI a0.retries,hdM i0m2 pi0m2 a0.boxes si0m2,.list false 150 (a0.images.map aQ)]),(i0m2,lob pi0m2 aG a0.boxes si0m2)] (fun v outs=>∃(i0m2_:Nat) (pi0m2_ si0m2_:Slk 4),v=zI r.1∧outs=[(i0,[.list false 4 (r.2.queue.l.map zB),zI r.2.retries,hdM i0m2_ pi0m2_ r.2.boxes si0m2_,.list false 150 (r.2.images.map aQ)]),(i0m2_,lob pi0m2_ aG r.2.boxes si0m2_)]):=by
  refine a8 Tryz.func74 rfl rfl rfl rfl fun base=>?_
  unfold nT at h
  refine srd 1 rfl [0,1,2] [] rfl (aB (aA (rn 2 rfl ?_)))
  obtain ⟨v1,hv1,h⟩:=bI h
  refine bR [0,0] Tryz.call127 (pE hv1) rfl rfl ?_
  refine rn 5 rfl (aC.done [0,1,2,7,8] [] rfl (aB (srd 1 rfl [0,1,2,7,15] [] rfl (aD h rfl (fun h=>?_) (fun h=>?_)))))
  ·cases h
  refine aE (aB (sP [0,1,2,3,4,5,6,7,8,9,10,11,12,13,14] (by kernel_rfl) (dB.of ?_)))
  refine bQ 0 rfl [] [] rfl trivial (fun _ _ _=>rfl) trivial ?_
  refine bQ 1 rfl [] [] rfl trivial (fun _ _ _=>rfl) trivial ?_
  refine bQ 2 rfl [] [] rfl trivial (fun _ _ _=>rfl) trivial ?_
  refine bQ 3 rfl [] [] rfl trivial (fun _ _ _=>rfl) trivial ?_
  refine AK 4 rfl [0] rfl (fun _ _=>rfl) ⟨rfl,trivial⟩ ?_
  refine bQ 5 rfl [] [] rfl trivial (fun _ _ _=>rfl) trivial ?_
  refine bQ 6 rfl [] [] rfl trivial (fun _ _ _=>rfl) trivial ?_
  obtain ⟨v2,hv2,h⟩:=bI h
  refine TO (d:=23) (v:=CH v2) 7 rfl [] [] trivial trivial (fun fr X O hf=>?_) ?_
  ·refine aP (hsub:=sbF rfl hf) Tryz.call129 (OK hv2) rfl ?_
   exact aW rfl
  refine bQ 8 rfl [] [] rfl trivial (fun _ _ _=>rfl) trivial ?_
  refine bQ 9 rfl [] [] rfl trivial (fun _ _ _=>rfl) trivial ?_
  refine XM (d:=26) (v:= .list true 214 ([(⟨a1,v2,a2⟩:SContainer)].map aG)) 10 rfl rfl (fun _ _ _=>rfl) (fun _ _ _=>rfl) ?_
  obtain ⟨v3,hv3,h⟩:=bI h
  refine kcg (ι:=Nat×Slk 4×Slk 4) ((0,Slk.nil,Slk.nil)) (fun g_=>[(27,[],hdM g_.1 g_.2.1 v3 g_.2.2)]) (fun g_=>[(g_.1,lob g_.2.1 aG v3 g_.2.2),(i0,[.list false 4 (a0.queue.l.map zB),zI a0.retries,hdM i0m2 pi0m2 a0.boxes si0m2,.list false 150 (a0.images.map aQ)])]) 11 rfl [(20,[],_),(21,[],_),(26,[],_)] ⟨rfl,rfl,rfl,trivial⟩ (fun fr X hf=>?_) (by kernel_rfl) (fun _=>⟨rfl,by kernel_rfl⟩) ?_
  ·refine bL [1] Tryz.call128 (wS hv3) rfl rfl ?_
   rintro _ _ ⟨m4,pm4,sm4,rfl,rfl⟩
   exact aW ⟨(m4,pm4,sm4),rfl⟩
  rintro ⟨m4,pm4,sm4⟩
  refine bQ 12 rfl [] [] rfl trivial (fun _ _ _=>rfl) trivial ?_
  refine bQ 13 rfl [] [] rfl trivial (fun _ _ _=>rfl) trivial ?_
  refine WC (wr:=[]) (O1:=[(m4,lob pm4 aG v3 sm4),(i0,[.list false 4 (a0.queue.l.map zB),zI a0.retries,hdM m4 pm4 v3 sm4,.list false 150 (a0.images.map aQ)])]) 14 rfl [(29,[],_),(27,[],_)] ⟨rfl,rfl,trivial⟩ (fun fr X hf=>?_) ?_
  ·exact rh 1 [1] [] rfl ⟨rfl,trivial⟩ (aW rfl)
  refine dB.nil (by kernel_rfl) ⟨rfl,?_⟩
  refine aC.objs [1,0] rfl ?_
  refine aC.done [] [] rfl (srd 1 rfl [6] [] rfl (aJ ?_))
  cases h
  exact ⟨.inl rfl,_,[0,0],_,_,rfl,rfl,rfl,m4,pm4,sm4,rfl,rfl⟩
def yR (a0:List SImage) (a1:List UInt8):Option (SImage×Bool):=
  bO (tK a0 a1) fun v1=>
  bif !v1.2 then
    some ((⟨([]:List UInt8),0,0⟩:SImage),false)
  else none
theorem I3 {a0:List SImage} {a1:List UInt8} {r:SImage×Bool} (h:yR a0 a1=some r):aI Tryz.prog 130 [.list false 150 (a0.map aQ),.str a1] (.tuple [aQ r.1,zB r.2]):=by
  refine aK Tryz.func130 rfl rfl rfl rfl fun base=>?_
  unfold yR at h
  refine srd 2 rfl [0,1,4] [4] rfl (aB (aA (rn 2 rfl ?_)))
  obtain ⟨v1,hv1,h⟩:=bI h
  refine aP Tryz.call168 (yT hv1) rfl ?_
  refine rn 5 rfl (aC.done [0,4,6,7] [4] rfl (aB (srd 2 rfl [0,4,6,15] [4] rfl (aD h rfl (fun h=>?_) (fun h=>?_)))))
  ·refine srd 3 rfl [4,5] [4] rfl ?_
   cases h;exact aJ ⟨.inl rfl,rfl,rfl⟩
  cases h
def mM (a0:List SImage) (a1:Int) (a2:List SImage):Option (List SImage):=
  bO (xV a0 a1) fun _v2=>
  bif (a2.length:Int)==0 then none else
  bif a1==(a0.length:Int) then
    bO (bM a0 a2) fun v3=>
    some v3
  else none
theorem zX {a0:List SImage} {a1:Int} {a2:List SImage} {m0_:Nat} {pm0_ sm0_:Slk 3} {r:List SImage} (h:mM a0 a1 a2=some r):aO Tryz.prog 187 [hdM m0_ pm0_ a0 sm0_,zI a1,.list false 150 (a2.map aQ)] [(m0_,lob pm0_ aQ a0 sm0_)] (fun v outs=>∃(h0_:Nat) (ph0_ sh0_:Slk 3),v=hdM h0_ ph0_ r sh0_∧outs=[(h0_,lob ph0_ aQ r sh0_)]):=by
  refine a8 Tryz.func187 rfl rfl rfl rfl fun base=>?_
  unfold mM at h
  refine aB (aA (lJ (α:=SImage) (sz:=3) 150 aQ ?_))
  rintro m1
  refine aC.objs [1] rfl ?_
  refine aC.done [0,1,2] [] rfl (aB (aA ?_))
  obtain ⟨v2,hv2,h⟩:=bI h
  refine rn 2 rfl (rd (Q4 (f:=aQ) (fun _=>⟨rfl,rfl,rfl⟩) hv2) ?_)
  refine aC.done [0,1,2] [] rfl (aB (aA (rh 3 [a2.length] [] rfl ⟨List.length_map ..,trivial⟩ (aC.done [0,1,2,7] [] rfl (aB (srd 2 rfl [0,1,2,7,16] [] rfl (aD h rfl (fun h=>?_) (fun h=>?_))))))))
  ·cases h
  refine aE (aB (aA (rn 1 rfl (rd (AN) ?_))))
  refine rn 1 rfl (aC.done [0,1,2,7,8] [] rfl (aB (srd 3 rfl [0,1,2,7,8,22] [] rfl (aD h rfl (fun h=>?_) (fun h=>?_)))))
  ·refine aB (aA ?_)
   obtain ⟨v3,hv3,h⟩:=bI h
   refine rn 2 rfl (pS (f:=aQ) 0 (fun _=>⟨rfl,rfl,rfl⟩) hv3 ?_)
   rintro m4 pm4 sm4
   refine rn 1 rfl (aC.done [6] [] rfl (aJ ?_))
   cases h
   exact ⟨.inl rfl,_,[0],_,_,rfl,rfl,rfl,m4,pm4,sm4,rfl,rfl⟩
  cases h
def wF (a0:List SImage) (a1:List UInt8) (a2:Int) (a3:Int):Option (List SImage):=
  bO (tK a0 a1) fun v2=>
  bO (jK a0) fun v3=>
  bif v2.2 then none else
  bO (mM v3 v2.1 [(⟨a1,a2,a3⟩:SImage)]) fun v5=>
  some v5
theorem DB {a0:List SImage} {a1:List UInt8} {a2:Int} {a3:Int} {r:List SImage} (h:wF a0 a1 a2 a3=some r):aI Tryz.prog 131 [.list false 150 (a0.map aQ),.str a1,zI a2,zI a3] (.list false 150 (r.map aQ)):=by
  refine aK Tryz.func131 rfl rfl rfl rfl fun base=>?_
  unfold wF at h
  refine aB (aA (lJ (α:=SImage) (sz:=3) 150 aQ ?_))
  rintro m1
  refine aC.objs [] rfl ?_
  refine aC.done [0,1,2,3] [] rfl (aB (aA (rn 2 rfl ?_)))
  obtain ⟨v2,hv2,h⟩:=bI h
  refine aP Tryz.call168 (yT hv2) rfl ?_
  refine rn 5 rfl (aC.done [0,1,2,3,9,10] [] rfl (aB (aA (rn 1 rfl ?_))))
  obtain ⟨v3,hv3,h⟩:=bI h
  refine bL [] Tryz.call116 (rH hv3) rfl rfl ?_
  rintro _ _ ⟨m4,pm4,sm4,rfl,rfl⟩
  refine rn 1 rfl (aC.done [1,2,3,9,10,11] [] rfl (aB (srd 1 rfl [1,2,3,9,11,20] [] rfl (aD h rfl (fun h=>?_) (fun h=>?_)))))
  ·cases h
  refine aE (aB (aA (rn 7 rfl ?_)))
  obtain ⟨v5,hv5,h⟩:=bI h
  refine bL [0] Tryz.call187 (zX hv5) rfl rfl ?_
  rintro _ _ ⟨m6,pm6,sm6,rfl,rfl⟩
  refine rn 1 rfl (aC.done [8] [] rfl (k7 (f:=aQ) (E:=150) 0 [8] [] (fun _=>⟨rfl,rfl,rfl⟩) ?_ (h1:=⟨rfl,trivial⟩) (h2:=trivial)))
  cases h;exact aJ ⟨.inl rfl,rfl,rfl⟩
def mV (v2:SImage×Bool) (v3:SWorld) (x5:List SImage) (x6:List SContainer):Option (Bool×Bool×Int×SWorld):=
  some (true,!v2.2,0,(⟨v3.queue,v3.retries,x6,x5⟩:SWorld))
def mW (v2:SImage×Bool) (v3:Bool) (v4:SWorld) (x6:List SImage) (x7:List SContainer):Option (Bool×Bool×Int×SWorld):=
  some (v3,v3&&(!v2.2),0,(⟨v4.queue,v4.retries,x7,x6⟩:SWorld))
def pD (a0:SWorld) (a1:List UInt8) (a2:List UInt8) (a3:Int) (a4:Int):Option (Bool×Bool×Int×SWorld):=
  bO (lV a0 a1 1) fun v1=>
  bif v1.2 !=0 then none else
  bO (yR a0.images a2) fun v2=>
  bif v2.2 then
    bO (j6 a0 v1.1 1 true a4) fun v3=>
    bO (wF v3.images a2 a3 a4) fun v8=>
    mV v2 v3 v8 v3.boxes
  else
    bO (kW a0) fun v3=>
    bO (j6 a0 v1.1 1 v3 a4) fun v4=>
    bif v3 then
      bO (wF v4.images a2 a3 a4) fun v9=>
      mW v2 v3 v4 v9 v4.boxes
    else none
theorem CN {a0:SWorld} {a1:List UInt8} {a2:List UInt8} {a3:Int} {a4:Int} {i0:Nat} {i0m2:Nat} {pi0m2 si0m2:Slk 4} {r:Bool×Bool×Int×SWorld} (h:pD a0 a1 a2 a3 a4=some r):aO Tryz.prog 75 [.gptr i0 0,.str a1,.str a2,zI a3,zI a4] [(i0,[.list false 4 (a0.queue.l.map zB),zI a0.retries,hdM i0m2 pi0m2 a0.boxes si0m2,.list false 150 (a0.images.map aQ)]),(i0m2,lob pi0m2 aG a0.boxes si0m2)] (fun v outs=>∃(i0m2_:Nat) (pi0m2_ si0m2_:Slk 4),v= .tuple [zB r.1,zB r.2.1,zI r.2.2.1]∧outs=[(i0,[.list false 4 (r.2.2.2.queue.l.map zB),zI r.2.2.2.retries,hdM i0m2_ pi0m2_ r.2.2.2.boxes si0m2_,.list false 150 (r.2.2.2.images.map aQ)]),(i0m2_,lob pi0m2_ aG r.2.2.2.boxes si0m2_)]):=by
  refine a8 Tryz.func75 rfl rfl rfl rfl fun base=>?_
  unfold pD at h
  refine srd 3 rfl [0,1,2,3,4] [] rfl (aB (aA (rn 2 rfl ?_)))
  obtain ⟨v1,hv1,h⟩:=bI h
  refine bR [0,0] Tryz.call112 (uR hv1) rfl rfl ?_
  refine rn 5 rfl (aC.done [0,2,3,4,13,14] [] rfl (aB (srd 2 rfl [0,2,3,4,13,14,25] [] rfl (aD h rfl (fun h=>?_) (fun h=>?_)))))
  ·cases h
  refine aE (aB (aA (rh 5 [0] [] rfl ⟨rfl,trivial⟩ ?_)))
  obtain ⟨v2,hv2,h⟩:=bI h
  refine aP Tryz.call130 (I3 hv2) rfl ?_
  refine rn 6 rfl (aC.done [0,2,3,4,13,16] [] rfl (aB (aA (rn 2 rfl (nA 37 h rfl (fun h=>?_) (fun h=>?_))))))
  ·refine aX ?_
   refine aX ?_
   refine aX ?_
   refine aX ?_
   refine rd (fP) ?_
   refine rn 1 rfl (aC.done [0,2,3,4,13,16,17] [] rfl (aB (aA (rn 4 rfl ?_))))
   obtain ⟨v3,hv3,h⟩:=bI h
   refine bL [0,0] Tryz.call114 (pF hv3) rfl rfl ?_
   rintro _ _ ⟨m4,pm4,sm4,rfl,rfl⟩
   refine aC.done [0,2,3,4,16,17] [] rfl (aS (fun e=>∃(x5:_) (m7:Nat) (pm7 sm7:Slk 4) (x6:_),e=⟨[(16,[],zB v2.2),(17,[],zB true)],[],[],[(i0,[.list false 4 (v3.queue.l.map zB),zI v3.retries,hdM m7 pm7 x6 sm7,.list false 150 (x5.map aQ)]),(m7,lob pm7 aG x6 sm7)],base⟩∧mV v2 v3 x5 x6=some r) ?_ ?_)
   ·refine srd 1 rfl [0,2,3,4,16,17,48] [] rfl (bD rfl (by decide) ?_)
    refine aA (rh 8 [0] [] rfl ⟨rfl,trivial⟩ ?_)
    obtain ⟨v8,hv8,h⟩:=bI h
    refine aP Tryz.call131 (DB hv8) rfl ?_
    refine rh 3 [0] [] rfl ⟨rfl,trivial⟩ (aC.done [16,17] [] rfl ?_)
    exact ⟨_,_,_,_,_,rfl,h⟩
   rintro _ ⟨x5,m7,pm7,sm7,x6,rfl,h⟩
   unfold mV at h
   refine aB (aA (rn 3 rfl (aC.want ?_)))
   refine rn 1 rfl (aC.want ?_)
   refine rn 1 rfl (rd (fP) ?_)
   refine rn 3 rfl (aC.done [10,11,12] [] rfl (aJ ?_))
   cases h
   exact ⟨.inl rfl,_,[0,0],_,_,rfl,rfl,rfl,m7,pm7,sm7,rfl,rfl⟩
  refine aC.want ?_
  refine rn 1 rfl (aC.want ?_)
  refine rn 1 rfl (aC.want ?_)
  refine rn 1 rfl (aC.want ?_)
  obtain ⟨v3,hv3,h⟩:=bI h
  refine bR [0,0] Tryz.call113 (uA hv3) rfl rfl ?_
  refine rd (fP) ?_
  refine rn 1 rfl (aC.done [0,2,3,4,13,16,17] [] rfl (aB (aA (rn 4 rfl ?_))))
  obtain ⟨v4,hv4,h⟩:=bI h
  refine bL [0,0] Tryz.call114 (pF hv4) rfl rfl ?_
  rintro _ _ ⟨m5,pm5,sm5,rfl,rfl⟩
  refine aC.done [0,2,3,4,16,17] [] rfl (aS (fun e=>∃(x6:_) (m8:Nat) (pm8 sm8:Slk 4) (x7:_),e=⟨[(16,[],zB v2.2),(17,[],zB v3)],[],[],[(i0,[.list false 4 (v4.queue.l.map zB),zI v4.retries,hdM m8 pm8 x7 sm8,.list false 150 (x6.map aQ)]),(m8,lob pm8 aG x7 sm8)],base⟩∧mW v2 v3 v4 x6 x7=some r) ?_ ?_)
  ·refine srd 1 rfl [0,2,3,4,16,17,48] [] rfl (aD h rfl (fun h=>?_) (fun h=>?_))
   ·refine aA (rh 8 [0] [] rfl ⟨rfl,trivial⟩ ?_)
    obtain ⟨v9,hv9,h⟩:=bI h
    refine aP Tryz.call131 (DB hv9) rfl ?_
    refine rh 3 [0] [] rfl ⟨rfl,trivial⟩ (aC.done [16,17] [] rfl ?_)
    exact ⟨_,_,_,_,_,rfl,h⟩
   cases h
  rintro _ ⟨x6,m8,pm8,sm8,x7,rfl,h⟩
  unfold mW at h
  refine srd 9 rfl [10,11,12] [] rfl (aJ ?_)
  cases h
  exact ⟨.inl rfl,_,[0,0],_,_,rfl,rfl,rfl,m8,pm8,sm8,rfl,rfl⟩
def nF (a0:Sround) (a0_0:SAgent) (a0_0_0:SWorld) (a0_0_1:SStore) (a0_0_1_0:SDisk) (a0_0_1_0_0:List ((List UInt8)×(List UInt8))) (a1:SEntry) (v1:SBox×Bool):Option (Sround×SAgent×SWorld):=
  bif v1.1.state==4 then none else
  bif v1.1.state==1 then
    bO (pD a0_0_0 a1.pod.id a1.pod.image a1.pod.size a0_0.state.round) fun v10=>
    bif v10.2.1 then
      bO (fL a0 a0_0 v10.2.2.2 a0_0_1 a0_0_1_0 a0_0_1_0_0 9 a1.pod.image a1.pod.size) fun v12=>
      some (v12,a0_0,v10.2.2.2)
    else none
  else
    bif v1.1.state==2 then
      bO (lT a0_0_0 a1.pod.id 2 a0_0.state.round) fun v14=>
      bif v14.1 then
        bO (fL a0 a0_0 v14.2.2 a0_0_1 a0_0_1_0 a0_0_1_0_0 10 a1.pod.id 0) fun v16=>
        some (v16,a0_0,v14.2.2)
      else none
    else none
def qW (a0:Sround) (a0_0:SAgent) (a0_0_0:SWorld) (a0_0_1:SStore) (a0_0_1_0:SDisk) (a0_0_1_0_0:List ((List UInt8)×(List UInt8))) (a1:SEntry):Option (Sround×SAgent×SWorld):=
  bO (lU a0_0_0 a1.pod.id) fun v1=>
  bif a1.phase==3 then
    bO (nD a0 a0_0 a0_0_0 a0_0_1 a0_0_1_0 a0_0_1_0_0 a1.pod.id v1.1.state) fun v2=>
    some (v2.1,v2.2.1,v2.2.2)
  else
    bif !v1.2 then
      bO (nT a0_0_0 a1.pod.id a0_0.state.round) fun v5=>
      bO (pC a0_0.state (⟨a1.pod,2⟩:SEntry)) fun v7=>
      bO (fL a0 (⟨a0_0.c,v7,a0_0.since,a0_0.calm,a0_0.sample,a0_0.fresh,a0_0.fuse,a0_0.dead⟩:SAgent) v5.2 a0_0_1 a0_0_1_0 a0_0_1_0_0 8 a1.pod.id 0) fun v8=>
      some (v8,(⟨a0_0.c,v7,a0_0.since,a0_0.calm,a0_0.sample,a0_0.fresh,a0_0.fuse,a0_0.dead⟩:SAgent),v5.2)
    else
      bif (a1.phase==1)&&(v1.1.state==3) then none else
      bif a1.phase==1 then none else
      nF a0 a0_0 a0_0_0 a0_0_1 a0_0_1_0 a0_0_1_0_0 a1 v1
theorem DH {a0:Sround} {a0_0:SAgent} {a0_0_0:SWorld} {a0_0_1:SStore} {a0_0_1_0:SDisk} {a0_0_1_0_0:List ((List UInt8)×(List UInt8))} {a1:SEntry} {i0 i0_0 i0_0_0 i0_0_1 i0_0_1_0 i0_0_1_0_0:Nat} {i0m1:Nat} {pi0m1 si0m1:Slk 4} {i0_0_0m2:Nat} {pi0_0_0m2 si0_0_0m2:Slk 4} {r:Sround×SAgent×SWorld} (h:qW a0 a0_0 a0_0_0 a0_0_1 a0_0_1_0 a0_0_1_0_0 a1=some r):aO Tryz.prog 28 [.gptr i0 0,aN a1] [(i0,[.gptr i0_0 0,hdM i0m1 pi0m1 a0.events si0m1,.list false 4 (a0.holds.map zB),zB a0.press.a,zB a0.press.b,zB a0.press.c]),(i0m1,lob pi0m1 bB a0.events si0m1),(i0_0,[zI a0_0.c.capacity.a,zI a0_0.c.capacity.b,zI a0_0.c.capacity.c,zI a0_0.c.allocatable.a,zI a0_0.c.allocatable.b,zI a0_0.c.allocatable.c,.list false 102 (a0_0.c.thresholds.map aL),zI a0_0.c.period,zI a0_0.c.retries,zI a0_0.c.maxAge,zI a0_0.c.dead,.gptr i0_0_0 0,.gptr i0_0_1 0,zI a0_0.state.round,.list false 83 (a0_0.state.pods.map aN),zB a0_0.state.on.a,zB a0_0.state.on.b,zB a0_0.state.on.c,.list false 3 (a0_0.since.map zI),zI a0_0.calm.a,zI a0_0.calm.b,zI a0_0.calm.c,zI a0_0.sample.time,zI a0_0.sample.avail.a,zI a0_0.sample.avail.b,zI a0_0.sample.avail.c,.list false 280 (a0_0.sample.use.map bC),zB a0_0.fresh,zI a0_0.fuse,zB a0_0.dead]),(i0_0_0,[.list false 4 (a0_0_0.queue.l.map zB),zI a0_0_0.retries,hdM i0_0_0m2 pi0_0_0m2 a0_0_0.boxes si0_0_0m2,.list false 150 (a0_0_0.images.map aQ)]),(i0_0_0m2,lob pi0_0_0m2 aG a0_0_0.boxes si0_0_0m2),(i0_0_1,[.gptr i0_0_1_0 0,zI a0_0_1.version]),(i0_0_1_0,[.gmap i0_0_1_0_0,.list true 69 (a0_0_1_0.open_.map bG)]),(i0_0_1_0_0,aV keS (fun (x:List UInt8)=> .list false 5 (x.map zU8)) a0_0_1_0_0)] (fun v outs=>∃(i0m1_:Nat) (pi0m1_ si0m1_:Slk 4) (i0_0_0m2_:Nat) (pi0_0_0m2_ si0_0_0m2_:Slk 4),v= .tuple []∧outs=[(i0,[.gptr i0_0 0,hdM i0m1_ pi0m1_ r.1.events si0m1_,.list false 4 (r.1.holds.map zB),zB r.1.press.a,zB r.1.press.b,zB r.1.press.c]),(i0m1_,lob pi0m1_ bB r.1.events si0m1_),(i0_0,[zI r.2.1.c.capacity.a,zI r.2.1.c.capacity.b,zI r.2.1.c.capacity.c,zI r.2.1.c.allocatable.a,zI r.2.1.c.allocatable.b,zI r.2.1.c.allocatable.c,.list false 102 (r.2.1.c.thresholds.map aL),zI r.2.1.c.period,zI r.2.1.c.retries,zI r.2.1.c.maxAge,zI r.2.1.c.dead,.gptr i0_0_0 0,.gptr i0_0_1 0,zI r.2.1.state.round,.list false 83 (r.2.1.state.pods.map aN),zB r.2.1.state.on.a,zB r.2.1.state.on.b,zB r.2.1.state.on.c,.list false 3 (r.2.1.since.map zI),zI r.2.1.calm.a,zI r.2.1.calm.b,zI r.2.1.calm.c,zI r.2.1.sample.time,zI r.2.1.sample.avail.a,zI r.2.1.sample.avail.b,zI r.2.1.sample.avail.c,.list false 280 (r.2.1.sample.use.map bC),zB r.2.1.fresh,zI r.2.1.fuse,zB r.2.1.dead]),(i0_0_0,[.list false 4 (r.2.2.queue.l.map zB),zI r.2.2.retries,hdM i0_0_0m2_ pi0_0_0m2_ r.2.2.boxes si0_0_0m2_,.list false 150 (r.2.2.images.map aQ)]),(i0_0_0m2_,lob pi0_0_0m2_ aG r.2.2.boxes si0_0_0m2_),(i0_0_1,[.gptr i0_0_1_0 0,zI a0_0_1.version]),(i0_0_1_0,[.gmap i0_0_1_0_0,.list true 69 (a0_0_1_0.open_.map bG)]),(i0_0_1_0_0,aV keS (fun (x:List UInt8)=> .list false 5 (x.map zU8)) a0_0_1_0_0)]):=by
  refine a8 Tryz.func28 rfl rfl rfl rfl fun base=>?_
  unfold qW at h
  refine srd 1 rfl [0,3] [3] rfl (aB (CWp.drawn 13 (by kernel_rfl) ?_))
  refine ph 13 [0,2] rfl ⟨rfl,rfl,trivial⟩ (b5.nil (aC.done [0,3,4,5] [3] rfl (aB (aA (rh 8 [0,2] [] rfl ⟨rfl,rfl,trivial⟩ ?_)))))
  obtain ⟨v1,hv1,h⟩:=bI h
  refine bR [3,3] Tryz.call72 (uQ hv1) rfl rfl ?_
  refine rn 6 rfl (aC.objs [2,2,2,0,0,0,0,0] rfl ?_)
  refine aC.done [0,3,4,5,6,7] [3,6] rfl (aF (srd 4 rfl [0,3,4,5,6,7,36] [3,6] rfl (aD h rfl (fun h=>?_) (fun h=>?_))))
  ·refine aA (rn 4 rfl ?_)
   obtain ⟨v2,hv2,h⟩:=bI h
   refine bL [0,0,0,0,0,0,0,0] Tryz.call73 (AT hv2) rfl rfl ?_
   rintro _ _ ⟨m3,pm3,sm3,m4,pm4,sm4,rfl,rfl⟩
   refine aC.done [] [] rfl ?_
   cases h
   exact ⟨.inr rfl,_,[0,0,0,0,0,0,0,0],_,_,rfl,rfl,rfl,m3,pm3,sm3,m4,pm4,sm4,rfl,rfl⟩
  refine srd 3 rfl [0,3,4,5,6,45] [3,6] rfl (aD h rfl (fun h=>?_) (fun h=>?_))
  ·refine aB (aA (rh 9 [0,2] [] rfl ⟨rfl,rfl,trivial⟩ ?_))
   obtain ⟨v5,hv5,h⟩:=bI h
   refine bL [3,3] Tryz.call74 (BG hv5) rfl rfl ?_
   rintro _ _ ⟨m6,pm6,sm6,rfl,rfl⟩
   refine aC.objs [2,2,2,0,0,0,0,0] rfl ?_
   refine aC.done [0,3,4] [3] rfl (srd 2 rfl [0,3,4] [3] rfl (aB (b8 13 (by kernel_rfl) ?_)))
   refine cfq rfl rfl (fun _ _ _=>rfl) ?_
   refine cfq rfl rfl (fun _ _ _=>rfl) ?_
   refine cfq rfl rfl (fun _ _ _=>rfl) ?_
   refine b9 rfl [0] rfl (fun _ _=>rfl) ⟨rfl,trivial⟩ ?_
   refine cfq rfl rfl (fun _ _ _=>rfl) ?_
   refine cfq rfl rfl (fun _ _ _=>rfl) ?_
   refine cfq rfl rfl (fun _ _ _=>rfl) ?_
   refine b9 rfl [0] rfl (fun _ _=>rfl) ⟨rfl,trivial⟩ ?_
   refine cfq rfl rfl (fun _ _ _=>rfl) ?_
   refine cfq rfl rfl (fun _ _ _=>rfl) ?_
   refine b9 rfl [2] rfl (fun _ _=>rfl) ⟨rfl,trivial⟩ ?_
   refine cfp rfl [] [(3,_)] rfl ⟨rfl,trivial⟩ (fun _ _ _=>rfl) trivial ?_
   obtain ⟨v7,hv7,h⟩:=bI h
   refine cf1 (d:=71) (v:=e9 v7) rfl [(69,[],_),(70,[],_)] [] ⟨rfl,rfl,trivial⟩ trivial (fun fr X O hf=>?_) ?_
   ·refine aP (hsub:=sbF rfl hf) Tryz.call33 (vL hv7) rfl ?_
    exact aW rfl
   refine b6.nil ⟨by kernel_rfl,?_⟩
   refine rh 3 [2] [] rfl ⟨rfl,trivial⟩ (aC.done [0,4] [] rfl ?_)
   refine aA (rn 2 rfl ?_)
   obtain ⟨v8,hv8,h⟩:=bI h
   refine bL [0,0,0,0,0,0,0,0] Tryz.call60 (jH hv8) rfl rfl ?_
   rintro _ _ ⟨m9,pm9,sm9,rfl,rfl⟩
   refine aC.done [] [] rfl ?_
   cases h
   exact ⟨.inr rfl,_,[0,0,0,0,0,0,0,0],_,_,rfl,rfl,rfl,m9,pm9,sm9,m6,pm6,sm6,rfl,rfl⟩
  refine srd 9 rfl [0,3,4,5,6,77] [3,6] rfl (aD h rfl (fun h=>?_) (fun h=>?_))
  ·cases h
  refine aS (fun e=>e=⟨[(0,[],.gptr i0 0),(3,[],.lptr 3 0),(4,[],.str a1.pod.id),(5,[],zI a0_0.state.round),(6,[],.lptr 6 0),(96,[],zB (v1.1.state==4))],[],[(3,[.str a1.pod.id,zI a1.pod.prio,zB a1.pod.critical,zI a1.pod.req.a,zI a1.pod.req.b,zI a1.pod.req.c,zI a1.pod.lim.a,zI a1.pod.lim.b,zI a1.pod.lim.c,.str a1.pod.image,zI a1.pod.size,zI a1.phase]),(6,[zI v1.1.state,zI v1.1.tries])],[(i0,[.gptr i0_0 0,hdM i0m1 pi0m1 a0.events si0m1,.list false 4 (a0.holds.map zB),zB a0.press.a,zB a0.press.b,zB a0.press.c]),(i0m1,lob pi0m1 bB a0.events si0m1),(i0_0,[zI a0_0.c.capacity.a,zI a0_0.c.capacity.b,zI a0_0.c.capacity.c,zI a0_0.c.allocatable.a,zI a0_0.c.allocatable.b,zI a0_0.c.allocatable.c,.list false 102 (a0_0.c.thresholds.map aL),zI a0_0.c.period,zI a0_0.c.retries,zI a0_0.c.maxAge,zI a0_0.c.dead,.gptr i0_0_0 0,.gptr i0_0_1 0,zI a0_0.state.round,.list false 83 (a0_0.state.pods.map aN),zB a0_0.state.on.a,zB a0_0.state.on.b,zB a0_0.state.on.c,.list false 3 (a0_0.since.map zI),zI a0_0.calm.a,zI a0_0.calm.b,zI a0_0.calm.c,zI a0_0.sample.time,zI a0_0.sample.avail.a,zI a0_0.sample.avail.b,zI a0_0.sample.avail.c,.list false 280 (a0_0.sample.use.map bC),zB a0_0.fresh,zI a0_0.fuse,zB a0_0.dead]),(i0_0_0,[.list false 4 (a0_0_0.queue.l.map zB),zI a0_0_0.retries,hdM i0_0_0m2 pi0_0_0m2 a0_0_0.boxes si0_0_0m2,.list false 150 (a0_0_0.images.map aQ)]),(i0_0_0m2,lob pi0_0_0m2 aG a0_0_0.boxes si0_0_0m2),(i0_0_1,[.gptr i0_0_1_0 0,zI a0_0_1.version]),(i0_0_1_0,[.gmap i0_0_1_0_0,.list true 69 (a0_0_1_0.open_.map bG)]),(i0_0_1_0_0,aV keS (fun (x:List UInt8)=> .list false 5 (x.map zU8)) a0_0_1_0_0)],base⟩∧nF a0 a0_0 a0_0_0 a0_0_1 a0_0_1_0 a0_0_1_0_0 a1 v1=some r) ?_ ?_
  ·refine srd 4 rfl [0,3,4,5,6,96] [3,6] rfl (aD h rfl (fun h=>?_) (fun h=>?_))
   ·cases h
   refine aA (rn 4 rfl (aC.done [0,3,4,5,6,96] [3,6] rfl ?_))
   exact ⟨rfl,h⟩
  rintro _ ⟨rfl,h⟩
  unfold nF at h
  refine aD h rfl (fun h=>?_) (fun h=>?_)
  ·cases h
  refine srd 4 rfl [0,3,4,5,6,113] [3,6] rfl (aD h rfl (fun h=>?_) (fun h=>?_))
  ·refine aB (sP [0,1,2,3,4,5,6,7,8,9,10,11,12,13,14,15,16,17,18,19,20,21,22] (by kernel_rfl) (dB.of ?_))
   refine bQ 0 rfl [] [] rfl trivial (fun _ _ _=>rfl) trivial ?_
   refine bQ 1 rfl [] [] rfl trivial (fun _ _ _=>rfl) trivial ?_
   refine bQ 2 rfl [] [] rfl trivial (fun _ _ _=>rfl) trivial ?_
   refine AK 3 rfl [0] rfl (fun _ _=>rfl) ⟨rfl,trivial⟩ ?_
   refine bQ 4 rfl [] [] rfl trivial (fun _ _ _=>rfl) trivial ?_
   refine bQ 5 rfl [] [] rfl trivial (fun _ _ _=>rfl) trivial ?_
   refine AK 6 rfl [2] rfl (fun _ _=>rfl) ⟨rfl,trivial⟩ ?_
   refine bQ 7 rfl [] [] rfl trivial (fun _ _ _=>rfl) trivial ?_
   refine bQ 8 rfl [] [] rfl trivial (fun _ _ _=>rfl) trivial ?_
   refine bQ 9 rfl [] [] rfl trivial (fun _ _ _=>rfl) trivial ?_
   refine bQ 10 rfl [] [(3,_)] rfl ⟨rfl,trivial⟩ (fun _ _ _=>rfl) trivial ?_
   refine bQ 11 rfl [] [] rfl trivial (fun _ _ _=>rfl) trivial ?_
   refine bQ 12 rfl [] [] rfl trivial (fun _ _ _=>rfl) trivial ?_
   refine bQ 13 rfl [] [(3,_)] rfl ⟨rfl,trivial⟩ (fun _ _ _=>rfl) trivial ?_
   refine bQ 14 rfl [] [] rfl trivial (fun _ _ _=>rfl) trivial ?_
   obtain ⟨v10,hv10,h⟩:=bI h
   refine kcg (ι:=Nat×Slk 4×Slk 4) ((0,Slk.nil,Slk.nil)) (fun g_=>[(133,[],.tuple [zB v10.1,zB v10.2.1,zI v10.2.2.1])]) (fun g_=>[(i0_0_0,[.list false 4 (v10.2.2.2.queue.l.map zB),zI v10.2.2.2.retries,hdM g_.1 g_.2.1 v10.2.2.2.boxes g_.2.2,.list false 150 (v10.2.2.2.images.map aQ)]),(g_.1,lob g_.2.1 aG v10.2.2.2.boxes g_.2.2),(i0,[.gptr i0_0 0,hdM i0m1 pi0m1 a0.events si0m1,.list false 4 (a0.holds.map zB),zB a0.press.a,zB a0.press.b,zB a0.press.c]),(i0m1,lob pi0m1 bB a0.events si0m1),(i0_0,[zI a0_0.c.capacity.a,zI a0_0.c.capacity.b,zI a0_0.c.capacity.c,zI a0_0.c.allocatable.a,zI a0_0.c.allocatable.b,zI a0_0.c.allocatable.c,.list false 102 (a0_0.c.thresholds.map aL),zI a0_0.c.period,zI a0_0.c.retries,zI a0_0.c.maxAge,zI a0_0.c.dead,.gptr i0_0_0 0,.gptr i0_0_1 0,zI a0_0.state.round,.list false 83 (a0_0.state.pods.map aN),zB a0_0.state.on.a,zB a0_0.state.on.b,zB a0_0.state.on.c,.list false 3 (a0_0.since.map zI),zI a0_0.calm.a,zI a0_0.calm.b,zI a0_0.calm.c,zI a0_0.sample.time,zI a0_0.sample.avail.a,zI a0_0.sample.avail.b,zI a0_0.sample.avail.c,.list false 280 (a0_0.sample.use.map bC),zB a0_0.fresh,zI a0_0.fuse,zB a0_0.dead]),(i0_0_1,[.gptr i0_0_1_0 0,zI a0_0_1.version]),(i0_0_1_0,[.gmap i0_0_1_0_0,.list true 69 (a0_0_1_0.open_.map bG)]),(i0_0_1_0_0,aV keS (fun (x:List UInt8)=> .list false 5 (x.map zU8)) a0_0_1_0_0)]) 15 rfl [(124,[],_),(125,[],_),(128,[],_),(131,[],_),(132,[],_)] ⟨rfl,rfl,rfl,rfl,rfl,trivial⟩ (fun fr X hf=>?_) (by kernel_rfl) (fun _=>⟨rfl,by kernel_rfl⟩) ?_
   ·refine bL [3,3] Tryz.call75 (CN hv10) rfl rfl ?_
    rintro _ _ ⟨m11,pm11,sm11,rfl,rfl⟩
    exact aW ⟨(m11,pm11,sm11),rfl⟩
   rintro ⟨m11,pm11,sm11⟩
   refine bQ 16 rfl [] [] rfl trivial (fun _ _ _=>rfl) trivial ?_
   refine bQ 17 rfl [] [] rfl trivial (fun _ _ _=>rfl) trivial ?_
   refine bQ 18 rfl [] [] rfl trivial (fun _ _ _=>rfl) trivial ?_
   refine bQ 19 rfl [] [] rfl trivial (fun _ _ _=>rfl) trivial ?_
   refine bQ 20 rfl [] [] rfl trivial (fun _ _ _=>rfl) trivial ?_
   refine bQ 21 rfl [] [] rfl trivial (fun _ _ _=>rfl) trivial ?_
   refine bQ 22 rfl [] [] rfl trivial (fun _ _ _=>rfl) trivial ?_
   refine dB.nil (by kernel_rfl) ⟨rfl,?_⟩
   refine aC.objs [2,2,2,0,0,0,0,0] rfl ?_
   refine aC.done [0,3,9] [3] rfl (srd 1 rfl [0,3,137] [3] rfl (aD h rfl (fun h=>?_) (fun h=>?_)))
   ·refine aA (rn 7 rfl ?_)
    obtain ⟨v12,hv12,h⟩:=bI h
    refine bL [0,0,0,0,0,0,0,0] Tryz.call60 (jH hv12) rfl rfl ?_
    rintro _ _ ⟨m13,pm13,sm13,rfl,rfl⟩
    refine aC.done [] [] rfl ?_
    cases h
    exact ⟨.inr rfl,_,[0,0,0,0,0,0,0,0],_,_,rfl,rfl,rfl,m13,pm13,sm13,m11,pm11,sm11,rfl,rfl⟩
   cases h
  refine srd 4 rfl [0,4,5,6,146] [6] rfl (aD h rfl (fun h=>?_) (fun h=>?_))
  ·refine aB (aA (rh 9 [0,2] [] rfl ⟨rfl,rfl,trivial⟩ ?_))
   obtain ⟨v14,hv14,h⟩:=bI h
   refine bL [3,3] Tryz.call59 (uP hv14) rfl rfl ?_
   rintro _ _ ⟨m15,pm15,sm15,rfl,rfl⟩
   refine rn 5 rfl (aC.objs [2,2,2,0,0,0,0,0] rfl ?_)
   refine aC.done [0,4,11] [] rfl (srd 1 rfl [0,4,163] [] rfl (aD h rfl (fun h=>?_) (fun h=>?_)))
   ·refine aA (rn 2 rfl ?_)
    obtain ⟨v16,hv16,h⟩:=bI h
    refine bL [0,0,0,0,0,0,0,0] Tryz.call60 (jH hv16) rfl rfl ?_
    rintro _ _ ⟨m17,pm17,sm17,rfl,rfl⟩
    refine aC.done [] [] rfl ?_
    cases h
    exact ⟨.inr rfl,_,[0,0,0,0,0,0,0,0],_,_,rfl,rfl,rfl,m17,pm17,sm17,m15,pm15,sm15,rfl,rfl⟩
   cases h
  cases h
def kT :Option (List (List UInt8)):=
  some ([]:List (List UInt8))
def tZ (x1:Int) (q2:Int→Option (List (List UInt8))):Option (List (List UInt8)):=
  q2 (w64 (x1+1))
def iW (a0:List SContainer) (a1:List (List UInt8)) (k290:Option (List (List UInt8))):Nat→Int→Option (List (List UInt8))
  |0,_=>none
  |m2+1,x1=>
   bif decide (x1<(a0.length:Int)) then
     bO (idx a0 x1) fun v2=>
     bO (bif (v2.box.state==3) then (f6 a1 v2.id) else some default) fun v3=>
     bif (v2.box.state==3)&&(!v3) then none else
     tZ x1 (iW a0 a1 k290 m2)
   else
     k290
def y8 (a0:List SContainer) (a1:List (List UInt8)):Option (List (List UInt8)):=
  iW a0 a1 kT aT 0
theorem JG {a0:List SContainer} {a1:List (List UInt8)} {r:List (List UInt8)} (h:y8 a0 a1=some r):aI Tryz.prog 76 [.list false 214 (a0.map aG),.list false 9 (a1.map AV.str)] (.list true 9 (r.map AV.str)):=by
  refine aK Tryz.func76 rfl rfl rfl rfl fun base=>?_
  unfold y8 at h
  refine srd 1 rfl [0,1] [] rfl (srd 1 rfl [0,1,5] [] rfl (aS (fun e=>e=⟨[(5,[],.list true 9 (([]:List (List UInt8)).map AV.str))],[],[],[],base⟩∧kT=some r) ?_ ?_))
  ·refine aB (aA (rh 3 [a0.length] [] rfl ⟨List.length_map ..,trivial⟩ (aC.done [1,5,8,9,10] [] rfl (aF (aU (fun m2 e=>∃x1,e=⟨[(1,[],.list false 9 (a1.map AV.str)),(5,[],.list true 9 (([]:List (List UInt8)).map AV.str)),(8,[],.list false 214 (a0.map aG)),(9,[],zI (a0.length:Int)),(10,[],zI x1)],[],[],[],base⟩∧iW a0 a1 (kT) m2 x1=some r) aT ⟨_,rfl,h⟩ ?_ ?_)))))
   ·rintro m2 _ ⟨x1,rfl,h⟩
    rw [iW] at h
    refine srd 1 rfl [1,5,8,9,10,11] [] rfl (aB (aD h rfl (fun h=>?_) (fun h=>?_)))
    ·refine aE (aS (fun e=>e=⟨[(1,[],.list false 9 (a1.map AV.str)),(5,[],.list true 9 (([]:List (List UInt8)).map AV.str)),(8,[],.list false 214 (a0.map aG)),(9,[],zI (a0.length:Int)),(10,[],zI x1)],[],[],[],base⟩∧tZ x1 (iW a0 a1 (kT) m2)=some r) ?_ ?_)
     ·refine aF (aB (aA ?_))
      obtain ⟨v2,hv2,h⟩:=bI h
      refine rd (rIx hv2) ?_
      refine rn 3 rfl (aC.done [1,5,7,8,9,10] [7] rfl (aB (aA (rn 8 rfl ?_))))
      obtain ⟨v3,hv3,h⟩:=bI h
      refine gV 18 true [] Tryz.call119 (fun ht=>n8 (gd hv3 (ht.1 _ rfl))) rfl ?_
      refine rn 2 rfl (aC.done [1,5,7,8,9,10,24] [7] rfl (aD h rfl (fun h=>?_) (fun h=>?_)))
      ·cases h
      refine aR [1,5,8,9,10] [] rfl (aE ?_)
      exact ⟨rfl,h⟩
     rintro _ ⟨rfl,h⟩
     unfold tZ at h
     refine aA (rn 2 rfl (aC.done [1,5,8,9,10] [] rfl ?_))
     exact ⟨_,rfl,h⟩
    refine aR [5] [] rfl (CWp.exit ?_)
    exact ⟨rfl,h⟩
   rintro _ ⟨_,_,h⟩
   rw [iW] at h;cases h
  rintro _ ⟨rfl,h⟩
  unfold kT at h
  refine aB (aA (rh 2 [] [31,4] rfl trivial (aC.done [4] [] rfl ?_)))
  cases h;exact aJ ⟨.inl rfl,rfl,rfl⟩
end
end Go.Proofs.YtoolgdcjfkjlnaaGreatDoor
