/- GreatDoorM10. -/
import Derived.Test.YtoolgdcjfkjlnaaGreatDoorM9
set_option maxHeartbeats 2000000
namespace Go.Proofs.YtoolgdcjfkjlnaaGreatDoor
section
open Go.RowKit
def yO (a0:List ((List UInt8)×(List UInt8))) (a1:SOp):Option (List ((List UInt8)×(List UInt8))):=
  bif a1.kind==1 then
    bO (d5 a1.bytes) fun v1=>
    some (xR a1.name v1 a0)
  else
    bif a1.kind==3 then none else
    bif a1.kind==2 then
      bif (cO a1.name a0).isSome then
        some (xR a1.to_ ((cO a1.name a0).getD ([]:List UInt8)) (w6 a1.name a0))
      else none
    else none
theorem I0 {a0:List ((List UInt8)×(List UInt8))} {a1:SOp} {i0:Nat} {r:List ((List UInt8)×(List UInt8))} (h:yO a0 a1=some r):aO Tryz.prog 106 [.gmap i0,bG a1] [(i0,aV keS (fun (x:List UInt8)=> .list false 5 (x.map zU8)) a0)] (fun v outs=>v= .tuple []∧outs=[(i0,aV keS (fun (x:List UInt8)=> .list false 5 (x.map zU8)) r)]):=by
  refine a8 Tryz.func106 rfl rfl rfl rfl fun base=>?_
  unfold yO at h
  refine srd 1 rfl [0,3] [3] rfl (srd 2 rfl [0,3,7] [3] rfl (aF (srd 2 rfl [0,3,7,8] [3] rfl (aD h rfl (fun h=>?_) (fun h=>?_)))))
  ·refine b8 6 (by kernel_rfl) ?_
   refine cfq rfl rfl (fun _ _ _=>rfl) ?_
   refine cfq rfl rfl (fun _ _ _=>rfl) ?_
   refine cfp rfl [] [(3,_)] rfl ⟨rfl,trivial⟩ (fun _ _ _=>rfl) trivial ?_
   refine cfq rfl rfl (fun _ _ _=>rfl) ?_
   refine cfp rfl [] [(3,_)] rfl ⟨rfl,trivial⟩ (fun _ _ _=>rfl) trivial ?_
   obtain ⟨v1,hv1,h⟩:=bI h
   refine cf1 (d:=15) (v:= .list true 5 (v1.map zU8)) rfl [(14,[],_)] [] ⟨rfl,trivial⟩ trivial (fun fr X O hf=>?_) ?_
   ·refine aP (hsub:=sbF rfl hf) Tryz.call45 (fN hv1) rfl ?_
    exact aW rfl
   refine b6.nil ⟨by kernel_rfl,?_⟩
   refine QI 0 v1 (lE Tryz.underlying9) Tryz.underlying110 (fun _=>rfl) (fun _ _ _=>uF rfl) ?_
   refine aC.done [] [] rfl ?_
   cases h
   exact ⟨.inr rfl,_,[0],_,_,rfl,rfl,rfl,rfl,rfl⟩
  refine srd 2 rfl [0,3,7,16] [3] rfl (aD h rfl (fun h=>?_) (fun h=>?_))
  ·cases h
  refine srd 2 rfl [0,3,21] [3] rfl (aD h rfl (fun h=>?_) (fun h=>?_))
  ·refine aB (aA (rn 3 rfl (QC 0 ([]:List UInt8) (lE Tryz.underlying9) Tryz.underlying110 WH (fun _ _=> .nil _ _) (fun _=>rfl) (fun _ _ _=>uF rfl) ?_)))
   refine rn 5 rfl (aC.done [0,3,4,5] [3] rfl (srd 1 rfl [0,3,4,30] [3] rfl (aD h rfl (fun h=>?_) (fun h=>?_))))
   ·refine aB (aA (rn 3 rfl (WY 0 (lE Tryz.underlying9) Tryz.underlying110 (fun _ _ _=>uF rfl) ?_)))
    refine aC.done [0,3,4] [3] rfl ?_
    refine aA (rn 4 rfl (QI 0 ((cO a1.name a0).getD ([]:List UInt8)) (lE Tryz.underlying9) Tryz.underlying110 (fun _=>rfl) (fun _ _ _=>uF rfl) ?_))
    refine aC.done [] [] rfl ?_
    cases h
    exact ⟨.inr rfl,_,[0],_,_,rfl,rfl,rfl,rfl,rfl⟩
   cases h
  cases h
def kA (x3:List ((List UInt8)×(List UInt8))):Option (List ((List UInt8)×(List UInt8))):=
  some x3
def gQ (a0:SDisk) (k290:(List ((List UInt8)×(List UInt8)))→Option (List ((List UInt8)×(List UInt8)))):Nat→(List ((List UInt8)×(List UInt8)))→Int→Option (List ((List UInt8)×(List UInt8)))
  |0,_,_=>none
  |m2+1,x4,x5=>
   bif decide (x5<(a0.open_.length:Int)) then
     bO (idx a0.open_ x5) fun v6=>
     bO (yO x4 v6) fun v7=>
     (gQ a0 k290 m2) v7 (w64 (x5+1))
   else
     k290 x4
def nH (a0:SDisk) (a0_0:List ((List UInt8)×(List UInt8))):Option (List ((List UInt8)×(List UInt8))):=
  bO (O8 a0_0) fun v1=>
  gQ a0 kA aT v1 0
theorem wR {a0:SDisk} {a0_0:List ((List UInt8)×(List UInt8))} {i0 i0_0:Nat} {r:List ((List UInt8)×(List UInt8))} (h:nH a0 a0_0=some r):aO Tryz.prog 49 [.gptr i0 0] [(i0,[.gmap i0_0,.list true 69 (a0.open_.map bG)]),(i0_0,aV keS (fun (x:List UInt8)=> .list false 5 (x.map zU8)) a0_0)] (fun v outs=>∃(h0_:Nat),v= .gmap h0_∧outs=[(h0_,aV keS (fun (x:List UInt8)=> .list false 5 (x.map zU8)) r),(i0,[.gmap i0_0,.list true 69 (a0.open_.map bG)]),(i0_0,aV keS (fun (x:List UInt8)=> .list false 5 (x.map zU8)) a0_0)]):=by
  refine a8 Tryz.func49 rfl rfl rfl rfl fun base=>?_
  unfold nH at h
  refine srd 1 rfl [0] [] rfl (aB (aA (rh 4 [0] [] rfl ⟨rfl,trivial⟩ ?_)))
  obtain ⟨v1,hv1,h⟩:=bI h
  refine bL [1] Tryz.call105 (RY hv1) rfl rfl ?_
  rintro _ _ ⟨o2,rfl,rfl⟩
  refine rn 1 rfl (aC.objs [0,1,0] rfl ?_)
  refine aC.done [0,3] [] rfl (aS (fun e=>∃x3,e=⟨[(3,[],.gmap o2)],[],[],[(o2,aV keS (fun (x:List UInt8)=> .list false 5 (x.map zU8)) x3),(i0,[.gmap i0_0,.list true 69 (a0.open_.map bG)]),(i0_0,aV keS (fun (x:List UInt8)=> .list false 5 (x.map zU8)) a0_0)],base⟩∧kA x3=some r) ?_ ?_)
  ·refine aB (aA (rh 6 [1,a0.open_.length] [] rfl ⟨List.length_map ..,rfl,trivial⟩ (aC.done [3,14,15,16] [] rfl (aF (aU (fun m2 e=>∃x4 x5,e=⟨[(3,[],.gmap o2),(14,[],.list false 69 (a0.open_.map bG)),(15,[],zI (a0.open_.length:Int)),(16,[],zI x5)],[],[],[(o2,aV keS (fun (x:List UInt8)=> .list false 5 (x.map zU8)) x4),(i0,[.gmap i0_0,.list true 69 (a0.open_.map bG)]),(i0_0,aV keS (fun (x:List UInt8)=> .list false 5 (x.map zU8)) a0_0)],base⟩∧gQ a0 (kA) m2 x4 x5=some r) aT ⟨_,_,rfl,h⟩ ?_ ?_)))))
   ·rintro m2 _ ⟨x4,x5,rfl,h⟩
    rw [gQ] at h
    refine srd 1 rfl [3,14,15,16,17] [] rfl (aB (aD h rfl (fun h=>?_) (fun h=>?_)))
    ·refine aE (aB (aF (aB (aA ?_))))
     obtain ⟨v6,hv6,h⟩:=bI h
     refine rd (rIx hv6) ?_
     refine rn 3 rfl (aC.done [3,5,14,15,16] [5] rfl ?_)
     refine aA (rn 2 rfl ?_)
     obtain ⟨v7,hv7,h⟩:=bI h
     refine bR [0] Tryz.call106 (I0 hv7) rfl rfl ?_
     refine aC.done [3,14,15,16] [] rfl ?_
     refine aA (rn 2 rfl (aC.done [3,14,15,16] [] rfl ?_))
     exact ⟨_,_,rfl,h⟩
    refine aR [3] [] rfl (CWp.exit ?_)
    exact ⟨_,rfl,h⟩
   rintro _ ⟨_,_,_,h⟩
   rw [gQ] at h;cases h
  rintro _ ⟨x3,rfl,h⟩
  unfold kA at h
  refine srd 2 rfl [2] [] rfl (aJ ?_)
  cases h
  exact ⟨.inl rfl,_,[0,0,0],_,_,rfl,rfl,rfl,o2,rfl,rfl⟩
def nG (a0:SDisk) (a0_0:List ((List UInt8)×(List UInt8))) (a1:List UInt8):Option ((List UInt8)×Int):=
  bO (nH a0 a0_0) fun v1=>
  bif !((cO a1 v1).isSome) then
    some (([]:List UInt8),4)
  else
    bO (d5 ((cO a1 v1).getD ([]:List UInt8))) fun v3=>
    some (v3,0)
theorem wQ {a0:SDisk} {a0_0:List ((List UInt8)×(List UInt8))} {a1:List UInt8} {i0 i0_0:Nat} {r:(List UInt8)×Int} (h:nG a0 a0_0 a1=some r):aO Tryz.prog 92 [.gptr i0 0,.str a1] [(i0,[.gmap i0_0,.list true 69 (a0.open_.map bG)]),(i0_0,aV keS (fun (x:List UInt8)=> .list false 5 (x.map zU8)) a0_0)] (fun v outs=>v= .tuple [.list true 5 (r.1.map zU8),zI r.2]∧outs=[(i0,[.gmap i0_0,.list true 69 (a0.open_.map bG)]),(i0_0,aV keS (fun (x:List UInt8)=> .list false 5 (x.map zU8)) a0_0)]):=by
  refine a8 Tryz.func92 rfl rfl rfl rfl fun base=>?_
  unfold nG at h
  refine srd 2 rfl [0,1] [] rfl (aB (aA (rn 1 rfl ?_)))
  obtain ⟨v1,hv1,h⟩:=bI h
  refine bL [0,0] Tryz.call49 (wR hv1) rfl rfl ?_
  rintro _ _ ⟨o2,rfl,rfl⟩
  refine rn 1 rfl (QC 0 ([]:List UInt8) (lE Tryz.underlying9) Tryz.underlying110 WH (fun _ _=> .nil _ _) (fun _=>rfl) (fun _ _ _=>uF rfl) ?_)
  refine rn 5 rfl (aC.objs [1,1] rfl ?_)
  refine aC.done [6,7] [] rfl (aB (srd 2 rfl [6,16] [] rfl (aD h rfl (fun h=>?_) (fun h=>?_))))
  ·refine srd 2 rfl [4,5] [] rfl ?_
   cases h;exact aJ ⟨.inl rfl,_,[0,0],_,_,rfl,rfl,rfl,rfl,rfl⟩
  refine aE (aB (aA (rn 1 rfl ?_)))
  obtain ⟨v3,hv3,h⟩:=bI h
  refine aP Tryz.call45 (fN hv3) rfl ?_
  refine rh 2 [] [4] rfl trivial (aC.done [4,5] [] rfl ?_)
  cases h;exact aJ ⟨.inl rfl,_,[0,0],_,_,rfl,rfl,rfl,rfl,rfl⟩
def tH (a0:List UInt8):Option Bool:=
  some ((decide ((a0.length:Int)≥1))&&(decide ((a0.length:Int)≤32)))
theorem BR {a0:List UInt8} {r:Bool} (h:tH a0=some r):aI Tryz.prog 44 [.str a0] (zB r):=by
  refine aK Tryz.func44 rfl rfl rfl rfl fun base=>?_
  unfold tH at h
  refine srd 1 rfl [0] [] rfl (srd 9 rfl [2] [] rfl ?_)
  cases h;exact aJ ⟨.inl rfl,rfl,rfl⟩
def mC (a0:SDisk) (_a0_0:List ((List UInt8)×(List UInt8))) (a1:SOp):Option (Int×SDisk):=
  bO (bif ((decide (a1.kind<1))||(decide (a1.kind>3))) then some default else (tH a1.name)) fun v1=>
  bO (bif (((decide (a1.kind<1))||(decide (a1.kind>3)))||(!v1)) then some default else (bif (a1.kind==2) then (tH a1.to_) else some default)) fun v2=>
  bif (((decide (a1.kind<1))||(decide (a1.kind>3)))||(!v1))||((a1.kind==2)&&(!v2)) then none else
  bO (d5 a1.bytes) fun v3=>
  bO (bM a0.open_ [(⟨a1.kind,a1.name,a1.to_,v3⟩:SOp)]) fun v4=>
  some (0,(⟨v4⟩:SDisk))
theorem sB {a0:SDisk} {a0_0:List ((List UInt8)×(List UInt8))} {a1:SOp} {i0 i0_0:Nat} {r:Int×SDisk} (h:mC a0 a0_0 a1=some r):aO Tryz.prog 19 [.gptr i0 0,bG a1] [(i0,[.gmap i0_0,.list true 69 (a0.open_.map bG)]),(i0_0,aV keS (fun (x:List UInt8)=> .list false 5 (x.map zU8)) a0_0)] (fun v outs=>v=zI r.1∧outs=[(i0,[.gmap i0_0,.list true 69 (r.2.open_.map bG)]),(i0_0,aV keS (fun (x:List UInt8)=> .list false 5 (x.map zU8)) a0_0)]):=by
  refine a8 Tryz.func19 rfl rfl rfl rfl fun base=>?_
  unfold mC at h
  refine srd 2 rfl [0,3] [3] rfl (aB (aB (aA (rn 11 rfl (iB [0,3,13,15] rfl ?_)))))
  obtain ⟨v1,hv1,h⟩:=bI h
  refine gV 13 false [] Tryz.call44 (fun ht=>BR (gdf hv1 (ht.1 _ rfl))) rfl ?_
  refine rn 9 rfl (iB [0,3,19,23,25] rfl ?_)
  obtain ⟨v2,hv2,h⟩:=bI h
  refine gV 23 true [(19,false)] Tryz.call44 (fun ht=>BR (gd (gdf hv2 (ht.2.1 _ rfl)) (ht.1 _ rfl))) rfl ?_
  refine rn 3 rfl (aC.done [0,3,29] [3] rfl (aD h rfl (fun h=>?_) (fun h=>?_)))
  ·cases h
  refine aE (aB (aA (rn 2 rfl ?_)))
  obtain ⟨v3,hv3,h⟩:=bI h
  refine aP Tryz.call45 (fN hv3) rfl ?_
  refine rn 2 rfl (aC.done [0,3] [3] rfl (aB (b8 8 (by kernel_rfl) ?_)))
  refine cfq rfl rfl (fun _ _ _=>rfl) ?_
  refine cfq rfl rfl (fun _ _ _=>rfl) ?_
  refine cfq rfl rfl (fun _ _ _=>rfl) ?_
  refine cfq rfl rfl (fun _ _ _=>rfl) ?_
  refine cfo (wr:=[(38,[],.list true 69 (a0.open_.map bG))]) (O1:=[(i0,[.gmap i0_0,.list false 69 (a0.open_.map bG)]),(i0_0,aV keS (fun (x:List UInt8)=> .list false 5 (x.map zU8)) a0_0)]) rfl [(37,[],_)] ⟨rfl,trivial⟩ (fun fr X hf=>?_) ?_
  ·exact rh 1 [0] [38] rfl ⟨rfl,trivial⟩ (aW rfl)
  refine cfp rfl [] [(3,_)] rfl ⟨rfl,trivial⟩ (fun _ _ _=>rfl) trivial ?_
  refine cfb (d:=40) (v:= .list true 69 ([(⟨a1.kind,a1.name,a1.to_,v3⟩:SOp)].map bG)) rfl rfl (fun _ _ _=>rfl) (fun _ _ _=>rfl) ?_
  obtain ⟨v4,hv4,h⟩:=bI h
  refine cf2 (d:=41) (s:=38) (v:= .list true 69 (v4.map bG)) (u:= .list false 69 (a0.open_.map bG)) rfl [(38,[],_),(40,[],_)] [] ⟨rfl,rfl,trivial⟩ trivial (fun fr X O hf=>?_) ?_
  ·refine iG (f:=bG) hv4 ?_
   exact aW rfl
  refine b6.nil ⟨by kernel_rfl,?_⟩
  refine rh 3 [0] [41] rfl ⟨rfl,trivial⟩ (aC.done [] [] rfl (srd 1 rfl [4] [] rfl ?_))
  cases h;exact aJ ⟨.inl rfl,_,[0,0],_,_,rfl,rfl,rfl,rfl,rfl⟩
def jU (a0:SDisk) (a0_0:List ((List UInt8)×(List UInt8))):Option ((List ((List UInt8)×(List UInt8)))×SDisk):=
  bO (nH a0 a0_0) fun v1=>
  some (v1,(⟨([]:List SOp)⟩:SDisk))
theorem o0 {a0:SDisk} {a0_0:List ((List UInt8)×(List UInt8))} {i0 i0_0:Nat} {r:(List ((List UInt8)×(List UInt8)))×SDisk} (h:jU a0 a0_0=some r):aO Tryz.prog 22 [.gptr i0 0] [(i0,[.gmap i0_0,.list true 69 (a0.open_.map bG)]),(i0_0,aV keS (fun (x:List UInt8)=> .list false 5 (x.map zU8)) a0_0)] (fun v outs=>∃(h0_:Nat),v= .tuple []∧outs=[(h0_,aV keS (fun (x:List UInt8)=> .list false 5 (x.map zU8)) r.1),(i0,[.gmap h0_,.list true 69 (r.2.open_.map bG)])]):=by
  refine a8 Tryz.func22 rfl rfl rfl rfl fun base=>?_
  unfold jU at h
  refine aA (rn 3 rfl ?_)
  obtain ⟨v1,hv1,h⟩:=bI h
  refine bL [0,0] Tryz.call49 (wR hv1) rfl rfl ?_
  rintro _ _ ⟨o2,rfl,rfl⟩
  refine rh 5 [1] [] rfl ⟨rfl,trivial⟩ (V5 1 ?_)
  refine aC.objs [1,0] rfl ?_
  refine aC.done [] [] rfl ?_
  cases h
  exact ⟨.inr rfl,_,[1,0],_,_,rfl,rfl,rfl,o2,rfl,rfl⟩
def yL (a0:SDisk) (a0_0:List ((List UInt8)×(List UInt8))):Option Unit:=
  bO (nG a0 a0_0 [116,101,109,112]) fun v1=>
  bif v1.2==0 then none else
  some ()
theorem IY {a0:SDisk} {a0_0:List ((List UInt8)×(List UInt8))} {i0 i0_0:Nat} {r:Unit} (h:yL a0 a0_0=some r):aO Tryz.prog 91 [.gptr i0 0] [(i0,[.gmap i0_0,.list true 69 (a0.open_.map bG)]),(i0_0,aV keS (fun (x:List UInt8)=> .list false 5 (x.map zU8)) a0_0)] (fun v outs=>v= .tuple []∧outs=[(i0,[.gmap i0_0,.list true 69 (a0.open_.map bG)]),(i0_0,aV keS (fun (x:List UInt8)=> .list false 5 (x.map zU8)) a0_0)]):=by
  refine a8 Tryz.func91 rfl rfl rfl rfl fun base=>?_
  unfold yL at h
  refine aB (aA (rn 1 rfl ?_))
  obtain ⟨v1,hv1,h⟩:=bI h
  refine bR [0,0] Tryz.call92 (wQ hv1) rfl rfl ?_
  refine rh 5 [] [4,7,2] rfl trivial (aC.done [0,3] [] rfl (srd 2 rfl [0,10] [] rfl (aD h rfl (fun h=>?_) (fun h=>?_))))
  ·cases h
  refine aE ?_
  cases h
  exact ⟨.inr rfl,_,[0,0],_,_,rfl,rfl,rfl,rfl,rfl⟩
def fO (x1:V16 Int):Option (V16 Int):=
  some x1
def vM (x3:Int) (q2:(V16 Int)→Int→Option (V16 Int)) (x4:V16 Int):Option (V16 Int):=
  q2 x4 (w64 (x3+1))
def mU (x2:V16 Int) (x3:Int) (q2:(V16 Int)→Int→Option (V16 Int)) (x5:Int):Option (V16 Int):=
  bO (idx [x2.a,x2.b,x2.c,x2.d,x2.e,x2.f,x2.g,x2.h,x2.i,x2.j,x2.k,x2.l,x2.m,x2.n,x2.o,x2.p] x3) fun _v6=>
  vM x3 q2 (⟨(bif x3==0 then x5 else x2.a),(bif x3==1 then x5 else x2.b),(bif x3==2 then x5 else x2.c),(bif x3==3 then x5 else x2.d),(bif x3==4 then x5 else x2.e),(bif x3==5 then x5 else x2.f),(bif x3==6 then x5 else x2.g),(bif x3==7 then x5 else x2.h),(bif x3==8 then x5 else x2.i),(bif x3==9 then x5 else x2.j),(bif x3==10 then x5 else x2.k),(bif x3==11 then x5 else x2.l),(bif x3==12 then x5 else x2.m),(bif x3==13 then x5 else x2.n),(bif x3==14 then x5 else x2.o),(bif x3==15 then x5 else x2.p)⟩:V16 Int)
def qQ (x7:Int) (q5:Int→Int→Option (V16 Int)) (x9:Int):Option (V16 Int):=
  q5 (w64 (x7+1)) x9
def iA (k590:Int→Option (V16 Int)):Nat→Int→Int→Option (V16 Int)
  |0,_,_=>none
  |m5+1,x7,x8=>
   bif decide (x7<4) then
     bif (IntKind.u32.wrap (BitVec.ofInt 32 x8&&&BitVec.ofInt 32 1).toNat)==1 then
       qQ x7 (iA k590 m5) (IntKind.u32.wrap (BitVec.ofInt 32 (lH .u32 x8 1)^^^BitVec.ofInt 32 3988292384).toNat)
     else
       qQ x7 (iA k590 m5) (lH .u32 x8 1)
   else
     k590 x8
def eQ (k290:(V16 Int)→Option (V16 Int)):Nat→(V16 Int)→Int→Option (V16 Int)
  |0,_,_=>none
  |m2+1,x2,x3=>
   bif decide (x3<16) then
     iA (mU x2 x3 (eQ k290 m2)) aT 0 (IntKind.u32.wrap x3)
   else
     k290 x2
def BF :Option (V16 Int):=
  eQ fO aT (⟨0,0,0,0,0,0,0,0,0,0,0,0,0,0,0,0⟩:V16 Int) 0
theorem LH {r:V16 Int} (h:BF=some r):aI Tryz.prog 340 [] (U9 r):=by
  refine aK Tryz.func340 rfl rfl rfl rfl fun base=>?_
  unfold BF at h
  refine srd 1 rfl [0] [0] rfl (srd 1 rfl [0,1] [0,1] rfl (aS (fun e=>∃x1,e=⟨[(0,[],.lptr 0 0),(1,[],.lptr 1 0)],[],[(0,[.lit (.int .u32 0),.lit (.int .u32 0),.lit (.int .u32 0),.lit (.int .u32 0),.lit (.int .u32 0),.lit (.int .u32 0),.lit (.int .u32 0),.lit (.int .u32 0),.lit (.int .u32 0),.lit (.int .u32 0),.lit (.int .u32 0),.lit (.int .u32 0),.lit (.int .u32 0),.lit (.int .u32 0),.lit (.int .u32 0),.lit (.int .u32 0)]),(1,[.lit (.int .u32 x1.a),.lit (.int .u32 x1.b),.lit (.int .u32 x1.c),.lit (.int .u32 x1.d),.lit (.int .u32 x1.e),.lit (.int .u32 x1.f),.lit (.int .u32 x1.g),.lit (.int .u32 x1.h),.lit (.int .u32 x1.i),.lit (.int .u32 x1.j),.lit (.int .u32 x1.k),.lit (.int .u32 x1.l),.lit (.int .u32 x1.m),.lit (.int .u32 x1.n),.lit (.int .u32 x1.o),.lit (.int .u32 x1.p)])],[],base⟩∧fO x1=some r) ?_ ?_))
  ·refine srd 1 rfl [0,1,5] [0,1] rfl (aF (aU (fun m2 e=>∃x2 x3,e=⟨[(0,[],.lptr 0 0),(1,[],.lptr 1 0),(5,[],zI x3)],[],[(0,[.lit (.int .u32 0),.lit (.int .u32 0),.lit (.int .u32 0),.lit (.int .u32 0),.lit (.int .u32 0),.lit (.int .u32 0),.lit (.int .u32 0),.lit (.int .u32 0),.lit (.int .u32 0),.lit (.int .u32 0),.lit (.int .u32 0),.lit (.int .u32 0),.lit (.int .u32 0),.lit (.int .u32 0),.lit (.int .u32 0),.lit (.int .u32 0)]),(1,[.lit (.int .u32 x2.a),.lit (.int .u32 x2.b),.lit (.int .u32 x2.c),.lit (.int .u32 x2.d),.lit (.int .u32 x2.e),.lit (.int .u32 x2.f),.lit (.int .u32 x2.g),.lit (.int .u32 x2.h),.lit (.int .u32 x2.i),.lit (.int .u32 x2.j),.lit (.int .u32 x2.k),.lit (.int .u32 x2.l),.lit (.int .u32 x2.m),.lit (.int .u32 x2.n),.lit (.int .u32 x2.o),.lit (.int .u32 x2.p)])],[],base⟩∧eQ (fO) m2 x2 x3=some r) aT ⟨_,_,rfl,h⟩ ?_ ?_))
   ·rintro m2 _ ⟨x2,x3,rfl,h⟩
    rw [eQ] at h
    refine srd 1 rfl [0,1,5,6] [0,1] rfl (aB (aD h rfl (fun h=>?_) (fun h=>?_)))
    ·refine aE (aS (fun e=>∃x4,e=⟨[(0,[],.lptr 0 0),(1,[],.lptr 1 0),(5,[],zI x3)],[],[(0,[.lit (.int .u32 0),.lit (.int .u32 0),.lit (.int .u32 0),.lit (.int .u32 0),.lit (.int .u32 0),.lit (.int .u32 0),.lit (.int .u32 0),.lit (.int .u32 0),.lit (.int .u32 0),.lit (.int .u32 0),.lit (.int .u32 0),.lit (.int .u32 0),.lit (.int .u32 0),.lit (.int .u32 0),.lit (.int .u32 0),.lit (.int .u32 0)]),(1,[.lit (.int .u32 x4.a),.lit (.int .u32 x4.b),.lit (.int .u32 x4.c),.lit (.int .u32 x4.d),.lit (.int .u32 x4.e),.lit (.int .u32 x4.f),.lit (.int .u32 x4.g),.lit (.int .u32 x4.h),.lit (.int .u32 x4.i),.lit (.int .u32 x4.j),.lit (.int .u32 x4.k),.lit (.int .u32 x4.l),.lit (.int .u32 x4.m),.lit (.int .u32 x4.n),.lit (.int .u32 x4.o),.lit (.int .u32 x4.p)])],[],base⟩∧vM x3 (eQ (fO) m2) x4=some r) ?_ ?_)
     ·refine aF (srd 2 rfl [0,1,2,5] [0,1] rfl (srd 3 rfl [0,1,2,3,5] [0,1] rfl (aS (fun e=>∃x5,e=⟨[(0,[],.lptr 0 0),(1,[],.lptr 1 0),(2,[],zI x3),(3,[],.lit (.int .u32 x5)),(5,[],zI x3)],[],[(0,[.lit (.int .u32 0),.lit (.int .u32 0),.lit (.int .u32 0),.lit (.int .u32 0),.lit (.int .u32 0),.lit (.int .u32 0),.lit (.int .u32 0),.lit (.int .u32 0),.lit (.int .u32 0),.lit (.int .u32 0),.lit (.int .u32 0),.lit (.int .u32 0),.lit (.int .u32 0),.lit (.int .u32 0),.lit (.int .u32 0),.lit (.int .u32 0)]),(1,[.lit (.int .u32 x2.a),.lit (.int .u32 x2.b),.lit (.int .u32 x2.c),.lit (.int .u32 x2.d),.lit (.int .u32 x2.e),.lit (.int .u32 x2.f),.lit (.int .u32 x2.g),.lit (.int .u32 x2.h),.lit (.int .u32 x2.i),.lit (.int .u32 x2.j),.lit (.int .u32 x2.k),.lit (.int .u32 x2.l),.lit (.int .u32 x2.m),.lit (.int .u32 x2.n),.lit (.int .u32 x2.o),.lit (.int .u32 x2.p)])],[],base⟩∧mU x2 x3 (eQ (fO) m2) x5=some r) ?_ ?_)))
      ·refine srd 1 rfl [0,1,2,3,5,10] [0,1] rfl (aF (aU (fun m5 e=>∃x7 x8,e=⟨[(0,[],.lptr 0 0),(1,[],.lptr 1 0),(2,[],zI x3),(3,[],.lit (.int .u32 x8)),(5,[],zI x3),(10,[],zI x7)],[],[(0,[.lit (.int .u32 0),.lit (.int .u32 0),.lit (.int .u32 0),.lit (.int .u32 0),.lit (.int .u32 0),.lit (.int .u32 0),.lit (.int .u32 0),.lit (.int .u32 0),.lit (.int .u32 0),.lit (.int .u32 0),.lit (.int .u32 0),.lit (.int .u32 0),.lit (.int .u32 0),.lit (.int .u32 0),.lit (.int .u32 0),.lit (.int .u32 0)]),(1,[.lit (.int .u32 x2.a),.lit (.int .u32 x2.b),.lit (.int .u32 x2.c),.lit (.int .u32 x2.d),.lit (.int .u32 x2.e),.lit (.int .u32 x2.f),.lit (.int .u32 x2.g),.lit (.int .u32 x2.h),.lit (.int .u32 x2.i),.lit (.int .u32 x2.j),.lit (.int .u32 x2.k),.lit (.int .u32 x2.l),.lit (.int .u32 x2.m),.lit (.int .u32 x2.n),.lit (.int .u32 x2.o),.lit (.int .u32 x2.p)])],[],base⟩∧iA (mU x2 x3 (eQ (fO) m2)) m5 x7 x8=some r) aT ⟨_,_,rfl,h⟩ ?_ ?_))
       ·rintro m5 _ ⟨x7,x8,rfl,h⟩
        rw [iA] at h
        refine srd 1 rfl [0,1,2,3,5,10,11] [0,1] rfl (aB (aD h rfl (fun h=>?_) (fun h=>?_)))
        ·refine aE (aS (fun e=>∃x9,e=⟨[(0,[],.lptr 0 0),(1,[],.lptr 1 0),(2,[],zI x3),(3,[],.lit (.int .u32 x9)),(5,[],zI x3),(10,[],zI x7)],[],[(0,[.lit (.int .u32 0),.lit (.int .u32 0),.lit (.int .u32 0),.lit (.int .u32 0),.lit (.int .u32 0),.lit (.int .u32 0),.lit (.int .u32 0),.lit (.int .u32 0),.lit (.int .u32 0),.lit (.int .u32 0),.lit (.int .u32 0),.lit (.int .u32 0),.lit (.int .u32 0),.lit (.int .u32 0),.lit (.int .u32 0),.lit (.int .u32 0)]),(1,[.lit (.int .u32 x2.a),.lit (.int .u32 x2.b),.lit (.int .u32 x2.c),.lit (.int .u32 x2.d),.lit (.int .u32 x2.e),.lit (.int .u32 x2.f),.lit (.int .u32 x2.g),.lit (.int .u32 x2.h),.lit (.int .u32 x2.i),.lit (.int .u32 x2.j),.lit (.int .u32 x2.k),.lit (.int .u32 x2.l),.lit (.int .u32 x2.m),.lit (.int .u32 x2.n),.lit (.int .u32 x2.o),.lit (.int .u32 x2.p)])],[],base⟩∧qQ x7 (iA (mU x2 x3 (eQ (fO) m2)) m5) x9=some r) ?_ ?_)
         ·refine aF (srd 3 rfl [0,1,2,3,4,5,10] [0,1] rfl (srd 3 rfl [0,1,2,3,4,5,10] [0,1] rfl (srd 2 rfl [0,1,2,3,5,10,17] [0,1] rfl (aD h rfl (fun h=>?_) (fun h=>?_)))))
          ·refine aA (rn 3 rfl (aC.done [0,1,2,3,5,10] [0,1] rfl ?_))
           exact ⟨_,rfl,h⟩
          refine aR [0,1,2,3,5,10] [0,1] rfl (aE ?_)
          exact ⟨_,rfl,h⟩
         rintro _ ⟨x9,rfl,h⟩
         unfold qQ at h
         refine aA (rn 2 rfl (aC.done [0,1,2,3,5,10] [0,1] rfl ?_))
         exact ⟨_,_,rfl,h⟩
        refine aR [0,1,2,3,5] [0,1] rfl (CWp.exit ?_)
        exact ⟨_,rfl,h⟩
       rintro _ ⟨_,_,_,h⟩
       rw [iA] at h;cases h
      rintro _ ⟨x5,rfl,h⟩
      unfold mU at h
      refine aA ?_
      obtain ⟨v6,hv6,h⟩:=bI h
      refine rn 2 rfl (rd (xQ hv6) ?_)
      refine S9 0 16 0 x5 [.lit (.int .u32 (bif x3==0 then x5 else x2.a)),.lit (.int .u32 (bif x3==1 then x5 else x2.b)),.lit (.int .u32 (bif x3==2 then x5 else x2.c)),.lit (.int .u32 (bif x3==3 then x5 else x2.d)),.lit (.int .u32 (bif x3==4 then x5 else x2.e)),.lit (.int .u32 (bif x3==5 then x5 else x2.f)),.lit (.int .u32 (bif x3==6 then x5 else x2.g)),.lit (.int .u32 (bif x3==7 then x5 else x2.h)),.lit (.int .u32 (bif x3==8 then x5 else x2.i)),.lit (.int .u32 (bif x3==9 then x5 else x2.j)),.lit (.int .u32 (bif x3==10 then x5 else x2.k)),.lit (.int .u32 (bif x3==11 then x5 else x2.l)),.lit (.int .u32 (bif x3==12 then x5 else x2.m)),.lit (.int .u32 (bif x3==13 then x5 else x2.n)),.lit (.int .u32 (bif x3==14 then x5 else x2.o)),.lit (.int .u32 (bif x3==15 then x5 else x2.p))] (f:=(fun x=> .lit (.int .u32 x))) (fun _=>⟨rfl,rfl,rfl⟩) hv6 ?_
      refine aC.done [0,1,5] [0,1] rfl ?_
      exact ⟨_,rfl,h⟩
     rintro _ ⟨x4,rfl,h⟩
     unfold vM at h
     refine aA (rn 2 rfl (aC.done [0,1,5] [0,1] rfl ?_))
     exact ⟨_,_,rfl,h⟩
    refine aR [0,1] [0,1] rfl (CWp.exit ?_)
    exact ⟨_,rfl,h⟩
   rintro _ ⟨_,_,_,h⟩
   rw [eQ] at h;cases h
  rintro _ ⟨x1,rfl,h⟩
  unfold fO at h
  refine srd 2 rfl [0] [0] rfl ?_
  cases h;exact aJ ⟨.inl rfl,rfl,rfl⟩
def jP (x2:Int):Option Int:=
  some (IntKind.u32.wrap (BitVec.ofInt 32 x2^^^BitVec.ofInt 32 4294967295).toNat)
def qP (x3:Int) (q2:Int→Int→Option Int) (x5:Int):Option Int:=
  q2 (w64 (x3+1)) x5
def mT (v1:V16 Int) (v6:List UInt8) (k490:Int→Option Int):Nat→Int→Int→Option Int
  |0,_,_=>none
  |m4+1,x7,x8=>
   bif decide (x7<(v6.length:Int)) then
     bO (idx v6 x7) fun v9=>
     bO (idx [v1.a,v1.b,v1.c,v1.d,v1.e,v1.f,v1.g,v1.h,v1.i,v1.j,v1.k,v1.l,v1.m,v1.n,v1.o,v1.p] (IntKind.u32.wrap (BitVec.ofInt 32 (IntKind.u32.wrap (BitVec.ofInt 32 x8^^^BitVec.ofInt 32 (IntKind.u32.wrap (v9.toNat:Int))).toNat)&&&BitVec.ofInt 32 15).toNat)) fun v10=>
     bO (idx [v1.a,v1.b,v1.c,v1.d,v1.e,v1.f,v1.g,v1.h,v1.i,v1.j,v1.k,v1.l,v1.m,v1.n,v1.o,v1.p] (IntKind.u32.wrap (BitVec.ofInt 32 (IntKind.u32.wrap (BitVec.ofInt 32 v10^^^BitVec.ofInt 32 (lH .u32 (IntKind.u32.wrap (BitVec.ofInt 32 x8^^^BitVec.ofInt 32 (IntKind.u32.wrap (v9.toNat:Int))).toNat) 4)).toNat)&&&BitVec.ofInt 32 15).toNat)) fun v11=>
     (mT v1 v6 k490 m4) (w64 (x7+1)) (IntKind.u32.wrap (BitVec.ofInt 32 v11^^^BitVec.ofInt 32 (lH .u32 (IntKind.u32.wrap (BitVec.ofInt 32 v10^^^BitVec.ofInt 32 (lH .u32 (IntKind.u32.wrap (BitVec.ofInt 32 x8^^^BitVec.ofInt 32 (IntKind.u32.wrap (v9.toNat:Int))).toNat) 4)).toNat) 4)).toNat)
   else
     k490 x8
def hU (a0:List (List UInt8)) (v1:V16 Int) (k290:Int→Option Int):Nat→Int→Int→Option Int
  |0,_,_=>none
  |m2+1,x3,x4=>
   bif decide (x3<(a0.length:Int)) then
     bO (idx a0 x3) fun v6=>
     mT v1 v6 (qP x3 (hU a0 v1 k290 m2)) aT 0 x4
   else
     k290 x4
def BE (a0:List (List UInt8)):Option Int:=
  bO (BF) fun v1=>
  hU a0 v1 jP aT 0 4294967295
theorem LG {a0:List (List UInt8)} {r:Int} (h:BE a0=some r):aI Tryz.prog 300 [.list false 23 (a0.map (fun (x:List UInt8)=> .list false 5 (x.map zU8)))] (.lit (.int .u32 r)):=by
  refine aK Tryz.func300 rfl rfl rfl rfl fun base=>?_
  unfold BE at h
  refine srd 1 rfl [0] [] rfl (aB (aA ?_))
  obtain ⟨v1,hv1,h⟩:=bI h
  refine aP Tryz.call340 (LH hv1) rfl ?_
  refine rn 2 rfl (aC.done [0,3] [3] rfl (srd 1 rfl [0,3,4] [3] rfl (aS (fun e=>∃x2,e=⟨[(4,[],.lit (.int .u32 x2))],[],[],[],base⟩∧jP x2=some r) ?_ ?_)))
  ·refine aB (aA (rh 3 [a0.length] [] rfl ⟨List.length_map ..,trivial⟩ (aC.done [3,4,10,11,12] [3] rfl (aF (aU (fun m2 e=>∃x3 x4,e=⟨[(3,[],.lptr 3 0),(4,[],.lit (.int .u32 x4)),(10,[],.list false 23 (a0.map (fun (x:List UInt8)=> .list false 5 (x.map zU8)))),(11,[],zI (a0.length:Int)),(12,[],zI x3)],[],[(3,[.lit (.int .u32 v1.a),.lit (.int .u32 v1.b),.lit (.int .u32 v1.c),.lit (.int .u32 v1.d),.lit (.int .u32 v1.e),.lit (.int .u32 v1.f),.lit (.int .u32 v1.g),.lit (.int .u32 v1.h),.lit (.int .u32 v1.i),.lit (.int .u32 v1.j),.lit (.int .u32 v1.k),.lit (.int .u32 v1.l),.lit (.int .u32 v1.m),.lit (.int .u32 v1.n),.lit (.int .u32 v1.o),.lit (.int .u32 v1.p)])],[],base⟩∧hU a0 v1 (jP) m2 x3 x4=some r) aT ⟨_,_,rfl,h⟩ ?_ ?_)))))
   ·rintro m2 _ ⟨x3,x4,rfl,h⟩
    rw [hU] at h
    refine srd 1 rfl [3,4,10,11,12,13] [3] rfl (aB (aD h rfl (fun h=>?_) (fun h=>?_)))
    ·refine aE (aS (fun e=>∃x5,e=⟨[(3,[],.lptr 3 0),(4,[],.lit (.int .u32 x5)),(10,[],.list false 23 (a0.map (fun (x:List UInt8)=> .list false 5 (x.map zU8)))),(11,[],zI (a0.length:Int)),(12,[],zI x3)],[],[(3,[.lit (.int .u32 v1.a),.lit (.int .u32 v1.b),.lit (.int .u32 v1.c),.lit (.int .u32 v1.d),.lit (.int .u32 v1.e),.lit (.int .u32 v1.f),.lit (.int .u32 v1.g),.lit (.int .u32 v1.h),.lit (.int .u32 v1.i),.lit (.int .u32 v1.j),.lit (.int .u32 v1.k),.lit (.int .u32 v1.l),.lit (.int .u32 v1.m),.lit (.int .u32 v1.n),.lit (.int .u32 v1.o),.lit (.int .u32 v1.p)])],[],base⟩∧qP x3 (hU a0 v1 (jP) m2) x5=some r) ?_ ?_)
     ·refine aF (aB (aA ?_))
      obtain ⟨v6,hv6,h⟩:=bI h
      refine rd (rIx hv6) ?_
      refine rn 2 rfl (aC.done [3,4,6,10,11,12] [3] rfl (aB (aA (rh 3 [v6.length] [] rfl ⟨List.length_map ..,trivial⟩ (aC.done [3,4,10,11,12,16,17,18] [3] rfl (aF (aU (fun m4 e=>∃x7 x8,e=⟨[(3,[],.lptr 3 0),(4,[],.lit (.int .u32 x8)),(10,[],.list false 23 (a0.map (fun (x:List UInt8)=> .list false 5 (x.map zU8)))),(11,[],zI (a0.length:Int)),(12,[],zI x3),(16,[],.list false 5 (v6.map zU8)),(17,[],zI (v6.length:Int)),(18,[],zI x7)],[],[(3,[.lit (.int .u32 v1.a),.lit (.int .u32 v1.b),.lit (.int .u32 v1.c),.lit (.int .u32 v1.d),.lit (.int .u32 v1.e),.lit (.int .u32 v1.f),.lit (.int .u32 v1.g),.lit (.int .u32 v1.h),.lit (.int .u32 v1.i),.lit (.int .u32 v1.j),.lit (.int .u32 v1.k),.lit (.int .u32 v1.l),.lit (.int .u32 v1.m),.lit (.int .u32 v1.n),.lit (.int .u32 v1.o),.lit (.int .u32 v1.p)])],[],base⟩∧mT v1 v6 (qP x3 (hU a0 v1 (jP) m2)) m4 x7 x8=some r) aT ⟨_,_,rfl,h⟩ ?_ ?_)))))))
      ·rintro m4 _ ⟨x7,x8,rfl,h⟩
       rw [mT] at h
       refine srd 1 rfl [3,4,10,11,12,16,17,18,19] [3] rfl (aB (aD h rfl (fun h=>?_) (fun h=>?_)))
       ·refine aE (aB (aF (aB (aA ?_))))
        obtain ⟨v9,hv9,h⟩:=bI h
        refine rd (rIx hv9) ?_
        refine rn 2 rfl (aC.done [3,4,8,10,11,12,16,17,18] [3] rfl (srd 5 rfl [3,4,10,11,12,16,17,18] [3] rfl (aB (aA ?_))))
        obtain ⟨v10,hv10,h⟩:=bI h
        refine rn 2 rfl (rd (xQ hv10) ?_)
        refine rd (CV 0 16 0 (f:=(fun x=> .lit (.int .u32 x))) (fun _=>⟨rfl,rfl,rfl⟩) hv10) ?_
        refine rn 4 rfl (aC.done [3,4,10,11,12,16,17,18] [3] rfl ?_)
        refine aA ?_
        obtain ⟨v11,hv11,h⟩:=bI h
        refine rn 2 rfl (rd (xQ hv11) ?_)
        refine rd (CV 0 16 0 (f:=(fun x=> .lit (.int .u32 x))) (fun _=>⟨rfl,rfl,rfl⟩) hv11) ?_
        refine rn 4 rfl (aC.done [3,4,10,11,12,16,17,18] [3] rfl ?_)
        refine aA (rn 2 rfl (aC.done [3,4,10,11,12,16,17,18] [3] rfl ?_))
        exact ⟨_,_,rfl,h⟩
       refine aR [3,4,10,11,12] [3] rfl (CWp.exit ?_)
       exact ⟨_,rfl,h⟩
      rintro _ ⟨_,_,_,h⟩
      rw [mT] at h;cases h
     rintro _ ⟨x5,rfl,h⟩
     unfold qP at h
     refine aA (rn 2 rfl (aC.done [3,4,10,11,12] [3] rfl ?_))
     exact ⟨_,_,rfl,h⟩
    refine aR [4] [] rfl (CWp.exit ?_)
    exact ⟨_,rfl,h⟩
   rintro _ ⟨_,_,_,h⟩
   rw [hU] at h;cases h
  rintro _ ⟨x2,rfl,h⟩
  unfold jP at h
  refine srd 3 rfl [2] [] rfl ?_
  cases h;exact aJ ⟨.inl rfl,rfl,rfl⟩
def GB (a0:List UInt8):Option Int:=
  bO (BE [a0]) fun v1=>
  some v1
theorem QQ {a0:List UInt8} {r:Int} (h:GB a0=some r):aI Tryz.prog 238 [.list false 5 (a0.map zU8)] (.lit (.int .u32 r)):=by
  refine aK Tryz.func238 rfl rfl rfl rfl fun base=>?_
  unfold GB at h
  refine srd 1 rfl [0] [] rfl (aB (aA (rn 2 rfl ?_)))
  obtain ⟨v1,hv1,h⟩:=bI h
  refine aP Tryz.call300 (LG hv1) rfl ?_
  refine rn 1 rfl (aC.done [2] [] rfl ?_)
  cases h;exact aJ ⟨.inl rfl,rfl,rfl⟩
def AI (a0:List UInt8):Option (List UInt8):=
  bO (GB a0) fun v1=>
  bO (d5 a0) fun v2=>
  bO (bM v2 [u8 v1,u8 (lH .u32 v1 8),u8 (lH .u32 v1 16),u8 (lH .u32 v1 24)]) fun v3=>
  some v3
theorem FK {a0:List UInt8} {r:List UInt8} (h:AI a0=some r):aI Tryz.prog 189 [.list false 5 (a0.map zU8)] (.list true 5 (r.map zU8)):=by
  refine aK Tryz.func189 rfl rfl rfl rfl fun base=>?_
  unfold AI at h
  refine srd 1 rfl [0] [] rfl (aB (aA (rn 1 rfl ?_)))
  obtain ⟨v1,hv1,h⟩:=bI h
  refine aP Tryz.call238 (QQ hv1) rfl ?_
  refine rn 1 rfl (aC.done [0,3] [] rfl (aB (aA (rn 1 rfl ?_))))
  obtain ⟨v2,hv2,h⟩:=bI h
  refine aP Tryz.call45 (fN hv2) rfl ?_
  refine rn 11 rfl (cU8 9 ?_)
  refine cU8 12 ?_
  refine cU8 15 ?_
  refine cU8 18 ?_
  obtain ⟨v3,hv3,h⟩:=bI h
  refine rn 1 rfl (iG (f:=zU8) hv3 ?_)
  refine rh 1 [] [2] rfl trivial (aC.done [2] [] rfl ?_)
  cases h;exact aJ ⟨.inl rfl,rfl,rfl⟩
def iF :Option Bool:=
  some true
def fA (a0:List UInt8) (a1:List UInt8) (k290:Option Bool):Nat→Int→Option Bool
  |0,_=>none
  |m2+1,x1=>
   bif decide (x1<(a0.length:Int)) then
     bO (idx a0 x1) fun v2=>
     bO (idx a1 x1) fun v3=>
     bif (v2.toNat:Int) !=(v3.toNat:Int) then none else
     (fA a0 a1 k290 m2) (w64 (x1+1))
   else
     k290
def oE (a0:List UInt8) (a1:List UInt8):Option Bool:=
  bif (a0.length:Int) !=(a1.length:Int) then none else
  fA a0 a1 iF aT 0
theorem BY {a0:List UInt8} {a1:List UInt8} {r:Bool} (h:oE a0 a1=some r):aI Tryz.prog 209 [.list false 5 (a0.map zU8),.list false 5 (a1.map zU8)] (zB r):=by
  refine aK Tryz.func209 rfl rfl rfl rfl fun base=>?_
  unfold oE at h
  refine srd 1 rfl [0,1] [] rfl (aB (aB (aA (rh 5 [a0.length,a1.length] [] rfl ⟨List.length_map ..,List.length_map ..,trivial⟩ (aC.done [0,1,10] [] rfl (aD h rfl (fun h=>?_) (fun h=>?_)))))))
  ·cases h
  refine aE (aS (fun e=>e=⟨[],[],[],[],base⟩∧iF=some r) ?_ ?_)
  ·refine aB (aA (rh 3 [a0.length] [] rfl ⟨List.length_map ..,trivial⟩ (aC.done [0,1,12,13] [] rfl (aF (aU (fun m2 e=>∃x1,e=⟨[(0,[],.list false 5 (a0.map zU8)),(1,[],.list false 5 (a1.map zU8)),(12,[],zI (a0.length:Int)),(13,[],zI x1)],[],[],[],base⟩∧fA a0 a1 (iF) m2 x1=some r) aT ⟨_,rfl,h⟩ ?_ ?_)))))
   ·rintro m2 _ ⟨x1,rfl,h⟩
    rw [fA] at h
    refine srd 1 rfl [0,1,12,13,14] [] rfl (aB (aD h rfl (fun h=>?_) (fun h=>?_)))
    ·refine aE (aB (aF (srd 2 rfl [0,1,5,12,13] [] rfl (aB (CWp.drawn 9 (by kernel_rfl) ?_)))))
     obtain ⟨v2,hv2,h⟩:=bI h
     refine pn 2 rfl (pd (rIx hv2) ?_)
     obtain ⟨v3,hv3,h⟩:=bI h
     refine pn 3 rfl (pd (rIx hv3) ?_)
     refine pn 2 rfl (b5.nil (aC.done [0,1,12,13,24] [] rfl (aD h rfl (fun h=>?_) (fun h=>?_))))
     ·cases h
     refine aE ?_
     refine aA (rn 2 rfl (aC.done [0,1,12,13] [] rfl ?_))
     exact ⟨_,rfl,h⟩
    refine aR [] [] rfl (CWp.exit ?_)
    exact ⟨rfl,h⟩
   rintro _ ⟨_,_,h⟩
   rw [fA] at h;cases h
  rintro _ ⟨rfl,h⟩
  unfold iF at h
  refine srd 1 rfl [4] [] rfl ?_
  cases h;exact aJ ⟨.inl rfl,rfl,rfl⟩
def EE (a0:List UInt8):Option ((List UInt8)×Bool):=
  bif decide ((a0.length:Int)<4) then none else
  bO (slO a0 0 (w64 ((a0.length:Int)-4))) fun v1=>
  bO (d5 v1) fun v2=>
  bO (AI v2) fun v3=>
  bO (oE v3 a0) fun v4=>
  bif !v4 then none else
  some (v2,true)
theorem OM {a0:List UInt8} {r:(List UInt8)×Bool} (h:EE a0=some r):aI Tryz.prog 156 [.list false 5 (a0.map zU8)] (.tuple [.list true 5 (r.1.map zU8),zB r.2]):=by
  refine aK Tryz.func156 rfl rfl rfl rfl fun base=>?_
  unfold EE at h
  refine srd 2 rfl [0] [] rfl (aB (aB (aA (rh 3 [a0.length] [] rfl ⟨List.length_map ..,trivial⟩ (aC.done [0,7] [] rfl (aD h rfl (fun h=>?_) (fun h=>?_)))))))
  ·cases h
  refine aE (aB (aA ?_))
  obtain ⟨v1,hv1,h⟩:=bI h
  refine rh 4 [a0.length] [] rfl ⟨List.length_map ..,trivial⟩ (rd (rPc hv1) ?_)
  obtain ⟨v2,hv2,h⟩:=bI h
  refine aP Tryz.call45 (fN hv2) rfl ?_
  refine rh 1 [] [4] rfl trivial (aC.done [0,4] [] rfl (aB (aB (aA (rn 1 rfl ?_)))))
  obtain ⟨v3,hv3,h⟩:=bI h
  refine aP Tryz.call189 (FK hv3) rfl ?_
  refine rn 1 rfl ?_
  obtain ⟨v4,hv4,h⟩:=bI h
  refine aP Tryz.call209 (BY hv4) rfl ?_
  refine rn 1 rfl (aC.done [4,18] [] rfl (aD h rfl (fun h=>?_) (fun h=>?_)))
  ·cases h
  refine aE (aB (aA (rh 3 [] [19,2] rfl trivial (aC.done [2,3] [] rfl ?_))))
  cases h;exact aJ ⟨.inl rfl,rfl,rfl⟩
def A1 (a0:List UInt8):Option (Int×(List UInt8)×Int):=
  bO (EE a0) fun v1=>
  bO (bif ((!v1.2)||(decide ((v1.1.length:Int)<12))) then some default else (slO v1.1 0 4)) fun v2=>
  bO (bif (((!v1.2)||(decide ((v1.1.length:Int)<12)))||(!(v2==[66,76,71,49]))) then some default else (slO v1.1 8 (v1.1.length:Int))) fun v3=>
  bO (bif (((!v1.2)||(decide ((v1.1.length:Int)<12)))||(!(v2==[66,76,71,49]))) then some default else (Q1 v3)) fun v4=>
  bif ((((!v1.2)||(decide ((v1.1.length:Int)<12)))||(!(v2==[66,76,71,49])))||(v4 !=(w64 ((v1.1.length:Int)-12))))||(decide ((w64 ((v1.1.length:Int)-12))>1048576)) then none else
  bO (slO v1.1 4 (v1.1.length:Int)) fun v5=>
  bO (Q1 v5) fun v6=>
  bO (slO v1.1 12 (v1.1.length:Int)) fun v7=>
  some (v6,v7,0)
theorem K6 {a0:List UInt8} {r:Int×(List UInt8)×Int} (h:A1 a0=some r):aI Tryz.prog 93 [.list false 5 (a0.map zU8)] (.tuple [zI r.1,.list false 5 (r.2.1.map zU8),zI r.2.2]):=by
  refine aK Tryz.func93 rfl rfl rfl rfl fun base=>?_
  unfold A1 at h
  refine srd 3 rfl [0] [] rfl (aB (aA (rn 1 rfl ?_)))
  obtain ⟨v1,hv1,h⟩:=bI h
  refine aP Tryz.call156 (OM hv1) rfl ?_
  refine rh 5 [] [7,10,5] rfl trivial (aC.done [5,6] [] rfl (aB (aB (aA ?_))))
  obtain ⟨v2,hv2,h⟩:=bI h
  refine rh 9 [v1.1.length] [] rfl ⟨List.length_map ..,trivial⟩ (rdg 19 false [] (fun ht=>rPc (gdf hv2 (ht.1 _ rfl))) ?_)
  refine rdg 19 false [] (fun _=>TZ (l:=v2)) ?_
  obtain ⟨v3,hv3,h⟩:=bI h
  refine rn 4 rfl (rdg 25 false [] (fun ht=>rPc (gdf hv3 (ht.1 _ rfl))) ?_)
  refine iB [5,25,27] rfl ?_
  obtain ⟨v4,hv4,h⟩:=bI h
  refine gV 25 false [] Tryz.call157 (fun ht=>SD (gdf hv4 (ht.1 _ rfl))) rfl ?_
  refine rh 11 [v1.1.length,v1.1.length] [] rfl ⟨List.length_map ..,List.length_map ..,trivial⟩ (aC.done [5,39] [] rfl (aD h rfl (fun h=>?_) (fun h=>?_)))
  ·cases h
  refine aE (aB (CWp.drawn 8 (by kernel_rfl) ?_))
  obtain ⟨v5,hv5,h⟩:=bI h
  refine pn 1 rfl (pd (rPc hv5) ?_)
  obtain ⟨v6,hv6,h⟩:=bI h
  refine kC Tryz.call157 (SD hv6) rfl ?_
  obtain ⟨v7,hv7,h⟩:=bI h
  refine pn 1 rfl (pd (rPc hv7) ?_)
  refine pn 3 rfl (b5.nil (aC.done [2,3,4] [] rfl ?_))
  cases h;exact aJ ⟨.inl rfl,rfl,rfl⟩
def AW (a0:SDisk) (a0_0:List ((List UInt8)×(List UInt8))):Option ((List UInt8)×Int×SStore):=
  bO (yL a0 a0_0) fun _v1=>
  bO (nG a0 a0_0 [109,97,105,110]) fun v2=>
  bif v2.2 !=0 then
    some (([]:List UInt8),4,(⟨0⟩:SStore))
  else
    bO (A1 v2.1) fun v4=>
    bif v4.2.2 !=0 then none else
    some (v4.2.1,0,(⟨v4.1⟩:SStore))
theorem KZ {a0:SDisk} {a0_0:List ((List UInt8)×(List UInt8))} {i0 i0_0:Nat} {r:(List UInt8)×Int×SStore} (h:AW a0 a0_0=some r):aO Tryz.prog 35 [.gptr i0 0] [(i0,[.gmap i0_0,.list true 69 (a0.open_.map bG)]),(i0_0,aV keS (fun (x:List UInt8)=> .list false 5 (x.map zU8)) a0_0)] (fun v outs=>∃(h0_:Nat),v= .tuple [.gptr h0_ 0,.list false 5 (r.1.map zU8),zI r.2.1]∧outs=[(h0_,[.gptr i0 0,zI r.2.2.version]),(i0,[.gmap i0_0,.list true 69 (a0.open_.map bG)]),(i0_0,aV keS (fun (x:List UInt8)=> .list false 5 (x.map zU8)) a0_0)]):=by
  refine a8 Tryz.func35 rfl rfl rfl rfl fun base=>?_
  unfold AW at h
  refine srd 3 rfl [0] [] rfl (aB (aA (rn 1 rfl ?_)))
  obtain ⟨v1,hv1,h⟩:=bI h
  refine bR [0,0] Tryz.call91 (IY hv1) rfl rfl ?_
  refine aC.done [0] [] rfl (aB (aA (rn 1 rfl ?_)))
  obtain ⟨v2,hv2,h⟩:=bI h
  refine bR [0,0] Tryz.call92 (wQ hv2) rfl rfl ?_
  refine rh 5 [] [11,14,5] rfl trivial (aC.done [0,5,6] [] rfl (aB (srd 2 rfl [0,5,17] [] rfl (aD h rfl (fun h=>?_) (fun h=>?_)))))
  ·refine aB (aA (rn 2 rfl (uV ?_)))
   rintro o3-
   refine rn 3 rfl (aC.done [2,3,4] [] rfl (ER 3 ?_))
   refine aJ ?_
   cases h
   exact ⟨.inl rfl,_,[0,0,0],_,_,rfl,rfl,rfl,o3,rfl,rfl⟩
  refine aE (aB (aA (rn 1 rfl ?_)))
  obtain ⟨v4,hv4,h⟩:=bI h
  refine aP Tryz.call93 (K6 hv4) rfl ?_
  refine rn 7 rfl (aC.done [0,6,7,8] [] rfl (aB (srd 2 rfl [0,6,7,8,28] [] rfl (aD h rfl (fun h=>?_) (fun h=>?_)))))
  ·cases h
  refine aE (aB (aA (rn 3 rfl (uV ?_))))
  rintro o5-
  refine rn 4 rfl (aC.done [2,3,4] [] rfl (aJ ?_))
  cases h
  exact ⟨.inl rfl,_,[0,0,0],_,_,rfl,rfl,rfl,o5,rfl,rfl⟩
end
section
open Go.RowKit
def nI (x4:List Int):Option (List Int):=
  some x4
def jV (v2:List Int) (k290:(List Int)→Option (List Int)):Nat→(List Int)→Int→Option (List Int)
  |0,_,_=>none
  |m2+1,x6,x8=>
   bif decide (x8<(v2.length:Int)) then
     bO (idx x6 x8) fun _v9=>
     (jV v2 k290 m2) (List.set x6 (Int.toNat x8) (-1)) (w64 (x8+1))
   else
     k290 x6
def xB (a0:SConfig):Option (List Int):=
  bO (mkO (a0.thresholds.length:Int) (0:Int)) fun v2=>
  jV v2 nI aT v2 0
theorem HR {a0:SConfig} {r:List Int} (h:xB a0=some r):aI Tryz.prog 36 [gW a0] (.list false 3 (r.map zI)):=by
  refine aK Tryz.func36 rfl rfl rfl rfl fun base=>?_
  unfold xB at h
  refine aB (aA (rn 1 rfl (lJ (α:=Int) (sz:=1) 3 zI ?_)))
  rintro m1
  refine aC.objs [] rfl ?_
  refine aC.done [1] [1] rfl (aB (aA ?_))
  obtain ⟨v2,hv2,h⟩:=bI h
  refine rh 3 [a0.thresholds.length] [] rfl ⟨List.length_map ..,trivial⟩ (HM (f:=zI) (0:Int) (fun _=>⟨rfl,rfl,rfl⟩) hv2 ?_)
  rintro m3
  refine rn 1 rfl (aC.done [3] [] rfl (aS (fun e=>∃(m5:Nat) (pm5 sm5:Slk 1) (x4:_),e=⟨[(3,[],hdM m5 pm5 x4 sm5)],[],[],[(m5,lob pm5 zI x4 sm5)],base⟩∧nI x4=some r) ?_ ?_))
  ·refine aB (aA (rn 1 rfl (rd (AN) ?_)))
   refine rn 1 rfl (aC.done [3,10,11] [] rfl (aF (aU (fun m2 e=>∃(m7:Nat) (pm7 sm7:Slk 1) (x6:_) (x8:_),e=⟨[(3,[],hdM m7 pm7 x6 sm7),(10,[],zI (v2.length:Int)),(11,[],zI x8)],[],[],[(m7,lob pm7 zI x6 sm7)],base⟩∧jV v2 (nI) m2 x6 x8=some r) aT ⟨_,_,_,_,_,rfl,h⟩ ?_ ?_)))
   ·rintro m2 _ ⟨m7,pm7,sm7,x6,x8,rfl,h⟩
    rw [jV] at h
    refine srd 1 rfl [3,10,11,12] [] rfl (aB (aD h rfl (fun h=>?_) (fun h=>?_)))
    ·refine aE (aB (aF (srd 2 rfl [3,4,10,11] [] rfl ?_)))
     refine aA ?_
     obtain ⟨v9,hv9,h⟩:=bI h
     refine rn 2 rfl (rd (BI hv9) ?_)
     refine CD (f:=zI) (off:=0) 0 (fun _=>⟨rfl,rfl,rfl⟩) hv9 (-1) ?_
     refine cRe [3,14] [] (show hdM m7 pm7 x6 sm7=hdM m7 pm7 (List.set x6 (Int.toNat x8) (-1)) sm7 from vT) ?_ ⟨rfl,rfl,trivial⟩ trivial
     refine aC.done [3,10,11] [] rfl ?_
     refine aA (rn 2 rfl (aC.done [3,10,11] [] rfl ?_))
     exact ⟨_,_,_,_,_,rfl,h⟩
    refine aR [3] [] rfl (CWp.exit ?_)
    exact ⟨_,_,_,_,rfl,h⟩
   rintro _ ⟨_,_,_,_,_,_,h⟩
   rw [jV] at h;cases h
  rintro _ ⟨m5,pm5,sm5,x4,rfl,h⟩
  unfold nI at h
  refine srd 2 rfl [2] [] rfl (k7 (f:=zI) (E:=3) 0 [2] [] (fun _=>⟨rfl,rfl,rfl⟩) ?_ (h1:=⟨rfl,trivial⟩) (h2:=trivial))
  cases h;exact aJ ⟨.inl rfl,rfl,rfl⟩
def lN (x4:List Int):Option (List Int):=
  some x4
def jC (v2:List Int) (k290:(List Int)→Option (List Int)):Nat→(List Int)→Int→Option (List Int)
  |0,_,_=>none
  |m2+1,x6,x8=>
   bif decide (x8<(v2.length:Int)) then
     bO (idx x6 x8) fun _v9=>
     (jC v2 k290 m2) (List.set x6 (Int.toNat x8) (-1)) (w64 (x8+1))
   else
     k290 x6
def u9 (a0:SConfig):Option (List Int):=
  bO (mkO (a0.thresholds.length:Int) (0:Int)) fun v2=>
  jC v2 lN aT v2 0
theorem F6 {a0:SConfig} {r:List Int} (h:u9 a0=some r):aO Tryz.prog 36 [gW a0] [] (fun v outs=>∃(h0_:Nat) (ph0_ sh0_:Slk 1),v=hdM h0_ ph0_ r sh0_∧outs=[(h0_,lob ph0_ zI r sh0_)]):=by
  refine a8 Tryz.func36 rfl rfl rfl rfl fun base=>?_
  unfold u9 at h
  refine aB (aA (rn 1 rfl (lJ (α:=Int) (sz:=1) 3 zI ?_)))
  rintro m1
  refine aC.objs [] rfl ?_
  refine aC.done [1] [1] rfl (aB (aA ?_))
  obtain ⟨v2,hv2,h⟩:=bI h
  refine rh 3 [a0.thresholds.length] [] rfl ⟨List.length_map ..,trivial⟩ (HM (f:=zI) (0:Int) (fun _=>⟨rfl,rfl,rfl⟩) hv2 ?_)
  rintro m3
  refine rn 1 rfl (aC.done [3] [] rfl (aS (fun e=>∃(m5:Nat) (pm5 sm5:Slk 1) (x4:_),e=⟨[(3,[],hdM m5 pm5 x4 sm5)],[],[],[(m5,lob pm5 zI x4 sm5)],base⟩∧lN x4=some r) ?_ ?_))
  ·refine aB (aA (rn 1 rfl (rd (AN) ?_)))
   refine rn 1 rfl (aC.done [3,10,11] [] rfl (aF (aU (fun m2 e=>∃(m7:Nat) (pm7 sm7:Slk 1) (x6:_) (x8:_),e=⟨[(3,[],hdM m7 pm7 x6 sm7),(10,[],zI (v2.length:Int)),(11,[],zI x8)],[],[],[(m7,lob pm7 zI x6 sm7)],base⟩∧jC v2 (lN) m2 x6 x8=some r) aT ⟨_,_,_,_,_,rfl,h⟩ ?_ ?_)))
   ·rintro m2 _ ⟨m7,pm7,sm7,x6,x8,rfl,h⟩
    rw [jC] at h
    refine srd 1 rfl [3,10,11,12] [] rfl (aB (aD h rfl (fun h=>?_) (fun h=>?_)))
    ·refine aE (aB (aF (srd 2 rfl [3,4,10,11] [] rfl ?_)))
     refine aA ?_
     obtain ⟨v9,hv9,h⟩:=bI h
     refine rn 2 rfl (rd (BI hv9) ?_)
     refine CD (f:=zI) (off:=0) 0 (fun _=>⟨rfl,rfl,rfl⟩) hv9 (-1) ?_
     refine cRe [3,14] [] (show hdM m7 pm7 x6 sm7=hdM m7 pm7 (List.set x6 (Int.toNat x8) (-1)) sm7 from vT) ?_ ⟨rfl,rfl,trivial⟩ trivial
     refine aC.done [3,10,11] [] rfl ?_
     refine aA (rn 2 rfl (aC.done [3,10,11] [] rfl ?_))
     exact ⟨_,_,_,_,_,rfl,h⟩
    refine aR [3] [] rfl (CWp.exit ?_)
    exact ⟨_,_,_,_,rfl,h⟩
   rintro _ ⟨_,_,_,_,_,_,h⟩
   rw [jC] at h;cases h
  rintro _ ⟨m5,pm5,sm5,x4,rfl,h⟩
  unfold lN at h
  refine srd 2 rfl [2] [] rfl (aJ ?_)
  cases h
  exact ⟨.inl rfl,_,[0],_,_,rfl,rfl,rfl,m5,pm5,sm5,rfl,rfl⟩
def gT (a0:Sreader):Option (Int×Sreader):=
  bif a0.bad||((a0.b.length:Int)==0) then none else
  bO (idx a0.b 0) fun v1=>
  bO (slO a0.b 1 (a0.b.length:Int)) fun v2=>
  some (w64 (v1.toNat:Int),(⟨v2,a0.bad⟩:Sreader))
theorem bV {a0:Sreader} {i0:Nat} {r:Int×Sreader} (h:gT a0=some r):aO Tryz.prog 94 [.gptr i0 0] [(i0,[.list false 5 (a0.b.map zU8),zB a0.bad])] (fun v outs=>v=zI r.1∧outs=[(i0,[.list false 5 (r.2.b.map zU8),zB r.2.bad])]):=by
  refine a8 Tryz.func94 rfl rfl rfl rfl fun base=>?_
  unfold gT at h
  refine srd 1 rfl [0] [] rfl (aB (aB (aA (rh 12 [0,0,a0.b.length] [] rfl ⟨List.length_map ..,rfl,rfl,trivial⟩ (aC.done [0,15] [] rfl (aD h rfl (fun h=>?_) (fun h=>?_)))))))
  ·cases h
  refine aE (aB (aA ?_))
  obtain ⟨v1,hv1,h⟩:=bI h
  refine rh 4 [0] [] rfl ⟨rfl,trivial⟩ (rd (rIx hv1) ?_)
  refine rn 2 rfl (aC.done [0,3] [] rfl (aB (aA ?_)))
  obtain ⟨v2,hv2,h⟩:=bI h
  refine rh 5 [0] [] rfl ⟨rfl,trivial⟩ (rd (rPc hv2) ?_)
  refine rh 3 [0] [] rfl ⟨rfl,trivial⟩ (aC.done [3] [] rfl (srd 3 rfl [2] [] rfl ?_))
  cases h;exact aJ ⟨.inl rfl,_,[0],_,_,rfl,rfl,rfl,rfl,rfl⟩
def xF (_a0:SPod):Option (List Nat):=
  some [1,10,3,4,5,6,7,8]
theorem HT {a0:SPod} {i0:Nat} {r:List Nat} (h:xF a0=some r):aO Tryz.prog 188 [.gptr i0 0] [(i0,[.str a0.id,zI a0.prio,zB a0.critical,zI a0.req.a,zI a0.req.b,zI a0.req.c,zI a0.lim.a,zI a0.lim.b,zI a0.lim.c,.str a0.image,zI a0.size])] (fun v outs=>v= .list false 262 (r.map fun k=> .gptr i0 k)∧outs=[(i0,[.str a0.id,zI a0.prio,zB a0.critical,zI a0.req.a,zI a0.req.b,zI a0.req.c,zI a0.lim.a,zI a0.lim.b,zI a0.lim.c,.str a0.image,zI a0.size])]):=by
  refine a8 Tryz.func188 rfl rfl rfl rfl fun base=>?_
  unfold xF at h
  refine srd 1 rfl [0] [] rfl (aB (CWp.ahead 30 (by kernel_rfl) ?_))
  refine pn 30 rfl (b5.nil (⟨⟨[(33,[],.list true 262 ([1,10,3,4,5,6,7,8].map fun k=> .gptr i0 k))],[],[],[(i0,[.str a0.id,zI a0.prio,zB a0.critical,zI a0.req.a,zI a0.req.b,zI a0.req.c,zI a0.lim.a,zI a0.lim.b,zI a0.lim.c,.str a0.image,zI a0.size])],base⟩,?_,rfl,?_⟩))
  ·exact rn 1 rfl (aC.done [33] [] rfl (rfl))
  refine rn 1 rfl (aC.done [2] [] rfl ?_)
  cases h;exact aJ ⟨.inl rfl,_,[0],_,_,rfl,rfl,rfl,rfl,rfl⟩
def wG (a0:List UInt8):Option Bool:=
  bO (bif ((decide ((a0.length:Int)≥1))&&(decide ((a0.length:Int)≤24))) then (NW a0 [97,98,99,100,101,102,103,104,105,106,107,108,109,110,111,112,113,114,115,116,117,118,119,120,121,122,48,49,50,51,52,53,54,55,56,57,45]) else some default) fun v1=>
  some (((decide ((a0.length:Int)≥1))&&(decide ((a0.length:Int)≤24)))&&(v1==([]:List UInt8)))
theorem DC {a0:List UInt8} {r:Bool} (h:wG a0=some r):aI Tryz.prog 136 [.str a0] (zB r):=by
  refine aK Tryz.func136 rfl rfl rfl rfl fun base=>?_
  unfold wG at h
  refine srd 1 rfl [0] [] rfl (aB (aA (rn 10 rfl (iB [11,12] rfl ?_))))
  obtain ⟨v1,hv1,h⟩:=bI h
  refine gV 11 true [] Tryz.call195 (fun ht=>T7 (gd hv1 (ht.1 _ rfl))) rfl ?_
  refine rn 3 rfl (aC.done [2] [] rfl ?_)
  cases h;exact aJ ⟨.inl rfl,rfl,rfl⟩
def rB (a0:SPod):Option Bool:=
  bif ((decide (a0.req.a<0))||(decide (a0.lim.a<0)))||((decide (a0.lim.a>0))&&(decide (a0.lim.a<a0.req.a))) then none else
  bif ((decide (a0.req.b<0))||(decide (a0.lim.b<0)))||((decide (a0.lim.b>0))&&(decide (a0.lim.b<a0.req.b))) then none else
  bif ((decide (a0.req.c<0))||(decide (a0.lim.c<0)))||((decide (a0.lim.c>0))&&(decide (a0.lim.c<a0.req.c))) then none else
  bO (wG a0.id) fun v1=>
  bO (bif v1 then (wG a0.image) else some default) fun v2=>
  some ((((v1&&v2)&&(decide (a0.prio≥(-1073741824))))&&(decide (a0.prio≤1073741824)))&&(decide (a0.size≥0)))
theorem xE {a0:SPod} {r:Bool} (h:rB a0=some r):aI Tryz.prog 80 [cI a0] (zB r):=by
  refine aK Tryz.func80 rfl rfl rfl rfl fun base=>?_
  unfold rB at h
  refine srd 2 rfl [1] [1] rfl (aB (srd 3 rfl [1,6,7] [1] rfl (aF (d7 4 (crd (srd 1 rfl [1,6,7,8] [1] rfl (aB (bD rfl (by decide) ?_))))))))
  refine aE (aB (aF (srd 4 rfl [1,3,4,6,7] [1] rfl (srd 24 rfl [1,6,7,34] [1] rfl (aD h rfl (fun h=>?_) (fun h=>?_))))))
  ·cases h
  refine aE ?_
  refine aA (rn 2 rfl (aC.done [1,6,7] [1] rfl (crd (srd 1 rfl [1,6,7,8] [1] rfl (aB (bD rfl (by decide) ?_))))))
  refine aE (aB (aF (srd 4 rfl [1,3,4,6,7] [1] rfl (srd 24 rfl [1,6,7,34] [1] rfl (aD h rfl (fun h=>?_) (fun h=>?_))))))
  ·cases h
  refine aE ?_
  refine aA (rn 2 rfl (aC.done [1,6,7] [1] rfl (crd (srd 1 rfl [1,6,7,8] [1] rfl (aB (bD rfl (by decide) ?_))))))
  refine aE (aB (aF (srd 4 rfl [1,3,4,6,7] [1] rfl (srd 24 rfl [1,6,7,34] [1] rfl (aD h rfl (fun h=>?_) (fun h=>?_))))))
  ·cases h
  refine aE ?_
  refine aA (rn 2 rfl (aC.done [1,6,7] [1] rfl (crd (srd 1 rfl [1,6,7,8] [1] rfl (aB (dD rfl (by decide) ?_))))))
  refine CWp.exit (aB (aA (rn 2 rfl ?_)))
  obtain ⟨v1,hv1,h⟩:=bI h
  refine aP Tryz.call136 (DC hv1) rfl ?_
  refine rn 3 rfl ?_
  obtain ⟨v2,hv2,h⟩:=bI h
  refine gV 39 true [] Tryz.call136 (fun ht=>DC (gd hv2 (ht.1 _ rfl))) rfl ?_
  refine rn 17 rfl (aC.done [2] [] rfl ?_)
  cases h;exact aJ ⟨.inl rfl,rfl,rfl⟩
def xN (a0:SEntry):Option Bool:=
  bO (rB a0.pod) fun v1=>
  some ((v1&&(decide (a0.phase≥1)))&&(decide (a0.phase≤3)))
theorem HY {a0:SEntry} {r:Bool} (h:xN a0=some r):aI Tryz.prog 159 [aN a0] (zB r):=by
  refine aK Tryz.func159 rfl rfl rfl rfl fun base=>?_
  unfold xN at h
  refine srd 2 rfl [1] [1] rfl (aB (aA (rn 2 rfl ?_)))
  obtain ⟨v1,hv1,h⟩:=bI h
  refine aP Tryz.call80 (xE hv1) rfl ?_
  refine rn 11 rfl (aC.done [2] [] rfl ?_)
  cases h;exact aJ ⟨.inl rfl,rfl,rfl⟩
def nR :Option Bool:=
  some true
def j4 (a0:SState) (k290:Option Bool):Nat→Int→Option Bool
  |0,_=>none
  |m2+1,x1=>
   bif decide (x1<(a0.pods.length:Int)) then
     bO (idx a0.pods x1) fun v2=>
     bO (xN v2) fun v3=>
     bO (bif (!v3) then some default else (bif (decide (x1>0)) then (idx a0.pods (w64 (x1-1))) else some default)) fun v4=>
     bif (!v3)||((decide (x1>0))&&(!(Op.bytesLess v4.pod.id v2.pod.id))) then none else
     (j4 a0 k290 m2) (w64 (x1+1))
   else
     k290
def r4 (a0:SState):Option Bool:=
  bif ((decide (a0.round<0))||(decide (a0.round>1099511627776)))||(decide ((a0.pods.length:Int)>64)) then none else
  j4 a0 nR aT 0
theorem AH {a0:SState} {r:Bool} (h:r4 a0=some r):aI Tryz.prog 96 [e9 a0] (zB r):=by
  refine aK Tryz.func96 rfl rfl rfl rfl fun base=>?_
  unfold r4 at h
  refine srd 2 rfl [1] [1] rfl (aB (aB (aA (rh 14 [a0.pods.length] [] rfl ⟨List.length_map ..,trivial⟩ (aC.done [1,18] [1] rfl (aD h rfl (fun h=>?_) (fun h=>?_)))))))
  ·cases h
  refine aE (aS (fun e=>e=⟨[],[],[],[],base⟩∧nR=some r) ?_ ?_)
  ·refine aB (aA (rh 4 [a0.pods.length] [] rfl ⟨List.length_map ..,trivial⟩ (aC.done [1,20,21,22] [1] rfl (aF (aU (fun m2 e=>∃x1,e=⟨[(1,[],.lptr 1 0),(20,[],.list false 83 (a0.pods.map aN)),(21,[],zI (a0.pods.length:Int)),(22,[],zI x1)],[],[(1,[zI a0.round,.list false 83 (a0.pods.map aN),zB a0.on.a,zB a0.on.b,zB a0.on.c])],[],base⟩∧j4 a0 (nR) m2 x1=some r) aT ⟨_,rfl,h⟩ ?_ ?_)))))
   ·rintro m2 _ ⟨x1,rfl,h⟩
    rw [j4] at h
    refine srd 1 rfl [1,20,21,22,23] [1] rfl (aB (aD h rfl (fun h=>?_) (fun h=>?_)))
    ·refine aE (aB (aF (aB (aA ?_))))
     obtain ⟨v2,hv2,h⟩:=bI h
     refine rn 1 rfl (rd (rIx hv2) ?_)
     refine rn 4 rfl (aC.done [1,3,4,20,21,22] [1,4] rfl (aB (CWp.drawn 21 (by kernel_rfl) ?_)))
     refine pn 1 rfl ?_
     obtain ⟨v3,hv3,h⟩:=bI h
     refine kC Tryz.call159 (HY hv3) rfl ?_
     obtain ⟨v4,hv4,h⟩:=bI h
     refine pn 9 rfl (pdg 33 true [(30,false)] (fun ht=>rIx (gd (gdf hv4 (ht.2.1 _ rfl)) (ht.1 _ rfl))) ?_)
     refine pn 9 rfl (b5.nil (aC.done [1,20,21,22,47] [1] rfl (aD h rfl (fun h=>?_) (fun h=>?_))))
     ·cases h
     refine aE ?_
     refine aA (rn 2 rfl (aC.done [1,20,21,22] [1] rfl ?_))
     exact ⟨_,rfl,h⟩
    refine aR [] [] rfl (CWp.exit ?_)
    exact ⟨rfl,h⟩
   rintro _ ⟨_,_,h⟩
   rw [j4] at h;cases h
  rintro _ ⟨rfl,h⟩
  unfold nR at h
  refine srd 1 rfl [2] [] rfl ?_
  cases h;exact aJ ⟨.inl rfl,rfl,rfl⟩
def qH (x3:Int) (v6:Int×Sreader) (v10:Int×Sreader) (x11:Bool) (x12:Bool) (x13:Bool):Option (SState×Int):=
  bO (bif ((v10.2.bad||(decide ((v10.2.b.length:Int)>0)))||(decide ((lH .i64 v6.1 3)>0))) then some default else (r4 (⟨x3,([]:List SEntry),(⟨x11,x12,x13⟩:V3 Bool)⟩:SState))) fun v14=>
  bif ((v10.2.bad||(decide ((v10.2.b.length:Int)>0)))||(decide ((lH .i64 v6.1 3)>0)))||(!v14) then none else
  some ((⟨x3,([]:List SEntry),(⟨x11,x12,x13⟩:V3 Bool)⟩:SState),0)
def qI (v7:Int) (v8:Int) (v9:Int) (v10:Int×Sreader) (k390:Bool→Bool→Bool→Option (SState×Int)):Nat→Option (SState×Int)
  |0=>none
  |_m3+1=>
   bif decide (0<(min v10.1 65)) then none else
   k390 ((w64 (BitVec.ofInt 64 v7&&&BitVec.ofInt 64 1).toNat)==1) ((w64 (BitVec.ofInt 64 v8&&&BitVec.ofInt 64 1).toNat)==1) ((w64 (BitVec.ofInt 64 v9&&&BitVec.ofInt 64 1).toNat)==1)
def qG (x3:Int) (x4:List UInt8) (x5:Bool):Option (SState×Int):=
  bO (gT (⟨x4,x5⟩:Sreader)) fun v6=>
  bO (shO false .i64 v6.1 0) fun v7=>
  bO (shO false .i64 v6.1 (w64 ((0:Int)+1))) fun v8=>
  bO (shO false .i64 v6.1 (w64 ((w64 ((0:Int)+1):Int)+1))) fun v9=>
  bO (gT v6.2) fun v10=>
  qI v7 v8 v9 v10 (qH x3 v6 v10) aT
def mQ (k490:Int→(List UInt8)→Bool→Option (SState×Int)):Nat→Int→(List UInt8)→Bool→Int→Option (SState×Int)
  |0,_,_,_,_=>none
  |m4+1,x15,x16,x17,x18=>
   bif decide (x18<8) then
     bO (gT (⟨x16,x17⟩:Sreader)) fun v19=>
     (mQ k490 m4) (w64 (BitVec.ofInt 64 (Q7 .i64 x15 8)|||BitVec.ofInt 64 v19.1).toNat) v19.2.b v19.2.bad (w64 (x18+1))
   else
     k490 x15 x16 x17
def BC (a0:List UInt8):Option (SState×Int):=
  mQ qG aT 0 a0 false 0
theorem LE {a0:List UInt8} {r:SState×Int} (h:BC a0=some r):aI Tryz.prog 37 [.list false 5 (a0.map zU8)] (.tuple [e9 r.1,zI r.2]):=by
  refine aK Tryz.func37 rfl rfl rfl rfl fun base=>?_
  unfold BC at h
  refine srd 2 rfl [0,2] [2] rfl (aB (aA (rn 2 rfl (uV ?_))))
  rintro o1-
  refine rn 1 rfl (aC.done [2,4] [2] rfl (aB (aA (QH ?_))))
  rintro o2-
  refine IN 0 1 83 ?_
  refine aC.done [2,4,5] [2] rfl (aS (fun e=>∃x3 x4 x5,e=⟨[(2,[],.lptr 2 0),(4,[],.gptr o1 0),(5,[],.gptr o2 0)],[],[(2,[zI 0,.list false 83 (([]:List SEntry).map aN),zB false,zB false,zB false])],[(o2,[zI x3,.list true 83 (([]:List SEntry).map aN),zB false,zB false,zB false]),(o1,[.list false 5 (x4.map zU8),zB x5])],base⟩∧qG x3 x4 x5=some r) ?_ ?_)
  ·refine srd 1 rfl [2,4,5,12] [2] rfl (aF (aU (fun m4 e=>∃x15 x16 x17 x18,e=⟨[(2,[],.lptr 2 0),(4,[],.gptr o1 0),(5,[],.gptr o2 0),(12,[],zI x18)],[],[(2,[zI 0,.list false 83 (([]:List SEntry).map aN),zB false,zB false,zB false])],[(o2,[zI x15,.list true 83 (([]:List SEntry).map aN),zB false,zB false,zB false]),(o1,[.list false 5 (x16.map zU8),zB x17])],base⟩∧mQ (qG) m4 x15 x16 x17 x18=some r) aT ⟨_,_,_,_,rfl,h⟩ ?_ ?_))
   ·rintro m4 _ ⟨x15,x16,x17,x18,rfl,h⟩
    rw [mQ] at h
    refine srd 1 rfl [2,4,5,12,13] [2] rfl (aB (aD h rfl (fun h=>?_) (fun h=>?_)))
    ·refine aE (aB (aF ?_))
     obtain ⟨v19,hv19,h⟩:=bI h
     refine SV 5 ⟨[(2,[],.lptr 2 0),(4,[],.gptr o1 0),(5,[],.gptr o2 0),(12,[],zI x18),(16,[],zI (Q7 .i64 x15 8)),(18,[],zI v19.1)],[],[(2,[zI 0,.list false 83 (([]:List SEntry).map aN),zB false,zB false,zB false])],[(o2,[zI x15,.list true 83 (([]:List SEntry).map aN),zB false,zB false,zB false]),(o1,[.list false 5 (v19.2.b.map zU8),zB v19.2.bad])],base⟩ (by kernel_rfl) ?_ ?_
     ·refine eU.step 0 [3] (by kernel_rfl) (dE ⟨_,rfl,?_⟩ (dE ⟨_,rfl,?_⟩ fQ))
      ·refine rn 1 rfl (aC.done [2,4,5,12,14] [2] rfl (⟨rfl,?_⟩))
       refine eU.step 1 [3] (by kernel_rfl) (dE ⟨_,rfl,?_⟩ (dE ⟨_,rfl,?_⟩ fQ))
       ·refine rh 1 [0] [] rfl ⟨rfl,trivial⟩ (aC.done [2,4,5,12,15] [2] rfl (⟨rfl,?_⟩))
        refine eU.step 2 [3] (by kernel_rfl) (dE ⟨_,rfl,?_⟩ (dE ⟨_,rfl,?_⟩ fQ))
        ·refine rn 1 rfl (aC.done [2,4,5,12,16] [2] rfl (⟨rfl,?_⟩))
         refine eU.step 3 [] (by kernel_rfl) (dE ⟨_,rfl,?_⟩ fQ)
         ·refine rn 1 rfl (aC.done [2,4,5,12,16,17] [2] rfl (⟨rfl,?_⟩))
          refine eU.step 4 [] (by kernel_rfl) (dE ⟨_,rfl,?_⟩ fQ)
          ·refine bR [1] Tryz.call94 (bV hv19) rfl rfl ?_
           refine aC.objs [1,0] rfl ?_
           refine aC.done [2,4,5,12,16,18] [2] rfl (⟨rfl,?_⟩)
           exact ⟨rfl,rfl⟩
        ·refine rn 1 rfl (aC.done [2,4,5,12,15,17] [2] rfl (⟨rfl,?_⟩))
         refine eU.step 2 [4] (by kernel_rfl) (dE ⟨_,rfl,?_⟩ (dE ⟨_,rfl,?_⟩ fQ))
         ·refine rn 1 rfl (aC.done [2,4,5,12,16,17] [2] rfl (⟨rfl,?_⟩))
          refine eU.step 4 [] (by kernel_rfl) (dE ⟨_,rfl,?_⟩ fQ)
          ·refine bR [1] Tryz.call94 (bV hv19) rfl rfl ?_
           refine aC.objs [1,0] rfl ?_
           refine aC.done [2,4,5,12,16,18] [2] rfl (⟨rfl,?_⟩)
           exact ⟨rfl,rfl⟩
         ·refine bR [1] Tryz.call94 (bV hv19) rfl rfl ?_
          refine aC.objs [1,0] rfl ?_
          refine aC.done [2,4,5,12,15,18] [2] rfl (⟨rfl,?_⟩)
          refine eU.step 2 [] (by kernel_rfl) (dE ⟨_,rfl,?_⟩ fQ)
          ·refine rn 1 rfl (aC.done [2,4,5,12,16,18] [2] rfl (⟨rfl,?_⟩))
           exact ⟨rfl,rfl⟩
       ·refine rn 1 rfl (aC.done [2,4,5,12,14,17] [2] rfl (⟨rfl,?_⟩))
        refine eU.step 1 [4] (by kernel_rfl) (dE ⟨_,rfl,?_⟩ (dE ⟨_,rfl,?_⟩ fQ))
        ·refine rh 1 [0] [] rfl ⟨rfl,trivial⟩ (aC.done [2,4,5,12,15,17] [2] rfl (⟨rfl,?_⟩))
         refine eU.step 2 [4] (by kernel_rfl) (dE ⟨_,rfl,?_⟩ (dE ⟨_,rfl,?_⟩ fQ))
         ·refine rn 1 rfl (aC.done [2,4,5,12,16,17] [2] rfl (⟨rfl,?_⟩))
          refine eU.step 4 [] (by kernel_rfl) (dE ⟨_,rfl,?_⟩ fQ)
          ·refine bR [1] Tryz.call94 (bV hv19) rfl rfl ?_
           refine aC.objs [1,0] rfl ?_
           refine aC.done [2,4,5,12,16,18] [2] rfl (⟨rfl,?_⟩)
           exact ⟨rfl,rfl⟩
         ·refine bR [1] Tryz.call94 (bV hv19) rfl rfl ?_
          refine aC.objs [1,0] rfl ?_
          refine aC.done [2,4,5,12,15,18] [2] rfl (⟨rfl,?_⟩)
          refine eU.step 2 [] (by kernel_rfl) (dE ⟨_,rfl,?_⟩ fQ)
          ·refine rn 1 rfl (aC.done [2,4,5,12,16,18] [2] rfl (⟨rfl,?_⟩))
           exact ⟨rfl,rfl⟩
        ·refine bR [1] Tryz.call94 (bV hv19) rfl rfl ?_
         refine aC.objs [1,0] rfl ?_
         refine aC.done [2,4,5,12,14,18] [2] rfl (⟨rfl,?_⟩)
         refine eU.step 1 [] (by kernel_rfl) (dE ⟨_,rfl,?_⟩ fQ)
         ·refine rh 1 [0] [] rfl ⟨rfl,trivial⟩ (aC.done [2,4,5,12,15,18] [2] rfl (⟨rfl,?_⟩))
          refine eU.step 2 [] (by kernel_rfl) (dE ⟨_,rfl,?_⟩ fQ)
          ·refine rn 1 rfl (aC.done [2,4,5,12,16,18] [2] rfl (⟨rfl,?_⟩))
           exact ⟨rfl,rfl⟩
      ·refine rn 1 rfl (aC.done [2,4,5,12,17] [2] rfl (⟨rfl,?_⟩))
       refine eU.step 0 [4] (by kernel_rfl) (dE ⟨_,rfl,?_⟩ (dE ⟨_,rfl,?_⟩ fQ))
       ·refine rn 1 rfl (aC.done [2,4,5,12,14,17] [2] rfl (⟨rfl,?_⟩))
        refine eU.step 1 [4] (by kernel_rfl) (dE ⟨_,rfl,?_⟩ (dE ⟨_,rfl,?_⟩ fQ))
        ·refine rh 1 [0] [] rfl ⟨rfl,trivial⟩ (aC.done [2,4,5,12,15,17] [2] rfl (⟨rfl,?_⟩))
         refine eU.step 2 [4] (by kernel_rfl) (dE ⟨_,rfl,?_⟩ (dE ⟨_,rfl,?_⟩ fQ))
         ·refine rn 1 rfl (aC.done [2,4,5,12,16,17] [2] rfl (⟨rfl,?_⟩))
          refine eU.step 4 [] (by kernel_rfl) (dE ⟨_,rfl,?_⟩ fQ)
          ·refine bR [1] Tryz.call94 (bV hv19) rfl rfl ?_
           refine aC.objs [1,0] rfl ?_
           refine aC.done [2,4,5,12,16,18] [2] rfl (⟨rfl,?_⟩)
           exact ⟨rfl,rfl⟩
         ·refine bR [1] Tryz.call94 (bV hv19) rfl rfl ?_
          refine aC.objs [1,0] rfl ?_
          refine aC.done [2,4,5,12,15,18] [2] rfl (⟨rfl,?_⟩)
          refine eU.step 2 [] (by kernel_rfl) (dE ⟨_,rfl,?_⟩ fQ)
          ·refine rn 1 rfl (aC.done [2,4,5,12,16,18] [2] rfl (⟨rfl,?_⟩))
           exact ⟨rfl,rfl⟩
        ·refine bR [1] Tryz.call94 (bV hv19) rfl rfl ?_
         refine aC.objs [1,0] rfl ?_
         refine aC.done [2,4,5,12,14,18] [2] rfl (⟨rfl,?_⟩)
         refine eU.step 1 [] (by kernel_rfl) (dE ⟨_,rfl,?_⟩ fQ)
         ·refine rh 1 [0] [] rfl ⟨rfl,trivial⟩ (aC.done [2,4,5,12,15,18] [2] rfl (⟨rfl,?_⟩))
          refine eU.step 2 [] (by kernel_rfl) (dE ⟨_,rfl,?_⟩ fQ)
          ·refine rn 1 rfl (aC.done [2,4,5,12,16,18] [2] rfl (⟨rfl,?_⟩))
           exact ⟨rfl,rfl⟩
       ·refine bR [1] Tryz.call94 (bV hv19) rfl rfl ?_
        refine aC.objs [1,0] rfl ?_
        refine aC.done [2,4,5,12,18] [2] rfl (⟨rfl,?_⟩)
        refine eU.step 0 [] (by kernel_rfl) (dE ⟨_,rfl,?_⟩ fQ)
        ·refine rn 1 rfl (aC.done [2,4,5,12,14,18] [2] rfl (⟨rfl,?_⟩))
         refine eU.step 1 [] (by kernel_rfl) (dE ⟨_,rfl,?_⟩ fQ)
         ·refine rh 1 [0] [] rfl ⟨rfl,trivial⟩ (aC.done [2,4,5,12,15,18] [2] rfl (⟨rfl,?_⟩))
          refine eU.step 2 [] (by kernel_rfl) (dE ⟨_,rfl,?_⟩ fQ)
          ·refine rn 1 rfl (aC.done [2,4,5,12,16,18] [2] rfl (⟨rfl,?_⟩))
           exact ⟨rfl,rfl⟩
     refine rh 3 [0] [] rfl ⟨rfl,trivial⟩ (aC.done [2,4,5,12] [2] rfl ?_)
     refine aA (rn 2 rfl (aC.done [2,4,5,12] [2] rfl ?_))
     exact ⟨_,_,_,_,rfl,h⟩
    refine aR [2,4,5] [2] rfl (CWp.exit ?_)
    exact ⟨_,_,_,rfl,h⟩
   rintro _ ⟨_,_,_,_,_,h⟩
   rw [mQ] at h;cases h
  rintro _ ⟨x3,x4,x5,rfl,h⟩
  unfold qG at h
  refine aB (aA (rn 1 rfl ?_))
  obtain ⟨v6,hv6,h⟩:=bI h
  refine bR [1] Tryz.call94 (bV hv6) rfl rfl ?_
  refine rn 1 rfl (aC.objs [1,0] rfl ?_)
  refine aC.done [2,4,5,6] [2] rfl (aB (srd 1 rfl [2,4,5,6,24] [2] rfl (aF (d7 4 (crd (srd 1 rfl [2,4,5,6,24,25] [2] rfl (aB (bD rfl (by decide) ?_))))))))
  refine aE (aB (aF (srd 2 rfl [2,4,5,6,7,24] [2] rfl ?_)))
  refine aA ?_
  obtain ⟨v7,hv7,h⟩:=bI h
  refine rn 3 rfl (rd (rSh hv7) ?_)
  refine rh 5 [0] [] rfl ⟨rfl,trivial⟩ (aC.done [2,4,5,6,24] [2] rfl ?_)
  refine aA (rn 2 rfl (aC.done [2,4,5,6,24] [2] rfl (crd (srd 1 rfl [2,4,5,6,24,25] [2] rfl (aB (bD rfl (by decide) ?_))))))
  refine aE (aB (aF (srd 2 rfl [2,4,5,6,7,24] [2] rfl ?_)))
  refine aA ?_
  obtain ⟨v8,hv8,h⟩:=bI h
  refine rn 3 rfl (rd (rSh hv8) ?_)
  refine rh 5 [0] [] rfl ⟨rfl,trivial⟩ (aC.done [2,4,5,6,24] [2] rfl ?_)
  refine aA (rn 2 rfl (aC.done [2,4,5,6,24] [2] rfl (crd (srd 1 rfl [2,4,5,6,24,25] [2] rfl (aB (bD rfl (by decide) ?_))))))
  refine aE (aB (aF (srd 2 rfl [2,4,5,6,7,24] [2] rfl ?_)))
  refine aA ?_
  obtain ⟨v9,hv9,h⟩:=bI h
  refine rn 3 rfl (rd (rSh hv9) ?_)
  refine rh 5 [0] [] rfl ⟨rfl,trivial⟩ (aC.done [2,4,5,6,24] [2] rfl ?_)
  refine aA (rn 2 rfl (aC.done [2,4,5,6,24] [2] rfl (crd (srd 1 rfl [2,4,5,6,24,25] [2] rfl (aB (dD rfl (by decide) ?_))))))
  refine CWp.exit (aB (aA (rn 1 rfl ?_)))
  obtain ⟨v10,hv10,h⟩:=bI h
  refine bR [1] Tryz.call94 (bV hv10) rfl rfl ?_
  refine rn 1 rfl (aC.objs [1,0] rfl ?_)
  refine aC.done [2,4,5,6,8] [2] rfl (aS (fun e=>∃x11 x12 x13,e=⟨[(2,[],.lptr 2 0),(4,[],.gptr o1 0),(5,[],.gptr o2 0),(6,[],zI v6.1)],[],[(2,[zI 0,.list false 83 (([]:List SEntry).map aN),zB false,zB false,zB false])],[(o2,[zI x3,.list true 83 (([]:List SEntry).map aN),zB x11,zB x12,zB x13]),(o1,[.list false 5 (v10.2.b.map zU8),zB v10.2.bad])],base⟩∧qH x3 v6 v10 x11 x12 x13=some r) ?_ ?_)
  ·refine srd 3 rfl [2,4,5,6,39,40] [2] rfl (aF (aU (fun m3 e=>e=⟨[(2,[],.lptr 2 0),(4,[],.gptr o1 0),(5,[],.gptr o2 0),(6,[],zI v6.1),(39,[],zI (min v10.1 65)),(40,[],zI 0)],[],[(2,[zI 0,.list false 83 (([]:List SEntry).map aN),zB false,zB false,zB false])],[(o2,[zI x3,.list true 83 (([]:List SEntry).map aN),zB ((w64 (BitVec.ofInt 64 v7&&&BitVec.ofInt 64 1).toNat)==1),zB ((w64 (BitVec.ofInt 64 v8&&&BitVec.ofInt 64 1).toNat)==1),zB ((w64 (BitVec.ofInt 64 v9&&&BitVec.ofInt 64 1).toNat)==1)]),(o1,[.list false 5 (v10.2.b.map zU8),zB v10.2.bad])],base⟩∧qI v7 v8 v9 v10 (qH x3 v6 v10) m3=some r) aT ⟨rfl,h⟩ ?_ ?_))
   ·rintro m3 _ ⟨rfl,h⟩
    rw [qI] at h
    refine srd 1 rfl [2,4,5,6,39,40,41] [2] rfl (aB (aD h rfl (fun h=>?_) (fun h=>?_)))
    ·cases h
    refine aR [2,4,5,6] [2] rfl (CWp.exit ?_)
    exact ⟨_,_,_,rfl,h⟩
   rintro _ ⟨_,h⟩
   rw [qI] at h;cases h
  rintro _ ⟨x11,x12,x13,rfl,h⟩
  unfold qH at h
  refine aB (aB (aA (rh 19 [1,1,v10.2.b.length,0] [] rfl ⟨rfl,List.length_map ..,rfl,rfl,trivial⟩ (iB [2,5,71,72] rfl ?_))))
  obtain ⟨v14,hv14,h⟩:=bI h
  refine gV 71 false [] Tryz.call96 (fun ht=>AH (gdf hv14 (ht.1 _ rfl))) rfl ?_
  refine rn 2 rfl (aC.objs [0] rfl ?_)
  refine aC.done [2,5,75] [2] rfl (aD h rfl (fun h=>?_) (fun h=>?_))
  ·cases h
  refine aE (aB (aA (rh 3 [0] [] rfl ⟨rfl,trivial⟩ (aC.objs [] rfl ?_))))
  refine aC.done [2,3] [2] rfl ?_
  cases h;exact aJ ⟨.inl rfl,rfl,rfl⟩
def rW (x1:Int) (x2:Int) (x3:Int):Option (V3 Int):=
  some (⟨x1,x2,x3⟩:V3 Int)
def n6 (a0:List SPod) (k290:Int→Int→Int→Option (V3 Int)):Nat→Int→Int→Int→Int→Option (V3 Int)
  |0,_,_,_,_=>none
  |m2+1,x4,x5,x6,x7=>
   bif decide (x7<(a0.length:Int)) then
     bO (idx a0 x7) fun v8=>
     bO (sV x4 v8.req.a) fun v9=>
     bO (sV x5 v8.req.b) fun v10=>
     bO (sV x6 v8.req.c) fun v11=>
     (n6 a0 k290 m2) v9 v10 v11 (w64 (x7+1))
   else
     k290 x4 x5 x6
def CK (a0:List SPod):Option (V3 Int):=
  n6 a0 rW aT 0 0 0 0
theorem MM {a0:List SPod} {r:V3 Int} (h:CK a0=some r):aI Tryz.prog 160 [.list false 43 (a0.map cI)] (wP r):=by
  refine aK Tryz.func160 rfl rfl rfl rfl fun base=>?_
  unfold CK at h
  refine srd 1 rfl [0,2] [2] rfl (srd 1 rfl [0,2,3] [2,3] rfl (aS (fun e=>∃x1 x2 x3,e=⟨[(2,[],.lptr 2 0),(3,[],.lptr 3 0)],[],[(2,[zI 0,zI 0,zI 0]),(3,[zI x1,zI x2,zI x3])],[],base⟩∧rW x1 x2 x3=some r) ?_ ?_))
  ·refine aB (aA (rh 3 [a0.length] [] rfl ⟨List.length_map ..,trivial⟩ (aC.done [2,3,8,9,10] [2,3] rfl (aF (aU (fun m2 e=>∃x4 x5 x6 x7,e=⟨[(2,[],.lptr 2 0),(3,[],.lptr 3 0),(8,[],.list false 43 (a0.map cI)),(9,[],zI (a0.length:Int)),(10,[],zI x7)],[],[(2,[zI 0,zI 0,zI 0]),(3,[zI x4,zI x5,zI x6])],[],base⟩∧n6 a0 (rW) m2 x4 x5 x6 x7=some r) aT ⟨_,_,_,_,rfl,h⟩ ?_ ?_)))))
   ·rintro m2 _ ⟨x4,x5,x6,x7,rfl,h⟩
    rw [n6] at h
    refine srd 1 rfl [2,3,8,9,10,11] [2,3] rfl (aB (aD h rfl (fun h=>?_) (fun h=>?_)))
    ·refine aE (aB (aF (aB (aA ?_))))
     obtain ⟨v8,hv8,h⟩:=bI h
     refine rd (rIx hv8) ?_
     refine rn 3 rfl (aC.done [2,3,5,8,9,10] [2,3,5] rfl (srd 3 rfl [2,3,8,9,10,15,16] [2,3] rfl (aF (d7 4 (crd (srd 1 rfl [2,3,8,9,10,15,16,17] [2,3] rfl (aB (bD rfl (by decide) ?_))))))))
     refine aE (aB (aF (srd 4 rfl [2,3,6,7,8,9,10,15,16] [2,3] rfl ?_)))
     refine aA (rn 5 rfl ?_)
     obtain ⟨v9,hv9,h⟩:=bI h
     refine aP Tryz.call68 (wH hv9) rfl ?_
     refine rn 2 rfl (aC.done [2,3,8,9,10,15,16] [2,3] rfl ?_)
     refine aA (rn 2 rfl (aC.done [2,3,8,9,10,15,16] [2,3] rfl (crd (srd 1 rfl [2,3,8,9,10,15,16,17] [2,3] rfl (aB (bD rfl (by decide) ?_))))))
     refine aE (aB (aF (srd 4 rfl [2,3,6,7,8,9,10,15,16] [2,3] rfl ?_)))
     refine aA (rn 5 rfl ?_)
     obtain ⟨v10,hv10,h⟩:=bI h
     refine aP Tryz.call68 (wH hv10) rfl ?_
     refine rn 2 rfl (aC.done [2,3,8,9,10,15,16] [2,3] rfl ?_)
     refine aA (rn 2 rfl (aC.done [2,3,8,9,10,15,16] [2,3] rfl (crd (srd 1 rfl [2,3,8,9,10,15,16,17] [2,3] rfl (aB (bD rfl (by decide) ?_))))))
     refine aE (aB (aF (srd 4 rfl [2,3,6,7,8,9,10,15,16] [2,3] rfl ?_)))
     refine aA (rn 5 rfl ?_)
     obtain ⟨v11,hv11,h⟩:=bI h
     refine aP Tryz.call68 (wH hv11) rfl ?_
     refine rn 2 rfl (aC.done [2,3,8,9,10,15,16] [2,3] rfl ?_)
     refine aA (rn 2 rfl (aC.done [2,3,8,9,10,15,16] [2,3] rfl (crd (srd 1 rfl [2,3,8,9,10,15,16,17] [2,3] rfl (aB (dD rfl (by decide) ?_))))))
     refine CWp.exit ?_
     refine aA (rn 2 rfl (aC.done [2,3,8,9,10] [2,3] rfl ?_))
     exact ⟨_,_,_,_,rfl,h⟩
    refine aR [2,3] [2,3] rfl (CWp.exit ?_)
    exact ⟨_,_,_,rfl,h⟩
   rintro _ ⟨_,_,_,_,_,h⟩
   rw [n6] at h;cases h
  rintro _ ⟨x1,x2,x3,rfl,h⟩
  unfold rW at h
  refine srd 2 rfl [2] [2] rfl ?_
  cases h;exact aJ ⟨.inl rfl,rfl,rfl⟩
def tU (a0:Int):Option Bool:=
  some (a0==9223372036854775807)
theorem y3 {a0:Int} {r:Bool} (h:tU a0=some r):aI Tryz.prog 161 [zI a0] (zB r):=by
  refine aK Tryz.func161 rfl rfl rfl rfl fun base=>?_
  unfold tU at h
  refine srd 1 rfl [0] [] rfl (srd 3 rfl [2] [] rfl ?_)
  cases h;exact aJ ⟨.inl rfl,rfl,rfl⟩
def r5 (a0:V3 Int) (a1:List SPod):Option Bool:=
  bO (CK a1) fun v1=>
  bO (tU v1.a) fun v2=>
  bif v2||(decide (v1.a>a0.a)) then none else
  bO (tU v1.b) fun v3=>
  bif v3||(decide (v1.b>a0.b)) then none else
  bO (tU v1.c) fun v4=>
  bif v4||(decide (v1.c>a0.c)) then none else
  some true
theorem AJ {a0:V3 Int} {a1:List SPod} {r:Bool} (h:r5 a0 a1=some r):aI Tryz.prog 97 [wP a0,.list false 43 (a1.map cI)] (zB r):=by
  refine aK Tryz.func97 rfl rfl rfl rfl fun base=>?_
  unfold r5 at h
  refine srd 2 rfl [1,2] [2] rfl (aB (aB (aA (rn 1 rfl ?_))))
  obtain ⟨v1,hv1,h⟩:=bI h
  refine aP Tryz.call160 (MM hv1) rfl ?_
  refine rn 1 rfl (aC.done [2,8,9] [2] rfl (aF (d7 4 (crd (srd 1 rfl [2,8,9,10] [2] rfl (aB (bD rfl (by decide) ?_)))))))
  refine aE (aB (aF (srd 4 rfl [2,5,6,8,9] [2] rfl (aB (aA (rn 1 rfl ?_))))))
  obtain ⟨v2,hv2,h⟩:=bI h
  refine aP Tryz.call161 (y3 hv2) rfl ?_
  refine rn 7 rfl (aC.done [2,8,9,21] [2] rfl (aD h rfl (fun h=>?_) (fun h=>?_)))
  ·cases h
  refine aE ?_
  refine aA (rn 2 rfl (aC.done [2,8,9] [2] rfl (crd (srd 1 rfl [2,8,9,10] [2] rfl (aB (bD rfl (by decide) ?_))))))
  refine aE (aB (aF (srd 4 rfl [2,5,6,8,9] [2] rfl (aB (aA (rn 1 rfl ?_))))))
  obtain ⟨v3,hv3,h⟩:=bI h
  refine aP Tryz.call161 (y3 hv3) rfl ?_
  refine rn 7 rfl (aC.done [2,8,9,21] [2] rfl (aD h rfl (fun h=>?_) (fun h=>?_)))
  ·cases h
  refine aE ?_
  refine aA (rn 2 rfl (aC.done [2,8,9] [2] rfl (crd (srd 1 rfl [2,8,9,10] [2] rfl (aB (bD rfl (by decide) ?_))))))
  refine aE (aB (aF (srd 4 rfl [2,5,6,8,9] [2] rfl (aB (aA (rn 1 rfl ?_))))))
  obtain ⟨v4,hv4,h⟩:=bI h
  refine aP Tryz.call161 (y3 hv4) rfl ?_
  refine rn 7 rfl (aC.done [2,8,9,21] [2] rfl (aD h rfl (fun h=>?_) (fun h=>?_)))
  ·cases h
  refine aE ?_
  refine aA (rn 2 rfl (aC.done [2,8,9] [2] rfl (crd (srd 1 rfl [2,8,9,10] [2] rfl (aB (dD rfl (by decide) ?_))))))
  refine CWp.exit (srd 1 rfl [4] [] rfl ?_)
  cases h;exact aJ ⟨.inl rfl,rfl,rfl⟩
def oS (a1:SConfig):Option Bool:=
  bO (r5 a1.allocatable ([]:List SPod)) fun v1=>
  some v1
def oT (a0:SState) (k290:Option Bool):Nat→Option Bool
  |0=>none
  |_m2+1=>
   bif decide (0<(a0.pods.length:Int)) then none else
   k290
def y4 (a0:SState) (a1:SConfig):Option Bool:=
  oT a0 (oS a1) aT
theorem JD {a0:SState} {a1:SConfig} {r:Bool} (h:y4 a0 a1=some r):aI Tryz.prog 38 [e9 a0,gW a1] (zB r):=by
  refine aK Tryz.func38 rfl rfl rfl rfl fun base=>?_
  unfold y4 at h
  refine srd 3 rfl [2,3] [2,3] rfl (srd 1 rfl [2,3,5] [2,3] rfl (aS (fun e=>e=⟨[(3,[],.lptr 3 0),(5,[],.list true 43 (([]:List SPod).map cI))],[],[(3,[zI a1.capacity.a,zI a1.capacity.b,zI a1.capacity.c,zI a1.allocatable.a,zI a1.allocatable.b,zI a1.allocatable.c,.list false 102 (a1.thresholds.map aL),zI a1.period,zI a1.retries,zI a1.maxAge,zI a1.dead])],[],base⟩∧oS a1=some r) ?_ ?_))
  ·refine aB (aA (rh 4 [a0.pods.length] [] rfl ⟨List.length_map ..,trivial⟩ (aC.done [3,5,9,10,11] [3] rfl (aF (aU (fun m2 e=>e=⟨[(3,[],.lptr 3 0),(5,[],.list true 43 (([]:List SPod).map cI)),(9,[],.list false 83 (a0.pods.map aN)),(10,[],zI (a0.pods.length:Int)),(11,[],zI 0)],[],[(3,[zI a1.capacity.a,zI a1.capacity.b,zI a1.capacity.c,zI a1.allocatable.a,zI a1.allocatable.b,zI a1.allocatable.c,.list false 102 (a1.thresholds.map aL),zI a1.period,zI a1.retries,zI a1.maxAge,zI a1.dead])],[],base⟩∧oT a0 (oS a1) m2=some r) aT ⟨rfl,h⟩ ?_ ?_)))))
   ·rintro m2 _ ⟨rfl,h⟩
    rw [oT] at h
    refine srd 1 rfl [3,5,9,10,11,12] [3] rfl (aB (aD h rfl (fun h=>?_) (fun h=>?_)))
    ·cases h
    refine aR [3,5] [3] rfl (CWp.exit ?_)
    exact ⟨rfl,h⟩
   rintro _ ⟨_,h⟩
   rw [oT] at h;cases h
  rintro _ ⟨rfl,h⟩
  unfold oS at h
  refine aB (aA (rn 3 rfl ?_))
  obtain ⟨v1,hv1,h⟩:=bI h
  refine aP Tryz.call97 (AJ hv1) rfl ?_
  refine rn 1 rfl (aC.done [4] [] rfl ?_)
  cases h;exact aJ ⟨.inl rfl,rfl,rfl⟩
end
section
open Go.RowKit
def u5 (v1:SConfig×Int×Int) (v2:(List UInt8)×Int×SStore) (v4:List Int) (x6:Int) (x7:Int) (x8:List SEntry) (x9:Bool) (x10:Bool) (x11:Bool):Option (Int×SAgent×SStore):=
  bO (bif (x6 !=0) then some default else (y4 (⟨x7,x8,(⟨x9,x10,x11⟩:V3 Bool)⟩:SState) v1.1)) fun v12=>
  bif (x6 !=0)||(!v12) then none else
  some (0,(⟨v1.1,(⟨x7,x8,(⟨x9,x10,x11⟩:V3 Bool)⟩:SState),v4,(⟨0,0,0⟩:V3 Int),(⟨(-1),(⟨0,0,0⟩:V3 Int),([]:List SUse)⟩:SSample),false,(-1),false⟩:SAgent),v2.2.2)
def q6 (a0:List UInt8) (a1:SDisk) (a1_0:List ((List UInt8)×(List UInt8))) (_a2:SWorld):Option (Int×SAgent×SStore):=
  bO (AX a0) fun v1=>
  bif v1.2.2 !=0 then none else
  bO (AW a1 a1_0) fun v2=>
  bO (xB v1.1) fun v4=>
  bif v2.2.1==4 then
    some (0,(⟨v1.1,(⟨0,([]:List SEntry),(⟨false,false,false⟩:V3 Bool)⟩:SState),v4,(⟨0,0,0⟩:V3 Int),(⟨(-1),(⟨0,0,0⟩:V3 Int),([]:List SUse)⟩:SSample),false,(-1),false⟩:SAgent),v2.2.2)
  else
    bif v2.2.1==0 then
      bO (BC v2.1) fun v13=>
      u5 v1 v2 v4 v13.2 v13.1.round v13.1.pods v13.1.on.a v13.1.on.b v13.1.on.c
    else none
theorem w7 {a0:List UInt8} {a1:SDisk} {a1_0:List ((List UInt8)×(List UInt8))} {a2:SWorld} {i1 i1_0 i2:Nat} {i2m2:Nat} {pi2m2 si2m2:Slk 4} {r:Int×SAgent×SStore} (h:q6 a0 a1 a1_0 a2=some r):aO Tryz.prog 10 [.list false 5 (a0.map zU8),.gptr i1 0,.gptr i2 0] [(i1,[.gmap i1_0,.list true 69 (a1.open_.map bG)]),(i1_0,aV keS (fun (x:List UInt8)=> .list false 5 (x.map zU8)) a1_0),(i2,[.list false 4 (a2.queue.l.map zB),zI a2.retries,hdM i2m2 pi2m2 a2.boxes si2m2,.list false 150 (a2.images.map aQ)]),(i2m2,lob pi2m2 aG a2.boxes si2m2)] (fun v outs=>∃(h0_:Nat) (h1_:Nat),v= .tuple [.gptr h0_ 0,zI r.1]∧outs=[(h0_,[zI r.2.1.c.capacity.a,zI r.2.1.c.capacity.b,zI r.2.1.c.capacity.c,zI r.2.1.c.allocatable.a,zI r.2.1.c.allocatable.b,zI r.2.1.c.allocatable.c,.list false 102 (r.2.1.c.thresholds.map aL),zI r.2.1.c.period,zI r.2.1.c.retries,zI r.2.1.c.maxAge,zI r.2.1.c.dead,.gptr i2 0,.gptr h1_ 0,zI r.2.1.state.round,.list false 83 (r.2.1.state.pods.map aN),zB r.2.1.state.on.a,zB r.2.1.state.on.b,zB r.2.1.state.on.c,.list false 3 (r.2.1.since.map zI),zI r.2.1.calm.a,zI r.2.1.calm.b,zI r.2.1.calm.c,zI r.2.1.sample.time,zI r.2.1.sample.avail.a,zI r.2.1.sample.avail.b,zI r.2.1.sample.avail.c,.list false 280 (r.2.1.sample.use.map bC),zB r.2.1.fresh,zI r.2.1.fuse,zB r.2.1.dead]),(h1_,[.gptr i1 0,zI r.2.2.version]),(i1,[.gmap i1_0,.list true 69 (a1.open_.map bG)]),(i1_0,aV keS (fun (x:List UInt8)=> .list false 5 (x.map zU8)) a1_0),(i2,[.list false 4 (a2.queue.l.map zB),zI a2.retries,hdM i2m2 pi2m2 a2.boxes si2m2,.list false 150 (a2.images.map aQ)]),(i2m2,lob pi2m2 aG a2.boxes si2m2)]):=by
  refine a8 Tryz.func10 rfl rfl rfl rfl fun base=>?_
  unfold q6 at h
  refine srd 2 rfl [0,1,2] [] rfl (aB (aA (rn 1 rfl ?_)))
  obtain ⟨v1,hv1,h⟩:=bI h
  refine aP Tryz.call34 (K2 hv1) rfl ?_
  refine rn 8 rfl (aC.done [1,2,8,10] [8] rfl (aB (srd 2 rfl [1,2,8,10,21] [8] rfl (aD h rfl (fun h=>?_) (fun h=>?_)))))
  ·cases h
  refine aE (aB (aA (rn 1 rfl ?_)))
  obtain ⟨v2,hv2,h⟩:=bI h
  refine bL [0,0] Tryz.call35 (KZ hv2) rfl rfl ?_
  rintro _ _ ⟨o3,rfl,rfl⟩
  refine rn 7 rfl (aC.done [2,8,10,11,12] [8] rfl (aB (b8 6 (by kernel_rfl) ?_)))
  refine cfp rfl [] [(8,_)] rfl ⟨rfl,trivial⟩ (fun _ _ _=>rfl) trivial ?_
  refine cfq rfl rfl (fun _ _ _=>rfl) ?_
  refine cfq rfl rfl (fun _ _ _=>rfl) ?_
  refine cfp rfl [] [(8,_)] rfl ⟨rfl,trivial⟩ (fun _ _ _=>rfl) trivial ?_
  obtain ⟨v4,hv4,h⟩:=bI h
  refine cf1 (d:=33) (v:= .list false 3 (v4.map zI)) rfl [(32,[],_)] [] ⟨rfl,trivial⟩ trivial (fun fr X O hf=>?_) ?_
  ·refine aP (hsub:=sbF rfl hf) Tryz.call36 (HR hv4) rfl ?_
   exact aW rfl
  refine cfq rfl rfl (fun _ _ _=>rfl) ?_
  refine b6.nil ⟨by kernel_rfl,?_⟩
  refine rn 1 rfl (uV ?_)
  rintro o5-
  refine rn 1 rfl (aC.done [8,10,12,13] [8] rfl (aS (fun e=>∃x6 x7 x8 x9 x10 x11,e=⟨[(8,[],.lptr 8 0),(10,[],zI x6),(13,[],.gptr o5 0)],[],[(8,[zI v1.1.capacity.a,zI v1.1.capacity.b,zI v1.1.capacity.c,zI v1.1.allocatable.a,zI v1.1.allocatable.b,zI v1.1.allocatable.c,.list false 102 (v1.1.thresholds.map aL),zI v1.1.period,zI v1.1.retries,zI v1.1.maxAge,zI v1.1.dead])],[(o5,[zI v1.1.capacity.a,zI v1.1.capacity.b,zI v1.1.capacity.c,zI v1.1.allocatable.a,zI v1.1.allocatable.b,zI v1.1.allocatable.c,.list false 102 (v1.1.thresholds.map aL),zI v1.1.period,zI v1.1.retries,zI v1.1.maxAge,zI v1.1.dead,.gptr i2 0,.gptr o3 0,zI x7,.list false 83 (x8.map aN),zB x9,zB x10,zB x11,.list false 3 (v4.map zI),zI 0,zI 0,zI 0,zI (-1),zI 0,zI 0,zI 0,.list false 280 (([]:List SUse).map bC),zB false,zI (-1),zB false]),(o3,[.gptr i1 0,zI v2.2.2.version]),(i1,[.gmap i1_0,.list true 69 (a1.open_.map bG)]),(i1_0,aV keS (fun (x:List UInt8)=> .list false 5 (x.map zU8)) a1_0),(i2,[.list false 4 (a2.queue.l.map zB),zI a2.retries,hdM i2m2 pi2m2 a2.boxes si2m2,.list false 150 (a2.images.map aQ)]),(i2m2,lob pi2m2 aG a2.boxes si2m2)],base⟩∧u5 v1 v2 v4 x6 x7 x8 x9 x10 x11=some r) ?_ ?_))
  ·refine srd 1 rfl [8,10,12,13,37] [8] rfl (aF (srd 2 rfl [8,10,12,13,37,38] [8] rfl (aD h rfl (fun h=>?_) (fun h=>?_))))
   ·refine srd 3 rfl [6,7] [] rfl (aJ ?_)
    cases h
    exact ⟨.inl rfl,_,[0,0,0,0,0,0],_,_,rfl,rfl,rfl,o5,o3,rfl,rfl⟩
   refine srd 2 rfl [8,10,12,13,41] [8] rfl (aD h rfl (fun h=>?_) (fun h=>?_))
   ·refine aA (rn 2 rfl ?_)
    obtain ⟨v13,hv13,h⟩:=bI h
    refine aP Tryz.call37 (LE hv13) rfl ?_
    refine rh 7 [0] [] rfl ⟨rfl,trivial⟩ (aC.done [8,10,13] [8] rfl ?_)
    exact ⟨_,_,_,_,_,_,rfl,h⟩
   cases h
  rintro _ ⟨x6,x7,x8,x9,x10,x11,rfl,h⟩
  unfold u5 at h
  refine aB (aB (CWp.drawn 11 (by kernel_rfl) ?_))
  refine ph 8 [0] rfl ⟨rfl,trivial⟩ ?_
  obtain ⟨v12,hv12,h⟩:=bI h
  refine WK 53 false [] Tryz.call38 (fun ht=>JD (gdf hv12 (ht.1 _ rfl))) rfl ?_
  refine pn 2 rfl (b5.nil (aC.done [13,61] [] rfl (aD h rfl (fun h=>?_) (fun h=>?_))))
  ·cases h
  refine aE (srd 3 rfl [6,7] [] rfl (aJ ?_))
  cases h
  exact ⟨.inl rfl,_,[0,0,0,0,0,0],_,_,rfl,rfl,rfl,o5,o3,rfl,rfl⟩
def yU (a0:SConfig):Option (SNode×Bool×SDisk×(List ((List UInt8)×(List UInt8)))×SWorld×SAgent×SStore):=
  bO (rY a0) fun v1=>
  bO (DW v1) fun _v2=>
  bO (tG) fun v3=>
  bO (wI a0.retries) fun v6=>
  bO (q6 v1 v3.1 v3.2 v6) fun v9=>
  some ((⟨v1⟩:SNode),v9.1==0,v3.1,v3.2,v6,v9.2.1,v9.2.2)
theorem I5 {a0:SConfig} {r:SNode×Bool×SDisk×(List ((List UInt8)×(List UInt8)))×SWorld×SAgent×SStore} (h:yU a0=some r):aO Tryz.prog 12 [gW a0] [] (fun v outs=>∃(h0_:Nat) (h1_:Nat) (h2_:Nat) (h3_:Nat) (h4_:Nat) (h2_m2:Nat) (ph2_m2 sh2_m2:Slk 4),v= .tuple [.agg [.list false 5 (r.1.text.map zU8),.gptr h0_ 0,.gptr h2_ 0,.gptr h3_ 0],zB r.2.1]∧outs=[(h0_,[.gmap h1_,.list true 69 (r.2.2.1.open_.map bG)]),(h1_,aV keS (fun (x:List UInt8)=> .list false 5 (x.map zU8)) r.2.2.2.1),(h2_,[.list false 4 (r.2.2.2.2.1.queue.l.map zB),zI r.2.2.2.2.1.retries,hdM h2_m2 ph2_m2 r.2.2.2.2.1.boxes sh2_m2,.list false 150 (r.2.2.2.2.1.images.map aQ)]),(h2_m2,lob ph2_m2 aG r.2.2.2.2.1.boxes sh2_m2),(h3_,[zI r.2.2.2.2.2.1.c.capacity.a,zI r.2.2.2.2.2.1.c.capacity.b,zI r.2.2.2.2.2.1.c.capacity.c,zI r.2.2.2.2.2.1.c.allocatable.a,zI r.2.2.2.2.2.1.c.allocatable.b,zI r.2.2.2.2.2.1.c.allocatable.c,.list false 102 (r.2.2.2.2.2.1.c.thresholds.map aL),zI r.2.2.2.2.2.1.c.period,zI r.2.2.2.2.2.1.c.retries,zI r.2.2.2.2.2.1.c.maxAge,zI r.2.2.2.2.2.1.c.dead,.gptr h2_ 0,.gptr h4_ 0,zI r.2.2.2.2.2.1.state.round,.list false 83 (r.2.2.2.2.2.1.state.pods.map aN),zB r.2.2.2.2.2.1.state.on.a,zB r.2.2.2.2.2.1.state.on.b,zB r.2.2.2.2.2.1.state.on.c,.list false 3 (r.2.2.2.2.2.1.since.map zI),zI r.2.2.2.2.2.1.calm.a,zI r.2.2.2.2.2.1.calm.b,zI r.2.2.2.2.2.1.calm.c,zI r.2.2.2.2.2.1.sample.time,zI r.2.2.2.2.2.1.sample.avail.a,zI r.2.2.2.2.2.1.sample.avail.b,zI r.2.2.2.2.2.1.sample.avail.c,.list false 280 (r.2.2.2.2.2.1.sample.use.map bC),zB r.2.2.2.2.2.1.fresh,zI r.2.2.2.2.2.1.fuse,zB r.2.2.2.2.2.1.dead]),(h4_,[.gptr h0_ 0,zI r.2.2.2.2.2.2.version])]):=by
  refine a8 Tryz.func12 rfl rfl rfl rfl fun base=>?_
  unfold yU at h
  refine srd 3 rfl [1,2] [1,2] rfl (aB (sP [0,1,2,4,5,8,3,6,7,9] (by kernel_rfl) (dB.of ?_)))
  refine bQ 0 rfl [] [(1,_)] rfl ⟨rfl,trivial⟩ (fun _ _ _=>rfl) trivial ?_
  obtain ⟨v1,hv1,h⟩:=bI h
  refine TO (d:=8) (v:= .str v1) 1 rfl [(7,[],_)] [] ⟨rfl,trivial⟩ trivial (fun fr X O hf=>?_) ?_
  ·refine aP (hsub:=sbF rfl hf) Tryz.call16 (AF hv1) rfl ?_
   exact aW rfl
  obtain ⟨v2,hv2,h⟩:=bI h
  refine TO (d:=9) (v:= .list false 5 (v1.map zU8)) 2 rfl [(8,[],_)] [] ⟨rfl,trivial⟩ trivial (fun fr X O hf=>?_) ?_
  ·refine L4 (DX hv2).1 ?_
   exact aW rfl
  refine bQ 4 rfl [] [] rfl trivial (fun _ _ _=>rfl) trivial ?_
  refine bQ 5 rfl [] [(1,_)] rfl ⟨rfl,trivial⟩ (fun _ _ _=>rfl) trivial ?_
  refine XL 8 rfl (fun _ _ _=>rfl) rfl rfl ?_
  obtain ⟨v3,hv3,h⟩:=bI h
  refine kcg (ι:=(Nat)×(Nat)) (0,0) (fun g_=>[(10,[],.gptr g_.1 0)]) (fun g_=>[(g_.1,[.gmap g_.2,.list true 69 (v3.1.open_.map bG)]),(g_.2,aV keS (fun (x:List UInt8)=> .list false 5 (x.map zU8)) v3.2)]) 3 rfl [] trivial (fun fr X hf=>?_) (by kernel_rfl) (fun _=>⟨rfl,by kernel_rfl⟩) ?_
  ·refine bL [] Tryz.call17 (yN hv3) rfl rfl ?_
   rintro _ _ ⟨o4,o5,rfl,rfl⟩
   exact aW ⟨(o4,o5),rfl⟩
  rintro ⟨o4,o5⟩
  obtain ⟨v6,hv6,h⟩:=bI h
  refine kcg (ι:=(Nat)×(Nat×Slk 4×Slk 4)) (0,(0,Slk.nil,Slk.nil)) (fun g_=>[(13,[],.gptr g_.1 0)]) (fun g_=>[(g_.1,[.list false 4 (v6.queue.l.map zB),zI v6.retries,hdM g_.2.1 g_.2.2.1 v6.boxes g_.2.2.2,.list false 150 (v6.images.map aQ)]),(g_.2.1,lob g_.2.2.1 aG v6.boxes g_.2.2.2),(o4,[.gmap o5,.list true 69 (v3.1.open_.map bG)]),(o5,aV keS (fun (x:List UInt8)=> .list false 5 (x.map zU8)) v3.2)]) 6 rfl [(12,[],_)] ⟨rfl,trivial⟩ (fun fr X hf=>?_) (by kernel_rfl) (fun _=>⟨rfl,by kernel_rfl⟩) ?_
  ·refine bL [] Tryz.call18 (DD hv6) rfl rfl ?_
   rintro _ _ ⟨o7,m8,pm8,sm8,rfl,rfl⟩
   exact aW ⟨(o7,(m8,pm8,sm8)),rfl⟩
  rintro ⟨o7,⟨m8,pm8,sm8⟩⟩
  refine bQ 7 rfl [] [] rfl trivial (fun _ _ _=>rfl) trivial ?_
  refine WD (wr:=[]) (k0:=4) (cs':=[.list false 5 (v1.map zU8),.gptr o4 0,.gptr o7 0,.lit (.pointer none)]) 9 rfl [(4,[],_),(14,[],_)] ⟨rfl,rfl,trivial⟩ rfl (fun fr X O hf=>?_) ?_
  ·exact rn 1 rfl (aW rfl)
  refine dB.nil (by kernel_rfl) ⟨rfl,?_⟩
  refine aC.done [2,4] [2,4] rfl (aB (aB (aA (rn 2 rfl (rd (CW (b:=false) Tryz.underlying24 (.inl ⟨rfl,rfl⟩)) ?_)))))
  refine rn 1 rfl (aC.want ?_)
  refine rn 1 rfl (aC.want ?_)
  refine rn 1 rfl (aC.want ?_)
  refine rd (CW (b:=false) Tryz.underlying25 (.inl ⟨rfl,rfl⟩)) ?_
  refine rd (fP) ?_
  refine aC.done [2,4,22] [2,4] rfl (dD rfl (by decide) ?_)
  refine aE (aB (aA (rn 6 rfl ?_)))
  obtain ⟨v9,hv9,h⟩:=bI h
  refine bL [2,2,0,0] Tryz.call10 (w7 hv9) rfl rfl ?_
  rintro _ _ ⟨o10,o11,rfl,rfl⟩
  refine rn 5 rfl (aC.objs [1,0,2,2,0,0] rfl ?_)
  refine aC.done [2,4,5,6] [2,4] rfl (srd 3 rfl [2,4,5,6] [2,4] rfl (aB (aA (rn 2 rfl (rd (CW (b:=true) Tryz.underlying26 (.inr ⟨rfl,rfl⟩)) ?_)))))
  refine rn 1 rfl (aC.want ?_)
  refine rn 1 rfl (aC.want ?_)
  refine rn 1 rfl (rd (fP) ?_)
  refine rn 2 rfl (aC.done [2,3] [2] rfl (aJ ?_))
  cases h
  exact ⟨.inl rfl,_,[4,4,2,2,1,0],_,_,rfl,rfl,rfl,o4,o5,o7,o10,o11,m8,pm8,sm8,rfl,rfl⟩
def sA (a0:SEntry) (a1:SPod):Option Bool:=
  some (a0.pod.id==a1.id)
theorem EA {a0:SEntry} {a1:SPod} {i1:Nat} {r:Bool} (h:sA a0 a1=some r):aO Tryz.prog 81 [aN a0,.gptr i1 0] [(i1,[.str a1.id,zI a1.prio,zB a1.critical,zI a1.req.a,zI a1.req.b,zI a1.req.c,zI a1.lim.a,zI a1.lim.b,zI a1.lim.c,.str a1.image,zI a1.size])] (fun v outs=>v=zB r∧outs=[(i1,[.str a1.id,zI a1.prio,zB a1.critical,zI a1.req.a,zI a1.req.b,zI a1.req.c,zI a1.lim.a,zI a1.lim.b,zI a1.lim.c,.str a1.image,zI a1.size])]):=by
  refine a8 Tryz.func81 rfl rfl rfl rfl fun base=>?_
  unfold sA at h
  refine srd 2 rfl [1,2] [2] rfl (aB (aA (rh 7 [0] [] rfl ⟨rfl,trivial⟩ (aC.done [3] [] rfl ?_))))
  cases h;exact aJ ⟨.inl rfl,_,[0],_,_,rfl,rfl,rfl,rfl,rfl⟩
def e7 :Option Int:=
  some (-1)
def dR (a0:List SEntry) (a1:SEntry→Option Bool) (k290:Option Int):Nat→Int→Option Int
  |0,_=>none
  |m2+1,x1=>
   bif decide (x1<(a0.length:Int)) then
     bO (idx a0 x1) fun v2=>
     bO (a1 v2) fun v3=>
     bif v3 then none else
     (dR a0 a1 k290 m2) (w64 (x1+1))
   else
     k290
def j3 (a0:List SEntry) (a1:SEntry→Option Bool):Option Int:=
  dR a0 a1 e7 aT 0
theorem xM {a0:List SEntry} {a1:SEntry→Option Bool} {r:Int} {ins:Ob} {f1:Nat} {c1:List AV} (hp1:Fn1 Tryz.prog f1 c1 ins aN zB a1) (h:j3 a0 a1=some r):aO Tryz.prog 123 [.list false 83 (a0.map aN),.fn f1 c1] ins (fun v outs=>v=zI r∧outs=ins):=by
  refine cL Tryz.func123 rfl rfl rfl rfl fun base=>?_
  unfold j3 at h
  refine srd 1 rfl [0,1] [] rfl (aS (fun e=>e=⟨[],[],[],ins,base⟩∧e7=some r) ?_ ?_)
  ·refine aB (aA (rh 3 [a0.length] [] rfl ⟨List.length_map ..,trivial⟩ (aC.done [0,1,7,8] [] rfl (aF (aU (fun m2 e=>∃x1,e=⟨[(0,[],.list false 83 (a0.map aN)),(1,[],.fn f1 c1),(7,[],zI (a0.length:Int)),(8,[],zI x1)],[],[],ins,base⟩∧dR a0 a1 (e7) m2 x1=some r) aT ⟨_,rfl,h⟩ ?_ ?_)))))
   ·rintro m2 _ ⟨x1,rfl,h⟩
    rw [dR] at h
    refine srd 1 rfl [0,1,7,8,9] [] rfl (aB (aD h rfl (fun h=>?_) (fun h=>?_)))
    ·refine aE (aB (aF (srd 2 rfl [0,1,5,7,8] [] rfl (aB (aA ?_)))))
     obtain ⟨v2,hv2,h⟩:=bI h
     refine rn 3 rfl (rd (rIx hv2) ?_)
     refine rn 1 rfl ?_
     obtain ⟨v3,hv3,h⟩:=bI h
     refine n0 hp1.1 (hp1.2 _ _ hv3) ?_
     rintro _ _ ⟨rfl,rfl⟩
     refine aC.done [0,1,5,7,8,16] [] rfl (aD h rfl (fun h=>?_) (fun h=>?_))
     ·cases h
     refine aE ?_
     refine aA (rn 2 rfl (aC.done [0,1,7,8] [] rfl ?_))
     exact ⟨_,rfl,h⟩
    refine aR [] [] rfl (CWp.exit ?_)
    exact ⟨rfl,h⟩
   rintro _ ⟨_,_,h⟩
   rw [dR] at h;cases h
  rintro _ ⟨rfl,h⟩
  unfold e7 at h
  refine srd 1 rfl [4] [] rfl (aJ ?_)
  cases h
  exact ⟨.inl rfl,_,rfl,rfl,rfl,rfl⟩
def eZ (a0:List SEntry) (a1:SEntry→Option Bool):Option Bool:=
  bO (j3 a0 a1) fun v1=>
  some (decide (v1≥0))
theorem lI {a0:List SEntry} {a1:SEntry→Option Bool} {r:Bool} {ins:Ob} {f1:Nat} {c1:List AV} (hp1:Fn1 Tryz.prog f1 c1 ins aN zB a1) (h:eZ a0 a1=some r):aO Tryz.prog 69 [.list false 83 (a0.map aN),.fn f1 c1] ins (fun v outs=>v=zB r∧outs=ins):=by
  refine cL Tryz.func69 rfl rfl rfl rfl fun base=>?_
  unfold eZ at h
  refine srd 1 rfl [0,1] [] rfl (aB (aA (rn 2 rfl ?_)))
  obtain ⟨v1,hv1,h⟩:=bI h
  refine wM Tryz.call123 (xM hp1 hv1) rfl ?_
  rintro _ _ ⟨rfl,rfl⟩
  refine rn 2 rfl (aC.done [4] [] rfl (aJ ?_))
  cases h
  exact ⟨.inl rfl,_,rfl,rfl,rfl,rfl⟩
def rC (_a0:SPod):Option Int:=
  none
theorem xG {a0:SPod} {r:Int} (h:rC a0=some r):aI Tryz.prog 137 [cI a0] (zI r):=by
  refine aK Tryz.func137 rfl rfl rfl rfl fun base=>?_
  unfold rC at h
  cases h
def u3 (a0:V3 Bool) (a1:SPod):Option (Int×Bool):=
  bif a1.critical then none else
  bO (bif a0.a then (bif ((0:Int) !=0) then some default else (rC a1)) else some default) fun v1=>
  bif a0.a&&(((0:Int) !=0)||(v1==3)) then none else
  bO (bif a0.b then (bif ((w64 ((0:Int)+1):Int) !=0) then some default else (rC a1)) else some default) fun v2=>
  bif a0.b&&(((w64 ((0:Int)+1):Int) !=0)||(v2==3)) then none else
  bO (bif a0.c then (bif ((w64 ((w64 ((0:Int)+1):Int)+1):Int) !=0) then some default else (rC a1)) else some default) fun v3=>
  bif a0.c&&(((w64 ((w64 ((0:Int)+1):Int)+1):Int) !=0)||(v3==3)) then none else
  some (0,false)
theorem F2 {a0:V3 Bool} {a1:SPod} {r:Int×Bool} (h:u3 a0 a1=some r):aI Tryz.prog 82 [xZ a0,cI a1] (.tuple [zI r.1,zB r.2]):=by
  refine aK Tryz.func82 rfl rfl rfl rfl fun base=>?_
  unfold u3 at h
  refine srd 4 rfl [2,3] [2,3] rfl (aB (srd 2 rfl [2,3,9] [2,3] rfl (aD h rfl (fun h=>?_) (fun h=>?_))))
  ·cases h
  refine aE (aB (srd 2 rfl [3,10,11] [3] rfl (aF (d7 4 (crd (srd 1 rfl [3,10,11,12] [3] rfl (aB (bD rfl (by decide) ?_))))))))
  refine aE (aB (aF (srd 4 rfl [3,6,7,10,11] [3] rfl (aB (aA (rn 6 rfl ?_))))))
  obtain ⟨v1,hv1,h⟩:=bI h
  refine gV 19 false [(16,true)] Tryz.call137 (fun ht=>xG (gdf (gd hv1 (ht.2.1 _ rfl)) (ht.1 _ rfl))) rfl ?_
  refine rn 3 rfl (aC.done [3,6,10,11,24] [3] rfl (aD h rfl (fun h=>?_) (fun h=>?_)))
  ·cases h
  refine aE ?_
  refine aA (rn 2 rfl (aC.done [3,10,11] [3] rfl (crd (srd 1 rfl [3,10,11,12] [3] rfl (aB (bD rfl (by decide) ?_))))))
  refine aE (aB (aF (srd 4 rfl [3,6,7,10,11] [3] rfl (aB (aA (rn 6 rfl ?_))))))
  obtain ⟨v2,hv2,h⟩:=bI h
  refine gV 19 false [(16,true)] Tryz.call137 (fun ht=>xG (gdf (gd hv2 (ht.2.1 _ rfl)) (ht.1 _ rfl))) rfl ?_
  refine rn 3 rfl (aC.done [3,6,10,11,24] [3] rfl (aD h rfl (fun h=>?_) (fun h=>?_)))
  ·cases h
  refine aE ?_
  refine aA (rn 2 rfl (aC.done [3,10,11] [3] rfl (crd (srd 1 rfl [3,10,11,12] [3] rfl (aB (bD rfl (by decide) ?_))))))
  refine aE (aB (aF (srd 4 rfl [3,6,7,10,11] [3] rfl (aB (aA (rn 6 rfl ?_))))))
  obtain ⟨v3,hv3,h⟩:=bI h
  refine gV 19 false [(16,true)] Tryz.call137 (fun ht=>xG (gdf (gd hv3 (ht.2.1 _ rfl)) (ht.1 _ rfl))) rfl ?_
  refine rn 3 rfl (aC.done [3,6,10,11,24] [3] rfl (aD h rfl (fun h=>?_) (fun h=>?_)))
  ·cases h
  refine aE ?_
  refine aA (rn 2 rfl (aC.done [3,10,11] [3] rfl (crd (srd 1 rfl [3,10,11,12] [3] rfl (aB (dD rfl (by decide) ?_))))))
  refine CWp.exit (srd 2 rfl [4,5] [] rfl ?_)
  cases h;exact aJ ⟨.inl rfl,rfl,rfl⟩
def eE :Option Unit:=
  some ()
def cZ (a1:Int) (a2:Int) (k290:Option Unit):Nat→Option Unit
  |0=>none
  |_m1+1=>
   bif decide ((w64 (a1+1))<a2) then none else
   k290
def fB (_a0:List SPod) (a1:Int) (a2:Int) (_a3:SPod→SPod→Option Int):Option Unit:=
  cZ a1 a2 eE aT
theorem qC {a0:List SPod} {a1:Int} {a2:Int} {a3:SPod→SPod→Option Int} {r:Unit} {ins:Ob} {f3:Nat} {c3:List AV} (_hp3:Fn2 Tryz.prog f3 c3 ins cI cI zI a3) (h:fB a0 a1 a2 a3=some r):aO Tryz.prog 305 [.list false 43 (a0.map cI),zI a1,zI a2,.fn f3 c3] ins (fun v outs=>v= .tuple []∧outs=ins):=by
  refine cL Tryz.func305 rfl rfl rfl rfl fun base=>?_
  unfold fB at h
  refine srd 3 rfl [0,1,2,3,8] [] rfl (aF (aU (fun m1 e=>e=⟨[(0,[],.list false 43 (a0.map cI)),(1,[],zI a1),(2,[],zI a2),(3,[],.fn f3 c3),(8,[],zI (w64 (a1+1)))],[],[],ins,base⟩∧cZ a1 a2 (eE) m1=some r) aT ⟨rfl,h⟩ ?_ ?_))
  ·rintro m1 _ ⟨rfl,h⟩
   rw [cZ] at h
   refine aB (srd 3 rfl [0,1,2,3,8,14] [] rfl (aD h rfl (fun h=>?_) (fun h=>?_)))
   ·cases h
   refine CWp.exit ?_
   unfold eE at h
   cases h
   exact ⟨.inr rfl,_,rfl,rfl,rfl,rfl⟩
  rintro _ ⟨_,h⟩
  rw [cZ] at h;cases h
def d8 (a0:List SPod) (a1:Int) (a2:Int) (a4:SPod→SPod→Option Int):Nat→Option Unit
  |0=>none
  |_m1+1=>
   bif decide ((w64 (a2-a1))≤12) then
     bO (fB a0 a1 a2 a4) fun _v1=>
     some ()
   else none
def iM (a0:List SPod) (a1:Int) (a2:Int) (_a3:Int) (a4:SPod→SPod→Option Int):Option Unit:=
  d8 a0 a1 a2 a4 aT
theorem uM {a0:List SPod} {a1:Int} {a2:Int} {a3:Int} {a4:SPod→SPod→Option Int} {r:Unit} {ins:Ob} {f4:Nat} {c4:List AV} (hp4:Fn2 Tryz.prog f4 c4 ins cI cI zI a4) (h:iM a0 a1 a2 a3 a4=some r):aO Tryz.prog 247 [.list false 43 (a0.map cI),zI a1,zI a2,zI a3,.fn f4 c4] ins (fun v outs=>v= .tuple []∧outs=ins):=by
  refine cL Tryz.func247 rfl rfl rfl rfl fun base=>?_
  unfold iM at h
  refine srd 1 rfl [0,1,2,3,4,10] [] rfl (srd 1 rfl [0,1,2,3,4,10,11] [] rfl (aF (aU (fun m1 e=>e=⟨[(0,[],.list false 43 (a0.map cI)),(1,[],zI a1),(2,[],zI a2),(3,[],zI a3),(4,[],.fn f4 c4),(10,[],zB true),(11,[],zB true)],[],[],ins,base⟩∧d8 a0 a1 a2 a4 m1=some r) aT ⟨rfl,h⟩ ?_ ?_)))
  ·rintro m1 _ ⟨rfl,h⟩
   rw [d8] at h
   refine aF (srd 4 rfl [0,1,2,3,4,10,11,12] [] rfl (aB (srd 2 rfl [0,1,2,3,4,10,11,12,25] [] rfl (aD h rfl (fun h=>?_) (fun h=>?_)))))
   ·refine aB (aA (rn 4 rfl ?_))
    obtain ⟨v1,hv1,h⟩:=bI h
    refine wM Tryz.call305 (qC hp4 hv1) rfl ?_
    rintro _ _ ⟨rfl,rfl⟩
    refine aC.done [] [] rfl (aJ ?_)
    cases h
    exact ⟨.inl rfl,_,rfl,rfl,rfl,rfl⟩
   cases h
  rintro _ ⟨_,h⟩
  rw [d8] at h;cases h
def mN (a0:List SPod) (a1:SPod→SPod→Option Int):Option Unit:=
  bO (JK (IntKind.u64.wrap (a0.length:Int))) fun v1=>
  bO (iM a0 0 (a0.length:Int) v1 a1) fun _v2=>
  some ()
theorem zY {a0:List SPod} {a1:SPod→SPod→Option Int} {r:Unit} {ins:Ob} {f1:Nat} {c1:List AV} (hp1:Fn2 Tryz.prog f1 c1 ins cI cI zI a1) (h:mN a0 a1=some r):aO Tryz.prog 197 [.list false 43 (a0.map cI),.fn f1 c1] ins (fun v outs=>v= .tuple []∧outs=ins):=by
  refine cL Tryz.func197 rfl rfl rfl rfl fun base=>?_
  unfold mN at h
  refine aB (aA (rh 3 [a0.length] [] rfl ⟨List.length_map ..,trivial⟩ (aC.done [0,1,4] [] rfl ?_)))
  refine aA (rn 4 rfl ?_)
  obtain ⟨v1,hv1,h⟩:=bI h
  refine aP Tryz.call179 (EX hv1) rfl ?_
  refine rn 1 rfl ?_
  obtain ⟨v2,hv2,h⟩:=bI h
  refine wM Tryz.call247 (uM hp1 hv2) rfl ?_
  rintro _ _ ⟨rfl,rfl⟩
  refine aC.done [] [] rfl ?_
  cases h
  exact ⟨.inr rfl,_,rfl,rfl,rfl,rfl⟩
def eV (_a0:Int) (_a1:Int):Option Int:=
  none
theorem gP {a0:Int} {a1:Int} {r:Int} (h:eV a0 a1=some r):aI Tryz.prog 172 [zI a0,zI a1] (zI r):=by
  refine aK Tryz.func172 rfl rfl rfl rfl fun base=>?_
  unfold eV at h
  cases h
def kK (a0:List Int):Nat→Int→Option Int
  |0,_=>none
  |m1+1,x1=>
   bif decide (x1<(a0.length:Int)) then
     bO (idx a0 x1) fun v2=>
     bif v2 !=0 then
       some v2
     else
       (kK a0 m1) (w64 (x1+1))
   else none
def l9 (a0:List Int):Option Int:=
  kK a0 aT 0
theorem pY {a0:List Int} {r:Int} (h:l9 a0=some r):aI Tryz.prog 171 [.list false 3 (a0.map zI)] (zI r):=by
  refine aK Tryz.func171 rfl rfl rfl rfl fun base=>?_
  unfold l9 at h
  refine srd 1 rfl [0] [] rfl (srd 1 rfl [0,3] [] rfl (aB (aB (aA (rh 3 [a0.length] [] rfl ⟨List.length_map ..,trivial⟩ (aC.done [3,6,7,8] [] rfl (aF (aU (fun m1 e=>∃x1,e=⟨[(3,[],zI 0),(6,[],.list false 3 (a0.map zI)),(7,[],zI (a0.length:Int)),(8,[],zI x1)],[],[],[],base⟩∧kK a0 m1 x1=some r) aT ⟨_,rfl,h⟩ ?_ ?_))))))))
  ·rintro m1 _ ⟨x1,rfl,h⟩
   rw [kK] at h
   refine srd 1 rfl [3,6,7,8,9] [] rfl (aB (aD h rfl (fun h=>?_) (fun h=>?_)))
   ·refine aE (aB (aF (aB (aA ?_))))
    obtain ⟨v2,hv2,h⟩:=bI h
    refine rd (rIx hv2) ?_
    refine rn 2 rfl (aC.done [3,5,6,7,8] [] rfl (srd 3 rfl [3,5,6,7,8,14] [] rfl (aD h rfl (fun h=>?_) (fun h=>?_))))
    ·refine srd 2 rfl [2] [] rfl ?_
     cases h;exact aJ ⟨.inl rfl,rfl,rfl⟩
    refine aE ?_
    refine aA (rn 2 rfl (aC.done [3,6,7,8] [] rfl ?_))
    exact ⟨_,rfl,h⟩
   cases h
  rintro _ ⟨_,_,h⟩
  rw [kK] at h;cases h
def sH (a0:SPod) (a1:SPod):Option Int:=
  bO (eV a1.prio a0.prio) fun v1=>
  bO (CF a0.id a1.id) fun v2=>
  bO (l9 [v1,v2]) fun v3=>
  some v3
theorem EF {a0:SPod} {a1:SPod} {r:Int} (h:sH a0 a1=some r):aI Tryz.prog 198 [cI a0,cI a1] (zI r):=by
  refine aK Tryz.func198 rfl rfl rfl rfl fun base=>?_
  unfold sH at h
  refine srd 3 rfl [2,3] [2,3] rfl (aB (CWp.ahead 10 (by kernel_rfl) ?_))
  refine pn 4 rfl ?_
  obtain ⟨v1,hv1,h⟩:=bI h
  refine kC Tryz.call172 (gP hv1) rfl ?_
  refine pn 4 rfl ?_
  obtain ⟨v2,hv2,h⟩:=bI h
  refine kC Tryz.call143 (wN hv2) rfl ?_
  refine b5.nil (⟨⟨[(15,[],.list true 3 ([v1,v2].map zI))],[],[],[],base⟩,?_,rfl,?_⟩)
  ·exact rn 1 rfl (aC.done [15] [] rfl (rfl))
  obtain ⟨v3,hv3,h⟩:=bI h
  refine aP Tryz.call171 (pY hv3) rfl ?_
  refine rn 1 rfl (aC.done [4] [] rfl ?_)
  cases h;exact aJ ⟨.inl rfl,rfl,rfl⟩
def lR (a1:SPod):Option ((List SPod)×(List SPod)):=
  bO (mN ([]:List SPod) sH) fun _v1=>
  some ([a1],([]:List SPod))
def lS (a0:List SPod) (k290:Option ((List SPod)×(List SPod))):Nat→Option ((List SPod)×(List SPod))
  |0=>none
  |_m2+1=>
   bif decide (0<(a0.length:Int)) then none else
   k290
def vP (a0:List SPod) (a1:SPod):Option ((List SPod)×(List SPod)):=
  lS a0 (lR a1) aT
theorem GE {a0:List SPod} {a1:SPod} {r:(List SPod)×(List SPod)} (h:vP a0 a1=some r):aI Tryz.prog 138 [.list false 43 (a0.map cI),cI a1] (.tuple [.list true 43 (r.1.map cI),.list true 43 (r.2.map cI)]):=by
  refine aK Tryz.func138 rfl rfl rfl rfl fun base=>?_
  unfold vP at h
  refine srd 3 rfl [0,3] [3] rfl (aB (aA (rh 3 [] [6] rfl trivial (aC.done [0,3,6] [3] rfl (srd 1 rfl [0,3,6,7] [3] rfl (aS (fun e=>e=⟨[(6,[],.list true 43 ([a1].map cI)),(7,[],.list true 43 (([]:List SPod).map cI))],[],[],[],base⟩∧lR a1=some r) ?_ ?_))))))
  ·refine aB (aA (rh 3 [a0.length] [] rfl ⟨List.length_map ..,trivial⟩ (aC.done [3,6,7,12,13,14] [3] rfl (aF (aU (fun m2 e=>e=⟨[(3,[],.lptr 3 0),(6,[],.list true 43 ([a1].map cI)),(7,[],.list true 43 (([]:List SPod).map cI)),(12,[],.list false 43 (a0.map cI)),(13,[],zI (a0.length:Int)),(14,[],zI 0)],[],[(3,[.str a1.id,zI a1.prio,zB a1.critical,zI a1.req.a,zI a1.req.b,zI a1.req.c,zI a1.lim.a,zI a1.lim.b,zI a1.lim.c,.str a1.image,zI a1.size])],[],base⟩∧lS a0 (lR a1) m2=some r) aT ⟨rfl,h⟩ ?_ ?_)))))
   ·rintro m2 _ ⟨rfl,h⟩
    rw [lS] at h
    refine srd 1 rfl [3,6,7,12,13,14,15] [3] rfl (aB (aD h rfl (fun h=>?_) (fun h=>?_)))
    ·cases h
    refine aR [6,7] [] rfl (CWp.exit ?_)
    exact ⟨rfl,h⟩
   rintro _ ⟨_,h⟩
   rw [lS] at h;cases h
  rintro _ ⟨rfl,h⟩
  unfold lR at h
  refine aB (aA (rn 1 rfl ?_))
  obtain ⟨v1,hv1,h⟩:=bI h
  refine bR [] Tryz.call197 (zY ⟨Tryz.call198,fun _ _ _ hb=>EF hb⟩ hv1) rfl rfl ?_
  refine aC.done [6,7] [] rfl (aB (aA (rh 4 [] [32,33,4,5] rfl trivial (aC.done [4,5] [] rfl ?_))))
  cases h;exact aJ ⟨.inl rfl,rfl,rfl⟩
def dZ :Option Unit:=
  some ()
def cU (a1:Int) (a2:Int) (k290:Option Unit):Nat→Option Unit
  |0=>none
  |_m1+1=>
   bif decide ((w64 (a1+1))<a2) then none else
   k290
def eG (_a0:List (List UInt8)) (a1:Int) (a2:Int):Option Unit:=
  cU a1 a2 dZ aT
theorem oF {a0:List (List UInt8)} {a1:Int} {a2:Int} {r:Unit} (h:eG a0 a1 a2=some r):aI Tryz.prog 248 [.list false 9 (a0.map AV.str),zI a1,zI a2] (.tuple []):=by
  refine aK Tryz.func248 rfl rfl rfl rfl fun base=>?_
  unfold eG at h
  refine srd 3 rfl [0,1,2,6] [] rfl (aF (aU (fun m1 e=>e=⟨[(0,[],.list false 9 (a0.map AV.str)),(1,[],zI a1),(2,[],zI a2),(6,[],zI (w64 (a1+1)))],[],[],[],base⟩∧cU a1 a2 (dZ) m1=some r) aT ⟨rfl,h⟩ ?_ ?_))
  ·rintro m1 _ ⟨rfl,h⟩
   rw [cU] at h
   refine aB (srd 3 rfl [0,1,2,6,12] [] rfl (aD h rfl (fun h=>?_) (fun h=>?_)))
   ·cases h
   refine CWp.exit ?_
   unfold dZ at h
   cases h
   exact ⟨.inr rfl,rfl,rfl⟩
  rintro _ ⟨_,h⟩
  rw [cU] at h;cases h
def dP (a0:List (List UInt8)) (a1:Int) (a2:Int):Nat→Option Unit
  |0=>none
  |_m1+1=>
   bif decide ((w64 (a2-a1))≤12) then
     bO (eG a0 a1 a2) fun _v1=>
     some ()
   else none
def dX :Nat→(List (List UInt8))→Int→Int→Int→Option Unit
  |0,_,_,_,_=>none
  |_m+1,a0,a1,a2,_a3=>
   dP a0 a1 a2 aT
def kR (a0:List (List UInt8)) (a1:Int) (a2:Int) (a3:Int):Option Unit:=dX aT a0 a1 a2 a3
theorem rJ (m:Nat):∀{a0:List (List UInt8)} {a1:Int} {a2:Int} {a3:Int} {r:Unit} (_h:dX m a0 a1 a2 a3=some r),aI Tryz.prog 199 [.list false 9 (a0.map AV.str),zI a1,zI a2,zI a3] (.tuple []):=by
  induction m with
  |zero=>intro a0 a1 a2 a3 r h;rw [dX] at h;cases h
  |succ m ih=>
  intro a0 a1 a2 a3 r h
  refine aK Tryz.func199 rfl rfl rfl rfl fun base=>?_
  rw [dX] at h
  refine srd 1 rfl [0,1,2,3,8] [] rfl (srd 1 rfl [0,1,2,3,8,9] [] rfl (aF (aU (fun m1 e=>e=⟨[(0,[],.list false 9 (a0.map AV.str)),(1,[],zI a1),(2,[],zI a2),(3,[],zI a3),(8,[],zB true),(9,[],zB true)],[],[],[],base⟩∧dP a0 a1 a2 m1=some r) aT ⟨rfl,h⟩ ?_ ?_)))
  ·rintro m1 _ ⟨rfl,h⟩
   rw [dP] at h
   refine aF (srd 4 rfl [0,1,2,3,8,9,10] [] rfl (aB (srd 2 rfl [0,1,2,3,8,9,10,23] [] rfl (aD h rfl (fun h=>?_) (fun h=>?_)))))
   ·refine aB (aA (rn 3 rfl ?_))
    obtain ⟨v1,hv1,h⟩:=bI h
    refine aP Tryz.call248 (oF hv1) rfl ?_
    refine aC.done [] [] rfl ?_
    cases h;exact aJ ⟨.inl rfl,rfl,rfl⟩
   cases h
  rintro _ ⟨_,h⟩
  rw [dP] at h;cases h
theorem sE {a0:List (List UInt8)} {a1:Int} {a2:Int} {a3:Int} {r:Unit} (h:kR a0 a1 a2 a3=some r):aI Tryz.prog 199 [.list false 9 (a0.map AV.str),zI a1,zI a2,zI a3] (.tuple []):=rJ aT h
end
section
open Go.RowKit
def nQ (a0:List (List UInt8)):Option Unit:=
  bO (JK (IntKind.u64.wrap (a0.length:Int))) fun v1=>
  bO (kR a0 0 (a0.length:Int) v1) fun _v2=>
  some ()
theorem BB {a0:List (List UInt8)} {r:Unit} (h:nQ a0=some r):aI Tryz.prog 140 [.list false 9 (a0.map AV.str)] (.tuple []):=by
  refine aK Tryz.func140 rfl rfl rfl rfl fun base=>?_
  unfold nQ at h
  refine aB (aA (rh 3 [a0.length] [] rfl ⟨List.length_map ..,trivial⟩ (aC.done [0,2] [] rfl ?_)))
  refine aA (rn 4 rfl ?_)
  obtain ⟨v1,hv1,h⟩:=bI h
  refine aP Tryz.call179 (EX hv1) rfl ?_
  obtain ⟨v2,hv2,h⟩:=bI h
  refine aP Tryz.call199 (sE hv2) rfl ?_
  refine aC.done [] [] rfl ?_
  cases h
  exact ⟨.inr rfl,rfl,rfl⟩
def kU :Option ((List (List UInt8))×Bool):=
  bO (nQ ([]:List (List UInt8))) fun _v3=>
  some (([]:List (List UInt8)),true)
def kV (v1:(List SPod)×(List SPod)) (k290:Option ((List (List UInt8))×Bool)):Nat→Option ((List (List UInt8))×Bool)
  |0=>none
  |_m2+1=>
   bif decide (0<(v1.2.length:Int)) then none else
   k290
def t8 (a0:V3 Int) (a1:List SPod) (a2:SPod):Option ((List (List UInt8))×Bool):=
  bO (vP a1 a2) fun v1=>
  bO (r5 a0 v1.1) fun v2=>
  bif !v2 then none else
  kV v1 kU aT
theorem FB {a0:V3 Int} {a1:List SPod} {a2:SPod} {r:(List (List UInt8))×Bool} (h:t8 a0 a1 a2=some r):aI Tryz.prog 83 [wP a0,.list false 43 (a1.map cI),cI a2] (.tuple [.list true 9 (r.1.map AV.str),zB r.2]):=by
  refine aK Tryz.func83 rfl rfl rfl rfl fun base=>?_
  unfold t8 at h
  refine srd 4 rfl [1,3,5] [3,5] rfl (aB (aA (rn 2 rfl ?_)))
  obtain ⟨v1,hv1,h⟩:=bI h
  refine aP Tryz.call138 (GE hv1) rfl ?_
  refine rh 5 [] [14,18,19,8,9] rfl trivial (aC.done [3,8,9] [3] rfl (aB (aB (aA (rn 2 rfl ?_)))))
  obtain ⟨v2,hv2,h⟩:=bI h
  refine aP Tryz.call97 (AJ hv2) rfl ?_
  refine rn 1 rfl (aC.done [3,8,9,23] [3] rfl (aD h rfl (fun h=>?_) (fun h=>?_)))
  ·cases h
  refine aE (srd 1 rfl [3,8,9,10] [3] rfl (aS (fun e=>e=⟨[(10,[],.list true 9 (([]:List (List UInt8)).map AV.str))],[],[],[],base⟩∧kU=some r) ?_ ?_))
  ·refine aB (aA (rh 3 [v1.2.length] [] rfl ⟨List.length_map ..,trivial⟩ (aC.done [3,8,10,24,25,26] [3] rfl (aF (aU (fun m2 e=>e=⟨[(3,[],.lptr 3 0),(8,[],.list true 43 (v1.1.map cI)),(10,[],.list true 9 (([]:List (List UInt8)).map AV.str)),(24,[],.list false 43 (v1.2.map cI)),(25,[],zI (v1.2.length:Int)),(26,[],zI 0)],[],[(3,[zI a0.a,zI a0.b,zI a0.c])],[],base⟩∧kV v1 (kU) m2=some r) aT ⟨rfl,h⟩ ?_ ?_)))))
   ·rintro m2 _ ⟨rfl,h⟩
    rw [kV] at h
    refine srd 1 rfl [3,8,10,24,25,26,27] [3] rfl (aB (aD h rfl (fun h=>?_) (fun h=>?_)))
    ·cases h
    refine aR [10] [] rfl (CWp.exit ?_)
    exact ⟨rfl,h⟩
   rintro _ ⟨_,h⟩
   rw [kV] at h;cases h
  rintro _ ⟨rfl,h⟩
  unfold kU at h
  refine aB (aA (rn 1 rfl ?_))
  obtain ⟨v3,hv3,h⟩:=bI h
  refine aP Tryz.call140 (BB hv3) rfl ?_
  refine aC.done [10] [] rfl (aB (aA (rh 3 [] [47,6] rfl trivial (aC.done [6,7] [] rfl ?_))))
  cases h;exact aJ ⟨.inl rfl,rfl,rfl⟩
def lK (a0:SConfig) (a3:SPod):Option (SVerdict×Int):=
  bO (t8 a0.allocatable ([]:List SPod) a3) fun v5=>
  bif !v5.2 then none else
  bif decide ((v5.1.length:Int)>0) then none else
  some ((⟨1,0,([]:List (List UInt8))⟩:SVerdict),0)
def lL (a1:List SEntry) (k290:Option (SVerdict×Int)):Nat→Option (SVerdict×Int)
  |0=>none
  |_m2+1=>
   bif decide (0<(a1.length:Int)) then none else
   k290
def u4 (a0:SConfig) (a1:List SEntry) (a2:V3 Bool) (a3:SPod):Option (SVerdict×Int):=
  bO (rB a3) fun v2=>
  bif !v2 then none else
  bO (eZ a1 (fun u0=>sA u0 a3)) fun v3=>
  bif v3 then none else
  bif decide ((a1.length:Int)≥64) then none else
  bO (u3 a2 a3) fun v4=>
  bif v4.2 then none else
  lL a1 (lK a0 a3) aT
theorem F3 {a0:SConfig} {a1:List SEntry} {a2:V3 Bool} {a3:SPod} {r:SVerdict×Int} (h:u4 a0 a1 a2 a3=some r):aI Tryz.prog 31 [gW a0,.list false 83 (a1.map aN),xZ a2,cI a3] (.tuple [J4 r.1,zI r.2]):=by
  refine aK Tryz.func31 rfl rfl rfl rfl fun base=>?_
  unfold u4 at h
  refine aB (aA (rn 2 rfl (uV ?_)))
  rintro o1-
  refine rn 2 rfl (aC.done [1,4,6,7,8] [4,6,8] rfl (aB (aF (aB (aA (rh 1 [0] [] rfl ⟨rfl,trivial⟩ ?_))))))
  obtain ⟨v2,hv2,h⟩:=bI h
  refine aP Tryz.call80 (xE hv2) rfl ?_
  refine rn 2 rfl (aC.done [1,4,6,7,8,17] [4,6,8] rfl (aD h rfl (fun h=>?_) (fun h=>?_)))
  ·cases h
  refine aB (aA (rn 1 rfl (rd (rMk) ?_)))
  obtain ⟨v3,hv3,h⟩:=bI h
  refine bR [0] Tryz.call69 (lI ⟨Tryz.call81,fun _ _ hb=>EA hb⟩ hv3) rfl rfl ?_
  refine rn 1 rfl (aC.done [1,4,6,7,8,22] [4,6,8] rfl (aD h rfl (fun h=>?_) (fun h=>?_)))
  ·cases h
  refine aB (aA (rh 4 [a1.length] [] rfl ⟨List.length_map ..,trivial⟩ (aC.done [1,4,6,7,8,27] [4,6,8] rfl (aD h rfl (fun h=>?_) (fun h=>?_)))))
  ·cases h
  refine aE (aB (aB (aA (rh 2 [0] [] rfl ⟨rfl,trivial⟩ ?_))))
  obtain ⟨v4,hv4,h⟩:=bI h
  refine aP Tryz.call82 (F2 hv4) rfl ?_
  refine rn 5 rfl (aC.done [1,4,7,8,10,11] [4,8] rfl (srd 1 rfl [1,4,7,8,10,38] [4,8] rfl (aD h rfl (fun h=>?_) (fun h=>?_))))
  ·cases h
  refine aE (srd 1 rfl [1,4,7,8,12] [4,8] rfl (aS (fun e=>e=⟨[(4,[],.lptr 4 0),(7,[],.gptr o1 0),(8,[],.lptr 8 0),(12,[],.list true 43 (([]:List SPod).map cI))],[],[(4,[zI a0.capacity.a,zI a0.capacity.b,zI a0.capacity.c,zI a0.allocatable.a,zI a0.allocatable.b,zI a0.allocatable.c,.list false 102 (a0.thresholds.map aL),zI a0.period,zI a0.retries,zI a0.maxAge,zI a0.dead]),(8,[zI 0,zI 0,.list false 9 (([]:List (List UInt8)).map AV.str)])],[(o1,[.str a3.id,zI a3.prio,zB a3.critical,zI a3.req.a,zI a3.req.b,zI a3.req.c,zI a3.lim.a,zI a3.lim.b,zI a3.lim.c,.str a3.image,zI a3.size])],base⟩∧lK a0 a3=some r) ?_ ?_))
  ·refine aB (aA (rh 3 [a1.length] [] rfl ⟨List.length_map ..,trivial⟩ (aC.done [4,7,8,12,41,42,43] [4,8] rfl (aF (aU (fun m2 e=>e=⟨[(4,[],.lptr 4 0),(7,[],.gptr o1 0),(8,[],.lptr 8 0),(12,[],.list true 43 (([]:List SPod).map cI)),(41,[],.list false 83 (a1.map aN)),(42,[],zI (a1.length:Int)),(43,[],zI 0)],[],[(4,[zI a0.capacity.a,zI a0.capacity.b,zI a0.capacity.c,zI a0.allocatable.a,zI a0.allocatable.b,zI a0.allocatable.c,.list false 102 (a0.thresholds.map aL),zI a0.period,zI a0.retries,zI a0.maxAge,zI a0.dead]),(8,[zI 0,zI 0,.list false 9 (([]:List (List UInt8)).map AV.str)])],[(o1,[.str a3.id,zI a3.prio,zB a3.critical,zI a3.req.a,zI a3.req.b,zI a3.req.c,zI a3.lim.a,zI a3.lim.b,zI a3.lim.c,.str a3.image,zI a3.size])],base⟩∧lL a1 (lK a0 a3) m2=some r) aT ⟨rfl,h⟩ ?_ ?_)))))
   ·rintro m2 _ ⟨rfl,h⟩
    rw [lL] at h
    refine srd 1 rfl [4,7,8,12,41,42,43,44] [4,8] rfl (aB (aD h rfl (fun h=>?_) (fun h=>?_)))
    ·cases h
    refine aR [4,7,8,12] [4,8] rfl (CWp.exit ?_)
    exact ⟨rfl,h⟩
   rintro _ ⟨_,h⟩
   rw [lL] at h;cases h
  rintro _ ⟨rfl,h⟩
  unfold lK at h
  refine aB (aB (aA (rh 4 [0] [] rfl ⟨rfl,trivial⟩ ?_)))
  obtain ⟨v5,hv5,h⟩:=bI h
  refine aP Tryz.call83 (FB hv5) rfl ?_
  refine rh 5 [] [53,59,15] rfl trivial (aC.objs [] rfl ?_)
  refine aC.done [8,15,16] [8] rfl (aF (srd 3 rfl [8,15,61] [8] rfl (aD h rfl (fun h=>?_) (fun h=>?_))))
  ·cases h
  refine aB (aA (rh 4 [v5.1.length] [] rfl ⟨List.length_map ..,trivial⟩ (aC.done [8,15,65] [8] rfl (aD h rfl (fun h=>?_) (fun h=>?_)))))
  ·cases h
  refine aE (srd 3 rfl [8,9] [8] rfl ?_)
  cases h;exact aJ ⟨.inl rfl,rfl,rfl⟩
def dF (a0:List SEntry) (a1:List UInt8) (a2:SEntry→(List UInt8)→Option Int):Option (Int×Bool):=
  bif decide (0<(a0.length:Int)) then
    bO (idx a0 0) fun v1=>
    bO (a2 v1 a1) fun v2=>
    some (0,v2==0)
  else
    some (0,false)
def cM (a0:List SEntry) (a1:List UInt8) (a2:SEntry→(List UInt8)→Option Int) (k290:Option (Int×Bool)):Nat→Int→Option (Int×Bool)
  |0,_=>none
  |m2+1,x1=>
   bif decide (0<x1) then
     bO (idx a0 (w64 (lH .u64 (IntKind.u64.wrap (w64 (0+x1))) 1))) fun v2=>
     bO (a2 v2 a1) fun v3=>
     bif decide (v3<0) then none else
     (cM a0 a1 a2 k290 m2) (w64 (lH .u64 (IntKind.u64.wrap (w64 (0+x1))) 1))
   else
     k290
def fR (a0:List SEntry) (a1:List UInt8) (a2:SEntry→(List UInt8)→Option Int):Option (Int×Bool):=
  cM a0 a1 a2 (dF a0 a1 a2) aT (a0.length:Int)
theorem rD {a0:List SEntry} {a1:List UInt8} {a2:SEntry→(List UInt8)→Option Int} {r:Int×Bool} {ins:Ob} {f2:Nat} {c2:List AV} (hp2:Fn2 Tryz.prog f2 c2 ins aN AV.str zI a2) (h:fR a0 a1 a2=some r):aO Tryz.prog 141 [.list false 83 (a0.map aN),.str a1,.fn f2 c2] ins (fun v outs=>v= .tuple [zI r.1,zB r.2]∧outs=ins):=by
  refine cL Tryz.func141 rfl rfl rfl rfl fun base=>?_
  unfold fR at h
  refine srd 2 rfl [0,1,2] [] rfl (aB (aA (rh 3 [a0.length] [] rfl ⟨List.length_map ..,trivial⟩ (aC.done [0,1,2,8] [] rfl (srd 3 rfl [0,1,2,8,9,10] [] rfl (aS (fun e=>e=⟨[(0,[],.list false 83 (a0.map aN)),(1,[],.str a1),(2,[],.fn f2 c2),(8,[],zI (a0.length:Int)),(9,[],zI 0)],[],[],ins,base⟩∧dF a0 a1 a2=some r) ?_ ?_))))))
  ·refine aF (aU (fun m2 e=>∃x1,e=⟨[(0,[],.list false 83 (a0.map aN)),(1,[],.str a1),(2,[],.fn f2 c2),(8,[],zI (a0.length:Int)),(9,[],zI 0),(10,[],zI x1)],[],[],ins,base⟩∧cM a0 a1 a2 (dF a0 a1 a2) m2 x1=some r) aT ⟨_,rfl,h⟩ ?_ ?_)
   ·rintro m2 _ ⟨x1,rfl,h⟩
    rw [cM] at h
    refine aB (srd 3 rfl [0,1,2,8,9,10,17] [] rfl (aD h rfl (fun h=>?_) (fun h=>?_)))
    ·refine aE (aF (srd 7 rfl [0,1,2,8,9,10,11] [] rfl (aB (aA ?_))))
     obtain ⟨v2,hv2,h⟩:=bI h
     refine rn 3 rfl (rd (rIx hv2) ?_)
     refine rn 2 rfl ?_
     obtain ⟨v3,hv3,h⟩:=bI h
     refine n0 hp2.1 (hp2.2 _ _ _ hv3) ?_
     rintro _ _ ⟨rfl,rfl⟩
     refine rn 1 rfl (aC.done [0,1,2,8,9,10,11,31] [] rfl (aD h rfl (fun h=>?_) (fun h=>?_)))
     ·cases h
     refine aA (rn 2 rfl (aC.done [0,1,2,8,9,10] [] rfl ?_))
     exact ⟨_,rfl,h⟩
    refine aR [0,1,2,8,9] [] rfl (CWp.exit ?_)
    exact ⟨rfl,h⟩
   rintro _ ⟨_,_,h⟩
   rw [cM] at h;cases h
  rintro _ ⟨rfl,h⟩
  unfold dF at h
  refine aB (aA (rn 5 rfl (nA 39 h rfl (fun h=>?_) (fun h=>?_))))
  ·refine aC.want ?_
   refine rn 1 rfl (aC.want ?_)
   refine rn 1 rfl (aC.want ?_)
   refine rn 1 rfl (aC.want ?_)
   obtain ⟨v1,hv1,h⟩:=bI h
   refine rd (rIx hv1) ?_
   refine aC.want ?_
   refine rn 1 rfl (aC.want ?_)
   refine rn 1 rfl (aC.want ?_)
   obtain ⟨v2,hv2,h⟩:=bI h
   refine n0 hp2.1 (hp2.2 _ _ _ hv2) ?_
   rintro _ _ ⟨rfl,rfl⟩
   refine aC.want ?_
   refine rn 1 rfl (rd (fP) ?_)
   refine rn 2 rfl (aC.done [6,7] [] rfl (aJ ?_))
   cases h
   exact ⟨.inl rfl,_,rfl,rfl,rfl,rfl⟩
  refine aX ?_
  refine aX ?_
  refine aX ?_
  refine aX ?_
  refine aX ?_
  refine aX ?_
  refine aX ?_
  refine aX ?_
  refine rd (fP) ?_
  refine rn 2 rfl (aC.done [6,7] [] rfl (aJ ?_))
  cases h
  exact ⟨.inl rfl,_,rfl,rfl,rfl,rfl⟩
def y5 (a0:SEntry) (a1:List UInt8):Option Int:=
  bO (CF a0.pod.id a1) fun v1=>
  some v1
theorem JE {a0:SEntry} {a1:List UInt8} {r:Int} (h:y5 a0 a1=some r):aI Tryz.prog 142 [aN a0,.str a1] (zI r):=by
  refine aK Tryz.func142 rfl rfl rfl rfl fun base=>?_
  unfold y5 at h
  refine srd 2 rfl [1,2] [2] rfl (aB (aA (rn 4 rfl ?_)))
  obtain ⟨v1,hv1,h⟩:=bI h
  refine aP Tryz.call143 (wN hv1) rfl ?_
  refine rn 1 rfl (aC.done [4] [] rfl ?_)
  cases h;exact aJ ⟨.inl rfl,rfl,rfl⟩
def tX (a0:SState) (a1:List UInt8):Option (Int×Bool):=
  bO (fR a0.pods a1 y5) fun v1=>
  some (v1.1,v1.2)
theorem y6 {a0:SState} {a1:List UInt8} {r:Int×Bool} (h:tX a0 a1=some r):aI Tryz.prog 84 [e9 a0,.str a1] (.tuple [zI r.1,zB r.2]):=by
  refine aK Tryz.func84 rfl rfl rfl rfl fun base=>?_
  unfold tX at h
  refine srd 3 rfl [1,2] [2] rfl (aB (aA (rn 3 rfl ?_)))
  obtain ⟨v1,hv1,h⟩:=bI h
  refine bR [] Tryz.call141 (rD ⟨Tryz.call142,fun _ _ _ hb=>JE hb⟩ hv1) rfl rfl ?_
  refine rn 4 rfl (aC.done [4,5] [] rfl ?_)
  cases h;exact aJ ⟨.inl rfl,rfl,rfl⟩
def cY (a0:List SEntry):Option (List SEntry):=bM [] a0
theorem rG {a0:List SEntry} {r:List SEntry} (h:cY a0=some r):aI Tryz.prog 27 [.list false 83 (a0.map aN)] (.list true 83 (r.map aN)):=by
  refine aK Tryz.func27 rfl rfl rfl rfl fun base=>?_
  unfold cY at h
  refine srd 1 rfl [0] [] rfl (aB (aB (aA (rn 1 rfl (HN (fun b hb=>aC.done [0,4] [] rfl ?_))))))
  cases b with
  |true=>
   have ha:a0=[]:=by simpa using hb rfl
   subst ha
   cases h
   exact bD rfl (by decide) (srd 1 rfl [2] [] rfl (aJ ⟨.inl rfl,rfl,rfl⟩))
  |false=>
   refine dD rfl (by decide) (aE (aB (aA (HL ?_))))
   refine rn 1 rfl ?_
   refine iG (f:=aN) (l:=[]) h ?_
   refine rh 1 [] [2] rfl trivial (aC.done [2] [] rfl ?_)
   exact aJ ⟨.inl rfl,rfl,rfl⟩
theorem rF {a0:List SEntry} {r:List SEntry} (h:cY a0=some r):aO Tryz.prog 27 [.list false 83 (a0.map aN)] [] (fun v outs=>∃(m:Nat) (p s:Slk 12),v=hdM m p r s∧outs=[(m,lob p aN r s)]):=by
  refine a8 Tryz.func27 rfl rfl rfl rfl fun base=>?_
  unfold cY at h
  refine srd 1 rfl [0] [] rfl (aB (aB (aA (rn 1 rfl (HN (fun b hb=>aC.done [0,4] [] rfl ?_))))))
  cases b with
  |true=>
   have ha:a0=[]:=by simpa using hb rfl
   subst ha
   cases h
   refine bD rfl (by decide) (aB (aA (lJ (α:=SEntry) (sz:=12) 83 aN ?_)))
   intro m
   exact aC.done [2] [] rfl (aJ ⟨.inl rfl,_,[0],_,_,rfl,rfl,rfl,m,Slk.nil,Slk.nil,rfl,rfl⟩)
  |false=>
   refine dD rfl (by decide) (aE (aB (aA (O4 (α:=SEntry) (sz:=12) aN ?_))))
   intro m
   refine rn 1 rfl ?_
   refine pS (f:=aN) 0 (fun _=>⟨rfl,rfl,rfl⟩) h ?_
   intro m2 p2 s2
   refine rn 1 rfl (aC.done [2] [] rfl ?_)
   exact aJ ⟨.inl rfl,_,[0],_,_,rfl,rfl,rfl,m2,p2,s2,rfl,rfl⟩
def mK (a0:List SEntry) (a1:Int) (a2:Int):Option (List SEntry):=
  bO (D4 a0 a1 a2) fun _v2=>
  bif a1==a2 then none else
  bO (xV a0 a1) fun _v3=>
  bO (xV a0 a2) fun _v4=>
  bO (D4 a0 a1 a2) fun v5=>
  bO (bM a0 []) fun _v6=>
  some v5
theorem zV {a0:List SEntry} {a1:Int} {a2:Int} {m0_:Nat} {pm0_ sm0_:Slk 12} {r:List SEntry} (h:mK a0 a1 a2=some r):aO Tryz.prog 85 [hdM m0_ pm0_ a0 sm0_,zI a1,zI a2] [(m0_,lob pm0_ aN a0 sm0_)] (fun v outs=>∃(h0_:Nat) (ph0_ sh0_:Slk 12),v=hdM h0_ ph0_ r sh0_∧outs=[(h0_,lob ph0_ aN r sh0_)]):=by
  refine a8 Tryz.func85 rfl rfl rfl rfl fun base=>?_
  unfold mK at h
  refine aB (aA (lJ (α:=SEntry) (sz:=12) 83 aN ?_))
  rintro m1
  refine aC.objs [1] rfl ?_
  refine aC.done [0,1,2] [] rfl (aB (aA (rn 4 rfl (rd (AN) ?_))))
  obtain ⟨v2,hv2,h⟩:=bI h
  refine rd (XS hv2) ?_
  refine aC.done [0,1,2] [] rfl (aB (srd 3 rfl [0,1,2,16] [] rfl (aD h rfl (fun h=>?_) (fun h=>?_))))
  ·cases h
  refine aE (aB (aA (rn 1 rfl (rd (AN) ?_))))
  refine rn 1 rfl (aC.done [0,1,2,7] [] rfl (aB (b8 6 (by kernel_rfl) ?_)))
  refine cfq rfl rfl (fun _ _ _=>rfl) ?_
  refine cfq rfl rfl (fun _ _ _=>rfl) ?_
  obtain ⟨v3,hv3,h⟩:=bI h
  refine cf1 (d:=22) (v:=hdM m0_ pm0_ (List.take (Int.toNat a1) a0) (C0 (f:=aN) (fun _=>⟨rfl,rfl,rfl⟩) (List.drop (Int.toNat a1) a0) sm0_)) rfl [(20,[],_),(21,[],_)] [] ⟨rfl,rfl,trivial⟩ trivial (fun fr X O hf=>?_) ?_
  ·refine rd (XU (f:=aN) (fun _=>⟨rfl,rfl,rfl⟩) hv3) ?_
   exact aW rfl
  refine cfq rfl rfl (fun _ _ _=>rfl) ?_
  refine cfq rfl rfl (fun _ _ _=>rfl) ?_
  obtain ⟨v4,hv4,h⟩:=bI h
  refine cf1 (d:=25) (v:=hdM m0_ (HB (f:=aN) (fun _=>⟨rfl,rfl,rfl⟩) pm0_ (List.take (Int.toNat a2) a0)) (List.drop (Int.toNat a2) a0) sm0_) rfl [(23,[],_),(24,[],_)] [] ⟨rfl,rfl,trivial⟩ trivial (fun fr X O hf=>?_) ?_
  ·refine rd (Q4 (f:=aN) (fun _=>⟨rfl,rfl,rfl⟩) hv4) ?_
   exact aW rfl
  refine b6.nil ⟨by kernel_rfl,?_⟩
  obtain ⟨v5,hv5,h⟩:=bI h
  obtain ⟨v6,hv6,h⟩:=bI h
  refine UY (f:=aN) (pl:=pm0_) (sl:=sm0_) (i1:=a1) (j1:=a2) 0 (fun _=>⟨rfl,rfl,rfl⟩) hv5 (by rw [hv6];rfl) ?_
  rintro s7 hs7
  refine rn 1 rfl (aC.done [0,7] [] rfl (aB (aA (rn 2 rfl (rd (AN) ?_)))))
  refine rn 1 rfl (rd (XT (xs:=v5) (sl:=s7) (pl:=pm0_) (j:=(a0.length:Int)) (by have:=MB hv5;omega)) ?_)
  refine WW (f:=aN) (sl:=s7) (k:=Int.toNat (a0.length:Int)-v5.length) 0 (fun _=>⟨rfl,rfl,rfl⟩) (by have:=MB hv5;omega) ?_
  rintro s8 hs8
  refine cRe [0,27,28] [] (show hdM m0_ pm0_ v5 s7=hdM m0_ pm0_ v5 s8 from by simp only [hdM,hs8]) ?_ ⟨rfl,rfl,rfl,trivial⟩ trivial
  refine aC.done [0] [] rfl (srd 2 rfl [6] [] rfl (aJ ?_))
  cases h
  exact ⟨.inl rfl,_,[0],_,_,rfl,rfl,rfl,m0_,pm0_,s8,rfl,rfl⟩
def tW (a0:SState) (a1:List UInt8):Option SState:=
  bO (tX a0 a1) fun v1=>
  bO (cY a0.pods) fun v2=>
  bif v1.2 then
    bO (mK v2 v1.1 (w64 (v1.1+1))) fun v4=>
    some (⟨a0.round,v4,a0.on⟩:SState)
  else none
theorem E8 {a0:SState} {a1:List UInt8} {r:SState} (h:tW a0 a1=some r):aI Tryz.prog 32 [e9 a0,.str a1] (e9 r):=by
  refine aK Tryz.func32 rfl rfl rfl rfl fun base=>?_
  unfold tW at h
  refine srd 2 rfl [1,2,4] [2,4] rfl (aB (aA (rn 2 rfl ?_)))
  obtain ⟨v1,hv1,h⟩:=bI h
  refine aP Tryz.call84 (y6 hv1) rfl ?_
  refine rn 5 rfl (aC.done [2,4,5,6] [2,4] rfl (aB (aA (rn 2 rfl ?_))))
  obtain ⟨v2,hv2,h⟩:=bI h
  refine bL [] Tryz.call27 (rF hv2) rfl rfl ?_
  rintro _ _ ⟨m3,pm3,sm3,rfl,rfl⟩
  refine rn 2 rfl (aC.done [2,4,5,6] [2,4] rfl (aB (srd 1 rfl [2,4,5,17] [2,4] rfl (aD h rfl (fun h=>?_) (fun h=>?_)))))
  ·refine aA (rn 5 rfl ?_)
   obtain ⟨v4,hv4,h⟩:=bI h
   refine bL [0] Tryz.call85 (zV hv4) rfl rfl ?_
   rintro _ _ ⟨m5,pm5,sm5,rfl,rfl⟩
   refine rn 2 rfl (aC.done [2,4] [2,4] rfl (srd 2 rfl [4] [4] rfl (k7 (f:=aN) (E:=83) 0 [] [(4,1)] (fun _=>⟨rfl,rfl,rfl⟩) ?_ (h1:=trivial) (h2:=⟨⟨_,rfl,rfl⟩,trivial⟩))))
   cases h;exact aJ ⟨.inl rfl,rfl,rfl⟩
  cases h
def mL (a0:List SEntry) (a1:Int) (a2:List SEntry):Option (List SEntry):=
  bO (xV a0 a1) fun _v2=>
  bif (a2.length:Int)==0 then none else
  bif a1==(a0.length:Int) then
    bO (bM a0 a2) fun v3=>
    some v3
  else none
theorem zW {a0:List SEntry} {a1:Int} {a2:List SEntry} {m0_:Nat} {pm0_ sm0_:Slk 12} {r:List SEntry} (h:mL a0 a1 a2=some r):aO Tryz.prog 86 [hdM m0_ pm0_ a0 sm0_,zI a1,.list false 83 (a2.map aN)] [(m0_,lob pm0_ aN a0 sm0_)] (fun v outs=>∃(h0_:Nat) (ph0_ sh0_:Slk 12),v=hdM h0_ ph0_ r sh0_∧outs=[(h0_,lob ph0_ aN r sh0_)]):=by
  refine a8 Tryz.func86 rfl rfl rfl rfl fun base=>?_
  unfold mL at h
  refine aB (aA (lJ (α:=SEntry) (sz:=12) 83 aN ?_))
  rintro m1
  refine aC.objs [1] rfl ?_
  refine aC.done [0,1,2] [] rfl (aB (aA ?_))
  obtain ⟨v2,hv2,h⟩:=bI h
  refine rn 2 rfl (rd (Q4 (f:=aN) (fun _=>⟨rfl,rfl,rfl⟩) hv2) ?_)
  refine aC.done [0,1,2] [] rfl (aB (aA (rh 3 [a2.length] [] rfl ⟨List.length_map ..,trivial⟩ (aC.done [0,1,2,7] [] rfl (aB (srd 2 rfl [0,1,2,7,16] [] rfl (aD h rfl (fun h=>?_) (fun h=>?_))))))))
  ·cases h
  refine aE (aB (aA (rn 1 rfl (rd (AN) ?_))))
  refine rn 1 rfl (aC.done [0,1,2,7,8] [] rfl (aB (srd 3 rfl [0,1,2,7,8,22] [] rfl (aD h rfl (fun h=>?_) (fun h=>?_)))))
  ·refine aB (aA ?_)
   obtain ⟨v3,hv3,h⟩:=bI h
   refine rn 2 rfl (pS (f:=aN) 0 (fun _=>⟨rfl,rfl,rfl⟩) hv3 ?_)
   rintro m4 pm4 sm4
   refine rn 1 rfl (aC.done [6] [] rfl (aJ ?_))
   cases h
   exact ⟨.inl rfl,_,[0],_,_,rfl,rfl,rfl,m4,pm4,sm4,rfl,rfl⟩
  cases h
def pC (a0:SState) (a1:SEntry):Option SState:=
  bO (tX a0 a1.pod.id) fun v1=>
  bO (cY a0.pods) fun v2=>
  bif v1.2 then
    bO (idx v2 v1.1) fun _v4=>
    some (⟨a0.round,List.set v2 (Int.toNat v1.1) a1,a0.on⟩:SState)
  else
    bO (mL v2 v1.1 [a1]) fun v5=>
    some (⟨a0.round,v5,a0.on⟩:SState)
theorem vL {a0:SState} {a1:SEntry} {r:SState} (h:pC a0 a1=some r):aI Tryz.prog 33 [e9 a0,aN a1] (e9 r):=by
  refine aK Tryz.func33 rfl rfl rfl rfl fun base=>?_
  unfold pC at h
  refine srd 3 rfl [2,3,4] [2,3,4] rfl (aB (aA (rn 4 rfl ?_)))
  obtain ⟨v1,hv1,h⟩:=bI h
  refine aP Tryz.call84 (y6 hv1) rfl ?_
  refine rn 5 rfl (aC.done [2,3,4,5,6] [2,3,4] rfl (aB (aA (rn 2 rfl ?_))))
  obtain ⟨v2,hv2,h⟩:=bI h
  refine bL [] Tryz.call27 (rF hv2) rfl rfl ?_
  rintro _ _ ⟨m3,pm3,sm3,rfl,rfl⟩
  refine rn 2 rfl (aC.done [2,3,4,5,6] [2,3,4] rfl (aB (srd 1 rfl [2,3,4,5,19] [2,3,4] rfl (aD h rfl (fun h=>?_) (fun h=>?_)))))
  ·refine aA ?_
   obtain ⟨v4,hv4,h⟩:=bI h
   refine rn 4 rfl (rd (BI hv4) ?_)
   refine CD (f:=aN) (off:=0) 0 (fun _=>⟨rfl,rfl,rfl⟩) hv4 a1 ?_
   refine cRe [21] [(2,1)] (show hdM m3 pm3 v2 sm3=hdM m3 pm3 (List.set v2 (Int.toNat v1.1) a1) sm3 from vT) ?_ ⟨rfl,trivial⟩ ⟨⟨_,rfl,rfl⟩,trivial⟩
   refine aC.done [2,4] [2,4] rfl (srd 2 rfl [4] [4] rfl (k7 (f:=aN) (E:=83) 0 [] [(4,1)] (fun _=>⟨rfl,rfl,rfl⟩) ?_ (h1:=trivial) (h2:=⟨⟨_,rfl,rfl⟩,trivial⟩)))
   cases h;exact aJ ⟨.inl rfl,rfl,rfl⟩
  refine aA (rn 5 rfl ?_)
  obtain ⟨v5,hv5,h⟩:=bI h
  refine bL [0] Tryz.call86 (zW hv5) rfl rfl ?_
  rintro _ _ ⟨m6,pm6,sm6,rfl,rfl⟩
  refine rn 2 rfl (aC.done [2,4] [2,4] rfl (srd 2 rfl [4] [4] rfl (k7 (f:=aN) (E:=83) 0 [] [(4,1)] (fun _=>⟨rfl,rfl,rfl⟩) ?_ (h1:=trivial) (h2:=⟨⟨_,rfl,rfl⟩,trivial⟩))))
  cases h;exact aJ ⟨.inl rfl,rfl,rfl⟩
def mF (a0:SPod) (x4:List UInt8) (_x5:Int):Option ((List UInt8)×Int):=
  bif a0.critical then none else
  bO (bM x4 [0]) fun v6=>
  some (v6,0)
def tP (x8:Int) (x9:Int) (q3:Int→Int→(List UInt8)→Option ((List UInt8)×Int)) (x11:List UInt8):Option ((List UInt8)×Int):=
  q3 x8 (w64 (x9+1)) x11
def o9 (a0:SPod) (x8:Int) (v12:Nat) (k590:(List UInt8)→Option ((List UInt8)×Int)):Nat→(List UInt8)→Int→Option ((List UInt8)×Int)
  |0,_,_=>none
  |m5+1,x13,x14=>
   bif decide (x14≥0) then
     bO (IW (⟨a0.id,x8,a0.critical,a0.req,a0.lim,a0.image,a0.size⟩:SPod) v12) fun v15=>
     bO (shO false .i64 v15 x14) fun v16=>
     bO (bM x13 [u8 v16]) fun v17=>
     (o9 a0 x8 v12 k590 m5) v17 (w64 (x14-8))
   else
     k590 x13
def jX (a0:SPod) (v7:List Nat) (k390:(List UInt8)→Int→Option ((List UInt8)×Int)):Nat→Int→Int→(List UInt8)→Option ((List UInt8)×Int)
  |0,_,_,_=>none
  |m3+1,x8,x9,x10=>
   bif decide (x9<(v7.length:Int)) then
     bO (idx v7 x9) fun v12=>
     o9 a0 x8 v12 (tP x8 x9 (jX a0 v7 k390 m3)) aT x10 56
   else
     k390 x10 x8
def tO (a0:SPod) (x3:List UInt8):Option ((List UInt8)×Int):=
  bO (xF (⟨a0.id,w64 (a0.prio+1073741824),a0.critical,a0.req,a0.lim,a0.image,a0.size⟩:SPod)) fun v7=>
  jX a0 v7 (mF a0) aT (w64 (a0.prio+1073741824)) 0 x3
def pA (a0:SPod) (k690:(List UInt8)→Option ((List UInt8)×Int)):Nat→Int→(List UInt8)→Option ((List UInt8)×Int)
  |0,_,_=>none
  |m6+1,x18,x19=>
   bif decide (x18<([a0.id,a0.image].length:Int)) then
     bO (idx [a0.id,a0.image] x18) fun v20=>
     bO (bM x19 [u8 (v20.length:Int)]) fun v21=>
     bO (bM v21 v20) fun v22=>
     (pA a0 k690 m6) (w64 (x18+1)) v22
   else
     k690 x19
def ED (a0:SPod):Option ((List UInt8)×Int):=
  bO (rB a0) fun v2=>
  bif !v2 then none else
  pA a0 (tO a0) aT 0 ([]:List UInt8)
theorem OL {a0:SPod} {r:(List UInt8)×Int} (h:ED a0=some r):aI Tryz.prog 132 [cI a0] (.tuple [.list true 5 (r.1.map zU8),zI r.2]):=by
  refine aK Tryz.func132 rfl rfl rfl rfl fun base=>?_
  unfold ED at h
  refine aB (aA (uV ?_))
  rintro o1-
  refine rn 2 rfl (aC.done [1] [] rfl (aB (aB (aA (rh 1 [0] [] rfl ⟨rfl,trivial⟩ ?_)))))
  obtain ⟨v2,hv2,h⟩:=bI h
  refine aP Tryz.call80 (xE hv2) rfl ?_
  refine rn 1 rfl (aC.done [1,12] [] rfl (aD h rfl (fun h=>?_) (fun h=>?_)))
  ·cases h
  refine aE (srd 1 rfl [1,4] [] rfl (aS (fun e=>∃x3,e=⟨[(1,[],.gptr o1 0),(4,[],.list true 5 (x3.map zU8))],[],[],[(o1,[.str a0.id,zI a0.prio,zB a0.critical,zI a0.req.a,zI a0.req.b,zI a0.req.c,zI a0.lim.a,zI a0.lim.b,zI a0.lim.c,.str a0.image,zI a0.size])],base⟩∧tO a0 x3=some r) ?_ ?_))
  ·refine aB (aA (rh 7 [0,0,[a0.id,a0.image].length] [] rfl ⟨rfl,rfl,rfl,trivial⟩ (aC.done [1,4,17,18,19] [] rfl (aF (aU (fun m6 e=>∃x18 x19,e=⟨[(1,[],.gptr o1 0),(4,[],.list true 5 (x19.map zU8)),(17,[],.list true 9 ([a0.id,a0.image].map AV.str)),(18,[],zI ([a0.id,a0.image].length:Int)),(19,[],zI x18)],[],[],[(o1,[.str a0.id,zI a0.prio,zB a0.critical,zI a0.req.a,zI a0.req.b,zI a0.req.c,zI a0.lim.a,zI a0.lim.b,zI a0.lim.c,.str a0.image,zI a0.size])],base⟩∧pA a0 (tO a0) m6 x18 x19=some r) aT ⟨_,_,rfl,h⟩ ?_ ?_)))))
   ·rintro m6 _ ⟨x18,x19,rfl,h⟩
    rw [pA] at h
    refine srd 1 rfl [1,4,17,18,19,20] [] rfl (aB (aD h rfl (fun h=>?_) (fun h=>?_)))
    ·refine aE (aB (aF (aB (aA ?_))))
     obtain ⟨v20,hv20,h⟩:=bI h
     refine rd (rIx hv20) ?_
     refine rn 2 rfl (aC.done [1,4,6,17,18,19] [] rfl ?_)
     refine aA (rh 4 [] [23] rfl trivial (cU8 26 ?_))
     obtain ⟨v21,hv21,h⟩:=bI h
     refine rn 1 rfl (iG (f:=zU8) hv21 ?_)
     obtain ⟨v22,hv22,h⟩:=bI h
     refine rn 1 rfl (WV hv22 ?_)
     refine rh 1 [] [4] rfl trivial (aC.done [1,4,17,18,19] [] rfl ?_)
     refine aA (rn 2 rfl (aC.done [1,4,17,18,19] [] rfl ?_))
     exact ⟨_,_,rfl,h⟩
    refine aR [1,4] [] rfl (CWp.exit ?_)
    exact ⟨_,rfl,h⟩
   rintro _ ⟨_,_,_,h⟩
   rw [pA] at h;cases h
  rintro _ ⟨x3,rfl,h⟩
  unfold tO at h
  refine aB (aA (rh 5 [0,0] [] rfl ⟨rfl,rfl,trivial⟩ (aC.done [1,4] [] rfl (aS (fun e=>∃x4 x5,e=⟨[(1,[],.gptr o1 0),(4,[],.list true 5 (x4.map zU8))],[],[],[(o1,[.str a0.id,zI x5,zB a0.critical,zI a0.req.a,zI a0.req.b,zI a0.req.c,zI a0.lim.a,zI a0.lim.b,zI a0.lim.c,.str a0.image,zI a0.size])],base⟩∧mF a0 x4 x5=some r) ?_ ?_))))
  ·refine aB (aA ?_)
   obtain ⟨v7,hv7,h⟩:=bI h
   refine bR [0] Tryz.call188 (HT hv7) rfl rfl ?_
   refine rh 2 [v7.length] [] rfl ⟨List.length_map ..,trivial⟩ (aC.done [1,4,36,37,38] [] rfl (aF (aU (fun m3 e=>∃x8 x9 x10,e=⟨[(1,[],.gptr o1 0),(4,[],.list true 5 (x10.map zU8)),(36,[],.list false 262 (v7.map fun k=> .gptr o1 k)),(37,[],zI (v7.length:Int)),(38,[],zI x9)],[],[],[(o1,[.str a0.id,zI x8,zB a0.critical,zI a0.req.a,zI a0.req.b,zI a0.req.c,zI a0.lim.a,zI a0.lim.b,zI a0.lim.c,.str a0.image,zI a0.size])],base⟩∧jX a0 v7 (mF a0) m3 x8 x9 x10=some r) aT ⟨_,_,_,rfl,h⟩ ?_ ?_)))
   ·rintro m3 _ ⟨x8,x9,x10,rfl,h⟩
    rw [jX] at h
    refine srd 1 rfl [1,4,36,37,38,39] [] rfl (aB (aD h rfl (fun h=>?_) (fun h=>?_)))
    ·refine aE (aS (fun e=>∃x11,e=⟨[(1,[],.gptr o1 0),(4,[],.list true 5 (x11.map zU8)),(36,[],.list false 262 (v7.map fun k=> .gptr o1 k)),(37,[],zI (v7.length:Int)),(38,[],zI x9)],[],[],[(o1,[.str a0.id,zI x8,zB a0.critical,zI a0.req.a,zI a0.req.b,zI a0.req.c,zI a0.lim.a,zI a0.lim.b,zI a0.lim.c,.str a0.image,zI a0.size])],base⟩∧tP x8 x9 (jX a0 v7 (mF a0) m3) x11=some r) ?_ ?_)
     ·refine aF (aB (aA ?_))
      obtain ⟨v12,hv12,h⟩:=bI h
      refine rd (rIx (f:=(fun k=> .gptr o1 k)) hv12) ?_
      refine rn 2 rfl (aC.done [1,4,8,36,37,38] [] rfl (srd 1 rfl [1,4,8,9,36,37,38] [] rfl (aF (aU (fun m5 e=>∃x13 x14,e=⟨[(1,[],.gptr o1 0),(4,[],.list true 5 (x13.map zU8)),(8,[],.gptr o1 v12),(9,[],zI x14),(36,[],.list false 262 (v7.map fun k=> .gptr o1 k)),(37,[],zI (v7.length:Int)),(38,[],zI x9)],[],[],[(o1,[.str a0.id,zI x8,zB a0.critical,zI a0.req.a,zI a0.req.b,zI a0.req.c,zI a0.lim.a,zI a0.lim.b,zI a0.lim.c,.str a0.image,zI a0.size])],base⟩∧o9 a0 x8 v12 (tP x8 x9 (jX a0 v7 (mF a0) m3)) m5 x13 x14=some r) aT ⟨_,_,rfl,h⟩ ?_ ?_))))
      ·rintro m5 _ ⟨x13,x14,rfl,h⟩
       rw [o9] at h
       refine aB (srd 2 rfl [1,4,8,9,36,37,38,43] [] rfl (aD h rfl (fun h=>?_) (fun h=>?_)))
       ·refine aE (aB (aF ?_))
        refine aA ?_
        obtain ⟨v15,hv15,h⟩:=bI h
        refine rh 3 [] [46] rfl trivial (XC 0 (QO hv15) ?_)
        obtain ⟨v16,hv16,h⟩:=bI h
        refine rn 1 rfl (rd (rSh hv16) ?_)
        refine rn 1 rfl (cU8 52 ?_)
        obtain ⟨v17,hv17,h⟩:=bI h
        refine rn 1 rfl (iG (f:=zU8) hv17 ?_)
        refine rh 1 [] [4] rfl trivial (aC.done [1,4,8,9,36,37,38] [] rfl ?_)
        refine aA (rn 3 rfl (aC.done [1,4,8,9,36,37,38] [] rfl ?_))
        exact ⟨_,_,rfl,h⟩
       refine aR [1,4,36,37,38] [] rfl (CWp.exit ?_)
       exact ⟨_,rfl,h⟩
      rintro _ ⟨_,_,_,h⟩
      rw [o9] at h;cases h
     rintro _ ⟨x11,rfl,h⟩
     unfold tP at h
     refine aA (rn 2 rfl (aC.done [1,4,36,37,38] [] rfl ?_))
     exact ⟨_,_,_,rfl,h⟩
    refine aR [1,4] [] rfl (CWp.exit ?_)
    exact ⟨_,_,rfl,h⟩
   rintro _ ⟨_,_,_,_,h⟩
   rw [jX] at h;cases h
  rintro _ ⟨x4,x5,rfl,h⟩
  unfold mF at h
  refine aB (aB (aA (rh 2 [0] [] rfl ⟨rfl,trivial⟩ (aC.objs [] rfl ?_))))
  refine aC.done [4,57] [] rfl (aD h rfl (fun h=>?_) (fun h=>?_))
  ·cases h
  refine aE (aB (aA ?_))
  obtain ⟨v6,hv6,h⟩:=bI h
  refine rh 2 [] [61] rfl trivial (iG (f:=zU8) hv6 ?_)
  refine rh 2 [] [2] rfl trivial (aC.done [2,3] [] rfl ?_)
  cases h;exact aJ ⟨.inl rfl,rfl,rfl⟩
end
end Go.Proofs.YtoolgdcjfkjlnaaGreatDoor
